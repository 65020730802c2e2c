import Derived.Test.YthkajgkagnenbaaGreatDoorEngRange
import Derived.Laws.StructEq
import Derived.Test.YthkajgkagnenbaaGreatDoorEngDraw
set_option linter.unusedVariables false
set_option linter.unusedSimpArgs false
set_option linter.unusedSectionVars false
namespace Go.Proofs.YthkajgkagnenbaaGreatDoor
section
namespace Eng
open Go.RowKit
section
variable {P:Program} {t:TypeId} (w:World)
theorem BZ {x y:Value} {b:Bool} (h:∀ d,(Op.equalIn (d+1) t x y).run P w=.ok b w):(Op.equal t x y).run P w=.ok b w:=h 9999
theorem F8 (hu:P.underlying t=some .bool) {a b:Bool}:(binOp .eql t (.bool a) (.bool b)).run P w=.ok (.bool (a == b)) w:=by
 have:=BZ (P:=P) (t:=t) w (x:=.bool a) (y:=.bool b) (b:=a == b) (fun d=>by simp[Op.equalIn,run_underlying hu,Result.andThen])
 simp[binOp,this,Result.andThen]
theorem JM {e:TypeId} (hu:P.underlying t=some (.pointer e)) {a:Option Addr}:(Op.equal t (.pointer a) (.pointer none)).run P w=.ok a.isNone w:=
 BZ w (fun d=>by cases a <;> simp[Op.equalIn,run_underlying hu,Result.andThen])
theorem mh {e:TypeId} (hu:P.underlying t=some (.pointer e)) {a:Option Addr}:(binOp .eql t (.pointer a) (.pointer none)).run P w=.ok (.bool a.isNone) w:=by
 simp[binOp,JM w hu,Result.andThen]
def jL (P:Program):List Field->Nat->List Value->Bool
 | [],_,[]=>true
 | f :: fs, n, x :: xs => Nat.beq f.offset n && !(f.name == "_") && (match P.underlying f.type, x with
  | some (.int k),.int k' _=>k == k'
  | some .bool,.bool _=>true
  | some .string,.string _=>true
  | _,_=>false) && jL P fs (n+1) xs
 | _,_,_=>false
theorem bytes_beq (a b:ByteArray):(a == b)=true↔a=b:=by
 cases a with | mk a=>cases b with | mk b=>
 have h:((ByteArray.mk a) == (ByteArray.mk b))=(a == b):=rfl
 rw[h];simp
theorem rS (d:Nat):∀(fs:List Field) (n:Nat) (pre pre' xs ys:List Value),jL P fs n xs=true->jL P fs n ys=true->pre.length=n->pre'.length=n->
  ∃ r:Bool,(Op.eqFields (d+1) (pre ++ xs).toArray (pre' ++ ys).toArray fs).run P w=.ok r w/\(r=true↔xs=ys)
 | [],n,pre,pre',xs,ys,hx,hy,_,_=>by
  cases xs with
  | cons _ _=>simp[jL] at hx
  | nil=>
   cases ys with
   | cons _ _=>simp[jL] at hy
   | nil=>exact⟨true,by simp[Op.eqFields],by simp⟩
 | f::fs,n,pre,pre',xs,ys,hx,hy,hp,hp'=>by
  cases xs with
  | nil=>simp[jL] at hx
  | cons x xs=>
   cases ys with
   | nil=>simp[jL] at hy
   | cons y ys=>
    simp only[jL,Bool.and_eq_true] at hx hy
    obtain⟨⟨⟨h1,h2⟩,h3⟩,h4⟩:=hx
    obtain⟨⟨_,k3⟩,k4⟩:=hy
    have ho:f.offset=n:=Nat.eq_of_beq_eq_true h1
    have hname : f.name ≠ "_" := by simpa using h2
    obtain⟨r',hr',hiff'⟩:=rS d fs (n+1) (pre ++ [x]) (pre' ++ [y]) xs ys h4 k4 (by simp[hp]) (by simp[hp'])
    simp only[List.append_assoc,List.singleton_append] at hr'
    have gx:(pre ++ x::xs).toArray[f.offset]?=some x:=by rw[ho,<- hp];simp
    have gy:(pre' ++ y::ys).toArray[f.offset]?=some y:=by rw[ho,<- hp'];simp
    have done:∀ r:Bool,(isAgg f.type).run P w=.ok false w->(Op.equalIn (d+1) f.type x y).run P w=.ok r w->(r=true↔x=y)->
      ∃ r:Bool,(Op.eqFields (d+1) (pre ++ x::xs).toArray (pre' ++ y::ys).toArray (f::fs)).run P w=.ok r w/\(r=true↔x::xs=y::ys):=fun r ha he hiff=>by
     have px:(part f.type (pre ++ x::xs).toArray f.offset).run P w=.ok x w:=by unfold part;simp only[Sem.run_bind,ha,Result.andThen,Bool.false_eq_true,if_false,gx,Sem.run_pure]
     have py:(part f.type (pre' ++ y::ys).toArray f.offset).run P w=.ok y w:=by unfold part;simp only[Sem.run_bind,ha,Result.andThen,Bool.false_eq_true,if_false,gy,Sem.run_pure]
     simp only[Op.eqFields,hname,ne_eq,not_false_eq_true,if_true,Sem.run_bind,px,py,he,Result.andThen]
     cases r
     ·exact⟨false,by simp,by simp;intro e;exact absurd (hiff.2 e) (by simp)⟩
     refine⟨r',by simpa using hr',?_⟩
     rw[hiff']
     simp[hiff.1 rfl]
    split at h3
    ·next k k' a hu=>
     rw[hu] at k3
     cases y <;> simp at k3 h3
     next k'' b=>
      subst h3;subst k3
      refine done (decide (a=b)) (by simp[isAgg,run_underlying hu,Result.andThen]) ?_ (by simp)
      simp[Op.equalIn,run_underlying hu,Result.andThen]
      by_cases q:a=b <;> simp[q]
    ·next a hu=>
     rw[hu] at k3
     cases y <;> simp at k3
     next b=>
      refine done (a == b) (by simp[isAgg,run_underlying hu,Result.andThen]) ?_ (by simp)
      simp[Op.equalIn,run_underlying hu,Result.andThen]
    ·next a hu=>
     rw[hu] at k3
     cases y <;> simp at k3
     next b=>
      refine done (a == b) (by simp[isAgg,run_underlying hu,Result.andThen]) ?_ (by rw[bytes_beq];simp)
      simp[Op.equalIn,run_underlying hu,Result.andThen]
    cases h3
open Classical in
theorem x9 {fs:Array Field} (hu:P.underlying t=some (.struct fs)) (hst:P.stoodInHeld t=false) {xs ys:List Value} (hx:jL P fs.toList 0 xs=true) (hy:jL P fs.toList 0 ys=true):
  (Op.equal t (.agg xs.toArray) (.agg ys.toArray)).run P w=.ok (decide (xs=ys)) w:=by
 have hfs:P.fieldsOf t=fs:=by simp[Program.fieldsOf,hu]
 obtain⟨r,hr,hiff⟩:=rS (P:=P) w 9998 fs.toList 0 [] [] xs ys hx hy rfl rfl
 have:=run_equalIn_struct (P:=P) w 9999 t xs.toArray ys.toArray (by rw[hfs];exact hu) hst
 show(Op.equalIn (9999+1) t _ _).run P w=_
 rw[this,hfs]
 simp only[List.nil_append] at hr
 rw[hr]
 congr 1
 by_cases q:xs=ys
 ·rw[decide_eq_true q];exact hiff.2 q
 rw[decide_eq_false q];cases r with
 | false=>rfl
 | true=>exact absurd (hiff.1 rfl) q
open Classical in
theorem r9 {fs:Array Field} (hu:P.underlying t=some (.struct fs)) (hst:P.stoodInHeld t=false) {xs ys:List Value} (hx:jL P fs.toList 0 xs=true) (hy:jL P fs.toList 0 ys=true):
  (binOp .eql t (.agg xs.toArray) (.agg ys.toArray)).run P w=.ok (.bool (decide (xs=ys))) w:=by
 simp[binOp,x9 w hu hst hx hy,Result.andThen]
open Classical in
theorem kB {fs:Array Field} (hu:P.underlying t=some (.struct fs)) (hst:P.stoodInHeld t=false) {xs ys:List Value} (hx:jL P fs.toList 0 xs=true) (hy:jL P fs.toList 0 ys=true):
  (binOp .neq t (.agg xs.toArray) (.agg ys.toArray)).run P w=.ok (.bool (decide (¬ xs=ys))) w:=by
 simp[binOp,x9 w hu hst hx hy,Result.andThen]
theorem mJ {op:BinOp} {x y:Operand} {xs ys:Array Value} (h:P.eqGuardType P.depth t=false):(eqGuard op t x y (.agg xs) (.agg ys)).run P w=.ok () w:=by
 unfold eqGuard
 cases op <;> simp[Result.andThen,h]
end
section
variable {c:Cx} {fin:Exit->Act->World->Prop} {ds:List Deferred} {E:Env} {L:List HP} {ks:List KI} {ops:Array Oper} {rest:List Oper}
variable {d:Option Tmp} {ty:TypeId} {pos:String} {af:Array Edge}
def placesOf (t:TypeId):Sem (Array (Nat×Nat)):=do
 match <- underlying t with
 | .struct fields=>fields.mapM fun f=>do pure (f.offset,<- sizeOf f.type)
 | _ => stuck "no struct"
inductive ba:List (Nat×Nat)->Nat->Nat->Nat->Prop
 | here {o n:Nat} {l:List (Nat×Nat)}:ba ((o,n)::l) 0 o n
 | there {x:Nat×Nat} {i o n:Nat} {l:List (Nat×Nat)}:ba l i o n->ba (x::l) (i+1) o n
theorem ba.eq {l:List (Nat×Nat)} {i o n:Nat} (h:ba l i o n):l.toArray[i]?=some (o,n):=by
 have:l[i]?=some (o,n):=by
  induction h with
  | here=>rfl
  | there _ ih=>simpa using ih
 simpa using this
inductive aP (pl:List (Nat×Nat)):List Value->List (Nat×Value)->List Value->Prop
 | nil {cs:List Value}:aP pl cs [] cs
 | one {cs cs1 cs2:List Value} {i o:Nat} {v:Value} {r:List (Nat×Value)}:ba pl i o 1->v.oneCell'=true->gR cs o v cs1->aP pl cs1 r cs2->aP pl cs ((i,v)::r) cs2
 | all {cs cs1 cs2 us:List Value} {i o n:Nat} {r:List (Nat×Value)}:ba pl i o n->us.length=n->us≠[]->gS cs o us cs1->aP pl cs1 r cs2->aP pl cs ((i,.agg us.toArray)::r) cs2
theorem mw {b:Nat}:∀(us:List Value) (k o:Nat) (cs:Array Value),(us.zipIdx k).foldl (fun(cs:Array Value) (p:Value×Nat)=>cs.setIfInBounds (o+p.2) p.1) cs=setCells cs (o+k) us
 | [],_,_,_=>rfl
 | u::r,k,o,cs=>by
  simp only[List.zipIdx_cons,List.foldl_cons,setCells]
  rw[mw (b:=b) r (k+1) o,Nat.add_assoc]
theorem gS.len {l l' vs:List Value} {o:Nat} (h:gS l o vs l'):l'.length=l.length:=by
 induction h with
 | nil=>rfl
 | cons h1 _ ih=>rw[ih,h1.eq.2.2]
theorem aP.eq {pl:List (Nat×Nat)} {cs cs':List Value} {ps:List (Nat×Value)} (h:aP pl cs ps cs'):Instr.fill (pl.toArray[·]?) cs.toArray ps=some cs'.toArray:=by
 induction h with
 | nil=>rfl
 | @one cs cs1 cs2 i o v r h1 h2 h3 _ ih=>
  obtain⟨a1,a2,a3⟩:=h3.eq
  simp only[Instr.fill,h1.eq,gz h2]
  rw[if_neg (by simp;omega)]
  rw[<- ih,<- a2]
  congr 1
 | @all cs cs1 cs2 us i o n r h1 h2 hne h3 _ ih=>
  obtain⟨b1,b2⟩:=h3.eq
  have e:Value.cells (.agg us.toArray)=us.toArray:=rfl
  simp only[Instr.fill,h1.eq,e]
  have hfold:us.toArray.zipIdx.foldl (fun(cs:Array Value) (p:Value×Nat)=>cs.setIfInBounds (o+p.2) p.1) cs.toArray=cs1.toArray:=by
   have:=mw (b:=0) us 0 o cs.toArray
   rw[Nat.add_zero,b2] at this
   rw[<- this,<- Array.foldl_toList];simp
  rcases b1 with rfl | b1
  ·exact absurd rfl hne
  rw[if_neg (by simp[h2];omega),<- ih,<- hfold]
theorem bp {gd:Option (Nat×Bool)} {t:TypeId} {ps:Array (Nat×Operand)} {pl:List (Nat×Nat)} {z us:List Value} {vs:List (Nat×Value)} (hx:BY E ps.toList=some vs) (hp:∀ w,(placesOf t).run c.P w=.ok pl.toArray w)
  (hz:∀ w,(zeroValue t).run c.P w=.ok (.agg z.toArray) w) (hf:aP pl z vs us):QV c ds E L ⟨d,.build t ps,ty,pos,af,gd⟩ (.agg us.toArray):=
 sK hx fun w=>by
  have h1:=hp w
  have h2:=hz w
  unfold placesOf at h1
  unfold Instr.build
  simp only[Sem.run_bind,h2,Result.andThen] at h1 ⊢
  generalize (underlying t).run c.P w=r at h1 ⊢
  cases r with
  | halt x w'=>simp only at h1;cases h1
  | ok dsc w'=>
   simp only at h1 ⊢
   cases dsc <;> simp only[Sem.run_bind,Result.andThen] at h1 ⊢ <;> first | (cases h1;done) | skip
   next fields=>
    have e:Value.cells (.agg z.toArray)=z.toArray:=rfl
    rw[h1]
    simp only[e,hf.eq,Sem.run_pure]
theorem Fl {x:Code} {t:Tmp} {b:Bool} (hb:lk E t=some (.bool b)) (h1:b=true->TC c fin ds ((t,.bool true)::E) L x ks) (h2:b=false->TC c fin ds ((t,.bool false)::E) L x ks):TC c fin ds E L x ks:=fun a w hs=>by
 have hag:∀ b',b=b'->St c ds ((t,.bool b')::E) L a w:=fun b' e=>⟨hs.size,hs.defs,fun u v e'=>by
  simp only[lk] at e'
  by_cases q:t=u
  ·subst q;simp only[Nat.beq_refl,Option.some.injEq] at e';subst e';rw[<- e];exact hs.agree _ _ hb
  rw[show Nat.beq t u=false from mH q] at e';exact hs.agree _ _ e',hs.sat,hs.ext⟩
 cases b with
 | true=>exact h1 rfl a w (hag _ rfl)
 | false=>exact h2 rfl a w (hag _ rfl)
theorem aa {gd:Option (Nat×Bool)} {x:Operand} {i:Nat} {l:List Value} {v:Value} (hx:ev E x=some (.tuple l.toArray)) (hv:jS l i v):QV c ds E L ⟨d,.extract x i,ty,pos,af,gd⟩ v:=yR hx hv.eq
inductive nD:List Value->Nat->Nat->List Value->Prop
 | nil {l:List Value}:nD l 0 0 []
 | take {x:Value} {l us:List Value} {n:Nat}:nD l 0 n us->nD (x::l) 0 (n+1) (x::us)
 | skip {x:Value} {l us:List Value} {o n:Nat}:nD l o n us->nD (x::l) (o+1) n us
theorem nD.eq {l us:List Value} {o n:Nat} (h:nD l o n us):l.toArray.extract o (o+n)=us.toArray/\o+n<=l.length:=by
 have:(l.drop o).take n=us/\o+n<=l.length:=by
  induction h with
  | nil=>simp
  | take _ ih=>obtain⟨h1,h2⟩:=ih;exact⟨by simpa using h1,by simpa using h2⟩
  | skip _ ih=>obtain⟨h1,h2⟩:=ih;exact⟨by simpa using h1,by simp;omega⟩
 refine⟨?_,this.2⟩
 apply Array.ext'
 simp only[Array.toList_extract,List.extract_eq_take_drop]
 rw[show o+n-o=n by omega];exact this.1
theorem sb {l us:List Value} {o n:Nat} (h:nD l o n us:=by repeat (first | exact nD.nil | apply nD.take | apply nD.skip)):nD l o n us:=h
theorem wq {gd:Option (Nat×Bool)} {t:TypeId} {x:Operand} {b o n:Nat} {us l:List Value} {tt:TypeId} {fr:Nat×Nat} {M:List HP} (hx:ev E x=some (.pointer (some ⟨b,o,none⟩)))
  (ha:∀ w,(isAgg t).run c.P w=.ok true w) (hn:∀ w,(sizeOf t).run c.P w=.ok n w) (ht:Take (pt b (.cells l.toArray tt fr)) L M) (hv:nD l o n us):QV c ds E L ⟨d,.load t x,ty,pos,af,gd⟩ (.agg us.toArray):=
 yQ hx ha hn ht (Nat.ble_eq_true_of_le (by simpa using hv.eq.2)) hv.eq.1
theorem nP {gd:Option (Nat×Bool)} {s:TypeId} {x:Operand} {l:List Value} {i:Nat} (k:Nat) {fs:Array Field} {f:Field} {v:Value} (hx:ev E x=some (.agg l.toArray)) (hs:c.P.underlying s=some (.struct fs)) (hf:fs[i]?=some f)
  (ha:∀ w,(isAgg f.type).run c.P w=.ok false w) (hk:f.offset=k) (hv:jS l k v):QV c ds E L ⟨d,.field s x i,ty,pos,af,gd⟩ v:=A5 hx hs hf ha (by rw[hk];exact hv.eq)
theorem sJ {gd:Option (Nat×Bool)} {s:TypeId} {x:Operand} {b o i n:Nat} (k:Nat) {fields:Array Field} {f:Field} (hx:ev E x=some (.pointer (some ⟨b,o,none⟩))) (hs:c.P.underlying s=some (.struct fields)) (hf:fields[i]?=some f) (hk:f.offset=k)
  (hn:∀ w,(sizeOf f.type).run c.P w=.ok (n+1) w):QV c ds E L ⟨d,.fieldAddr s x i,ty,pos,af,gd⟩ (.pointer (some ⟨b,o+k,none⟩)):=by
 subst hk;exact uv hx hs hf hn
theorem aW {gd:Option (Nat×Bool)} {t e:TypeId} {x y:Operand} {b len cap:Nat} {kd:IntKind} (n:Nat) (hx:ev E x=some (.slice (some ⟨b,0,none⟩) len cap)) (hy:ev E y=some (.int kd (n:Int))) (hu:c.P.underlying t=some (.slice e))
  (hn:∀ w,(sizeOf e).run c.P w=.ok 1 w) (hi:n < len):QV c ds E L ⟨d,.indexAddr t x y,ty,pos,af,gd⟩ (.pointer (some ⟨b,n,none⟩)):=by
 have:=az (c:=c) (ds:=ds) (L:=L) (d:=d) (ty:=ty) (pos:=pos) (af:=af) (gd:=gd) hx hy hu hn (by omega)
 rwa [Nat.zero_add,Int.toNat_natCast] at this
theorem Bt (z:Value) (n:Nat):(madeCells #[z] n).toList=List.replicate n z:=by
 apply List.ext_getElem
 ·simp[size_madeCells]
 intro i h1 h2
 simp[madeCells,Nat.mod_one]
theorem uX:∀ {us:List Value},us.all (·.oneCell')=true->us.flatMap (·.cells.toList)=us
 | [],_=>rfl
 | u::r,h=>by
  simp only[List.all_cons,Bool.and_eq_true] at h
  rw[List.flatMap_cons,uX h.2,gz h.1];rfl
theorem bR {t e:TypeId} {len:Nat} {z:Value} {ps:Array (Nat×Operand)} (us:List Value) (hd:dn d c.N=true) (hx:BY E ps.toList=some ((us.zipIdx 0).map fun p=>(p.2,p.1)))
  (ht:c.P.underlying t=some (.slice e)) (hn:∀ w,(sizeOf e).run c.P w=.ok 1 w) (hz:∀ w,(zeroValue e).run c.P w=.ok z w) (hzs:z.oneCell'=true) (hlen:us.length=len) (hsm:Nat.ble len 16777216=true) (hone:us.all (·.oneCell')=true)
  (k:∀ b,TL c fin ds (gT d (.slice (some ⟨b,0,none⟩) len len) E) (pt b (.cells us.toArray e (0,0))::L) ops rest ks):TL c fin ds E L ops (⟨d,.buildSlice t len ps,ty,pos,af,none⟩::rest) ks:=by
 refine fD (us:=us) (cs:=us.toArray) hd hx ht hn hz (by rw[gz hzs];rfl) hlen (by rw[Nat.mul_one];exact hsm) ?_ (by rw[uX hone]) k
 rw[List.all_eq_true] at hone ⊢
 intro v hv
 rw[gz (hone v hv)];rfl
theorem dL {t e:TypeId} {x y:Operand} {z:Value} {bytes:Nat} {kl kc:IntKind} {l m:Int} (hd:dn d c.N=true) (hx:ev E x=some (.int kl l)) (hy:ev E y=some (.int kc m))
  (ht:c.P.underlying t=some (.slice e)) (hinf:∃ i,c.P.info? e=some i/\i.zero=some z/\i.size=1/\i.bytes=bytes) (hz:z.oneCell'=true) (h0:0<=l/\l<=m) (hb:(bytes:Int)*m<=281474976710656/\m<=9223372036854775807)
  (k:∀ b,TL c fin ds (gT d (.slice (some ⟨b,0,none⟩) l.toNat m.toNat) E) (aF e 1 (.slice (some ⟨b,0,none⟩) l.toNat m.toNat) l.toNat (List.replicate l.toNat z)::L) ops rest ks):TL c fin ds E L ops (⟨d,.makeSlice t x y,ty,pos,af,none⟩::rest) ks:=
 nk hd (by intro k;simp) (fun b=>.slice (some ⟨b,0,none⟩) l.toNat m.toNat) (fun b=>aF e 1 (.slice (some ⟨b,0,none⟩) l.toNat m.toNat) l.toNat (List.replicate l.toNat z)::L) (fun a w hs=>by
  obtain⟨i,hi,hiz,hsize,hby⟩:=hinf
  have hr:=run_make w t e i z ht hi hiz kl kc l m h0.1 h0.2 (by rw[hby];exact hb.1) hb.2
  refine⟨w.heap.size,w.alloc (.cells (madeCells z.cells (m.toNat*i.size)) e),?_,?_,(Ext.refl w).alloc _⟩
  ·simp only[execOp,Sem.run_bind,hs.ev hx,hs.ev hy,hr,Result.andThen,Sem.run_pure]
  refine fC (hs.sat.alloc _) (by simp) (by omega) (by simp only[maxLen];omega) (by simp[size_madeCells,hsize]) ?_
  rw[gz hz,Bt,hsize,List.take_replicate]
  congr 1;omega) k
theorem aJ {P:Program} {t:TypeId} {b n:Nat} {cs:Array Value} {tt:TypeId} {fr:Nat×Nat} (ha:∀ w,(isAgg t).run P w=.ok true w) (hn:∀ w,(sizeOf t).run P w=.ok n w) (h:cs.size=n):
  ∀ w,w.heap[b]?=some (.cells cs tt fr)->(loadVar t ⟨b,0,none⟩).run P w=.ok (.agg cs) w:=fun w hb=>by
 have:=run_loadCells (P:=P) hb n 0 (by omega)
 simp only[loadVar,Sem.run_bind,ha,Result.andThen,if_true,hn,this,Sem.run_pure]
 congr 2
 rw[Nat.zero_add,<- h];simp
end
end Eng
end
section
namespace Eng
open Go.RowKit
inductive jB:Bool->Prop->Prop->Prop
 | d {φ:Prop} [Decidable φ]:jB (decide φ) φ (¬ φ)
 | n {φ:Prop} [Decidable φ]:jB (!decide φ) (¬ φ) φ
 | b {b:Bool}:jB b (b=true) (b=false)
theorem jB.t {b:Bool} {P N:Prop} (h:jB b P N) (e:b=true):P:=by
 cases h with
 | d=>exact of_decide_eq_true e
 | n=>simpa using e
 | b=>exact e
theorem jB.f {b:Bool} {P N:Prop} (h:jB b P N) (e:b=false):N:=by
 cases h with
 | d=>exact of_decide_eq_false e
 | n=>simpa using e
 | b=>exact e
class AddN (o k:Nat) (r:outParam Nat):Prop where
 eq:o+k=r
instance addN0 {k:Nat}:AddN 0 k k:=⟨Nat.zero_add k⟩
instance (priority:=low) addN1 {o k:Nat}:AddN o k (o+k):=⟨rfl⟩
theorem mX {k:IntKind} {n:Int}:k.wrap n=k.wrap n:=rfl
def Ga (i:Nat):List KI->Option (List KI)
 | []=>none
 | .blk j::r=>match Nat.beq i j with | true=>some r | false=>Ga i r
 | .code _::r=>Ga i r
 | .lp _::r=>Ga i r
 | .sc::r=>Ga i r
section
variable {c:Cx} {fin:Exit->Act->World->Prop} {ds:List Deferred} {E:Env} {L M:List HP} {ks ks':List KI} {ops:Array Oper} {rest:List Oper}
variable {d:Option Tmp} {ty:TypeId} {pos:String} {af:Array Edge} {gd:Option (Nat×Bool)} {id:Nat} {l:List Oper} {y:Code}
theorem sr (h:TL c fin ds E L l.toArray l (.code y::ks)):TC c fin ds E L (.seq (.region id l.toArray false) y) ks:=al (aD h)
theorem nz (h:TL c fin ds E L l.toArray l (.code y::ks)):TN c fin ds E L .normal (.code (.seq (.region id l.toArray false) y)::ks):=an (sr h)
theorem lz (h:TL c fin ds E L l.toArray l (.code y::ks)):TL c fin ds E L ops [] (.code (.seq (.region id l.toArray false) y)::ks):=ai (nz h)
theorem lc (h:TC c fin ds E L y ks):TL c fin ds E L ops [] (.code y::ks):=ai (an h)
theorem lr (h:TL c fin ds E L l.toArray l ks):TL c fin ds E L ops [] (.code (.region id l.toArray false)::ks):=lc (aD h)
theorem tM {i:Nat}:∀ {ks ks':List KI},Ga i ks=some ks'->TN c fin ds E L .normal ks'->TN c fin ds E L (.exit i) ks
 | [],_,h,_=>by cases h
 | .blk j::r,_,h,k=>by
  simp only[Ga] at h
  by_cases q:i=j
  ·subst q;simp only[Nat.beq_refl,Option.some.injEq] at h;subst h;exact GM k
  rw[mH q] at h;exact Ar (mH q) (tM h k)
 | .code _::r,_,h,k=>As (tM (ks:=r) h k)
 | .lp _::r,_,h,k=>GL (tM (ks:=r) h k)
 | .sc::r,_,h,k=>GK (tM (ks:=r) h k)
theorem xt {i:Nat} (h:Ga i ks=some ks') (k:TN c fin ds E L .normal ks'):TC c fin ds E L (.exit i) ks:=AK (tM h k)
def wC (i:Nat):List KI->Bool
 | []=>true
 | .blk j::r=>!Nat.beq i j && wC i r
 | .code _::r=>wC i r
 | .lp _::r=>wC i r
 | .sc::r=>wC i r
theorem tO {i:Nat} (k:TN c fin ds E L (.exit i) []):∀ {ks:List KI},wC i ks=true->TN c fin ds E L (.exit i) ks
 | [],_=>k
 | .blk j::r,h=>by
  simp only[wC,Bool.and_eq_true,Bool.not_eq_true'] at h
  exact Ar h.1 (tO k h.2)
 | .code _::r,h=>As (tO (ks:=r) k h)
 | .lp _::r,h=>GL (tO (ks:=r) k h)
 | .sc::r,h=>GK (tO (ks:=r) k h)
theorem xe {i:Nat} (h:wC i ks=true) (k:TN c fin ds E L (.exit i) []):TC c fin ds E L (.exit i) ks:=AK (tO k h)
theorem ue:∀ {ks:List KI},TN c fin ds E L .ret []->TN c fin ds E L .ret ks
 | [],k=>k
 | .blk _::r,k=>GR (ue (ks:=r) k)
 | .code _::r,k=>Fu (ue (ks:=r) k)
 | .lp _::r,k=>JB (ue (ks:=r) k)
 | .sc::r,k=>JA (ue (ks:=r) k)
theorem rt (k:TN c fin ds E L .ret []):TC c fin ds E L .ret ks:=GO (ue k)
theorem aG {x:Operand} {p q:Code} {b:Bool} {P N:Prop} (hx:ev E x=some (.bool b)) (h1:P->TC c fin ds E L p ks) (h2:N->TC c fin ds E L q ks)
  (hb:jB b P N:=by first | exact .d | exact .n | exact .b):TC c fin ds E L (.cond x p q) ks:=Fm hx (fun e=>h1 (hb.t e)) (fun e=>h2 (hb.f e))
theorem bQ {t:Tmp} {b:Bool} {P N:Prop} (hx:lk E t=some (.bool b)) (h1:P->TL c fin ds ((t,.bool true)::E) L ops l ks) (h2:N->TL c fin ds ((t,.bool false)::E) L ops l ks)
  (hb:jB b P N:=by first | exact .d | exact .n | exact .b):TL c fin ds E L ops l ks:=FE hx (fun e=>h1 (hb.t e)) (fun e=>h2 (hb.f e))
theorem oE {x:Code} {t:Tmp} {b:Bool} {P N:Prop} (hx:lk E t=some (.bool b)) (h1:P->TC c fin ds ((t,.bool true)::E) L x ks) (h2:N->TC c fin ds ((t,.bool false)::E) L x ks)
  (hb:jB b P N:=by first | exact .d | exact .n | exact .b):TC c fin ds E L x ks:=Fl hx (fun e=>h1 (hb.t e)) (fun e=>h2 (hb.f e))
theorem n6 {done q:List Nat} {t:Tmp} {b:Bool} {P N:Prop} (hx:lk E t=some (.bool b)) (h1:P->TD c fin ds ((t,.bool true)::E) L ops done q ks) (h2:N->TD c fin ds ((t,.bool false)::E) L ops done q ks)
  (hb:jB b P N:=by first | exact .d | exact .n | exact .b):TD c fin ds E L ops done q ks:=F4 hx (fun e=>h1 (hb.t e)) (fun e=>h2 (hb.f e))
theorem mv {x:Operand} {v:Value} (hd:dn d c.N=true) (hx:ev E x=some v) (k:TL c fin ds (gT d v E) L ops rest ks):TL c fin ds E L ops (⟨d,.move x,ty,pos,af,none⟩::rest) ks:=ad hd (ah hx) k
theorem ar {x:Operand} {v:Value} (hd:dn d c.N=true) (hx:ev E x=some v) (k:TL c fin ds (gT d v E) L ops rest ks):TL c fin ds E L ops (⟨d,.assign x,ty,pos,af,none⟩::rest) ks:=ad hd (A8 hx) k
theorem aS {x y z:Operand} {b:Bool} {v:Value} (hx:ev E x=some (.bool b)) (hy:ev E (match b with | true=>y | false=>z)=some v):QV c ds E L ⟨d,.pick x y z,ty,pos,af,gd⟩ v:=by
 cases b
 ·exact A4 hx hy
 exact A3 hx hy
theorem aE {s:TypeId} {x:Operand} {b o i n r:Nat} (k:Nat) {fields:Array Field} {f:Field} (hx:ev E x=some (.pointer (some ⟨b,o,none⟩))) (hs:c.P.underlying s=some (.struct fields)) (hf:fields[i]?=some f) (hk:f.offset=k)
  (hn:∀ w,(sizeOf f.type).run c.P w=.ok (n+1) w) [a:AddN o k r]:QV c ds E L ⟨d,.fieldAddr s x i,ty,pos,af,gd⟩ (.pointer (some ⟨b,r,none⟩)):=by
 rw[<- a.eq];exact sJ k hx hs hf hk hn
theorem aI {t:TypeId} {x:Operand} {b o:Nat} {v:Value} {l:List Value} {tt:TypeId} {fr:Nat×Nat} {M:List HP} (hx:ev E x=some (.pointer (some ⟨b,o,none⟩)))
  (ha:∀ w,(isAgg t).run c.P w=.ok false w) (ht:Take (pt b (.cells l.toArray tt fr)) L M:=by exact tk) (hv:jS l o v:=by exact ga):QV c ds E L ⟨d,.load t x,ty,pos,af,gd⟩ v:=Dm hx ha ht hv
theorem aO {t:TypeId} {x:Operand} {b o n:Nat} {us l:List Value} {tt:TypeId} {fr:Nat×Nat} {M:List HP} (hx:ev E x=some (.pointer (some ⟨b,o,none⟩)))
  (ha:∀ w,(isAgg t).run c.P w=.ok true w) (hn:∀ w,(sizeOf t).run c.P w=.ok n w) (ht:Take (pt b (.cells l.toArray tt fr)) L M:=by exact tk) (hv:nD l o n us:=by exact sb):QV c ds E L ⟨d,.load t x,ty,pos,af,gd⟩ (.agg us.toArray):=
 wq hx ha hn ht hv
section
variable {op:BinOp} {t u:TypeId} {x y:Operand} {v:Value} {kx ky:IntKind} {a b:Int}
theorem qi (hx:ev E x=some (.int kx a)) (hy:ev E y=some (.int ky b)) (hr:∀ w,(binOp op t (.int kx a) (.int ky b)).run c.P w=.ok v w):QV c ds E L ⟨d,.binOp op t x y u,ty,pos,af,gd⟩ v:=gI hx hy (fun w=>G2 w) hr
theorem qs {a b:ByteArray} (hx:ev E x=some (.string a)) (hy:ev E y=some (.string b)) (hr:∀ w,(binOp op t (.string a) (.string b)).run c.P w=.ok v w):QV c ds E L ⟨d,.binOp op t x y u,ty,pos,af,gd⟩ v:=gI hx hy (fun w=>BR w) hr
theorem qb {a b:Bool} (hx:ev E x=some (.bool a)) (hy:ev E y=some (.bool b)) (hr:∀ w,(binOp op t (.bool a) (.bool b)).run c.P w=.ok v w):QV c ds E L ⟨d,.binOp op t x y u,ty,pos,af,gd⟩ v:=gI hx hy (fun w=>FN w) hr
theorem bn {r:Int} (hx:ev E x=some (.int kx a)) (hy:ev E y=some (.int kx b)) (hr:kx.wrap (a+b)=r:=by first | exact wrap_i64 (by omega) | exact wrap_u64 (by omega) | exact mX):QV c ds E L ⟨d,.binOp .add t x y u,ty,pos,af,gd⟩ (.int kx r):=qi hx hy fun w=>by rw[Jc,hr]
theorem eJ {r:Int} (hx:ev E x=some (.int kx a)) (hy:ev E y=some (.int kx b)) (hr:kx.wrap (a-b)=r:=by first | exact wrap_i64 (by omega) | exact wrap_u64 (by omega) | exact mX):QV c ds E L ⟨d,.binOp .sub t x y u,ty,pos,af,gd⟩ (.int kx r):=qi hx hy fun w=>by rw[Ja,hr]
theorem dA {r:Int} (hx:ev E x=some (.int kx a)) (hy:ev E y=some (.int kx b)) (hr:kx.wrap (a*b)=r:=by first | exact wrap_i64 (by omega) | exact wrap_u64 (by omega) | exact mX):QV c ds E L ⟨d,.binOp .mul t x y u,ty,pos,af,gd⟩ (.int kx r):=qi hx hy fun w=>by rw[Jb,hr]
theorem eT (hx:ev E x=some (.int kx a)) (hy:ev E y=some (.int kx b)) (hr:∀ w,(binOp .quo t (.int kx a) (.int kx b)).run c.P w=.ok v w:=by first | exact fun w=>DY w (by omega) | exact fun w=>EX w (by omega)):QV c ds E L ⟨d,.binOp .quo t x y u,ty,pos,af,gd⟩ v:=qi hx hy hr
theorem iQ (hx:ev E x=some (.int kx a)) (hy:ev E y=some (.int kx b)) (hr:∀ w,(binOp .rem t (.int kx a) (.int kx b)).run c.P w=.ok v w:=by first | exact fun w=>DX w (by omega) | exact fun w=>EW w (by omega)):QV c ds E L ⟨d,.binOp .rem t x y u,ty,pos,af,gd⟩ v:=qi hx hy hr
theorem fh (hx:ev E x=some (.int kx a)) (hy:ev E y=some (.int kx b)) (ho:(match op with | .and | .or | .xor | .andNot=>true | _=>false)=true):QV c ds E L ⟨d,.binOp op t x y u,ty,pos,af,gd⟩ (.int kx (bits op kx a b)):=qi hx hy fun w=>F9 w ho
theorem km {s t:TypeId} {n r:Int} {k:IntKind} {u:TypeDesc} (hx:ev E x=some (.int kx n)) (hs:c.P.underlying s=some u) (ht:c.P.underlying t=some (.int k)) (hr:k.wrap n=r:=by first | exact wrap_i64 (by omega) | exact wrap_u64 (by omega) | exact wrap_u8 (by omega) | exact mX):
  QV c ds E L ⟨d,.convert s t x,ty,pos,af,gd⟩ (.int k r):=A6 hx fun w=>by rw[EV w hs ht,hr]
end
theorem ql {x:Operand} {t e:TypeId} {a:Option Addr} {n m:Nat} (hx:ev E x=some (.slice a n m)) (hu:c.P.underlying t=some (.slice e)):QV c ds E L ⟨d,.call {callee:=.builtin .len,args:=#[x],argTypes:=#[t]},ty,pos,af,gd⟩ (.int .i64 n):=Eu hx fun w=>zc hu w
theorem m9 {x:Operand} {t:TypeId} {s:ByteArray} (hx:ev E x=some (.string s)) (hu:c.P.underlying t=some .string):QV c ds E L ⟨d,.call {callee:=.builtin .len,args:=#[x],argTypes:=#[t]},ty,pos,af,gd⟩ (.int .i64 s.size):=Eu hx fun w=>wK hu w
class GetC (l:List Oper) (i:Nat) (t:outParam Tmp) (o:outParam Oper):Prop where
 eq:l.toArray[i]?=some o
 dst:o.dst=some t
instance getC0 {t:Tmp} {op:Op} {l:List Oper}:GetC (⟨some t,op,ty,pos,af,gd⟩::l) 0 t ⟨some t,op,ty,pos,af,gd⟩:=⟨by simp,rfl⟩
instance getC1 {x o:Oper} {t:Tmp} {i:Nat} {l:List Oper} [h:GetC l i t o]:GetC (x::l) (i+1) t o:=⟨by have:=h.eq;simpa using this,h.dst⟩
def I7 (t N:Nat) (E:Env) (done q:List Nat) (i:Nat):Bool:=Nat.blt t N && (lk E t).isNone && !(done.contains i || q.contains i)
theorem dq {done q:List Nat} (i:Nat) {o:Oper} {t:Tmp} {v:Value} [g:GetC l i t o] (h:I7 t c.N E done q i=true) (hy:YQ c ds E L l.toArray o v)
  (k:TD c fin ds ((t,v)::E) L l.toArray done (i::q) ks):TD c fin ds E L l.toArray done q ks:=by
 simp only[I7,Bool.and_eq_true,Bool.not_eq_true',Option.isNone_iff_eq_none] at h
 exact KO i g.eq g.dst h.1.1 h.1.2 h.2 hy k
theorem ya {i:Nat} {o:Oper} {t:Tmp} {v:Value} [g:GetC l i t o] (ht:Nat.blt t c.N=true) (hv:lk E t=some v) (hy:YQ c ds E L l.toArray o v):Jk c ds E L l.toArray i:=KH g.eq g.dst ht hv hy
theorem st {t:TypeId} {x y:Operand} {b o:Nat} {v:Value} {l l':List Value} {tt:TypeId} {M:List HP} (hd:dn d c.N=true) (hx:ev E x=some (.pointer (some ⟨b,o,none⟩))) (hy:ev E y=some v)
  (hn:∀ w,(sizeOf t).run c.P w=.ok 1 w) (hv:v.oneCell'=true) (k:TL c fin ds (gT d undef E) (pt b (.cells l'.toArray tt (0,0))::M) ops rest ks) (ht:Take (pt b (.cells l.toArray tt (0,0))) L M:=by exact tk) (hs:gR l o v l':=by exact sa):
  TL c fin ds E L ops (⟨d,.store t x y,ty,pos,af,none⟩::rest) ks:=qc hd hx hy hn hv ht hs k
theorem bZ {t:TypeId} {x y:Operand} {b o n:Nat} {us:List Value} {l l':List Value} {tt:TypeId} {M:List HP} (hd:dn d c.N=true) (hx:ev E x=some (.pointer (some ⟨b,o,none⟩))) (hy:ev E y=some (.agg us.toArray))
  (hn:∀ w,(sizeOf t).run c.P w=.ok n w) (hus:us.length=n) (hv:us.all (·.oneCell')=true)
  (k:TL c fin ds (gT d undef E) (pt b (.cells l'.toArray tt (0,0))::M) ops rest ks) (hne:us≠[]:=by simp) (ht:Take (pt b (.cells l.toArray tt (0,0))) L M:=by exact tk) (hs:gS l o us l':=by exact Dj):
  TL c fin ds E L ops (⟨d,.store t x y,ty,pos,af,none⟩::rest) ks:=uH hd hx hy hn hus hv hne ht hs k
theorem cT {x:Operand} {xs:Array Operand} {ats:Array TypeId} {f:FuncId} {vs:List Value} {D R:List HP} {Post:Value->List HP->Prop}
  (hd:dn d c.N=true) (hx:ev E x=some (.func (.func f) #[] #[])) (ha:evl E xs.toList=some vs) (hc:aK c.P f vs.toArray D Post)
  (k:∀ v L',Post v L'->TL c fin ds (gT d v E) (L' ++ R) ops rest ks) (hp:fQ D L R:=by exact pk):TL c fin ds E L ops (⟨d,.call {callee:=.value x,args:=xs,argTypes:=ats},ty,pos,af,none⟩::rest) ks:=x5 hd hx ha hc hp k
theorem bF {x:Operand} {xs:Array Operand} {ats:Array TypeId} {f:FuncId} {vs:List Value} {D R L':List HP} {v:Value}
  (hd:dn d c.N=true) (hx:ev E x=some (.func (.func f) #[] #[])) (ha:evl E xs.toList=some vs) (hc:aK c.P f vs.toArray D fun u K=>u=v/\K=L')
  (k:TL c fin ds (gT d v E) M ops rest ks) (hp:fQ D L R:=by exact pk) (hM:L' ++ R=M:=by(try simp only[List.cons_append,List.nil_append,List.append_nil]) <;> rfl):
  TL c fin ds E L ops (⟨d,.call {callee:=.value x,args:=xs,argTypes:=ats},ty,pos,af,none⟩::rest) ks:=x5 hd hx ha hc hp fun u K ⟨e1,e2⟩=>by subst e1 e2 hM;exact k
theorem cN {fn:Func} {Fr:List HP} {Post:Value->List HP->Prop} {e:Exit} {r1:ResultVar} {v1:Value} (hr:fn.results=#[r1]) (L':List HP) (h1:Rv c.P E L r1 v1) (hp:Post v1 L')
  (hl:dS L (L' ++ Fr):=by exact en) (hx:e=.ret\/e=.normal:=by first | exact .inl rfl | exact .inr rfl):TN c (zp c.P fn Fr c.w0 Post) [] E L e []:=aR hx L' (cP hr h1) hp hl
theorem ft {fn:Func} {Fr:List HP} {Post:Value->List HP->Prop} {e:Exit} {r1 r2:ResultVar} {v1 v2:Value} (hr:fn.results=#[r1,r2]) (L':List HP) (h1:Rv c.P E L r1 v1) (h2:Rv c.P E L r2 v2) (hp:Post (.tuple #[v1,v2]) L')
  (hl:dS L (L' ++ Fr):=by exact en) (hx:e=.ret\/e=.normal:=by first | exact .inl rfl | exact .inr rfl):TN c (zp c.P fn Fr c.w0 Post) [] E L e []:=aR hx L' (cF hr h1 h2) hp hl
end
abbrev ml (P:Program) (t:TypeId) (b:Bool):Prop:=∀ w,(isAgg t).run P w=.ok b w
abbrev lj (P:Program) (t:TypeId) (n:Nat):Prop:=∀ w,(sizeOf t).run P w=.ok n w
abbrev nI (P:Program) (t:TypeId) (v:Value):Prop:=∀ w,(zeroValue t).run P w=.ok v w
abbrev vN (P:Program) (t:TypeId) (l:List (Nat×Nat)):Prop:=∀ w,(placesOf t).run P w=.ok l.toArray w
abbrev Ed (P:Program) (t:TypeId) (v:Value) (n b:Nat):Prop:=∃ i,P.info? t=some i/\i.zero=some v/\i.size=n/\i.bytes=b
abbrev cE (P:Program) (f:FuncId):Prop:=∀ args w,(callFunc f args).run P w=.ok (.enter f args) w
end Eng
end
section
namespace Eng
open Go.RowKit
structure vI (P:Program) (f:FuncId) (args:Array Value) (D:List HP) (Post:List HP->Prop):Prop where
 enters:∀ args w,(callFunc f args).run P w=.ok (.enter f args) w
 calls:∀(Fr:List HP) (w0 w:World),Sat (stars (D ++ Fr)) w->Ext w0 w->
  CallsDIn (FW none) 0 P f args .returning w fun e u' w'=>u'=.returning/\∃ v L',e=.returned v/\Post L'/\Sat (stars (L' ++ Fr)) w'/\Ext w0 w'
def G6 (P:Program) (fn:Func) (Fr:List HP) (w0:World) (Post:List HP->Prop):Exit->Act->World->Prop:=
 bodyPost P fn fun e w'=>∃ v L',e=.returned v/\Post L'/\Sat (stars (L' ++ Fr)) w'/\Ext w0 w'
theorem rY {P:Program} {f:FuncId} {fn:Func} {x:Code} {vs:List Value} {D:List HP} {Post:List HP->Prop} {N:Nat}
  (hen:∀ args w,(callFunc f args).run P w=.ok (.enter f args) w) (hf:P.funcs[f]?=some fn) (hb:fn.body=some x) (hN:fn.ntmps=N) (hlen:Nat.ble vs.length N=true)
  (h:∀ Fr w0,TC ⟨P,none,w0,N⟩ (G6 P fn Fr w0 Post) [] (vi 0 vs) (D ++ Fr) x []):vI P f vs.toArray D Post:=by
 refine⟨hen,fun Fr w0 w hs he=>?_⟩
 refine callsDIn_of_wp hf hb trivial ?_ rfl
 refine h Fr w0 _ w ⟨?_,rfl,?_,hs,he⟩
 ·have:=Nat.le_of_ble_eq_true hlen
  simp[hN];omega
 intro t v e
 obtain⟨_,h2⟩:=vg e
 have hlt:t < vs.length:=by
  rw[Nat.sub_zero] at h2
  exact(List.getElem?_eq_some_iff.1 h2).1
 simp only[Nat.sub_zero] at h2
 rw[Array.getElem?_append_left (by simpa using hlt)]
 simpa using h2
theorem BX {c:Cx} {fn:Func} {Fr:List HP} {Post:List HP->Prop} {E:Env} {L:List HP} {e:Exit} (hx:e=.ret\/e=.normal) {v:Value} (L':List HP)
  (hr:oB c.P fn E L v) (hp:Post L') (hl:dS L (L' ++ Fr)):TN c (G6 c.P fn Fr c.w0 Post) [] E L e []:=fun a w hs=>by
 have:a.defers= []/\∃ v,(results fn a.tmps).run c.P w=.ok v w/\∃ v' L',Ending.returned v=.returned v'/\Post L'/\Sat (stars (L' ++ Fr)) w/\Ext c.w0 w:=
  ⟨hs.defs,v,hr c [] a w hs,v,L',rfl,hp,hl w hs.sat,hs.ext⟩
 rcases hx with rfl | rfl <;> exact this
section
variable {c:Cx} {fin:Exit->Act->World->Prop} {ds:List Deferred} {E:Env} {L:List HP} {ks:List KI} {ops:Array Oper} {rest:List Oper}
theorem Dv {d:Option Tmp} {x:Operand} {xs:Array Operand} {ats:Array TypeId} {ty:TypeId} {pos:String} {af:Array Edge} {f:FuncId} {cap:Array Value} {vs:List Value}
  (hd:dn d c.N=true) (hro:c.r=none) (hx:ev E x=some (.func (.func f) #[] cap)) (ha:evl E xs.toList=some vs)
  (k:TL c fin ({target:=.fn (.func f) cap,args:=vs.toArray}::ds) (gT d undef E) L ops rest ks):
  TL c fin ds E L ops (⟨d,.defer {callee:=.value x,args:=xs,argTypes:=ats},ty,pos,af,none⟩::rest) ks:=fun a w hs=>by
 refine wpListIn_plain rfl fun K hK=>?_
 have e1:=hs.ev hx
 have e2:xs.map a.eval=vs.toArray:=by
  have:=hs.evl ha
  apply Array.ext'
  simpa using this
 refine⟨fun _ _=>kC _ _,?_⟩
 rw[show(FW c.r).round=none from hro,Oper.semAt_none]
 have hr:(execOp a.eval ⟨d,.defer {callee:=.value x,args:=xs,argTypes:=ats},ty,pos,af,none⟩).run c.P w=.ok (.defer {target:=.fn (.func f) cap,args:=vs.toArray}) w:=by
  simp[execOp,resolve,e1,e2,Deferred.ofValue,Result.andThen]
 rw[hr,Oper.uponIn_defer]
 have h0:=hs.put hd undef hs.sat (Ext.refl w)
 refine hK _ _ (k _ w ⟨?_,?_,?_,h0.sat,h0.ext⟩)
 ·have:=h0.size;cases d <;> simpa [Act.put] using this
 ·cases d <;> simp[Act.put,hs.defs]
 have:=h0.agree;cases d <;> simpa [Act.put] using this
end
theorem qj {P:Program} {fn:Func} {tmps:Array Value} {R:Ending->World->Prop} {M D S:List HP} {w0:World} {f:FuncId} {cap dargs args:Array Value} {Post:List HP->Prop} (hargs:dargs ++ cap=args) (hc:vI P f args D Post) (hp:fQ D M S)
  (h:∀ L' w',Post L'->Sat (stars (L' ++ S)) w'->Ext w0 w'->∃ v,(results fn tmps).run P w'=.ok v w'/\R (.returned v) w'):
  ∀(bs:List Nat) (w:World),Sat (stars (oT bs ++ M)) w->Ext w0 w->LeavesInM (FW none) 0 P fn tmps R (marksOf bs ++ [{target:=.fn (.func f) cap,args:=dargs}]) .returning w
 | [],w,hs,he=>by
  refine⟨by simp,.inr ⟨fun h=>(by cases h),.func f,cap,f,args,rfl,?_,fun g _=>kC _ _,?_⟩⟩
  ·simp only[invoke];rw[hargs];exact hc.enters args w
  refine(hc.calls S w0 w (hs.pick hp) he).mono ?_
  rintro e u' w' ⟨rfl,v,L',rfl,hpo,hsat,hext⟩
  obtain⟨v2,h1,h2⟩:=h L' w' hpo hsat hext
  exact⟨v2,h1,h2⟩
 | b::bs,w,hs,he=>by
  have hb:w.heap[b]?=some (Obj.deferred (some [])):=hs.block .here
  refine⟨by simp,.inl ⟨b,_,rfl,run_takeDeferred hb,?_⟩⟩
  exact qj hargs hc hp h bs _ (Sat.tail (Sat.putObj hs (.deferred none))) (he.putObj _ _)
theorem BW {c:Cx} {fn:Func} {Fr:List HP} {Post:Value->List HP->Prop} {E:Env} {L M D S:List HP} {e:Exit} (hx:e=.ret\/e=.normal) (bs:List Nat) (hm:gQ bs L M) {f:FuncId} {cap dargs args:Array Value} {PostD:List HP->Prop}
  (hargs:dargs ++ cap=args) (hc:vI c.P f args D PostD) (hp:fQ D M S) (h:∀ L',PostD L'->∃ v L'',oB c.P fn E (L' ++ S) v/\Post v L''/\dS (L' ++ S) (L'' ++ Fr)):
  TN c (zp c.P fn Fr c.w0 Post) (marksOf bs ++ [{target:=.fn (.func f) cap,args:=dargs}]) E L e []:=fun a w hs=>by
 have:LeavesInM (FW none) 0 c.P fn a.tmps (fun e w'=>∃ v L',e=.returned v/\Post v L'/\Sat (stars (L' ++ Fr)) w'/\Ext c.w0 w') a.defers .returning w:=by
  rw[hs.defs]
  refine qj hargs hc hp (fun L' w' hpo hsat hext=>?_) bs w (hs.sat.perm hm.perm) hs.ext
  obtain⟨v,L'',h1,h2,h3⟩:=h L' hpo
  exact⟨v,h1 c _ {a with defers:=[]} w' ⟨hs.size,rfl,hs.agree,hsat,hext⟩,v,L'',rfl,h2,h3 w' hsat,hext⟩
 rcases hx with rfl | rfl <;> exact this
section
variable {c:Cx} {fin:Exit->Act->World->Prop} {ds:List Deferred} {E:Env} {L:List HP} {ks:List KI}
def I5 (c:Cx) (ds:List Deferred) {X:Type} (p:X->Prop) (EE:X->Env) (LL:X->List HP):Act->World->Prop:=fun a w=>∃ x,p x/\St c ds (EE x) (LL x) a w
theorem pB {X:Type} {p:X->Prop} {EE:X->Env} {LL:X->List HP} {x:Code} (h1:TC c fin ds E L x (.lp (I5 c ds p EE LL)::ks)) (h2:∀ y,p y->TN c fin ds (EE y) (LL y) .normal ks):TC c fin ds E L x ks:=fun a w hs=>by
 refine wpIn_mono (h1 a w hs) ?_
 intro e a' w' hq
 cases e with
 | normal=>obtain⟨y,hp,hst⟩:=hq;exact h2 y hp a' w' hst
 | _=>exact hq
theorem cx {X:Type} {p:X->Prop} {EE:X->Env} {LL:X->List HP} (x:X) (hp:p x) (he:qI (EE x) E) (hl:dS L (LL x)):TN c fin ds E L .normal (.lp (I5 c ds p EE LL)::ks):=fun a w hs=>⟨x,hp,hs.weaken he hl⟩
end
section
variable {c:Cx} {ds:List Deferred} {E:Env} {L:List HP} {d:Option Tmp} {ty:TypeId} {pos:String} {af:Array Edge} {gd:Option (Nat×Bool)}
theorem A7 {t e:TypeId} {len n:Nat} {ps:Array (Nat×Operand)} {z us:List Value} {v0 v1:Value} (hx:BY E ps.toList=some [(0,v0),(1,v1)]) (hu:c.P.underlying t=some (.array len e)) (hs:∀ w,(sizeOf e).run c.P w=.ok n w)
  (hz:∀ w,(zeroValue t).run c.P w=.ok (.agg z.toArray) w) (hf:aP [(0,n),(n,n)] z [(0,v0),(1,v1)] us):QV c ds E L ⟨d,.build t ps,ty,pos,af,gd⟩ (.agg us.toArray):=
 sK hx fun w=>by
  have h3:Instr.fill (fun i=>some (i*n,n)) z.toArray [(0,v0),(1,v1)]=some us.toArray:=by
   rw[<- hf.eq];simp[Instr.fill]
  have e1:Value.cells (.agg z.toArray)=z.toArray:=rfl
  unfold Instr.build
  simp only[Sem.run_bind,hz w,Result.andThen,run_underlying hu,hs w,e1,h3,Sem.run_pure]
end
theorem JL {P:Program} {t e:TypeId} {n:Nat} (w:World) (hu:P.underlying t=some (.pointer e)) (hs:∀ w,(sizeOf e).run P w=.ok n w) {a:Addr}:(Op.equal t (.pointer (some a)) (.pointer (some a))).run P w=.ok true w:=
 BZ w fun d=>by
  by_cases h:n=0 <;> simp[Op.equalIn,run_underlying hu,hs w,sameAddr,h,Result.andThen]
theorem tp {P:Program} {t e:TypeId} {n:Nat} (w:World) (hu:P.underlying t=some (.pointer e)) (hs:∀ w,(sizeOf e).run P w=.ok n w) {a:Addr}:(binOp .neq t (.pointer (some a)) (.pointer (some a))).run P w=.ok (.bool false) w:=by
 simp[binOp,JL w hu hs,Result.andThen]
end Eng
end
end Go.Proofs.YthkajgkagnenbaaGreatDoor
