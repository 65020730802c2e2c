import Derived.Test.YthkajgkagnenbaaGreatDoorEngRange
import Derived.Laws.StructEq
import Derived.Test.YthkajgkagnenbaaGreatDoorEngDraw
set_option linter.unusedVariables false
set_option linter.unusedSimpArgs false
set_option linter.unusedSectionVars false
namespace Go.Proofs.YthkajgkagnenbaaGreatDoor
section
namespace Eng
open Go.RowKit
section
variable {P:Program} {t:TypeId} (w:World)
theorem wA {x y:Value} {b:Bool} (h:∀ d,(Op.equalIn (d+1) t x y).run P w=.ok b w):(Op.equal t x y).run P w=.ok b w:=h 9999
theorem wG {ps rs:Array TypeId} {v:Bool} (hu:P.underlying t=some (.func ps rs v)) {f:Fn} {a b:Array Value}:(binOp .eql t (.func f a b) .nilFunc).run P w=.ok (.bool false) w:=by
 have:=wA (P:=P) (t:=t) w (x:=.func f a b) (y:=.nilFunc) (b:=false) (fun d=>by simp[Op.equalIn,run_underlying hu,Result.andThen])
 simp[binOp,this,Result.andThen]
theorem D0 (hu:P.underlying t=some .bool) {a b:Bool}:(binOp .eql t (.bool a) (.bool b)).run P w=.ok (.bool (a == b)) w:=by
 have:=wA (P:=P) (t:=t) w (x:=.bool a) (y:=.bool b) (b:=a == b) (fun d=>by simp[Op.equalIn,run_underlying hu,Result.andThen])
 simp[binOp,this,Result.andThen]
theorem kL (hu:P.underlying t=some .bool) {a b:Bool}:(binOp .neq t (.bool a) (.bool b)).run P w=.ok (.bool (!(a == b))) w:=by
 have:=wA (P:=P) (t:=t) w (x:=.bool a) (y:=.bool b) (b:=a == b) (fun d=>by simp[Op.equalIn,run_underlying hu,Result.andThen])
 simp[binOp,this,Result.andThen]
theorem Hq {e:TypeId} (hu:P.underlying t=some (.pointer e)) {a:Option Addr}:(Op.equal t (.pointer a) (.pointer none)).run P w=.ok a.isNone w:=
 wA w (fun d=>by cases a <;> simp[Op.equalIn,run_underlying hu,Result.andThen])
theorem iQ {e:TypeId} (hu:P.underlying t=some (.pointer e)) {a:Option Addr}:(binOp .eql t (.pointer a) (.pointer none)).run P w=.ok (.bool a.isNone) w:=by
 simp[binOp,Hq w hu,Result.andThen]
def iL (P:Program):List Field→Nat→List Value→Bool
 | [],_,[]=>true
 | f :: fs, n, x :: xs => Nat.beq f.offset n && !(f.name == "_") && (match P.underlying f.type, x with
  | some (.int k),.int k' _=>k == k'
  | some .bool,.bool _=>true
  | some .string,.string _=>true
  | _,_=>false) && iL P fs (n+1) xs
 | _,_,_=>false
theorem bytes_beq (a b:ByteArray):(a == b)=true↔a=b:=by
 cases a with | mk a=>cases b with | mk b=>
 have h:((ByteArray.mk a) == (ByteArray.mk b))=(a == b):=rfl
 rw[h];simp
theorem qL (d:Nat):∀(fs:List Field) (n:Nat) (pre pre' xs ys:List Value),iL P fs n xs=true→iL P fs n ys=true→pre.length=n→pre'.length=n→
  ∃ r:Bool,(Op.eqFields (d+1) (pre ++ xs).toArray (pre' ++ ys).toArray fs).run P w=.ok r w∧(r=true↔xs=ys)
 | [],n,pre,pre',xs,ys,hx,hy,_,_=>by
  cases xs with
  | cons _ _=>simp[iL] at hx
  | nil=>
   cases ys with
   | cons _ _=>simp[iL] at hy
   | nil=>exact⟨true,by simp[Op.eqFields],by simp⟩
 | f::fs,n,pre,pre',xs,ys,hx,hy,hp,hp'=>by
  cases xs with
  | nil=>simp[iL] at hx
  | cons x xs=>
   cases ys with
   | nil=>simp[iL] at hy
   | cons y ys=>
    simp only[iL,Bool.and_eq_true] at hx hy
    obtain⟨⟨⟨h1,h2⟩,h3⟩,h4⟩:=hx
    obtain⟨⟨_,k3⟩,k4⟩:=hy
    have ho:f.offset=n:=Nat.eq_of_beq_eq_true h1
    have hname : f.name ≠ "_" := by simpa using h2
    obtain⟨r',hr',hiff'⟩:=qL d fs (n+1) (pre ++ [x]) (pre' ++ [y]) xs ys h4 k4 (by simp[hp]) (by simp[hp'])
    simp only[List.append_assoc,List.singleton_append] at hr'
    have gx:(pre ++ x::xs).toArray[f.offset]?=some x:=by rw[ho,← hp];simp
    have gy:(pre' ++ y::ys).toArray[f.offset]?=some y:=by rw[ho,← hp'];simp
    have done:∀ r:Bool,(isAgg f.type).run P w=.ok false w→(Op.equalIn (d+1) f.type x y).run P w=.ok r w→(r=true↔x=y)→
      ∃ r:Bool,(Op.eqFields (d+1) (pre ++ x::xs).toArray (pre' ++ y::ys).toArray (f::fs)).run P w=.ok r w∧(r=true↔x::xs=y::ys):=fun r ha he hiff=>by
     have px:(part f.type (pre ++ x::xs).toArray f.offset).run P w=.ok x w:=by unfold part;simp only[Sem.run_bind,ha,Result.andThen,Bool.false_eq_true,if_false,gx,Sem.run_pure]
     have py:(part f.type (pre' ++ y::ys).toArray f.offset).run P w=.ok y w:=by unfold part;simp only[Sem.run_bind,ha,Result.andThen,Bool.false_eq_true,if_false,gy,Sem.run_pure]
     simp only[Op.eqFields,hname,ne_eq,not_false_eq_true,if_true,Sem.run_bind,px,py,he,Result.andThen]
     cases r
     ·exact⟨false,by simp,by simp;intro e;exact absurd (hiff.2 e) (by simp)⟩
     refine⟨r',by simpa using hr',?_⟩
     rw[hiff']
     simp[hiff.1 rfl]
    split at h3
    ·next k k' a hu=>
     rw[hu] at k3
     cases y <;> simp at k3 h3
     next k'' b=>
      subst h3;subst k3
      refine done (decide (a=b)) (by simp[isAgg,run_underlying hu,Result.andThen]) ?_ (by simp)
      simp[Op.equalIn,run_underlying hu,Result.andThen]
      by_cases q:a=b <;> simp[q]
    ·next a hu=>
     rw[hu] at k3
     cases y <;> simp at k3
     next b=>
      refine done (a == b) (by simp[isAgg,run_underlying hu,Result.andThen]) ?_ (by simp)
      simp[Op.equalIn,run_underlying hu,Result.andThen]
    ·next a hu=>
     rw[hu] at k3
     cases y <;> simp at k3
     next b=>
      refine done (a == b) (by simp[isAgg,run_underlying hu,Result.andThen]) ?_ (by rw[bytes_beq];simp)
      simp[Op.equalIn,run_underlying hu,Result.andThen]
    cases h3
open Classical in
theorem wB {fs:Array Field} (hu:P.underlying t=some (.struct fs)) (hst:P.stoodInHeld t=false) {xs ys:List Value} (hx:iL P fs.toList 0 xs=true) (hy:iL P fs.toList 0 ys=true):
  (Op.equal t (.agg xs.toArray) (.agg ys.toArray)).run P w=.ok (decide (xs=ys)) w:=by
 have hfs:P.fieldsOf t=fs:=by simp[Program.fieldsOf,hu]
 obtain⟨r,hr,hiff⟩:=qL (P:=P) w 9998 fs.toList 0 [] [] xs ys hx hy rfl rfl
 have:=run_equalIn_struct (P:=P) w 9999 t xs.toArray ys.toArray (by rw[hfs];exact hu) hst
 show(Op.equalIn (9999+1) t _ _).run P w=_
 rw[this,hfs]
 simp only[List.nil_append] at hr
 rw[hr]
 congr 1
 by_cases q:xs=ys
 ·rw[decide_eq_true q];exact hiff.2 q
 rw[decide_eq_false q];cases r with
 | false=>rfl
 | true=>exact absurd (hiff.1 rfl) q
open Classical in
theorem g7 {fs:Array Field} (hu:P.underlying t=some (.struct fs)) (hst:P.stoodInHeld t=false) {xs ys:List Value} (hx:iL P fs.toList 0 xs=true) (hy:iL P fs.toList 0 ys=true):
  (binOp .eql t (.agg xs.toArray) (.agg ys.toArray)).run P w=.ok (.bool (decide (xs=ys))) w:=by
 simp[binOp,wB w hu hst hx hy,Result.andThen]
open Classical in
theorem x6 {fs:Array Field} (hu:P.underlying t=some (.struct fs)) (hst:P.stoodInHeld t=false) {xs ys:List Value} (hx:iL P fs.toList 0 xs=true) (hy:iL P fs.toList 0 ys=true):
  (binOp .neq t (.agg xs.toArray) (.agg ys.toArray)).run P w=.ok (.bool (decide (¬ xs=ys))) w:=by
 simp[binOp,wB w hu hst hx hy,Result.andThen]
theorem l5 {op:BinOp} {x y:Operand} {xs ys:Array Value} (h:P.eqGuardType P.depth t=false):(eqGuard op t x y (.agg xs) (.agg ys)).run P w=.ok () w:=by
 unfold eqGuard
 cases op <;> simp[Result.andThen,h]
end
section
variable {c:Cx} {fin:Exit→Act→World→Prop} {ds:List Deferred} {E:Env} {L:List HP} {ks:List KI} {ops:Array Oper} {rest:List Oper}
variable {d:Option Tmp} {ty:TypeId} {pos:String} {af:Array Edge}
def placesOf (t:TypeId):Sem (Array (Nat×Nat)):=do
 match ← underlying t with
 | .struct fields=>fields.mapM fun f=>do pure (f.offset,← sizeOf f.type)
 | _ => stuck "no struct"
inductive aH:List (Nat×Nat)→Nat→Nat→Nat→Prop
 | here {o n:Nat} {l:List (Nat×Nat)}:aH ((o,n)::l) 0 o n
 | there {x:Nat×Nat} {i o n:Nat} {l:List (Nat×Nat)}:aH l i o n→aH (x::l) (i+1) o n
theorem aH.eq {l:List (Nat×Nat)} {i o n:Nat} (h:aH l i o n):l.toArray[i]?=some (o,n):=by
 have:l[i]?=some (o,n):=by
  induction h with
  | here=>rfl
  | there _ ih=>simpa using ih
 simpa using this
inductive aF (pl:List (Nat×Nat)):List Value→List (Nat×Value)→List Value→Prop
 | nil {cs:List Value}:aF pl cs [] cs
 | one {cs cs1 cs2:List Value} {i o:Nat} {v:Value} {r:List (Nat×Value)}:aH pl i o 1→v.oneCell'=true→fM cs o v cs1→aF pl cs1 r cs2→aF pl cs ((i,v)::r) cs2
 | all {cs cs1 cs2 us:List Value} {i o n:Nat} {r:List (Nat×Value)}:aH pl i o n→us.length=n→us≠[]→fN cs o us cs1→aF pl cs1 r cs2→aF pl cs ((i,.agg us.toArray)::r) cs2
theorem lC {b:Nat}:∀(us:List Value) (k o:Nat) (cs:Array Value),(us.zipIdx k).foldl (fun(cs:Array Value) (p:Value×Nat)=>cs.setIfInBounds (o+p.2) p.1) cs=setCells cs (o+k) us
 | [],_,_,_=>rfl
 | u::r,k,o,cs=>by
  simp only[List.zipIdx_cons,List.foldl_cons,setCells]
  rw[lC (b:=b) r (k+1) o,Nat.add_assoc]
theorem fN.len {l l' vs:List Value} {o:Nat} (h:fN l o vs l'):l'.length=l.length:=by
 induction h with
 | nil=>rfl
 | cons h1 _ ih=>rw[ih,h1.eq.2.2]
theorem aF.eq {pl:List (Nat×Nat)} {cs cs':List Value} {ps:List (Nat×Value)} (h:aF pl cs ps cs'):Instr.fill (pl.toArray[·]?) cs.toArray ps=some cs'.toArray:=by
 induction h with
 | nil=>rfl
 | @one cs cs1 cs2 i o v r h1 h2 h3 _ ih=>
  obtain⟨a1,a2,a3⟩:=h3.eq
  simp only[Instr.fill,h1.eq,fE h2]
  rw[if_neg (by simp;omega)]
  rw[← ih,← a2]
  congr 1
 | @all cs cs1 cs2 us i o n r h1 h2 hne h3 _ ih=>
  obtain⟨b1,b2⟩:=h3.eq
  have e:Value.cells (.agg us.toArray)=us.toArray:=rfl
  simp only[Instr.fill,h1.eq,e]
  have hfold:us.toArray.zipIdx.foldl (fun(cs:Array Value) (p:Value×Nat)=>cs.setIfInBounds (o+p.2) p.1) cs.toArray=cs1.toArray:=by
   have:=lC (b:=0) us 0 o cs.toArray
   rw[Nat.add_zero,b2] at this
   rw[← this,← Array.foldl_toList];simp
  rcases b1 with rfl | b1
  ·exact absurd rfl hne
  rw[if_neg (by simp[h2];omega),← ih,← hfold]
theorem aQ {gd:Option (Nat×Bool)} {t:TypeId} {ps:Array (Nat×Operand)} {pl:List (Nat×Nat)} {z us:List Value} {vs:List (Nat×Value)} (hx:evp E ps.toList=some vs) (hp:∀ w,(placesOf t).run c.P w=.ok pl.toArray w)
  (hz:∀ w,(zeroValue t).run c.P w=.ok (.agg z.toArray) w) (hf:aF pl z vs us):QV c ds E L ⟨d,.build t ps,ty,pos,af,gd⟩ (.agg us.toArray):=
 vY hx fun w=>by
  have h1:=hp w
  have h2:=hz w
  unfold placesOf at h1
  unfold Instr.build
  simp only[Sem.run_bind,h2,Result.andThen] at h1 ⊢
  generalize (underlying t).run c.P w=r at h1 ⊢
  cases r with
  | halt x w'=>simp only at h1;cases h1
  | ok dsc w'=>
   simp only at h1 ⊢
   cases dsc <;> simp only[Sem.run_bind,Result.andThen] at h1 ⊢ <;> first | (cases h1;done) | skip
   next fields=>
    have e:Value.cells (.agg z.toArray)=z.toArray:=rfl
    rw[h1]
    simp only[e,hf.eq,Sem.run_pure]
theorem Dt {x:Code} {t:Tmp} {b:Bool} (hb:lk E t=some (.bool b)) (h1:b=true→TC c fin ds ((t,.bool true)::E) L x ks) (h2:b=false→TC c fin ds ((t,.bool false)::E) L x ks):TC c fin ds E L x ks:=fun a w hs=>by
 have hag:∀ b',b=b'→St c ds ((t,.bool b')::E) L a w:=fun b' e=>⟨hs.size,hs.defs,fun u v e'=>by
  simp only[lk] at e'
  by_cases q:t=u
  ·subst q;simp only[Nat.beq_refl,Option.some.injEq] at e';subst e';rw[← e];exact hs.agree _ _ hb
  rw[show Nat.beq t u=false from lZ q] at e';exact hs.agree _ _ e',hs.sat,hs.ext⟩
 cases b with
 | true=>exact h1 rfl a w (hag _ rfl)
 | false=>exact h2 rfl a w (hag _ rfl)
theorem aa {gd:Option (Nat×Bool)} {x:Operand} {i:Nat} {l:List Value} {v:Value} (hx:ev E x=some (.tuple l.toArray)) (hv:iR l i v):QV c ds E L ⟨d,.extract x i,ty,pos,af,gd⟩ v:=xk hx hv.eq
inductive mQ:List Value→Nat→Nat→List Value→Prop
 | nil {l:List Value}:mQ l 0 0 []
 | take {x:Value} {l us:List Value} {n:Nat}:mQ l 0 n us→mQ (x::l) 0 (n+1) (x::us)
 | skip {x:Value} {l us:List Value} {o n:Nat}:mQ l o n us→mQ (x::l) (o+1) n us
theorem mQ.eq {l us:List Value} {o n:Nat} (h:mQ l o n us):l.toArray.extract o (o+n)=us.toArray∧o+n≤l.length:=by
 have:(l.drop o).take n=us∧o+n≤l.length:=by
  induction h with
  | nil=>simp
  | take _ ih=>obtain⟨h1,h2⟩:=ih;exact⟨by simpa using h1,by simpa using h2⟩
  | skip _ ih=>obtain⟨h1,h2⟩:=ih;exact⟨by simpa using h1,by simp;omega⟩
 refine⟨?_,this.2⟩
 apply Array.ext'
 simp only[Array.toList_extract,List.extract_eq_take_drop]
 rw[show o+n-o=n by omega];exact this.1
theorem sb {l us:List Value} {o n:Nat} (h:mQ l o n us:=by repeat (first | exact mQ.nil | apply mQ.take | apply mQ.skip)):mQ l o n us:=h
theorem uM {gd:Option (Nat×Bool)} {t:TypeId} {x:Operand} {b o n:Nat} {us l:List Value} {tt:TypeId} {fr:Nat×Nat} {M:List HP} (hx:ev E x=some (.pointer (some ⟨b,o,none⟩)))
  (ha:∀ w,(isAgg t).run c.P w=.ok true w) (hn:∀ w,(sizeOf t).run c.P w=.ok n w) (ht:Take (pt b (.cells l.toArray tt fr)) L M) (hv:mQ l o n us):QV c ds E L ⟨d,.load t x,ty,pos,af,gd⟩ (.agg us.toArray):=
 qp hx ha hn ht (Nat.ble_eq_true_of_le (by simpa using hv.eq.2)) hv.eq.1
theorem qq {gd:Option (Nat×Bool)} {s:TypeId} {x:Operand} {l:List Value} {i:Nat} (k:Nat) {fs:Array Field} {f:Field} {v:Value} (hx:ev E x=some (.agg l.toArray)) (hs:c.P.underlying s=some (.struct fs)) (hf:fs[i]?=some f)
  (ha:∀ w,(isAgg f.type).run c.P w=.ok false w) (hk:f.offset=k) (hv:iR l k v):QV c ds E L ⟨d,.field s x i,ty,pos,af,gd⟩ v:=zp hx hs hf ha (by rw[hk];exact hv.eq)
theorem rB {gd:Option (Nat×Bool)} {s:TypeId} {x:Operand} {b o i n:Nat} (k:Nat) {fields:Array Field} {f:Field} (hx:ev E x=some (.pointer (some ⟨b,o,none⟩))) (hs:c.P.underlying s=some (.struct fields)) (hf:fields[i]?=some f) (hk:f.offset=k)
  (hn:∀ w,(sizeOf f.type).run c.P w=.ok (n+1) w):QV c ds E L ⟨d,.fieldAddr s x i,ty,pos,af,gd⟩ (.pointer (some ⟨b,o+k,none⟩)):=by
 subst hk;exact th hx hs hf hn
theorem aM {gd:Option (Nat×Bool)} {t e:TypeId} {x y:Operand} {b len cap:Nat} {kd:IntKind} (n:Nat) (hx:ev E x=some (.slice (some ⟨b,0,none⟩) len cap)) (hy:ev E y=some (.int kd (n:Int))) (hu:c.P.underlying t=some (.slice e))
  (hn:∀ w,(sizeOf e).run c.P w=.ok 1 w) (hi:n < len):QV c ds E L ⟨d,.indexAddr t x y,ty,pos,af,gd⟩ (.pointer (some ⟨b,n,none⟩)):=by
 have:=ay (c:=c) (ds:=ds) (L:=L) (d:=d) (ty:=ty) (pos:=pos) (af:=af) (gd:=gd) hx hy hu hn (by omega)
 rwa [Nat.zero_add,Int.toNat_natCast] at this
theorem zK (z:Value) (n:Nat):(madeCells #[z] n).toList=List.replicate n z:=by
 apply List.ext_getElem
 ·simp[size_madeCells]
 intro i h1 h2
 simp[madeCells,Nat.mod_one]
theorem tQ:∀ {us:List Value},us.all (·.oneCell')=true→us.flatMap (·.cells.toList)=us
 | [],_=>rfl
 | u::r,h=>by
  simp only[List.all_cons,Bool.and_eq_true] at h
  rw[List.flatMap_cons,tQ h.2,fE h.1];rfl
theorem aW {t e:TypeId} {len:Nat} {z:Value} {ps:Array (Nat×Operand)} (us:List Value) (hd:cG d c.N=true) (hx:evp E ps.toList=some ((us.zipIdx 0).map fun p=>(p.2,p.1)))
  (ht:c.P.underlying t=some (.slice e)) (hn:∀ w,(sizeOf e).run c.P w=.ok 1 w) (hz:∀ w,(zeroValue e).run c.P w=.ok z w) (hzs:z.oneCell'=true) (hlen:us.length=len) (hsm:Nat.ble len 16777216=true) (hone:us.all (·.oneCell')=true)
  (k:∀ b,TL c fin ds (upd d (.slice (some ⟨b,0,none⟩) len len) E) (pt b (.cells us.toArray e (0,0))::L) ops rest ks):TL c fin ds E L ops (⟨d,.buildSlice t len ps,ty,pos,af,none⟩::rest) ks:=by
 refine ei (us:=us) (cs:=us.toArray) hd hx ht hn hz (by rw[fE hzs];rfl) hlen (by rw[Nat.mul_one];exact hsm) ?_ (by rw[tQ hone]) k
 rw[List.all_eq_true] at hone ⊢
 intro v hv
 rw[fE (hone v hv)];rfl
theorem da {t e:TypeId} {x y:Operand} {z:Value} {bytes:Nat} {kl kc:IntKind} {l m:Int} (hd:cG d c.N=true) (hx:ev E x=some (.int kl l)) (hy:ev E y=some (.int kc m))
  (ht:c.P.underlying t=some (.slice e)) (hinf:∃ i,c.P.info? e=some i∧i.zero=some z∧i.size=1∧i.bytes=bytes) (hz:z.oneCell'=true) (h0:0≤l∧l≤m) (hb:(bytes:Int)*m≤281474976710656∧m≤9223372036854775807)
  (k:∀ b,TL c fin ds (upd d (.slice (some ⟨b,0,none⟩) l.toNat m.toNat) E) (aE e 1 (.slice (some ⟨b,0,none⟩) l.toNat m.toNat) l.toNat (List.replicate l.toNat z)::L) ops rest ks):TL c fin ds E L ops (⟨d,.makeSlice t x y,ty,pos,af,none⟩::rest) ks:=
 jU hd (by intro k;simp) (fun b=>.slice (some ⟨b,0,none⟩) l.toNat m.toNat) (fun b=>aE e 1 (.slice (some ⟨b,0,none⟩) l.toNat m.toNat) l.toNat (List.replicate l.toNat z)::L) (fun a w hs=>by
  obtain⟨i,hi,hiz,hsize,hby⟩:=hinf
  have hr:=run_make w t e i z ht hi hiz kl kc l m h0.1 h0.2 (by rw[hby];exact hb.1) hb.2
  refine⟨w.heap.size,w.alloc (.cells (madeCells z.cells (m.toNat*i.size)) e),?_,?_,(Ext.refl w).alloc _⟩
  ·simp only[execOp,Sem.run_bind,hs.ev hx,hs.ev hy,hr,Result.andThen,Sem.run_pure]
  refine dB (hs.sat.alloc _) (by simp) (by omega) (by simp only[maxLen];omega) (by simp[size_madeCells,hsize]) ?_
  rw[fE hz,zK,hsize,List.take_replicate]
  congr 1;omega) k
theorem aD {P:Program} {t:TypeId} {b n:Nat} {cs:Array Value} {tt:TypeId} {fr:Nat×Nat} (ha:∀ w,(isAgg t).run P w=.ok true w) (hn:∀ w,(sizeOf t).run P w=.ok n w) (h:cs.size=n):
  ∀ w,w.heap[b]?=some (.cells cs tt fr)→(loadVar t ⟨b,0,none⟩).run P w=.ok (.agg cs) w:=fun w hb=>by
 have:=run_loadCells (P:=P) hb n 0 (by omega)
 simp only[loadVar,Sem.run_bind,ha,Result.andThen,if_true,hn,this,Sem.run_pure]
 congr 2
 rw[Nat.zero_add,← h];simp
end
end Eng
end
section
namespace Eng
open Go.RowKit
inductive iB:Bool→Prop→Prop→Prop
 | d {φ:Prop} [Decidable φ]:iB (decide φ) φ (¬ φ)
 | n {φ:Prop} [Decidable φ]:iB (!decide φ) (¬ φ) φ
 | b {b:Bool}:iB b (b=true) (b=false)
theorem iB.t {b:Bool} {P N:Prop} (h:iB b P N) (e:b=true):P:=by
 cases h with
 | d=>exact of_decide_eq_true e
 | n=>simpa using e
 | b=>exact e
theorem iB.f {b:Bool} {P N:Prop} (h:iB b P N) (e:b=false):N:=by
 cases h with
 | d=>exact of_decide_eq_false e
 | n=>simpa using e
 | b=>exact e
class AddN (o k:Nat) (r:outParam Nat):Prop where
 eq:o+k=r
instance addN0 {k:Nat}:AddN 0 k k:=⟨Nat.zero_add k⟩
instance (priority:=low) addN1 {o k:Nat}:AddN o k (o+k):=⟨rfl⟩
theorem mh {k:IntKind} {n:Int}:k.wrap n=k.wrap n:=rfl
def aft (i:Nat):List KI→Option (List KI)
 | []=>none
 | .blk j::r=>match Nat.beq i j with | true=>some r | false=>aft i r
 | .code _::r=>aft i r
 | .lp _::r=>aft i r
 | .sc::r=>aft i r
section
variable {c:Cx} {fin:Exit→Act→World→Prop} {ds:List Deferred} {E:Env} {L M:List HP} {ks ks':List KI} {ops:Array Oper} {rest:List Oper}
variable {d:Option Tmp} {ty:TypeId} {pos:String} {af:Array Edge} {gd:Option (Nat×Bool)} {id:Nat} {l:List Oper} {y:Code}
theorem sr (h:TL c fin ds E L l.toArray l (.code y::ks)):TC c fin ds E L (.seq (.region id l.toArray false) y) ks:=ah (aB h)
theorem nz (h:TL c fin ds E L l.toArray l (.code y::ks)):TN c fin ds E L .normal (.code (.seq (.region id l.toArray false) y)::ks):=ak (sr h)
theorem lz (h:TL c fin ds E L l.toArray l (.code y::ks)):TL c fin ds E L ops [] (.code (.seq (.region id l.toArray false) y)::ks):=aj (nz h)
theorem lc (h:TC c fin ds E L y ks):TL c fin ds E L ops [] (.code y::ks):=aj (ak h)
theorem lr (h:TL c fin ds E L l.toArray l ks):TL c fin ds E L ops [] (.code (.region id l.toArray false)::ks):=lc (aB h)
theorem sB {i:Nat}:∀ {ks ks':List KI},aft i ks=some ks'→TN c fin ds E L .normal ks'→TN c fin ds E L (.exit i) ks
 | [],_,h,_=>by cases h
 | .blk j::r,_,h,k=>by
  simp only[aft] at h
  by_cases q:i=j
  ·subst q;simp only[Nat.beq_refl,Option.some.injEq] at h;subst h;exact EJ k
  rw[lZ q] at h;exact yK (lZ q) (sB h k)
 | .code _::r,_,h,k=>yL (sB (ks:=r) h k)
 | .lp _::r,_,h,k=>EI (sB (ks:=r) h k)
 | .sc::r,_,h,k=>EH (sB (ks:=r) h k)
theorem xt {i:Nat} (h:aft i ks=some ks') (k:TN c fin ds E L .normal ks'):TC c fin ds E L (.exit i) ks:=y5 (sB h k)
def uV (i:Nat):List KI→Bool
 | []=>true
 | .blk j::r=>!Nat.beq i j && uV i r
 | .code _::r=>uV i r
 | .lp _::r=>uV i r
 | .sc::r=>uV i r
theorem sD {i:Nat} (k:TN c fin ds E L (.exit i) []):∀ {ks:List KI},uV i ks=true→TN c fin ds E L (.exit i) ks
 | [],_=>k
 | .blk j::r,h=>by
  simp only[uV,Bool.and_eq_true,Bool.not_eq_true'] at h
  exact yK h.1 (sD k h.2)
 | .code _::r,h=>yL (sD (ks:=r) k h)
 | .lp _::r,h=>EI (sD (ks:=r) k h)
 | .sc::r,h=>EH (sD (ks:=r) k h)
theorem xe {i:Nat} (h:uV i ks=true) (k:TN c fin ds E L (.exit i) []):TC c fin ds E L (.exit i) ks:=y5 (sD k h)
theorem sY:∀ {ks:List KI},TN c fin ds E L .ret []→TN c fin ds E L .ret ks
 | [],k=>k
 | .blk _::r,k=>EN (sY (ks:=r) k)
 | .code _::r,k=>DB (sY (ks:=r) k)
 | .lp _::r,k=>Hl (sY (ks:=r) k)
 | .sc::r,k=>Hk (sY (ks:=r) k)
theorem rt (k:TN c fin ds E L .ret []):TC c fin ds E L .ret ks:=EK (sY k)
theorem aA {x:Operand} {p q:Code} {b:Bool} {P N:Prop} (hx:ev E x=some (.bool b)) (h1:P→TC c fin ds E L p ks) (h2:N→TC c fin ds E L q ks)
  (hb:iB b P N:=by first | exact .d | exact .n | exact .b):TC c fin ds E L (.cond x p q) ks:=Du hx (fun e=>h1 (hb.t e)) (fun e=>h2 (hb.f e))
theorem bD {t:Tmp} {b:Bool} {P N:Prop} (hx:lk E t=some (.bool b)) (h1:P→TL c fin ds ((t,.bool true)::E) L ops l ks) (h2:N→TL c fin ds ((t,.bool false)::E) L ops l ks)
  (hb:iB b P N:=by first | exact .d | exact .n | exact .b):TL c fin ds E L ops l ks:=DJ hx (fun e=>h1 (hb.t e)) (fun e=>h2 (hb.f e))
theorem ml {x:Code} {t:Tmp} {b:Bool} {P N:Prop} (hx:lk E t=some (.bool b)) (h1:P→TC c fin ds ((t,.bool true)::E) L x ks) (h2:N→TC c fin ds ((t,.bool false)::E) L x ks)
  (hb:iB b P N:=by first | exact .d | exact .n | exact .b):TC c fin ds E L x ks:=Dt hx (fun e=>h1 (hb.t e)) (fun e=>h2 (hb.f e))
theorem jW {done q:List Nat} {t:Tmp} {b:Bool} {P N:Prop} (hx:lk E t=some (.bool b)) (h1:P→TD c fin ds ((t,.bool true)::E) L ops done q ks) (h2:N→TD c fin ds ((t,.bool false)::E) L ops done q ks)
  (hb:iB b P N:=by first | exact .d | exact .n | exact .b):TD c fin ds E L ops done q ks:=DX hx (fun e=>h1 (hb.t e)) (fun e=>h2 (hb.f e))
theorem mv {x:Operand} {v:Value} (hd:cG d c.N=true) (hx:ev E x=some v) (k:TL c fin ds (upd d v E) L ops rest ks):TL c fin ds E L ops (⟨d,.move x,ty,pos,af,none⟩::rest) ks:=l_q hd (ai hx) k
theorem asg {x:Operand} {v:Value} (hd:cG d c.N=true) (hx:ev E x=some v) (k:TL c fin ds (upd d v E) L ops rest ks):TL c fin ds E L ops (⟨d,.assign x,ty,pos,af,none⟩::rest) ks:=l_q hd (zq hx) k
theorem aL {x y z:Operand} {b:Bool} {v:Value} (hx:ev E x=some (.bool b)) (hy:ev E (match b with | true=>y | false=>z)=some v):QV c ds E L ⟨d,.pick x y z,ty,pos,af,gd⟩ v:=by
 cases b
 ·exact zn hx hy
 exact zm hx hy
theorem qfa {s:TypeId} {x:Operand} {b o i n r:Nat} (k:Nat) {fields:Array Field} {f:Field} (hx:ev E x=some (.pointer (some ⟨b,o,none⟩))) (hs:c.P.underlying s=some (.struct fields)) (hf:fields[i]?=some f) (hk:f.offset=k)
  (hn:∀ w,(sizeOf f.type).run c.P w=.ok (n+1) w) [a:AddN o k r]:QV c ds E L ⟨d,.fieldAddr s x i,ty,pos,af,gd⟩ (.pointer (some ⟨b,r,none⟩)):=by
 rw[← a.eq];exact rB k hx hs hf hk hn
theorem qld {t:TypeId} {x:Operand} {b o:Nat} {v:Value} {l:List Value} {tt:TypeId} {fr:Nat×Nat} {M:List HP} (hx:ev E x=some (.pointer (some ⟨b,o,none⟩)))
  (ha:∀ w,(isAgg t).run c.P w=.ok false w) (ht:Take (pt b (.cells l.toArray tt fr)) L M:=by exact tk) (hv:iR l o v:=by exact ga):QV c ds E L ⟨d,.load t x,ty,pos,af,gd⟩ v:=BS hx ha ht hv
theorem aK {t:TypeId} {x:Operand} {b o n:Nat} {us l:List Value} {tt:TypeId} {fr:Nat×Nat} {M:List HP} (hx:ev E x=some (.pointer (some ⟨b,o,none⟩)))
  (ha:∀ w,(isAgg t).run c.P w=.ok true w) (hn:∀ w,(sizeOf t).run c.P w=.ok n w) (ht:Take (pt b (.cells l.toArray tt fr)) L M:=by exact tk) (hv:mQ l o n us:=by exact sb):QV c ds E L ⟨d,.load t x,ty,pos,af,gd⟩ (.agg us.toArray):=
 uM hx ha hn ht hv
section
variable {op:BinOp} {t u:TypeId} {x y:Operand} {v:Value} {kx ky:IntKind} {a b:Int}
theorem qi (hx:ev E x=some (.int kx a)) (hy:ev E y=some (.int ky b)) (hr:∀ w,(binOp op t (.int kx a) (.int ky b)).run c.P w=.ok v w):QV c ds E L ⟨d,.binOp op t x y u,ty,pos,af,gd⟩ v:=fz hx hy (fun w=>EX w) hr
theorem qs {a b:ByteArray} (hx:ev E x=some (.string a)) (hy:ev E y=some (.string b)) (hr:∀ w,(binOp op t (.string a) (.string b)).run c.P w=.ok v w):QV c ds E L ⟨d,.binOp op t x y u,ty,pos,af,gd⟩ v:=fz hx hy (fun w=>Af w) hr
theorem qb {a b:Bool} (hx:ev E x=some (.bool a)) (hy:ev E y=some (.bool b)) (hr:∀ w,(binOp op t (.bool a) (.bool b)).run c.P w=.ok v w):QV c ds E L ⟨d,.binOp op t x y u,ty,pos,af,gd⟩ v:=fz hx hy (fun w=>DQ w) hr
theorem ba {r:Int} (hx:ev E x=some (.int kx a)) (hy:ev E y=some (.int kx b)) (hr:kx.wrap (a+b)=r:=by first | exact wrap_i64 (by omega) | exact wrap_u64 (by omega) | exact mh):QV c ds E L ⟨d,.binOp .add t x y u,ty,pos,af,gd⟩ (.int kx r):=qi hx hy fun w=>by rw[G2,hr]
theorem e9 {r:Int} (hx:ev E x=some (.int kx a)) (hy:ev E y=some (.int kx b)) (hr:kx.wrap (a-b)=r:=by first | exact wrap_i64 (by omega) | exact wrap_u64 (by omega) | exact mh):QV c ds E L ⟨d,.binOp .sub t x y u,ty,pos,af,gd⟩ (.int kx r):=qi hx hy fun w=>by rw[G0,hr]
theorem dF {r:Int} (hx:ev E x=some (.int kx a)) (hy:ev E y=some (.int kx b)) (hr:kx.wrap (a*b)=r:=by first | exact wrap_i64 (by omega) | exact wrap_u64 (by omega) | exact mh):QV c ds E L ⟨d,.binOp .mul t x y u,ty,pos,af,gd⟩ (.int kx r):=qi hx hy fun w=>by rw[G1,hr]
theorem gI (hx:ev E x=some (.int kx a)) (hy:ev E y=some (.int kx b)) (hr:∀ w,(binOp .quo t (.int kx a) (.int kx b)).run c.P w=.ok v w:=by first | exact fun w=>Cp w (by omega) | exact fun w=>Dh w (by omega)):QV c ds E L ⟨d,.binOp .quo t x y u,ty,pos,af,gd⟩ v:=qi hx hy hr
theorem iT (hx:ev E x=some (.int kx a)) (hy:ev E y=some (.int kx b)) (hr:∀ w,(binOp .rem t (.int kx a) (.int kx b)).run c.P w=.ok v w:=by first | exact fun w=>Co w (by omega) | exact fun w=>Dg w (by omega)):QV c ds E L ⟨d,.binOp .rem t x y u,ty,pos,af,gd⟩ v:=qi hx hy hr
theorem gn (hx:ev E x=some (.int kx a)) (hy:ev E y=some (.int kx b)) (ho:(match op with | .and | .or | .xor | .andNot=>true | _=>false)=true):QV c ds E L ⟨d,.binOp op t x y u,ty,pos,af,gd⟩ (.int kx (bits op kx a b)):=qi hx hy fun w=>D1 w ho
theorem qcv {s t:TypeId} {n r:Int} {k:IntKind} {u:TypeDesc} (hx:ev E x=some (.int kx n)) (hs:c.P.underlying s=some u) (ht:c.P.underlying t=some (.int k)) (hr:k.wrap n=r:=by first | exact wrap_i64 (by omega) | exact wrap_u64 (by omega) | exact wrap_u8 (by omega) | exact mh):
  QV c ds E L ⟨d,.convert s t x,ty,pos,af,gd⟩ (.int k r):=uO hx fun w=>by rw[Aw w hs ht,hr]
end
theorem ql {x:Operand} {t e:TypeId} {a:Option Addr} {n m:Nat} (hx:ev E x=some (.slice a n m)) (hu:c.P.underlying t=some (.slice e)):QV c ds E L ⟨d,.call {callee:=.builtin .len,args:=#[x],argTypes:=#[t]},ty,pos,af,gd⟩ (.int .i64 n):=CT hx fun w=>xC hu w
theorem qls {x:Operand} {t:TypeId} {s:ByteArray} (hx:ev E x=some (.string s)) (hu:c.P.underlying t=some .string):QV c ds E L ⟨d,.call {callee:=.builtin .len,args:=#[x],argTypes:=#[t]},ty,pos,af,gd⟩ (.int .i64 s.size):=CT hx fun w=>u1 hu w
class GetC (l:List Oper) (i:Nat) (t:outParam Tmp) (o:outParam Oper):Prop where
 eq:l.toArray[i]?=some o
 dst:o.dst=some t
instance getC0 {t:Tmp} {op:Op} {l:List Oper}:GetC (⟨some t,op,ty,pos,af,gd⟩::l) 0 t ⟨some t,op,ty,pos,af,gd⟩:=⟨by simp,rfl⟩
instance getC1 {x o:Oper} {t:Tmp} {i:Nat} {l:List Oper} [h:GetC l i t o]:GetC (x::l) (i+1) t o:=⟨by have:=h.eq;simpa using this,h.dst⟩
def GX (t N:Nat) (E:Env) (done q:List Nat) (i:Nat):Bool:=Nat.blt t N && (lk E t).isNone && !(done.contains i || q.contains i)
theorem dq {done q:List Nat} (i:Nat) {o:Oper} {t:Tmp} {v:Value} [g:GetC l i t o] (h:GX t c.N E done q i=true) (hy:YQ c ds E L l.toArray o v)
  (k:TD c fin ds ((t,v)::E) L l.toArray done (i::q) ks):TD c fin ds E L l.toArray done q ks:=by
 simp only[GX,Bool.and_eq_true,Bool.not_eq_true',Option.isNone_iff_eq_none] at h
 exact d_q i g.eq g.dst h.1.1 h.1.2 h.2 hy k
theorem ya {i:Nat} {o:Oper} {t:Tmp} {v:Value} [g:GetC l i t o] (ht:Nat.blt t c.N=true) (hv:lk E t=some v) (hy:YQ c ds E L l.toArray o v):YAt c ds E L l.toArray i:=yat g.eq g.dst ht hv hy
theorem st {t:TypeId} {x y:Operand} {b o:Nat} {v:Value} {l l':List Value} {tt:TypeId} {M:List HP} (hd:cG d c.N=true) (hx:ev E x=some (.pointer (some ⟨b,o,none⟩))) (hy:ev E y=some v)
  (hn:∀ w,(sizeOf t).run c.P w=.ok 1 w) (hv:v.oneCell'=true) (k:TL c fin ds (upd d undef E) (pt b (.cells l'.toArray tt (0,0))::M) ops rest ks) (ht:Take (pt b (.cells l.toArray tt (0,0))) L M:=by exact tk) (hs:fM l o v l':=by exact sa):
  TL c fin ds E L ops (⟨d,.store t x y,ty,pos,af,none⟩::rest) ks:=oJ hd hx hy hn hv ht hs k
theorem sta {t:TypeId} {x y:Operand} {b o n:Nat} {us:List Value} {l l':List Value} {tt:TypeId} {M:List HP} (hd:cG d c.N=true) (hx:ev E x=some (.pointer (some ⟨b,o,none⟩))) (hy:ev E y=some (.agg us.toArray))
  (hn:∀ w,(sizeOf t).run c.P w=.ok n w) (hus:us.length=n) (hv:us.all (·.oneCell')=true)
  (k:TL c fin ds (upd d undef E) (pt b (.cells l'.toArray tt (0,0))::M) ops rest ks) (hne:us≠[]:=by simp) (ht:Take (pt b (.cells l.toArray tt (0,0))) L M:=by exact tk) (hs:fN l o us l':=by exact sal):
  TL c fin ds E L ops (⟨d,.store t x y,ty,pos,af,none⟩::rest) ks:=tx hd hx hy hn hus hv hne ht hs k
theorem lcf {x:Operand} {xs:Array Operand} {ats:Array TypeId} {f:FuncId} {vs:List Value} {D R:List HP} {Post:Value→List HP→Prop}
  (hd:cG d c.N=true) (hx:ev E x=some (.func (.func f) #[] #[])) (ha:evl E xs.toList=some vs) (hc:aG c.P f vs.toArray D Post)
  (k:∀ v L',Post v L'→TL c fin ds (upd d v E) (L' ++ R) ops rest ks) (hp:fH D L R:=by exact pk):TL c fin ds E L ops (⟨d,.call {callee:=.value x,args:=xs,argTypes:=ats},ty,pos,af,none⟩::rest) ks:=wm hd hx ha hc hp k
theorem lc1 {x:Operand} {xs:Array Operand} {ats:Array TypeId} {f:FuncId} {vs:List Value} {D R L':List HP} {v:Value}
  (hd:cG d c.N=true) (hx:ev E x=some (.func (.func f) #[] #[])) (ha:evl E xs.toList=some vs) (hc:aG c.P f vs.toArray D fun u K=>u=v∧K=L')
  (k:TL c fin ds (upd d v E) M ops rest ks) (hp:fH D L R:=by exact pk) (hM:L' ++ R=M:=by(try simp only[List.cons_append,List.nil_append,List.append_nil]) <;> rfl):
  TL c fin ds E L ops (⟨d,.call {callee:=.value x,args:=xs,argTypes:=ats},ty,pos,af,none⟩::rest) ks:=wm hd hx ha hc hp fun u K ⟨e1,e2⟩=>by subst e1 e2 hM;exact k
theorem fr1 {fn:Func} {Fr:List HP} {Post:Value→List HP→Prop} {e:Exit} {r1:ResultVar} {v1:Value} (hr:fn.results=#[r1]) (L':List HP) (h1:Rv c.P E L r1 v1) (hp:Post v1 L')
  (hl:Ent L (L' ++ Fr):=by exact en) (hx:e=.ret∨e=.normal:=by first | exact .inl rfl | exact .inr rfl):TN c (Al c.P fn Fr c.w0 Post) [] E L e []:=aJ hx L' (cO hr h1) hp hl
theorem fr2 {fn:Func} {Fr:List HP} {Post:Value→List HP→Prop} {e:Exit} {r1 r2:ResultVar} {v1 v2:Value} (hr:fn.results=#[r1,r2]) (L':List HP) (h1:Rv c.P E L r1 v1) (h2:Rv c.P E L r2 v2) (hp:Post (.tuple #[v1,v2]) L')
  (hl:Ent L (L' ++ Fr):=by exact en) (hx:e=.ret∨e=.normal:=by first | exact .inl rfl | exact .inr rfl):TN c (Al c.P fn Fr c.w0 Post) [] E L e []:=aJ hx L' (bS hr h1 h2) hp hl
end
abbrev Agg (P:Program) (t:TypeId) (b:Bool):Prop:=∀ w,(isAgg t).run P w=.ok b w
abbrev Siz (P:Program) (t:TypeId) (n:Nat):Prop:=∀ w,(sizeOf t).run P w=.ok n w
abbrev Zer (P:Program) (t:TypeId) (v:Value):Prop:=∀ w,(zeroValue t).run P w=.ok v w
abbrev Pla (P:Program) (t:TypeId) (l:List (Nat×Nat)):Prop:=∀ w,(placesOf t).run P w=.ok l.toArray w
abbrev Inf (P:Program) (t:TypeId) (v:Value) (n b:Nat):Prop:=∃ i,P.info? t=some i∧i.zero=some v∧i.size=n∧i.bytes=b
abbrev Ens (P:Program) (f:FuncId):Prop:=∀ args w,(callFunc f args).run P w=.ok (.enter f args) w
end Eng
end
end Go.Proofs.YthkajgkagnenbaaGreatDoor
