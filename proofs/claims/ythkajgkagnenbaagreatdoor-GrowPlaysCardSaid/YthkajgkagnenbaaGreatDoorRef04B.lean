import Derived.Test.YthkajgkagnenbaaGreatDoorArenaF
set_option linter.unusedVariables false
set_option linter.unusedSimpArgs false
set_option linter.unusedSectionVars false
set_option maxRecDepth 100000
namespace Go.Proofs.YthkajgkagnenbaaGreatDoor
section
namespace Eng
open Go.RowKit
section
variable {c:Cx} {fin:Exit->Act->World->Prop} {ds:List Deferred} {E:Env} {L:List HP} {ks:List KI} {ops:Array Oper} {rest:List Oper}
variable {d:Option Tmp} {ty:TypeId} {pos:String} {af:Array Edge} {gd:Option (Nat×Bool)}
theorem sR {t e:TypeId} {x y:Operand} {z:Value} {sz bytes:Nat} {kl kc:IntKind} {m:Int} (xs:List Value) (hxs:xs= []) (hd:dn d c.N=true) (hx:ev E x=some (.int kl 0)) (hy:ev E y=some (.int kc m))
  (ht:c.P.underlying t=some (.slice e)) (hinf:∃ i,c.P.info? e=some i/\i.zero=some z/\i.size=sz/\i.bytes=bytes) (h0:0<=m) (hb:(bytes:Int)*m<=281474976710656/\m<=9223372036854775807)
  (k:∀ b,TL c fin ds (gT d (.slice (some ⟨b,0,none⟩) 0 m.toNat) E) (aF e sz (.slice (some ⟨b,0,none⟩) 0 m.toNat) 0 xs::L) ops rest ks):TL c fin ds E L ops (⟨d,.makeSlice t x y,ty,pos,af,none⟩::rest) ks:=by
 subst hxs
 exact nk hd (by intro k;simp) (fun b=>.slice (some ⟨b,0,none⟩) 0 m.toNat) (fun b=>aF e sz (.slice (some ⟨b,0,none⟩) 0 m.toNat) 0 []::L) (fun a w hs=>by
  obtain⟨i,hi,hiz,hsize,hby⟩:=hinf
  have hr:=run_make w t e i z ht hi hiz kl kc 0 m (Int.le_refl _) h0 (by rw[hby];exact hb.1) hb.2
  refine⟨w.heap.size,w.alloc (.cells (madeCells z.cells (m.toNat*i.size)) e),?_,?_,(Ext.refl w).alloc _⟩
  ·simp only[execOp,Sem.run_bind,hs.ev hx,hs.ev hy,hr,Result.andThen,Sem.run_pure];rfl
  exact fC (hs.sat.alloc _) (by simp) (by omega) (by simp only[maxLen];omega) (by simp[size_madeCells,hsize]) (by simp)) k
end
theorem nb {e:TypeId} {sz g n cap o:Nat} {xs:List Value} {v:Value} (hv:xs[o]?=some v):dt (aF e sz (.slice (some ⟨g,0,none⟩) n cap) n xs) ⟨g,o,none⟩ v:=fun w hs=>by
 have hs':Sat (stars (aF e sz (.slice (some ⟨g,0,none⟩) n cap) n xs::[])) w:=by
  obtain⟨f,hi,ha⟩:=hs
  exact⟨f,hi,f,Part.none,ha,rfl,Part.disj_none _,(Part.join_none _).symm⟩
 obtain⟨cur,_,c2,_,_,_,hsat⟩:=jm hs'
 have hg:=hsat.block (b:=g) .here
 have:=sO c2 hv
 simp[World.cell?,hg,this]
def rowOf {A:Type} (f:A->List Value) (xs:List A):List Value:=xs.flatMap f
theorem yI {A:Type} {f:A->List Value} {sz:Nat} (hf:∀ a,(f a).length=sz) (xs:List A):(rowOf f xs).length=xs.length*sz:=by
 induction xs with
 | nil=>simp[rowOf]
 | cons a xs ih=>
  have:rowOf f (a::xs)=f a ++ rowOf f xs:=by simp[rowOf]
  rw[this,List.length_append,ih,hf,List.length_cons,Nat.add_mul];omega
theorem er {A:Type} {f:A->List Value} {sz:Nat} (hf:∀ a,(f a).length=sz):∀(xs:List A) (i j:Nat) (a:A),xs[i]?=some a->j < sz->(rowOf f xs)[i*sz+j]?=(f a)[j]?
 | [],i,j,a,h,_=>by simp at h
 | b::xs,0,j,a,h,hj=>by
  simp at h;subst h
  have:rowOf f (b::xs)=f b ++ rowOf f xs:=by simp[rowOf]
  rw[this,Nat.zero_mul,Nat.zero_add,List.getElem?_append_left (by rw[hf];exact hj)]
 | b::xs,i+1,j,a,h,hj=>by
  have:rowOf f (b::xs)=f b ++ rowOf f xs:=by simp[rowOf]
  rw[this,List.getElem?_append_right (by rw[hf,Nat.add_mul];omega),hf,show(i+1)*sz+j-sz=i*sz+j by rw[Nat.add_mul];omega]
  exact er hf xs i j a (by simpa using h) hj
theorem eO {A:Type} (f:A->List Value) (xs ys:List A):rowOf f (xs ++ ys)=rowOf f xs ++ rowOf f ys:=by simp[rowOf]
theorem pM {A:Type} {f:A->List Value} {sz:Nat} (hf:∀ a,(f a).length=sz):∀(xs:List A) (i:Nat),i<=xs.length->(rowOf f xs).drop (i*sz)=rowOf f (xs.drop i)
 | xs,0,_=>by simp
 | [],i+1,h=>by simp at h
 | b::xs,i+1,h=>by
  have:rowOf f (b::xs)=f b ++ rowOf f xs:=by simp[rowOf]
  rw[this,List.drop_append,List.drop_eq_nil_of_le (by rw[hf,Nat.add_mul];omega),hf,List.nil_append,show(i+1)*sz-sz=i*sz by rw[Nat.add_mul];omega]
  simpa using pM hf xs i (by simpa using h)
theorem pL {A:Type} {f:A->List Value} {sz:Nat} (hf:∀ a,(f a).length=sz):∀(xs:List A) (i:Nat),i<=xs.length->(rowOf f xs).take (i*sz)=rowOf f (xs.take i)
 | xs,0,_=>by simp[rowOf]
 | [],i+1,h=>by simp at h
 | b::xs,i+1,h=>by
  have:rowOf f (b::xs)=f b ++ rowOf f xs:=by simp[rowOf]
  have h2:rowOf f ((b::xs).take (i+1))=f b ++ rowOf f (xs.take i):=by simp[rowOf]
  rw[this,h2,List.take_append,List.take_of_length_le (by rw[hf,Nat.add_mul];omega),hf,show(i+1)*sz-sz=i*sz by rw[Nat.add_mul];omega,pL hf xs i (by simpa using h)]
theorem g7 {A:Type} {f:A->List Value} {sz:Nat} (hf:∀ a,(f a).length=sz) {a':A} {v:Value} {j:Nat} (hj:j < sz):∀(xs:List A) (i:Nat) (a:A),xs[i]?=some a->f a'=(f a).set j v->(rowOf f xs).set (i*sz+j) v=rowOf f (xs.set i a')
 | [],i,a,h,_=>by simp at h
 | b::xs,0,a,h,he=>by
  simp at h;subst h
  have:rowOf f (b::xs)=f b ++ rowOf f xs:=by simp[rowOf]
  have h2:rowOf f ((b::xs).set 0 a')=f a' ++ rowOf f xs:=by simp[rowOf]
  rw[this,h2,Nat.zero_mul,Nat.zero_add,List.set_append_left _ _ (by rw[hf];exact hj),he]
 | b::xs,i+1,a,h,he=>by
  have:rowOf f (b::xs)=f b ++ rowOf f xs:=by simp[rowOf]
  have h2:rowOf f ((b::xs).set (i+1) a')=f b ++ rowOf f (xs.set i a'):=by simp[rowOf]
  rw[this,h2,List.set_append_right _ _ (by rw[hf,Nat.add_mul];omega),hf,show(i+1)*sz+j-sz=i*sz+j by rw[Nat.add_mul];omega,g7 hf hj xs i a (by simpa using h) he]
end Eng
end
section
namespace RefA
open Go.RowKit Go.Proofs Arena
structure RB where
 off:Int
 live:Bool
 c:Int
 b:Nat
def RB.cells (r:RB):List Value:=[.int .i64 r.off,.bool r.live,.slice (some ⟨r.b,0,none⟩) r.c.toNat r.c.toNat]
theorem A2 (r:RB):r.cells.length=3:=rfl
def jy (s:ArS) (rs:List RB):Prop:=rs.map (fun r=>(r.off,r.c))=s.all/\∀ r∈rs,r.live= !s.dead r.off
theorem jy.congr {s s':ArS} {rs:List RB} (h:jy s rs) (h1:s'.all=s.all) (h2:s'.dead=s.dead):jy s' rs:=⟨h.1.trans h1.symm,fun r hr=>by rw[h2];exact h.2 r hr⟩
theorem jy.len {s:ArS} {rs:List RB} (h:jy s rs):rs.length=s.all.length:=by rw[<- h.1,List.length_map]
theorem jy.at {s:ArS} {rs:List RB} (h:jy s rs) {i:Nat} {r:RB} (hr:rs[i]?=some r):s.all[i]?=some (r.off,r.c)/\r.live= !s.dead r.off:=⟨by rw[<- h.1,List.getElem?_map,hr];rfl,h.2 r (List.mem_of_getElem? hr)⟩
def nh (s:ArS) (i:Nat):Int:=ArS.sum ((s.all.take i).filter fun p=>!s.dead p.1)
theorem zb (s:ArS):nh s s.all.length=s.live:=by unfold nh;rw[List.take_length];rfl
theorem xM (a b:List (Int×Int)):ArS.sum (a ++ b)=ArS.sum a+ArS.sum b:=by
 induction a with
 | nil=>simp[ArS.sum]
 | cons p r ih=>simp only[List.cons_append,ArS.sum,ih];omega
theorem wJ {s:ArS} {i:Nat} {p:Int×Int} (h:s.all[i]?=some p):nh s (i+1)=nh s i+(if s.dead p.1 then 0 else p.2):=by
 unfold nh
 rw[List.take_add_one,h,List.filter_append,xM]
 cases q:s.dead p.1 with
 | true=>simp[q,ArS.sum]
 | false=>simp[q,ArS.sum]
theorem rH {s:ArS} (h:s.ok) (i:Nat):0<=nh s i/\nh s i<=s.live:=by
 have hp:∀ p∈s.all,0<=p.2:=fun p hp=>by have:=(ArS.chain_pos h.chain p hp).2;omega
 have h1:=(ArS.sum_filter (f:=fun p=>!s.dead p.1) (l:=s.all.take i) fun p hm=>hp p (List.mem_of_mem_take hm)).1
 have h2:=(ArS.sum_filter (f:=fun p=>!s.dead p.1) (l:=s.all.drop i) fun p hm=>hp p (List.mem_of_mem_drop hm)).1
 have e:s.live=ArS.sum ((s.all.take i).filter fun p=>!s.dead p.1)+ArS.sum ((s.all.drop i).filter fun p=>!s.dead p.1):=by
  rw[<- xM,<- List.filter_append,List.take_append_drop];rfl
 unfold nh
 omega
theorem BU {s:ArS} {c:Int} {i:Nat} {p:Int×Int} (hi:s.all[i]?=some p) (hd:s.dead p.1=true) (hc:p.2=c) (hno:∀(j:Nat) (q:Int×Int),j < i->s.all[j]?=some q->¬ (s.dead q.1=true/\q.2=c)):∃ r,s.frL c=p.1::r:=by
 have hil:i < s.all.length:=by rcases Nat.lt_or_ge i s.all.length with q | q;exact q;rw[List.getElem?_eq_none q] at hi;cases hi
 have e:s.all=s.all.take i ++ (p::s.all.drop (i+1)):=by
  rw[List.getElem?_eq_getElem hil] at hi
  cases hi
  rw[<- List.drop_eq_getElem_cons hil,List.take_append_drop]
 have h0:(s.all.take i).filter (fun p=>s.dead p.1 && decide (p.2=c))= []:=by
  rw[List.filter_eq_nil_iff]
  intro q hq
  obtain⟨j,hj,rfl⟩:=List.getElem_of_mem hq
  rw[List.length_take] at hj
  have:=hno j s.all[j] (by omega) (List.getElem?_eq_getElem (by omega))
  rw[List.getElem_take]
  simpa using this
 refine⟨((s.all.drop (i+1)).filter fun p=>s.dead p.1 && decide (p.2=c)).map (·.1),?_⟩
 show(s.all.filter fun p=>s.dead p.1 && decide (p.2=c)).map (·.1)=_
 conv=>lhs;rw[e]
 rw[List.filter_append,h0,List.nil_append,List.filter_cons,if_pos (by simp[hd,hc])]
 rfl
theorem DO {s:ArS} {c:Int} (hno:∀(j:Nat) (q:Int×Int),s.all[j]?=some q->¬ (s.dead q.1=true/\q.2=c)):s.frL c= []:=by
 unfold ArS.frL
 rw[List.map_eq_nil_iff,List.filter_eq_nil_iff]
 intro q hq
 obtain⟨j,hj,rfl⟩:=List.getElem_of_mem hq
 have:=hno j s.all[j] (List.getElem?_eq_getElem hj)
 simpa using this
theorem jy.revive {s:ArS} {rs:List RB} (h:jy s rs) (hs:s.ok) {i:Nat} {r:RB} (hr:rs[i]?=some r) {l:List Int} (hfr:s.frL r.c=r.off::l) (b:Nat):jy (s.take r.c) (rs.set i ⟨r.off,true,r.c,b⟩):=by
 obtain⟨e,_,h1,h2,_⟩:=take_cons hs hfr
 have hil:i < rs.length:=by rcases Nat.lt_or_ge i rs.length with q | q;exact q;rw[List.getElem?_eq_none q] at hr;cases hr
 refine⟨?_,fun x hx=>?_⟩
 ·rw[e,List.map_set]
  dsimp only
  rw[<- h.1]
  refine List.ext_getElem? fun j=>?_
  rw[List.getElem?_set]
  split
  ·next q=>subst q;rw[List.getElem?_map,hr];simp[hil]
  rfl
 rw[e]
 dsimp only
 obtain⟨j,hj,rfl⟩:=List.getElem_of_mem hx
 rw[List.getElem_set]
 rw[List.length_set] at hj
 split
 ·simp
 next q=>
 have hd:=h.2 rs[j] (List.getElem_mem hj)
 rw[hd]
 have hne:rs[j].off≠r.off:=fun q2=>by
  have a1:=(h.at (List.getElem?_eq_getElem hj)).1
  have a2:=(h.at hr).1
  have hjl:j < s.all.length:=by rw[<- h.len];exact hj
  have hil2:i < s.all.length:=by rw[<- h.len];exact hil
  rw[List.getElem?_eq_getElem hjl] at a1
  rw[List.getElem?_eq_getElem hil2] at a2
  have e1:=Option.some.inj a1
  have e2:=Option.some.inj a2
  rcases Nat.lt_trichotomy i j with q3 | q3 | q3
  ·have:=dQ hs.chain i j hil2 hjl q3
   have:=(ArS.chain_pos hs.chain _ (List.getElem_mem hil2)).2
   rw[e1,e2] at *
   dsimp only at *
   omega
  ·exact q q3
  have:=dQ hs.chain j i hjl hil2 q3
  have:=(ArS.chain_pos hs.chain _ (List.getElem_mem hjl)).2
  rw[e1,e2] at *
  dsimp only at *
  omega
 simp[hne]
theorem jy.new {s:ArS} {rs:List RB} (h:jy s rs) (hs:s.ok) {c:Int} (hfr:s.frL c= []) (b:Nat):jy (s.take c) (rs ++ [⟨(s.stop:Nat),true,c,b⟩]):=by
 obtain⟨e,_⟩:=take_nil hs hfr
 rw[e]
 refine⟨by rw[List.map_append,h.1];rfl,fun r hr=>?_⟩
 dsimp only
 rcases List.mem_append.1 hr with q | q
 ·exact h.2 r q
 rw[List.mem_singleton.1 q]
 dsimp only
 rw[mg hs];rfl
theorem jy.give {s:ArS} {rs:List RB} (h:jy s rs) (hs:s.ok) {i:Nat} {r:RB} (hr:rs[i]?=some r):jy (s.give r.off) (rs.set i {r with live:=false}):=by
 have hil:i < rs.length:=by rcases Nat.lt_or_ge i rs.length with q | q;exact q;rw[List.getElem?_eq_none q] at hr;cases hr
 refine⟨?_,fun x hx=>?_⟩
 ·show _=s.all
  rw[List.map_set,<- h.1]
  refine List.ext_getElem? fun j=>?_
  rw[List.getElem?_set]
  split
  ·next q=>subst q;rw[List.getElem?_map,hr];simp[hil]
  rfl
 show x.live= !(s.dead x.off || decide (x.off=r.off))
 obtain⟨j,hj,rfl⟩:=List.getElem_of_mem hx
 rw[List.getElem_set]
 rw[List.length_set] at hj
 split
 ·simp
 next q=>
 have hd:=h.2 rs[j] (List.getElem_mem hj)
 rw[hd]
 have hne:rs[j].off≠r.off:=fun q2=>by
  have a1:=(h.at (List.getElem?_eq_getElem hj)).1
  have a2:=(h.at hr).1
  have hjl:j < s.all.length:=by rw[<- h.len];exact hj
  have hil2:i < s.all.length:=by rw[<- h.len];exact hil
  rw[List.getElem?_eq_getElem hjl] at a1
  rw[List.getElem?_eq_getElem hil2] at a2
  have e1:=Option.some.inj a1
  have e2:=Option.some.inj a2
  rcases Nat.lt_trichotomy i j with q3 | q3 | q3
  ·have:=dQ hs.chain i j hil2 hjl q3
   have:=(ArS.chain_pos hs.chain _ (List.getElem_mem hil2)).2
   rw[e1,e2] at *
   dsimp only at *
   omega
  ·exact q q3
  have:=dQ hs.chain j i hjl hil2 q3
  have:=(ArS.chain_pos hs.chain _ (List.getElem_mem hjl)).2
  rw[e1,e2] at *
  dsimp only at *
  omega
 simp[hne]
theorem AN {s:ArS} (hs:s.ok) {c:Int} (hc:0<=c) (h:s.frL c= []):(((s.take c).stop:Nat):Int)=(s.stop:Nat)+c:=by
 obtain⟨e,_⟩:=take_nil hs h
 have:=hs.stop_eq
 rw[e]
 unfold ArS.stop at *
 dsimp only
 rw[ArS.sum_app]
 have h0:=(ArS.sum_nonneg hs.chain).1
 omega
theorem AM {s:ArS} (hs:s.ok) {c o:Int} {r:List Int} (h:s.frL c=o::r):(s.take c).stop=s.stop:=by
 obtain⟨e,_⟩:=take_cons hs h
 rw[e];rfl
end RefA
end
section
namespace Eng
open Go.RowKit
theorem wy {P:Program} {e:TypeId} {sz g n cap o:Nat} {xs ys:List Value} {M:List HP} {w:World} (hs:Sat (stars (aF e sz (.slice (some ⟨g,0,none⟩) n cap) n xs::M)) w) (hl:o+ys.length<=n*sz) (h1:∀ v∈ys,v.oneCell'=true):
  ∃ w',(storeCells ⟨g,o,none⟩ ys).run P w=.ok () w'/\Sat (stars (aF e sz (.slice (some ⟨g,0,none⟩) n cap) n (lay xs o ys)::M)) w'/\Ext w w':=by
 obtain⟨cur,c1,c2,c3,c4,c5,hsat⟩:=jm hs
 have hg:=hsat.block (b:=g) .here
 have hle:n*sz<=cap*sz:=Nat.mul_le_mul_right _ c3
 have hr:=run_storeCells_at P g o e ys 0 cur w hg (by omega) h1
 rw[Nat.add_zero] at hr
 refine⟨_,hr,?_,⟨rfl,rfl,rfl,by simp[World.setRow]⟩⟩
 have hcl:cur.toList.length=cap*sz:=by rw[Array.length_toList,c1]
 refine fC (Sat.turn (o':=.cells _ e (0,0)) hsat (setRow_heap w g cur _ e _ hg) (fun k hk _=>setRow_other w g k _ hk)) (by rw[oU (by omega)];exact c5) c3 c4 ?_ ?_
 ·simp only[List.size_toArray,List.length_append,List.length_take,List.length_drop,hcl];omega
 have e1:(cur.toList.take o ++ ys ++ cur.toList.drop (o+ys.length)).toArray.toList=lay cur.toList o ys:=by simp[lay]
 rw[e1]
 apply List.ext_getElem?
 intro i
 rw[List.getElem?_take]
 have hgx:∀ i,i < n*sz->xs[i]?=cur.toList[i]?:=fun i hi=>by rw[<- c2,List.getElem?_take,if_pos hi]
 by_cases hi:i < n*sz
 ·rw[if_pos hi,kW (by omega),kW (by omega)]
  split
  ·rfl
  exact(hgx i hi).symm
 rw[if_neg hi]
 rw[List.getElem?_eq_none (by rw[oU (by omega)];omega)]
section
variable {c:Cx} {fin:Exit->Act->World->Prop} {ds:List Deferred} {E:Env} {L:List HP} {ks:List KI} {ops:Array Oper} {rest:List Oper}
variable {d:Option Tmp} {ty:TypeId} {pos:String} {af:Array Edge}
theorem jI {t:TypeId} {x y:Operand} {g o n cap sz k:Nat} {us:List Value} {e:TypeId} {xs xs':List Value} {M:List HP} (hd:dn d c.N=true) (hx:ev E x=some (.pointer (some ⟨g,o,none⟩))) (hy:ev E y=some (.agg us.toArray))
  (hn:∀ w,(sizeOf t).run c.P w=.ok k w) (hus:us.length=k) (hv:us.all (·.oneCell')=true) (ht:Take (aF e sz (.slice (some ⟨g,0,none⟩) n cap) n xs) L M) (ho:o+k<=n*sz) (hxs:lay xs o us=xs')
  (kk:TL c fin ds (gT d undef E) (aF e sz (.slice (some ⟨g,0,none⟩) n cap) n xs'::M) ops rest ks):TL c fin ds E L ops (⟨d,.store t x y,ty,pos,af,none⟩::rest) ks:=
 BC (X:=Unit) hd (by intro k;simp) (fun _=>aF e sz (.slice (some ⟨g,0,none⟩) n cap) n xs'::M) (fun a w hs=>by
  obtain⟨w',h2,h3,h4⟩:=wy (P:=c.P) (o:=o) (ys:=us) (hs.sat.take ht) (by omega) (fun v hm=>List.all_eq_true.1 hv v hm)
  refine⟨(),w',?_,by rw[<- hxs];exact h3,h4⟩
  have hus2:us.toArray.size=k:=by simpa using hus
  simp only[execOp,Instr.storeAt,Instr.sureAddr,hs.ev hx,hs.ev hy,Sem.run_bind,Sem.run_pure,Result.andThen,storeVar,hn,Value.cells,hus2]
  simp only[ne_eq,not_true_eq_false,if_false,Sem.run_pure,Result.andThen]
  rw[h2]) fun _=>kk
theorem nf {t e:TypeId} {x y:Operand} {z:Value} {sz bytes:Nat} {kl kc:IntKind} {m:Int} (xs:List Value) (hd:dn d c.N=true) (hx:ev E x=some (.int kl m)) (hy:ev E y=some (.int kc m))
  (ht:c.P.underlying t=some (.slice e)) (hinf:∃ i,c.P.info? e=some i/\i.zero=some z/\i.size=sz/\i.bytes=bytes) (h0:0<=m) (hb:(bytes:Int)*m<=281474976710656/\m<=9223372036854775807) (hxs:(madeCells z.cells (m.toNat*sz)).toList=xs)
  (k:∀ b,TL c fin ds (gT d (.slice (some ⟨b,0,none⟩) m.toNat m.toNat) E) (aF e sz (.slice (some ⟨b,0,none⟩) m.toNat m.toNat) m.toNat xs::L) ops rest ks):TL c fin ds E L ops (⟨d,.makeSlice t x y,ty,pos,af,none⟩::rest) ks:=
 nk hd (by intro k;simp) (fun b=>.slice (some ⟨b,0,none⟩) m.toNat m.toNat) (fun b=>aF e sz (.slice (some ⟨b,0,none⟩) m.toNat m.toNat) m.toNat xs::L) (fun a w hs=>by
  obtain⟨i,hi,hiz,hsize,hby⟩:=hinf
  have hr:=run_make w t e i z ht hi hiz kl kc m m h0 (Int.le_refl _) (by rw[hby];exact hb.1) hb.2
  refine⟨w.heap.size,w.alloc (.cells (madeCells z.cells (m.toNat*i.size)) e),?_,?_,(Ext.refl w).alloc _⟩
  ·simp only[execOp,Sem.run_bind,hs.ev hx,hs.ev hy,hr,Result.andThen,Sem.run_pure]
  subst hxs
  refine fC (hs.sat.alloc _) (by simp[size_madeCells]) (Nat.le_refl _) (by simp only[maxLen];omega) (by simp[size_madeCells,hsize]) ?_
  rw[hsize,List.take_of_length_le (by simp[size_madeCells])]) k
end
theorem Bu {z:Array Value} {n i:Nat} (h:i < n) (hz:0 < z.size):(madeCells z n).toList[i]?=z[i % z.size]?:=by
 have h2:i < (madeCells z n).size:=by rw[size_madeCells];exact h
 rw[Array.getElem?_toList,Array.getElem?_eq_getElem h2,Array.getElem?_eq_getElem (Nat.mod_lt _ hz)]
 simp only[madeCells,Option.some.injEq,Array.getElem_map,Array.getElem_range]
 exact getElem!_pos z (i % z.size) (show i % z.size < z.size from Nat.mod_lt _ hz)
theorem y8 {A:Type} {f:A->List Value} {sz n:Nat} (a:A) (z:Array Value) (hz:z.toList=f a) (hf:∀ a,(f a).length=sz) (h0:0 < sz):(madeCells z (n*sz)).toList=rowOf f (List.replicate n a):=by
 have hzs:z.size=sz:=by rw[<- Array.length_toList,hz,hf]
 apply List.ext_getElem?
 intro i
 by_cases h:i < n*sz
 ·rw[Bu h (by omega),hzs]
  have h1:i / sz < n:=Nat.div_lt_of_lt_mul (by rw[Nat.mul_comm];exact h)
  have h2:=er hf (List.replicate n a) (i / sz) (i % sz) a (by simp[h1]) (Nat.mod_lt _ h0)
  rw[show i / sz*sz+i % sz=i from Nat.div_add_mod' i sz] at h2
  rw[h2,<- hz,Array.getElem?_toList]
 rw[List.getElem?_eq_none (by simp[size_madeCells];omega),List.getElem?_eq_none (by rw[yI hf];simp;omega)]
theorem yJ {A:Type} {f:A->List Value} {sz:Nat} (hf:∀ a,(f a).length=sz) {xs:List A} {i:Nat} (hi:i < xs.length) (a':A):lay (rowOf f xs) (i*sz) (f a')=rowOf f (xs.set i a'):=by
 unfold lay
 have e:xs.set i a'=xs.take i ++ a'::xs.drop (i+1):=by rw[List.set_eq_take_append_cons_drop,if_pos hi]
 rw[e,eO,pL hf xs i (by omega),hf,show i*sz+sz=(i+1)*sz by rw[Nat.add_mul];omega,pM hf xs (i+1) (by omega)]
 simp[rowOf,List.append_assoc]
end Eng
end
section
namespace Ref04
open Go.RowKit Eng Bits
@[reducible] def cO (f:Nat->Int):List Value:=[.int .i64 (f 0),.int .i64 (f 1),.int .i64 (f 2),.int .i64 (f 3)]
theorem FB {i:Nat} (h:i < 4):i=0\/i=1\/i=2\/i=3:=by omega
theorem A0 (f:Nat->Int) {i:Nat} (h:i < 4):(cO f)[i]?=some (.int .i64 (f i)):=by
 rcases FB h with rfl | rfl | rfl | rfl <;> rfl
theorem lC (f:Nat->Int) {i:Nat} (h:i < 4) (x:Int):(cO f).set i (.int .i64 x)=cO fun j=>if j=i then x else f j:=by
 rcases FB h with rfl | rfl | rfl | rfl <;> rfl
theorem ed {f g:Nat->Int} (h:∀ i,i < 4->f i=g i):cO f=cO g:=by
 simp only[cO,h 0 (by decide),h 1 (by decide),h 2 (by decide),h 3 (by decide)]
theorem fB {b o i:Nat} {f:Nat->Int} {t:TypeId} {fr:Nat×Nat} (hi:i < 4) (ho:o=i):dt (pt b (.cells (cO f).toArray t fr)) ⟨b,o,none⟩ (.int .i64 (f i)):=fun w hw=>by
 subst ho
 have hs:Sat (stars [pt b (.cells (cO f).toArray t fr)]) w:=by
  obtain⟨g,hg,k⟩:=hw
  exact⟨g,hg,g,Part.none,k,rfl,Part.disj_none _,(Part.join_none _).symm⟩
 have hb:=hs.block (b:=b) (o:=.cells (cO f).toArray t fr) .here
 have hg:=A0 f hi
 simp only[World.cell?,hb]
 simpa using hg
section
variable {c:Cx} {ds:List Deferred} {E:Env} {L:List HP} {d:Option Tmp} {ty:TypeId} {pos:String} {af:Array Edge}
theorem pS {gd:Option (Nat×Bool)} {t e:TypeId} {n:Nat} {ps:Array (Nat×Operand)} {vs:List (Nat×Value)} {z us:Array Value} (hx:BY E ps.toList=some vs) (ht:c.P.underlying t=some (.array n e)) (hn:∀ w,(sizeOf e).run c.P w=.ok 1 w)
  (hz:∀ w,(zeroValue t).run c.P w=.ok (.agg z) w) (hf:Instr.fill (fun i=>some (i*1,1)) z vs=some us):QV c ds E L ⟨d,.build t ps,ty,pos,af,gd⟩ (.agg us):=
 sK hx fun w=>by
  have e1:(Value.agg z).cells=z:=rfl
  simp only[Instr.build,Sem.run_bind,hz,e1,run_underlying ht,hn,Result.andThen,hf,Sem.run_pure]
end
theorem FP (x:Int):Instr.fill (fun i=>some (i*1,1)) #[.int .i64 0,.int .i64 0,.int .i64 0,.int .i64 0] [(0,.int .i64 x)]=some #[.int .i64 x,.int .i64 0,.int .i64 0,.int .i64 0]:=rfl
def dg (v:Int) (i:Nat):Int:=v / 65536 ^ i % 65536
theorem td (v:Int) (i:Nat):0<=dg v i/\dg v i < 65536:=by unfold dg;omega
def val (f:Nat->Int):Int:=f 0+f 1*65536+f 2*4294967296+f 3*281474976710656
theorem Av {v:Int} (h0:0<=v) (h1:v < 18446744073709551616):val (dg v)=v:=by
 simp only[val,dg]
 have e0:(65536:Int) ^ 0=1:=rfl
 have e1:(65536:Int) ^ 1=65536:=rfl
 have e2:(65536:Int) ^ 2=4294967296:=rfl
 have e3:(65536:Int) ^ 3=281474976710656:=rfl
 rw[e0,e1,e2,e3]
 omega
theorem FZ {f:Nat->Int} (h:∀ i,i < 4->0<=f i/\f i < 65536) {i:Nat} (hi:i < 4):dg (val f) i=f i:=by
 have h0:=h 0 (by decide);have h1:=h 1 (by decide);have h2:=h 2 (by decide);have h3:=h 3 (by decide)
 simp only[val,dg]
 have e0:(65536:Int) ^ 0=1:=rfl
 have e1:(65536:Int) ^ 1=65536:=rfl
 have e2:(65536:Int) ^ 2=4294967296:=rfl
 have e3:(65536:Int) ^ 3=281474976710656:=rfl
 rcases FB hi with rfl | rfl | rfl | rfl
 ·rw[e0];omega
 ·rw[e1];omega
 ·rw[e2];omega
 rw[e3];omega
theorem CZ {f:Nat->Int} (h:∀ i,i < 4->0<=f i/\f i < 65536):0<=val f/\val f < 18446744073709551616:=by
 have h0:=h 0 (by decide);have h1:=h 1 (by decide);have h2:=h 2 (by decide);have h3:=h 3 (by decide)
 simp only[val];omega
theorem yc (v:Int) (i:Nat):v / 65536 ^ (i+1)=v / 65536 ^ i / 65536:=by
 rw[Int.pow_succ,Int.ediv_ediv_of_nonneg (Int.le_of_lt (Int.pow_pos (by decide)))]
theorem CV (a b:Nat) (ha:a < 18446744073709551616) (hb:b < 18446744073709551616):bits .xor .u64 (a:Int) (b:Int)=((a ^^^ b:Nat):Int):=by
 have hx:a ^^^ b < 2 ^ 64:=Nat.xor_lt_two_pow (by omega) (by omega)
 have e:∀ n:Nat,n < 18446744073709551616->(BitVec.ofInt 64 (n:Int)).toNat=n:=fun n hn=>by rw[BitVec.ofInt_natCast,BitVec.toNat_ofNat];exact Nat.mod_eq_of_lt (by omega)
 show IntKind.u64.wrap ((BitVec.ofInt 64 (a:Int) ^^^ BitVec.ofInt 64 (b:Int)).toNat:Int)=_
 rw[BitVec.toNat_xor,e a ha,e b hb,IntKind.wrap_u64]
 omega
theorem yu (a b:Nat) (ha:a < 65536) (hb:b < 65536):bits .xor .i64 (a:Int) (b:Int)=((a ^^^ b:Nat):Int):=by
 have hx:a ^^^ b < 2 ^ 16:=Nat.xor_lt_two_pow (by omega) (by omega)
 show IntKind.i64.wrap ((BitVec.ofInt 64 (a:Int) ^^^ BitVec.ofInt 64 (b:Int)).toNat:Int)=_
 rw[BitVec.toNat_xor,l4 a (by omega),l4 b (by omega),IntKind.wrap_i64]
 omega
theorem wW (a i:Nat):dg (a:Int) i=((a / 2 ^ (16*i) % 2 ^ 16:Nat):Int):=by
 unfold dg
 have:(65536:Int) ^ i=((2 ^ (16*i):Nat):Int):=by rw[Nat.pow_mul,Int.natCast_pow];rfl
 rw[this]
 show((a:Int) / ((2 ^ (16*i):Nat):Int)) % ((2 ^ 16:Nat):Int)=_
 rw[<- Int.natCast_ediv,<- Int.natCast_emod]
theorem FY {a b:Int} (ha:0<=a/\a < 18446744073709551616) (hb:0<=b/\b < 18446744073709551616) (i:Nat):bits .xor .i64 (dg a i) (dg b i)=dg (bits .xor .u64 a b) i:=by
 obtain⟨a,rfl⟩:=Int.eq_ofNat_of_zero_le ha.1
 obtain⟨b,rfl⟩:=Int.eq_ofNat_of_zero_le hb.1
 rw[CV a b (by omega) (by omega),wW,wW,wW,yu _ _ (Nat.mod_lt _ (by decide)) (Nat.mod_lt _ (by decide))]
 congr 1
 apply Nat.eq_of_testBit_eq
 intro j
 show((a / 2 ^ (16*i) % 2 ^ 16) ^^^ (b / 2 ^ (16*i) % 2 ^ 16)).testBit j=((a ^^^ b) / 2 ^ (16*i) % 2 ^ 16).testBit j
 rw[Nat.testBit_xor,Nat.testBit_mod_two_pow,Nat.testBit_mod_two_pow,Nat.testBit_mod_two_pow,Nat.testBit_div_two_pow,Nat.testBit_div_two_pow,Nat.testBit_div_two_pow,Nat.testBit_xor]
 by_cases h:j < 16
 ·rw[decide_eq_true h];simp
 rw[decide_eq_false h];simp
def fc (f:Nat->Int) (q p:Nat) (i:Nat):Int:=if i+q < 4 then f (i+q) / (p:Int)+(if i+q+1 < 4 then f (i+q+1) % (p:Int)*(65536 / (p:Int)) else 0) else 0
theorem DU {v:Int} (h0:0<=v) (h1:v < 18446744073709551616) {i:Nat} (hi:i < 4):fc (dg v) 1 32768 i=dg (v / 2147483648) i:=by
 have e0:(65536:Int) ^ 0=1:=rfl
 have e1:(65536:Int) ^ 1=65536:=rfl
 have e2:(65536:Int) ^ 2=4294967296:=rfl
 have e3:(65536:Int) ^ 3=281474976710656:=rfl
 rcases FB hi with rfl | rfl | rfl | rfl <;> simp only[fc,dg,Nat.reduceAdd,Nat.reduceLT,if_true,if_false,e0,e1,e2,e3,Nat.zero_add] <;> omega
theorem DV {v:Int} (h0:0<=v) (h1:v < 18446744073709551616) {i:Nat} (hi:i < 4):fc (dg v) 1 8192 i=dg (v / 536870912) i:=by
 have e0:(65536:Int) ^ 0=1:=rfl
 have e1:(65536:Int) ^ 1=65536:=rfl
 have e2:(65536:Int) ^ 2=4294967296:=rfl
 have e3:(65536:Int) ^ 3=281474976710656:=rfl
 rcases FB hi with rfl | rfl | rfl | rfl <;> simp only[fc,dg,Nat.reduceAdd,Nat.reduceLT,if_true,if_false,e0,e1,e2,e3,Nat.zero_add] <;> omega
theorem DT {v:Int} (h0:0<=v) (h1:v < 18446744073709551616) {i:Nat} (hi:i < 4):fc (dg v) 2 1 i=dg (v / 4294967296) i:=by
 have e0:(65536:Int) ^ 0=1:=rfl
 have e1:(65536:Int) ^ 1=65536:=rfl
 have e2:(65536:Int) ^ 2=4294967296:=rfl
 have e3:(65536:Int) ^ 3=281474976710656:=rfl
 rcases FB hi with rfl | rfl | rfl | rfl <;> simp only[fc,dg,Nat.reduceAdd,Nat.reduceLT,if_true,if_false,e0,e1,e2,e3,Nat.zero_add] <;> omega
def pw (i:Nat):Int:=65536 ^ i
def part (f:Nat->Int):Nat->Int
 | 0=>0
 | k+1=>part f k+f k*pw k
theorem Ew (f:Nat->Int):part f 4=val f:=by
 have e0:pw 0=1:=rfl
 have e1:pw 1=65536:=rfl
 have e2:pw 2=4294967296:=rfl
 have e3:pw 3=281474976710656:=rfl
 simp only[part,val,e0,e1,e2,e3];omega
theorem CY (f:Nat->Int) {i:Nat} (h:i < 4) (x:Int):val (fun j=>if j=i then x else f j)=val f+(x-f i)*pw i:=by
 have e0:pw 0=1:=rfl
 have e1:pw 1=65536:=rfl
 have e2:pw 2=4294967296:=rfl
 have e3:pw 3=281474976710656:=rfl
 rcases FB h with rfl | rfl | rfl | rfl <;> simp[val,e0,e1,e2,e3] <;> omega
structure Mul (a b c:Nat->Int) (carry:Int) (i j:Nat):Prop where
 dig:∀ m,m < 4->0<=c m/\c m < 65536
 car:0<=carry/\carry < 65536
 sum:∃ z,val c+carry*pw (i+j)+z*18446744073709551616=part a i*val b+a i*pw i*part b j
theorem Mul.step {a b c:Nat->Int} {carry:Int} {i j:Nat} (h:Mul a b c carry i j) (ha:0<=a i/\a i < 65536) (hb:0<=b j/\b j < 65536) (hij:i+j < 4) {t:Int} (ht:t=c (i+j)+a i*b j+carry):
  0<=t/\t < 4294967296/\Mul a b (fun m=>if m=i+j then t % 65536 else c m) (t / 65536) i (j+1):=by
 have hc:=h.dig (i+j) hij
 have hcr:=h.car
 have hp:0<=a i*b j/\a i*b j<=65535*65535:=⟨Int.mul_nonneg ha.1 hb.1,by
  have h1:a i*b j<=65535*b j:=Int.mul_le_mul_of_nonneg_right (by omega) hb.1
  have h2:65535*b j<=65535*65535:=Int.mul_le_mul_of_nonneg_left (by omega) (by decide)
  omega⟩
 refine⟨by omega,by omega,fun m hm=>?_,by omega,?_⟩
 ·split
  ·omega
  exact h.dig m hm
 obtain⟨z,hz⟩:=h.sum
 refine⟨z,?_⟩
 rw[CY c hij]
 have e1:pw (i+(j+1))=65536*pw (i+j):=by unfold pw;rw[<- Nat.add_assoc,Int.pow_succ,Int.mul_comm]
 have e2:pw (i+j)=pw i*pw j:=Int.pow_add _ _ _
 have e3:part b (j+1)=part b j+b j*pw j:=rfl
 rw[e1,e3]
 have e4:t % 65536=t-65536*(t / 65536):=by omega
 rw[e4,Int.mul_add,show a i*pw i*(b j*pw j)=a i*b j*(pw i*pw j) by ac_rfl,<- e2,<- Int.add_assoc,<- hz,ht]
 generalize pw (i+j)=P
 generalize (c (i+j)+a i*b j+carry) / 65536=q
 generalize a i*b j=r
 generalize c (i+j)=d
 simp only[Int.sub_mul,Int.add_mul,Int.mul_assoc,Int.mul_sub,Int.mul_add]
 have:q*(65536*P)=65536*(q*P):=by ac_rfl
 omega
theorem Mul.row {a b c:Nat->Int} {carry:Int} {i j:Nat} (h:Mul a b c carry i j) (hij:i+j=4):Mul a b c 0 (i+1) 0:=by
 refine⟨h.dig,by decide,?_⟩
 obtain⟨z,hz⟩:=h.sum
 -- the columns of b that were left out weigh multiples of the base to the fourth
 have hb:∀ k,∃ y,part b 4=part b (4-k)+y*pw (4-k):=by
  intro k
  rcases Nat.lt_or_ge k 5 with q | q
  ·have:k=0\/k=1\/k=2\/k=3\/k=4:=by omega
   have e0:pw 0=1:=rfl
   have e1:pw 1=65536:=rfl
   have e2:pw 2=4294967296:=rfl
   have e3:pw 3=281474976710656:=rfl
   rcases this with rfl | rfl | rfl | rfl | rfl
   ·exact⟨0,by simp⟩
   ·exact⟨b 3,rfl⟩
   ·exact⟨b 2+b 3*65536,by simp only[part,Nat.reduceSub,e0,e1,e2,e3];omega⟩
   ·exact⟨b 1+b 2*65536+b 3*4294967296,by simp only[part,Nat.reduceSub,e0,e1,e2,e3];omega⟩
   exact⟨b 0+b 1*65536+b 2*4294967296+b 3*281474976710656,by simp only[part,Nat.reduceSub,e0,e1,e2,e3];omega⟩
  refine⟨part b 4,?_⟩
  rw[show 4-k=0 by omega]
  simp[part,pw]
 obtain⟨y,hy⟩:=hb i
 rw[show 4-i=j by omega,Ew] at hy
 refine⟨z+carry+a i*y,?_⟩
 have e4:pw (i+j)=18446744073709551616:=by rw[hij];rfl
 have e5:pw i*pw j=18446744073709551616:=by rw[<- e4];exact(Int.pow_add _ _ _).symm
 rw[e4] at hz
 have e6:part a (i+1)=part a i+a i*pw i:=rfl
 have e7:part b 0=0:=rfl
 have e8:a i*pw i*val b=a i*pw i*part b j+a i*y*18446744073709551616:=by
  rw[hy,Int.mul_add,show a i*pw i*(y*pw j)=a i*y*(pw i*pw j) by ac_rfl,e5]
 rw[e6,e7,Int.add_mul (part a i) (a i*pw i) (val b),e8,<- Int.add_assoc,<- hz]
 simp only[Int.zero_mul,Int.mul_zero,Int.add_zero,Int.sub_mul,Int.add_mul]
 omega
theorem Mul.done {a b c:Nat->Int} (h:Mul a b c 0 4 0) {i:Nat} (hi:i < 4):c i=dg (IntKind.u64.wrap (val a*val b)) i:=by
 obtain⟨z,hz⟩:=h.sum
 have hb:=CZ h.dig
 rw[Ew] at hz
 have e7:part b 0=0:=rfl
 simp only[e7,Int.mul_zero,Int.add_zero,Int.zero_mul] at hz
 rw[<- hz,IntKind.wrap_u64,show(val c+z*18446744073709551616) % 18446744073709551616=val c by omega]
 exact(FZ h.dig hi).symm
theorem Mul.start (a b:Nat->Int):Mul a b (fun _=>0) 0 0 0:=⟨fun _ _=>by omega,by decide,0,by simp[val,part]⟩
end Ref04
end
end Go.Proofs.YthkajgkagnenbaaGreatDoor
