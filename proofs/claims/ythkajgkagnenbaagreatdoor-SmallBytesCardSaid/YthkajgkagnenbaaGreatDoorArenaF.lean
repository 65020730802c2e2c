/- Package arena: Free. -/
import Derived.Test.YthkajgkagnenbaaGreatDoorArenaW
set_option linter.unusedVariables false
set_option linter.unusedSimpArgs false
set_option linter.unusedSectionVars false
set_option maxRecDepth 100000
namespace Go.Proofs.YthkajgkagnenbaaGreatDoor
namespace Arena
open Go.RowKit Go.Proofs Eng Ty Bits Mem Search
theorem vp (xs:List Int) (v:Value) (t:Int) (hkb:xs.length≤4611686018427387904) (hs:xs.Pairwise (· < ·)):
  aG Tryz.prog 127 #[v,.int .i64 t] [eK 3 v (ints xs)]
   (fun r L=>(∃ i:Nat,r=.tuple #[.int .i64 i,.bool (decide (xs[i]?=some t))]∧na xs t i)∧L= [eK 3 v (ints xs)]):=by
 have hs:∀ i j (hi:i < xs.length) (hj:j < xs.length),i < j→xs[i] < xs[j]:=fun i j hi hj hij=>List.pairwise_iff_getElem.1 hs i j hi hj hij
 refine aq C8 Tryz.func127 rfl rfl rfl fun Fr w0=>aR ?_
 refine cI (φ:=∃ a cap,v=.slice a xs.length cap∧(0 < xs.length→∃ g o,a=some ⟨g,o,none⟩)) (fun w hw=>by
  obtain⟨a,cap,e,h,_⟩:=oH hw
  rw[cY] at e h
  exact⟨a,cap,e,h⟩) fun⟨a,cap,hv,ha⟩=>?_
 subst hv
 refine sr<|asg rfl rfl<|asg rfl rfl<|lz<|mv rfl rfl<|l_q rfl (ql rfl bn)<|asg rfl rfl<|lz<|mv rfl rfl<|asg rfl rfl<|asg rfl rfl<|lc<|ah<|ax ?_
 refine bw (fun x:Nat×Nat=>x.1≤x.2∧x.2≤xs.length∧(∀ j (h:j < xs.length),j < x.1→xs[j] < t)∧(∀ j (h:j < xs.length),x.2≤j→t≤xs[j])) (fun x=>[(0,.slice a xs.length cap),(1,.int .i64 t),(6,.int .i64 xs.length),(7,.int .i64 x.1),(8,.int .i64 x.2)]) (fun _=>eK 3 (.slice a xs.length cap) (ints xs)::Fr) (fun x=>x.2-x.1) (0,xs.length) ⟨by omega,by omega,by omega,fun j h h2=>by omega⟩ ⟨rfl,rfl,rfl,rfl,rfl,trivial⟩ (Ent.refl _) ?_
 rintro⟨i,j⟩ ⟨hij,hjk,hlo,hhi⟩
 dsimp only at hij hjk hlo hhi ⊢
 refine ah<|sr<|mv rfl rfl<|mv rfl rfl<|l_q rfl (qi rfl rfl (aU ·))<|lc<|aA rfl (fun h=>?_) fun h=>?_
 ·obtain⟨g,o,rfl⟩:=ha (by omega)
  have hcell:∀(k:Nat) {m:Nat} {u:Int},(k < xs.length∧m=k∧xs[k]?=some u)→ct (eK 3 (.slice (some ⟨g,o,none⟩) xs.length cap) (ints xs)) ⟨g,o+m,none⟩ (.int .i64 u):=fun k m u ⟨h1,h2,h3⟩=>by
   subst h2;exact nd (by rw[gA,h3];rfl)
  have hm:(i+j) / 2 < xs.length∧(((i:Int)+(j:Int)) / 2).toNat=(i+j) / 2∧xs[(i+j) / 2]?=some (xs[(i+j) / 2]'(by omega)):=⟨by omega,by omega,List.getElem?_eq_getElem _⟩
  refine al<|ak<|ax<|sr<|mv rfl rfl<|mv rfl rfl<|l_q rfl (ba rfl rfl) ?_
  refine l_q rfl (qcv rfl yU3 vI) ?_
  apply l_q rfl
  ·apply qi rfl rfl;first | exact fun w=>jN (m:=2) w (by decide) (by decide) (by omega) | exact fun w=>jR w (by decide)
  refine l_q rfl (qcv rfl vI yU3) ?_
  refine asg rfl rfl<|lz<|mv rfl rfl<|mv rfl rfl<|l_q rfl (ay rfl rfl bn yS3 (by omega)) ?_
  refine l_q rfl (bI (A:=eK 3 (.slice (some ⟨g,o,none⟩) xs.length cap) (ints xs)) rfl yA3 tk (hcell _ hm)) ?_
  refine mv rfl rfl<|lc1 rfl rfl rfl (wQ _ _) ?_
  refine lc<|aA rfl (fun q=>?_) fun q=>?_
  ·refine aB<|mv rfl rfl<|l_q rfl (ba rfl rfl) ?_
   refine asg rfl rfl<|aj<|aV ?_
   apply aO (((i+j) / 2+1,j))
   ·exact⟨by dsimp only;omega,hjk,fun a ha hai=>by by_cases e:a=(i+j) / 2;(subst e;exact q);exact Int.lt_trans (hs a ((i+j) / 2) ha (by omega) (by dsimp only at hai;omega)) q,hhi⟩
   ·dsimp only;omega
   ·exact⟨rfl,rfl,rfl,congrArg (fun z=>some (Value.int .i64 z)) (by omega:((i:Int)+(j:Int)) / 2+1=(((i+j) / 2+1:Nat):Int)),rfl,trivial⟩
   exact en
  refine aB<|mv rfl rfl<|asg rfl rfl<|aj<|aV ?_
  apply aO ((i,(i+j) / 2))
  ·exact⟨by dsimp only;omega,by dsimp only;omega,hlo,fun a ha hai=>by by_cases e:a=(i+j) / 2;(subst e;omega);have:=hs ((i+j) / 2) a (by omega) ha (by dsimp only at hai;omega);omega⟩
  ·dsimp only;omega
  ·exact⟨rfl,rfl,rfl,rfl,congrArg (fun z=>some (Value.int .i64 z)) (by omega:((i:Int)+(j:Int)) / 2=(((i+j) / 2:Nat):Int)),trivial⟩
  exact en
 refine xt rfl<|nz<|mv rfl rfl<|mv rfl rfl<|mv rfl rfl<|l_q rfl (qi rfl rfl (aU ·))<|mv rfl rfl ?_
 obtain rfl:i=j:=by omega
 have hpl:na xs t i:=⟨by omega,hlo,hhi⟩
 refine bD (t:=35) rfl (fun a1=>?_) fun a1=>?_
 ·obtain⟨g,o,rfl⟩:=ha (by omega)
  have hil:i < xs.length:=by omega
  have hcell:∀(k:Nat) {m:Nat} {u:Int},(k < xs.length∧m=k∧xs[k]?=some u)→ct (eK 3 (.slice (some ⟨g,o,none⟩) xs.length cap) (ints xs)) ⟨g,o+m,none⟩ (.int .i64 u):=fun k m u ⟨h1,h2,h3⟩=>by
   subst h2;exact nd (by rw[gA,h3];rfl)
  have hm2:i < xs.length∧((i:Nat):Int).toNat=i∧xs[i]?=some xs[i]:=⟨hil,Int.toNat_natCast i,List.getElem?_eq_getElem hil⟩
  refine au rfl rfl<|mv rfl rfl<|au rfl rfl<|mv rfl rfl<|au rfl rfl<|l_q rfl (ay rfl rfl bn yS3 (by omega)) ?_
  refine au rfl rfl<|l_q rfl (bI (A:=eK 3 (.slice (some ⟨g,o,none⟩) xs.length cap) (ints xs)) rfl yA3 tk (hcell _ hm2)) ?_
  refine au rfl rfl<|mv rfl rfl<|au rfl rfl<|l_q rfl (qi rfl rfl (aZ ·))<|au rfl rfl<|mv rfl rfl<|bD (t:=42) rfl (fun b=>?_) fun b=>?_
  ·refine ar rfl rfl rfl rfl<|ar rfl rfl rfl rfl<|ar rfl rfl rfl rfl<|ar rfl rfl rfl rfl<|ar rfl rfl rfl rfl<|ar rfl rfl rfl rfl<|cg rfl rfl rfl<|cg rfl rfl rfl<|ar rfl rfl rfl rfl<|au rfl rfl<|l_q rfl (aL rfl rfl)<|l_q rfl (aL rfl rfl)<|asg rfl rfl<|asg rfl rfl<|lc<|rt<|fr2 rfl ([eK 3 (.slice (some ⟨g,o,none⟩) xs.length cap) (ints xs)]) (.tmp rfl) (.tmp rfl) ?_
   exact⟨⟨i,by rw[List.getElem?_eq_getElem hil,b,decide_eq_true rfl],hpl⟩,rfl⟩
  refine au rfl rfl<|mv rfl rfl<|au rfl rfl<|mv rfl rfl<|au rfl rfl<|l_q rfl (ay rfl rfl bn yS3 (by omega)) ?_
  refine au rfl rfl<|l_q rfl (bI (A:=eK 3 (.slice (some ⟨g,o,none⟩) xs.length cap) (ints xs)) rfl yA3 tk (hcell _ hm2)) ?_
  refine au rfl rfl<|lc1 rfl rfl rfl (qF _) ?_
  refine au rfl rfl<|mv rfl rfl<|bD (t:=48) rfl (fun e=>?_) fun e=>?_
  ·cases e
  refine ar rfl rfl rfl rfl<|ar rfl rfl rfl rfl<|au rfl rfl<|l_q rfl (aL rfl rfl)<|au rfl rfl<|l_q rfl (aL rfl rfl)<|l_q rfl (aL rfl rfl)<|asg rfl rfl<|asg rfl rfl<|lc<|rt<|fr2 rfl ([eK 3 (.slice (some ⟨g,o,none⟩) xs.length cap) (ints xs)]) (.tmp rfl) (.tmp rfl) ?_
  exact⟨⟨i,by rw[List.getElem?_eq_getElem hil,decide_eq_false (by simpa using b)],hpl⟩,rfl⟩
 refine ar rfl rfl rfl rfl<|ar rfl rfl rfl rfl<|ar rfl rfl rfl rfl<|ar rfl rfl rfl rfl<|ar rfl rfl rfl rfl<|ar rfl rfl rfl rfl<|ar rfl rfl rfl rfl<|cg rfl rfl rfl<|cg rfl rfl rfl<|cg rfl rfl rfl<|cg rfl rfl rfl<|cg rfl rfl rfl<|cg rfl rfl rfl<|cg rfl rfl rfl<|cg rfl rfl rfl<|cg rfl rfl rfl<|ar rfl rfl rfl rfl<|l_q rfl (aL rfl rfl)<|asg rfl rfl<|asg rfl rfl<|lc<|rt<|fr2 rfl ([eK 3 (.slice a xs.length cap) (ints xs)]) (.tmp rfl) (.tmp rfl) ?_
 exact⟨⟨i,by rw[List.getElem?_eq_none (by omega)];rfl,hpl⟩,rfl⟩
theorem A6 (p k i:Nat) (os:List Int) (x:Int) (hk:os.length=k) (hkb:k≤1000) (hi:i≤k) (hno:∀ j (h:j < os.length),j < i→os[j]≠x):
  aG Tryz.prog 240 #[.slice (some ⟨p,0,none⟩) i k,.int .i64 x] [pt p (.cells (ints os).toArray 3 (0,0))] (fun v L=>v=.int .i64 (-1)∧L= [pt p (.cells (ints os).toArray 3 (0,0))]):=by
 refine aq Fc Tryz.func240 rfl rfl rfl fun Fr w0=>aR ?_
 refine sr<|asg rfl rfl<|lc<|ah<|sr<|mv rfl rfl<|l_q rfl (ql rfl bn)<|mv rfl rfl<|lc<|ax ?_
 refine bw (fun j:Nat=>j≤i) (fun j=>[(0,.slice (some ⟨p,0,none⟩) i k),(1,.int .i64 x),(7,.int .i64 (i:Nat)),(8,.int .i64 (j:Nat))]) (fun _=>pt p (.cells (ints os).toArray 3 (0,0))::Fr) (fun j=>i-j) 0 (Nat.zero_le _) ⟨rfl,rfl,rfl,rfl,trivial⟩ (Ent.refl _) ?_
 intro j hj
 refine sr<|l_q rfl (qi rfl rfl (aU ·))<|lc<|ah<|aA rfl (fun h=>?_) fun h=>?_
 ·have hjl:j < os.length:=by omega
  refine al<|ak<|ah<|ax<|sr<|mv rfl rfl<|asg rfl rfl<|lz<|mv rfl rfl<|mv rfl rfl<|mv rfl rfl<|l_q rfl (ay rfl rfl bn yS3 (by omega)) ?_
  apply l_q rfl
  ·apply fa rfl yA3
   ·exact tk
   rw[Nat.zero_add,Int.toNat_natCast];simp[ints,hjl];rfl
  refine l_q rfl (qi rfl rfl (aZ ·))<|lc ?_
  have hne:=hno j hjl (by omega)
  refine aA rfl (fun q=>?_) fun q=>?_
  ·exact absurd q.symm hne
  refine al<|aV<|ak<|aB<|l_q rfl (ba rfl rfl) ?_
  refine mv rfl rfl<|aj ?_
  apply aO ((j+1))
  ·exact by omega
  ·omega
  ·exact⟨rfl,rfl,rfl,rfl,trivial⟩
  exact en
 exact xt rfl<|nz<|asg rfl rfl<|lc<|rt<|fr1 rfl ([pt p (.cells (ints os).toArray 3 (0,0))]) (.tmp rfl) ⟨rfl,rfl⟩
theorem ur (p k i:Nat) (os:List Int) (x:Int) (hk:os.length=k) (hkb:k≤1000) (hi:i≤k) (hno:∀ j (h:j < os.length),j < i→os[j]≠x):
  aG Tryz.prog 214 #[.slice (some ⟨p,0,none⟩) i k,.int .i64 x] [pt p (.cells (ints os).toArray 3 (0,0))] (fun v L=>v=.bool false∧L= [pt p (.cells (ints os).toArray 3 (0,0))]):=by
 refine aq Fx Tryz.func214 rfl rfl rfl fun Fr w0=>aR ?_
 refine sr<|asg rfl rfl<|lz<|mv rfl rfl<|mv rfl rfl<|lc1 rfl rfl rfl (A6 p k i os x hk hkb hi hno) ?_
 exact l_q rfl (qi rfl rfl (gM ·))<|asg rfl rfl<|lc<|rt<|fr1 rfl ([pt p (.cells (ints os).toArray 3 (0,0))]) (.tmp rfl) ⟨rfl,rfl⟩
theorem B0 {s:ArS} (hs:s.ok) {o c:Int} (ho:(o,c)∈s.bl) {lm:List (Int×Value)} (hd:cH lm) (h:ym s lm):ym (s.give o) (jM lm o):=by
 constructor
 ·intro p hp
  obtain⟨h1,h2⟩:=(rR hs ho).1 hp
  rw[zN hd,if_neg fun e=>h2 (jt hs.chain (cr.1 h1).1 (cr.1 ho).1 e.symm)]
  exact h.1 p h1
 intro k hk
 rw[zN hd]
 split
 ·rfl
 next q=>exact h.2 k fun d hd2=>hk d ((rR hs ho).2 ⟨hd2,fun e=>q (by rw[Prod.mk.injEq] at e;exact e.1.symm)⟩)
theorem Ce {s:ArS} (hs:s.ok) {o c:Int} (ho:(o,c)∈s.bl) {i:Nat} (hi:na (s.frL c) o i) {fl:FL} (h:vD s fl) (v:Value):vD (s.give o) (ij fl c (v,l3 (s.frL c) i o)):=fun d=>by
 rw[Cb hs ho hi d,tF]
 split
 ·rfl
 exact h d
def ArS.gives (s:ArS) (os:List Int):ArS:=os.foldl ArS.give s
theorem qJ (s:ArS) (os:List Int) (o:Int):s.gives (os ++ [o])=(s.gives os).give o:=by simp[ArS.gives]
theorem jl (s:ArS) (os:List Int):(s.gives os).all=s.all:=by
 induction os generalizing s with
 | nil=>rfl
 | cons o r ih=>exact ih (s.give o)
theorem l4 (s:ArS) (os:List Int) (x:Int):(s.gives os).dead x=(s.dead x || decide (x∈os)):=by
 induction os generalizing s with
 | nil=>simp[ArS.gives]
 | cons o r ih=>
  show((s.give o).gives r).dead x=_
  rw[ih]
  show(s.dead x || decide (x=o) || decide (x∈r))=_
  rw[Bool.or_assoc]
  congr 1
  rw[Bool.eq_iff_iff,Bool.or_eq_true,decide_eq_true_eq,decide_eq_true_eq,decide_eq_true_eq,List.mem_cons]
theorem oS {s:ArS} {os:List Int} {p:Int×Int}:p∈(s.gives os).bl↔p∈s.bl∧p.1∉os:=by
 rw[cr,cr,jl,l4,Bool.or_eq_false_iff,decide_eq_false_iff_not]
 exact⟨fun⟨a,b,c⟩=>⟨⟨a,b⟩,c⟩,fun⟨⟨a,b⟩,c⟩=>⟨a,b,c⟩⟩
theorem rP (s:ArS) (os:List Int):(s.gives os).m=s.m∧(s.gives os).limit=s.limit:=by
 induction os generalizing s with
 | nil=>exact⟨rfl,rfl⟩
 | cons o r ih=>exact ih (s.give o)
theorem CF (pa:Nat) (s:ArS) (p k:Nat) (os:List Int) (hk:os.length=k) (hkb:k≤1000) (hnd:os.Nodup) (hlv:∀ o∈os,∃ c,(o,c)∈s.bl):
  aG Tryz.prog 165 #[.pointer (some ⟨pa,0,none⟩),.slice (some ⟨p,0,none⟩) k k] [pt p (.cells (ints os).toArray 3 (0,0)),ae pa s]
   (fun v L=>v=.int .i64 0∧L= [pt p (.cells (ints os).toArray 3 (0,0)),ae pa (s.gives os)]):=by
 subst hk
 refine aq Gd Tryz.func165 rfl rfl rfl fun Fr w0=>aR ?_
 refine sr<|asg rfl rfl<|lc<|ah<|sr<|mv rfl rfl<|l_q rfl (ql rfl bn)<|mv rfl rfl<|lc<|ax ?_
 refine bw (fun j:Nat=>j≤os.length) (fun j=>[(0,.pointer (some ⟨pa,0,none⟩)),(1,.slice (some ⟨p,0,none⟩) os.length os.length),(14,.slice (some ⟨p,0,none⟩) os.length os.length),(15,.int .i64 os.length),(16,.int .i64 (j:Nat))]) (fun _=>pt p (.cells (ints os).toArray 3 (0,0))::ae pa s::Fr) (fun j=>os.length-j) 0 (Nat.zero_le _) ⟨rfl,rfl,rfl,rfl,rfl,trivial⟩ (Ent.refl _) ?_
 intro j hj
 refine sr<|l_q rfl (qi rfl rfl (aU ·))<|lc<|ah<|aA rfl (fun h=>?_) fun h=>?_
 ·have hjl:j < os.length:=by omega
  obtain⟨c,hc⟩:=hlv os[j] (List.getElem_mem hjl)
  refine fw (L':=ae pa s::pt p (.cells (ints os).toArray 3 (0,0))::Fr) (by(exact en)) ?_
  refine dr fun x hx=>?_
  refine gF fun M hM=>?_
  simp only[List.cons_append,List.nil_append] at hM
  subst M
  obtain⟨pm,g,cap,sb,fb,vs,vc,lm,fl⟩:=x
  obtain⟨hok,hcap,hcap2,hlm,hfl⟩:=hx
  dsimp only at hcap hcap2 hlm hfl ⊢
  have hlk:=hlm.1 _ hc
  dsimp only at hlk
  refine al<|ak<|ah<|ax<|sr<|mv rfl rfl<|l_q rfl (ay rfl rfl bn yS3 (by omega)) ?_
  apply l_q rfl
  ·apply fa rfl yA3
   ·exact tk
   rw[Nat.zero_add,Int.toNat_natCast];simp[ints,hjl];rfl
  refine asg rfl rfl<|asg rfl rfl<|lz<|mv rfl rfl<|l_q rfl (ad rfl)<|l_q rfl (qfa 5 rfl cV rfl rfl pU)<|l_q rfl (qld rfl pW) ?_
  refine mv rfl rfl ?_
  apply l_q rfl
  ·refine QV.to (v':=.tuple #[.int .i64 c,.bool true]) (kY fX rfl rfl Tryz.underlying113 Tryz.underlying3 yZ3 (by exact tk)) (by rw[hlk];rfl)
  refine mv rfl rfl<|l_q rfl (aa rfl ga) ?_
  refine l_q rfl (aa rfl ga) ?_
  refine asg rfl rfl<|asg rfl rfl<|lz<|mv rfl rfl<|l_q rfl (cX rfl (bY ·))<|mv rfl rfl<|bD (t:=32) rfl (fun q1=>?_) fun q1=>?_
  ·cases q1
  refine au rfl rfl<|mv rfl rfl<|au rfl rfl<|mv rfl rfl<|au rfl rfl<|l_q rfl (qo rfl rfl bn yS3 (by omega)) ?_
  refine au rfl rfl<|mv rfl rfl<|au rfl rfl ?_
  refine lc1 rfl rfl rfl (ur p os.length j os os[j] rfl hkb (by omega) (fun i hi hij he=>by have:=(List.getElem_inj hnd).1 he;omega)) ?_
  refine l_q rfl (aL rfl rfl)<|lc<|aA rfl (fun q2=>?_) fun q2=>?_
  ·cases q2
  refine al<|aV<|ak<|aB<|l_q rfl (ba rfl rfl) ?_
  refine mv rfl rfl<|aj ?_
  refine lF (L':=ae pa s::pt p (.cells (ints os).toArray 3 (0,0))::Fr) (bV (R:=pt p (.cells (ints os).toArray 3 (0,0))::Fr) (x:=⟨pm,g,cap,sb,fb,vs,vc,lm,fl⟩) ⟨hok,hcap,hcap2,hlm,hfl⟩ (by dsimp only[arP];(exact en))) ?_
  apply aO ((j+1))
  ·exact by omega
  ·omega
  ·exact⟨rfl,rfl,rfl,rfl,rfl,trivial⟩
  exact en
 obtain rfl:j=os.length:=by omega
 refine xt rfl<|ak<|ah<|sr<|mv rfl rfl<|l_q rfl (ql rfl bn)<|mv rfl rfl<|lc<|ax ?_
 refine bw (fun j:Nat=>j≤os.length) (fun j=>[(0,.pointer (some ⟨pa,0,none⟩)),(40,.slice (some ⟨p,0,none⟩) os.length os.length),(41,.int .i64 os.length),(42,.int .i64 (j:Nat))]) (fun j=>pt p (.cells (ints os).toArray 3 (0,0))::ae pa (s.gives (os.take j))::Fr) (fun j=>os.length-j) 0 (Nat.zero_le _) ⟨rfl,rfl,rfl,rfl,trivial⟩ (Ent.refl _) ?_
 intro j hj
 refine sr<|l_q rfl (qi rfl rfl (aU ·))<|lc<|ah<|aA rfl (fun h2=>?_) fun h2=>?_
 ·have hjl:j < os.length:=by omega
  obtain⟨c,hc0⟩:=hlv os[j] (List.getElem_mem hjl)
  have hnt:os[j]∉os.take j:=fun hm=>by
   obtain⟨i,hi,e⟩:=List.getElem_of_mem hm
   rw[List.length_take] at hi
   rw[List.getElem_take] at e
   have:=(List.getElem_inj hnd).1 e
   omega
  have hc:(os[j],c)∈(s.gives (os.take j)).bl:=oS.2 ⟨hc0,hnt⟩
  have hnext:s.gives (os.take (j+1))=(s.gives (os.take j)).give os[j]:=by rw[dU hjl,qJ]
  obtain⟨s1,hs1⟩:∃ s1,s1=s.gives (os.take j):=⟨_,rfl⟩
  rw[← hs1] at hc hnext ⊢
  refine fw (L':=ae pa s1::pt p (.cells (ints os).toArray 3 (0,0))::Fr) (by(exact en)) ?_
  refine dr fun x hx=>?_
  refine gF fun M hM=>?_
  simp only[List.cons_append,List.nil_append] at hM
  subst M
  obtain⟨pm,g,cap,sb,fb,vs,vc,lm,fl⟩:=x
  obtain⟨hok,hcap,hcap2,hlm,hfl⟩:=hx
  dsimp only at hcap hcap2 hlm hfl ⊢
  refine cI (φ:=cH lm) (fun w hw=>(map_some (hw.perm (Take.perm (show Take (cy (fun k:Int=>Value.int .i64 k) sb lm) _ _ from tk)))).1) fun hdis=>?_
  have hlk:=hlm.1 _ hc
  dsimp only at hlk
  have hst:=hok.stop_eq
  have hsn:=ArS.sum_nonneg hok.chain
  have hlim:=hok.limit
  have hroom:=hok.room
  have hcl:=fC c (hok.isC _ (cr.1 hc).1)
  have hgl:=qK hok hc
  have hgo:=rQ hok hc
  have hgl2:=hgo.stop_eq
  have hfc:=hfl c
  have hfrl:(s1.frL c).length≤s1.all.length:=by unfold ArS.frL;rw[List.length_map];exact List.length_filter_le _ _
  obtain⟨v7,xs7,hlkf⟩:∃ v7 xs7,eM fl c=(v7,xs7):=⟨_,_,rfl⟩
  rw[hlkf] at hfc
  dsimp only at hfc
  subst hfc
  have hvl:=p9 fl c
  rw[hlkf] at hvl
  dsimp only at hvl
  refine fw (nF (k:=c) (show Take (ek fl) _ _ from tk)) ?_
  rw[hlkf]
  refine al<|ak<|ah<|ax<|sr<|l_q rfl (ay rfl rfl bn yS3 (by omega)) ?_
  apply l_q rfl
  ·apply fa rfl yA3
   ·exact tk
   rw[Nat.zero_add,Int.toNat_natCast];simp[ints,hjl];rfl
  refine asg rfl rfl<|lz<|mv rfl rfl<|l_q rfl (ad rfl)<|l_q rfl (qfa 5 rfl cV rfl rfl pU)<|l_q rfl (qld rfl pW) ?_
  refine mv rfl rfl ?_
  apply l_q rfl
  ·refine QV.to (v':=.int .i64 c) (g4 fX rfl rfl Tryz.underlying113 Tryz.underlying3 yZ3 (by exact tk)) (by rw[hlk];rfl)
  refine asg rfl rfl<|lz<|mv rfl rfl<|l_q rfl (ad rfl)<|l_q rfl (qfa 5 rfl cV rfl rfl pU)<|l_q rfl (qld rfl pW) ?_
  refine mv rfl rfl ?_
  apply zD fX rfl rfl rfl yz yU3
  ·exact tk
  refine lz<|mv rfl rfl<|l_q rfl (ad rfl)<|l_q rfl (qfa 1 rfl cV rfl rfl yS3)<|l_q rfl (qld rfl yA3) ?_
  refine mv rfl rfl<|l_q rfl (e9 rfl rfl) ?_
  refine l_q rfl (ad rfl)<|l_q rfl (qfa 1 rfl cV rfl rfl yS3)<|st rfl rfl rfl yS3 rfl ?_
  refine lz<|mv rfl rfl<|l_q rfl (ad rfl)<|l_q rfl (qfa 6 rfl cV rfl rfl mb)<|l_q rfl (qld rfl mf) ?_
  refine mv rfl rfl<|l_q rfl (QV.to (g4 fX rfl rfl Tryz.underlying114 Tryz.underlying3 yv (by exact tk)) hvl) ?_
  refine mv rfl rfl<|lcf rfl rfl rfl (vp (s1.frL c) v7 os[j] (by omega) (iK hok c)) ?_
  rintro v L' ⟨⟨i,rfl,hpl⟩,rfl⟩
  refine bF ?_
  refine mv rfl rfl<|l_q rfl (aa rfl ga) ?_
  refine l_q rfl (aa rfl ga) ?_
  refine asg rfl rfl<|asg rfl rfl<|lc<|aS mixed ?_
  apply dq 0 rfl
  ·exact yq (ai rfl)
  apply dq 1 rfl
  ·exact yq (ad rfl)
  apply dq 2 rfl
  ·exact yq (qfa 6 rfl cV rfl rfl mb)
  apply dq 3 rfl
  ·exact yq (qld rfl mf)
  apply dq 4 rfl
  ·exact yq (ai rfl)
  apply dq 5 rfl
  ·exact yq (ai rfl)
  apply dq 6 rfl
  ·exact yq (ad rfl)
  apply dq 7 rfl
  ·exact yq (qfa 6 rfl cV rfl rfl mb)
  apply dq 8 rfl
  ·exact yq (qld rfl mf)
  apply dq 9 rfl
  ·exact yq (ai rfl)
  apply dq 10 rfl
  ·exact yq (QV.to (g4 fX rfl rfl Tryz.underlying114 Tryz.underlying3 yv (by exact tk)) hvl)
  apply dq 11 rfl
  ·exact yq (ai rfl)
  apply dq 12 rfl
  ·exact yq (ai rfl)
  refine an [12] [11,10,9,8,7,6,5,4,3,2,1,0] 13 [(88,_)] gO ⟨rfl,trivial⟩ (by kernel_rfl) (by kernel_rfl) fun Ex=>?_
  refine aW [_] rfl rfl bn yS3 yZ3 rfl rfl rfl rfl (fun b89=>?_)
  refine aj ?_
  apply n_d
  ·refine⟨?_,?_,?_,?_,?_,?_,?_,?_,?_,?_,?_,?_,trivial⟩
   ·apply ya rfl rfl;exact yq (ai rfl)
   ·apply ya rfl rfl;exact yq (QV.to (g4 fX rfl rfl Tryz.underlying114 Tryz.underlying3 yv (by exact tk)) hvl)
   ·apply ya rfl rfl;exact yq (ai rfl)
   ·apply ya rfl rfl;exact yq (qld rfl mf)
   ·apply ya rfl rfl;exact yq (qfa 6 rfl cV rfl rfl mb)
   ·apply ya rfl rfl;exact yq (ad rfl)
   ·apply ya rfl rfl;exact yq (ai rfl)
   ·apply ya rfl rfl;exact yq (ai rfl)
   ·apply ya rfl rfl;exact yq (qld rfl mf)
   ·apply ya rfl rfl;exact yq (qfa 6 rfl cV rfl rfl mb)
   ·apply ya rfl rfl;exact yq (ad rfl)
   apply ya rfl rfl;exact yq (ai rfl)
  refine an [10,11,8,9,7,6,5] [4,3,2,1,0] 14 [(86,_),(87,_),(89,_)] gO ⟨rfl,rfl,rfl,trivial⟩ (by kernel_rfl) (by kernel_rfl) fun Ex=>?_
  refine lcf rfl rfl rfl (yn v7 (s1.frL c) i os[j] b89 hpl.1 (by omega)) ?_
  rintro v9 L' rfl
  refine bF ?_
  refine aj ?_
  apply n_d
  ·refine⟨?_,?_,?_,?_,?_,trivial⟩
   ·apply ya rfl rfl;exact yq (ai rfl)
   ·apply ya rfl rfl;exact yq (qld rfl mf)
   ·apply ya rfl rfl;exact yq (qfa 6 rfl cV rfl rfl mb)
   ·apply ya rfl rfl;exact yq (ad rfl)
   apply ya rfl rfl;exact yq (ai rfl)
  refine an [3,4,0,1,2] [] 15 [(79,_),(80,_),(90,_)] gO ⟨rfl,rfl,rfl,trivial⟩ (by kernel_rfl) (by kernel_rfl) fun Ex=>?_
  apply gz fX rfl rfl rfl rfl CM yU3
  ·exact tk
  refine aj ?_
  apply n_d
  ·exact trivial
  refine bd (by kernel_rfl) ?_
  refine aV<|ak<|aB<|l_q rfl (ba rfl rfl) ?_
  refine mv rfl rfl<|aj ?_
  refine lF (L':=ae pa (s1.give os[j])::pt p (.cells (ints os).toArray 3 (0,0))::Fr) (Ent.trans (rS (fl:=fl) (k:=c) (v:=v9) (xs:=l3 (s1.frL c) i os[j]) (show Take (eK 3 v9 (ints (l3 (s1.frL c) i os[j]))) _ _ from tk) (show Take (ek (gL fl c)) _ _ from tk)) (bV (R:=pt p (.cells (ints os).toArray 3 (0,0))::Fr) (x:=⟨pm,g,cap,sb,fb,vs,vc,jM lm os[j],ij fl c (v9,l3 (s1.frL c) i os[j])⟩) ⟨hgo,hcap,hcap2,B0 hok hc hdis hlm,Ce hok hc hpl hfl v9⟩ (by dsimp only[arP];rw[hgl,pZ,show(s1.give os[j]).limit=s1.limit from rfl,show(s1.give os[j]).stop=s1.stop from rfl,show(s1.give os[j]).all=s1.all from rfl,show(s1.give os[j]).m=s1.m from rfl];(exact en)))) ?_
  rw[← hnext]
  apply aO ((j+1))
  ·exact by omega
  ·omega
  ·exact⟨rfl,rfl,rfl,rfl,trivial⟩
  exact en
 refine xt rfl<|nz<|asg rfl rfl<|lc<|rt ?_
 obtain rfl:j=os.length:=by omega
 rw[List.take_length]
 exact fr1 rfl ([pt p (.cells (ints os).toArray 3 (0,0)),ae pa (s.gives os)]) (.tmp rfl) ⟨rfl,rfl⟩
theorem Ba (pa:Nat) (s:ArS) (p:Nat) (a:Int) (h1:∃ c,(a,c)∈s.bl):
  aG Tryz.prog 165 #[.pointer (some ⟨pa,0,none⟩),.slice (some ⟨p,0,none⟩) 1 1] [pt p (.cells #[.int .i64 a] 3 (0,0)),ae pa s]
   (fun v L=>v=.int .i64 0∧L= [pt p (.cells #[.int .i64 a] 3 (0,0)),ae pa (s.gives [a])]):=
 CF pa s p 1 [a] rfl (by decide) (by simp) (fun o ho=>by rw[List.mem_singleton.1 ho];exact h1)
end Arena
end Go.Proofs.YthkajgkagnenbaaGreatDoor
