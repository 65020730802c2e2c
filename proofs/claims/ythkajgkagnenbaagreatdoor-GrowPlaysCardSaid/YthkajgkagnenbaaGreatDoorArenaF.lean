/- Package arena: Free. -/
import Derived.Test.YthkajgkagnenbaaGreatDoorArenaW
set_option linter.unusedVariables false
set_option linter.unusedSimpArgs false
set_option linter.unusedSectionVars false
set_option maxRecDepth 100000
namespace Go.Proofs.YthkajgkagnenbaaGreatDoor
namespace Arena
open Go.RowKit Go.Proofs Eng Ty Search
theorem xk (xs:List Int) (v:Value) (t:Int) (hkb:xs.length<=4611686018427387904) (hs:xs.Pairwise (· < ·)):
  aK Tryz.prog 127 #[v,.int .i64 t] [fy 3 v (ints xs)]
   (fun r L=>(∃ i:Nat,r=.tuple #[.int .i64 i,.bool (decide (xs[i]?=some t))]/\nQ xs t i)/\L= [fy 3 v (ints xs)]):=by
 have hs:∀ i j (hi:i < xs.length) (hj:j < xs.length),i < j->xs[i] < xs[j]:=fun i j hi hj hij=>List.pairwise_iff_getElem.1 hs i j hi hj hij
 refine au ET Tryz.func127 rfl rfl rfl fun Fr w0=>aZ ?_
 refine dN (φ:=∃ a cap,v=.slice a xs.length cap/\(0 < xs.length->∃ g o,a=some ⟨g,o,none⟩)) (fun w hw=>by
  obtain⟨a,cap,e,h,_⟩:=qa hw
  rw[dD] at e h
  exact⟨a,cap,e,h⟩) fun⟨a,cap,hv,ha⟩=>?_
 subst hv
 refine sr<|ar O O<|ar O O<|lz<|mv O O<|ad O (ql O bI)<|ar O O<|lz<|mv O O<|ar O O<|ar O O<|lc<|al<|aB ?_
 refine bK (fun x:Nat×Nat=>x.1<=x.2/\x.2<=xs.length/\(∀ j (h:j < xs.length),j < x.1->xs[j] < t)/\(∀ j (h:j < xs.length),x.2<=j->t<=xs[j])) (fun x=>[(0,.slice a xs.length cap),(1,.int .i64 t),(6,.int .i64 xs.length),(7,.int .i64 x.1),(8,.int .i64 x.2)]) (fun _=>fy 3 (.slice a xs.length cap) (ints xs)::Fr) (fun x=>x.2-x.1) (0,xs.length) ⟨by omega,by omega,by omega,fun j h h2=>by omega⟩ ⟨rfl,rfl,rfl,rfl,rfl,trivial⟩ (dS.refl _) ?_
 rintro⟨i,j⟩ ⟨hij,hjk,hlo,hhi⟩
 dsimp only at hij hjk hlo hhi ⊢
 refine al<|sr<|mv O O<|mv O O<|ad O (qi O O (bj ·))<|lc<|aG O (fun h=>?_) fun h=>?_
 ·obtain⟨g,o,rfl⟩:=ha (by omega)
  have hcell:∀(k:Nat) {m:Nat} {u:Int},(k < xs.length/\m=k/\xs[k]?=some u)->dt (fy 3 (.slice (some ⟨g,o,none⟩) xs.length cap) (ints xs)) ⟨g,o+m,none⟩ (.int .i64 u):=fun k m u ⟨h1,h2,h3⟩=>by
   subst h2;exact nR (by rw[iw,h3];rfl)
  have hm:(i+j) / 2 < xs.length/\(((i:Int)+(j:Int)) / 2).toNat=(i+j) / 2/\xs[(i+j) / 2]?=some (xs[(i+j) / 2]'(by omega)):=⟨by omega,by omega,List.getElem?_eq_getElem _⟩
  refine aq<|an<|aB<|sr<|mv O O<|mv O O<|ad O (bn O O) ?_
  refine ad O (km O j5 xD) ?_
  apply ad O
  ·apply qi O O;first | exact fun w=>fp (m:=2) w (by decide) (by decide) (by omega) | exact fun w=>gA w (by decide)
  refine ad O (km O xD j5) ?_
  refine ar O O<|lz<|mv O O<|mv O O<|ad O (az O O bI aN (by omega)) ?_
  refine ad O (cf (A:=fy 3 (.slice (some ⟨g,o,none⟩) xs.length cap) (ints xs)) rfl aX tk (hcell _ hm)) ?_
  refine mv O O<|bF O O O (yp _ _) ?_
  refine lc<|aG O (fun q=>?_) fun q=>?_
  ·refine aD<|mv O O<|ad O (bn O O) ?_
   refine ar O O<|ai<|bz ?_
   apply aU (((i+j) / 2+1,j))
   ·exact⟨by dsimp only;omega,hjk,fun a ha hai=>by by_cases e:a=(i+j) / 2;(subst e;exact q);exact Int.lt_trans (hs a ((i+j) / 2) ha (by omega) (by dsimp only at hai;omega)) q,hhi⟩
   ·dsimp only;omega
   ·exact⟨rfl,rfl,rfl,congrArg (fun z=>some (Value.int .i64 z)) (by omega:((i:Int)+(j:Int)) / 2+1=(((i+j) / 2+1:Nat):Int)),rfl,trivial⟩
   exact en
  refine aD<|mv O O<|ar O O<|ai<|bz ?_
  apply aU ((i,(i+j) / 2))
  ·exact⟨by dsimp only;omega,by dsimp only;omega,hlo,fun a ha hai=>by by_cases e:a=(i+j) / 2;(subst e;omega);have:=hs ((i+j) / 2) a (by omega) ha (by dsimp only at hai;omega);omega⟩
  ·dsimp only;omega
  ·exact⟨rfl,rfl,rfl,rfl,congrArg (fun z=>some (Value.int .i64 z)) (by omega:((i:Int)+(j:Int)) / 2=(((i+j) / 2:Nat):Int)),trivial⟩
  exact en
 refine xt O<|nz<|mv O O<|mv O O<|mv O O<|ad O (qi O O (bj ·))<|mv O O ?_
 obtain rfl:i=j:=by omega
 have hpl:nQ xs t i:=⟨by omega,hlo,hhi⟩
 refine bQ (t:=35) rfl (fun a1=>?_) fun a1=>?_
 ·obtain⟨g,o,rfl⟩:=ha (by omega)
  have hil:i < xs.length:=by omega
  have hcell:∀(k:Nat) {m:Nat} {u:Int},(k < xs.length/\m=k/\xs[k]?=some u)->dt (fy 3 (.slice (some ⟨g,o,none⟩) xs.length cap) (ints xs)) ⟨g,o+m,none⟩ (.int .i64 u):=fun k m u ⟨h1,h2,h3⟩=>by
   subst h2;exact nR (by rw[iw,h3];rfl)
  have hm2:i < xs.length/\((i:Nat):Int).toNat=i/\xs[i]?=some xs[i]:=⟨hil,Int.toNat_natCast i,List.getElem?_eq_getElem hil⟩
  refine aA O O<|mv O O<|aA O O<|mv O O<|aA O O<|ad O (az O O bI aN (by omega)) ?_
  refine aA O O<|ad O (cf (A:=fy 3 (.slice (some ⟨g,o,none⟩) xs.length cap) (ints xs)) rfl aX tk (hcell _ hm2)) ?_
  refine aA O O<|mv O O<|aA O O<|ad O (qi O O (bN ·))<|aA O O<|mv O O<|bQ (t:=42) rfl (fun b=>?_) fun b=>?_
  ·refine ax O O O O<|ax O O O O<|ax O O O O<|ax O O O O<|ax O O O O<|ax O O O O<|cJ O O O<|cJ O O O<|ax O O O O<|aA O O<|ad O (aS O O)<|ad O (aS O O)<|ar O O<|ar O O<|lc<|rt<|ft O ([fy 3 (.slice (some ⟨g,o,none⟩) xs.length cap) (ints xs)]) (.tmp rfl) (.tmp rfl) ?_
   exact⟨⟨i,by rw[List.getElem?_eq_getElem hil,b,decide_eq_true rfl],hpl⟩,rfl⟩
  refine aA O O<|mv O O<|aA O O<|mv O O<|aA O O<|ad O (az O O bI aN (by omega)) ?_
  refine aA O O<|ad O (cf (A:=fy 3 (.slice (some ⟨g,o,none⟩) xs.length cap) (ints xs)) rfl aX tk (hcell _ hm2)) ?_
  refine aA O O<|bF O O O (rK _) ?_
  refine aA O O<|mv O O<|bQ (t:=48) rfl (fun e=>?_) fun e=>?_
  ·cases e
  refine ax O O O O<|ax O O O O<|aA O O<|ad O (aS O O)<|aA O O<|ad O (aS O O)<|ad O (aS O O)<|ar O O<|ar O O<|lc<|rt<|ft O ([fy 3 (.slice (some ⟨g,o,none⟩) xs.length cap) (ints xs)]) (.tmp rfl) (.tmp rfl) ?_
  exact⟨⟨i,by rw[List.getElem?_eq_getElem hil,decide_eq_false (by simpa using b)],hpl⟩,rfl⟩
 refine ax O O O O<|ax O O O O<|ax O O O O<|ax O O O O<|ax O O O O<|ax O O O O<|ax O O O O<|cJ O O O<|cJ O O O<|cJ O O O<|cJ O O O<|cJ O O O<|cJ O O O<|cJ O O O<|cJ O O O<|cJ O O O<|ax O O O O<|ad O (aS O O)<|ar O O<|ar O O<|lc<|rt<|ft O ([fy 3 (.slice a xs.length cap) (ints xs)]) (.tmp rfl) (.tmp rfl) ?_
 exact⟨⟨i,by rw[List.getElem?_eq_none (by omega)];rfl,hpl⟩,rfl⟩
theorem CJ (p k i:Nat) (os:List Int) (x:Int) (hk:os.length=k) (hkb:k<=1000) (hi:i<=k) (hno:∀ j (h:j < os.length),j < i->os[j]≠x):
  aK Tryz.prog 240 #[.slice (some ⟨p,0,none⟩) i k,.int .i64 x] [pt p (.cells (ints os).toArray 3 (0,0))] (fun v L=>v=.int .i64 (-1)/\L= [pt p (.cells (ints os).toArray 3 (0,0))]):=by
 refine au Ht Tryz.func240 rfl rfl rfl fun Fr w0=>aZ ?_
 refine sr<|ar O O<|lc<|al<|sr<|mv O O<|ad O (ql O bI)<|mv O O<|lc<|aB ?_
 refine bK (fun j:Nat=>j<=i) (fun j=>[(0,.slice (some ⟨p,0,none⟩) i k),(1,.int .i64 x),(7,.int .i64 (i:Nat)),(8,.int .i64 (j:Nat))]) (fun _=>pt p (.cells (ints os).toArray 3 (0,0))::Fr) (fun j=>i-j) 0 (Nat.zero_le _) ⟨rfl,rfl,rfl,rfl,trivial⟩ (dS.refl _) ?_
 intro j hj
 refine sr<|ad O (qi O O (bj ·))<|lc<|al<|aG O (fun h=>?_) fun h=>?_
 ·have hjl:j < os.length:=by omega
  refine aq<|an<|al<|aB<|sr<|mv O O<|ar O O<|lz<|mv O O<|mv O O<|mv O O<|ad O (az O O bI aN (by omega)) ?_
  apply ad O
  ·apply fW O aX
   ·exact tk
   rw[Nat.zero_add,Int.toNat_natCast];simp[ints,hjl];rfl
  refine ad O (qi O O (bN ·))<|lc ?_
  have hne:=hno j hjl (by omega)
  refine aG O (fun q=>?_) fun q=>?_
  ·exact absurd q.symm hne
  refine aq<|bz<|an<|aD<|ad O (bn O O) ?_
  refine mv O O<|ai ?_
  apply aU ((j+1))
  ·exact by omega
  ·omega
  ·exact⟨O,O,O,O,trivial⟩
  exact en
 exact xt O<|nz<|ar O O<|lc<|rt<|cN O ([pt p (.cells (ints os).toArray 3 (0,0))]) (.tmp rfl) ⟨rfl,rfl⟩
theorem vJ (p k i:Nat) (os:List Int) (x:Int) (hk:os.length=k) (hkb:k<=1000) (hi:i<=k) (hno:∀ j (h:j < os.length),j < i->os[j]≠x):
  aK Tryz.prog 214 #[.slice (some ⟨p,0,none⟩) i k,.int .i64 x] [pt p (.cells (ints os).toArray 3 (0,0))] (fun v L=>v=.bool false/\L= [pt p (.cells (ints os).toArray 3 (0,0))]):=by
 refine au HR Tryz.func214 rfl rfl rfl fun Fr w0=>aZ ?_
 refine sr<|ar O O<|lz<|mv O O<|mv O O<|bF O O O (CJ p k i os x hk hkb hi hno) ?_
 exact ad O (qi O O (iC ·))<|ar O O<|lc<|rt<|cN O ([pt p (.cells (ints os).toArray 3 (0,0))]) (.tmp rfl) ⟨rfl,rfl⟩
theorem DA {s:ArS} (hs:s.ok) {o c:Int} (ho:(o,c)∈s.bl) {lm:List (Int×Value)} (hd:c9 lm) (h:zZ s lm):zZ (s.give o) (k7 lm o):=by
 constructor
 ·intro p hp
  obtain⟨h1,h2⟩:=(oX hs ho).1 hp
  rw[Bw hd,if_neg fun e=>h2 (kA hs.chain (cG.1 h1).1 (cG.1 ho).1 e.symm)]
  exact h.1 p h1
 intro k hk
 rw[Bw hd]
 split
 ·rfl
 next q=>exact h.2 k fun d hd2=>hk d ((oX hs ho).2 ⟨hd2,fun e=>q (by rw[Prod.mk.injEq] at e;exact e.1.symm)⟩)
theorem DP {s:ArS} (hs:s.ok) {o c:Int} (ho:(o,c)∈s.bl) {i:Nat} (hi:nQ (s.frL c) o i) {fl:FL} (h:xz s fl) (v:Value):xz (s.give o) (jk fl c (v,mI (s.frL c) i o)):=fun d=>by
 rw[DM hs ho hi d,uP]
 split
 ·rfl
 exact h d
def ArS.gives (s:ArS) (os:List Int):ArS:=os.foldl ArS.give s
theorem rN (s:ArS) (os:List Int) (o:Int):s.gives (os ++ [o])=(s.gives os).give o:=by simp[ArS.gives]
theorem gm (s:ArS) (os:List Int):(s.gives os).all=s.all:=by
 induction os generalizing s with
 | nil=>rfl
 | cons o r ih=>exact ih (s.give o)
theorem jq (s:ArS) (os:List Int) (x:Int):(s.gives os).dead x=(s.dead x || decide (x∈os)):=by
 induction os generalizing s with
 | nil=>simp[ArS.gives]
 | cons o r ih=>
  show((s.give o).gives r).dead x=_
  rw[ih]
  show(s.dead x || decide (x=o) || decide (x∈r))=_
  rw[Bool.or_assoc]
  congr 1
  rw[Bool.eq_iff_iff,Bool.or_eq_true,decide_eq_true_eq,decide_eq_true_eq,decide_eq_true_eq,List.mem_cons]
theorem lJ {s:ArS} {os:List Int} {p:Int×Int}:p∈(s.gives os).bl↔p∈s.bl/\p.1∉os:=by
 rw[cG,cG,gm,jq,Bool.or_eq_false_iff,decide_eq_false_iff_not]
 exact⟨fun⟨a,b,c⟩=>⟨⟨a,b⟩,c⟩,fun⟨⟨a,b⟩,c⟩=>⟨a,b,c⟩⟩
theorem kY (s:ArS) (os:List Int):(s.gives os).m=s.m/\(s.gives os).limit=s.limit:=by
 induction os generalizing s with
 | nil=>exact⟨rfl,rfl⟩
 | cons o r ih=>exact ih (s.give o)
theorem Ee (pa:Nat) (s:ArS) (p k:Nat) (os:List Int) (hk:os.length=k) (hkb:k<=1000) (hnd:os.Nodup) (hlv:∀ o∈os,∃ c,(o,c)∈s.bl):
  aK Tryz.prog 165 #[.pointer (some ⟨pa,0,none⟩),.slice (some ⟨p,0,none⟩) k k] [pt p (.cells (ints os).toArray 3 (0,0)),aj pa s]
   (fun v L=>v=.int .i64 0/\L= [pt p (.cells (ints os).toArray 3 (0,0)),aj pa (s.gives os)]):=by
 subst hk
 refine au Iy Tryz.func165 rfl rfl rfl fun Fr w0=>aZ ?_
 refine sr<|ar O O<|lc<|al<|sr<|mv O O<|ad O (ql O bI)<|mv O O<|lc<|aB ?_
 refine bK (fun j:Nat=>j<=os.length) (fun j=>[(0,.pointer (some ⟨pa,0,none⟩)),(1,.slice (some ⟨p,0,none⟩) os.length os.length),(14,.slice (some ⟨p,0,none⟩) os.length os.length),(15,.int .i64 os.length),(16,.int .i64 (j:Nat))]) (fun _=>pt p (.cells (ints os).toArray 3 (0,0))::aj pa s::Fr) (fun j=>os.length-j) 0 (Nat.zero_le _) ⟨rfl,rfl,rfl,rfl,rfl,trivial⟩ (dS.refl _) ?_
 intro j hj
 refine sr<|ad O (qi O O (bj ·))<|lc<|al<|aG O (fun h=>?_) fun h=>?_
 ·have hjl:j < os.length:=by omega
  obtain⟨c,hc⟩:=hlv os[j] (List.getElem_mem hjl)
  refine il (L':=aj pa s::pt p (.cells (ints os).toArray 3 (0,0))::Fr) (by(exact en)) ?_
  refine dJ fun x hx=>?_
  refine gY fun M hM=>?_
  simp only[List.cons_append,List.nil_append] at hM
  subst M
  obtain⟨pm,g,cap,sb,fb,vs,vc,lm,fl⟩:=x
  obtain⟨hok,hcap,hcap2,hlm,hfl⟩:=hx
  dsimp only at hcap hcap2 hlm hfl ⊢
  have hlk:=hlm.1 _ hc
  dsimp only at hlk
  refine aq<|an<|al<|aB<|sr<|mv O O<|ad O (az O O bI aN (by omega)) ?_
  apply ad O
  ·apply fW O aX
   ·exact tk
   rw[Nat.zero_add,Int.toNat_natCast];simp[ints,hjl];rfl
  refine ar O O<|ar O O<|lz<|mv O O<|ad O (ae O)<|ad O (aE 5 O dy O O ri)<|ad O (aI O rk) ?_
  refine mv O O ?_
  apply ad O
  ·refine QV.to (v':=.tuple #[.int .i64 c,.bool true]) (kn ia O O Tryz.underlying113 Tryz.underlying3 sj (by exact tk)) (by rw[hlk];rfl)
  refine mv O O<|ad O (aa O ga) ?_
  refine ad O (aa O ga) ?_
  refine ar O O<|ar O O<|lz<|mv O O<|ad O (db O (cy ·))<|mv O O<|bQ (t:=32) rfl (fun q1=>?_) fun q1=>?_
  ·cases q1
  refine aA O O<|mv O O<|aA O O<|mv O O<|aA O O<|ad O (rA O O bI aN (by omega)) ?_
  refine aA O O<|mv O O<|aA O O ?_
  refine bF O O O (vJ p os.length j os os[j] rfl hkb (by omega) (fun i hi hij he=>by have:=(List.getElem_inj hnd).1 he;omega)) ?_
  refine ad O (aS O O)<|lc<|aG O (fun q2=>?_) fun q2=>?_
  ·cases q2
  refine aq<|bz<|an<|aD<|ad O (bn O O) ?_
  refine mv O O<|ai ?_
  refine xY (L':=aj pa s::pt p (.cells (ints os).toArray 3 (0,0))::Fr) (cD (R:=pt p (.cells (ints os).toArray 3 (0,0))::Fr) (x:=⟨pm,g,cap,sb,fb,vs,vc,lm,fl⟩) ⟨hok,hcap,hcap2,hlm,hfl⟩ (by dsimp only[oL];(exact en))) ?_
  apply aU ((j+1))
  ·exact by omega
  ·omega
  ·exact⟨O,O,O,O,O,trivial⟩
  exact en
 obtain rfl:j=os.length:=by omega
 refine xt O<|an<|al<|sr<|mv O O<|ad O (ql O bI)<|mv O O<|lc<|aB ?_
 refine bK (fun j:Nat=>j<=os.length) (fun j=>[(0,.pointer (some ⟨pa,0,none⟩)),(40,.slice (some ⟨p,0,none⟩) os.length os.length),(41,.int .i64 os.length),(42,.int .i64 (j:Nat))]) (fun j=>pt p (.cells (ints os).toArray 3 (0,0))::aj pa (s.gives (os.take j))::Fr) (fun j=>os.length-j) 0 (Nat.zero_le _) ⟨rfl,rfl,rfl,rfl,trivial⟩ (dS.refl _) ?_
 intro j hj
 refine sr<|ad O (qi O O (bj ·))<|lc<|al<|aG O (fun h2=>?_) fun h2=>?_
 ·have hjl:j < os.length:=by omega
  obtain⟨c,hc0⟩:=hlv os[j] (List.getElem_mem hjl)
  have hnt:os[j]∉os.take j:=fun hm=>by
   obtain⟨i,hi,e⟩:=List.getElem_of_mem hm
   rw[List.length_take] at hi
   rw[List.getElem_take] at e
   have:=(List.getElem_inj hnd).1 e
   omega
  have hc:(os[j],c)∈(s.gives (os.take j)).bl:=lJ.2 ⟨hc0,hnt⟩
  have hnext:s.gives (os.take (j+1))=(s.gives (os.take j)).give os[j]:=by rw[eL hjl,rN]
  obtain⟨s1,hs1⟩:∃ s1,s1=s.gives (os.take j):=⟨_,rfl⟩
  rw[<- hs1] at hc hnext ⊢
  refine il (L':=aj pa s1::pt p (.cells (ints os).toArray 3 (0,0))::Fr) (by(exact en)) ?_
  refine dJ fun x hx=>?_
  refine gY fun M hM=>?_
  simp only[List.cons_append,List.nil_append] at hM
  subst M
  obtain⟨pm,g,cap,sb,fb,vs,vc,lm,fl⟩:=x
  obtain⟨hok,hcap,hcap2,hlm,hfl⟩:=hx
  dsimp only at hcap hcap2 hlm hfl ⊢
  refine dN (φ:=c9 lm) (fun w hw=>(map_some (hw.perm (Take.perm (show Take (bG (fun k:Int=>Value.int .i64 k) sb lm) _ _ from tk)))).1) fun hdis=>?_
  have hlk:=hlm.1 _ hc
  dsimp only at hlk
  have hst:=hok.stop_eq
  have hsn:=ArS.sum_nonneg hok.chain
  have hlim:=hok.limit
  have hroom:=hok.room
  have hcl:=gn c (hok.isC _ (cG.1 hc).1)
  have hgl:=ma hok hc
  have hgo:=nt hok hc
  have hgl2:=hgo.stop_eq
  have hfc:=hfl c
  have hfrl:(s1.frL c).length<=s1.all.length:=by unfold ArS.frL;rw[List.length_map];exact List.length_filter_le _ _
  obtain⟨v7,xs7,hlkf⟩:∃ v7 xs7,fz fl c=(v7,xs7):=⟨_,_,rfl⟩
  rw[hlkf] at hfc
  dsimp only at hfc
  subst hfc
  have hvl:=rn fl c
  rw[hlkf] at hvl
  dsimp only at hvl
  refine il (oy (k:=c) (show Take (eU fl) _ _ from tk)) ?_
  rw[hlkf]
  refine aq<|an<|al<|aB<|sr<|ad O (az O O bI aN (by omega)) ?_
  apply ad O
  ·apply fW O aX
   ·exact tk
   rw[Nat.zero_add,Int.toNat_natCast];simp[ints,hjl];rfl
  refine ar O O<|lz<|mv O O<|ad O (ae O)<|ad O (aE 5 O dy O O ri)<|ad O (aI O rk) ?_
  refine mv O O ?_
  apply ad O
  ·refine QV.to (v':=.int .i64 c) (iX ia O O Tryz.underlying113 Tryz.underlying3 sj (by exact tk)) (by rw[hlk];rfl)
  refine ar O O<|lz<|mv O O<|ad O (ae O)<|ad O (aE 5 O dy O O ri)<|ad O (aI O rk) ?_
  refine mv O O ?_
  apply Bm ia O O O Al j5
  ·exact tk
  refine lz<|mv O O<|ad O (ae O)<|ad O (aE 1 O dy O O aN)<|ad O (aI O aX) ?_
  refine mv O O<|ad O (eJ O O) ?_
  refine ad O (ae O)<|ad O (aE 1 O dy O O aN)<|st O O O aN O ?_
  refine lz<|mv O O<|ad O (ae O)<|ad O (aE 6 O dy O O mT)<|ad O (aI O mV) ?_
  refine mv O O<|ad O (QV.to (iX ia O O Tryz.underlying114 Tryz.underlying3 Aj (by exact tk)) hvl) ?_
  refine mv O O<|cT O O O (xk (s1.frL c) v7 os[j] (by omega) (jK hok c)) ?_
  rintro v L' ⟨⟨i,rfl,hpl⟩,rfl⟩
  refine bx ?_
  refine mv O O<|ad O (aa O ga) ?_
  refine ad O (aa O ga) ?_
  refine ar O O<|ar O O<|lc<|aY mixed ?_
  apply dq 0 O (yq (ah O))
  apply dq 1 O (yq (ae O))
  apply dq 2 O (yq (aE 6 O dy O O mT))
  apply dq 3 O (yq (aI O mV))
  apply dq 4 O (yq (ah O))
  apply dq 5 O (yq (ah O))
  apply dq 6 O (yq (ae O))
  apply dq 7 O (yq (aE 6 O dy O O mT))
  apply dq 8 O (yq (aI O mV))
  apply dq 9 O (yq (ah O))
  apply dq 10 O (yq (QV.to (iX ia O O Tryz.underlying114 Tryz.underlying3 Aj (by exact tk)) hvl))
  apply dq 11 O (yq (ah O))
  apply dq 12 O (yq (ah O))
  refine ak [12] [11,10,9,8,7,6,5,4,3,2,1,0] 13 [(88,_)] gO ⟨rfl,trivial⟩ (by kernel_rfl) (by kernel_rfl) fun Ex=>?_
  refine bR [_] rfl rfl bI aN sj rfl rfl rfl rfl (fun b89=>?_)
  refine ai ?_
  refine aQ ⟨ya O O (yq (ah O)),ya O O (yq (QV.to (iX ia O O Tryz.underlying114 Tryz.underlying3 Aj (by exact tk)) hvl)),ya O O (yq (ah O)),ya O O (yq (aI O mV)),ya O O (yq (aE 6 O dy O O mT)),ya O O (yq (ae O)),ya O O (yq (ah O)),ya O O (yq (ah O)),ya O O (yq (aI O mV)),ya O O (yq (aE 6 O dy O O mT)),ya O O (yq (ae O)),ya O O (yq (ah O)),trivial⟩ ?_
  refine ak [10,11,8,9,7,6,5] [4,3,2,1,0] 14 [(86,_),(87,_),(89,_)] gO ⟨rfl,rfl,rfl,trivial⟩ (by kernel_rfl) (by kernel_rfl) fun Ex=>?_
  refine cT O O O (Aa v7 (s1.frL c) i os[j] b89 hpl.1 (by omega)) ?_
  rintro v9 L' rfl
  refine bx ?_
  refine ai ?_
  refine aQ ⟨ya O O (yq (ah O)),ya O O (yq (aI O mV)),ya O O (yq (aE 6 O dy O O mT)),ya O O (yq (ae O)),ya O O (yq (ah O)),trivial⟩ ?_
  refine ak [3,4,0,1,2] [] 15 [(79,_),(80,_),(90,_)] gO ⟨rfl,rfl,rfl,trivial⟩ (by kernel_rfl) (by kernel_rfl) fun Ex=>?_
  apply gl ia O O O O Ej j5
  ·exact tk
  refine ai ?_
  refine aQ trivial ?_
  refine aV (by kernel_rfl) ?_
  refine bz<|an<|aD<|ad O (bn O O) ?_
  refine mv O O<|ai ?_
  refine xY (L':=aj pa (s1.give os[j])::pt p (.cells (ints os).toArray 3 (0,0))::Fr) (dS.trans (sY (fl:=fl) (k:=c) (v:=v9) (xs:=mI (s1.frL c) i os[j]) (show Take (fy 3 v9 (ints (mI (s1.frL c) i os[j]))) _ _ from tk) (show Take (eU (iM fl c)) _ _ from tk)) (cD (R:=pt p (.cells (ints os).toArray 3 (0,0))::Fr) (x:=⟨pm,g,cap,sb,fb,vs,vc,k7 lm os[j],jk fl c (v9,mI (s1.frL c) i os[j])⟩) ⟨hgo,hcap,hcap2,DA hok hc hdis hlm,DP hok hc hpl hfl v9⟩ (by dsimp only[oL];rw[hgl,rm,show(s1.give os[j]).limit=s1.limit from rfl,show(s1.give os[j]).stop=s1.stop from rfl,show(s1.give os[j]).all=s1.all from rfl,show(s1.give os[j]).m=s1.m from rfl];(exact en)))) ?_
  rw[<- hnext]
  apply aU ((j+1))
  ·exact by omega
  ·omega
  ·exact⟨O,O,O,O,trivial⟩
  exact en
 refine xt O<|nz<|ar O O<|lc<|rt ?_
 obtain rfl:j=os.length:=by omega
 rw[List.take_length]
 exact cN O ([pt p (.cells (ints os).toArray 3 (0,0)),aj pa (s.gives os)]) (.tmp rfl) ⟨rfl,rfl⟩
theorem CM (pa:Nat) (s:ArS) (p:Nat) (a b:Int) (hab:a≠b) (h1:∃ c,(a,c)∈s.bl) (h2:∃ c,(b,c)∈s.bl):
  aK Tryz.prog 165 #[.pointer (some ⟨pa,0,none⟩),.slice (some ⟨p,0,none⟩) 2 2] [pt p (.cells #[.int .i64 a,.int .i64 b] 3 (0,0)),aj pa s]
   (fun v L=>v=.int .i64 0/\L= [pt p (.cells #[.int .i64 a,.int .i64 b] 3 (0,0)),aj pa (s.gives [a,b])]):=
 Ee pa s p 2 [a,b] rfl (by decide) (by simp[hab]) (fun o ho=>by
  rcases List.mem_cons.1 ho with q | q
  ·rw[q];exact h1
  rw[List.mem_singleton.1 q];exact h2)
end Arena
end Go.Proofs.YthkajgkagnenbaaGreatDoor
