import Derived.Test.YthkajgkagnenbaaGreatDoorRef11S
set_option linter.unusedVariables false
set_option linter.unusedSimpArgs false
set_option linter.unusedSectionVars false
namespace Go.Proofs.YthkajgkagnenbaaGreatDoor
section
set_option maxRecDepth 100000
namespace Exact11
open Go.RowKit Go.Proofs Eng Bits Mem Search Arena CtrlB Layout GroupB Group TableB TableI Table Cells Refill Small BytesP
open RefT
open Exact (PR mP bl_good rZ qe ES)
@[reducible] def fc (l:Lay):Int:=aC (32+l.group)
theorem lg {l:Lay} (hl:l.err=0):((32+gN l:Nat):Int)≤fc l∧1≤fc l∧fc l≤1048576:=by
 have hbd:=Lay.bnd hl
 have hg:=(eL hl).g
 have h:=cF (n:=32+l.group) (by omega)
 have h2:=h.2.2 (by omega)
 unfold fc
 omega
structure l9 (s:ArS) (l:Lay) (x:SR):Prop where
 rng:SRng x.S
 live:x.dead=false→SmP s x.off l x.S∧(((x.off:Nat):Int),fc l)∈s.bl∧iy s x.off (32+gN l) (fc l)
 gone:x.dead=true→x.over=false→s.dead (x.off:Nat)=true∧(∃ c,(((x.off:Nat):Int),c)∈s.all)
 place:x.off≤1000000000
structure fe (s:ArS) (l:Lay) (ps:List SR) (ts:List PR):Prop where
 one:∀ x∈ps,l9 s l x
 tab:∀ t∈ts,Exact.One s l t∧t.dead=false
 two:∀(i j:Nat) (x y:SR),i≠j→ps[i]?=some x→ps[j]?=some y→x.dead=false→y.dead=false→x.off≠y.off
 mix:∀ x∈ps,x.dead=false→∀ t∈ts,x.off≠t.off∧x.off≠t.go
theorem fe.nil (s:ArS) (l:Lay):fe s l [] []:=⟨fun x h=>(by cases h),fun x h=>(by cases h),fun i j x y _ h=>by simp at h,fun x h=>(by cases h)⟩
theorem fe.at {s:ArS} {l:Lay} {ps:List SR} {ts:List PR} (h:fe s l ps ts) {i:Nat} {x:SR} (hx:ps[i]?=some x):l9 s l x:=h.one x (List.mem_of_getElem? hx)
theorem dZ.sm {s s':ArS} {l:Lay} {o:Nat} {k:Nat} (hS:dZ s s' o k) {off:Nat} {S:Sm} (h:SmP s off l S) (ha:off+(32+gN l)≤o∨o+k≤off):SmP s' off l S:=
 h.moved (fun a b ⟨h0,p,hp,q⟩=>⟨h0,p,by rw[hS.bl];exact hp,q⟩) fun a h1 h2=>hS.m a (by omega)
theorem dZ.tz {s s':ArS} {o k:Nat} (hS:dZ s s' o k) {off n:Nat} {c:Int} (h:iy s off n c) (hn:(n:Int)≤c) (ha:(off:Int)+c≤o∨o+k≤off):iy s' off n c:=fun a h1 h2=>by
 rw[hS.m a (by omega)];exact h a h1 h2
theorem dZ.tab {s s':ArS} {o k:Nat} {off go:Nat} {l:Lay} {n e:Nat} {T:Tb} (hS:dZ s s' o k) (h:eO s off go l n e T) (h1:off+64≤o∨o+k≤off) (h2:go+n*gN l≤o∨o+k≤go):eO s' off go l n e T:=
 eO.moved h (fun a b ⟨h0,p,hp,q⟩=>⟨h0,p,by rw[hS.bl];exact hp,q⟩) (fun a _ _=>hS.m a (by omega)) (fun a _ _=>hS.m a (by omega))
theorem mem_set {A:Type} {xs:List A} {i:Nat} {y x:A} (h:x∈xs.set i y):x=y∨∃ j,j≠i∧xs[j]?=some x:=by
 obtain⟨j,hj⟩:=List.getElem?_of_mem h
 rw[List.getElem?_set] at hj
 split at hj
 ·split at hj
  ·cases hj;exact .inl rfl
  cases hj
 next q=>exact .inr ⟨j,Ne.symm q,hj⟩
theorem mH {A:Type} {xs:List A} {i j:Nat} {y x:A} (h:(xs.set i y)[j]?=some x):(j=i∧x=y)∨(j≠i∧xs[j]?=some x):=by
 rw[List.getElem?_set] at h
 split at h
 ·next q=>subst q;split at h;(cases h;exact .inl ⟨rfl,rfl⟩);cases h
 next q=>exact .inr ⟨Ne.symm q,h⟩
section
variable {s s':ArS} (hs:s.ok) {l:Lay} {ps:List SR} {ts:List PR} (h:fe s l ps ts)
include hs h
theorem fe.set {i:Nat} {y:SR} (hy:ps[i]?=some y) (hd:y.dead=false) (hS:dZ s s' y.off (32+gN l)) {S':Sm} (hP:SmP s' y.off l S') (hr:SRng S'):fe s' l (ps.set i {y with S:=S'}) ts:=by
 obtain⟨g1,g2,g3⟩:=(h.at hy).live hd
 have hl:=g1.hl
 obtain⟨k1,k2,k3⟩:=lg hl
 have hym:=List.mem_of_getElem? hy
 refine⟨fun x hx=>?_,fun t ht=>?_,fun j k x z hjk hx hz hdx hdz=>?_,fun x hx hdx t ht=>?_⟩
 ·rcases mem_set hx with rfl | ⟨j,hne,hx2⟩
  ·exact⟨hr,fun _=>⟨hP,by rw[hS.bl];exact g2,fun a q1 q2=>by have q3:y.off+(32+gN l)≤a:=q1;rw[hS.m a (by omega)];exact g3 a q1 q2⟩,fun q=>(by rw[show({y with S:=S'}:SR).dead=y.dead from rfl,hd] at q;cases q),(h.at hy).place⟩
  have h0:=h.at hx2
  refine⟨h0.rng,fun q=>?_,fun q1 q2=>?_,h0.place⟩
  ·obtain⟨f1,f2,f3⟩:=h0.live q
   have ha:=mP hs f2 g2 (by have:=h.two j i _ _ hne hx2 hy q hd;dsimp only;omega)
   dsimp only at ha
   exact⟨dZ.sm hS f1 (by omega),by rw[hS.bl];exact f2,dZ.tz hS f3 k1 (by omega)⟩
  obtain⟨f1,c,f2⟩:=h0.gone q1 q2
  rw[hS.dead,hS.all]
  exact⟨f1,c,f2⟩
 ·obtain⟨t1,t2⟩:=h.tab t ht
  obtain⟨f1,f2,f3,f4⟩:=t1.live t2
  obtain⟨m1,m2⟩:=h.mix y hym hd t ht
  have kc:=rZ rfl f4
  have b1:=mP hs f2 g2 (by dsimp only;omega)
  have b2:=mP hs f3 g2 (by dsimp only;omega)
  dsimp only at b1 b2
  refine⟨⟨t1.he,t1.hn,t1.rng,fun _=>⟨dZ.tab hS f1 (by omega) (by omega),by rw[hS.bl];exact f2,by rw[hS.bl];exact f3,f4⟩,fun q=>(by rw[t2] at q;cases q),t1.place,fun q=>dZ.tz hS (t1.tail q) kc (by omega)⟩,t2⟩
 ·rcases mH hx with⟨rfl,rfl⟩ | ⟨hne,hx2⟩
  ·rcases mH hz with⟨rfl,_⟩ | ⟨hne2,hz2⟩
   ·exact absurd rfl hjk
   exact h.two j k y z hjk hy hz2 hd hdz
  rcases mH hz with⟨rfl,rfl⟩ | ⟨hne2,hz2⟩
  ·exact h.two j k x y hjk hx2 hy hdx hd
  exact h.two j k x z hjk hx2 hz2 hdx hdz
 rcases mem_set hx with rfl | ⟨j,hne,hx2⟩
 ·exact h.mix y hym hd t ht
 exact h.mix x (List.mem_of_getElem? hx2) hdx t ht
theorem fe.free {i:Nat} {y:SR} (hy:ps[i]?=some y) (hd:y.dead=false):fe (s.gives [((y.off:Nat):Int)]) l (ps.set i {y with dead:=true}) ts:=by
 obtain⟨g1,g2,g3⟩:=(h.at hy).live hd
 have hym:=List.mem_of_getElem? hy
 have hm:(s.gives [((y.off:Nat):Int)]).m=s.m:=(rP _ _).1
 have hdead:∀ o,s.dead o=true→(s.gives [((y.off:Nat):Int)]).dead o=true:=fun o ho=>by rw[l4,ho];rfl
 have hbl:∀ p∈s.bl,p.1≠(y.off:Nat)→p∈(s.gives [((y.off:Nat):Int)]).bl:=fun p hp hne=>oS.2 ⟨hp,by simpa using hne⟩
 refine⟨fun x hx=>?_,fun t ht=>?_,fun j k x z hjk hx hz hdx hdz=>?_,fun x hx hdx t ht=>?_⟩
 ·rcases mem_set hx with rfl | ⟨j,hne,hx2⟩
  ·exact⟨(h.at hy).rng,fun q=>(by cases q),fun _ _=>⟨by rw[l4];simp,fc l,by rw[jl];exact(cr.1 g2).1⟩,(h.at hy).place⟩
  have h0:=h.at hx2
  refine⟨h0.rng,fun q=>?_,fun q1 q2=>?_,h0.place⟩
  ·obtain⟨f1,f2,f3⟩:=h0.live q
   have hno:=h.two j i _ _ hne hx2 hy q hd
   have b2:=hbl _ f2 (by dsimp only;omega)
   obtain⟨k1,k2,k3⟩:=lg f1.hl
   have hgg:=(eL f1.hl).g
   refine⟨⟨f1.hl,bl_good b2 (by omega) (by omega),fun k hk=>by rw[hm];exact f1.head k hk,f1.hr,fun j hj=>by rw[hm];exact f1.body j hj,f1.okc⟩,b2,fun a q1 q2=>by rw[hm];exact f3 a q1 q2⟩
  obtain⟨f1,c,f2⟩:=h0.gone q1 q2
  exact⟨hdead _ f1,c,by rw[jl];exact f2⟩
 ·obtain⟨t1,t2⟩:=h.tab t ht
  obtain⟨f1,f2,f3,f4⟩:=t1.live t2
  obtain⟨m1,m2⟩:=h.mix y hym hd t ht
  have b1:=hbl _ f2 (by dsimp only;omega)
  have b2:=hbl _ f3 (by dsimp only;omega)
  exact⟨⟨t1.he,t1.hn,t1.rng,fun _=>⟨qe f1 (bl_good b1 (by decide) (by decide)) (bl_good b2 (by omega) (rZ rfl f4)) hm,b1,b2,f4⟩,fun q=>(by rw[t2] at q;cases q),t1.place,fun q a q1 q2=>by rw[hm];exact t1.tail q a q1 q2⟩,t2⟩
 ·rcases mH hx with⟨rfl,rfl⟩ | ⟨hne,hx2⟩
  ·cases hdx
  rcases mH hz with⟨rfl,rfl⟩ | ⟨hne2,hz2⟩
  ·cases hdz
  exact h.two j k x z hjk hx2 hz2 hdx hdz
 rcases mem_set hx with rfl | ⟨j,hne,hx2⟩
 ·cases hdx
 exact h.mix x (List.mem_of_getElem? hx2) hdx t ht
end
def cj (x:SR):SR:={x with over:=x.over || x.dead}
theorem fe.over {s s':ArS} {l:Lay} {ps:List SR} {ts:List PR} (h:fe s l ps ts) (hg:∀ p∈s.bl,p∈s'.bl) (hm:∀ p∈s.bl,∀ a:Nat,p.1≤a→(a:Int) < p.1+p.2→s'.m a=s.m a):fe s' l (ps.map cj) ts:=by
 have hgood:∀ o k,aN s o k→aN s' o k:=fun o k ⟨k0,p,hp,q⟩=>⟨k0,p,hg p hp,q⟩
 refine⟨fun x hx=>?_,fun t ht=>?_,fun i j x y hij hx hy hdx hdy=>?_,fun x hx hdx t ht=>?_⟩
 ·obtain⟨y,hy,rfl⟩:=List.mem_map.1 hx
  have h0:=h.one y hy
  refine⟨h0.rng,fun hd=>?_,fun hd ho=>?_,h0.place⟩
  ·obtain⟨g1,g2,g3⟩:=h0.live hd
   obtain⟨k1,k2,k3⟩:=lg g1.hl
   exact⟨g1.moved hgood fun a q1 q2=>hm _ g2 a (by dsimp only;omega) (by dsimp only;omega),hg _ g2,fun a q1 q2=>by have q3:y.off+(32+gN l)≤a:=q1;rw[hm _ g2 a (by dsimp only;omega) q2];exact g3 a q1 q2⟩
  unfold cj at hd ho
  dsimp only at hd ho
  rw[hd,Bool.or_true] at ho
  cases ho
 ·obtain⟨t1,t2⟩:=h.tab t ht
  obtain⟨f1,f2,f3,f4⟩:=t1.live t2
  have kc:=rZ (k:=t.n*gN l) rfl f4
  exact⟨⟨t1.he,t1.hn,t1.rng,fun _=>⟨eO.moved f1 hgood (fun a q1 q2=>hm _ f2 a (by dsimp only;omega) (by dsimp only;omega)) (fun a q1 q2=>hm _ f3 a (by dsimp only;omega) (by dsimp only;omega)),hg _ f2,hg _ f3,f4⟩,fun q=>(by rw[t2] at q;cases q),t1.place,fun q a q1 q2=>by rw[hm _ f3 a (by dsimp only;omega) q2];exact t1.tail q a q1 q2⟩,t2⟩
 ·rw[List.getElem?_map] at hx hy
  obtain⟨x',hx',rfl⟩:=Option.map_eq_some_iff.1 hx
  obtain⟨y',hy',rfl⟩:=Option.map_eq_some_iff.1 hy
  exact h.two i j x' y' hij hx' hy' hdx hdy
 obtain⟨y,hy,rfl⟩:=List.mem_map.1 hx
 exact h.mix y hy hdx t ht
theorem oE {s:ArS} (hs:s.ok) {p:Int×Int} (hp:p∈s.bl) {c:Int} (hc:1≤c):p.1≠((s.at c:Nat):Int):=by
 have a1:=dO hs hp (c:=c) hc
 have p3:=(ArS.chain_pos hs.chain _ (cr.1 hp).1).2
 omega
theorem kA {ps:List SR} {x:SR} {i:Nat} {y:SR} (hy:(ps.map cj ++ [x])[i]?=some y):(i < ps.length∧(ps.map cj)[i]?=some y)∨(i=ps.length∧y=x):=by
 rcases Nat.lt_trichotomy i ps.length with q | q | q
 ·rw[List.getElem?_append_left (by simpa using q)] at hy;exact .inl ⟨q,hy⟩
 ·subst q
  rw[List.getElem?_append_right (by simp)] at hy
  simp at hy
  exact .inr ⟨rfl,hy.symm⟩
 rw[List.getElem?_eq_none (by simp;omega)] at hy;cases hy
theorem fe.pushS {s s':ArS} (hs:s.ok) {l:Lay} {ps:List SR} {ts:List PR} (h:fe s l ps ts) {c:Int} (hc:1≤c) (hN:CC s s' c) {x:SR} (hx:l9 s' l x) (ho:x.off=s.at c):fe s' l (ps.map cj ++ [x]) ts:=by
 have hA:=h.over (s':=s') (fun p hp=>(hN.bl p).2 (.inl hp)) hN.m
 have hap:∀ y∈ps,y.dead=false→y.off≠x.off:=fun y hy hd=>by
  obtain⟨_,g2,_⟩:=(h.one y hy).live hd
  have:=oE hs g2 hc
  dsimp only at this
  omega
 have hold:∀ {i:Nat} {y:SR},(ps.map cj)[i]?=some y→y.dead=false→y.off≠x.off:=fun {i y} hy hd=>by
  rw[List.getElem?_map] at hy
  obtain⟨y',hy',rfl⟩:=Option.map_eq_some_iff.1 hy
  exact hap y' (List.mem_of_getElem? hy') hd
 refine⟨fun y hy=>?_,hA.tab,fun i j y z hij hy hz hdy hdz=>?_,fun y hy hdy t ht=>?_⟩
 ·rcases List.mem_append.1 hy with q | q
  ·exact hA.one y q
  rw[List.mem_singleton.1 q];exact hx
 ·rcases kA hy with⟨a1,a2⟩ | ⟨a1,a2⟩
  ·rcases kA hz with⟨b1,b2⟩ | ⟨b1,b2⟩
   ·exact hA.two i j y z hij a2 b2 hdy hdz
   rw[b2];exact hold a2 hdy
  rcases kA hz with⟨b1,b2⟩ | ⟨b1,b2⟩
  ·rw[a2];exact(hold b2 hdz).symm
  omega
 rcases List.mem_append.1 hy with q | q
 ·exact hA.mix y q hdy t ht
 rw[List.mem_singleton.1 q]
 obtain⟨t1,t2⟩:=h.tab t ht
 obtain⟨_,f2,f3,_⟩:=t1.live t2
 have m1:=oE hs f2 hc
 have m2:=oE hs f3 hc
 dsimp only at m1 m2
 omega
theorem fe.pushT {s s':ArS} (hs:s.ok) {l:Lay} {ps:List SR} {ts:List PR} (h:fe s l ps ts) {c:Int} (hc:1≤c) (hfit:s.live+64≤s.limit) (hN:lu s s' c) {x:PR} (hx:Exact.One s' l x) (hd:x.dead=false) (ho:x.off=s.at 64) (hgo:x.go=(s.take 64).at c):fe s' l (ps.map cj) (ts ++ [x]):=by
 have hA:=h.over (s':=s') (fun p hp=>(hN.bl p).2 (.inl hp)) hN.m
 have ok64:=ArS.take_ok hs c64 hfit
 refine⟨hA.one,fun t ht=>?_,hA.two,fun y hy hdy t ht=>?_⟩
 ·rcases List.mem_append.1 ht with q | q
  ·exact hA.tab t q
  rw[List.mem_singleton.1 q];exact⟨hx,hd⟩
 rcases List.mem_append.1 ht with q | q
 ·exact hA.mix y hy hdy t q
 rw[List.mem_singleton.1 q]
 obtain⟨y',hy',rfl⟩:=List.mem_map.1 hy
 obtain⟨_,g2,_⟩:=(h.one y' hy').live hdy
 have m1:=oE hs g2 (c:=64) (by decide)
 have m2:=oE ok64 ((ef hs).2 (.inl g2)) hc
 dsimp only at m1 m2
 show y'.off≠x.off∧y'.off≠x.go
 omega
theorem l9.not {s:ArS} (hs:s.ok) {l:Lay} {x:SR} (h:l9 s l x) (hd:x.dead=true) (ho:x.over=false):¬ aN s (x.off:Nat) 8∧s.all≠[]:=by
 obtain⟨h1,c,h2⟩:=h.gone hd ho
 refine⟨fun hg=>?_,fun e=>by rw[e] at h2;cases h2⟩
 obtain⟨_,p,hp,q1,q2⟩:=hg
 obtain⟨hp1,hp2⟩:=cr.1 hp
 have pos:=(ArS.chain_pos hs.chain _ h2).2
 rcases iN hs.chain hp1 h2 with e | e | e
 ·rw[e] at hp2;dsimp only at hp2;rw[h1] at hp2;cases hp2
 ·dsimp only at e;omega
 dsimp only at e;omega
theorem o4 {S:Sm} {i:Nat} (hi:i < 8) (c:Cell):cnt isFull (bT S.cells i c) 8+(if isFull (S.cells i) then 1 else 0)=cnt isFull S.cells 8+if isFull c then 1 else 0:=mK (p:=isFull) hi c
theorem _root_.Go.Proofs.YthkajgkagnenbaaGreatDoor.Small.SRng.put {S:Sm} (h:SRng S) (t:Nat) (key elem:ByteArray) (birth:Int):SRng (iC S t key elem birth).2:=by
 have hu:=h.used
 unfold iC
 split
 ·next q=>
  obtain⟨e0,b0,hc⟩:=se q
  have h1:=o4 (S:=S) q (.full (t:Int) key elem b0)
  rw[hc] at h1
  refine⟨?_,h.pins,h.kind⟩
  show S.used=((cnt isFull (bT S.cells (atS S t key) (Dz (S.cells (atS S t key)) elem)) 8:Nat):Int)
  rw[hc]
  simp only[Dz,isFull,if_pos] at h1 ⊢
  omega
 split
 ·exact h
 next q=>
 have hf:=dK (eD S.cells)
 have hlt:bA (eD S.cells) < 8:=by omega
 have hv:isFull (S.cells (bA (eD S.cells)))=false:=by
  have:=g5 hlt
  rw[ja] at this
  simpa using this
 have h1:=o4 (S:=S) hlt (.full (t:Int) key elem birth)
 rw[hv] at h1
 refine⟨?_,h.pins,h.kind⟩
 show S.used+1=((cnt isFull (bT S.cells (bA (eD S.cells)) (.full (t:Int) key elem birth)) 8:Nat):Int)
 simp only[isFull,Bool.false_eq_true,if_false,if_pos] at h1
 omega
theorem _root_.Go.Proofs.YthkajgkagnenbaaGreatDoor.Small.SRng.del {S:Sm} (h:SRng S) (t:Nat) (key:ByteArray):SRng (jV S t key).2:=by
 have hu:=h.used
 unfold jV
 split
 ·next q=>
  obtain⟨e0,b0,hc⟩:=se q
  have h1:=o4 (S:=S) q .empty
  rw[hc] at h1
  refine⟨?_,h.pins,h.kind⟩
  show S.used-1=((cnt isFull (bT S.cells (atS S t key) .empty) 8:Nat):Int)
  simp only[isFull,Bool.false_eq_true,if_false,if_pos] at h1
  omega
 exact h
end Exact11
end
section
set_option maxRecDepth 100000
namespace Exact11
open Go.RowKit Go.Proofs Eng Ty Bits Mem Search Arena CtrlB Ctrl Layout GroupB Group TableB TableI Table Cells Refill Small
structure eY (s s':ArS) (l:Lay) (x:SR) (S':Sm):Prop where
 live:x.dead=false→dZ s s' x.off (32+gN l)∧SmP s' x.off l S'∧SRng S'
 gone:x.dead=true→s'=s∧S'=x.S
theorem eY.no {s:ArS} {l:Lay} {x:SR} (hO:l9 s l x):eY s s l x x.S:=⟨fun hd=>⟨dZ.refl _ _ _,(hO.live hd).1,hO.rng⟩,fun _=>⟨rfl,rfl⟩⟩
theorem eY.all {s s':ArS} (hs:s.ok) {l:Lay} {ps:List SR} {ts:List Exact.PR} (h:fe s l ps ts) {i:Nat} {x:SR} (hx:ps[i]?=some x) {S':Sm} (hS:eY s s' l x S'):fe s' l (ps.set i {x with S:=S'}) ts:=by
 by_cases hd:x.dead=true
 ·obtain⟨rfl,rfl⟩:=hS.gone hd
  rw[show({x with S:=x.S}:SR)=x from rfl]
  have hil:i < ps.length:=(List.getElem?_eq_some_iff.1 hx).1
  rw[show ps.set i x=ps from List.ext_getElem? fun j=>by
   rw[List.getElem?_set]
   split
   ·next q=>subst q;exact hx.symm
   rfl]
  exact h
 have hd:x.dead=false:=by simpa using hd
 obtain⟨a1,a2,a3⟩:=hS.live hd
 exact h.set hs hx hd a1 a2 a3
theorem eY.arena {s s':ArS} {l:Lay} {x:SR} {S':Sm} (hS:eY s s' l x S'):s'.limit=s.limit∧s'.all=s.all∧s'.dead=s.dead:=by
 by_cases hd:x.dead=true
 ·obtain⟨rfl,_⟩:=hS.gone hd;exact⟨rfl,rfl,rfl⟩
 obtain⟨a1,_,_⟩:=hS.live (by simpa using hd);exact⟨a1.limit,a1.all,a1.dead⟩
section
variable (pa:Nat) (s:ArS) (hs:s.ok) (l:Lay) (hl:l.err=0) (x:SR) (hO:l9 s l x) (hov:x.over=false)
include hs hl hO hov
theorem G3:aG Tryz.prog 121 #[.agg #[.pointer (some ⟨pa,0,none⟩),.int .i64 l.key,.int .i64 l.elem,.int .i64 l.ka,.int .i64 l.ea,.int .i64 l.cap,.int .i64 l.eo,.int .i64 l.bo,.int .i64 l.slot,.int .i64 l.group,.int .i64 (x.off:Nat)]] [ae pa s] (fun v L=>v=.tuple #[.agg (if x.dead then #[.int .i64 0,.int .i64 0,.int .i64 0,.bool false] else #[.int .i64 x.S.used,.int .i64 x.S.pins,.int .i64 x.S.next,.bool (decide (x.S.kind=3))]),.int .i64 (if x.dead then 24 else 0)]∧L= [ae pa s]):=by
 cases hd:x.dead with
 | true=>
  obtain⟨hng,hne⟩:=hO.not hs hd hov
  exact fu pa x.off s l hng hne hO.place
 | false=>exact fm pa x.off s l x.S (hO.live hd).1
theorem G7 (k:Int):aG Tryz.prog 123 #[.agg #[.pointer (some ⟨pa,0,none⟩),.int .i64 l.key,.int .i64 l.elem,.int .i64 l.ka,.int .i64 l.ea,.int .i64 l.cap,.int .i64 l.eo,.int .i64 l.bo,.int .i64 l.slot,.int .i64 l.group,.int .i64 (x.off:Nat)],.int .i64 k] [ae pa s] (fun v L=>v=.tuple #[.agg #[.int .i64 (dR x k).1.kind,.int .i64 (dR x k).1.tagI,.string (dR x k).1.keyS,.string (dR x k).1.elemS,.int .i64 (dR x k).1.birthI],.int .i64 (dR x k).2]∧L= [ae pa s]):=by
 unfold dR
 cases hd:x.dead with
 | true=>
  obtain⟨hng,hne⟩:=hO.not hs hd hov
  exact pA pa x.off s l hng hne hO.place k
 | false=>
  by_cases hk:k < 0∨8≤k
  ·simp only[if_pos hk,Bool.false_eq_true,if_false]
   exact yg pa x.off s l x.S (hO.live hd).1 k hk
  simp only[if_neg hk,Bool.false_eq_true,if_false]
  obtain⟨j,rfl⟩:=Int.eq_ofNat_of_zero_le (show 0≤k by omega)
  exact ud pa x.off s l x.S (hO.live hd).1 j (by omega)
theorem G4 (v:Int) (hv:-9223372036854775808≤v∧v≤9223372036854775807):aG Tryz.prog 113 #[.agg #[.pointer (some ⟨pa,0,none⟩),.int .i64 l.key,.int .i64 l.elem,.int .i64 l.ka,.int .i64 l.ea,.int .i64 l.cap,.int .i64 l.eo,.int .i64 l.bo,.int .i64 l.slot,.int .i64 l.group,.int .i64 (x.off:Nat)],.int .i64 v] [ae pa s] (fun r L=>∃ s',r=.int .i64 (iU x v).1∧L= [ae pa s']∧eY s s' l x (iU x v).2):=by
 unfold iU
 cases hd:x.dead with
 | true=>
  obtain⟨hng,hne⟩:=hO.not hs hd hov
  exact(lH pa x.off s l hng hne hO.place v).mono fun r L h=>⟨s,h.1,h.2,eY.no hO⟩
 | false=>
  exact(nJ pa x.off s l x.S (hO.live hd).1 v hv).mono fun r L h=>by
   obtain⟨s',h1,h2,h3,h4⟩:=h
   exact⟨s',h1,h2,fun _=>⟨h4,h3,⟨hO.rng.used,hO.rng.pins,hO.rng.kind⟩⟩,fun q=>by rw[hd] at q;cases q⟩
theorem H8 (v:Int) (hv:-9223372036854775808≤v∧v≤9223372036854775807):aG Tryz.prog 111 #[.agg #[.pointer (some ⟨pa,0,none⟩),.int .i64 l.key,.int .i64 l.elem,.int .i64 l.ka,.int .i64 l.ea,.int .i64 l.cap,.int .i64 l.eo,.int .i64 l.bo,.int .i64 l.slot,.int .i64 l.group,.int .i64 (x.off:Nat)],.int .i64 v] [ae pa s] (fun r L=>∃ s',r=.int .i64 (lD x v).1∧L= [ae pa s']∧eY s s' l x (lD x v).2):=by
 unfold lD
 cases hd:x.dead with
 | true=>
  obtain⟨hng,hne⟩:=hO.not hs hd hov
  exact(sh pa x.off s l hng hne hO.place v).mono fun r L h=>⟨s,h.1,h.2,eY.no hO⟩
 | false=>
  exact(vq pa x.off s l x.S (hO.live hd).1 v hv).mono fun r L h=>by
   obtain⟨s',h1,h2,h3,h4⟩:=h
   exact⟨s',h1,h2,fun _=>⟨h4,h3,⟨hO.rng.used,hO.rng.pins,.inr rfl⟩⟩,fun q=>by rw[hd] at q;cases q⟩
theorem Ia (v:Int) (hv:-9223372036854775808≤v∧v≤9223372036854775807):aG Tryz.prog 109 #[.agg #[.pointer (some ⟨pa,0,none⟩),.int .i64 l.key,.int .i64 l.elem,.int .i64 l.ka,.int .i64 l.ea,.int .i64 l.cap,.int .i64 l.eo,.int .i64 l.bo,.int .i64 l.slot,.int .i64 l.group,.int .i64 (x.off:Nat)],.int .i64 v] [ae pa s] (fun r L=>∃ s',r=.tuple #[.int .i64 (gK x v).1,.int .i64 (gK x v).2.1]∧L= [ae pa s']∧eY s s' l x (gK x v).2.2):=by
 unfold gK
 cases hd:x.dead with
 | true=>
  obtain⟨hng,hne⟩:=hO.not hs hd hov
  exact(yd pa x.off s l hng hne hO.place v).mono fun r L h=>⟨s,h.1,h.2,eY.no hO⟩
 | false=>
  exact(Cv pa x.off s l x.S (hO.live hd).1 v hv hO.rng.pins).mono fun r L h=>by
   rcases h with⟨h0,h1,h2⟩ | ⟨h0,h00,s',h1,h2,h3,h4⟩
   ·simp only[if_pos h0,Bool.false_eq_true,if_false]
    exact⟨s,h1,h2,eY.no hO⟩
   simp only[if_neg (show ¬ (v < -x.S.pins∨4611686018427387904-x.S.pins < v) by omega),Bool.false_eq_true,if_false]
   have:=hO.rng.pins
   exact⟨s',h1,h2,fun _=>⟨h4,h3,⟨hO.rng.used,by dsimp only;omega,hO.rng.kind⟩⟩,fun q=>by rw[hd] at q;cases q⟩
theorem G5:aG Tryz.prog 115 #[.agg #[.pointer (some ⟨pa,0,none⟩),.int .i64 l.key,.int .i64 l.elem,.int .i64 l.ka,.int .i64 l.ea,.int .i64 l.cap,.int .i64 l.eo,.int .i64 l.bo,.int .i64 l.slot,.int .i64 l.group,.int .i64 (x.off:Nat)]] [ae pa s] (fun v L=>v=.int .i64 (l6 x)∧((x.dead=true∧L= [ae pa s])∨(x.dead=false∧L= [ae pa (s.gives [((x.off:Nat):Int)])]))):=by
 unfold l6
 cases hd:x.dead with
 | true=>
  obtain⟨hng,hne⟩:=hO.not hs hd hov
  exact(vr pa x.off s l hng hne hO.place).mono fun v L h=>⟨h.1,.inl ⟨rfl,h.2⟩⟩
 | false=>
  obtain⟨h1,h2,_⟩:=hO.live hd
  exact(AU pa x.off s l x.S h1 _ h2).mono fun v L h=>⟨h.1,.inr ⟨rfl,h.2⟩⟩
variable (G:HP) (hG:dz G)
include hG
theorem G6 (tag:Int) (key:ByteArray):aG Tryz.prog 117 #[.agg #[.pointer (some ⟨pa,0,none⟩),.int .i64 l.key,.int .i64 l.elem,.int .i64 l.ka,.int .i64 l.ea,.int .i64 l.cap,.int .i64 l.eo,.int .i64 l.bo,.int .i64 l.slot,.int .i64 l.group,.int .i64 (x.off:Nat)],.int .i64 tag,.string key] [G,ae pa s] (fun v L=>v=.tuple #[.int .i64 (dX l x tag key).1,.int .i64 (dX l x tag key).2]∧L= [G,ae pa s]):=by
 cases hd:x.dead with
 | true=>
  obtain⟨hng,hne⟩:=hO.not hs hd hov
  rw[show dX l x tag key=(0,24) by unfold dX ktX;simp[hd]]
  exact(aG.beside (vt pa x.off s l hng hne hO.place tag key) G).mono fun v L ⟨L0,e,h1,h2⟩=>⟨h1,by rw[e,h2]⟩
 | false=>
  have hP:=(hO.live hd).1
  by_cases hz:ktX l x tag key≠0
  ·rw[show dX l x tag key=(0,ktX l x tag key) by unfold dX;rw[if_pos hz]]
   have hk:ktX l x tag key=ktE l tag key:=by unfold ktX;rw[hd];rfl
   rw[hk] at hz ⊢
   exact(aG.beside (yf pa x.off s l x.S hP tag key hz) G).mono fun v L ⟨L0,e,h1,h2⟩=>⟨h1,by rw[e,h2]⟩
  rw[show dX l x tag key=(atI x.S tag.toNat key,0) by unfold dX;rw[if_neg hz]]
  obtain⟨_,h2,h3,h4⟩:=rM l x hz
  obtain⟨t,rfl⟩:=Int.eq_ofNat_of_zero_le h3
  exact AV G hG pa x.off s l x.S hP t (by omega) key (by have:=hP.hN.k;omega)
theorem Ib (tag:Int) (key:ByteArray):aG Tryz.prog 119 #[.agg #[.pointer (some ⟨pa,0,none⟩),.int .i64 l.key,.int .i64 l.elem,.int .i64 l.ka,.int .i64 l.ea,.int .i64 l.cap,.int .i64 l.eo,.int .i64 l.bo,.int .i64 l.slot,.int .i64 l.group,.int .i64 (x.off:Nat)],.int .i64 tag,.string key] [G,ae pa s] (fun v L=>v=.tuple #[.agg #[.int .i64 (eV l x tag key).1.kind,.int .i64 (eV l x tag key).1.tagI,.string (eV l x tag key).1.keyS,.string (eV l x tag key).1.elemS,.int .i64 (eV l x tag key).1.birthI],.int .i64 (eV l x tag key).2]∧L= [G,ae pa s]):=by
 cases hd:x.dead with
 | true=>
  obtain⟨hng,hne⟩:=hO.not hs hd hov
  rw[show eV l x tag key=(.empty,24) by unfold eV ktX;simp[hd]]
  exact(aG.beside (ye pa x.off s l hng hne hO.place tag key) G).mono fun v L ⟨L0,e,h1,h2⟩=>⟨h1,by rw[e,h2]⟩
 | false=>
  have hP:=(hO.live hd).1
  by_cases hz:ktX l x tag key≠0
  ·rw[show eV l x tag key=(.empty,ktX l x tag key) by unfold eV;rw[if_pos hz]]
   have hk:ktX l x tag key=ktE l tag key:=by unfold ktX;rw[hd];rfl
   rw[hk] at hz ⊢
   exact(aG.beside (AT pa x.off s l x.S hP tag key hz) G).mono fun v L ⟨L0,e,h1,h2⟩=>⟨h1,by rw[e,h2]⟩
  rw[show eV l x tag key=(nR x.S tag.toNat key,0) by unfold eV;rw[if_neg hz]]
  obtain⟨_,h2,h3,h4⟩:=rM l x hz
  obtain⟨t,rfl⟩:=Int.eq_ofNat_of_zero_le h3
  exact Cw G hG pa x.off s l x.S hP t (by omega) key (by have:=hP.hN.k;omega)
theorem yR:0≤x.S.used∧x.S.used≤1099511627776:=by have:=rl x hO.rng;omega
theorem Ic (tag:Int) (key:ByteArray):aG Tryz.prog 107 #[.agg #[.pointer (some ⟨pa,0,none⟩),.int .i64 l.key,.int .i64 l.elem,.int .i64 l.ka,.int .i64 l.ea,.int .i64 l.cap,.int .i64 l.eo,.int .i64 l.bo,.int .i64 l.slot,.int .i64 l.group,.int .i64 (x.off:Nat)],.int .i64 tag,.string key] [G,ae pa s] (fun v L=>∃ s',v=.tuple #[.bool (gD l x tag key).1,.int .i64 (gD l x tag key).2.1]∧L= [G,ae pa s']∧eY s s' l x (gD l x tag key).2.2):=by
 cases hd:x.dead with
 | true=>
  obtain⟨hng,hne⟩:=hO.not hs hd hov
  rw[show gD l x tag key=(false,24,x.S) by unfold gD ktX;simp[hd]]
  exact(aG.beside (si pa x.off s l hng hne hO.place tag key) G).mono fun v L ⟨L0,e,h1,h2⟩=>⟨s,h1,by rw[e,h2],eY.no hO⟩
 | false=>
  have hP:=(hO.live hd).1
  by_cases hz:ktX l x tag key≠0
  ·rw[show gD l x tag key=(false,ktX l x tag key,x.S) by unfold gD;rw[if_pos hz]]
   have hk:ktX l x tag key=ktE l tag key:=by unfold ktX;rw[hd];rfl
   rw[hk] at hz ⊢
   exact(aG.beside (uc pa x.off s l x.S hP tag key hz) G).mono fun v L ⟨L0,e,h1,h2⟩=>⟨s,h1,by rw[e,h2],eY.no hO⟩
  rw[show gD l x tag key=((jV x.S tag.toNat key).1,0,(jV x.S tag.toNat key).2) by unfold gD;rw[if_neg hz]]
  obtain⟨_,h2,h3,h4⟩:=rM l x hz
  obtain⟨t,rfl⟩:=Int.eq_ofNat_of_zero_le h3
  exact(vu G hG pa x.off s l x.S hP t (by omega) key (by have:=hP.hN.k;omega) (yR s hs l hl x hO hov G hG)).mono fun v L ⟨s',h1,h2,h3,h4⟩=>⟨s',h1,h2,fun _=>⟨h4,h3,hO.rng.del t key⟩,fun q=>by rw[hd] at q;cases q⟩
theorem H9 (tag:Int) (key elem:ByteArray) (birth:Int) (hb:birth≤9223372036854775807):aG Tryz.prog 105 #[.agg #[.pointer (some ⟨pa,0,none⟩),.int .i64 l.key,.int .i64 l.elem,.int .i64 l.ka,.int .i64 l.ea,.int .i64 l.cap,.int .i64 l.eo,.int .i64 l.bo,.int .i64 l.slot,.int .i64 l.group,.int .i64 (x.off:Nat)],.int .i64 tag,.string key,.string elem,.int .i64 birth] [G,ae pa s] (fun v L=>∃ s',v=.tuple #[.int .i64 (gp l x tag key elem birth).1,.int .i64 (gp l x tag key elem birth).2.1]∧L= [G,ae pa s']∧eY s s' l x (gp l x tag key elem birth).2.2):=by
 cases hd:x.dead with
 | true=>
  obtain⟨hng,hne⟩:=hO.not hs hd hov
  rw[show gp l x tag key elem birth=(0,24,x.S) by unfold gp peX;simp[hd]]
  exact(aG.beside (yc pa x.off s l hng hne hO.place tag key elem birth) G).mono fun v L ⟨L0,e,h1,h2⟩=>⟨s,h1,by rw[e,h2],eY.no hO⟩
 | false=>
  have hP:=(hO.live hd).1
  by_cases hz:peX l x tag key elem birth≠0
  ·rw[show gp l x tag key elem birth=(0,peX l x tag key elem birth,x.S) by unfold gp;rw[if_pos hz]]
   have hk:peX l x tag key elem birth=kr l tag key elem birth:=by unfold peX;rw[hd];rfl
   rw[hk] at hz ⊢
   exact(AS pa x.off s l x.S hP G hG tag key elem birth hz).mono fun v L ⟨h1,h2⟩=>⟨s,h1,h2,eY.no hO⟩
  rw[show gp l x tag key elem birth=((iC x.S tag.toNat key elem birth).1,0,(iC x.S tag.toNat key elem birth).2) by unfold gp;rw[if_neg hz]]
  have hz':kr l tag key elem birth=0:=by
   have hk:peX l x tag key elem birth=kr l tag key elem birth:=by unfold peX;rw[hd];rfl
   rw[hk] at hz;omega
  unfold kr at hz'
  have hN:=hP.hN
  have hNk:=hN.k
  have hNe:=hN.e
  split at hz'
  ·cases hz'
  next q1=>
  split at hz'
  ·cases hz'
  next q2=>
  split at hz'
  ·cases hz'
  next q3=>
  split at hz'
  ·cases hz'
  next q4=>
  obtain⟨t,rfl⟩:=Int.eq_ofNat_of_zero_le (show 0≤tag by omega)
  exact(Cu G hG pa x.off s l x.S hP t (by omega) key (by omega) elem (by omega) birth (by omega) (yR s hs l hl x hO hov G hG)).mono fun v L ⟨s',h1,h2,h3,h4⟩=>⟨s',h1,h2,fun _=>⟨h4,h3,hO.rng.put t key elem birth⟩,fun q=>by rw[hd] at q;cases q⟩
end
end Exact11
end
end Go.Proofs.YthkajgkagnenbaaGreatDoor
