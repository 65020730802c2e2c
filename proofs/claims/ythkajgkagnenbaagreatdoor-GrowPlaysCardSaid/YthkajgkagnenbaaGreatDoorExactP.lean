import Derived.Test.YthkajgkagnenbaaGreatDoorTableX
set_option linter.unusedVariables false
set_option linter.unusedSimpArgs false
set_option linter.unusedSectionVars false
set_option maxRecDepth 100000
namespace Go.Proofs.YthkajgkagnenbaaGreatDoor
section
namespace Exact
open Go.RowKit Go.Proofs Eng Arena Layout GroupB TableB TableI Table Bench Refill
structure fu (n:Nat) (T:Tb):Prop where
 used:T.used=((dX isFull T.cells (8*n):Nat):Int)
 left0:0<=T.left
 left1:T.left+((dX isFull T.cells (8*n):Nat):Int)+((dX isDel T.cells (8*n):Nat):Int)<=7*(n:Int)
 pins:0<=T.pins/\T.pins<=4611686018427387904
 kind:T.kind=2\/T.kind=4
theorem fu.new (n:Nat) (d:Int):fu n (cR n d):=by
 have h1:∀ N,dX isFull (cR n d).cells N=0:=fun N=>by
  induction N with
  | zero=>rfl
  | succ N ih=>rw[cI,ih];rfl
 have h2:∀ N,dX isDel (cR n d).cells N=0:=fun N=>by
  induction N with
  | zero=>rfl
  | succ N ih=>rw[cI,ih];rfl
 refine⟨by rw[h1];rfl,?_,?_,by show(0:Int)<=0/\(0:Int)<=4611686018427387904;omega,.inl rfl⟩
 ·show 0<=7*(n:Int);omega
 rw[h1,h2];show 7*(n:Int)+0+0<=7*(n:Int);omega
section
variable {n:Nat} {T T':Tb} {h:Int} {key elem:ByteArray} {birth out:Int} {b:Bool}
theorem fu.put (hc:fu n T) (hr:zT n T h key elem birth (out,T')):fu n T':=by
 have hus:=hc.used
 have hl0:=hc.left0
 have hl1:=hc.left1
 cases hr with
 | old p e0 b0 hp hs hcell=>
  have h1:=jN (p:=isFull) hp (cells:=T.cells) (.full (h % 128) key elem b0)
  have h2:=jN (p:=isDel) hp (cells:=T.cells) (.full (h % 128) key elem b0)
  rw[hcell] at h1 h2
  simp only[isFull,isDel,if_pos,Bool.false_eq_true,if_false] at h1 h2
  exact⟨by dsimp only;omega,hl0,by dsimp only;omega,hc.pins,hc.kind⟩
 | no _ _=>exact hc
 | new j i hj hi hs hem hf hl=>
  have hp:8*gk (h / 128) n j+i < 8*n:=Df (nr (by omega)) hi
  revert hp hf hl
  generalize 8*gk (h / 128) n j+i=p
  intro hf hl hp
  have h1:=jN (p:=isFull) hp (cells:=T.cells) (.full (h % 128) key elem birth)
  have h2:=jN (p:=isDel) hp (cells:=T.cells) (.full (h % 128) key elem birth)
  rw[hf] at h1
  simp only[isFull,isDel,if_pos,Bool.false_eq_true,if_false] at h1 h2
  have husd:T.used+1=((dX isFull (cW T.cells p (.full (h % 128) key elem birth)) (8*n):Nat):Int):=by omega
  cases hcell:T.cells p with
  | empty=>
   rw[hcell] at h2 hl
   simp only[isDel,if_pos,Bool.false_eq_true,if_false] at h2
   have hl:=hl rfl
   simp only[dz,if_pos]
   exact⟨husd,by dsimp only;omega,by dsimp only;omega,hc.pins,hc.kind⟩
  | deleted=>
   rw[hcell] at h2
   simp only[isDel,if_pos] at h2
   simp only[dz,Bool.false_eq_true,if_false]
   exact⟨husd,hl0,by dsimp only;omega,hc.pins,hc.kind⟩
  | full t k e b=>rw[hcell] at hf;cases hf
theorem fu.del (hc:fu n T) (hr:Ae n T h key (b,T')):fu n T':=by
 have hus:=hc.used
 have hl0:=hc.left0
 have hl1:=hc.left1
 cases hr with
 | no _=>exact hc
 | passed p e0 b0 hp hs hcell hno=>
  have h1:=jN (p:=isFull) hp (cells:=T.cells) .deleted
  have h2:=jN (p:=isDel) hp (cells:=T.cells) .deleted
  rw[hcell] at h1 h2
  simp only[isFull,isDel,if_pos,Bool.false_eq_true,if_false] at h1 h2
  exact⟨by dsimp only;omega,hl0,by dsimp only;omega,hc.pins,hc.kind⟩
 | free p q e0 b0 hp hs hcell hq hqe=>
  have h1:=jN (p:=isFull) hp (cells:=T.cells) .empty
  have h2:=jN (p:=isDel) hp (cells:=T.cells) .empty
  rw[hcell] at h1 h2
  simp only[isFull,isDel,if_pos,Bool.false_eq_true,if_false] at h1 h2
  exact⟨by dsimp only;omega,by show 0<=T.left+1;omega,by dsimp only;omega,hc.pins,hc.kind⟩
end
theorem fu.bnd {n:Nat} {T:Tb} (h:fu n T) (hn:n<=8192):(0<=T.used/\T.used<=1099511627776)/\(0<=T.left/\T.left<=1099511627776):=by
 have h1:=h.used
 have h2:=h.left0
 have h3:=h.left1
 have h4:=lM isFull T.cells (8*n)
 omega
structure PR where
 p:Nat
 off:Nat
 go:Nat
 n:Nat
 e:Nat
 T:Tb
 dead:Bool
 over:Bool
structure One (s:ArS) (l:Lay) (x:PR):Prop where
 he:x.e<=13
 hn:x.n=2 ^ x.e
 rng:fu x.n x.T
 live:x.dead=false->cd s x.off x.go l x.n x.e x.T/\(((x.off:Nat):Int),(64:Int))∈s.bl/\(((x.go:Nat):Int),aH ((x.n*gN l:Nat):Int))∈s.bl/\((x.n*gN l:Nat):Int)<=1048576
 gone:x.dead=true->x.over=false->s.dead (x.off:Nat)=true/\(∃ c,(((x.off:Nat):Int),c)∈s.all)
 place:x.off<=1000000000
 tail:x.dead=false->fK s x.go (x.n*gN l) (aH ((x.n*gN l:Nat):Int))
def apart (x y:PR):Prop:=x.off≠y.off/\x.off≠y.go/\x.go≠y.off/\x.go≠y.go
theorem apart.symm {x y:PR} (h:apart x y):apart y x:=⟨Ne.symm h.1,Ne.symm h.2.2.1,Ne.symm h.2.1,Ne.symm h.2.2.2⟩
structure qQ (s:ArS) (l:Lay) (ps:List PR):Prop where
 one:∀ x∈ps,One s l x
 two:∀(i j:Nat) (x y:PR),i≠j->ps[i]?=some x->ps[j]?=some y->x.dead=false->y.dead=false->apart x y
theorem qQ.nil (s:ArS) (l:Lay):qQ s l []:=⟨fun x hx=>(by cases hx),fun i j x y _ h=>by simp at h⟩
theorem qQ.at {s:ArS} {l:Lay} {ps:List PR} (h:qQ s l ps) {i:Nat} {x:PR} (hx:ps[i]?=some x):One s l x:=h.one x (List.mem_of_getElem? hx)
theorem jv {s:ArS} (hs:s.ok) {p q:Int×Int} (hp:p∈s.bl) (hq:q∈s.bl) (hne:p.1≠q.1):p.1+p.2<=q.1\/q.1+q.2<=p.1:=by
 rcases jO hs.chain (cG.1 hp).1 (cG.1 hq).1 with e | e | e
 ·rw[e] at hne;exact absurd rfl hne
 ·exact .inl e
 exact .inr e
theorem mM {k:Nat} {c:Int} (hc:c=aH (k:Int)) (h1:(k:Int)<=1048576):(k:Int)<=c:=by
 rcases Nat.eq_zero_or_pos k with q | q
 ·subst q;rw[hc];decide
 have:=(dE (n:=(k:Int)) (by omega)).2.2 h1;omega
theorem One.same {s s':ArS} (hs:s.ok) {l:Lay} {x y:PR} (hx:One s l x) (hy:One s l y) (hdy:y.dead=false) (hap:x.dead=false->apart x y) (hS:cb s s' y.off y.go (y.n*gN l)):One s' l x:=by
 refine⟨hx.he,hx.hn,hx.rng,fun hd=>?_,fun hd ho=>?_,hx.place,fun hd a q1 q2=>?_⟩
 ·obtain⟨h1,h2,h3,h4⟩:=hx.live hd
  obtain⟨g1,g2,g3,g4⟩:=hy.live hdy
  obtain⟨a1,a2,a3,a4⟩:=hap hd
  have k1:=mM rfl h4
  have k2:=mM rfl g4
  have b1:=jv hs h2 g2 (by dsimp only;omega)
  have b2:=jv hs h2 g3 (by dsimp only;omega)
  have b3:=jv hs h3 g2 (by dsimp only;omega)
  have b4:=jv hs h3 g3 (by dsimp only;omega)
  dsimp only at b1 b2 b3 b4
  rw[hS.bl]
  exact⟨cd.same h1 hS (by omega) (by omega) (by omega) (by omega),h2,h3,h4⟩
 ·obtain⟨h1,c,h2⟩:=hx.gone hd ho
  rw[hS.dead,hS.all]
  exact⟨h1,c,h2⟩
 obtain⟨h1,h2,h3,h4⟩:=hx.live hd
 obtain⟨g1,g2,g3,g4⟩:=hy.live hdy
 obtain⟨a1,a2,a3,a4⟩:=hap hd
 have k1:=mM rfl h4
 have k2:=mM rfl g4
 have b3:=jv hs h3 g2 (by dsimp only;omega)
 have b4:=jv hs h3 g3 (by dsimp only;omega)
 dsimp only at b3 b4
 rw[hS.m a (by omega) (by omega)]
 exact hx.tail hd a q1 q2
theorem qQ.set {s s':ArS} (hs:s.ok) {l:Lay} {ps:List PR} (h:qQ s l ps) {i:Nat} {y:PR} (hy:ps[i]?=some y) (hd:y.dead=false) (hS:cb s s' y.off y.go (y.n*gN l)) {T':Tb} (hT:cd s' y.off y.go l y.n y.e T') (hr:fu y.n T'):qQ s' l (ps.set i {y with T:=T'}):=by
 have hil:i < ps.length:=by rcases Nat.lt_or_ge i ps.length with q | q;exact q;rw[List.getElem?_eq_none q] at hy;cases hy
 have hget:∀ {j:Nat} {x:PR},(ps.set i {y with T:=T'})[j]?=some x->(j=i/\x= {y with T:=T'})\/(j≠i/\ps[j]?=some x):=fun {j x} hx=>by
  rw[List.getElem?_set] at hx
  split at hx
  ·next q=>subst q;simp only[hil,if_true,Option.some.injEq] at hx;exact .inl ⟨rfl,hx.symm⟩
  next q=>exact .inr ⟨Ne.symm q,hx⟩
 refine⟨fun x hx=>?_,fun j k x z hjk hx hz hdx hdz=>?_⟩
 ·obtain⟨j,hj,rfl⟩:=List.getElem_of_mem hx
  rcases hget (List.getElem?_eq_getElem hj) with⟨_,e⟩ | ⟨hne,hx2⟩
  ·rw[e]
   have h0:=h.at hy
   obtain⟨g1,g2,g3,g4⟩:=h0.live hd
   exact⟨h0.he,h0.hn,hr,fun _=>⟨hT,by rw[hS.bl];exact g2,by rw[hS.bl];exact g3,g4⟩,fun q=>(by rw[show({y with T:=T'}:PR).dead=y.dead from rfl,hd] at q;cases q),h0.place,fun _ a q1 q2=>(by
    have k2:=mM rfl g4
    have b1:=jv hs g3 g2 (by have:=g1.dj;have:=(eK g1.hl).g_eq;have:=Nat.mul_le_mul_right (gN l) g1.n0.1;dsimp only;omega)
    dsimp only at b1 q1 q2
    rw[hS.m a (by omega) (by omega)]
    exact h0.tail hd a q1 q2)⟩
  exact(h.at hx2).same hs (h.at hy) hd (fun q=>h.two j i _ _ hne hx2 hy q hd) hS
 rcases hget hx with⟨rfl,rfl⟩ | ⟨hne,hx2⟩
 ·rcases hget hz with⟨rfl,_⟩ | ⟨hne2,hz2⟩
  ·exact absurd rfl hjk
  exact h.two j k y z hjk hy hz2 hd hdz
 rcases hget hz with⟨rfl,rfl⟩ | ⟨hne2,hz2⟩
 ·exact h.two j k x y hjk hx2 hy hdx hd
 exact h.two j k x z hjk hx2 hz2 hdx hdz
def du (x:PR):PR:={x with over:=x.over || x.dead}
theorem qQ.over {s s':ArS} {l:Lay} {ps:List PR} (h:qQ s l ps) (hg:∀ p∈s.bl,p∈s'.bl) (hm:∀ p∈s.bl,∀ a:Nat,p.1<=a->(a:Int) < p.1+p.2->s'.m a=s.m a):qQ s' l (ps.map du):=by
 refine⟨fun x hx=>?_,fun i j x y hij hx hy hdx hdy=>?_⟩
 ·obtain⟨y,hy,rfl⟩:=List.mem_map.1 hx
  have h0:=h.one y hy
  refine⟨h0.he,h0.hn,h0.rng,fun hd=>?_,fun hd ho=>?_,h0.place,fun hd a q1 q2=>(hm _ (h0.live hd).2.2.1 a (by have:y.go+y.n*gN l<=a:=q1;dsimp only;omega) q2).trans (h0.tail hd a q1 q2)⟩
  ·obtain⟨g1,g2,g3,g4⟩:=h0.live hd
   show cd s' y.off y.go l y.n y.e y.T/\_
   refine⟨cd.moved g1 (fun o k hk=>?_) (fun a h1 h2=>hm _ g2 a (by dsimp only;omega) (by dsimp only;omega)) (fun a h1 h2=>hm _ g3 a (by dsimp only;omega) (by have:=mM (k:=y.n*gN l) rfl g4;dsimp only;omega)),hg _ g2,hg _ g3,g4⟩
   obtain⟨k0,p,hp,q⟩:=hk
   exact⟨k0,p,hg p hp,q⟩
  unfold du at hd ho
  dsimp only at hd ho
  rw[hd,Bool.or_true] at ho
  cases ho
 rw[List.getElem?_map] at hx hy
 obtain⟨x',hx',rfl⟩:=Option.map_eq_some_iff.1 hx
 obtain⟨y',hy',rfl⟩:=Option.map_eq_some_iff.1 hy
 exact h.two i j x' y' hij hx' hy' hdx hdy
theorem yD {s s':ArS} {off go:Nat} {l:Lay} {n e:Nat} {T:Tb} (h:cd s off go l n e T) (hgh:bt s' (off:Nat) 64) (hgg:bt s' (go:Nat) ((n*gN l:Nat):Int)) (hm:s'.m=s.m):cd s' off go l n e T:=by
 refine⟨h.hl,h.he,h.hn,⟨fun k hk=>?_,fun g hg' j hj=>?_,h.hT.okc⟩,hgh,hgg,h.hr,h.dj⟩
 ·rw[hm];exact h.hT.head k hk
 rw[hm];exact h.hT.body g hg' j hj
theorem yf {s:ArS} {o:Nat} {c k:Int} (h:(((o:Nat):Int),c)∈s.bl) (h0:0<=k) (hk:k<=c):bt s (o:Nat) k:=⟨h0,_,h,Int.le_refl _,by dsimp only;omega⟩
theorem qQ.free {s:ArS} (hs:s.ok) {l:Lay} {ps:List PR} (h:qQ s l ps) {i:Nat} {y:PR} (hy:ps[i]?=some y) (hd:y.dead=false):qQ (s.gives [((y.off:Nat):Int),((y.go:Nat):Int)]) l (ps.set i {y with dead:=true}):=by
 have hil:i < ps.length:=by rcases Nat.lt_or_ge i ps.length with q | q;exact q;rw[List.getElem?_eq_none q] at hy;cases hy
 obtain⟨g1,g2,g3,g4⟩:=(h.at hy).live hd
 have hget:∀ {j:Nat} {x:PR},(ps.set i {y with dead:=true})[j]?=some x->(j=i/\x= {y with dead:=true})\/(j≠i/\ps[j]?=some x):=fun {j x} hx=>by
  rw[List.getElem?_set] at hx
  split at hx
  ·next q=>subst q;simp only[hil,if_true,Option.some.injEq] at hx;exact .inl ⟨rfl,hx.symm⟩
  next q=>exact .inr ⟨Ne.symm q,hx⟩
 have hdead:∀ o,s.dead o=true->(s.gives [((y.off:Nat):Int),((y.go:Nat):Int)]).dead o=true:=fun o ho=>by rw[jq,ho];rfl
 refine⟨fun x hx=>?_,fun j k x z hjk hx hz hdx hdz=>?_⟩
 ·obtain⟨j,hj,rfl⟩:=List.getElem_of_mem hx
  rcases hget (List.getElem?_eq_getElem hj) with⟨_,e⟩ | ⟨hne,hx2⟩
  ·rw[e]
   have h0:=h.at hy
   refine⟨h0.he,h0.hn,h0.rng,fun q=>(by cases q),fun _ _=>⟨?_,64,?_⟩,h0.place,fun q=>(by cases q)⟩
   ·rw[jq];simp
   rw[gm];exact(cG.1 g2).1
  have h0:=h.at hx2
  refine⟨h0.he,h0.hn,h0.rng,fun q=>?_,fun q1 q2=>?_,h0.place,fun q a q1 q2=>(by rw[(kY _ _).1];exact h0.tail q a q1 q2)⟩
  ·obtain⟨f1,f2,f3,f4⟩:=h0.live q
   obtain⟨a1,a2,a3,a4⟩:=h.two j i _ _ hne hx2 hy q hd
   have b2:((((ps.set i {y with dead:=true})[j].off:Nat):Int),(64:Int))∈(s.gives [((y.off:Nat):Int),((y.go:Nat):Int)]).bl:=lJ.2 ⟨f2,by simp;omega⟩
   have b3:((((ps.set i {y with dead:=true})[j].go:Nat):Int),aH (((ps.set i {y with dead:=true})[j].n*gN l:Nat):Int))∈(s.gives [((y.off:Nat):Int),((y.go:Nat):Int)]).bl:=lJ.2 ⟨f3,by simp;omega⟩
   exact⟨yD f1 (yf b2 (by decide) (by decide)) (yf b3 (by omega) (mM rfl f4)) (kY _ _).1,b2,b3,f4⟩
  obtain⟨f1,c,f2⟩:=h0.gone q1 q2
  exact⟨hdead _ f1,c,by rw[gm];exact f2⟩
 rcases hget hx with⟨rfl,rfl⟩ | ⟨hne,hx2⟩
 ·cases hdx
 rcases hget hz with⟨rfl,rfl⟩ | ⟨hne2,hz2⟩
 ·cases hdz
 exact h.two j k x z hjk hx2 hz2 hdx hdz
theorem qQ.push {s s':ArS} (hs:s.ok) {l:Lay} {ps:List PR} (h:qQ s l ps) {c:Int} (hc:1<=c) (hfit:s.live+64<=s.limit) (hN:ej s s' c) {x:PR} (hx:One s' l x) (ho:x.off=s.at 64) (hgo:x.go=(s.take 64).at c):qQ s' l (ps.map du ++ [x]):=by
 have hA:=h.over (s':=s') (fun p hp=>(hN.bl p).2 (.inl hp)) hN.m
 have ok64:=ArS.take_ok hs ye hfit
 have hap:∀ y∈ps,y.dead=false->apart y x:=fun y hy hd=>by
  obtain⟨_,g2,g3,g4⟩:=(h.one y hy).live hd
  have a1:=de hs g2 (c:=64) (by decide)
  have a2:=de hs g3 (c:=64) (by decide)
  have a3:=de ok64 ((dP hs).2 (.inl g2)) hc
  have a4:=de ok64 ((dP hs).2 (.inl g3)) hc
  have p3:=(ArS.chain_pos hs.chain _ (cG.1 g3).1).2
  dsimp only at a1 a2 a3 a4 p3
  refine⟨?_,?_,?_,?_⟩ <;> omega
 refine⟨fun y hy=>?_,fun i j y z hij hy hz hdy hdz=>?_⟩
 ·rcases List.mem_append.1 hy with q | q
  ·exact hA.one y q
  rw[List.mem_singleton.1 q];exact hx
 have hcase:∀ {i:Nat} {y:PR},(ps.map du ++ [x])[i]?=some y->(i < ps.length/\(ps.map du)[i]?=some y)\/(i=ps.length/\y=x):=fun {i y} hy=>by
  rcases Nat.lt_trichotomy i ps.length with q | q | q
  ·rw[List.getElem?_append_left (by simpa using q)] at hy;exact .inl ⟨q,hy⟩
  ·subst q
   rw[List.getElem?_append_right (by simp)] at hy
   simp at hy
   exact .inr ⟨rfl,hy.symm⟩
  rw[List.getElem?_eq_none (by simp;omega)] at hy;cases hy
 have hold:∀ {i:Nat} {y:PR},(ps.map du)[i]?=some y->y.dead=false->apart y x:=fun {i y} hy hd=>by
  rw[List.getElem?_map] at hy
  obtain⟨y',hy',rfl⟩:=Option.map_eq_some_iff.1 hy
  exact hap y' (List.mem_of_getElem? hy') hd
 rcases hcase hy with⟨a1,a2⟩ | ⟨a1,a2⟩
 ·rcases hcase hz with⟨b1,b2⟩ | ⟨b1,b2⟩
  ·exact hA.two i j y z hij a2 b2 hdy hdz
  rw[b2];exact hold a2 hdy
 rcases hcase hz with⟨b1,b2⟩ | ⟨b1,b2⟩
 ·rw[a2];exact(hold b2 hdz).symm
 omega
theorem One.not {s:ArS} (hs:s.ok) {l:Lay} {x:PR} (h:One s l x) (hd:x.dead=true) (ho:x.over=false):¬ bt s (x.off:Nat) 8/\s.all≠[]:=by
 obtain⟨h1,c,h2⟩:=h.gone hd ho
 refine⟨fun hg=>?_,fun e=>by rw[e] at h2;cases h2⟩
 obtain⟨_,p,hp,q1,q2⟩:=hg
 obtain⟨hp1,hp2⟩:=cG.1 hp
 have pos:=(ArS.chain_pos hs.chain _ h2).2
 rcases jO hs.chain hp1 h2 with e | e | e
 ·rw[e] at hp2;dsimp only at hp2;rw[h1] at hp2;cases hp2
 ·dsimp only at e;omega
 dsimp only at e;omega
end Exact
end
section
namespace Exact
open Go.RowKit Go.Proofs Eng Arena Ctrl Layout GroupB TableB TableI Table Bench Refill
theorem aK.beside {P:Program} {f:FuncId} {args:Array Value} {D:List HP} {Post:Value->List HP->Prop} (h:aK P f args D Post) (X:HP):aK P f args (X::D) (fun v L=>∃ L0,L=X::L0/\Post v L0):=
 ⟨h.enters,fun Fr w0 w hs he=>(h.calls (X::Fr) w0 w (hs.perm (by rw[List.cons_append];exact List.perm_middle.symm)) he).mono fun _ _ ⟨v,L',e,p,s,x⟩=>⟨v,X::L',e,⟨L',rfl,p⟩,s.perm (by rw[List.cons_append];exact List.perm_middle),x⟩⟩
section
variable (l:Lay) (x:PR)
def kr (h:Int) (key:ByteArray):Int×Int:=if x.dead then(0,24) else if(key.size:Int)≠l.key then(0,61) else((bB (h / 128) x.n x.T.cells (h % 128) key).slot,0)
def ko (h:Int) (key elem:ByteArray) (birth:Int):Int×Int×Tb:=if x.dead then(0,24,x.T) else if(key.size:Int)≠l.key then(0,61,x.T) else if(elem.size:Int)≠l.elem then(0,62,x.T) else if birth < 0 then(0,64,x.T) else((eD x.n x.T h key elem birth).1,0,(eD x.n x.T h key elem birth).2)
def mr (h:Int) (key:ByteArray):Bool×Int×Tb:=if x.dead then(false,24,x.T) else if(key.size:Int)≠l.key then(false,61,x.T) else((nw x.n x.T h key).1,0,(nw x.n x.T h key).2)
def iL (v:Int):Int×Tb:=if x.dead then(24,x.T) else if v < -x.T.left\/7*(x.n:Int)-((dX isFull x.T.cells (8*x.n):Nat):Int)-((dX isDel x.T.cells (8*x.n):Nat):Int)-x.T.left < v then(82,x.T) else(0,{x.T with left:=x.T.left+v})
def jG (v:Int):Int×Int×Tb:=if x.dead then(0,24,x.T) else if v < -x.T.pins\/4611686018427387904-x.T.pins < v then(0,83,x.T) else(x.T.pins+v,0,{x.T with pins:=x.T.pins+v})
def fT (v:Int):Int×Tb:=if x.dead then(24,x.T) else(0,{x.T with next:=v,kind:=4})
def kg:Array Value×Int:=if x.dead then(#[.int .i64 0,.int .i64 0,.int .i64 0,.int .i64 0,.int .i64 0,.int .i64 0,.bool false,.int .i64 0],24) else(#[.int .i64 x.T.used,.int .i64 (8*(x.n:Int)),.int .i64 x.T.left,.int .i64 x.T.depth,.int .i64 x.T.pins,.int .i64 x.T.next,.bool (decide (x.T.kind=4)),.int .i64 (x.go:Nat)],0)
def fP (k:Int):Cell×Int:=if x.dead then(.empty,24) else if k < 0\/8*(x.n:Int)<=k then(.empty,60) else(x.T.cells k.toNat,0)
def qq:Int:=if x.dead then 24 else 0
end
structure Step (s s':ArS) (l:Lay) (x:PR) (T':Tb):Prop where
 live:x.dead=false->cb s s' x.off x.go (x.n*gN l)/\cd s' x.off x.go l x.n x.e T'/\fu x.n T'
 gone:x.dead=true->s'=s/\T'=x.T
theorem Step.no {s:ArS} {l:Lay} {x:PR} (hO:One s l x):Step s s l x x.T:=⟨fun hd=>⟨cb.refl _ _ _ _,(hO.live hd).1,hO.rng⟩,fun _=>⟨rfl,rfl⟩⟩
theorem uc {ps:List PR} {i:Nat} {x:PR} (hx:ps[i]?=some x):ps.set i x=ps:=by
 have hil:i < ps.length:=by rcases Nat.lt_or_ge i ps.length with q | q;exact q;rw[List.getElem?_eq_none q] at hx;cases hx
 refine List.ext_getElem? fun j=>?_
 rw[List.getElem?_set]
 split
 ·next q=>subst q;exact hx.symm
 rfl
theorem Step.all {s s':ArS} (hs:s.ok) {l:Lay} {ps:List PR} (h:qQ s l ps) {i:Nat} {x:PR} (hx:ps[i]?=some x) {T':Tb} (hS:Step s s' l x T'):qQ s' l (ps.set i {x with T:=T'}):=by
 by_cases hd:x.dead=true
 ·obtain⟨rfl,rfl⟩:=hS.gone hd
  rw[show({x with T:=x.T}:PR)=x from rfl,uc hx]
  exact h
 have hd:x.dead=false:=by simpa using hd
 obtain⟨a1,a2,a3⟩:=hS.live hd
 exact h.set hs hx hd a1 a2 a3
theorem Step.arena {s s':ArS} {l:Lay} {x:PR} {T':Tb} (hS:Step s s' l x T'):s'.limit=s.limit/\s'.all=s.all/\s'.dead=s.dead:=by
 by_cases hd:x.dead=true
 ·obtain⟨rfl,_⟩:=hS.gone hd;exact⟨rfl,rfl,rfl⟩
 obtain⟨a1,_,_⟩:=hS.live (by simpa using hd);exact⟨a1.limit,a1.all,a1.dead⟩
section
variable (G:HP) (hG:dR G) (pa:Nat) (s:ArS) (hs:s.ok) (l:Lay) (hl:l.err=0) (x:PR) (hO:One s l x) (hov:x.over=false)
include hs hl hO hov
theorem EC {key:ByteArray} (h:¬ (key.size:Int)≠l.key):key.size=kN l:=by
 have:=(eK hl).k
 omega
theorem I2 {key:ByteArray} (h:¬ (key.size:Int)≠l.elem):key.size=eN l:=by
 have:=(eK hl).e
 omega
theorem EY:aK Tryz.prog 65 #[.agg #[.pointer (some ⟨pa,0,none⟩),.int .i64 l.key,.int .i64 l.elem,.int .i64 l.ka,.int .i64 l.ea,.int .i64 l.cap,.int .i64 l.eo,.int .i64 l.bo,.int .i64 l.slot,.int .i64 l.group,.int .i64 (x.off:Nat)]] [aj pa s] (fun v L=>v=.tuple #[.agg (kg x).1,.int .i64 (kg x).2]/\L= [aj pa s]):=by
 unfold kg
 cases hd:x.dead with
 | true=>
  obtain⟨hng,hne⟩:=hO.not hs hd hov
  exact fg pa x.off s l hng hne hO.place
 | false=>exact eS pa x.off x.go x.n x.e s l x.T (hO.live hd).1
theorem EZ (k:Int):aK Tryz.prog 56 #[.agg #[.pointer (some ⟨pa,0,none⟩),.int .i64 l.key,.int .i64 l.elem,.int .i64 l.ka,.int .i64 l.ea,.int .i64 l.cap,.int .i64 l.eo,.int .i64 l.bo,.int .i64 l.slot,.int .i64 l.group,.int .i64 (x.off:Nat)],.int .i64 k] [aj pa s] (fun v L=>v=.tuple #[.agg #[.int .i64 (fP x k).1.kind,.int .i64 (fP x k).1.tagI,.string (fP x k).1.keyS,.string (fP x k).1.elemS,.int .i64 (fP x k).1.birthI],.int .i64 (fP x k).2]/\L= [aj pa s]):=by
 unfold fP
 cases hd:x.dead with
 | true=>
  obtain⟨hng,hne⟩:=hO.not hs hd hov
  exact Ag pa x.off s l hng hne hO.place k
 | false=>
  by_cases hk:k < 0\/8*(x.n:Int)<=k
  ·simp only[if_pos hk,Bool.false_eq_true,if_false]
   exact CR pa x.off x.go x.n x.e s l x.T (hO.live hd).1 k hk
  simp only[if_neg hk,Bool.false_eq_true,if_false]
  obtain⟨j,rfl⟩:=Int.eq_ofNat_of_zero_le (show 0<=k by omega)
  exact vK pa x.off x.go x.n x.e s l x.T (hO.live hd).1 j (by omega)
theorem D4 (v:Int) (hv:-9223372036854775808<=v/\v<=9223372036854775807):aK Tryz.prog 88 #[.agg #[.pointer (some ⟨pa,0,none⟩),.int .i64 l.key,.int .i64 l.elem,.int .i64 l.ka,.int .i64 l.ea,.int .i64 l.cap,.int .i64 l.eo,.int .i64 l.bo,.int .i64 l.slot,.int .i64 l.group,.int .i64 (x.off:Nat)],.int .i64 v] [aj pa s] (fun r L=>∃ s',r=.int .i64 (fT x v).1/\L= [aj pa s']/\Step s s' l x (fT x v).2):=by
 unfold fT
 cases hd:x.dead with
 | true=>
  obtain⟨hng,hne⟩:=hO.not hs hd hov
  exact(vq pa x.off s l hng hne hO.place v).mono fun r L h=>⟨s,h.1,h.2,Step.no hO⟩
 | false=>
  exact(zN pa x.off x.go x.n x.e s l x.T (hO.live hd).1 v hv).mono fun r L h=>by
   obtain⟨s',h1,h2,h3,h4⟩:=h
   exact⟨s',h1,h2,fun _=>⟨h4,h3,⟨hO.rng.used,hO.rng.left0,hO.rng.left1,hO.rng.pins,.inr rfl⟩⟩,fun q=>by rw[hd] at q;cases q⟩
theorem Ku (v:Int) (hv:-9223372036854775808<=v/\v<=9223372036854775807):aK Tryz.prog 86 #[.agg #[.pointer (some ⟨pa,0,none⟩),.int .i64 l.key,.int .i64 l.elem,.int .i64 l.ka,.int .i64 l.ea,.int .i64 l.cap,.int .i64 l.eo,.int .i64 l.bo,.int .i64 l.slot,.int .i64 l.group,.int .i64 (x.off:Nat)],.int .i64 v] [aj pa s] (fun r L=>∃ s',r=.tuple #[.int .i64 (jG x v).1,.int .i64 (jG x v).2.1]/\L= [aj pa s']/\Step s s' l x (jG x v).2.2):=by
 unfold jG
 cases hd:x.dead with
 | true=>
  obtain⟨hng,hne⟩:=hO.not hs hd hov
  exact(CE pa x.off s l hng hne hO.place v).mono fun r L h=>⟨s,h.1,h.2,Step.no hO⟩
 | false=>
  exact(Gd pa x.off x.go x.n x.e s l x.T (hO.live hd).1 v hv hO.rng.pins).mono fun r L h=>by
   rcases h with⟨h0,h1,h2⟩ | ⟨h0,h00,s',h1,h2,h3,h4⟩
   ·simp only[if_pos h0,Bool.false_eq_true,if_false]
    exact⟨s,h1,h2,Step.no hO⟩
   simp only[if_neg (show ¬ (v < -x.T.pins\/4611686018427387904-x.T.pins < v) by omega),Bool.false_eq_true,if_false]
   have:=hO.rng.pins
   exact⟨s',h1,h2,fun _=>⟨h4,h3,⟨hO.rng.used,hO.rng.left0,hO.rng.left1,by dsimp only;omega,hO.rng.kind⟩⟩,fun q=>by rw[hd] at q;cases q⟩
theorem Jg (v:Int) (hv:-9223372036854775808<=v/\v<=9223372036854775807):aK Tryz.prog 84 #[.agg #[.pointer (some ⟨pa,0,none⟩),.int .i64 l.key,.int .i64 l.elem,.int .i64 l.ka,.int .i64 l.ea,.int .i64 l.cap,.int .i64 l.eo,.int .i64 l.bo,.int .i64 l.slot,.int .i64 l.group,.int .i64 (x.off:Nat)],.int .i64 v] [aj pa s] (fun r L=>∃ s',r=.int .i64 (iL x v).1/\L= [aj pa s']/\Step s s' l x (iL x v).2):=by
 unfold iL
 cases hd:x.dead with
 | true=>
  obtain⟨hng,hne⟩:=hO.not hs hd hov
  exact(tD pa x.off s l hng hne hO.place v).mono fun r L h=>⟨s,h.1,h.2,Step.no hO⟩
 | false=>
  exact(oC pa x.off x.go x.n x.e s l x.T (hO.live hd).1 v hv (hO.rng.bnd (hO.live hd).1.n0.2).2).mono fun r L h=>by
   rcases h with⟨h0,h1,h2⟩ | ⟨h0,h00,s',h1,h2,h3,h4⟩
   ·simp only[if_pos h0,Bool.false_eq_true,if_false]
    exact⟨s,h1,h2,Step.no hO⟩
   simp only[if_neg (show ¬ (v < -x.T.left\/7*(x.n:Int)-((dX isFull x.T.cells (8*x.n):Nat):Int)-((dX isDel x.T.cells (8*x.n):Nat):Int)-x.T.left < v) by omega),Bool.false_eq_true,if_false]
   have:=hO.rng.left0
   exact⟨s',h1,h2,fun _=>⟨h4,h3,⟨hO.rng.used,by dsimp only;omega,by dsimp only;omega,hO.rng.pins,hO.rng.kind⟩⟩,fun q=>by rw[hd] at q;cases q⟩
include hG
theorem Kt (h:Int) (hh:0<=h/\h < 18446744073709551616) (key elem:ByteArray) (birth:Int) (hb:birth < 9223372036854775808):aK Tryz.prog 53 #[.agg #[.pointer (some ⟨pa,0,none⟩),.int .i64 l.key,.int .i64 l.elem,.int .i64 l.ka,.int .i64 l.ea,.int .i64 l.cap,.int .i64 l.eo,.int .i64 l.bo,.int .i64 l.slot,.int .i64 l.group,.int .i64 (x.off:Nat)],.int .u64 h,.string key,.string elem,.int .i64 birth] [G,aj pa s] (fun v L=>∃ s',v=.tuple #[.int .i64 (ko l x h key elem birth).1,.int .i64 (ko l x h key elem birth).2.1]/\L= [G,aj pa s']/\Step s s' l x (ko l x h key elem birth).2.2):=by
 unfold ko
 cases hd:x.dead with
 | true=>
  obtain⟨hng,hne⟩:=hO.not hs hd hov
  exact(aK.beside (CD pa x.off s l hng hne hO.place h key elem birth) G).mono fun v L ⟨L0,e,h1,h2⟩=>⟨s,h1,by rw[e,h2],Step.no hO⟩
 | false=>
  have hP:=(hO.live hd).1
  by_cases hk:(key.size:Int)≠l.key
  ·simp only[if_pos hk,Bool.false_eq_true,if_false]
   exact(aK.beside (D9 pa x.off x.go x.n x.e s l x.T hP h key hk elem birth) G).mono fun v L ⟨L0,e,h1,h2⟩=>⟨s,h1,by rw[e,h2],Step.no hO⟩
  have hkg:=EC s hs l hl x hO hov hk
  by_cases he:(elem.size:Int)≠l.elem
  ·simp only[if_neg hk,if_pos he,Bool.false_eq_true,if_false]
   exact(CC G hG pa x.off x.go x.n x.e s l x.T hP h hh key hkg elem he birth).mono fun v L ⟨h1,h2⟩=>⟨s,h1,h2,Step.no hO⟩
  have heg:=I2 s hs l hl x hO hov he
  by_cases hbi:birth < 0
  ·simp only[if_neg hk,if_neg he,if_pos hbi,Bool.false_eq_true,if_false]
   exact(zS G hG pa x.off x.go x.n x.e s l x.T hP h hh key hkg elem heg birth hbi).mono fun v L ⟨h1,h2⟩=>⟨s,h1,h2,Step.no hO⟩
  simp only[if_neg hk,if_neg he,if_neg hbi,Bool.false_eq_true,if_false]
  obtain⟨b1,b2⟩:=hO.rng.bnd hP.n0.2
  refine(oi G hG pa x.off x.go x.n x.e s l x.T hP h hh key elem hkg heg birth ⟨by omega,hb⟩ b1 b2).mono fun v L ⟨s',h1,h2,h3,h4⟩=>⟨s',h1,h2,fun _=>⟨h4,h3,?_⟩,fun q=>by rw[hd] at q;cases q⟩
  exact hO.rng.put (wv (T:=x.T) (h:=h) (key:=key) hP.n0.1 (fun g hg=>iS hP.hn hg) elem birth)
theorem Kx (h:Int) (hh:0<=h/\h < 18446744073709551616) (key:ByteArray):aK Tryz.prog 82 #[.agg #[.pointer (some ⟨pa,0,none⟩),.int .i64 l.key,.int .i64 l.elem,.int .i64 l.ka,.int .i64 l.ea,.int .i64 l.cap,.int .i64 l.eo,.int .i64 l.bo,.int .i64 l.slot,.int .i64 l.group,.int .i64 (x.off:Nat)],.int .u64 h,.string key] [G,aj pa s] (fun v L=>∃ s',v=.tuple #[.bool (mr l x h key).1,.int .i64 (mr l x h key).2.1]/\L= [G,aj pa s']/\Step s s' l x (mr l x h key).2.2):=by
 unfold mr
 cases hd:x.dead with
 | true=>
  obtain⟨hng,hne⟩:=hO.not hs hd hov
  exact(aK.beside (vH pa x.off s l hng hne hO.place h key) G).mono fun v L ⟨L0,e,h1,h2⟩=>⟨s,h1,by rw[e,h2],Step.no hO⟩
 | false=>
  have hP:=(hO.live hd).1
  by_cases hk:(key.size:Int)≠l.key
  ·simp only[if_pos hk,Bool.false_eq_true,if_false]
   exact(aK.beside (xB pa x.off x.go x.n x.e s l x.T hP h key hk) G).mono fun v L ⟨L0,e,h1,h2⟩=>⟨s,h1,by rw[e,h2],Step.no hO⟩
  simp only[if_neg hk,Bool.false_eq_true,if_false]
  obtain⟨b1,b2⟩:=hO.rng.bnd hP.n0.2
  refine(Ad G hG pa x.off x.go x.n x.e s l x.T hP h hh key (EC s hs l hl x hO hov hk) b1 b2).mono fun v L ⟨s',h1,h2,h3,h4⟩=>⟨s',h1,h2,fun _=>⟨h4,h3,?_⟩,fun q=>by rw[hd] at q;cases q⟩
  exact hO.rng.del (I4 (T:=x.T) (h:=h) (key:=key) hP.n0.1)
end
end Exact
end
end Go.Proofs.YthkajgkagnenbaaGreatDoor
