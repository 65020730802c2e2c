import Derived.Test.YthkajgkagnenbaaGreatDoorRefT2
set_option linter.unusedVariables false
set_option linter.unusedSimpArgs false
set_option linter.unusedSectionVars false
set_option maxRecDepth 100000
namespace Go.Proofs.YthkajgkagnenbaaGreatDoor
section
namespace Arena
open Go.RowKit Go.Proofs Eng Ty
theorem Ec (pa:Nat) (s:ArS):aK Tryz.prog 11 #[.pointer (some ⟨pa,0,none⟩)] [aj pa s] (fun v L=>v=.int .i64 s.live/\L= [aj pa s]):=by
 refine au Kr Tryz.func11 rfl rfl rfl fun Fr w0=>aZ ?_
 refine dJ fun x hx=>?_
 refine gY fun M hM=>?_
 simp only[List.cons_append,List.nil_append] at hM
 subst M
 refine sr<|ar O O<|lz<|mv O O<|ad O (ae O)<|ad O (aE 1 O dy O O aN)<|ad O (aI O aX) ?_
 refine ar O O<|lc<|rt ?_
 apply aR (.inl rfl) ([aj pa s])
 ·apply cP O
  exact .tmp rfl
 ·exact⟨rfl,rfl⟩
 refine cD hx ?_;(exact en)
end Arena
end
section
namespace Exact
open Go.RowKit Go.Proofs Eng Arena Ctrl Layout TableB Table
structure KE where
 kind:Int
 t:Int
 n:Int
 m:Int
 h:Int
 k:ByteArray
 e:ByteArray
structure KE.wf (o:KE):Prop where
 kind:-9223372036854775808<=o.kind/\o.kind<=9223372036854775807
 t:-9223372036854775808<=o.t/\o.t<=9223372036854775807
 n:-9223372036854775808<=o.n/\o.n<=9223372036854775807
 m:-9223372036854775808<=o.m/\o.m<=9223372036854775807
 h:0<=o.h/\o.h < 18446744073709551616
inductive KG (s:ArS) (l:Lay) (x:PR):ArS->PR->Prop
 | step (s':ArS) (T':Tb):Step s s' l x T'->KG s l x s' {x with T:=T'}
 | free:x.dead=false->KG s l x (s.gives [((x.off:Nat):Int),((x.go:Nat):Int)]) {x with dead:=true}
section
variable (G:HP) (hG:dR G) (pa pr:Nat) (s:ArS) (hs:s.ok) (l:Lay) (hl:l.err=0) (x:PR) (hO:One s l x) (hov:x.over=false)
include hG hs hl hO hov
theorem Gh:aK Tryz.prog 92 #[.agg #[.pointer (some ⟨pa,0,none⟩),.int .i64 l.key,.int .i64 l.elem,.int .i64 l.ka,.int .i64 l.ea,.int .i64 l.cap,.int .i64 l.eo,.int .i64 l.bo,.int .i64 l.slot,.int .i64 l.group,.int .i64 (x.off:Nat)]] [aj pa s] (fun v L=>v=.int .i64 (qq x)/\((x.dead=true/\L= [aj pa s])\/(x.dead=false/\L= [aj pa (s.gives [((x.off:Nat):Int),((x.go:Nat):Int)])]))):=by
 unfold qq
 cases hd:x.dead with
 | true=>
  obtain⟨hng,hne⟩:=hO.not hs hd hov
  exact(xf pa x.off s l hng hne hO.place).mono fun v L h=>⟨h.1,.inl ⟨rfl,h.2⟩⟩
 | false=>
  obtain⟨h1,h2,h3,h4⟩:=hO.live hd
  exact(vn pa x.off x.go x.n x.e s l x.T h1 _ _ h2 h3).mono fun v L h=>⟨h.1,.inr ⟨rfl,h.2⟩⟩
end
end Exact
end
section
namespace Exact
open Go.RowKit Go.Proofs Arena Layout
section
variable (pa pr:Nat) (s:ArS) (hs:s.ok) (l:Lay) (hl:l.err=0) (x:PR) (hO:One s l x) (hov:x.over=false)
include hs hl hO hov
end
end Exact
end
section
namespace Exact
open Go.RowKit Go.Proofs Eng Arena Ctrl Layout
section
variable (G:HP) (hG:dR G) (pb pa pr:Nat) (s:ArS) (hs:s.ok) (l:Lay) (hl:l.err=0) (x:PR) (hO:One s l x) (hov:x.over=false) (vP:Value)
include hG hs hl hO hov
end
end Exact
end
section
namespace Exact
open Go.RowKit Go.Proofs Eng Arena Layout RefT
def ca (pr:Nat) (l:Lay) (ps:List PR):HP:=stars (ps.map (cz pr l))
theorem pZ {A:Type}:∀ {xs:List A} {k:Nat} {x:A},xs[k]?=some x->xs.Perm (x::xs.eraseIdx k)
 | [],k,x,h=>by simp at h
 | a::r,0,x,h=>by simp at h;subst h;exact .refl _
 | a::r,k+1,x,h=>by
  have:=pZ (xs:=r) (k:=k) (x:=x) (by simpa using h)
  exact(this.cons a).trans (.swap _ _ _)
theorem rR {A:Type}:∀ {xs:List A} {k:Nat} {x:A},(xs.set k x).eraseIdx k=xs.eraseIdx k
 | [],k,x=>rfl
 | a::r,0,x=>rfl
 | a::r,k+1,x=>by simp[rR (xs:=r)]
theorem sD {A:Type} {xs:List A} {k:Nat} (h:k < xs.length) (x:A):(xs.set k x)[k]?=some x:=by rw[List.getElem?_set];simp[h]
theorem AU {pr:Nat} {l:Lay} {ps:List PR} {k:Nat} {x:PR} {L:List HP} (h:ps[k]?=some x):dS (ca pr l ps::L) (cz pr l x::ca pr l (ps.eraseIdx k)::L):=fun w hw=>by
 have h1:=dC.1 hw
 have h2:=h1.perm (((pZ h).map (cz pr l)).append_right L)
 have h3:Sat (stars ((ps.eraseIdx k).map (cz pr l) ++ (cz pr l x::L))) w:=h2.perm (by rw[List.map_cons,List.cons_append];exact List.perm_middle.symm)
 exact(dC.2 h3:Sat (stars (ca pr l (ps.eraseIdx k)::cz pr l x::L)) w).perm (List.Perm.swap _ _ _)
theorem yG {pr:Nat} {l:Lay} {ps:List PR} {k:Nat} {x:PR} {L:List HP} (h:k < ps.length):dS (cz pr l x::ca pr l (ps.eraseIdx k)::L) (ca pr l (ps.set k x)::L):=fun w hw=>by
 have h1:Sat (stars (ca pr l (ps.eraseIdx k)::cz pr l x::L)) w:=hw.perm (List.Perm.swap _ _ _)
 have h2:=dC.1 h1
 have hp:=(pZ (sD h x)).map (cz pr l)
 rw[rR] at hp
 refine dC.2 (h2.perm ?_)
 refine List.perm_middle.trans ?_
 rw[<- List.cons_append,<- List.map_cons]
 exact hp.symm.append_right L
theorem pI {pr:Nat} {l:Lay} {ps:List PR} {x:PR} {L:List HP}:dS (cz pr l x::ca pr l ps::L) (ca pr l (ps ++ [x])::L):=fun w hw=>by
 have h1:Sat (stars (ca pr l ps::cz pr l x::L)) w:=hw.perm (List.Perm.swap _ _ _)
 have h2:=dC.1 h1
 refine dC.2 (h2.perm ?_)
 rw[List.map_append,List.append_assoc]
 exact .refl _
theorem AT (pr:Nat) (l:Lay) (ps:List PR):ca pr l (ps.map du)=ca pr l ps:=by
 unfold ca
 rw[List.map_map]
 rfl
theorem Dk {pr:Nat} {l:Lay} {L:List HP}:dS L (ca pr l []::L):=fun w hw=>dC.2 hw
def gV (ps:List PR):Nat:=(ps.filter (·.dead)).length
theorem k8 (ps:List PR):gV (ps.map du)=gV ps:=by
 unfold gV
 rw[List.filter_map,List.length_map]
 rfl
theorem n5 (ps:List PR) (x:PR) (h:x.dead=false):gV (ps ++ [x])=gV ps:=by
 unfold gV
 rw[List.filter_append]
 simp[h]
theorem zy (ps:List PR) (k:Nat) (x:PR):gV (ps.set k x)<=gV ps+1:=by
 unfold gV
 induction ps generalizing k with
 | nil=>simp
 | cons a r ih=>
  cases k with
  | zero=>
   rw[List.set_cons_zero,List.filter_cons,List.filter_cons]
   split <;> split <;> simp <;> omega
  | succ k=>
   have:=ih k
   rw[List.set_cons_succ,List.filter_cons,List.filter_cons]
   split
   ·simp only[List.length_cons];omega
   exact this
theorem ic {ps:List PR} {k:Nat} {x x':PR} (h:ps[k]?=some x) (hd:x'.dead=x.dead):gV (ps.set k x')=gV ps:=by
 unfold gV
 induction ps generalizing k with
 | nil=>simp at h
 | cons a r ih=>
  cases k with
  | zero=>
   simp at h
   subst h
   rw[List.set_cons_zero,List.filter_cons,List.filter_cons,hd]
   split <;> simp
  | succ k=>
   have:=ih (k:=k) (by simpa using h)
   rw[List.set_cons_succ,List.filter_cons,List.filter_cons]
   split
   ·simp only[List.length_cons];omega
   exact this
theorem uI:∀ {xs ys:List Int},xs.Nodup->(∀ x∈xs,x∈ys)->xs.length<=ys.length
 | [],ys,_,_=>Nat.zero_le _
 | x::r,ys,hn,h=>by
  rw[List.nodup_cons] at hn
  have hx:=h x List.mem_cons_self
  have:=uI (xs:=r) (ys:=ys.erase x) hn.2 fun y hy=>(List.mem_erase_of_ne (show y≠x from fun e=>hn.1 (by rw[<- e];exact hy))).2 (h y (List.mem_cons_of_mem _ hy))
  rw[List.length_erase_of_mem hx] at this
  have:=List.length_pos_of_mem hx
  simp only[List.length_cons];omega
theorem xN:∀ {l:List (Int×Int)},(∀ p∈l,16<=p.2)->16*(l.length:Int)<=ArS.sum l
 | [],_=>by simp[ArS.sum]
 | p::r,h=>by
  have:=xN (l:=r) fun q hq=>h q (List.mem_cons_of_mem _ hq)
  have:=h p List.mem_cons_self
  simp only[ArS.sum,List.length_cons];omega
theorem qQ.few {s:ArS} (hs:s.ok) {l:Lay} {ps:List PR} (h:qQ s l ps):ps.length<=gV ps+131072:=by
 have h1:(ps.filter fun x=>!x.dead).length+gV ps=ps.length:=by
  unfold gV
  clear h
  induction ps with
  | nil=>rfl
  | cons a r ih=>
   rw[List.filter_cons,List.filter_cons]
   cases a.dead <;> simp only[Bool.not_false,Bool.not_true,if_true,Bool.false_eq_true,if_false,List.length_cons] <;> omega
 have hnd:((ps.filter fun x=>!x.dead).map fun x=>((x.off:Nat):Int)).Nodup:=by
  rw[List.nodup_iff_pairwise_ne,List.pairwise_map,List.pairwise_filter]
  rw[List.pairwise_iff_getElem]
  intro i j hi hj hij d1 d2 e
  have:=(h.two i j ps[i] ps[j] (by omega) (List.getElem?_eq_getElem hi) (List.getElem?_eq_getElem hj) (by simpa using d1) (by simpa using d2)).1
  omega
 have h2:=uI (ys:=s.bl.map (·.1)) hnd fun o ho=>by
  obtain⟨x,hx,rfl⟩:=List.mem_map.1 ho
  rw[List.mem_filter] at hx
  exact List.mem_map.2 ⟨_,((h.one x hx.1).live (by simpa using hx.2)).2.1,rfl⟩
 rw[List.length_map,List.length_map] at h2
 have h3:=xN (l:=s.bl) fun p hp=>(gn p.2 (hs.isC p (cG.1 hp).1)).1
 have h4:=hs.room
 have h5:=hs.limit
 unfold ArS.live at h4
 omega
end Exact
end
section
namespace Plays
open Go.RowKit Go.Proofs Eng Arena Layout GroupB TableB TableI Table Bench Cells Refill Grow Exact
section
variable {n N e:Nat} {H:ByteArray->Int} {cs R:Nat->Cell} {d0 d b:Int}
theorem iz (hn:n=2 ^ e):∀ i,fu n (cw n H cs d0 i)
 | 0=>fu.new n d0
 | i+1=>by
  have hn0:0 < n:=by rw[hn];exact Nat.two_pow_pos e
  show fu n (if isFull (cs i)=true then _ else _)
  split
  ·exact(iz hn i).put (wv (T:=cw n H cs d0 i) (h:=H (cs i).keyS) (key:=(cs i).keyS) hn0 (fun g hg=>iS hn hg) (cs i).elemS (cs i).birthI)
  exact iz hn i
theorem jt (hn:n=2 ^ e):∀ i,mB (cR n d0) (cw n H cs d0 i)
 | 0=>mB.refl _
 | i+1=>by
  have hn0:0 < n:=by rw[hn];exact Nat.two_pow_pos e
  show mB _ (if isFull (cs i)=true then _ else _)
  split
  ·exact(jt hn i).trans (rJ (wv (T:=cw n H cs d0 i) (h:=H (cs i).keyS) (key:=(cs i).keyS) hn0 (fun g hg=>iS hn hg) (cs i).elemS (cs i).birthI))
  exact jt hn i
theorem mf {i:Nat} (h:isFull (cs i)=true):cw n H cs d0 (i+1)=(eD n (cw n H cs d0 i) (H (cs i).keyS) (cs i).keyS (cs i).elemS (cs i).birthI).2:=by
 show(if isFull (cs i)=true then _ else _)=_
 rw[if_pos h]
theorem js {i:Nat} (h:isFull (cs i)=false):cw n H cs d0 (i+1)=cw n H cs d0 i:=by
 show(if isFull (cs i)=true then _ else _)=_
 rw[if_neg (by rw[h];simp)]
theorem u3 {i j:Nat} (hR:∀ i,isFull (R i)=true->isFull (cs i)=true) (hij:i<=j) (hc:dX isFull cs j=dX isFull cs i):cw n H R d0 j=cw n H R d0 i:=
 zq (fun x h1 h2=>by
  cases q:isFull (R x) with
  | false=>rfl
  | true=>
   have h3:=hR x q
   rw[tf hij hc h1 h2] at h3
   cases h3) hij
theorem mL (hR:∀ i,isFull (R i)=true->isFull (cs i)=true) (i:Nat) (hi:dX isFull cs i=0):cR n d0=cw n H R d0 i:=(u3 hR (Nat.zero_le i) (by rw[hi];rfl)).symm
theorem ku (hR:∀ i,isFull (R i)=true->isFull (cs i)=true) {i1 k:Nat} (hf:isFull (cs i1)=true) (hk:dX isFull cs i1=k) (i:Nat) (hi:dX isFull cs i=k+1):cw n H R d0 (i1+1)=cw n H R d0 i:=by
 have hc:dX isFull cs (i1+1)=k+1:=by rw[cI,if_pos hf,hk]
 have hlt:i1+1<=i:=by
  rcases Nat.lt_or_ge i1 i with q | q
  ·exact q
  have:=lL (p:=isFull) (cs:=cs) q;omega
 exact(u3 hR hlt (by rw[hc,hi])).symm
theorem kh:∀ i,isFull (side H d cs b i)=true->isFull (cs i)=true:=fun i h=>(ru h).1
end
def lF (T:Tb) (b:Nat->Bool) (k:Nat):Tb:={T with cells:=df T.cells b,left:=T.left+(k:Int)}
theorem Dq {n:Nat} {T:Tb} (h:fu n T) {b:Nat->Bool} {k:Nat} (hk:dX isDel T.cells (8*n)=dX isDel (df T.cells b) (8*n)+k):fu n (lF T b k):=by
 have hcf:dX isFull (df T.cells b) (8*n)=dX isFull T.cells (8*n):=by unfold dX;congr 1;funext i;exact pW
 have h1:=h.left0
 have h2:=h.left1
 exact⟨by show T.used=_;rw[h.used];unfold lF;dsimp only;rw[hcf],by unfold lF;dsimp only;omega,by unfold lF;dsimp only;rw[hcf];omega,h.pins,h.kind⟩
theorem Fx {n:Nat} {H:ByteArray->Int} {cells:Nat->Cell} {b c:Nat->Bool} {j:Nat} (h1:PB n H cells b j) (h2:PB n H cells c j):b=c:=by
 funext g
 rw[Bool.eq_iff_iff,h1 g,h2 g]
def Jd (s:ArS) (x:PR):Prop:=∃ c,(((x.off:Nat):Int),c)∈s.all
structure Full (s:ArS) (l:Lay) (ps:List PR):Prop where
 all:qQ s l ps
 was:∀ x∈ps,Jd s x
 depth:∀ x∈ps,0<=x.T.depth/\x.T.depth<=6
theorem Full.nil (s:ArS) (l:Lay):Full s l []:=⟨qQ.nil s l,fun x h=>(by cases h),fun x h=>(by cases h)⟩
def iT (x:PR):PR:={x with over:=false}
theorem One.ask {s:ArS} {l:Lay} {x:PR} (h:One s l x) (hw:Jd s x) (hd:x.dead=true->s.dead (x.off:Nat)=true):One s l (iT x):=
 ⟨h.he,h.hn,h.rng,h.live,fun q _=>⟨hd q,hw⟩,h.place,h.tail⟩
theorem x6 {A:Type} {xs:List A} {k j:Nat} {x z:A} (h:(xs.set k x)[j]?=some z):(j=k/\z=x)\/(j≠k/\xs[j]?=some z):=by
 rw[List.getElem?_set] at h
 split at h
 ·next q=>
  subst q
  split at h
  ·exact .inl ⟨rfl,(Option.some.inj h).symm⟩
  cases h
 next q=>exact .inr ⟨Ne.symm q,h⟩
theorem mem_set {A:Type} {xs:List A} {k:Nat} {x z:A} (h:z∈xs.set k x):z=x\/z∈xs:=by
 obtain⟨j,hj,rfl⟩:=List.getElem_of_mem h
 rcases x6 (List.getElem?_eq_getElem hj) with⟨_,e⟩ | ⟨_,e⟩
 ·exact .inl e
 exact .inr (List.mem_of_getElem? e)
theorem Full.ask {s:ArS} {l:Lay} {ps:List PR} (h:Full s l ps) {k:Nat} {x:PR} (hx:ps[k]?=some x) (hd:x.dead=true->s.dead (x.off:Nat)=true):Full s l (ps.set k (iT x))/\(ps.set k (iT x))[k]?=some (iT x)/\One s l (iT x):=by
 have hm:=List.mem_of_getElem? hx
 have hO:=One.ask (h.all.at hx) (h.was x hm) hd
 refine⟨⟨⟨fun z hz=>?_,fun i j y z hij hy hz hdy hdz=>?_⟩,fun z hz=>?_,fun z hz=>?_⟩,sD (List.getElem?_eq_some_iff.1 hx).1 _,hO⟩
 ·rcases mem_set hz with rfl | q
  ·exact hO
  exact h.all.one z q
 ·have hap:∀ {i:Nat} {y:PR},(ps.set k (iT x))[i]?=some y->∃ y',ps[i]?=some y'/\y'.dead=y.dead/\y'.off=y.off/\y'.go=y.go:=fun {i y} hy=>by
   rcases x6 hy with⟨e1,e2⟩ | ⟨_,e⟩
   ·exact⟨x,by rw[e1];exact hx,by rw[e2];rfl,by rw[e2];rfl,by rw[e2];rfl⟩
   exact⟨y,e,rfl,rfl,rfl⟩
  obtain⟨y',a1,a2,a3,a4⟩:=hap hy
  obtain⟨z',b1,b2,b3,b4⟩:=hap hz
  have:=h.all.two i j y' z' hij a1 b1 (a2.trans hdy) (b2.trans hdz)
  unfold apart at this ⊢
  rw[a3,a4,b3,b4] at this
  exact this
 ·rcases mem_set hz with rfl | q
  ·exact h.was x hm
  exact h.was z q
 rcases mem_set hz with rfl | q
 ·exact h.depth x hm
 exact h.depth z q
theorem Full.step {s s':ArS} (hs:s.ok) {l:Lay} {ps:List PR} (h:Full s l ps) {k:Nat} {x:PR} (hx:ps[k]?=some x) {T':Tb} (hS:Step s s' l x T') (hdp:T'.depth=x.T.depth):Full s' l (ps.set k {x with T:=T'}):=by
 have hm:=List.mem_of_getElem? hx
 obtain⟨_,ha,_⟩:=hS.arena
 refine⟨hS.all hs h.all hx,fun z hz=>?_,fun z hz=>?_⟩
 ·unfold Jd
  rw[ha]
  rcases mem_set hz with rfl | q
  ·exact h.was x hm
  exact h.was z q
 rcases mem_set hz with rfl | q
 ·show 0<=T'.depth/\T'.depth<=6
  rw[hdp];exact h.depth x hm
 exact h.depth z q
theorem Full.free {s:ArS} (hs:s.ok) {l:Lay} {ps:List PR} (h:Full s l ps) {k:Nat} {x:PR} (hx:ps[k]?=some x) (hd:x.dead=false):Full (s.gives [((x.off:Nat):Int),((x.go:Nat):Int)]) l (ps.set k {x with dead:=true}):=by
 have hm:=List.mem_of_getElem? hx
 refine⟨h.all.free hs hx hd,fun z hz=>?_,fun z hz=>?_⟩
 ·unfold Jd
  rw[gm]
  rcases mem_set hz with rfl | q
  ·exact h.was x hm
  exact h.was z q
 rcases mem_set hz with rfl | q
 ·exact h.depth x hm
 exact h.depth z q
theorem m5 {s:ArS} (hs:s.ok) {c:Int} {p:Int×Int} (h:p∈s.all):p∈(s.take c).all:=by
 rw[AH hs]
 split
 ·exact List.mem_append_left _ h
 exact h
theorem Full.over {s s':ArS} {l:Lay} {ps:List PR} (h:Full s l ps) (hg:∀ p∈s.bl,p∈s'.bl) (hm:∀ p∈s.bl,∀ a:Nat,p.1<=a->(a:Int) < p.1+p.2->s'.m a=s.m a) (ha:∀ p∈s.all,p∈s'.all):Full s' l (ps.map du):=by
 refine⟨h.all.over hg hm,fun z hz=>?_,fun z hz=>?_⟩
 ·obtain⟨x,hx,rfl⟩:=List.mem_map.1 hz
  obtain⟨c,hc⟩:=h.was x hx
  exact⟨c,ha _ hc⟩
 obtain⟨x,hx,rfl⟩:=List.mem_map.1 hz
 exact h.depth x hx
theorem Full.push {s s':ArS} (hs:s.ok) {l:Lay} {ps:List PR} (h:Full s l ps) {c:Int} (hc:1<=c) (hcc:c∈dM) (hfit:s.live+(64+c)<=s.limit) (hN:ej s s' c) {x:PR} (hx:One s' l x) (hd:x.dead=false) (ho:x.off=s.at 64) (hgo:x.go=(s.take 64).at c) (hdp:0<=x.T.depth/\x.T.depth<=6):Full s' l (ps.map du ++ [x]):=by
 have ok64:=ArS.take_ok hs ye (by omega)
 have ha:∀ p∈s.all,p∈s'.all:=fun p hp=>by rw[hN.all];exact m5 ok64 (m5 hs hp)
 have hO:=h.over (s':=s') (fun p hp=>(hN.bl p).2 (.inl hp)) hN.m ha
 refine⟨h.all.push hs hc (by omega) hN hx ho hgo,fun z hz=>?_,fun z hz=>?_⟩
 ·rcases List.mem_append.1 hz with q | q
  ·exact hO.was z q
  rw[List.mem_singleton.1 q]
  exact⟨64,(cG.1 (hx.live hd).2.1).1⟩
 rcases List.mem_append.1 hz with q | q
 ·exact hO.depth z q
 rw[List.mem_singleton.1 q];exact hdp
theorem Bp {s s1 s':ArS} (hs:s.ok) {c:Int} {k:Nat} (hN:ej s s1 c) (hS:cb s1 s' (s.at 64) ((s.take 64).at c) k) (hc:1<=c) (hk:(k:Int)<=c) (hfit:s.live+64<=s.limit):ej s s' c:=by
 have ok64:=ArS.take_ok hs ye hfit
 refine⟨hS.limit.trans hN.limit,hS.live.trans hN.live,hS.all.trans hN.all,hS.dead.trans hN.dead,fun p=>by rw[hS.bl];exact hN.bl p,fun p hp a h1 h2=>?_⟩
 have a1:=de hs hp (c:=64) (by decide)
 have a2:=de ok64 ((dP hs).2 (.inl hp)) hc
 rw[hS.m a (by omega) (by omega)]
 exact hN.m p hp a h1 h2
theorem yC {s1 s':ArS} {o g k:Nat} {c:Int} (hz:fK s1 g k c) (hS:cb s1 s' o g k) (ha:(o:Int)+64<=g\/(g:Int)+c<=o):fK s' g k c:=fun a h1 h2=>by
 rw[hS.m a (by omega) (by omega)]
 exact hz a h1 h2
end Plays
end
section
namespace Exact
open Go.RowKit Go.Proofs Eng Bits Mem Arena Ctrl Layout GroupB Probe Table Refill RefA RefT
section
variable (G:HP) (hG:dR G) (pb pa pr:Nat) (l:Lay) (hl:l.err=0)
end
theorem nU (pa pr:Nat) (s:ArS) (hs:s.ok) (l:Lay) (hl:l.err=0) (slots depth:Int) (hsl:-9223372036854775808<=slots/\slots<=9223372036854775807):
  (∃ c:Int,c≠0/\aK Tryz.prog 52 #[.pointer (some ⟨pa,0,none⟩),.agg #[.int .i64 l.key,.int .i64 l.elem,.int .i64 l.ka,.int .i64 l.ea,.int .i64 l.cap,.int .i64 l.eo,.int .i64 l.bo,.int .i64 l.slot,.int .i64 l.group],.int .i64 slots,.int .i64 depth] [aj pa s] (fun v L=>v=.tuple #[.agg #[.pointer none,.int .i64 0,.int .i64 0,.int .i64 0,.int .i64 0,.int .i64 0,.int .i64 0,.int .i64 0,.int .i64 0,.int .i64 0,.int .i64 0],.int .i64 c]/\L= [aj pa s])/\
   aK Tryz.prog 58 #[.pointer (some ⟨pr,0,none⟩),.agg #[.int .i64 l.key,.int .i64 l.elem,.int .i64 l.ka,.int .i64 l.ea,.int .i64 l.cap,.int .i64 l.eo,.int .i64 l.bo,.int .i64 l.slot,.int .i64 l.group],.int .i64 slots,.int .i64 depth] [bd pr s] (fun v L=>v=.tuple #[.pointer none,.int .i64 c]/\L= [bd pr s]))\/
  ∃ n e:Nat,n=2 ^ e/\e<=13/\slots=8*(n:Int)/\(0<=depth/\depth<=6)/\((n*gN l:Nat):Int)<=1048576/\s.live+(64+aH ((n*gN l:Nat):Int))<=s.limit/\
   aK Tryz.prog 58 #[.pointer (some ⟨pr,0,none⟩),.agg #[.int .i64 l.key,.int .i64 l.elem,.int .i64 l.ka,.int .i64 l.ea,.int .i64 l.cap,.int .i64 l.eo,.int .i64 l.bo,.int .i64 l.slot,.int .i64 l.group],.int .i64 slots,.int .i64 depth] [bd pr s] (fun v L=>∃ p,v=.tuple #[.pointer (some ⟨p,0,none⟩),.int .i64 0]/\L= [cz pr l (⟨p,s.at 64,(s.take 64).at (aH ((n*gN l:Nat):Int)),n,e,cR n depth,false,false⟩:PR),bd pr ((s.take 64).take (aH ((n*gN l:Nat):Int)))]):=by
 have hR:=vA pr s hs l hl slots depth hsl
 have hpw:=Probe.powB_iff slots 8 3 16 65536 (by decide) (by decide) (by decide)
 cases hb:Probe.powB slots 8 65536 with
 | false=>
  refine .inl ⟨80,by decide,(aK.beside (zW pa #[.int .i64 l.key,.int .i64 l.elem,.int .i64 l.ka,.int .i64 l.ea,.int .i64 l.cap,.int .i64 l.eo,.int .i64 l.bo,.int .i64 l.slot,.int .i64 l.group] slots depth hsl hb) (aj pa s)).mono fun v L ⟨L0,e,h1,h2⟩=>⟨h1,by rw[e,h2]⟩,hR.mono fun v L h=>?_⟩
  rcases h with⟨_,h1,h2⟩ | ⟨h1,_⟩ | ⟨n,e,h1,h2,h3,_⟩
  ·exact⟨h1,h2⟩
  ·rw[hb] at h1;cases h1
  exfalso
  have:=hpw.2 ⟨e+3,by omega,by omega,by have hc:=cr e;rw[h3,h1,Int.pow_add];omega⟩
  exact absurd (hb.symm.trans this) (by decide)
 | true=>
  by_cases hd:depth < 0\/6 < depth
  ·refine .inl ⟨81,by decide,(aK.beside (zX pa #[.int .i64 l.key,.int .i64 l.elem,.int .i64 l.ka,.int .i64 l.ea,.int .i64 l.cap,.int .i64 l.eo,.int .i64 l.bo,.int .i64 l.slot,.int .i64 l.group] slots depth hb hd) (aj pa s)).mono fun v L ⟨L0,e,h1,h2⟩=>⟨h1,by rw[e,h2]⟩,hR.mono fun v L h=>?_⟩
   rcases h with⟨h0,h1,h2⟩ | ⟨_,_,h1,h2⟩ | ⟨n,e,h1,h2,h3,h4,_⟩
   ·rw[hb] at h0;cases h0
   ·exact⟨h1,h2⟩
   omega
  obtain⟨k,k1,k2,k3⟩:=hpw.1 hb
  obtain⟨e,rfl⟩:∃ e,k=e+3:=⟨k-3,by omega⟩
  obtain⟨n,hn⟩:∃ n,n=2 ^ e:=⟨_,rfl⟩
  have hc:=cr e
  rw[<- hn] at hc
  have hsn:slots=8*(n:Int):=by rw[k3,Int.pow_add];omega
  have huq:∀ {n' e':Nat},n'=2 ^ e'->slots=8*(n':Int)->n'=n/\e'=e:=fun {n' e'} h1 h2=>by
   have h3:n'=n:=by omega
   refine⟨h3,?_⟩
   rw[h1,hn] at h3
   exact(Nat.pow_right_inj (by decide)).1 h3
  by_cases hf:1048576 < ((n*gN l:Nat):Int)\/s.limit-s.live < 64+aH ((n*gN l:Nat):Int)
  ·refine .inl ⟨22,by decide,(Table.New_ok pa n e s l slots depth hl (by omega) hn hsn (by omega)).mono fun v L h=>?_,hR.mono fun v L h=>?_⟩
   ·rcases h with⟨_,h1,h2⟩ | ⟨h1,h2,_⟩
    ·exact⟨h1,h2⟩
    omega
   rcases h with⟨h0,h1,h2⟩ | ⟨_,h0,_⟩ | ⟨n',e',h1,h2,h3,h4,⟨h5,h6,h7⟩ | ⟨h5,h6,_⟩⟩
   ·rw[hb] at h0;cases h0
   ·omega
   ·exact⟨h6,h7⟩
   obtain⟨rfl,_⟩:=huq h1 h3
   omega
  refine .inr ⟨n,e,hn,by omega,hsn,by omega,by omega,by omega,hR.mono fun v L h=>?_⟩
  rcases h with⟨h0,h1,h2⟩ | ⟨_,h0,_⟩ | ⟨n',e',h1,h2,h3,h4,⟨h5,h6,h7⟩ | ⟨h5,h6,h7⟩⟩
  ·rw[hb] at h0;cases h0
  ·omega
  ·obtain⟨rfl,_⟩:=huq h1 h3
   omega
  obtain⟨rfl,rfl⟩:=huq h1 h3
  exact h7
theorem l5 (pa n e:Nat) (s:ArS) (l:Lay) (slots depth:Int) (hl:l.err=0) (he:e<=13) (hn:n=2 ^ e) (hslots:slots=8*(n:Int)) (hd:0<=depth/\depth<=6) (hsm:((n*gN l:Nat):Int)<=1048576) (hfit:s.live+(64+aH ((n*gN l:Nat):Int))<=s.limit) (o g:Nat) (ho:s.at 64=o) (hg:(s.take 64).at (aH ((n*gN l:Nat):Int))=g):
  aK Tryz.prog 52 #[.pointer (some ⟨pa,0,none⟩),.agg #[.int .i64 l.key,.int .i64 l.elem,.int .i64 l.ka,.int .i64 l.ea,.int .i64 l.cap,.int .i64 l.eo,.int .i64 l.bo,.int .i64 l.slot,.int .i64 l.group],.int .i64 slots,.int .i64 depth] [aj pa s]
   (fun v L=>∃ s',v=.tuple #[.agg #[.pointer (some ⟨pa,0,none⟩),.int .i64 l.key,.int .i64 l.elem,.int .i64 l.ka,.int .i64 l.ea,.int .i64 l.cap,.int .i64 l.eo,.int .i64 l.bo,.int .i64 l.slot,.int .i64 l.group,.int .i64 ((o:Nat):Int)],.int .i64 0]/\L= [aj pa s']/\cd s' o g l n e (cR n depth)/\ej s s' (aH ((n*gN l:Nat):Int))/\fK s' g (n*gN l) (aH ((n*gN l:Nat):Int))):=by
 subst ho hg
 refine aK.mono (Table.New_okT pa n e s l slots depth hl he hn hslots hd) fun v L h=>?_
 rcases h with⟨hb,_⟩ | ⟨_,_,h⟩
 ·omega
 exact h
section
variable (G:HP) (hG:dR G) (pb pa pr:Nat) (l:Lay) (hl:l.err=0)
include hl
end
end Exact
end
end Go.Proofs.YthkajgkagnenbaaGreatDoor
