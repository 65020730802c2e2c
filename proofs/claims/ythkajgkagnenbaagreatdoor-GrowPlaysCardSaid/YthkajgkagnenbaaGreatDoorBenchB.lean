import Derived.Test.YthkajgkagnenbaaGreatDoorTable
import Derived.Test.YthkajgkagnenbaaGreatDoorRef03
set_option linter.unusedVariables false
set_option linter.unusedSimpArgs false
set_option linter.unusedSectionVars false
set_option maxRecDepth 100000
namespace Go.Proofs.YthkajgkagnenbaaGreatDoor
section
namespace Table
open Go.RowKit Go.Proofs Eng Mem Arena CtrlB Layout GroupB Probe TableB TableI
structure cd (s:ArS) (off go:Nat) (l:Lay) (n e:Nat) (T:Tb):Prop where
 hl:l.err=0
 he:e<=13
 hn:n=2 ^ e
 hT:Cq s.m off go l n T
 gh:bt s off 64
 gg:bt s go ((n*gN l:Nat):Int)
 hr:Kw T n go
 dj:off+64<=go\/go+n*gN l<=off
theorem cd.n0 {s:ArS} {off go:Nat} {l:Lay} {n e:Nat} {T:Tb} (h:cd s off go l n e T):0 < n/\n<=8192:=by
 have h1:=h.hn;have h2:=Nat.two_pow_pos e
 have h3:2 ^ e<=2 ^ 13:=Nat.pow_le_pow_right (by decide) h.he
 omega
structure cb (s s':ArS) (off go k:Nat):Prop where
 all:s'.all=s.all
 dead:s'.dead=s.dead
 limit:s'.limit=s.limit
 m:∀ a,(a < off\/off+64<=a)->(a < go\/go+k<=a)->s'.m a=s.m a
theorem cb.refl (s:ArS) (off go k:Nat):cb s s off go k:=⟨rfl,rfl,rfl,fun _ _ _=>rfl⟩
theorem cb.bl {s s':ArS} {off go k:Nat} (h:cb s s' off go k):s'.bl=s.bl:=by unfold ArS.bl;rw[h.all,h.dead]
theorem cb.live {s s':ArS} {off go k:Nat} (h:cb s s' off go k):s'.live=s.live:=by unfold ArS.live;rw[h.bl]
theorem cb.trans {s s1 s2:ArS} {off go k:Nat} (h:cb s s1 off go k) (h2:cb s1 s2 off go k):cb s s2 off go k:=
 ⟨h2.all.trans h.all,h2.dead.trans h.dead,h2.limit.trans h.limit,fun a h3 h4=>(h2.m a h3 h4).trans (h.m a h3 h4)⟩
theorem cb.good {s s':ArS} {off go k:Nat} (h:cb s s' off go k) {o n:Int} (hg:bt s o n):bt s' o n:=by
 obtain⟨h0,p,hp,q⟩:=hg
 exact⟨h0,p,by rw[h.bl];exact hp,q⟩
theorem cd.grpAt {s:ArS} {off go:Nat} {l:Lay} {n e:Nat} {T:Tb} (h:cd s off go l n e T) {g:Nat} (hg:g < n):
  bt s ((go+g*gN l:Nat):Int) l.group/\qO s.m (go+g*gN l) l (ck T.cells g)/\(∀ i,i < 8->(ck T.cells g i).ok l)/\g*gN l+gN l<=n*gN l:=by
 have hN:=eK h.hl
 have hin:g*gN l+gN l<=n*gN l:=by have:=Nat.mul_le_mul_right (gN l) (show g+1<=n by omega);rw[Nat.add_mul] at this;omega
 exact⟨by rw[<- hN.g];exact bt.sub h.gg (by omega) (by omega) (by omega),h.hT.body g hg,fun i hi=>h.hT.okc _ (by omega),hin⟩
theorem cd.cell {s:ArS} {off go:Nat} {l:Lay} {n e:Nat} {T:Tb} (h:cd s off go l n e T) {g i:Nat} (hg:g < n) (hi:i < 8) {c:Cell} (hc:c.ok l):
  cd (s.put (go+g*gN l) (gN l) (dZ l (cW (ck T.cells g) i c))) off go l n e {T with cells:=cW T.cells (8*g+i) c}/\
   cb s (s.put (go+g*gN l) (gN l) (dZ l (cW (ck T.cells g) i c))) off go (n*gN l):=by
 obtain⟨h1,h2,h3,h4⟩:=h.grpAt hg
 refine⟨⟨h.hl,h.he,h.hn,?_,h.gh,h.gg,h.hr,h.dj⟩,⟨rfl,rfl,rfl,fun a _ h6=>by rw[ArS.put_m,cC (by omega)]⟩⟩
 refine Cq.grp h.hT h.dj hg (T':={T with cells:=cW T.cells (8*g+i) c}) (fun j hj=>?_) (fun k _=>?_) (fun j=>?_) (eK h.hl)
 ·unfold cW;split;exact hc;exact h3 j hj
 ·unfold fa;rfl
 show cW T.cells (8*g+i) c j=_
 by_cases q:j / 8=g
 ·rw[if_pos q]
  by_cases q2:j=8*g+i
  ·rw[q2,ek,show(8*g+i) % 8=i by omega,ek]
  rw[fm _ q2,fm _ (by omega)]
  show T.cells j=T.cells (8*g+j % 8)
  congr 1;omega
 rw[if_neg q,fm _ (by omega)]
theorem cd.word {s:ArS} {off go:Nat} {l:Lay} {n e:Nat} {T T':Tb} (h:cd s off go l n e T) {k:Nat} (hk:k < 8) {v:Int} (hb:-9223372036854775808<=v/\v<=9223372036854775807) (hv:fa T' n go k=v) (ho:∀ j,j < 8->j≠k->fa T' n go j=fa T n go j) (hc:T'.cells=T.cells):
  cd (s.put (off+8*k) 8 (ct (IntKind.u64.wrap v))) off go l n e T'/\cb s (s.put (off+8*k) 8 (ct (IntKind.u64.wrap v))) off go (n*gN l):=by
 refine⟨⟨h.hl,h.he,h.hn,Cq.set h.hT h.dj hk hv ho hc,h.gh,h.gg,fun j hj=>?_,h.dj⟩,⟨rfl,rfl,rfl,fun a h6 _=>by rw[ArS.put_m,cC (by omega)]⟩⟩
 by_cases q:j=k
 ·rw[q,hv];exact hb
 rw[ho j hj q];exact h.hr j hj
theorem iR {T T':Tb} {n go k:Nat} (h0:k=0\/T'.kind=T.kind) (h1:k=1\/T'.pins=T.pins) (h2:k=2\/T'.next=T.next) (h3:k=3\/T'.used=T.used) (h5:k=5\/T'.left=T.left) (h6:k=6\/T'.depth=T.depth):
  ∀ j,j < 8->j≠k->fa T' n go j=fa T n go j:=by
 intro j hj hne
 have:j=0\/j=1\/j=2\/j=3\/j=4\/j=5\/j=6\/j=7:=by omega
 rcases this with rfl | rfl | rfl | rfl | rfl | rfl | rfl | rfl
 ·exact h0.resolve_left (Ne.symm hne)
 ·exact h1.resolve_left (Ne.symm hne)
 ·exact h2.resolve_left (Ne.symm hne)
 ·exact h3.resolve_left (Ne.symm hne)
 ·rfl
 ·exact h5.resolve_left (Ne.symm hne)
 ·exact h6.resolve_left (Ne.symm hne)
 rfl
def Fs (c:Cell) (e:ByteArray):Cell:=match c with
 | .full t k _ b=>.full t k e b
 | c=>c
def eD (n:Nat) (T:Tb) (h:Int) (key elem:ByteArray) (birth:Int):Int×Tb:=
 if 0<=(bB (h / 128) n T.cells (h % 128) key).slot then
  (1,{T with cells:=cW T.cells (bB (h / 128) n T.cells (h % 128) key).slot.toNat (Fs (T.cells (bB (h / 128) n T.cells (h % 128) key).slot.toNat) elem)})
 else if(bB (h / 128) n T.cells (h % 128) key).vac < 0\/((bB (h / 128) n T.cells (h % 128) key).emp=true/\T.left=0) then(3,T)
 else(2,{T with used:=T.used+1,left:=if(bB (h / 128) n T.cells (h % 128) key).emp then T.left-1 else T.left,cells:=cW T.cells (bB (h / 128) n T.cells (h % 128) key).vac.toNat (.full (h % 128) key elem birth)})
def dK (cells:Nat->Cell) (slot:Nat):Bool:=decide ((bE (eh (ck cells (slot / 8)))).length=0)
def nw (n:Nat) (T:Tb) (h:Int) (key:ByteArray):Bool×Tb:=
 if 0<=(bB (h / 128) n T.cells (h % 128) key).slot then
  (true,{T with used:=T.used-1,left:=if dK T.cells (bB (h / 128) n T.cells (h % 128) key).slot.toNat then T.left else T.left+1,cells:=cW T.cells (bB (h / 128) n T.cells (h % 128) key).slot.toNat (if dK T.cells (bB (h / 128) n T.cells (h % 128) key).slot.toNat then .deleted else .empty)})
 else(false,T)
theorem im {home:Int} {n:Nat} (hn:0 < n) {cells:Nat->Cell} {tag:Int} {key:ByteArray} (h:0<=(bB home n cells tag key).slot):
  ∃ g i,g < n/\i < 8/\(bB home n cells tag key).slot=((8*g+i:Nat):Int)/\∃ e b,cells (8*g+i)=.full tag key e b:=by
 rcases kP home n cells tag key with⟨k,_,_,hh,e⟩ | ⟨k,_,_,_,_,e⟩ | ⟨_,e⟩
 ·rw[e]
  obtain⟨e',b',hc⟩:=qo (mc hh)
  exact⟨gk home n k,eR home n cells tag key k,nr hn,hh,by simp,e',b',hc⟩
 ·rw[e] at h;simp at h
 rw[e] at h;simp at h
theorem we {home:Int} {n:Nat} (hn:0 < n) {cells:Nat->Cell} {tag:Int} {key:ByteArray} (h:0<=(bB home n cells tag key).vac):
  ∃ g i,g < n/\i < 8/\(bB home n cells tag key).vac=((8*g+i:Nat):Int)/\isFull (cells (8*g+i))=false/\(bB home n cells tag key).emp=dz (cells (8*g+i)):=by
 have hkey:∀ k,0<=ez home n cells k->∃ g i,g < n/\i < 8/\ez home n cells k=((8*g+i:Nat):Int)/\isFull (cells (8*g+i))=false/\fw home n cells k=dz (cells (8*g+i)):=fun k hk=>by
  obtain⟨j,_,h1,_,h2,h3⟩:=vU (home:=home) (n:=n) (cells:=cells) (k:=k) (by omega)
  refine⟨gk home n j,dm home n cells j,nr hn,h1,by rw[h2];simp,sv.1 (mc h1),?_⟩
  rw[h3]
  show eh _ _=dz (ck cells (gk home n j) (dm home n cells j))
  unfold eh dz
  cases ck cells (gk home n j) (dm home n cells j) <;> rfl
 rcases kP home n cells tag key with⟨k,_,_,_,e⟩ | ⟨k,_,_,_,_,e⟩ | ⟨_,e⟩
 ·rw[e] at h ⊢;exact hkey k h
 ·rw[e] at h ⊢;exact hkey (k+1) h
 rw[e] at h ⊢;exact hkey n h
theorem wu {off go n e:Nat} {s:ArS} {l:Lay} {T:Tb} (hP:cd s off go l n e T) (h:Int) (key elem:ByteArray) (birth:Int):
  (∃ g i e0 b0,g < n/\i < 8/\(bB (h / 128) n T.cells (h % 128) key).slot=((8*g+i:Nat):Int)/\T.cells (8*g+i)=.full (h % 128) key e0 b0/\eD n T h key elem birth=(1,{T with cells:=cW T.cells (8*g+i) (.full (h % 128) key elem b0)}))\/
  ((bB (h / 128) n T.cells (h % 128) key).slot < 0/\((bB (h / 128) n T.cells (h % 128) key).vac < 0\/((bB (h / 128) n T.cells (h % 128) key).emp=true/\T.left=0))/\eD n T h key elem birth=(3,T))\/
  (∃ g i,g < n/\i < 8/\(bB (h / 128) n T.cells (h % 128) key).slot < 0/\(bB (h / 128) n T.cells (h % 128) key).vac=((8*g+i:Nat):Int)/\isFull (T.cells (8*g+i))=false/\(bB (h / 128) n T.cells (h % 128) key).emp=dz (T.cells (8*g+i))/\¬ (dz (T.cells (8*g+i))=true/\T.left=0)/\
   eD n T h key elem birth=(2,{T with used:=T.used+1,left:=if dz (T.cells (8*g+i)) then T.left-1 else T.left,cells:=cW T.cells (8*g+i) (.full (h % 128) key elem birth)})):=by
 have hn:=hP.n0
 by_cases h1:0<=(bB (h / 128) n T.cells (h % 128) key).slot
 ·obtain⟨g,i,hg,hi,h2,e0,b0,h3⟩:=im hn.1 h1
  refine .inl ⟨g,i,e0,b0,hg,hi,h2,h3,?_⟩
  unfold eD
  rw[if_pos h1,h2,Int.toNat_natCast,h3];rfl
 by_cases h4:(bB (h / 128) n T.cells (h % 128) key).vac < 0\/((bB (h / 128) n T.cells (h % 128) key).emp=true/\T.left=0)
 ·exact .inr (.inl ⟨by omega,h4,by unfold eD;rw[if_neg h1,if_pos h4]⟩)
 obtain⟨g,i,hg,hi,h2,h3,h5⟩:=we (home:=h / 128) (cells:=T.cells) (tag:=h % 128) (key:=key) hn.1 (by omega)
 refine .inr (.inr ⟨g,i,hg,hi,by omega,h2,h3,h5,fun hq=>h4 (.inr (by rw[h5];exact hq)),?_⟩)
 unfold eD
 rw[if_neg h1,if_neg h4,h2,Int.toNat_natCast,h5]
end Table
end
section
namespace Probe
open Go.RowKit Go.Proofs
theorem ow {m a b:Nat} (h:2 ^ m ∣ a*b) (ha:a % 2=1):2 ^ m ∣ b:=by
 have:Nat.Coprime (2 ^ m) a:=by
  apply Nat.Coprime.pow_left
  rw[Nat.coprime_iff_gcd_eq_one,Nat.gcd_comm,Nat.gcd_comm]
  rw[Nat.gcd_rec,ha]
  simp
 exact this.dvd_of_dvd_mul_left h
theorem C6 {e i j:Nat} (hi:i < 2 ^ e) (hj:j < 2 ^ e) (hij:i < j) (h:2 ^ e ∣ j*(j+1) / 2-i*(i+1) / 2):False:=by
 obtain⟨d,rfl⟩:∃ d,j=i+d:=⟨j-i,by omega⟩
 have e1:(i+d)*(i+d+1)=i*(i+1)+d*(2*i+d+1):=by
  simp only[Nat.add_mul,Nat.mul_add,Nat.mul_one,Nat.one_mul]
  rw[Nat.mul_comm i d,Nat.mul_comm d (2*i),Nat.mul_assoc 2 i d,Nat.mul_comm i d]
  omega
 have even:∀ n:Nat,n*(n+1) % 2=0:=fun n=>by
  rcases Nat.mod_two_eq_zero_or_one n with q | q <;> simp[Nat.mul_mod,Nat.add_mod,q]
 have ev1:=even i
 have ev2:=even (i+d)
 have hd2:2 ^ (e+1) ∣ d*(2*i+d+1):=by
  obtain⟨c,hc⟩:=h
  refine⟨c,?_⟩
  have:2 ^ (e+1)*c=2*(2 ^ e*c):=by rw[Nat.pow_succ,Nat.mul_comm (2 ^ e) 2,Nat.mul_assoc]
  rw[this,<- hc]
  omega
 have hp:2 ^ (e+1)=2*2 ^ e:=by rw[Nat.pow_succ];omega
 rcases Nat.mod_two_eq_zero_or_one d with q | q
 ·have hdv:2 ^ (e+1) ∣ d:=ow (a:=2*i+d+1) (by rw[Nat.mul_comm];exact hd2) (by omega)
  have:=Nat.le_of_dvd (by omega) hdv
  omega
 have hdv:=ow hd2 q
 have:=Nat.le_of_dvd (by omega) hdv
 omega
theorem xU {home:Int} {g e i j:Nat} (hg:g=2 ^ e) (hi:i < g) (hj:j < g) (h:ord home g i=ord home g j):i=j:=by
 have key:∀ a b:Nat,a < g->b < g->a < b->ord home g a=ord home g b->False:=fun a b ha hb hab hh=>by
  unfold ord at hh
  have h2:=Int.emod_emod_of_dvd
  have h3:((b*(b+1) / 2:Nat):Int)-((a*(a+1) / 2:Nat):Int)=(g:Int)*((home+((b*(b+1) / 2:Nat):Int)) / g-(home+((a*(a+1) / 2:Nat):Int)) / g):=by
   have x1:=Int.mul_ediv_add_emod (home+((a*(a+1) / 2:Nat):Int)) g
   have x2:=Int.mul_ediv_add_emod (home+((b*(b+1) / 2:Nat):Int)) g
   rw[Int.mul_sub]
   omega
  have hle:a*(a+1) / 2<=b*(b+1) / 2:=Nat.div_le_div_right (Nat.mul_le_mul (by omega) (by omega))
  have h4:((b*(b+1) / 2-a*(a+1) / 2:Nat):Int)=(g:Int)*((home+((b*(b+1) / 2:Nat):Int)) / g-(home+((a*(a+1) / 2:Nat):Int)) / g):=by
   rw[<- h3];omega
  have h5:(g:Int) ∣ ((b*(b+1) / 2-a*(a+1) / 2:Nat):Int):=⟨_,h4⟩
  have h6:g ∣ b*(b+1) / 2-a*(a+1) / 2:=Int.natCast_dvd_natCast.1 h5
  subst hg
  exact C6 ha hb hab h6
 rcases Nat.lt_trichotomy i j with q | q | q
 ·exact(key i j hi hj q h).elim
 ·exact q
 exact(key j i hj hi q h.symm).elim
theorem Bc:∀(n m:Nat) (f:Nat->Nat),(∀ k,k < n->f k < m)->(∀ i j,i < n->j < n->f i=f j->i=j)->n<=m
 | 0,m,f,_,_=>by omega
 | n+1,m,f,h1,h2=>by
  have hv:=h1 n (by omega)
  have:=Bc n (m-1) (fun k=>if f k > f n then f k-1 else f k) (fun k hk=>by
   have a:=h1 k (by omega)
   have b:f k≠f n:=fun q=>by have:=h2 k n (by omega) (by omega) q;omega
   try dsimp only
   split <;> omega) (fun i j hi hj hh=>by
   have a:f i≠f n:=fun q=>by have:=h2 i n (by omega) (by omega) q;omega
   have b:f j≠f n:=fun q=>by have:=h2 j n (by omega) (by omega) q;omega
   refine h2 i j (by omega) (by omega) ?_
   try dsimp only at hh
   split at hh <;> split at hh <;> omega)
  omega
theorem JE (n:Nat) (f:Nat->Nat) (h1:∀ k,k < n->f k < n) (h2:∀ i j,i < n->j < n->f i=f j->i=j) (v:Nat) (hv:v < n):∃ k,k < n/\f k=v:=by
 refine Classical.byContradiction fun hno=>?_
 have hne:∀ k,k < n->f k≠v:=fun k hk q=>hno ⟨k,hk,q⟩
 have:=Bc n (n-1) (fun k=>if f k > v then f k-1 else f k) (fun k hk=>by
  have a:=h1 k hk
  have b:=hne k hk
  try dsimp only
  split <;> omega) (fun i j hi hj hh=>by
  have a:=hne i hi
  have b:=hne j hj
  refine h2 i j hi hj ?_
  try dsimp only at hh
  split at hh <;> split at hh <;> omega)
 omega
theorem jn (home:Int) (g k:Nat) (h:0 < g):0<=ord home g k/\ord home g k < (g:Int):=by
 unfold ord
 exact⟨Int.emod_nonneg _ (by omega),Int.emod_lt_of_pos _ (by omega)⟩
theorem Bg {home:Int} {g e:Nat} (hg:g=2 ^ e) {v:Int} (h0:0<=v) (h1:v < g):∃ k,k < g/\ord home g k=v:=by
 have hp:0 < g:=by rw[hg];exact Nat.two_pow_pos e
 obtain⟨k,hk,h⟩:=JE g (fun k=>(ord home g k).toNat) (fun k _=>by have:=jn home g k hp;(try dsimp only);omega) (fun i j hi hj hh=>by
  have a:=jn home g i hp
  have b:=jn home g j hp
  try dsimp only at hh
  exact xU (home:=home) hg hi hj (by omega)) v.toNat (by omega)
 have a:=jn home g k hp
 try dsimp only at h
 exact⟨k,hk,by omega⟩
end Probe
end
section
namespace Bench
open Go.RowKit Go.Proofs Eng CtrlB GroupB Probe TableB TableI Table
theorem iS {home:Int} {n e g:Nat} (hn:n=2 ^ e) (hg:g < n):∃ t,t < n/\gk home n t=g:=by
 have hn0:0 < n:=by omega
 obtain⟨k,hk,h⟩:=Bg (home:=home) hn (v:=(g:Int)) (by omega) (by omega)
 rw[<- l9 hn0] at h
 exact⟨k,hk,by omega⟩
inductive zT (n:Nat) (T:Tb) (h:Int) (key elem:ByteArray) (birth:Int):Int×Tb->Prop
 | old (p:Nat) (e0:ByteArray) (b0:Int):p < 8*n->(bB (h / 128) n T.cells (h % 128) key).slot=(p:Int)->T.cells p=.full (h % 128) key e0 b0->zT n T h key elem birth (1,{T with cells:=cW T.cells p (.full (h % 128) key elem b0)})
 | no:(bB (h / 128) n T.cells (h % 128) key).slot < 0->((∀ p,p < 8*n->isFull (T.cells p)=true)\/(T.left=0/\∃ j,j < n/\(∀ i,i < j->dm (h / 128) n T.cells i=8)/\∃ i,i < 8/\dz (T.cells (8*gk (h / 128) n j+i))=true))->zT n T h key elem birth (3,T)
 | new (j i:Nat):j < n->i < 8->(bB (h / 128) n T.cells (h % 128) key).slot < 0->(∀ i,i < j->dm (h / 128) n T.cells i=8)->isFull (T.cells (8*gk (h / 128) n j+i))=false->(dz (T.cells (8*gk (h / 128) n j+i))=true->T.left≠0)->
   zT n T h key elem birth (2,{T with used:=T.used+1,left:=if dz (T.cells (8*gk (h / 128) n j+i)) then T.left-1 else T.left,cells:=cW T.cells (8*gk (h / 128) n j+i) (.full (h % 128) key elem birth)})
section
variable {n:Nat} {T:Tb} {h:Int} {key:ByteArray}
theorem qV (hn:0 < n) (h1:(bB (h / 128) n T.cells (h % 128) key).slot < 0):∃ K,K<=n/\(bB (h / 128) n T.cells (h % 128) key).vac=ez (h / 128) n T.cells K/\(bB (h / 128) n T.cells (h % 128) key).emp=fw (h / 128) n T.cells K/\(ez (h / 128) n T.cells K < 0->K=n):=by
 rcases kP (h / 128) n T.cells (h % 128) key with⟨k,_,_,hh,e⟩ | ⟨k,hk,_,_,he,e⟩ | ⟨_,e⟩
 ·rw[e] at h1;dsimp only at h1;omega
 ·refine⟨k+1,by omega,by rw[e],by rw[e],?_⟩
  intro q
  have:=C1 (vac_no q k (by omega))
  omega
 exact⟨n,Nat.le_refl _,by rw[e],by rw[e],fun _=>rfl⟩
theorem wv (hn:0 < n) (hperm:∀ g,g < n->∃ j,j < n/\gk (h / 128) n j=g) (elem:ByteArray) (birth:Int):zT n T h key elem birth (eD n T h key elem birth):=by
 by_cases h1:0<=(bB (h / 128) n T.cells (h % 128) key).slot
 ·obtain⟨g,i,hg,hi,h2,e0,b0,h3⟩:=im hn h1
  have:eD n T h key elem birth=(1,{T with cells:=cW T.cells (8*g+i) (.full (h % 128) key elem b0)}):=by
   unfold eD
   rw[if_pos h1,h2,Int.toNat_natCast,h3];rfl
  rw[this]
  exact .old (8*g+i) e0 b0 (by omega) h2 h3
 obtain⟨K,hK,hv,he,hl⟩:=qV (T:=T) (h:=h) (key:=key) hn (by omega)
 by_cases h4:(bB (h / 128) n T.cells (h % 128) key).vac < 0\/((bB (h / 128) n T.cells (h % 128) key).emp=true/\T.left=0)
 ·have:eD n T h key elem birth=(3,T):=by unfold eD;rw[if_neg h1,if_pos h4]
  rw[this]
  refine .no (by omega) ?_
  rcases h4 with h4 | h4
  ·left
   intro p hp
   rw[hv] at h4
   have hKn:=hl h4
   subst hKn
   obtain⟨j,hj,hg⟩:=hperm (p / 8) (by omega)
   have h5:=vac_no h4 j hj
   unfold dm at h5
   rw[iy] at h5
   have h6:=h5 (p % 8) (by omega)
   cases q:isFull (T.cells p) with
   | true=>rfl
   | false=>
    rw[hg,show iD (ck T.cells (p / 8)) (p % 8)=true from sv.2 (by show isFull (T.cells (8*(p / 8)+p % 8))=false;rw[show 8*(p / 8)+p % 8=p by omega];exact q)] at h6
    cases h6
  by_cases hvn:ez (h / 128) n T.cells K < 0
  ·exfalso
   have:fw (h / 128) n T.cells K=false:=by unfold fw;rw[mZ.1 hvn]
   rw[he,this] at h4
   exact Bool.noConfusion h4.1
  obtain⟨j,hj,h5,h6,h7,h8⟩:=vU hvn
  refine .inr ⟨h4.2,j,by omega,h6,_,h5,?_⟩
  have h9:=h4.1
  rw[he,h8] at h9
  have h10:=s9.1 h9
  show dz (ck T.cells (gk (h / 128) n j) _)=true
  rw[h10];rfl
 obtain⟨j,hj,h5,h6,h7,h8⟩:=vU (home:=h / 128) (n:=n) (cells:=T.cells) (k:=K) (by rw[<- hv];omega)
 have hfull:isFull (T.cells (8*gk (h / 128) n j+dm (h / 128) n T.cells j))=false:=sv.1 (mc h5)
 have hemp:(bB (h / 128) n T.cells (h % 128) key).emp=dz (T.cells (8*gk (h / 128) n j+dm (h / 128) n T.cells j)):=by
  rw[he,h8]
  show eh (ck T.cells (gk (h / 128) n j)) (dm (h / 128) n T.cells j)=dz (ck T.cells (gk (h / 128) n j) (dm (h / 128) n T.cells j))
  unfold eh dz
  cases ck T.cells (gk (h / 128) n j) (dm (h / 128) n T.cells j) <;> rfl
 have hvn:(bB (h / 128) n T.cells (h % 128) key).vac.toNat=8*gk (h / 128) n j+dm (h / 128) n T.cells j:=by rw[hv,h7];omega
 have:eD n T h key elem birth=(2,{T with used:=T.used+1,left:=if dz (T.cells (8*gk (h / 128) n j+dm (h / 128) n T.cells j)) then T.left-1 else T.left,cells:=cW T.cells (8*gk (h / 128) n j+dm (h / 128) n T.cells j) (.full (h % 128) key elem birth)}):=by
  unfold eD
  rw[if_neg h1,if_neg h4,hvn,hemp]
 rw[this]
 exact .new j _ (by omega) h5 (by omega) h6 hfull fun q q2=>h4 (.inr ⟨by rw[hemp];exact q,q2⟩)
inductive Ae (n:Nat) (T:Tb) (h:Int) (key:ByteArray):Bool×Tb->Prop
 | no:(bB (h / 128) n T.cells (h % 128) key).slot < 0->Ae n T h key (false,T)
 | passed (p:Nat) (e0:ByteArray) (b0:Int):p < 8*n->(bB (h / 128) n T.cells (h % 128) key).slot=(p:Int)->T.cells p=.full (h % 128) key e0 b0->(∀ q,q / 8=p / 8->T.cells q≠.empty)->
   Ae n T h key (true,{T with used:=T.used-1,cells:=cW T.cells p .deleted})
 | free (p q:Nat) (e0:ByteArray) (b0:Int):p < 8*n->(bB (h / 128) n T.cells (h % 128) key).slot=(p:Int)->T.cells p=.full (h % 128) key e0 b0->q / 8=p / 8->T.cells q=.empty->
   Ae n T h key (true,{T with used:=T.used-1,left:=T.left+1,cells:=cW T.cells p .empty})
theorem p8 {cells:Nat->Cell} {p:Nat}:dK cells p=true↔∀ q,q / 8=p / 8->cells q≠.empty:=by
 unfold dK
 rw[decide_eq_true_iff,List.length_eq_zero_iff]
 constructor
 ·intro e q hq hc
  have:q % 8∈bE (eh (ck cells (p / 8))):=dB.2 ⟨by omega,s9.2 (by show cells (8*(p / 8)+q % 8)=_;rw[show 8*(p / 8)+q % 8=q by omega];exact hc)⟩
  rw[e] at this;cases this
 intro e
 rw[List.eq_nil_iff_forall_not_mem]
 intro i hi
 obtain⟨h1,h2⟩:=dB.1 hi
 exact e (8*(p / 8)+i) (by omega) (s9.1 h2)
theorem I4 (hn:0 < n):Ae n T h key (nw n T h key):=by
 by_cases h1:0<=(bB (h / 128) n T.cells (h % 128) key).slot
 ·obtain⟨g,i,hg,hi,h2,e0,b0,h3⟩:=im hn h1
  unfold nw
  rw[if_pos h1,h2,Int.toNat_natCast]
  cases q:dK T.cells (8*g+i) with
  | true=>exact .passed (8*g+i) e0 b0 (by omega) h2 h3 (p8.1 q)
  | false=>
   have:∃ q,q / 8=(8*g+i) / 8/\T.cells q=.empty:=by
    apply Classical.byContradiction
    intro hno
    rw[p8.2 fun q hq hc=>hno ⟨q,hq,hc⟩] at q;cases q
   obtain⟨q,hq,hc⟩:=this
   exact .free (8*g+i) q e0 b0 (by omega) h2 h3 hq hc
 have:nw n T h key=(false,T):=by unfold nw;rw[if_neg h1]
 rw[this];exact .no (by omega)
end
section
variable {n:Nat} {T T':Tb} {h:Int} {key elem:ByteArray} {birth out:Int} {b:Bool}
def Jv (n:Nat) (T:Tb):Nat:=dX isFull T.cells (8*n)+dX isDel T.cells (8*n)
end
section
variable {n:Nat} {T T':Tb} {H:ByteArray->Int} {key elem:ByteArray} {birth out:Int} {b:Bool}
end
structure q8 where
 key:ByteArray
 elem:ByteArray
 hash:Int
 birth:Int
 slot:Nat
def q8.cells (v:q8):List Value:=[.string v.key,.string v.elem,.int .u64 v.hash,.int .i64 v.birth,.int .i64 (v.slot:Nat)]
def q8.cell (v:q8):Cell:=.full (v.hash % 128) v.key v.elem v.birth
structure BI (n:Nat) (H:ByteArray->Int) (K:ByteArray->Prop) (T:Tb) (lives:List q8) (added:Nat):Prop where
 n0:0 < n
 dX:Jf n T
 key:Je n H T.cells
 there:∀ v∈lives,v.slot < 8*n/\T.cells v.slot=v.cell/\v.hash=H v.key
 all:∀ i,i < 8*n->isFull (T.cells i)=true->∃ v∈lives,v.slot=i
 uniq:∀(i j:Nat) (u v:q8),lives[i]?=some u->lives[j]?=some v->u.slot=v.slot->i=j
 used:T.used=(lives.length:Int)
 added:Jv n T<=added
 isK:∀ v∈lives,K v.key
section
variable {n:Nat} {T T':Tb} {H:ByteArray->Int} {K:ByteArray->Prop} {lives:List q8} {added:Nat} {key elem:ByteArray} {out:Int} {b:Bool}
end
theorem FK {home:Int} {n e a b:Nat} (hn:n=2 ^ e) (ha:a < n) (hb:b < n) (h:gk home n a=gk home n b):a=b:=by
 have hn0:0 < n:=by omega
 refine xU (home:=home) hn ha hb ?_
 rw[<- l9 hn0,<- l9 hn0,h]
end Bench
end
section
namespace Probe
open Go.RowKit Go.Proofs Eng Ty Bits
def my (s:Int):Int:=if powB s 8 65536 then s-s / 8 else 0
theorem powB_le {n lo hi:Int} (h:powB n lo hi=true):lo<=n/\n<=hi:=by simp only[powB,Bool.and_eq_true,decide_eq_true_eq] at h;omega
theorem Eb (s:Int):aK Tryz.prog 134 #[.int .i64 s] [] (fun v L=>v=.int .i64 (my s)/\L= []):=by
 refine au ER Tryz.func134 rfl rfl rfl fun Fr w0=>aZ ?_
 refine sr<|ar O O<|lc<|al<|sr<|mv O O<|bF O O O (power_ok _ _ _ (by omega) (by omega)) ?_
 refine ad O (db O (cy ·))<|lc<|aG O (fun h=>?_) fun h=>?_
 ·refine sr<|ar O O<|lc<|rt<|cN O ([]) (.tmp rfl) ?_
  exact⟨by unfold my;rw[show powB s 8 65536=false by simpa using h];rfl,rfl⟩
 have hb:=powB_le (show powB s 8 65536=true by simpa using h)
 refine aq<|nz<|mv O O<|mv O O<|ad O (eT O O) ?_
 refine ad O (eJ O O) ?_
 refine ar O O<|lc<|rt<|cN O ([]) (.tmp rfl) ?_
 exact⟨by unfold my;rw[show powB s 8 65536=true by simpa using h];rfl,rfl⟩
theorem pX (k:Nat):(2:Int) ^ (k+1)=2*2 ^ k:=by rw[Int.pow_succ];omega
theorem uz (k:Nat):(1:Int)<=2 ^ k:=by have:=cr k;have:=Nat.two_pow_pos k;omega
theorem na {j k:Nat} (h:j<=k):(2:Int) ^ j<=2 ^ k:=by
 have a:=cr j;have b:=cr k
 have:2 ^ j<=2 ^ k:=Nat.pow_le_pow_right (by decide) h
 omega
theorem Ev (n most:Int) (K:Nat) (hK:K<=20) (hm:most=2 ^ K):powB n 1 most=true↔∃ k:Nat,k<=K/\n=2 ^ k:=by
 have:=powB_iff n 1 0 K most (by decide) hm hK
 exact this.trans ⟨fun⟨k,_,a,b⟩=>⟨k,a,b⟩,fun⟨k,a,b⟩=>⟨k,by omega,a,b⟩⟩
theorem yH (n most:Int) (K:Nat) (hK:K<=20) (hm:most=2 ^ K):
  aK Tryz.prog 246 #[.int .i64 n,.int .i64 most] [] (fun v L=>v=.bool (powB n 1 most)/\L= []):=by
 have hi:=Ev n most K hK hm
 have pK:=na hK
 refine au Hn Tryz.func246 rfl rfl rfl fun Fr w0=>aZ ?_
 refine sr<|ar O O<|lc<|al<|sr<|ar O O<|lc<|aB ?_
 refine bK (fun j:Nat=>j<=K+1/\∀ i:Nat,i < j->n≠2 ^ i) (fun j=>[(0,.int .i64 n),(1,.int .i64 most),(5,.int .i64 (2 ^ j))]) (fun _=>Fr) (fun j=>K+1-j) 0 ⟨by omega,by omega⟩ ⟨rfl,rfl,rfl,trivial⟩ (dS.refl _) ?_
 rintro j ⟨hj,hno⟩
 have pj:=na hj
 have pj1:=uz j
 rw[pX] at pj
 refine al<|sr<|mv O O<|mv O O<|ad O (qi O O (iB ·))<|lc<|aG O (fun h=>?_) fun h=>?_
 ·refine aq<|an<|al<|aB<|sr<|mv O O<|mv O O<|ad O (qi O O (bN ·))<|lc ?_
  have hjK:j<=K:=by
   have:¬ K+1<=j:=fun q=>by
    have:=na q
    rw[pX] at this
    have:=uz K
    omega
   omega
  refine aG O (fun q=>?_) fun q=>?_
  ·refine sr<|ar O O<|lc<|rt<|cN O ([]) (.tmp rfl) ?_
   exact⟨by rw[show powB n 1 most=true from hi.2 ⟨j,hjK,q.symm⟩],rfl⟩
  refine aq<|bz<|an<|aD<|mv O O<|ad O (dA O O) ?_
  refine ar O O<|ai ?_
  apply aU (j+1)
  ·exact⟨by omega,fun i hij=>by by_cases e:i=j;(rw[e];exact fun z=>q z.symm);exact hno i (by omega)⟩
  ·omega
  ·exact⟨rfl,rfl,by rw[pX,Int.mul_comm];rfl,trivial⟩
  exact en
 refine xt O<|nz<|ar O O<|lc<|rt<|cN O ([]) (.tmp rfl) ?_
 exact⟨by rw[show powB n 1 most=false by rw[Bool.eq_false_iff];intro z;obtain⟨k,hk,e⟩:=hi.1 z;exact hno k (by have:¬ j<=k:=fun z=>(by have:=na z;have:=na hk;omega);omega) e],rfl⟩
end Probe
end
section
namespace Probe
open Go.RowKit Go.Proofs Eng Ty
def sq (home:Int) (g k:Nat):List Value:=(List.range k).map fun j=>.int .i64 (ord home g j)
theorem yx (home:Int) (g k:Nat):sq home g k ++ [.int .i64 (ord home g k)]=sq home g (k+1):=by simp[sq,List.range_succ]
def qZ (home:Int) (g k:Nat):Int:=(home+((k*(k-1) / 2:Nat):Int)) % (g:Int)
theorem zF (home:Int) (g k:Nat):qZ home g (k+1)=ord home g k:=by
 unfold qZ ord
 rw[show(k+1)*(k+1-1)=k*(k+1) by rw[Nat.add_sub_cancel,Nat.mul_comm]]
theorem Co (home:Int) (g k:Nat) (h:0 < g):(qZ home g k+k) % (g:Int)=ord home g k:=by
 unfold qZ ord
 rw[Int.emod_add_emod]
 congr 1
 have:k*(k+1)=k*(k-1)+2*k:=by
  cases k with
  | zero=>rfl
  | succ k=>rw[Nat.add_sub_cancel];simp only[Nat.add_mul,Nat.mul_add];omega
 omega
theorem xd (home:Int) (g k:Nat) (h:0 < g):0<=qZ home g k/\qZ home g k < (g:Int):=by
 unfold qZ
 exact⟨Int.emod_nonneg _ (by omega),Int.emod_lt_of_pos _ (by omega)⟩
theorem yP (home groups:Int) (hh:0<=home/\home < 18446744073709551616):
  aK Tryz.prog 237 #[.int .u64 home,.int .i64 groups] [] (fun v L=>L= [aF 3 1 v (grp groups) (sq home (grp groups) (grp groups))]):=by
 have hle:=BO groups
 refine au Hw Tryz.func237 rfl rfl rfl fun Fr w0=>aZ ?_
 refine sr<|ar O O<|lz<|ar O O<|lc<|al<|sr<|mv O O<|bF O O O (yH _ 8192 13 (by omega) (by decide)) ?_
 refine ad O (db O (cy ·))<|lc<|aG O (fun h=>?_) fun h=>?_
 ·refine sr<|mv O O<|ar O O<|lc<|rt ?_
  have hz:=BN (groups:=groups) (by simpa using h)
  apply aR (.inl rfl) ([aF 3 1 (.slice none 0 0) 0 []])
  ·apply cP O
   exact .tmp rfl
  ·rw[hz];rfl
  exact fun w h=>gJ h
 obtain⟨hgi,e,he,hge⟩:=oV (groups:=groups) (by simpa using h)
 have hpos:0 < 2 ^ e:=Nat.two_pow_pos e
 have hmod:=Int.emod_nonneg home (by omega:groups≠0)
 have hmod2:=Int.emod_lt_of_pos home (by omega:0 < groups)
 refine aq<|nz<|mv O O<|mv O O<|ad O (km O j5 fv) ?_
 refine ad O (iQ O O) ?_
 refine ad O (km O fv j5) ?_
 refine ar O O<|lc<|al<|sr<|ar O O<|lc<|aB ?_
 have ha0:home % groups=qZ home (grp groups) 0:=by unfold qZ;rw[<- hgi];simp
 rw[ha0]
 refine bK (fun x:Nat×Value=>x.1<=grp groups) (fun x=>[(0,.int .u64 home),(1,.int .i64 groups),(5,x.2),(6,.int .i64 (qZ home (grp groups) x.1)),(7,.int .i64 x.1)]) (fun x=>aF 3 1 x.2 x.1 (sq home (grp groups) x.1)::Fr) (fun x=>grp groups-x.1) (0,.slice none 0 0) (by omega) ⟨rfl,rfl,rfl,rfl,rfl,trivial⟩ (fun w h=>gJ h) ?_
 rintro⟨k,v⟩ hk
 dsimp only at hk ⊢
 have hr:=xd home (grp groups) k (by omega)
 have hst:=Co home (grp groups) k (by omega)
 rw[<- hgi] at hst
 have hob:=jn home (grp groups) k (by omega)
 refine al<|sr<|mv O O<|mv O O<|ad O (qi O O (bj ·))<|lc<|aG O (fun m=>?_) fun m=>?_
 ·refine aq<|an<|al<|aB<|sr<|mv O O<|mv O O<|ad O (bn O O) ?_
  refine mv O O<|ad O (iQ O O) ?_
  refine ar O O<|lr<|mv O O<|mv O O ?_
  refine bR [_] rfl rfl bI aN sj rfl rfl rfl rfl (fun b29=>?_)
  apply e9 (sz:=1) rfl rfl rfl bI E7 rfl rfl
  ·exact tk
  ·exact tk
  ·rfl
  ·rfl
  ·simp only[maxLen];omega
  ·omega
  intro v30
  refine ar O O<|ai<|bz<|an<|aD<|mv O O<|ad O (bn O O) ?_
  refine ar O O<|ai ?_
  rw[hst]
  have hw:=yx home (grp groups) k
  change TN _ _ _ _ (aF _ _ _ _ (sq home (grp groups) k ++ [.int .i64 (ord home (grp groups) k)])::_) _ _
  rw[hw]
  apply aU ((k+1,v30))
  ·exact(show k+1<=grp groups by omega)
  ·(dsimp only;omega)
  ·exact⟨rfl,rfl,rfl,by dsimp only;rw[zF];rfl,rfl,trivial⟩
  exact en
 refine xt O<|nz<|mv O O<|ar O O<|lc<|rt ?_
 obtain rfl:k=grp groups:=by omega
 refine cN O ([_]) (.tmp rfl) ?_
 rfl
theorem wm (home groups:Int) (hh:0<=home/\home < 18446744073709551616):
  aK Tryz.prog 237 #[.int .u64 home,.int .i64 groups] [] (fun v L=>L= [aF 3 1 v (grp groups) (sq home (grp groups) (grp groups))]/\sC v (grp groups)):=
 (yP home groups hh).know fun v L h Fr w hs=>by subst h;exact(lZ hs).2
end Probe
end
section
namespace Grow
open Go.RowKit Go.Proofs Eng Ty Probe
def gP (us sl dp lim:Int):Int:=
 if my sl=0\/us < 0\/my sl < us\/dp < 0\/6 < dp then 0 else if 2*us<=my sl then 1 else if 2*sl<=lim\/dp=6 then 2 else 3
theorem Bq (sl:Int):my sl=0\/(8<=sl/\sl<=65536/\0<=my sl/\my sl<=65536):=by
 unfold my
 cases h:powB sl 8 65536 with
 | false=>exact .inl rfl
 | true=>
  have:=powB_le h
  right
  simp only[if_true]
  omega
theorem Af (us sl lf dp pn nx gp lim:Int) (rb:Bool) (hl:-9223372036854775808<=lim/\lim<=9223372036854775807):aK Tryz.prog 57 #[.agg #[.int .i64 us,.int .i64 sl,.int .i64 lf,.int .i64 dp,.int .i64 pn,.int .i64 nx,.bool rb,.int .i64 gp],.int .i64 lim] [] (fun v L=>v=.int .i64 (gP us sl dp lim)/\L= []):=by
 have hm:=Bq sl
 refine au Kb Tryz.func57 rfl rfl rfl fun Fr w0=>aZ ?_
 refine sr<|bw O O fun b2=>ar O O<|lz<|ad O (aE 1 O bP O O aN)<|ad O (aI O aX) ?_
 refine bF O O O (Eb sl) ?_
 refine ar O O<|lc<|al<|aB<|sr<|mv O O<|ad O (qi O O (bN ·))<|mv O O<|bQ (t:=12) rfl (fun c1=>?_) fun c1=>?_
 ·refine ax O O O O<|ax O O O O<|ax O O O O<|ad O (aS O O)<|mv O O<|ax O O O O<|ax O O O O<|ax O O O O<|ax O O O O<|ad O (aS O O)<|mv O O<|ax O O O O<|ax O O O O<|ax O O O O<|ad O (aS O O)<|mv O O<|ax O O O O<|ax O O O O<|ax O O O O<|ad O (aS O O)<|ar O O<|lc<|bk O<|sr<|ar O O<|lc<|rt<|cN O ([]) (.tmp rfl) ?_
  exact⟨by unfold gP;rw[if_pos (.inl c1)],rfl⟩
 refine aA O O<|ad O (aE 0 O bP O O aN)<|aA O O<|ad O (aI O aX) ?_
 refine aA O O<|ad O (qi O O (bj ·))<|ad O (aS O O)<|mv O O<|bQ (t:=17) rfl (fun c2=>?_) fun c2=>?_
 ·refine ax O O O O<|ax O O O O<|ax O O O O<|ax O O O O<|ad O (aS O O)<|mv O O<|ax O O O O<|ax O O O O<|ax O O O O<|ad O (aS O O)<|mv O O<|ax O O O O<|ax O O O O<|ax O O O O<|ad O (aS O O)<|ar O O<|lc<|bk O<|sr<|ar O O<|lc<|rt<|cN O ([]) (.tmp rfl) ?_
  exact⟨by unfold gP;rw[if_pos (by omega)],rfl⟩
 refine aA O O<|ad O (aE 0 O bP O O aN)<|aA O O<|ad O (aI O aX) ?_
 refine aA O O<|mv O O<|aA O O<|ad O (qi O O (di ·))<|ad O (aS O O)<|mv O O<|bQ (t:=23) rfl (fun c3=>?_) fun c3=>?_
 ·refine ax O O O O<|ax O O O O<|ax O O O O<|ad O (aS O O)<|mv O O<|ax O O O O<|ax O O O O<|ax O O O O<|ad O (aS O O)<|ar O O<|lc<|bk O<|sr<|ar O O<|lc<|rt<|cN O ([]) (.tmp rfl) ?_
  exact⟨by unfold gP;rw[if_pos (by omega)],rfl⟩
 refine aA O O<|ad O (aE 3 O bP O O aN)<|aA O O<|ad O (aI O aX) ?_
 refine aA O O<|ad O (qi O O (bj ·))<|ad O (aS O O)<|mv O O<|bQ (t:=28) rfl (fun c4=>?_) fun c4=>?_
 ·refine ax O O O O<|ax O O O O<|ax O O O O<|ad O (aS O O)<|ar O O<|lc<|bk O<|sr<|ar O O<|lc<|rt<|cN O ([]) (.tmp rfl) ?_
  exact⟨by unfold gP;rw[if_pos (by omega)],rfl⟩
 refine aA O O<|ad O (aE 3 O bP O O aN)<|aA O O<|ad O (aI O aX) ?_
 refine aA O O<|ad O (qi O O (di ·))<|ad O (aS O O)<|ar O O<|lc<|aG O (fun c5=>?_) fun c5=>?_
 ·refine sr<|ar O O<|lc<|rt<|cN O ([]) (.tmp rfl) ?_
  exact⟨by unfold gP;rw[if_pos (by omega)],rfl⟩
 refine sr<|ad O (aE 0 O bP O O aN)<|ad O (aI O aX) ?_
 refine ad O (dA O O) ?_
 refine mv O O<|ad O (qi O O (iB ·))<|ar O O<|lc<|aG O (fun c6=>?_) fun c6=>?_
 ·refine sr<|ar O O<|lc<|rt<|cN O ([]) (.tmp rfl) ?_
  exact⟨by unfold gP;rw[if_neg (by omega),if_pos c6],rfl⟩
 refine sr<|ad O (aE 1 O bP O O aN)<|ad O (aI O aX) ?_
 refine ad O (dA O O) ?_
 refine mv O O<|ad O (qi O O (iB ·))<|mv O O<|bQ (t:=45) rfl (fun c7=>?_) fun c7=>?_
 ·refine ax O O O O<|ax O O O O<|ax O O O O<|ad O (aS O O)<|ar O O<|lc<|bk O<|sr<|ar O O<|lc<|rt<|cN O ([]) (.tmp rfl) ?_
  exact⟨by unfold gP;rw[if_neg (by omega),if_neg c6,if_pos (.inl c7)],rfl⟩
 refine aA O O<|ad O (aE 3 O bP O O aN)<|aA O O<|ad O (aI O aX) ?_
 refine aA O O<|ad O (qi O O (bN ·))<|ad O (aS O O)<|ar O O<|lc<|aG O (fun c8=>?_) fun c8=>?_
 ·refine sr<|ar O O<|lc<|rt<|cN O ([]) (.tmp rfl) ?_
  exact⟨by unfold gP;rw[if_neg (by omega),if_neg c6,if_pos (.inr c8)],rfl⟩
 refine aq<|bz<|nz<|ar O O<|lc<|rt<|cN O ([]) (.tmp rfl) ?_
 exact⟨by unfold gP;rw[if_neg (by omega),if_neg c6,if_neg (by omega)],rfl⟩
end Grow
end
end Go.Proofs.YthkajgkagnenbaaGreatDoor
