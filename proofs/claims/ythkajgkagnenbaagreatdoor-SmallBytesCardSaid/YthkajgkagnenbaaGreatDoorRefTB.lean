import Derived.Test.YthkajgkagnenbaaGreatDoorRef03
import Derived.Test.YthkajgkagnenbaaGreatDoorSmallC
import Derived.Test.YthkajgkagnenbaaGreatDoorTableN
set_option linter.unusedVariables false
set_option linter.unusedSimpArgs false
set_option linter.unusedSectionVars false
namespace Go.Proofs.YthkajgkagnenbaaGreatDoor
section
namespace Probe
open Go.RowKit Go.Proofs Eng Bits
theorem nE {m a b:Nat} (h:2 ^ m ∣ a*b) (ha:a % 2=1):2 ^ m ∣ b:=by
 have:Nat.Coprime (2 ^ m) a:=by
  apply Nat.Coprime.pow_left
  rw[Nat.coprime_iff_gcd_eq_one,Nat.gcd_comm,Nat.gcd_comm]
  rw[Nat.gcd_rec,ha]
  simp
 exact this.dvd_of_dvd_mul_left h
theorem BA {e i j:Nat} (hi:i < 2 ^ e) (hj:j < 2 ^ e) (hij:i < j) (h:2 ^ e ∣ j*(j+1) / 2-i*(i+1) / 2):False:=by
 obtain⟨d,rfl⟩:∃ d,j=i+d:=⟨j-i,by omega⟩
 have e1:(i+d)*(i+d+1)=i*(i+1)+d*(2*i+d+1):=by
  simp only[Nat.add_mul,Nat.mul_add,Nat.mul_one,Nat.one_mul]
  rw[Nat.mul_comm i d,Nat.mul_comm d (2*i),Nat.mul_assoc 2 i d,Nat.mul_comm i d]
  omega
 have even:∀ n:Nat,n*(n+1) % 2=0:=fun n=>by
  rcases Nat.mod_two_eq_zero_or_one n with q | q <;> simp[Nat.mul_mod,Nat.add_mod,q]
 have ev1:=even i
 have ev2:=even (i+d)
 have hd2:2 ^ (e+1) ∣ d*(2*i+d+1):=by
  obtain⟨c,hc⟩:=h
  refine⟨c,?_⟩
  have:2 ^ (e+1)*c=2*(2 ^ e*c):=by rw[Nat.pow_succ,Nat.mul_comm (2 ^ e) 2,Nat.mul_assoc]
  rw[this,← hc]
  omega
 have hp:2 ^ (e+1)=2*2 ^ e:=by rw[Nat.pow_succ];omega
 rcases Nat.mod_two_eq_zero_or_one d with q | q
 ·have hdv:2 ^ (e+1) ∣ d:=nE (a:=2*i+d+1) (by rw[Nat.mul_comm];exact hd2) (by omega)
  have:=Nat.le_of_dvd (by omega) hdv
  omega
 have hdv:=nE hd2 q
 have:=Nat.le_of_dvd (by omega) hdv
 omega
theorem BU {home:Int} {g e i j:Nat} (hg:g=2 ^ e) (hi:i < g) (hj:j < g) (h:ord home g i=ord home g j):i=j:=by
 have key:∀ a b:Nat,a < g→b < g→a < b→ord home g a=ord home g b→False:=fun a b ha hb hab hh=>by
  unfold ord at hh
  have h2:=Int.emod_emod_of_dvd
  have h3:((b*(b+1) / 2:Nat):Int)-((a*(a+1) / 2:Nat):Int)=(g:Int)*((home+((b*(b+1) / 2:Nat):Int)) / g-(home+((a*(a+1) / 2:Nat):Int)) / g):=by
   have x1:=Int.mul_ediv_add_emod (home+((a*(a+1) / 2:Nat):Int)) g
   have x2:=Int.mul_ediv_add_emod (home+((b*(b+1) / 2:Nat):Int)) g
   rw[Int.mul_sub]
   omega
  have hle:a*(a+1) / 2≤b*(b+1) / 2:=Nat.div_le_div_right (Nat.mul_le_mul (by omega) (by omega))
  have h4:((b*(b+1) / 2-a*(a+1) / 2:Nat):Int)=(g:Int)*((home+((b*(b+1) / 2:Nat):Int)) / g-(home+((a*(a+1) / 2:Nat):Int)) / g):=by
   rw[← h3];omega
  have h5:(g:Int) ∣ ((b*(b+1) / 2-a*(a+1) / 2:Nat):Int):=⟨_,h4⟩
  have h6:g ∣ b*(b+1) / 2-a*(a+1) / 2:=Int.natCast_dvd_natCast.1 h5
  subst hg
  exact BA ha hb hab h6
 rcases Nat.lt_trichotomy i j with q | q | q
 ·exact(key i j hi hj q h).elim
 ·exact q
 exact(key j i hj hi q h.symm).elim
theorem zv:∀(n m:Nat) (f:Nat→Nat),(∀ k,k < n→f k < m)→(∀ i j,i < n→j < n→f i=f j→i=j)→n≤m
 | 0,m,f,_,_=>by omega
 | n+1,m,f,h1,h2=>by
  have hv:=h1 n (by omega)
  have:=zv n (m-1) (fun k=>if f k > f n then f k-1 else f k) (fun k hk=>by
   have a:=h1 k (by omega)
   have b:f k≠f n:=fun q=>by have:=h2 k n (by omega) (by omega) q;omega
   try dsimp only
   split <;> omega) (fun i j hi hj hh=>by
   have a:f i≠f n:=fun q=>by have:=h2 i n (by omega) (by omega) q;omega
   have b:f j≠f n:=fun q=>by have:=h2 j n (by omega) (by omega) q;omega
   refine h2 i j (by omega) (by omega) ?_
   try dsimp only at hh
   split at hh <;> split at hh <;> omega)
  omega
theorem Hm (n:Nat) (f:Nat→Nat) (h1:∀ k,k < n→f k < n) (h2:∀ i j,i < n→j < n→f i=f j→i=j) (v:Nat) (hv:v < n):∃ k,k < n∧f k=v:=by
 refine Classical.byContradiction fun hno=>?_
 have hne:∀ k,k < n→f k≠v:=fun k hk q=>hno ⟨k,hk,q⟩
 have:=zv n (n-1) (fun k=>if f k > v then f k-1 else f k) (fun k hk=>by
  have a:=h1 k hk
  have b:=hne k hk
  try dsimp only
  split <;> omega) (fun i j hi hj hh=>by
  have a:=hne i hi
  have b:=hne j hj
  refine h2 i j hi hj ?_
  try dsimp only at hh
  split at hh <;> split at hh <;> omega)
 omega
theorem jH (home:Int) (g k:Nat) (h:0 < g):0≤ord home g k∧ord home g k < (g:Int):=by
 unfold ord
 exact⟨Int.emod_nonneg _ (by omega),Int.emod_lt_of_pos _ (by omega)⟩
theorem zA {home:Int} {g e:Nat} (hg:g=2 ^ e) {v:Int} (h0:0≤v) (h1:v < g):∃ k,k < g∧ord home g k=v:=by
 have hp:0 < g:=by rw[hg];exact Nat.two_pow_pos e
 obtain⟨k,hk,h⟩:=Hm g (fun k=>(ord home g k).toNat) (fun k _=>by have:=jH home g k hp;(try dsimp only);omega) (fun i j hi hj hh=>by
  have a:=jH home g i hp
  have b:=jH home g j hp
  try dsimp only at hh
  exact BU (home:=home) hg hi hj (by omega)) v.toNat (by omega)
 have a:=jH home g k hp
 try dsimp only at h
 exact⟨k,hk,by omega⟩
end Probe
end
section
set_option maxRecDepth 100000
namespace Bench
open Go.RowKit Go.Proofs Eng Bits Layout Mem CtrlB GroupB Probe TableB TableI Table
theorem wu {home:Int} {n e g:Nat} (hn:n=2 ^ e) (hg:g < n):∃ t,t < n∧gk home n t=g:=by
 have hn0:0 < n:=by omega
 obtain⟨k,hk,h⟩:=zA (home:=home) hn (v:=(g:Int)) (by omega) (by omega)
 rw[← wv hn0] at h
 exact⟨k,hk,by omega⟩
inductive A3 (n:Nat) (T:Tb) (h:Int) (key elem:ByteArray) (birth:Int):Int×Tb→Prop
 | old (p:Nat) (e0:ByteArray) (b0:Int):p < 8*n→(br (h / 128) n T.cells (h % 128) key).slot=(p:Int)→T.cells p=.full (h % 128) key e0 b0→A3 n T h key elem birth (1,{T with cells:=bT T.cells p (.full (h % 128) key elem b0)})
 | no:(br (h / 128) n T.cells (h % 128) key).slot < 0→((∀ p,p < 8*n→isFull (T.cells p)=true)∨(T.left=0∧∃ j,j < n∧(∀ i,i < j→cM (h / 128) n T.cells i=8)∧∃ i,i < 8∧ed (T.cells (8*gk (h / 128) n j+i))=true))→A3 n T h key elem birth (3,T)
 | new (j i:Nat):j < n→i < 8→(br (h / 128) n T.cells (h % 128) key).slot < 0→(∀ i,i < j→cM (h / 128) n T.cells i=8)→isFull (T.cells (8*gk (h / 128) n j+i))=false→(ed (T.cells (8*gk (h / 128) n j+i))=true→T.left≠0)→
   A3 n T h key elem birth (2,{T with used:=T.used+1,left:=if ed (T.cells (8*gk (h / 128) n j+i)) then T.left-1 else T.left,cells:=bT T.cells (8*gk (h / 128) n j+i) (.full (h % 128) key elem birth)})
section
variable {n:Nat} {T:Tb} {h:Int} {key:ByteArray}
theorem pK (hn:0 < n) (h1:(br (h / 128) n T.cells (h % 128) key).slot < 0):∃ K,K≤n∧(br (h / 128) n T.cells (h % 128) key).vac=dL (h / 128) n T.cells K∧(br (h / 128) n T.cells (h % 128) key).emp=eG (h / 128) n T.cells K∧(dL (h / 128) n T.cells K < 0→K=n):=by
 rcases jD (h / 128) n T.cells (h % 128) key with⟨k,_,_,hh,e⟩ | ⟨k,hk,_,_,he,e⟩ | ⟨_,e⟩
 ·rw[e] at h1;dsimp only at h1;omega
 ·refine⟨k+1,by omega,by rw[e],by rw[e],?_⟩
  intro q
  have:=By (vac_no q k (by omega))
  omega
 exact⟨n,Nat.le_refl _,by rw[e],by rw[e],fun _=>rfl⟩
theorem EP (hn:0 < n) (hperm:∀ g,g < n→∃ j,j < n∧gk (h / 128) n j=g) (elem:ByteArray) (birth:Int):A3 n T h key elem birth (eR n T h key elem birth):=by
 by_cases h1:0≤(br (h / 128) n T.cells (h % 128) key).slot
 ·obtain⟨g,i,hg,hi,h2,e0,b0,h3⟩:=ke hn h1
  have:eR n T h key elem birth=(1,{T with cells:=bT T.cells (8*g+i) (.full (h % 128) key elem b0)}):=by
   unfold eR
   rw[if_pos h1,h2,Int.toNat_natCast,h3];rfl
  rw[this]
  exact .old (8*g+i) e0 b0 (by omega) h2 h3
 obtain⟨K,hK,hv,he,hl⟩:=pK (T:=T) (h:=h) (key:=key) hn (by omega)
 by_cases h4:(br (h / 128) n T.cells (h % 128) key).vac < 0∨((br (h / 128) n T.cells (h % 128) key).emp=true∧T.left=0)
 ·have:eR n T h key elem birth=(3,T):=by unfold eR;rw[if_neg h1,if_pos h4]
  rw[this]
  refine .no (by omega) ?_
  rcases h4 with h4 | h4
  ·left
   intro p hp
   rw[hv] at h4
   have hKn:=hl h4
   subst hKn
   obtain⟨j,hj,hg⟩:=hperm (p / 8) (by omega)
   have h5:=vac_no h4 j hj
   unfold cM at h5
   rw[gC] at h5
   have h6:=h5 (p % 8) (by omega)
   cases q:isFull (T.cells p) with
   | true=>rfl
   | false=>
    rw[hg,show eD (cD T.cells (p / 8)) (p % 8)=true from rk.2 (by show isFull (T.cells (8*(p / 8)+p % 8))=false;rw[show 8*(p / 8)+p % 8=p by omega];exact q)] at h6
    cases h6
  by_cases hvn:dL (h / 128) n T.cells K < 0
  ·exfalso
   have:eG (h / 128) n T.cells K=false:=by unfold eG;rw[mi.1 hvn]
   rw[he,this] at h4
   exact Bool.noConfusion h4.1
  obtain⟨j,hj,h5,h6,h7,h8⟩:=uz hvn
  refine .inr ⟨h4.2,j,by omega,h6,_,h5,?_⟩
  have h9:=h4.1
  rw[he,h8] at h9
  have h10:=Ci.1 h9
  show ed (cD T.cells (gk (h / 128) n j) _)=true
  rw[h10];rfl
 obtain⟨j,hj,h5,h6,h7,h8⟩:=uz (home:=h / 128) (n:=n) (cells:=T.cells) (k:=K) (by rw[← hv];omega)
 have hfull:isFull (T.cells (8*gk (h / 128) n j+cM (h / 128) n T.cells j))=false:=rk.1 (g5 h5)
 have hemp:(br (h / 128) n T.cells (h % 128) key).emp=ed (T.cells (8*gk (h / 128) n j+cM (h / 128) n T.cells j)):=by
  rw[he,h8]
  show fY (cD T.cells (gk (h / 128) n j)) (cM (h / 128) n T.cells j)=ed (cD T.cells (gk (h / 128) n j) (cM (h / 128) n T.cells j))
  unfold fY ed
  cases cD T.cells (gk (h / 128) n j) (cM (h / 128) n T.cells j) <;> rfl
 have hvn:(br (h / 128) n T.cells (h % 128) key).vac.toNat=8*gk (h / 128) n j+cM (h / 128) n T.cells j:=by rw[hv,h7];omega
 have:eR n T h key elem birth=(2,{T with used:=T.used+1,left:=if ed (T.cells (8*gk (h / 128) n j+cM (h / 128) n T.cells j)) then T.left-1 else T.left,cells:=bT T.cells (8*gk (h / 128) n j+cM (h / 128) n T.cells j) (.full (h % 128) key elem birth)}):=by
  unfold eR
  rw[if_neg h1,if_neg h4,hvn,hemp]
 rw[this]
 exact .new j _ (by omega) h5 (by omega) h6 hfull fun q q2=>h4 (.inr ⟨by rw[hemp];exact q,q2⟩)
inductive Ea (n:Nat) (T:Tb) (h:Int) (key:ByteArray):Bool×Tb→Prop
 | no:(br (h / 128) n T.cells (h % 128) key).slot < 0→Ea n T h key (false,T)
 | passed (p:Nat) (e0:ByteArray) (b0:Int):p < 8*n→(br (h / 128) n T.cells (h % 128) key).slot=(p:Int)→T.cells p=.full (h % 128) key e0 b0→(∀ q,q / 8=p / 8→T.cells q≠.empty)→
   Ea n T h key (true,{T with used:=T.used-1,cells:=bT T.cells p .deleted})
 | free (p q:Nat) (e0:ByteArray) (b0:Int):p < 8*n→(br (h / 128) n T.cells (h % 128) key).slot=(p:Int)→T.cells p=.full (h % 128) key e0 b0→q / 8=p / 8→T.cells q=.empty→
   Ea n T h key (true,{T with used:=T.used-1,left:=T.left+1,cells:=bT T.cells p .empty})
end
section
variable {n:Nat} {T T':Tb} {h:Int} {key elem:ByteArray} {birth out:Int} {b:Bool}
def Hh (n:Nat) (T:Tb):Nat:=cnt isFull T.cells (8*n)+cnt lG T.cells (8*n)
end
section
variable {n:Nat} {T T':Tb} {H:ByteArray→Int} {key elem:ByteArray} {birth out:Int} {b:Bool}
end
structure sq where
 key:ByteArray
 elem:ByteArray
 hash:Int
 birth:Int
 slot:Nat
def sq.cells (v:sq):List Value:=[.string v.key,.string v.elem,.int .u64 v.hash,.int .i64 v.birth,.int .i64 (v.slot:Nat)]
def sq.cell (v:sq):Cell:=.full (v.hash % 128) v.key v.elem v.birth
structure BI (n:Nat) (H:ByteArray→Int) (K:ByteArray→Prop) (T:Tb) (lives:List sq) (added:Nat):Prop where
 n0:0 < n
 cnt:H7 n T
 key:H6 n H T.cells
 there:∀ v∈lives,v.slot < 8*n∧T.cells v.slot=v.cell∧v.hash=H v.key
 all:∀ i,i < 8*n→isFull (T.cells i)=true→∃ v∈lives,v.slot=i
 uniq:∀(i j:Nat) (u v:sq),lives[i]?=some u→lives[j]?=some v→u.slot=v.slot→i=j
 used:T.used=(lives.length:Int)
 added:Hh n T≤added
 isK:∀ v∈lives,K v.key
section
variable {n:Nat} {T T':Tb} {H:ByteArray→Int} {K:ByteArray→Prop} {lives:List sq} {added:Nat} {key elem:ByteArray} {out:Int} {b:Bool}
end
end Bench
end
section
set_option maxRecDepth 100000
namespace Table
open Go.RowKit Go.Proofs Eng Ty Bits Mem Search Arena CtrlB Ctrl Layout GroupB Group Probe TableB TableI
section
variable (G:HP) (hG:dz G) (pa off go n e:Nat) (s:ArS) (l:Lay) (T:Tb) (hP:eO s off go l n e T)
include hP hG
end
end Table
end
section
set_option maxRecDepth 100000
namespace Refill
open Go.RowKit Go.Proofs Eng Bits Layout Mem CtrlB GroupB Group Probe TableB TableI Table Bench Cells Arena
theorem wx {c:Cell} (h:isFull c=true):∃ t,c=.full t c.keyS c.elemS c.birthI:=by cases c <;> first | exact⟨_,rfl⟩ | cases h
structure RF (H:ByteArray→Int) (cs:Nat→Cell) (N n:Nat) (U:Tb) (lives:List sq) (k:Nat):Prop where
 bi:BI n H (fun _=>True) U lives k
 is:∀ i,i < N→isFull (cs i)=true→cnt isFull cs i < k→∃ v,lives[cnt isFull cs i]?=some v∧v.key=(cs i).keyS∧v.elem=(cs i).elemS∧v.birth=(cs i).birthI
 len:lives.length=k
section
variable {H:ByteArray→Int} {cs:Nat→Cell} {N n k:Nat} {U U':Tb} {lives:List sq} {out:Int}
end
theorem lu.keeps {s s':ArS} {c:Int} (h:lu s s' c) (hok:s.ok) {o k:Int} (hg:aN s o k) {a:Nat} (h1:o≤(a:Int)) (h2:(a:Int) < o+k):s'.m a=s.m a:=by
 obtain⟨_,p,hp,q1,q2⟩:=hg
 exact h.m p hp a (by omega) (by omega)
theorem eO.moved {s s':ArS} {off go:Nat} {l:Lay} {n e:Nat} {T:Tb} (h:eO s off go l n e T) (hg:∀ o k,aN s o k→aN s' o k) (hm:∀ a,off≤a→a < off+64→s'.m a=s.m a) (hm2:∀ a,go≤a→a < go+n*gN l→s'.m a=s.m a):eO s' off go l n e T:=by
 refine⟨h.hl,h.he,h.hn,⟨fun k hk=>?_,fun g hg' j hj=>?_,h.hT.okc⟩,hg _ _ h.gh,hg _ _ h.gg,h.hr,h.dj⟩
 ·rw[← h.hT.head k hk]
  exact cJ fun i hi=>hm _ (by omega) (by omega)
 have hmul:g*gN l+gN l≤n*gN l:=by rw[← Nat.succ_mul];exact Nat.mul_le_mul_right _ hg'
 rw[hm2 _ (by omega) (by omega)]
 exact h.hT.body g hg' j hj
structure rb (T T':Tb):Prop where
 pins:T'.pins=T.pins
 next:T'.next=T.next
 kind:T'.kind=T.kind
 depth:T'.depth=T.depth
theorem rb.refl (T:Tb):rb T T:=⟨rfl,rfl,rfl,rfl⟩
theorem rb.trans {a b c:Tb} (h:rb a b) (k:rb b c):rb a c:=⟨k.pins.trans h.pins,k.next.trans h.next,k.kind.trans h.kind,k.depth.trans h.depth⟩
end Refill
end
section
set_option maxRecDepth 100000
namespace RefT
open Go.RowKit Go.Proofs Eng Bits Mem CtrlB Layout GroupB Probe TableB TableI Table Cells
section
variable {home:Int} {n:Nat} {cells:Nat→Cell} {tag:Int} {key:ByteArray} {k:Nat}
def dm (home:Int) (n:Nat) (cells:Nat→Cell):Nat:=match (List.range n).find? (fun k=>decide (eC home n cells k < 8)) with | some j=>j+1 | none=>n
theorem sF (hk:k < n) (he:eC home n cells k < 8) (hno:∀ j,j < k→¬ eC home n cells j < 8):dm home n cells=k+1:=by
 unfold dm
 rw[jL (k:=k) hk (by simpa using he) fun j hj=>by simpa using hno j hj]
theorem pY (hno:∀ j,j < n→¬ eC home n cells j < 8):dm home n cells=n:=by
 unfold dm
 have:(List.range n).find? (fun k=>decide (eC home n cells k < 8))=none:=by
  rw[List.find?_range_eq_none]
  intro j hj;simpa using hno j hj
 rw[this]
theorem lO (home:Int) (n:Nat) (cells:Nat→Cell):(∃ k,k < n∧eC home n cells k < 8∧(∀ j,j < k→¬ eC home n cells j < 8)∧dm home n cells=k+1)∨((∀ j,j < n→¬ eC home n cells j < 8)∧dm home n cells=n):=by
 cases e:(List.range n).find? (fun k=>decide (eC home n cells k < 8)) with
 | none=>
  rw[List.find?_range_eq_none] at e
  have hno:∀ j,j < n→¬ eC home n cells j < 8:=fun j hj=>by simpa using e j hj
  exact .inr ⟨hno,pY hno⟩
 | some k=>
  rw[List.find?_range_eq_some] at e
  obtain⟨h1,h2,h3⟩:=e
  have hk:k < n:=by simpa using h2
  have he:eC home n cells k < 8:=by simpa using h1
  have hno:∀ j,j < k→¬ eC home n cells j < 8:=fun j hj=>by simpa using h3 j hj
  exact .inl ⟨k,hk,he,hno,sF hk he hno⟩
theorem rj (home:Int) (n:Nat) (cells:Nat→Cell):dm home n cells≤n:=by
 rcases lO home n cells with⟨k,h1,_,_,h2⟩ | ⟨_,h2⟩ <;> omega
theorem Bu {j:Nat} (h:j+1 < dm home n cells):¬ eC home n cells j < 8:=by
 rcases lO home n cells with⟨k,h1,_,h3,h2⟩ | ⟨h3,h2⟩
 ·exact h3 j (by omega)
 exact h3 j (by omega)
def j5 (home:Int) (n k:Nat):List Int:=(List.range k).map fun j=>((gk home n j:Nat):Int)
theorem sG {j:Nat} (h:j < k):(j5 home n k)[j]?=some ((gk home n j:Nat):Int):=by simp[j5,h]
theorem wX (home:Int) (n k:Nat):j5 home n (k+1)=j5 home n k ++ [((gk home n k:Nat):Int)]:=by simp[j5,List.range_succ]
theorem tS (hk:k < dm home n cells) (hh:dW home n cells tag key k < 8) (hno:∀ j,j < k→¬ dW home n cells tag key j < 8):
  br home n cells tag key=⟨8*((gk home n k:Nat):Int)+((dW home n cells tag key k:Nat):Int),dL home n cells k,eG home n cells k,(k:Int)+1⟩:=by
 have hle:=rj home n cells
 refine lS (by omega) (fun j hj=>?_) hh
 unfold dP
 rw[decide_eq_false (hno j hj),decide_eq_false (Bu (by omega))]
 rfl
theorem wz (hno:∀ k,k < dm home n cells→¬ dW home n cells tag key k < 8):
  br home n cells tag key=⟨-1,dL home n cells (dm home n cells),eG home n cells (dm home n cells),(dm home n cells:Nat)⟩:=by
 rcases lO home n cells with⟨k,h1,h2,h3,h4⟩ | ⟨h3,h4⟩
 ·rw[ie h1 (fun j hj=>?_) (hno k (by omega)) h2,h4]
  ·simp
  unfold dP
  rw[decide_eq_false (hno j (by omega)),decide_eq_false (h3 j hj)]
  rfl
 rw[kf (fun j hj=>?_),h4]
 unfold dP
 rw[decide_eq_false (hno j (by omega)),decide_eq_false (h3 j hj)]
 rfl
theorem Ak (h:(br home n cells tag key).slot < 0):br home n cells tag key=⟨-1,dL home n cells (dm home n cells),eG home n cells (dm home n cells),(dm home n cells:Nat)⟩:=by
 refine wz fun k hk hh=>?_
 obtain⟨k0,h0,h1⟩:∃ k0,(k0 < dm home n cells∧dW home n cells tag key k0 < 8)∧∀ j,j < k0→¬ dW home n cells tag key j < 8:=by
  induction k using Nat.strongRecOn with
  | _ k ih=>
   by_cases q:∃ j,j < k∧dW home n cells tag key j < 8
   ·obtain⟨j,hj,hh2⟩:=q
    exact ih j hj (by omega) hh2
   exact⟨k,⟨hk,hh⟩,fun j hj hh2=>q ⟨j,hj,hh2⟩⟩
 rw[tS h0.1 h0.2 h1] at h
 dsimp only at h
 omega
theorem Bx {w:Nat} (hk:k < w) (h:cM home n cells k < 8) (hno:∀ j,j < k→¬ cM home n cells j < 8):dL home n cells w=8*((gk home n k:Nat):Int)+((cM home n cells k:Nat):Int)∧eG home n cells w=fY (cD cells (gk home n k)) (cM home n cells k):=by
 have:vst home n cells w=some k:=by
  unfold vst
  exact jL hk (by simpa using h) fun j hj=>by simpa using hno j hj
 unfold dL eG
 rw[this];exact⟨rfl,rfl⟩
theorem vac_no {w:Nat} (hno:∀ j,j < w→¬ cM home n cells j < 8):dL home n cells w= -1:=by
 have:vst home n cells w=none:=by
  unfold vst
  rw[List.find?_range_eq_none]
  intro j hj;simpa using hno j hj
 unfold dL
 rw[this]
theorem B9 (home:Int) (hn:0 < n) (hh:0≤home):((gk home n 0:Nat):Int)=home % (n:Int):=by
 unfold gk ord
 have:=Int.emod_nonneg home (show(n:Int)≠0 by omega)
 simp only[Nat.zero_mul,Nat.zero_div,Int.natCast_zero,Int.add_zero]
 omega
theorem Ca (home:Int) (hn:0 < n) (k:Nat):((gk home n (k+1):Nat):Int)=(((gk home n k:Nat):Int)+((k+1:Nat):Int)) % (n:Int):=by
 have e1:((gk home n k:Nat):Int)=ord home n k:=Int.toNat_of_nonneg (Int.emod_nonneg _ (by omega))
 have e2:((gk home n (k+1):Nat):Int)=ord home n (k+1):=Int.toNat_of_nonneg (Int.emod_nonneg _ (by omega))
 rw[e1,e2]
 unfold ord
 rw[sK,Int.emod_add_emod]
 congr 1
 omega
end
theorem ja {cs:Nat→Cell} {i:Nat}:eD cs i= !isFull (cs i):=by
 unfold eD isFull
 cases cs i <;> rfl
theorem o0 {cs:Nat→Cell} {i:Nat}:fY cs i=ed (cs i):=by
 unfold fY ed
 cases cs i <;> rfl
theorem oP {c:Cell}:c.kind=0↔ed c=true:=by cases c <;> simp[Cell.kind,ed]
theorem gB {cs:Nat→Cell} {tag:Int} {key:ByteArray} {i:Nat}:fh cs tag key i=true↔(cs i).kind=2∧(cs i).tagI=tag∧(cs i).keyS=key:=by
 unfold fh
 cases cs i <;> simp[Cell.kind,Cell.tagI,Cell.keyS]
theorem ir {s:Nat→Bool} (h:∀ i,i < 8→s i=false):¬ bA s < 8:=by rw[gC.2 h];decide
end RefT
end
section
set_option maxRecDepth 100000
namespace Group
open Go.RowKit Go.Proofs Eng Ty Bits Mem Search Arena CtrlB Ctrl Layout GroupB TableB Table
end Group
end
section
set_option maxRecDepth 100000
namespace Table
open Go.RowKit Go.Proofs Eng Ty Bits Mem Search Arena CtrlB Ctrl Layout GroupB Group TableB TableI
section
variable (G:HP) (hG:dz G) (pa off go n e:Nat) (s:ArS) (l:Lay) (T:Tb) (hP:eO s off go l n e T)
include hP
end
end Table
end
section
set_option maxRecDepth 100000
namespace Table
open Go.RowKit Go.Proofs Eng Ty Bits Mem Search Arena CtrlB Ctrl Layout GroupB Group Probe TableB TableI
section
variable (G:HP) (hG:dz G) (pa off go n e:Nat) (s:ArS) (l:Lay) (T:Tb) (hP:eO s off go l n e T)
include hP
section
variable (h:Int) (key:ByteArray) (hk:(key.size:Int)≠l.key)
include hk
end
include hG
end
end Table
end
section
namespace Small
open Go.RowKit Go.Proofs Eng Bits Mem Arena Layout GroupB Group TableB Table Refill
theorem SmP.moved {s s':ArS} {off:Nat} {l:Lay} {S:Sm} (h:SmP s off l S) (hg:∀ o k,aN s o k→aN s' o k) (hm:∀ a,off≤a→a < off+32+gN l→s'.m a=s.m a):SmP s' off l S:=by
 refine⟨h.hl,hg _ _ h.gh,fun k hk=>?_,h.hr,fun j hj=>?_,h.okc⟩
 ·rw[← h.head k hk]
  exact cJ fun i hi=>hm _ (by omega) (by omega)
 rw[hm _ (by omega) (by omega)];exact h.body j hj
theorem SmP.newS {s s':ArS} {off:Nat} {l:Lay} {S:Sm} (h:SmP s off l S) (hok:s.ok) {c:Int} (hN:lu s s' c):SmP s' off l S:=by
 have hg:=(eL h.hl).g
 exact h.moved (fun o k=>hN.good) fun a h1 h2=>lu.keeps hN hok h.gh (by omega) (by omega)
end Small
end
end Go.Proofs.YthkajgkagnenbaaGreatDoor
