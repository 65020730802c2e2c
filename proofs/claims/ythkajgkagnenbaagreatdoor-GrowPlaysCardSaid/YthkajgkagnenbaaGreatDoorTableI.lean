import Derived.Test.YthkajgkagnenbaaGreatDoorLayout
import Derived.Test.YthkajgkagnenbaaGreatDoorOracle
set_option linter.unusedVariables false
set_option linter.unusedSimpArgs false
set_option linter.unusedSectionVars false
set_option maxRecDepth 100000
namespace Go.Proofs.YthkajgkagnenbaaGreatDoor
section
namespace Mem
open Go.RowKit Go.Proofs Eng Ty
def dV (vs:List Value) (ss:List ByteArray):HP:=stars (List.zipWith jP vs ss)
theorem Cl {vs:List Value} {ss:List ByteArray} {M:List HP} {w:World} (h:Sat (stars (dV vs ss::M)) w) {i:Nat} {v:Value} {s:ByteArray} (hv:vs[i]?=some v) (hs:ss[i]?=some s):∃ M',Sat (stars (jP v s::M')) w:=by
 have h1:=dC.1 h
 have hm:jP v s∈List.zipWith jP vs ss:=by
  have:(List.zipWith jP vs ss)[i]?=some (jP v s):=by rw[List.getElem?_zipWith];simp[hv,hs]
  exact List.mem_of_getElem? this
 obtain⟨A,B,KC⟩:=List.append_of_mem hm
 rw[KC] at h1
 exact⟨A ++ B ++ M,h1.perm (by
  rw[List.append_assoc,List.append_assoc]
  exact List.perm_middle)⟩
theorem yM {L M:List HP} {vs:List Value} {ss:List ByteArray} {i b cap n:Nat} {s:ByteArray} (ht:Take (dV vs ss) L M) (hv:vs[i]?=some (.slice (some ⟨b,0,none⟩) n cap)) (hs:ss[i]?=some s):Reads L ⟨b,0,none⟩ (eW s):=fun w hw j u hu=>by
 obtain⟨M',h⟩:=Cl (hw.take ht) hv hs
 have:=uj (L:=jP (.slice (some ⟨b,0,none⟩) n cap) s::M') s.size .here w h j u
 rw[List.take_of_length_le (by rw[ju];omega)] at this
 exact this hu
def eX (s:ByteArray) (i:Nat):Int:=if h:i < s.size then((s[i]'h).toNat:Int) else 0
def iG:List ByteArray->Nat->Int
 | [],_=>0
 | s::r,i=>if i < s.size then eX s i else iG r (i-s.size)
def dx:List ByteArray->Nat
 | []=>0
 | s::r=>s.size+dx r
theorem m4 {ss:List ByteArray} {j:Nat} {s:ByteArray} (h:ss[j]?=some s):dx (ss.take (j+1))=dx (ss.take j)+s.size:=by
 induction ss generalizing j with
 | nil=>simp at h
 | cons x r ih=>
  cases j with
  | zero=>simp at h;subst h;simp[dx]
  | succ j=>simp only[List.getElem?_cons_succ] at h;simp only[List.take_succ_cons,dx,ih h];omega
theorem sx (ss:List ByteArray) (j:Nat):dx (ss.take j)<=dx ss:=by
 induction ss generalizing j with
 | nil=>simp[dx]
 | cons x r ih=>
  cases j with
  | zero=>simp[dx]
  | succ j=>simp only[List.take_succ_cons,dx];have:=ih j;omega
theorem th {ss:List ByteArray} {j:Nat} {s:ByteArray} (h:ss[j]?=some s) {i:Nat} (hi:i < s.size):iG ss (dx (ss.take j)+i)=eX s i:=by
 induction ss generalizing j with
 | nil=>simp at h
 | cons x r ih=>
  cases j with
  | zero=>simp at h;subst h;simp[dx,iG,hi]
  | succ j=>
   simp only[List.getElem?_cons_succ] at h
   simp only[List.take_succ_cons,dx,iG]
   rw[if_neg (by omega),show x.size+dx (List.take j r)+i-x.size=dx (List.take j r)+i by omega]
   exact ih h
theorem u7 (s:ByteArray):eW s=cu (eX s) s.size:=by
 apply List.ext_getElem?
 intro i
 by_cases h:i < s.size
 ·rw[w9 h,dW h];simp[eX,h]
 rw[List.getElem?_eq_none (by rw[ju];omega),List.getElem?_eq_none (by rw[cH];omega)]
theorem DE {m:Nat->Int} {ss:List ByteArray} {j o n cap:Nat} {s:ByteArray} (h:ss[j]?=some s) (hn:o+dx ss<=n) (hc:n<=cap):
  lay (cu (dh m o (dx (ss.take j)) (iG ss)) n) (ei 0 (o+dx (ss.take j)) cap) (eW s)=cu (dh m o (dx (ss.take (j+1))) (iG ss)) n:=by
 have ht:=m4 h
 have hle:=sx ss (j+1)
 rw[u7,uR (by omega) hc]
 congr 1
 funext i
 simp only[dh,ht]
 by_cases q:o+dx (ss.take j)<=i/\i < o+dx (ss.take j)+s.size
 ·rw[if_pos q,if_pos (by omega)]
  have:=th h (i:=i-(o+dx (ss.take j))) (by omega)
  rw[show dx (ss.take j)+(i-(o+dx (ss.take j)))=i-o by omega] at this
  exact this.symm
 rw[if_neg q]
 by_cases q2:o<=i/\i < o+dx (ss.take j)
 ·rw[if_pos q2,if_pos (by omega)]
 rw[if_neg q2,if_neg (by omega)]
theorem Write_ok (pm g n cap off p k kc:Nat) (m:Nat->Int) (vs:List Value) (ss:List ByteArray) (hn:n<=134217728) (hc:n<=cap) (hk:ss.length=k) (hkb:k<=1000000) (ho:off+dx ss<=n):
  aK Tryz.prog 227 #[.pointer (some ⟨pm,0,none⟩),.int .i64 off,.slice (some ⟨p,0,none⟩) k kc] [pt pm (.cells #[.slice (some ⟨g,0,none⟩) n cap] 189 (0,0)),aF 5 1 (.slice (some ⟨g,0,none⟩) n cap) n (cu m n),aF 117 1 (.slice (some ⟨p,0,none⟩) k kc) k vs,dV vs ss]
   (fun r L=>r=.int .i64 0/\L= [pt pm (.cells #[.slice (some ⟨g,0,none⟩) n cap] 189 (0,0)),aF 5 1 (.slice (some ⟨g,0,none⟩) n cap) n (cu (dh m off (dx ss) (iG ss)) n),aF 117 1 (.slice (some ⟨p,0,none⟩) k kc) k vs,dV vs ss]):=by
 refine au HH Tryz.func227 rfl rfl rfl fun Fr w0=>aZ ?_
 refine dN (φ:=vs.length=k/\∀(i:Nat) (s:ByteArray),ss[i]?=some s->∃ b c,vs[i]?=some (Value.slice (some ⟨b,0,none⟩) s.size c)) (fun w hw=>?_) fun⟨hvl,hsh⟩=>?_
 ·obtain⟨h1,_⟩:=lZ (hw.take (.there (.there .here)))
  rw[Nat.mul_one] at h1
  refine⟨h1,fun i s hs=>?_⟩
  have hlt:=(List.getElem?_eq_some_iff.1 hs).1
  have hv:vs[i]?=some (vs[i]'(by omega)):=List.getElem?_eq_getElem _
  obtain⟨M',h2⟩:=Cl (hw.take (.there (.there (.there .here)))) hv hs
  obtain⟨b,c,_,_,_,h3,_⟩:=qE h2
  exact⟨b,c,by rw[hv,h3]⟩
 refine sr<|ar O O<|lz<|ar O O<|lc<|al<|sr<|mv O O<|ad O (ql O o7)<|mv O O<|lc<|aB ?_
 refine bK (fun j:Nat=>j<=k) (fun j=>[(0,.pointer (some ⟨pm,0,none⟩)),(1,.int .i64 off),(2,.slice (some ⟨p,0,none⟩) k kc),(12,.slice (some ⟨p,0,none⟩) k kc),(13,.int .i64 k),(14,.int .i64 j),(7,.int .i64 (dx (ss.take j)))]) (fun _=>pt pm (.cells #[.slice (some ⟨g,0,none⟩) n cap] 189 (0,0))::aF 5 1 (.slice (some ⟨g,0,none⟩) n cap) n (cu m n)::aF 117 1 (.slice (some ⟨p,0,none⟩) k kc) k vs::dV vs ss::Fr) (fun j=>k-j) 0 (by omega) ⟨rfl,rfl,rfl,rfl,rfl,rfl,rfl,trivial⟩ (dS.refl _) ?_
 intro j hj
 have hle:=sx ss (j+1)
 refine sr<|ad O (qi O O (bj ·))<|lc<|al<|aG O (fun h=>?_) fun h=>?_
 ·have hjl:j < ss.length:=by omega
  obtain⟨b,c',hvj⟩:=hsh j ss[j] (List.getElem?_eq_getElem hjl)
  have htt:=m4 (List.getElem?_eq_getElem hjl)
  refine aq<|an<|al<|aB<|sr<|ad O (az O O o7 ec (by omega)) ?_
  apply ad O
  ·apply aT O fk
   ·exact tk
   rw[Nat.zero_add,Int.toNat_natCast];exact hvj
  refine ar O O<|lr<|mv O O<|mv O O<|ad O (ql O dG)<|ad O (bn O O) ?_
  refine ar O O<|ai<|bz<|an<|aD<|ad O (bn O O) ?_
  refine mv O O<|ai ?_
  apply aU ((j+1))
  ·exact(show j+1<=k by omega)
  ·omega
  ·exact⟨rfl,rfl,rfl,rfl,rfl,rfl,by rw[htt,Int.natCast_add];rfl,trivial⟩
  exact en
 refine xt O<|an<|al<|sr<|mv O O<|mv O O<|mv O O ?_
 obtain rfl:j=k:=by omega
 rw[<- hk,List.take_length]
 refine bF O O O (fF pm g n cap m _ _ hn) ?_
 refine ad O (db O (cy ·))<|lc<|aG O (fun z=>?_) fun z=>?_
 ·simp at z;omega
 refine aq<|an<|al<|sr<|mv O O<|ad O (ql O o7)<|mv O O<|lc<|aB ?_
 refine bK (fun i:Nat=>i<=ss.length) (fun i=>[(0,.pointer (some ⟨pm,0,none⟩)),(1,.int .i64 (off+(dx (ss.take i):Nat))),(28,.slice (some ⟨p,0,none⟩) ss.length kc),(29,.int .i64 ss.length),(30,.int .i64 i)]) (fun i=>pt pm (.cells #[.slice (some ⟨g,0,none⟩) n cap] 189 (0,0))::aF 5 1 (.slice (some ⟨g,0,none⟩) n cap) n (cu (dh m off (dx (ss.take i)) (iG ss)) n)::aF 117 1 (.slice (some ⟨p,0,none⟩) ss.length kc) ss.length vs::dV vs ss::Fr) (fun i=>ss.length-i) 0 (by omega) ⟨rfl,by simp[dx];rfl,rfl,rfl,rfl,trivial⟩ (by simp only[List.take_zero,dx,lI];exact dS.refl _) ?_
 intro j hj
 have hle:=sx ss (j+1)
 refine sr<|ad O (qi O O (bj ·))<|lc<|al<|aG O (fun h=>?_) fun h=>?_
 ·have hjl:j < ss.length:=by omega
  obtain⟨b,c',hvj⟩:=hsh j ss[j] (List.getElem?_eq_getElem hjl)
  have htt:=m4 (List.getElem?_eq_getElem hjl)
  have hbl:=ju ss[j]
  have hbl':(ss[j].size:Int)=((eW ss[j]).length:Int):=by rw[hbl]
  refine aq<|an<|al<|aB<|sr<|ad O (az O O o7 ec (by omega)) ?_
  apply ad O
  ·apply aT O fk
   ·exact tk
   rw[Nat.zero_add,Int.toNat_natCast];exact hvj
  refine ar O O<|lr<|mv O O<|mv O O<|ad O (ae O)<|ad O (aE 0 O fM O O ec)<|ad O (aI O fk) ?_
  refine mv O O<|ad O (lY O O dG sn (by omega)) ?_
  refine mv O O ?_
  apply wF (eW ss[j]) rfl rfl rfl Tryz.underlying117 (by obtain⟨i,h1,_,h2,_⟩:=CU;exact⟨i,h1,h2⟩)
  ·exact tk
  ·rw[ju,show((off:Int)+(dx (ss.take j):Nat)).toNat=off+dx (ss.take j) by omega];exact(Nat.min_eq_left (by omega)).symm
  ·exact yM (i:=j) (.there (.there (.there .here))) hvj (List.getElem?_eq_getElem hjl)
  ·rw[ju,show((off:Int)+(dx (ss.take j):Nat)).toNat=off+dx (ss.take j) by omega];exact sy (by omega) hc
  ·exact w8 _
  refine ad O (bn O O) ?_
  refine ar O O<|ai<|bz<|an<|aD<|ad O (bn O O) ?_
  refine mv O O<|ai ?_
  rw[show((off:Int)+(dx (ss.take j):Nat)).toNat=off+dx (ss.take j) by omega,DE (List.getElem?_eq_getElem hjl) ho hc]
  apply aU ((j+1))
  ·exact(show j+1<=ss.length by omega)
  ·omega
  ·exact⟨rfl,by rw[htt,Int.natCast_add,hbl',<- Int.add_assoc];rfl,rfl,rfl,rfl,trivial⟩
  exact en
 refine xt O<|nz<|ar O O<|lc<|rt ?_
 obtain rfl:j=ss.length:=by omega
 rw[List.take_length]
 exact cN O ([pt pm (.cells #[.slice (some ⟨g,0,none⟩) n cap] 189 (0,0)),aF 5 1 (.slice (some ⟨g,0,none⟩) n cap) n (cu (dh m off (dx ss) (iG ss)) n),aF 117 1 (.slice (some ⟨p,0,none⟩) ss.length kc) ss.length vs,dV vs ss]) (.tmp rfl) ⟨rfl,rfl⟩
end Mem
end
section
namespace GroupB
open Go.RowKit Go.Proofs Eng Layout Mem
def kN (l:Lay):Nat:=l.key.toNat
def eN (l:Lay):Nat:=l.elem.toNat
def jC (l:Lay):Nat:=l.eo.toNat
def r8 (l:Lay):Nat:=l.bo.toNat
def sN (l:Lay):Nat:=l.slot.toNat
def gN (l:Lay):Nat:=l.group.toNat
structure lQ (l:Lay):Prop where
 k:((kN l:Nat):Int)=l.key
 e:((eN l:Nat):Int)=l.elem
 eo:((jC l:Nat):Int)=l.eo
 bo:((r8 l:Nat):Int)=l.bo
 s:((sN l:Nat):Int)=l.slot
 g:((gN l:Nat):Int)=l.group
 s_eq:sN l=r8 l+8
 g_eq:gN l=8+8*sN l
 k1:1<=kN l/\kN l<=128
 e1:eN l<=128
 eo1:kN l<=jC l/\jC l<=kN l+7
 bo1:jC l+eN l<=r8 l/\r8 l<=jC l+eN l+7
theorem eK {l:Lay} (h:l.err=0):lQ l:=by
 have b:=Lay.bnd h
 have e1:=iW (n:=l.key) (a:=l.ea) (by omega) (by omega)
 have e2:=iW (n:=l.eo+l.elem) (a:=8) (by omega) (by omega)
 have q1:l.eo=gH l.key l.ea:=rfl
 have q2:l.bo=gH (l.eo+l.elem) 8:=rfl
 constructor <;> simp only[kN,eN,jC,r8,sN,gN] <;> omega
inductive Cell where
 | empty
 | deleted
 | full (tag:Int) (key elem:ByteArray) (birth:Int)
def Cell.ok (l:Lay):Cell->Prop
 | .full t k e b=>0<=t/\t < 128/\k.size=kN l/\e.size=eN l/\0<=b/\b < 9223372036854775808
 | _=>True
def Cell.ctrl:Cell->Int
 | .empty=>128
 | .deleted=>254
 | .full t _ _ _=>t
theorem Cell.ctrl_bnd {l:Lay} {c:Cell} (h:c.ok l):0<=c.ctrl/\c.ctrl < 256:=by cases c <;> simp only[Cell.ctrl,Cell.ok] at h ⊢ <;> omega
def iZ (n:Nat):ByteArray:=⟨(List.replicate n (0:UInt8)).toArray⟩
def qe (b:Int):ByteArray:=mo (ct b) 0 8
theorem kD (n:Nat):(iZ n).size=n:=by simp[iZ,ByteArray.size]
theorem lS (m:Nat->Int) (o k:Nat):(mo m o k).size=k:=by simp[mo,ByteArray.size]
theorem nT (b:Int):(qe b).size=8:=lS _ _ _
theorem r7 (v:Int) (i:Nat):0<=ct v i/\ct v i < 256:=by unfold ct;omega
theorem oA {m:Nat->Int} (hm:∀ i,0<=m i/\m i < 256) (o k:Nat) {i:Nat} (h:i < k):eX (mo m o k) i=m (o+i):=by
 unfold eX
 rw[dif_pos (by rw[lS];exact h)]
 have:=hm (o+i)
 simp only[mo,ByteArray.getElem_eq_getElem_data,List.getElem_toArray,List.getElem_map,List.getElem_range,UInt8.toNat_ofNat']
 omega
theorem xa (b:Int) {i:Nat} (h:i < 8):eX (qe b) i=ct b i:=by
 unfold qe;rw[oA (r7 b) _ _ h,Nat.zero_add]
theorem Db {s t:ByteArray} (hs:s.size=t.size) (h:∀ i,i < s.size->eX s i=eX t i):s=t:=by
 apply ByteArray.ext
 apply Array.ext
 ·exact hs
 intro i h1 h2
 have:=h i h1
 unfold eX at this
 rw[dif_pos (show i < s.size from h1),dif_pos (show i < t.size from h2)] at this
 simp only[ByteArray.getElem_eq_getElem_data] at this
 exact UInt8.toNat_inj.1 (by exact_mod_cast this)
theorem xQ {m:Nat->Int} (hm:∀ i,0<=m i/\m i < 256) {o:Nat} {s:ByteArray} (h:∀ i,i < s.size->m (o+i)=eX s i):mo m o s.size=s:=
 Db (lS _ _ _) fun i hi=>by rw[lS] at hi;rw[oA hm _ _ hi];exact h i hi
def parts (l:Lay) (k e:ByteArray) (b:Int):List ByteArray:=[k,iZ (jC l-kN l),e,iZ (r8 l-jC l-eN l),qe b]
theorem yB {l:Lay} (h:lQ l) {k e:ByteArray} (hk:k.size=kN l) (he:e.size=eN l) (b:Int):dx (parts l k e b)=sN l:=by
 have:=h.eo1;have:=h.bo1;have:=h.s_eq
 simp only[parts,dx,hk,he,kD,nT];omega
def s8 (l:Lay) (c:Cell) (r:Nat):Int:=match c with
 | .full _ k e b=>iG (parts l k e b) r
 | _=>0
def dZ (l:Lay) (cs:Nat->Cell) (j:Nat):Int:=if j < 8 then(cs j).ctrl else s8 l (cs ((j-8) / sN l)) ((j-8) % sN l)
theorem kv {l:Lay} (cs:Nat->Cell) {i:Nat} (h:i < 8):dZ l cs i=(cs i).ctrl:=by unfold dZ;rw[if_pos h]
theorem pE {s i r:Nat} (hr:r < s):(i*s+r) / s=i/\(i*s+r) % s=r:=by
 constructor
 ·rw[Nat.add_comm,Nat.add_mul_div_right _ _ (by omega),Nat.div_eq_of_lt hr];omega
 rw[Nat.add_comm,Nat.add_mul_mod_self_right,Nat.mod_eq_of_lt hr]
theorem n4 {l:Lay} (cs:Nat->Cell) {i r:Nat} (hr:r < sN l):dZ l cs (8+i*sN l+r)=s8 l (cs i) r:=by
 unfold dZ
 obtain⟨h1,h2⟩:=pE (i:=i) hr
 rw[if_neg (by omega),show 8+i*sN l+r-8=i*sN l+r by omega,h1,h2]
theorem B0 {l:Lay} (h:lQ l) {t:Int} {k e:ByteArray} {b:Int} (hk:k.size=kN l) {i:Nat} (hi:i < k.size):s8 l (.full t k e b) i=eX k i:=by
 have:=th (ss:=parts l k e b) (j:=0) (s:=k) rfl hi
 simpa [s8,parts,dx] using this
theorem rU {l:Lay} (h:lQ l) {t:Int} {k e:ByteArray} {b:Int} (hk:k.size=kN l) {i:Nat} (hi:i < e.size):s8 l (.full t k e b) (jC l+i)=eX e i:=by
 have:=th (ss:=parts l k e b) (j:=2) (s:=e) rfl hi
 have h1:=h.eo1
 simp only[parts,List.take_succ_cons,List.take_zero,dx,kD,hk] at this
 rw[show kN l+(jC l-kN l+0)+i=jC l+i by omega] at this
 exact this
theorem wT {l:Lay} (h:lQ l) {t:Int} {k e:ByteArray} {b:Int} (hk:k.size=kN l) (he:e.size=eN l) {i:Nat} (hi:i < 8):s8 l (.full t k e b) (r8 l+i)=ct b i:=by
 have:=th (ss:=parts l k e b) (j:=4) (s:=qe b) rfl (by rw[nT];exact hi)
 have h1:=h.eo1;have h2:=h.bo1
 simp only[parts,List.take_succ_cons,List.take_zero,dx,kD,hk,he] at this
 rw[show kN l+(jC l-kN l+(eN l+(r8 l-jC l-eN l+0)))+i=r8 l+i by omega,xa b hi] at this
 exact this
def qO (m:Nat->Int) (off:Nat) (l:Lay) (cs:Nat->Cell):Prop:=∀ j,j < gN l->m (off+j)=dZ l cs j
def cW (cs:Nat->Cell) (i:Nat) (c:Cell):Nat->Cell:=fun j=>if j=i then c else cs j
theorem ek (cs:Nat->Cell) (i:Nat) (c:Cell):cW cs i c i=c:=by simp[cW]
theorem fm (cs:Nat->Cell) {i j:Nat} (h:j≠i) (c:Cell):cW cs i c j=cs j:=by simp[cW,h]
theorem qO.ctrl {m:Nat->Int} {off:Nat} {l:Lay} {cs:Nat->Cell} (h:qO m off l cs) (hl:lQ l) {i:Nat} (hi:i < 8):m (off+i)=(cs i).ctrl:=by
 rw[h i (by have:=hl.g_eq;have:=hl.s_eq;omega),kv cs hi]
theorem m6 {l:Lay} (hl:lQ l) {i r:Nat} (hi:i < 8) (hr:r < sN l):8+i*sN l+r < gN l:=by
 have h1:i*sN l<=7*sN l:=Nat.mul_le_mul_right _ (by omega)
 have:=hl.g_eq
 omega
theorem qO.slot {m:Nat->Int} {off:Nat} {l:Lay} {cs:Nat->Cell} (h:qO m off l cs) (hl:lQ l) {i r:Nat} (hi:i < 8) (hr:r < sN l):m (off+(8+i*sN l+r))=s8 l (cs i) r:=by
 rw[h _ (m6 hl hi hr),n4 cs hr]
theorem gL {m f:Nat->Int} {o k a:Nat} (h1:o<=a) (h2:a < o+k):dh m o k f a=f (a-o):=by unfold dh;rw[if_pos ⟨h1,h2⟩]
theorem cC {m f:Nat->Int} {o k a:Nat} (h:a < o\/o+k<=a):dh m o k f a=m a:=by unfold dh;rw[if_neg (by omega)]
theorem oR {l:Lay} (hl:lQ l) {j:Nat} (h1:8<=j) (h2:j < gN l):∃ i r,i < 8/\r < sN l/\j=8+i*sN l+r:=by
 have hs:=hl.s_eq
 have hg:=hl.g_eq
 refine⟨(j-8) / sN l,(j-8) % sN l,?_,Nat.mod_lt _ (by omega),?_⟩
 ·exact Nat.div_lt_of_lt_mul (by rw[Nat.mul_comm];omega)
 have:=Nat.div_add_mod (j-8) (sN l)
 rw[Nat.mul_comm] at this
 omega
theorem uw {m f w:Nat->Int} {off:Nat} {l:Lay} {cs:Nat->Cell} (hl:lQ l) (h:qO m off l cs) {i:Nat} (hi:i < 8) (c:Cell) (hf:∀ r,r < sN l->f r=s8 l c r) (hw:∀ j,j < 8->w j=if j=i then c.ctrl else(cs j).ctrl):
  dh (dh m (off+(8+i*sN l)) (sN l) f) off 8 w=dh m off (gN l) (dZ l (cW cs i c)):=by
 funext a
 have hg:=hl.g_eq
 by_cases q1:a < off\/off+gN l<=a
 ·have h1:i*sN l<=7*sN l:=Nat.mul_le_mul_right _ (by omega)
  rw[cC (by omega),cC (by omega),cC q1]
 rw[gL (o:=off) (k:=gN l) (by omega) (by omega)]
 by_cases q2:a-off < 8
 ·rw[gL (by omega) (by omega),hw _ q2,kv _ q2]
  by_cases q3:a-off=i
  ·rw[if_pos q3,q3,ek]
  rw[if_neg q3,fm _ q3]
 obtain⟨i',r,hi',hr,e⟩:=oR hl (by omega:8<=a-off) (by omega)
 rw[cC (by omega),e,n4 _ hr]
 by_cases q3:i'=i
 ·subst q3
  rw[gL (by omega) (by omega),ek,show a-(off+(8+i'*sN l))=r by omega,hf r hr]
 rw[fm _ q3,cC,show a=off+(8+i'*sN l+r) by omega,h.slot hl hi' hr]
 rcases Nat.lt_or_ge i' i with q4 | q4
 ·have:=Nat.mul_le_mul_right (sN l) (show i'+1<=i by omega);rw[Nat.add_mul] at this;omega
 have:=Nat.mul_le_mul_right (sN l) (show i+1<=i' by omega);rw[Nat.add_mul] at this;omega
theorem uy {m:Nat->Int} {off:Nat} {l:Lay} {cs:Nat->Cell} (hl:lQ l) (h:qO m off l cs) {i:Nat} (hi:i < 8) {t:Int} {k e e':ByteArray} {b:Int} (hc:cs i=.full t k e b) (hk:k.size=kN l) (he:e.size=eN l) (he':e'.size=eN l):
  dh m (off+(8+i*sN l+jC l)) (eN l) (eX e')=dh m off (gN l) (dZ l (cW cs i (.full t k e' b))):=by
 funext a
 have hg:=hl.g_eq;have hs:=hl.s_eq;have he1:=hl.eo1;have hb1:=hl.bo1
 have h1:i*sN l<=7*sN l:=Nat.mul_le_mul_right _ (by omega)
 by_cases q1:a < off\/off+gN l<=a
 ·rw[cC (by omega),cC q1]
 rw[gL (o:=off) (k:=gN l) (by omega) (by omega)]
 by_cases q2:a-off < 8
 ·rw[cC (by omega),kv _ q2,show a=off+(a-off) by omega,h.ctrl hl q2,show off+(a-off)-off=a-off by omega]
  by_cases q3:a-off=i
  ·rw[q3,ek,hc];rfl
  rw[fm _ q3]
 obtain⟨i',r,hi',hr,e0⟩:=oR hl (by omega:8<=a-off) (by omega)
 rw[e0,n4 _ hr]
 have ha:a=off+(8+i'*sN l+r):=by omega
 by_cases q3:i'=i
 ·subst q3
  rw[ek]
  by_cases q4:jC l<=r/\r < jC l+eN l
  ·rw[gL (by omega) (by omega),show a-(off+(8+i'*sN l+jC l))=r-jC l by omega]
   have:=rU hl (t:=t) (k:=k) (e:=e') (b:=b) hk (i:=r-jC l) (by omega)
   rw[show jC l+(r-jC l)=r by omega] at this
   exact this.symm
  rw[cC (by omega),ha,h.slot hl hi' hr,hc]
  simp only[s8,parts,iG]
  rw[hk,kD,he,he']
  by_cases q5:r < kN l
  ·rw[if_pos q5,if_pos q5]
  rw[if_neg q5,if_neg q5]
  by_cases q6:r-kN l < jC l-kN l
  ·rw[if_pos q6,if_pos q6]
  have q7:¬ r-kN l-(jC l-kN l) < eN l:=by omega
  rw[if_neg q6,if_neg q6,if_neg q7,if_neg q7]
 rw[fm _ q3,cC,ha,h.slot hl hi' hr]
 rcases Nat.lt_or_ge i' i with q4 | q4
 ·have:=Nat.mul_le_mul_right (sN l) (show i'+1<=i by omega);rw[Nat.add_mul] at this;omega
 have:=Nat.mul_le_mul_right (sN l) (show i+1<=i' by omega);rw[Nat.add_mul] at this;omega
theorem yS {m w:Nat->Int} {off:Nat} {l:Lay} (hl:lQ l) (hw:∀ j,j < 8->w j=128):dh (dh m off (gN l) (fun _=>0)) off 8 w=dh m off (gN l) (dZ l fun _=>.empty):=by
 funext a
 have hg:=hl.g_eq
 by_cases q1:a < off\/off+gN l<=a
 ·rw[cC (by omega),cC q1,cC q1]
 rw[gL (o:=off) (k:=gN l) (f:=dZ l fun _=>.empty) (by omega) (by omega)]
 by_cases q2:a-off < 8
 ·rw[gL (by omega) (by omega),hw _ q2,kv _ q2];rfl
 rw[cC (by omega),gL (by omega) (by omega)]
 unfold dZ;rw[if_neg q2];try rfl
theorem qO.lay {m:Nat->Int} {off:Nat} {l:Lay} (cs:Nat->Cell):qO (dh m off (gN l) (dZ l cs)) off l cs:=fun j hj=>by
 rw[gL (by omega) (by omega)];congr 1;omega
theorem qO.out {m f:Nat->Int} {off o k:Nat} {l:Lay} {cs:Nat->Cell} (h:qO m off l cs) (hd:off+gN l<=o\/o+k<=off):qO (dh m o k f) off l cs:=fun j hj=>by
 rw[cC (by omega)];exact h j hj
theorem eA {m m':Nat->Int} {o o':Nat}:∀ {k:Nat},(∀ i,i < k->m (o+i)=m' (o'+i))->dU m o k=dU m' o' k
 | 0,_=>rfl
 | k+1,h=>by simp only[dU];rw[h k (by omega),eA (k:=k) fun i hi=>h i (by omega)]
theorem jJ (v:Int):∀ k,dU (ct v) 0 k=v % 2 ^ (8*k)
 | 0=>by simp[dU]
 | k+1=>by
  simp only[dU,Nat.zero_add]
  rw[jJ v k]
  have hp:(0:Int) < 2 ^ (8*k):=Int.pow_pos (by decide)
  have e:(2:Int) ^ (8*(k+1))=2 ^ (8*k)*256:=by rw[show 8*(k+1)=8*k+8 by omega,Int.pow_add];rfl
  rw[e]
  unfold ct
  generalize (2:Int) ^ (8*k)=p at *
  have h1:=Int.mul_ediv_add_emod v p
  have h2:=Int.mul_ediv_add_emod (v / p) 256
  have h3:=Int.emod_nonneg v (by omega:p≠0)
  have h4:=Int.emod_lt_of_pos v hp
  have h5:=Int.emod_nonneg (v / p) (by omega:(256:Int)≠0)
  have h6:=Int.emod_lt_of_pos (v / p) (by omega:(0:Int) < 256)
  have key:v=p*256*(v / p / 256)+(v % p+v / p % 256*p):=by
   have:p*(v / p)=p*(256*(v / p / 256))+p*(v / p % 256):=by rw[<- Int.mul_add,h2]
   have a1:p*(256*(v / p / 256))=p*256*(v / p / 256):=(Int.mul_assoc _ _ _).symm
   have a2:p*(v / p % 256)=v / p % 256*p:=Int.mul_comm _ _
   omega
  have b1:0<=v / p % 256*p:=Int.mul_nonneg h5 (by omega)
  have b2:v / p % 256*p<=255*p:=Int.mul_le_mul_of_nonneg_right (by omega) (by omega)
  have hq:v % (p*256)=v % p+v / p % 256*p:=by
   conv=>lhs;rw[key]
   rw[Int.add_emod,Int.mul_emod_right,Int.zero_add,Int.emod_emod]
   exact Int.emod_eq_of_lt (by omega) (by omega)
  exact hq.symm
end GroupB
end
section
namespace TableB
open Go.RowKit Go.Proofs Eng Layout Mem CtrlB GroupB Probe
structure Tb where
 kind:Int
 pins:Int
 next:Int
 used:Int
 left:Int
 depth:Int
 cells:Nat->Cell
def fa (T:Tb) (n go:Nat):Nat->Int
 | 0=>T.kind
 | 1=>T.pins
 | 2=>T.next
 | 3=>T.used
 | 4=>8*(n:Int)
 | 5=>T.left
 | 6=>T.depth
 | 7=>(go:Int)
 | _=>0
def ck (cells:Nat->Cell) (g:Nat):Nat->Cell:=fun i=>cells (8*g+i)
structure Cq (m:Nat->Int) (off go:Nat) (l:Lay) (n:Nat) (T:Tb):Prop where
 head:∀ k,k < 8->dU m (off+8*k) 8=IntKind.u64.wrap (fa T n go k)
 body:∀ g,g < n->qO m (go+g*gN l) l (ck T.cells g)
 okc:∀ i,i < 8*n->(T.cells i).ok l
def mq (cs:Nat->Cell) (tag:Int) (key:ByteArray) (i:Nat):Bool:=match cs i with
 | .full t k _ _=>decide (t=tag) && decide (k=key)
 | _=>false
def iD (cs:Nat->Cell) (i:Nat):Bool:=match cs i with
 | .full _ _ _ _=>false
 | _=>true
def eh (cs:Nat->Cell) (i:Nat):Bool:=match cs i with
 | .empty=>true
 | _=>false
theorem me (s:Nat->Bool):cm s<=8:=by
 unfold cm
 cases h:bE s with
 | nil=>simp
 | cons a r=>
  have:=(dB (s:=s) (i:=a)).1 (by rw[h];simp)
  simp;omega
theorem mc {s:Nat->Bool} (h:cm s < 8):s (cm s)=true:=by
 unfold cm at h ⊢
 cases e:bE s with
 | nil=>rw[e] at h;simp at h
 | cons a r=>
  have:=(dB (s:=s) (i:=a)).1 (by rw[e];simp)
  simpa using this.2
theorem iy {s:Nat->Bool}:cm s=8↔∀ i,i < 8->s i=false:=by
 constructor
 ·intro h i hi
  cases e:bE s with
  | nil=>
   cases q:s i with
   | false=>rfl
   | true=>have:=(dB (s:=s) (i:=i)).2 ⟨hi,q⟩;rw[e] at this;cases this
  | cons a r=>
   have:=(dB (s:=s) (i:=a)).1 (by rw[e];simp)
   unfold cm at h;rw[e] at h;simp at h;omega
 intro h
 have:bE s= []:=by
  cases e:bE s with
  | nil=>rfl
  | cons a r=>
   have:=(dB (s:=s) (i:=a)).1 (by rw[e];simp)
   rw[h a this.1] at this;cases this.2
 unfold cm;rw[this];rfl
theorem qu {s:Nat->Bool} {i:Nat} (hi:i < 8) (h:s i=true):cm s < 8:=by
 have h1:=me s
 rcases Nat.lt_or_ge (cm s) 8 with q | q
 ·exact q
 have:=(iy (s:=s)).1 (by omega) i hi
 rw[h] at this;cases this
theorem s0 {s:Nat->Bool} {j:Nat} (h:j < cm s):s j=false:=by
 have hle:=me s
 cases q:s j with
 | false=>rfl
 | true=>
  exfalso
  have hm:j∈bE s:=dB.2 ⟨by omega,q⟩
  unfold cm at h
  have hp:(bE s).Pairwise (· < ·):=(List.pairwise_lt_range (n:=8)).filter _
  cases e:bE s with
  | nil=>rw[e] at hm;cases hm
  | cons a r=>
   rw[e] at hm h hp
   simp at h
   rcases List.mem_cons.1 hm with rfl | hm
   ·omega
   have:=List.rel_of_pairwise_cons hp hm
   omega
theorem n3 {s:Nat->Bool} {i:Nat} (hi:i < 8) (h:s i=true) (hn:∀ j,j < i->s j=false):cm s=i:=by
 have h1:=qu hi h
 rcases Nat.lt_trichotomy (cm s) i with q | q | q
 ·have:=hn _ q;rw[mc h1] at this;cases this
 ·exact q
 have:=s0 q;rw[h] at this;cases this
section
variable (home:Int) (n:Nat) (cells:Nat->Cell) (tag:Int) (key:ByteArray)
def gk (k:Nat):Nat:=(ord home n k).toNat
def eR (k:Nat):Nat:=cm (mq (ck cells (gk home n k)) tag key)
def dm (k:Nat):Nat:=cm (iD (ck cells (gk home n k)))
def fo (k:Nat):Nat:=cm (eh (ck cells (gk home n k)))
def eC (k:Nat):Bool:=decide (eR home n cells tag key k < 8) || decide (fo home n cells k < 8)
def vT (k:Nat):Option Nat:=(List.range k).find? fun j=>decide (dm home n cells j < 8)
def ez (k:Nat):Int:=match vT home n cells k with
 | some j=>8*((gk home n j:Nat):Int)+((dm home n cells j:Nat):Int)
 | none=>-1
def fw (k:Nat):Bool:=match vT home n cells k with
 | some j=>eh (ck cells (gk home n j)) (dm home n cells j)
 | none=>false
structure KF where
 slot:Int
 vac:Int
 emp:Bool
 probes:Int
def bB:KF:=match (List.range n).find? (eC home n cells tag key) with
 | some j=>if eR home n cells tag key j < 8 then⟨8*((gk home n j:Nat):Int)+((eR home n cells tag key j:Nat):Int),ez home n cells j,fw home n cells j,(j:Int)+1⟩
  else⟨-1,ez home n cells (j+1),fw home n cells (j+1),(j:Int)+1⟩
 | none=>⟨-1,ez home n cells n,fw home n cells n,n⟩
end
section
variable {home:Int} {n:Nat} {cells:Nat->Cell} {tag:Int} {key:ByteArray}
theorem tQ (k:Nat):vT home n cells (k+1)=match vT home n cells k with | some j=>some j | none=>if dm home n cells k < 8 then some k else none:=by
 unfold vT
 rw[List.range_succ,List.find?_append]
 cases (List.range k).find? fun j=>decide (dm home n cells j < 8) with
 | some j=>rfl
 | none=>
  simp only[List.find?_cons,List.find?_nil,Option.none_or]
  by_cases q:dm home n cells k < 8 <;> simp[q]
theorem mZ {k:Nat}:ez home n cells k < 0↔vT home n cells k=none:=by
 unfold ez
 cases vT home n cells k with
 | some j=>simp;omega
 | none=>simp
theorem Aw {k:Nat} (h1:ez home n cells k < 0) (h2:dm home n cells k < 8):ez home n cells (k+1)=8*((gk home n k:Nat):Int)+((dm home n cells k:Nat):Int)/\fw home n cells (k+1)=eh (ck cells (gk home n k)) (dm home n cells k):=by
 have:=tQ (home:=home) (n:=n) (cells:=cells) k
 rw[mZ.1 h1] at this
 simp only[if_pos h2] at this
 unfold ez fw
 rw[this];exact⟨rfl,rfl⟩
theorem tR {k:Nat} (h:¬ ez home n cells k < 0\/¬ dm home n cells k < 8):ez home n cells (k+1)=ez home n cells k/\fw home n cells (k+1)=fw home n cells k:=by
 have:=tQ (home:=home) (n:=n) (cells:=cells) k
 unfold ez fw
 cases e:vT home n cells k with
 | some j=>rw[e] at this;rw[this];exact⟨rfl,rfl⟩
 | none=>
  rw[e] at this
  have h2:¬ dm home n cells k < 8:=by
   rcases h with h | h
   ·exact absurd (mZ.2 e) h
   exact h
  simp only[if_neg h2] at this
  rw[this];exact⟨rfl,rfl⟩
theorem k6 {n k:Nat} {p:Nat->Bool} (hk:k < n) (hp:p k=true) (hn:∀ j,j < k->p j=false):(List.range n).find? p=some k:=by
 rw[List.find?_range_eq_some]
 exact⟨hp,by simpa using hk,fun j hj=>by simp[hn j hj]⟩
theorem mF {k:Nat} (hk:k < n) (hn:∀ j,j < k->eC home n cells tag key j=false) (hh:eR home n cells tag key k < 8):
  bB home n cells tag key=⟨8*((gk home n k:Nat):Int)+((eR home n cells tag key k:Nat):Int),ez home n cells k,fw home n cells k,(k:Int)+1⟩:=by
 unfold bB
 rw[k6 hk (by unfold eC;simp[hh]) hn]
 simp only[if_pos hh]
theorem jf {k:Nat} (hk:k < n) (hn:∀ j,j < k->eC home n cells tag key j=false) (hh:¬ eR home n cells tag key k < 8) (he:fo home n cells k < 8):
  bB home n cells tag key=⟨-1,ez home n cells (k+1),fw home n cells (k+1),(k:Int)+1⟩:=by
 unfold bB
 rw[k6 hk (by unfold eC;simp[he]) hn]
 simp only[if_neg hh]
theorem ly (hn:∀ j,j < n->eC home n cells tag key j=false):bB home n cells tag key=⟨-1,ez home n cells n,fw home n cells n,n⟩:=by
 unfold bB
 have:(List.range n).find? (eC home n cells tag key)=none:=by
  rw[List.find?_range_eq_none]
  intro j hj;simp[hn j hj]
 rw[this]
theorem kP (home:Int) (n:Nat) (cells:Nat->Cell) (tag:Int) (key:ByteArray):
  (∃ k,k < n/\(∀ j,j < k->eC home n cells tag key j=false)/\eR home n cells tag key k < 8/\bB home n cells tag key=⟨8*((gk home n k:Nat):Int)+((eR home n cells tag key k:Nat):Int),ez home n cells k,fw home n cells k,(k:Int)+1⟩)\/
  (∃ k,k < n/\(∀ j,j < k->eC home n cells tag key j=false)/\¬ eR home n cells tag key k < 8/\fo home n cells k < 8/\bB home n cells tag key=⟨-1,ez home n cells (k+1),fw home n cells (k+1),(k:Int)+1⟩)\/
  ((∀ j,j < n->eC home n cells tag key j=false)/\bB home n cells tag key=⟨-1,ez home n cells n,fw home n cells n,n⟩):=by
 cases e:(List.range n).find? (eC home n cells tag key) with
 | none=>
  rw[List.find?_range_eq_none] at e
  have hn:∀ j,j < n->eC home n cells tag key j=false:=fun j hj=>by simpa using e j hj
  exact .inr (.inr ⟨hn,ly hn⟩)
 | some k=>
  rw[List.find?_range_eq_some] at e
  obtain⟨h1,h2,h3⟩:=e
  have hk:k < n:=by simpa using h2
  have hn:∀ j,j < k->eC home n cells tag key j=false:=fun j hj=>by simpa using h3 j hj
  by_cases hh:eR home n cells tag key k < 8
  ·exact .inl ⟨k,hk,hn,hh,mF hk hn hh⟩
  have he:fo home n cells k < 8:=by unfold eC at h1;simpa [hh] using h1
  exact .inr (.inl ⟨k,hk,hn,hh,he,jf hk hn hh he⟩)
end
theorem zj {T T':Tb} {n go k:Nat} {v:Int} {m:Nat->Int} {off:Nat} (h:∀ j,j < 8->dU m (off+8*j) 8=IntKind.u64.wrap (fa T n go j)) (hk:k < 8) (hv:fa T' n go k=v) (ho:∀ j,j < 8->j≠k->fa T' n go j=fa T n go j):
  ∀ j,j < 8->dU (dh m (off+8*k) 8 (ct (IntKind.u64.wrap v))) (off+8*j) 8=IntKind.u64.wrap (fa T' n go j):=by
 intro j hj
 by_cases q:j=k
 ·subst q
  rw[eA (m':=ct (IntKind.u64.wrap v)) (o':=0) fun i hi=>by rw[gL (by omega) (by omega)];congr 1;omega]
  rw[jJ,hv,IntKind.wrap_u64]
  omega
 rw[ho j hj q,<- h j hj]
 exact eA fun i hi=>by rw[cC];omega
theorem Cq.set {m:Nat->Int} {off go:Nat} {l:Lay} {n:Nat} {T T':Tb} (h:Cq m off go l n T) (hd:off+64<=go\/go+n*gN l<=off) {k:Nat} (hk:k < 8) {v:Int} (hv:fa T' n go k=v) (ho:∀ j,j < 8->j≠k->fa T' n go j=fa T n go j) (hc:T'.cells=T.cells):
  Cq (dh m (off+8*k) 8 (ct (IntKind.u64.wrap v))) off go l n T':=by
 refine⟨zj h.head hk hv ho,fun g hg=>?_,by rw[hc];exact h.okc⟩
 rw[hc]
 refine qO.out (h.body g hg) ?_
 have:g*gN l+gN l<=n*gN l:=by have:=Nat.mul_le_mul_right (gN l) (show g+1<=n by omega);rw[Nat.add_mul] at this;omega
 omega
theorem Cq.grp {m:Nat->Int} {off go:Nat} {l:Lay} {n:Nat} {T T':Tb} (h:Cq m off go l n T) (hd:off+64<=go\/go+n*gN l<=off) {g:Nat} (hg:g < n) {cs:Nat->Cell} (hcs:∀ i,i < 8->(cs i).ok l)
  (hv:∀ k,k < 8->fa T' n go k=fa T n go k) (hc:∀ i,T'.cells i=if i / 8=g then cs (i % 8) else T.cells i) (hl:lQ l):
  Cq (dh m (go+g*gN l) (gN l) (dZ l cs)) off go l n T':=by
 have hgl:g*gN l+gN l<=n*gN l:=by have:=Nat.mul_le_mul_right (gN l) (show g+1<=n by omega);rw[Nat.add_mul] at this;omega
 refine⟨fun k hk=>?_,fun g' hg'=>?_,fun i hi=>?_⟩
 ·rw[hv k hk,<- h.head k hk]
  exact eA fun i hi=>by rw[cC];omega
 ·by_cases q:g'=g
  ·subst q
   intro j hj
   rw[qO.lay cs j hj]
   have e:∀ i,i < 8->ck T'.cells g' i=cs i:=fun i hi=>by
    show T'.cells (8*g'+i)=_
    rw[hc,if_pos (by omega)];congr 1;omega
   unfold dZ
   split
   ·next hj8=>rw[e _ hj8]
   next hj8=>
   obtain⟨i,r,hi,hr,e0⟩:=oR hl (by omega:8<=j) hj
   obtain⟨d1,d2⟩:=pE (i:=i) hr
   rw[show j-8=i*sN l+r by omega,d1,e i hi]
  have e:ck T'.cells g'=fun i=>if i < 8 then ck T.cells g' i else T'.cells (8*g'+i):=by
   funext i
   split
   ·next hi=>show T'.cells (8*g'+i)=T.cells (8*g'+i);rw[hc,if_neg (by omega)]
   rfl
  have hb:=(h.body g' hg').out (o:=go+g*gN l) (k:=gN l) (f:=dZ l cs) (by
   rcases Nat.lt_or_ge g' g with q2 | q2
   ·have:=Nat.mul_le_mul_right (gN l) (show g'+1<=g by omega);rw[Nat.add_mul] at this;omega
   have:=Nat.mul_le_mul_right (gN l) (show g+1<=g' by omega);rw[Nat.add_mul] at this;omega)
  intro j hj
  rw[hb j hj]
  have e2:∀ i,i < 8->ck T'.cells g' i=ck T.cells g' i:=fun i hi=>by
   show T'.cells (8*g'+i)=T.cells (8*g'+i);rw[hc,if_neg (by omega)]
  unfold dZ
  split
  ·next hj8=>rw[e2 _ hj8]
  next hj8=>
  obtain⟨i,r,hi,hr,e0⟩:=oR hl (by omega:8<=j) hj
  obtain⟨d1,d2⟩:=pE (i:=i) hr
  rw[show j-8=i*sN l+r by omega,d1,e2 i hi]
 rw[hc]
 split
 ·exact hcs _ (Nat.mod_lt _ (by decide))
 exact h.okc i hi
end TableB
end
section
namespace TableI
open Go.RowKit Go.Proofs Eng GroupB Probe TableB
def isFull:Cell->Bool
 | .full _ _ _ _=>true
 | _=>false
def isDel:Cell->Bool
 | .deleted=>true
 | _=>false
def dz:Cell->Bool
 | .empty=>true
 | _=>false
def dX (p:Cell->Bool) (cells:Nat->Cell) (N:Nat):Nat:=(List.range N).countP fun i=>p (cells i)
theorem cI (p:Cell->Bool) (cells:Nat->Cell) (N:Nat):dX p cells (N+1)=dX p cells N+if p (cells N) then 1 else 0:=by
 unfold dX;rw[List.range_succ,List.countP_append,List.countP_singleton]
theorem zA {p:Cell->Bool} {c d:Nat->Cell} {N:Nat} (h:∀ i,i < N->c i=d i):dX p c N=dX p d N:=by
 induction N with
 | zero=>rfl
 | succ N ih=>rw[cI,cI,ih fun i hi=>h i (by omega),h N (by omega)]
theorem jN {p:Cell->Bool} {cells:Nat->Cell} {N i:Nat} (hi:i < N) (c:Cell):dX p (cW cells i c) N+(if p (cells i) then 1 else 0)=dX p cells N+if p c then 1 else 0:=by
 induction N with
 | zero=>omega
 | succ N ih=>
  rw[cI,cI]
  by_cases q:i=N
  ·subst q
   rw[zA (c:=cW cells i c) (d:=cells) (N:=i) fun j hj=>fm _ (by omega) _,ek];omega
  rw[fm _ (by omega)]
  have:=ih (by omega)
  omega
theorem lM (p:Cell->Bool) (cells:Nat->Cell) (N:Nat):dX p cells N<=N:=by
 unfold dX;exact Nat.le_trans List.countP_le_length (by simp)
structure Jf (n:Nat) (T:Tb):Prop where
 mixed:∀ i j,i < 8*n->j < 8*n->i / 8=j / 8->T.cells i=.empty->T.cells j≠.deleted
 used:T.used=((dX isFull T.cells (8*n):Nat):Int)
 left:T.left=7*(n:Int)-((dX isFull T.cells (8*n):Nat):Int)-((dX isDel T.cells (8*n):Nat):Int)
 room:0<=T.left
def reach (n:Nat) (cells:Nat->Cell) (h:Int) (g:Nat):Prop:=∃ j,j < n/\gk (h / 128) n j=g/\∀ i,i < j->fo (h / 128) n cells i=8
structure Je (n:Nat) (H:ByteArray->Int) (cells:Nat->Cell):Prop where
 uniq:∀ i j,i < 8*n->j < 8*n->∀ t k e b t' e' b',cells i=.full t k e b->cells j=.full t' k e' b'->i=j
 tag:∀ i,i < 8*n->∀ t k e b,cells i=.full t k e b->t=H k % 128
 Ah:∀ i,i < 8*n->∀ t k e b,cells i=.full t k e b->reach n cells (H k) (i / 8)
theorem nr {home:Int} {n k:Nat} (hn:0 < n):gk home n k < n:=by
 unfold gk ord
 have h1:=Int.emod_nonneg (home+((k*(k+1) / 2:Nat):Int)) (by omega:(n:Int)≠0)
 have h2:=Int.emod_lt_of_pos (home+((k*(k+1) / 2:Nat):Int)) (by omega:(0:Int) < (n:Int))
 omega
theorem l9 {home:Int} {n k:Nat} (hn:0 < n):((gk home n k:Nat):Int)=ord home n k:=by
 unfold gk ord
 have h1:=Int.emod_nonneg (home+((k*(k+1) / 2:Nat):Int)) (by omega:(n:Int)≠0)
 omega
theorem qo {cs:Nat->Cell} {tag:Int} {key:ByteArray} {i:Nat} (h:mq cs tag key i=true):∃ e b,cs i=.full tag key e b:=by
 unfold mq at h
 split at h
 ·next t k e b hc=>simp only[Bool.and_eq_true,decide_eq_true_eq] at h;obtain⟨rfl,rfl⟩:=h;exact⟨e,b,hc⟩
 cases h
theorem FH {cs:Nat->Cell} {tag:Int} {key:ByteArray} {i:Nat} {e:ByteArray} {b:Int} (h:cs i=.full tag key e b):mq cs tag key i=true:=by
 unfold mq;rw[h];simp
theorem sv {cs:Nat->Cell} {i:Nat}:iD cs i=true↔isFull (cs i)=false:=by unfold iD isFull;cases cs i <;> simp
theorem s9 {cs:Nat->Cell} {i:Nat}:eh cs i=true↔cs i=.empty:=by unfold eh;cases cs i <;> simp
theorem DS {cs:Nat->Cell} {i:Nat} (h:eh cs i=true):iD cs i=true:=by unfold eh iD at *;cases e:cs i <;> rw[e] at h <;> simp_all
section
variable {n:Nat} {cells:Nat->Cell} {h:Int} {key:ByteArray} {H:ByteArray->Int}
theorem Df {g i:Nat} (hg:g < n) (hi:i < 8):8*g+i < 8*n:=by omega
theorem vU {home:Int} {k:Nat} (hv:¬ ez home n cells k < 0):∃ j,j < k/\dm home n cells j < 8/\(∀ i,i < j->dm home n cells i=8)/\ez home n cells k=8*((gk home n j:Nat):Int)+((dm home n cells j:Nat):Int)/\fw home n cells k=eh (ck cells (gk home n j)) (dm home n cells j):=by
 rw[mZ] at hv
 cases e:vT home n cells k with
 | none=>exact absurd e hv
 | some j=>
  have e2:=e
  unfold vT at e
  rw[List.find?_range_eq_some] at e
  obtain⟨h1,h2,h3⟩:=e
  refine⟨j,by simpa using h2,by simpa using h1,fun i hi=>?_,?_,?_⟩
  ·have:=h3 i hi
   have h4:=me (iD (ck cells (gk home n i)))
   simp at this
   unfold dm at this ⊢;omega
  ·unfold ez;rw[e2]
  unfold fw;rw[e2]
theorem vac_no {home:Int} {k:Nat} (hv:ez home n cells k < 0):∀ j,j < k->dm home n cells j=8:=by
 rw[mZ] at hv
 unfold vT at hv
 rw[List.find?_range_eq_none] at hv
 intro j hj
 have:=hv j hj
 have h4:=me (iD (ck cells (gk home n j)))
 simp at this
 unfold dm at this ⊢;omega
theorem C1 {home:Int} {k:Nat} (hv:dm home n cells k=8):fo home n cells k=8:=by
 unfold dm at hv;unfold fo
 rw[iy] at hv ⊢
 intro i hi
 cases q:eh (ck cells (gk home n k)) i with
 | false=>rfl
 | true=>have:=DS q;rw[hv i hi] at this;cases this
end
end TableI
end
end Go.Proofs.YthkajgkagnenbaaGreatDoor
