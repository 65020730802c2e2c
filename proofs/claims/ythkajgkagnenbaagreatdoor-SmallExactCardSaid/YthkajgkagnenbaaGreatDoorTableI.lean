import Derived.Test.YthkajgkagnenbaaGreatDoorMem
import Derived.Test.YthkajgkagnenbaaGreatDoorLayout
set_option linter.unusedVariables false
set_option linter.unusedSimpArgs false
set_option linter.unusedSectionVars false
namespace Go.Proofs.YthkajgkagnenbaaGreatDoor
section
set_option maxRecDepth 100000
namespace Mem
open Go.RowKit Go.Proofs Eng Ty Bits
def dt (vs:List Value) (ss:List ByteArray):HP:=stars (List.zipWith iM vs ss)
theorem AE {vs:List Value} {ss:List ByteArray} {M:List HP} {w:World} (h:Sat (stars (dt vs ss::M)) w) {i:Nat} {v:Value} {s:ByteArray} (hv:vs[i]?=some v) (hs:ss[i]?=some s):∃ M',Sat (stars (iM v s::M')) w:=by
 have h1:=cj.1 h
 have hm:iM v s∈List.zipWith iM vs ss:=by
  have:(List.zipWith iM vs ss)[i]?=some (iM v s):=by rw[List.getElem?_zipWith];simp[hv,hs]
  exact List.mem_of_getElem? this
 obtain⟨A,B,hAB⟩:=List.append_of_mem hm
 rw[hAB] at h1
 exact⟨A ++ B ++ M,h1.perm (by
  rw[List.append_assoc,List.append_assoc]
  exact List.perm_middle)⟩
theorem w9 {L M:List HP} {vs:List Value} {ss:List ByteArray} {i b cap n:Nat} {s:ByteArray} (ht:Take (dt vs ss) L M) (hv:vs[i]?=some (.slice (some ⟨b,0,none⟩) n cap)) (hs:ss[i]?=some s):Reads L ⟨b,0,none⟩ (cw s):=fun w hw j u hu=>by
 obtain⟨M',h⟩:=AE (hw.take ht) hv hs
 have:=sY (L:=iM (.slice (some ⟨b,0,none⟩) n cap) s::M') s.size .here w h j u
 rw[List.take_of_length_le (by rw[fm];omega)] at this
 exact this hu
def cN (s:ByteArray) (i:Nat):Int:=if h:i < s.size then((s[i]'h).toNat:Int) else 0
def fD:List ByteArray→Nat→Int
 | [],_=>0
 | s::r,i=>if i < s.size then cN s i else fD r (i-s.size)
def cP:List ByteArray→Nat
 | []=>0
 | s::r=>s.size+cP r
theorem ma {ss:List ByteArray} {j:Nat} {s:ByteArray} (h:ss[j]?=some s):cP (ss.take (j+1))=cP (ss.take j)+s.size:=by
 induction ss generalizing j with
 | nil=>simp at h
 | cons x r ih=>
  cases j with
  | zero=>simp at h;subst h;simp[cP]
  | succ j=>simp only[List.getElem?_cons_succ] at h;simp only[List.take_succ_cons,cP,ih h];omega
theorem rh (ss:List ByteArray) (j:Nat):cP (ss.take j)≤cP ss:=by
 induction ss generalizing j with
 | nil=>simp[cP]
 | cons x r ih=>
  cases j with
  | zero=>simp[cP]
  | succ j=>simp only[List.take_succ_cons,cP];have:=ih j;omega
theorem rU {ss:List ByteArray} {j:Nat} {s:ByteArray} (h:ss[j]?=some s) {i:Nat} (hi:i < s.size):fD ss (cP (ss.take j)+i)=cN s i:=by
 induction ss generalizing j with
 | nil=>simp at h
 | cons x r ih=>
  cases j with
  | zero=>simp at h;subst h;simp[cP,fD,hi]
  | succ j=>
   simp only[List.getElem?_cons_succ] at h
   simp only[List.take_succ_cons,cP,fD]
   rw[if_neg (by omega),show x.size+cP (List.take j r)+i-x.size=cP (List.take j r)+i by omega]
   exact ih h
theorem kF (s:ByteArray):cw s=bz (cN s) s.size:=by
 apply List.ext_getElem?
 intro i
 by_cases h:i < s.size
 ·rw[vg h,cL h];simp[cN,h]
 rw[List.getElem?_eq_none (by rw[fm];omega),List.getElem?_eq_none (by rw[bL];omega)]
theorem BS {m:Nat→Int} {ss:List ByteArray} {j o n cap:Nat} {s:ByteArray} (h:ss[j]?=some s) (hn:o+cP ss≤n) (hc:n≤cap):
  lay (bz (cl m o (cP (ss.take j)) (fD ss)) n) (dG 0 (o+cP (ss.take j)) cap) (cw s)=bz (cl m o (cP (ss.take (j+1))) (fD ss)) n:=by
 have ht:=ma h
 have hle:=rh ss (j+1)
 rw[kF,kA (by omega) hc]
 congr 1
 funext i
 simp only[cl,ht]
 by_cases q:o+cP (ss.take j)≤i∧i < o+cP (ss.take j)+s.size
 ·rw[if_pos q,if_pos (by omega)]
  have:=rU h (i:=i-(o+cP (ss.take j))) (by omega)
  rw[show cP (ss.take j)+(i-(o+cP (ss.take j)))=i-o by omega] at this
  exact this.symm
 rw[if_neg q]
 by_cases q2:o≤i∧i < o+cP (ss.take j)
 ·rw[if_pos q2,if_pos (by omega)]
 rw[if_neg q2,if_neg (by omega)]
theorem Write_ok (pm g n cap off p k kc:Nat) (m:Nat→Int) (vs:List Value) (ss:List ByteArray) (hn:n≤134217728) (hc:n≤cap) (hk:ss.length=k) (hkb:k≤1000000) (ho:off+cP ss≤n):
  aG Tryz.prog 227 #[.pointer (some ⟨pm,0,none⟩),.int .i64 off,.slice (some ⟨p,0,none⟩) k kc] [pt pm (.cells #[.slice (some ⟨g,0,none⟩) n cap] 189 (0,0)),aE 5 1 (.slice (some ⟨g,0,none⟩) n cap) n (bz m n),aE 117 1 (.slice (some ⟨p,0,none⟩) k kc) k vs,dt vs ss]
   (fun r L=>r=.int .i64 0∧L= [pt pm (.cells #[.slice (some ⟨g,0,none⟩) n cap] 189 (0,0)),aE 5 1 (.slice (some ⟨g,0,none⟩) n cap) n (bz (cl m off (cP ss) (fD ss)) n),aE 117 1 (.slice (some ⟨p,0,none⟩) k kc) k vs,dt vs ss]):=by
 refine aq Fe Tryz.func227 rfl rfl rfl fun Fr w0=>aR ?_
 refine cH (φ:=vs.length=k∧∀(i:Nat) (s:ByteArray),ss[i]?=some s→∃ b c,vs[i]?=some (Value.slice (some ⟨b,0,none⟩) s.size c)) (fun w hw=>?_) fun⟨hvl,hsh⟩=>?_
 ·obtain⟨h1,_⟩:=m5 (hw.take (.there (.there .here)))
  rw[Nat.mul_one] at h1
  refine⟨h1,fun i s hs=>?_⟩
  have hlt:=(List.getElem?_eq_some_iff.1 hs).1
  have hv:vs[i]?=some (vs[i]'(by omega)):=List.getElem?_eq_getElem _
  obtain⟨M',h2⟩:=AE (hw.take (.there (.there (.there .here)))) hv hs
  obtain⟨b,c,_,_,_,h3,_⟩:=o7 h2
  exact⟨b,c,by rw[hv,h3]⟩
 refine sr<|asg rfl rfl<|lz<|asg rfl rfl<|lc<|ah<|sr<|mv rfl rfl<|l_q rfl (ql rfl nZ)<|mv rfl rfl<|lc<|ay ?_
 refine bw (fun j:Nat=>j≤k) (fun j=>[(0,.pointer (some ⟨pm,0,none⟩)),(1,.int .i64 off),(2,.slice (some ⟨p,0,none⟩) k kc),(12,.slice (some ⟨p,0,none⟩) k kc),(13,.int .i64 k),(14,.int .i64 j),(7,.int .i64 (cP (ss.take j)))]) (fun _=>pt pm (.cells #[.slice (some ⟨g,0,none⟩) n cap] 189 (0,0))::aE 5 1 (.slice (some ⟨g,0,none⟩) n cap) n (bz m n)::aE 117 1 (.slice (some ⟨p,0,none⟩) k kc) k vs::dt vs ss::Fr) (fun j=>k-j) 0 (by omega) ⟨rfl,rfl,rfl,rfl,rfl,rfl,rfl,trivial⟩ (Ent.refl _) ?_
 intro j hj
 have hle:=rh ss (j+1)
 refine sr<|l_q rfl (qi rfl rfl (aS ·))<|lc<|ah<|aA rfl (fun h=>?_) fun h=>?_
 ·have hjl:j < ss.length:=by omega
  obtain⟨b,c',hvj⟩:=hsh j ss[j] (List.getElem?_eq_getElem hjl)
  have htt:=ma (List.getElem?_eq_getElem hjl)
  refine al<|ak<|ah<|ay<|sr<|l_q rfl (ax rfl rfl nZ dE (by omega)) ?_
  apply l_q rfl
  ·apply bf rfl eB
   ·exact tk
   rw[Nat.zero_add,Int.toNat_natCast];exact hvj
  refine asg rfl rfl<|lr<|mv rfl rfl<|mv rfl rfl<|l_q rfl (ql rfl ct)<|l_q rfl (ba rfl rfl) ?_
  refine asg rfl rfl<|aj<|aV<|ak<|aB<|l_q rfl (ba rfl rfl) ?_
  refine mv rfl rfl<|aj ?_
  apply aO ((j+1))
  ·exact(show j+1≤k by omega)
  ·omega
  ·exact⟨rfl,rfl,rfl,rfl,rfl,rfl,by rw[htt,Int.natCast_add];rfl,trivial⟩
  exact en
 refine xt rfl<|ak<|ah<|sr<|mv rfl rfl<|mv rfl rfl<|mv rfl rfl ?_
 obtain rfl:j=k:=by omega
 rw[← hk,List.take_length]
 refine lc1 rfl rfl rfl (eQ pm g n cap m _ _ hn) ?_
 refine l_q rfl (cW rfl (ca ·))<|lc<|aA rfl (fun z=>?_) fun z=>?_
 ·simp at z;omega
 refine al<|ak<|ah<|sr<|mv rfl rfl<|l_q rfl (ql rfl nZ)<|mv rfl rfl<|lc<|ay ?_
 refine bw (fun i:Nat=>i≤ss.length) (fun i=>[(0,.pointer (some ⟨pm,0,none⟩)),(1,.int .i64 (off+(cP (ss.take i):Nat))),(28,.slice (some ⟨p,0,none⟩) ss.length kc),(29,.int .i64 ss.length),(30,.int .i64 i)]) (fun i=>pt pm (.cells #[.slice (some ⟨g,0,none⟩) n cap] 189 (0,0))::aE 5 1 (.slice (some ⟨g,0,none⟩) n cap) n (bz (cl m off (cP (ss.take i)) (fD ss)) n)::aE 117 1 (.slice (some ⟨p,0,none⟩) ss.length kc) ss.length vs::dt vs ss::Fr) (fun i=>ss.length-i) 0 (by omega) ⟨rfl,by simp[cP];rfl,rfl,rfl,rfl,trivial⟩ (by simp only[List.take_zero,cP,kz];exact Ent.refl _) ?_
 intro j hj
 have hle:=rh ss (j+1)
 refine sr<|l_q rfl (qi rfl rfl (aS ·))<|lc<|ah<|aA rfl (fun h=>?_) fun h=>?_
 ·have hjl:j < ss.length:=by omega
  obtain⟨b,c',hvj⟩:=hsh j ss[j] (List.getElem?_eq_getElem hjl)
  have htt:=ma (List.getElem?_eq_getElem hjl)
  have hbl:=fm ss[j]
  have hbl':(ss[j].size:Int)=((cw ss[j]).length:Int):=by rw[hbl]
  refine al<|ak<|ah<|ay<|sr<|l_q rfl (ax rfl rfl nZ dE (by omega)) ?_
  apply l_q rfl
  ·apply bf rfl eB
   ·exact tk
   rw[Nat.zero_add,Int.toNat_natCast];exact hvj
  refine asg rfl rfl<|lr<|mv rfl rfl<|mv rfl rfl<|l_q rfl (ad rfl)<|l_q rfl (qfa 0 rfl eY rfl rfl dE)<|l_q rfl (qld rfl eB) ?_
  refine mv rfl rfl<|l_q rfl (ft rfl rfl ct yS5 (by omega)) ?_
  refine mv rfl rfl ?_
  apply rz (cw ss[j]) rfl rfl rfl Tryz.underlying117 (by obtain⟨i,h1,_,h2,_⟩:=yI5;exact⟨i,h1,h2⟩)
  ·exact tk
  ·rw[fm,show((off:Int)+(cP (ss.take j):Nat)).toNat=off+cP (ss.take j) by omega];exact(Nat.min_eq_left (by omega)).symm
  ·exact w9 (i:=j) (.there (.there (.there .here))) hvj (List.getElem?_eq_getElem hjl)
  ·rw[fm,show((off:Int)+(cP (ss.take j):Nat)).toNat=off+cP (ss.take j) by omega];exact kK (by omega) hc
  ·exact o6 _
  refine l_q rfl (ba rfl rfl) ?_
  refine asg rfl rfl<|aj<|aV<|ak<|aB<|l_q rfl (ba rfl rfl) ?_
  refine mv rfl rfl<|aj ?_
  rw[show((off:Int)+(cP (ss.take j):Nat)).toNat=off+cP (ss.take j) by omega,BS (List.getElem?_eq_getElem hjl) ho hc]
  apply aO ((j+1))
  ·exact(show j+1≤ss.length by omega)
  ·omega
  ·exact⟨rfl,by rw[htt,Int.natCast_add,hbl',← Int.add_assoc];rfl,rfl,rfl,rfl,trivial⟩
  exact en
 refine xt rfl<|nz<|asg rfl rfl<|lc<|rt ?_
 obtain rfl:j=ss.length:=by omega
 rw[List.take_length]
 exact fr1 rfl ([pt pm (.cells #[.slice (some ⟨g,0,none⟩) n cap] 189 (0,0)),aE 5 1 (.slice (some ⟨g,0,none⟩) n cap) n (bz (cl m off (cP ss) (fD ss)) n),aE 117 1 (.slice (some ⟨p,0,none⟩) ss.length kc) ss.length vs,dt vs ss]) (.tmp rfl) ⟨rfl,rfl⟩
end Mem
end
section
set_option maxRecDepth 100000
namespace GroupB
open Go.RowKit Go.Proofs Eng Bits Layout Mem CtrlB
def kN (l:Lay):Nat:=l.key.toNat
def eN (l:Lay):Nat:=l.elem.toNat
def eoN (l:Lay):Nat:=l.eo.toNat
def boN (l:Lay):Nat:=l.bo.toNat
def sN (l:Lay):Nat:=l.slot.toNat
def gN (l:Lay):Nat:=l.group.toNat
structure gT (l:Lay):Prop where
 k:((kN l:Nat):Int)=l.key
 e:((eN l:Nat):Int)=l.elem
 eo:((eoN l:Nat):Int)=l.eo
 bo:((boN l:Nat):Int)=l.bo
 s:((sN l:Nat):Int)=l.slot
 g:((gN l:Nat):Int)=l.group
 s_eq:sN l=boN l+8
 g_eq:gN l=8+8*sN l
 k1:1≤kN l∧kN l≤128
 e1:eN l≤128
 eo1:kN l≤eoN l∧eoN l≤kN l+7
 bo1:eoN l+eN l≤boN l∧boN l≤eoN l+eN l+7
theorem eP {l:Lay} (h:l.err=0):gT l:=by
 have b:=Lay.bnd h
 have e1:=gW (n:=l.key) (a:=l.ea) (by omega) (by omega)
 have e2:=gW (n:=l.eo+l.elem) (a:=8) (by omega) (by omega)
 have q1:l.eo=fI l.key l.ea:=rfl
 have q2:l.bo=fI (l.eo+l.elem) 8:=rfl
 constructor <;> simp only[kN,eN,eoN,boN,sN,gN] <;> omega
inductive Cell where
 | empty
 | deleted
 | full (tag:Int) (key elem:ByteArray) (birth:Int)
def Cell.ok (l:Lay):Cell→Prop
 | .full t k e b=>0≤t∧t < 128∧k.size=kN l∧e.size=eN l∧0≤b∧b < 9223372036854775808
 | _=>True
def Cell.ctrl:Cell→Int
 | .empty=>128
 | .deleted=>254
 | .full t _ _ _=>t
theorem Cell.ctrl_bnd {l:Lay} {c:Cell} (h:c.ok l):0≤c.ctrl∧c.ctrl < 256:=by cases c <;> simp only[Cell.ctrl,Cell.ok] at h ⊢ <;> omega
def eS (n:Nat):ByteArray:=⟨(List.replicate n (0:UInt8)).toArray⟩
def oG (b:Int):ByteArray:=dX (bG b) 0 8
theorem fh (n:Nat):(eS n).size=n:=by simp[eS,ByteArray.size]
theorem dH (m:Nat→Int) (o k:Nat):(dX m o k).size=k:=by simp[dX,ByteArray.size]
theorem kW (b:Int):(oG b).size=8:=dH _ _ _
theorem tS (n i:Nat):cN (eS n) i=0:=by
 unfold cN
 split
 ·next h=>simp[eS,ByteArray.getElem_eq_getElem_data]
 rfl
theorem ng (v:Int) (i:Nat):0≤bG v i∧bG v i < 256:=by unfold bG;omega
theorem nA {m:Nat→Int} (hm:∀ i,0≤m i∧m i < 256) (o k:Nat) {i:Nat} (h:i < k):cN (dX m o k) i=m (o+i):=by
 unfold cN
 rw[dif_pos (by rw[dH];exact h)]
 have:=hm (o+i)
 simp only[dX,ByteArray.getElem_eq_getElem_data,List.getElem_toArray,List.getElem_map,List.getElem_range,UInt8.toNat_ofNat']
 omega
theorem o8 (b:Int) {i:Nat} (h:i < 8):cN (oG b) i=bG b i:=by
 unfold oG;rw[nA (ng b) _ _ h,Nat.zero_add]
theorem vi (s:ByteArray) (i:Nat):0≤cN s i∧cN s i < 256:=by
 unfold cN
 split
 ·next h=>have:=(s[i]'h).toNat_lt;omega
 omega
theorem Bv {s t:ByteArray} (hs:s.size=t.size) (h:∀ i,i < s.size→cN s i=cN t i):s=t:=by
 apply ByteArray.ext
 apply Array.ext
 ·exact hs
 intro i h1 h2
 have:=h i h1
 unfold cN at this
 rw[dif_pos (show i < s.size from h1),dif_pos (show i < t.size from h2)] at this
 simp only[ByteArray.getElem_eq_getElem_data] at this
 exact UInt8.toNat_inj.1 (by exact_mod_cast this)
theorem rj {m:Nat→Int} (hm:∀ i,0≤m i∧m i < 256) {o:Nat} {s:ByteArray} (h:∀ i,i < s.size→m (o+i)=cN s i):dX m o s.size=s:=
 Bv (dH _ _ _) fun i hi=>by rw[dH] at hi;rw[nA hm _ _ hi];exact h i hi
theorem Cc (ss:List ByteArray):∀ i,0≤fD ss i∧fD ss i < 256:=by
 induction ss with
 | nil=>intro i;simp[fD]
 | cons s r ih=>intro i;simp only[fD];split;exact vi _ _;exact ih _
def parts (l:Lay) (k e:ByteArray) (b:Int):List ByteArray:=[k,eS (eoN l-kN l),e,eS (boN l-eoN l-eN l),oG b]
theorem wR {l:Lay} (h:gT l) {k e:ByteArray} (hk:k.size=kN l) (he:e.size=eN l) (b:Int):cP (parts l k e b)=sN l:=by
 have:=h.eo1;have:=h.bo1;have:=h.s_eq
 simp only[parts,cP,hk,he,fh,kW];omega
def lX (l:Lay) (c:Cell) (r:Nat):Int:=match c with
 | .full _ k e b=>fD (parts l k e b) r
 | _=>0
def df (l:Lay) (cs:Nat→Cell) (j:Nat):Int:=if j < 8 then(cs j).ctrl else lX l (cs ((j-8) / sN l)) ((j-8) % sN l)
theorem Af (l:Lay) (c:Cell) (r:Nat):0≤lX l c r∧lX l c r < 256:=by
 unfold lX
 split
 ·exact Cc _ _
 omega
theorem oX {l:Lay} {cs:Nat→Cell} (h:∀ i,i < 8→(cs i).ok l) (j:Nat):0≤df l cs j∧df l cs j < 256:=by
 unfold df
 split
 ·exact Cell.ctrl_bnd (h j (by assumption))
 exact Af _ _ _
theorem jm {l:Lay} (cs:Nat→Cell) {i:Nat} (h:i < 8):df l cs i=(cs i).ctrl:=by unfold df;rw[if_pos h]
theorem j5 {s i r:Nat} (hr:r < s):(i*s+r) / s=i∧(i*s+r) % s=r:=by
 constructor
 ·rw[Nat.add_comm,Nat.add_mul_div_right _ _ (by omega),Nat.div_eq_of_lt hr];omega
 rw[Nat.add_comm,Nat.add_mul_mod_self_right,Nat.mod_eq_of_lt hr]
theorem k8 {l:Lay} (cs:Nat→Cell) {i r:Nat} (hr:r < sN l):df l cs (8+i*sN l+r)=lX l (cs i) r:=by
 unfold df
 obtain⟨h1,h2⟩:=j5 (i:=i) hr
 rw[if_neg (by omega),show 8+i*sN l+r-8=i*sN l+r by omega,h1,h2]
theorem tO {l:Lay} (h:gT l) {t:Int} {k e:ByteArray} {b:Int} (hk:k.size=kN l) {i:Nat} (hi:i < k.size):lX l (.full t k e b) i=cN k i:=by
 have:=rU (ss:=parts l k e b) (j:=0) (s:=k) rfl hi
 simpa [lX,parts,cP] using this
theorem qK {l:Lay} (h:gT l) {t:Int} {k e:ByteArray} {b:Int} (hk:k.size=kN l) {i:Nat} (hi:i < e.size):lX l (.full t k e b) (eoN l+i)=cN e i:=by
 have:=rU (ss:=parts l k e b) (j:=2) (s:=e) rfl hi
 have h1:=h.eo1
 simp only[parts,List.take_succ_cons,List.take_zero,cP,fh,hk] at this
 rw[show kN l+(eoN l-kN l+0)+i=eoN l+i by omega] at this
 exact this
theorem u3 {l:Lay} (h:gT l) {t:Int} {k e:ByteArray} {b:Int} (hk:k.size=kN l) (he:e.size=eN l) {i:Nat} (hi:i < 8):lX l (.full t k e b) (boN l+i)=bG b i:=by
 have:=rU (ss:=parts l k e b) (j:=4) (s:=oG b) rfl (by rw[kW];exact hi)
 have h1:=h.eo1;have h2:=h.bo1
 simp only[parts,List.take_succ_cons,List.take_zero,cP,fh,hk,he] at this
 rw[show kN l+(eoN l-kN l+(eN l+(boN l-eoN l-eN l+0)))+i=boN l+i by omega,o8 b hi] at this
 exact this
def GAt (m:Nat→Int) (off:Nat) (l:Lay) (cs:Nat→Cell):Prop:=∀ j,j < gN l→m (off+j)=df l cs j
def bU (cs:Nat→Cell) (i:Nat) (c:Cell):Nat→Cell:=fun j=>if j=i then c else cs j
theorem fp (cs:Nat→Cell) (i:Nat) (c:Cell):bU cs i c i=c:=by simp[bU]
theorem gi (cs:Nat→Cell) {i j:Nat} (h:j≠i) (c:Cell):bU cs i c j=cs j:=by simp[bU,h]
theorem GAt.ctrl {m:Nat→Int} {off:Nat} {l:Lay} {cs:Nat→Cell} (h:GAt m off l cs) (hl:gT l) {i:Nat} (hi:i < 8):m (off+i)=(cs i).ctrl:=by
 rw[h i (by have:=hl.g_eq;have:=hl.s_eq;omega),jm cs hi]
theorem kO {l:Lay} (hl:gT l) {i r:Nat} (hi:i < 8) (hr:r < sN l):8+i*sN l+r < gN l:=by
 have h1:i*sN l≤7*sN l:=Nat.mul_le_mul_right _ (by omega)
 have:=hl.g_eq
 omega
theorem GAt.slot {m:Nat→Int} {off:Nat} {l:Lay} {cs:Nat→Cell} (h:GAt m off l cs) (hl:gT l) {i r:Nat} (hi:i < 8) (hr:r < sN l):m (off+(8+i*sN l+r))=lX l (cs i) r:=by
 rw[h _ (kO hl hi hr),k8 cs hr]
theorem gI {m f:Nat→Int} {o k a:Nat} (h1:o≤a) (h2:a < o+k):cl m o k f a=f (a-o):=by unfold cl;rw[if_pos ⟨h1,h2⟩]
theorem bN {m f:Nat→Int} {o k a:Nat} (h:a < o∨o+k≤a):cl m o k f a=m a:=by unfold cl;rw[if_neg (by omega)]
theorem nO {l:Lay} (hl:gT l) {j:Nat} (h1:8≤j) (h2:j < gN l):∃ i r,i < 8∧r < sN l∧j=8+i*sN l+r:=by
 have hs:=hl.s_eq
 have hg:=hl.g_eq
 refine⟨(j-8) / sN l,(j-8) % sN l,?_,Nat.mod_lt _ (by omega),?_⟩
 ·exact Nat.div_lt_of_lt_mul (by rw[Nat.mul_comm];omega)
 have:=Nat.div_add_mod (j-8) (sN l)
 rw[Nat.mul_comm] at this
 omega
theorem tc {m f w:Nat→Int} {off:Nat} {l:Lay} {cs:Nat→Cell} (hl:gT l) (h:GAt m off l cs) {i:Nat} (hi:i < 8) (c:Cell) (hf:∀ r,r < sN l→f r=lX l c r) (hw:∀ j,j < 8→w j=if j=i then c.ctrl else(cs j).ctrl):
  cl (cl m (off+(8+i*sN l)) (sN l) f) off 8 w=cl m off (gN l) (df l (bU cs i c)):=by
 funext a
 have hg:=hl.g_eq
 by_cases q1:a < off∨off+gN l≤a
 ·have h1:i*sN l≤7*sN l:=Nat.mul_le_mul_right _ (by omega)
  rw[bN (by omega),bN (by omega),bN q1]
 rw[gI (o:=off) (k:=gN l) (by omega) (by omega)]
 by_cases q2:a-off < 8
 ·rw[gI (by omega) (by omega),hw _ q2,jm _ q2]
  by_cases q3:a-off=i
  ·rw[if_pos q3,q3,fp]
  rw[if_neg q3,gi _ q3]
 obtain⟨i',r,hi',hr,e⟩:=nO hl (by omega:8≤a-off) (by omega)
 rw[bN (by omega),e,k8 _ hr]
 by_cases q3:i'=i
 ·subst q3
  rw[gI (by omega) (by omega),fp,show a-(off+(8+i'*sN l))=r by omega,hf r hr]
 rw[gi _ q3,bN,show a=off+(8+i'*sN l+r) by omega,h.slot hl hi' hr]
 rcases Nat.lt_or_ge i' i with q4 | q4
 ·have:=Nat.mul_le_mul_right (sN l) (show i'+1≤i by omega);rw[Nat.add_mul] at this;omega
 have:=Nat.mul_le_mul_right (sN l) (show i+1≤i' by omega);rw[Nat.add_mul] at this;omega
theorem te {m:Nat→Int} {off:Nat} {l:Lay} {cs:Nat→Cell} (hl:gT l) (h:GAt m off l cs) {i:Nat} (hi:i < 8) {t:Int} {k e e':ByteArray} {b:Int} (hc:cs i=.full t k e b) (hk:k.size=kN l) (he:e.size=eN l) (he':e'.size=eN l):
  cl m (off+(8+i*sN l+eoN l)) (eN l) (cN e')=cl m off (gN l) (df l (bU cs i (.full t k e' b))):=by
 funext a
 have hg:=hl.g_eq;have hs:=hl.s_eq;have he1:=hl.eo1;have hb1:=hl.bo1
 have h1:i*sN l≤7*sN l:=Nat.mul_le_mul_right _ (by omega)
 by_cases q1:a < off∨off+gN l≤a
 ·rw[bN (by omega),bN q1]
 rw[gI (o:=off) (k:=gN l) (by omega) (by omega)]
 by_cases q2:a-off < 8
 ·rw[bN (by omega),jm _ q2,show a=off+(a-off) by omega,h.ctrl hl q2,show off+(a-off)-off=a-off by omega]
  by_cases q3:a-off=i
  ·rw[q3,fp,hc];rfl
  rw[gi _ q3]
 obtain⟨i',r,hi',hr,e0⟩:=nO hl (by omega:8≤a-off) (by omega)
 rw[e0,k8 _ hr]
 have ha:a=off+(8+i'*sN l+r):=by omega
 by_cases q3:i'=i
 ·subst q3
  rw[fp]
  by_cases q4:eoN l≤r∧r < eoN l+eN l
  ·rw[gI (by omega) (by omega),show a-(off+(8+i'*sN l+eoN l))=r-eoN l by omega]
   have:=qK hl (t:=t) (k:=k) (e:=e') (b:=b) hk (i:=r-eoN l) (by omega)
   rw[show eoN l+(r-eoN l)=r by omega] at this
   exact this.symm
  rw[bN (by omega),ha,h.slot hl hi' hr,hc]
  simp only[lX,parts,fD]
  rw[hk,fh,he,he']
  by_cases q5:r < kN l
  ·rw[if_pos q5,if_pos q5]
  rw[if_neg q5,if_neg q5]
  by_cases q6:r-kN l < eoN l-kN l
  ·rw[if_pos q6,if_pos q6]
  have q7:¬ r-kN l-(eoN l-kN l) < eN l:=by omega
  rw[if_neg q6,if_neg q6,if_neg q7,if_neg q7]
 rw[gi _ q3,bN,ha,h.slot hl hi' hr]
 rcases Nat.lt_or_ge i' i with q4 | q4
 ·have:=Nat.mul_le_mul_right (sN l) (show i'+1≤i by omega);rw[Nat.add_mul] at this;omega
 have:=Nat.mul_le_mul_right (sN l) (show i+1≤i' by omega);rw[Nat.add_mul] at this;omega
theorem xd {m w:Nat→Int} {off:Nat} {l:Lay} (hl:gT l) (hw:∀ j,j < 8→w j=128):cl (cl m off (gN l) (fun _=>0)) off 8 w=cl m off (gN l) (df l fun _=>.empty):=by
 funext a
 have hg:=hl.g_eq
 by_cases q1:a < off∨off+gN l≤a
 ·rw[bN (by omega),bN q1,bN q1]
 rw[gI (o:=off) (k:=gN l) (f:=df l fun _=>.empty) (by omega) (by omega)]
 by_cases q2:a-off < 8
 ·rw[gI (by omega) (by omega),hw _ q2,jm _ q2];rfl
 rw[bN (by omega),gI (by omega) (by omega)]
 unfold df;rw[if_neg q2];try rfl
theorem GAt.lay {m:Nat→Int} {off:Nat} {l:Lay} (cs:Nat→Cell):GAt (cl m off (gN l) (df l cs)) off l cs:=fun j hj=>by
 rw[gI (by omega) (by omega)];congr 1;omega
theorem GAt.out {m f:Nat→Int} {off o k:Nat} {l:Lay} {cs:Nat→Cell} (h:GAt m off l cs) (hd:off+gN l≤o∨o+k≤off):GAt (cl m o k f) off l cs:=fun j hj=>by
 rw[bN (by omega)];exact h j hj
theorem cI {m m':Nat→Int} {o o':Nat}:∀ {k:Nat},(∀ i,i < k→m (o+i)=m' (o'+i))→cX m o k=cX m' o' k
 | 0,_=>rfl
 | k+1,h=>by simp only[cX];rw[h k (by omega),cI (k:=k) fun i hi=>h i (by omega)]
theorem fv (v:Int):∀ k,cX (bG v) 0 k=v % 2 ^ (8*k)
 | 0=>by simp[cX]
 | k+1=>by
  simp only[cX,Nat.zero_add]
  rw[fv v k]
  have hp:(0:Int) < 2 ^ (8*k):=Int.pow_pos (by decide)
  have e:(2:Int) ^ (8*(k+1))=2 ^ (8*k)*256:=by rw[show 8*(k+1)=8*k+8 by omega,Int.pow_add];rfl
  rw[e]
  unfold bG
  generalize (2:Int) ^ (8*k)=p at *
  have h1:=Int.mul_ediv_add_emod v p
  have h2:=Int.mul_ediv_add_emod (v / p) 256
  have h3:=Int.emod_nonneg v (by omega:p≠0)
  have h4:=Int.emod_lt_of_pos v hp
  have h5:=Int.emod_nonneg (v / p) (by omega:(256:Int)≠0)
  have h6:=Int.emod_lt_of_pos (v / p) (by omega:(0:Int) < 256)
  have key:v=p*256*(v / p / 256)+(v % p+v / p % 256*p):=by
   have:p*(v / p)=p*(256*(v / p / 256))+p*(v / p % 256):=by rw[← Int.mul_add,h2]
   have a1:p*(256*(v / p / 256))=p*256*(v / p / 256):=(Int.mul_assoc _ _ _).symm
   have a2:p*(v / p % 256)=v / p % 256*p:=Int.mul_comm _ _
   omega
  have b1:0≤v / p % 256*p:=Int.mul_nonneg h5 (by omega)
  have b2:v / p % 256*p≤255*p:=Int.mul_le_mul_of_nonneg_right (by omega) (by omega)
  have hq:v % (p*256)=v % p+v / p % 256*p:=by
   conv=>lhs;rw[key]
   rw[Int.add_emod,Int.mul_emod_right,Int.zero_add,Int.emod_emod]
   exact Int.emod_eq_of_lt (by omega) (by omega)
  exact hq.symm
end GroupB
end
section
set_option maxRecDepth 100000
namespace TableB
open Go.RowKit Go.Proofs Eng Bits Layout Mem CtrlB GroupB Probe
structure Tb where
 kind:Int
 pins:Int
 next:Int
 used:Int
 left:Int
 depth:Int
 cells:Nat→Cell
def dQ (T:Tb) (n go:Nat):Nat→Int
 | 0=>T.kind
 | 1=>T.pins
 | 2=>T.next
 | 3=>T.used
 | 4=>8*(n:Int)
 | 5=>T.left
 | 6=>T.depth
 | 7=>(go:Int)
 | _=>0
def cy (cells:Nat→Cell) (g:Nat):Nat→Cell:=fun i=>cells (8*g+i)
structure TAt (m:Nat→Int) (off go:Nat) (l:Lay) (n:Nat) (T:Tb):Prop where
 head:∀ k,k < 8→cX m (off+8*k) 8=IntKind.u64.wrap (dQ T n go k)
 body:∀ g,g < n→GAt m (go+g*gN l) l (cy T.cells g)
 okc:∀ i,i < 8*n→(T.cells i).ok l
def fa (cs:Nat→Cell) (tag:Int) (key:ByteArray) (i:Nat):Bool:=match cs i with
 | .full t k _ _=>decide (t=tag) && decide (k=key)
 | _=>false
def eA (cs:Nat→Cell) (i:Nat):Bool:=match cs i with
 | .full _ _ _ _=>false
 | _=>true
def fX (cs:Nat→Cell) (i:Nat):Bool:=match cs i with
 | .empty=>true
 | _=>false
theorem dJ (s:Nat→Bool):bB s≤8:=by
 unfold bB
 cases h:bA s with
 | nil=>simp
 | cons a r=>
  have:=(dp (s:=s) (i:=a)).1 (by rw[h];simp)
  simp;omega
theorem gY {s:Nat→Bool} (h:bB s < 8):s (bB s)=true:=by
 unfold bB at h ⊢
 cases e:bA s with
 | nil=>rw[e] at h;simp at h
 | cons a r=>
  have:=(dp (s:=s) (i:=a)).1 (by rw[e];simp)
  simpa using this.2
theorem gC {s:Nat→Bool}:bB s=8↔∀ i,i < 8→s i=false:=by
 constructor
 ·intro h i hi
  cases e:bA s with
  | nil=>
   cases q:s i with
   | false=>rfl
   | true=>have:=(dp (s:=s) (i:=i)).2 ⟨hi,q⟩;rw[e] at this;cases this
  | cons a r=>
   have:=(dp (s:=s) (i:=a)).1 (by rw[e];simp)
   unfold bB at h;rw[e] at h;simp at h;omega
 intro h
 have:bA s= []:=by
  cases e:bA s with
  | nil=>rfl
  | cons a r=>
   have:=(dp (s:=s) (i:=a)).1 (by rw[e];simp)
   rw[h a this.1] at this;cases this.2
 unfold bB;rw[this];rfl
theorem oS {s:Nat→Bool} {i:Nat} (hi:i < 8) (h:s i=true):bB s < 8:=by
 have h1:=dJ s
 rcases Nat.lt_or_ge (bB s) 8 with q | q
 ·exact q
 have:=(gC (s:=s)).1 (by omega) i hi
 rw[h] at this;cases this
theorem rO {s:Nat→Bool} {j:Nat} (h:j < bB s):s j=false:=by
 have hle:=dJ s
 cases q:s j with
 | false=>rfl
 | true=>
  exfalso
  have hm:j∈bA s:=dp.2 ⟨by omega,q⟩
  unfold bB at h
  have hp:(bA s).Pairwise (· < ·):=(List.pairwise_lt_range (n:=8)).filter _
  cases e:bA s with
  | nil=>rw[e] at hm;cases hm
  | cons a r=>
   rw[e] at hm h hp
   simp at h
   rcases List.mem_cons.1 hm with rfl | hm
   ·omega
   have:=List.rel_of_pairwise_cons hp hm
   omega
theorem ji {s:Nat→Bool} {i:Nat} (hi:i < 8) (h:s i=true) (hn:∀ j,j < i→s j=false):bB s=i:=by
 have h1:=oS hi h
 rcases Nat.lt_trichotomy (bB s) i with q | q | q
 ·have:=hn _ q;rw[gY h1] at this;cases this
 ·exact q
 have:=rO q;rw[h] at this;cases this
section
variable (home:Int) (n:Nat) (cells:Nat→Cell) (tag:Int) (key:ByteArray)
def gk (k:Nat):Nat:=(ord home n k).toNat
def dU (k:Nat):Nat:=bB (fa (cy cells (gk home n k)) tag key)
def cK (k:Nat):Nat:=bB (eA (cy cells (gk home n k)))
def ey (k:Nat):Nat:=bB (fX (cy cells (gk home n k)))
def dN (k:Nat):Bool:=decide (dU home n cells tag key k < 8) || decide (ey home n cells k < 8)
def vst (k:Nat):Option Nat:=(List.range k).find? fun j=>decide (cK home n cells j < 8)
def dK (k:Nat):Int:=match vst home n cells k with
 | some j=>8*((gk home n j:Nat):Int)+((cK home n cells j:Nat):Int)
 | none=>-1
def eD (k:Nat):Bool:=match vst home n cells k with
 | some j=>fX (cy cells (gk home n j)) (cK home n cells j)
 | none=>false
structure Fnd where
 slot:Int
 vac:Int
 emp:Bool
 probes:Int
def bt:Fnd:=match (List.range n).find? (dN home n cells tag key) with
 | some j=>if dU home n cells tag key j < 8 then⟨8*((gk home n j:Nat):Int)+((dU home n cells tag key j:Nat):Int),dK home n cells j,eD home n cells j,(j:Int)+1⟩
  else⟨-1,dK home n cells (j+1),eD home n cells (j+1),(j:Int)+1⟩
 | none=>⟨-1,dK home n cells n,eD home n cells n,n⟩
end
section
variable {home:Int} {n:Nat} {cells:Nat→Cell} {tag:Int} {key:ByteArray}
theorem sA (k:Nat):vst home n cells (k+1)=match vst home n cells k with | some j=>some j | none=>if cK home n cells k < 8 then some k else none:=by
 unfold vst
 rw[List.range_succ,List.find?_append]
 cases (List.range k).find? fun j=>decide (cK home n cells j < 8) with
 | some j=>rfl
 | none=>
  simp only[List.find?_cons,List.find?_nil,Option.none_or]
  by_cases q:cK home n cells k < 8 <;> simp[q]
theorem l9 {k:Nat}:dK home n cells k < 0↔vst home n cells k=none:=by
 unfold dK
 cases vst home n cells k with
 | some j=>simp;omega
 | none=>simp
theorem yL {k:Nat} (h1:dK home n cells k < 0) (h2:cK home n cells k < 8):dK home n cells (k+1)=8*((gk home n k:Nat):Int)+((cK home n cells k:Nat):Int)∧eD home n cells (k+1)=fX (cy cells (gk home n k)) (cK home n cells k):=by
 have:=sA (home:=home) (n:=n) (cells:=cells) k
 rw[l9.1 h1] at this
 simp only[if_pos h2] at this
 unfold dK eD
 rw[this];exact⟨rfl,rfl⟩
theorem sB {k:Nat} (h:¬ dK home n cells k < 0∨¬ cK home n cells k < 8):dK home n cells (k+1)=dK home n cells k∧eD home n cells (k+1)=eD home n cells k:=by
 have:=sA (home:=home) (n:=n) (cells:=cells) k
 unfold dK eD
 cases e:vst home n cells k with
 | some j=>rw[e] at this;rw[this];exact⟨rfl,rfl⟩
 | none=>
  rw[e] at this
  have h2:¬ cK home n cells k < 8:=by
   rcases h with h | h
   ·exact absurd (l9.2 e) h
   exact h
  simp only[if_neg h2] at this
  rw[this];exact⟨rfl,rfl⟩
theorem jK {n k:Nat} {p:Nat→Bool} (hk:k < n) (hp:p k=true) (hn:∀ j,j < k→p j=false):(List.range n).find? p=some k:=by
 rw[List.find?_range_eq_some]
 exact⟨hp,by simpa using hk,fun j hj=>by simp[hn j hj]⟩
theorem lL {k:Nat} (hk:k < n) (hn:∀ j,j < k→dN home n cells tag key j=false) (hh:dU home n cells tag key k < 8):
  bt home n cells tag key=⟨8*((gk home n k:Nat):Int)+((dU home n cells tag key k:Nat):Int),dK home n cells k,eD home n cells k,(k:Int)+1⟩:=by
 unfold bt
 rw[jK hk (by unfold dN;simp[hh]) hn]
 simp only[if_pos hh]
theorem ie {k:Nat} (hk:k < n) (hn:∀ j,j < k→dN home n cells tag key j=false) (hh:¬ dU home n cells tag key k < 8) (he:ey home n cells k < 8):
  bt home n cells tag key=⟨-1,dK home n cells (k+1),eD home n cells (k+1),(k:Int)+1⟩:=by
 unfold bt
 rw[jK hk (by unfold dN;simp[he]) hn]
 simp only[if_neg hh]
theorem j9 (hn:∀ j,j < n→dN home n cells tag key j=false):bt home n cells tag key=⟨-1,dK home n cells n,eD home n cells n,n⟩:=by
 unfold bt
 have:(List.range n).find? (dN home n cells tag key)=none:=by
  rw[List.find?_range_eq_none]
  intro j hj;simp[hn j hj]
 rw[this]
theorem jB (home:Int) (n:Nat) (cells:Nat→Cell) (tag:Int) (key:ByteArray):
  (∃ k,k < n∧(∀ j,j < k→dN home n cells tag key j=false)∧dU home n cells tag key k < 8∧bt home n cells tag key=⟨8*((gk home n k:Nat):Int)+((dU home n cells tag key k:Nat):Int),dK home n cells k,eD home n cells k,(k:Int)+1⟩)∨
  (∃ k,k < n∧(∀ j,j < k→dN home n cells tag key j=false)∧¬ dU home n cells tag key k < 8∧ey home n cells k < 8∧bt home n cells tag key=⟨-1,dK home n cells (k+1),eD home n cells (k+1),(k:Int)+1⟩)∨
  ((∀ j,j < n→dN home n cells tag key j=false)∧bt home n cells tag key=⟨-1,dK home n cells n,eD home n cells n,n⟩):=by
 cases e:(List.range n).find? (dN home n cells tag key) with
 | none=>
  rw[List.find?_range_eq_none] at e
  have hn:∀ j,j < n→dN home n cells tag key j=false:=fun j hj=>by simpa using e j hj
  exact .inr (.inr ⟨hn,j9 hn⟩)
 | some k=>
  rw[List.find?_range_eq_some] at e
  obtain⟨h1,h2,h3⟩:=e
  have hk:k < n:=by simpa using h2
  have hn:∀ j,j < k→dN home n cells tag key j=false:=fun j hj=>by simpa using h3 j hj
  by_cases hh:dU home n cells tag key k < 8
  ·exact .inl ⟨k,hk,hn,hh,lL hk hn hh⟩
  have he:ey home n cells k < 8:=by unfold dN at h1;simpa [hh] using h1
  exact .inr (.inl ⟨k,hk,hn,hh,he,ie hk hn hh he⟩)
end
theorem xC {T T':Tb} {n go k:Nat} {v:Int} {m:Nat→Int} {off:Nat} (h:∀ j,j < 8→cX m (off+8*j) 8=IntKind.u64.wrap (dQ T n go j)) (hk:k < 8) (hv:dQ T' n go k=v) (ho:∀ j,j < 8→j≠k→dQ T' n go j=dQ T n go j):
  ∀ j,j < 8→cX (cl m (off+8*k) 8 (bG (IntKind.u64.wrap v))) (off+8*j) 8=IntKind.u64.wrap (dQ T' n go j):=by
 intro j hj
 by_cases q:j=k
 ·subst q
  rw[cI (m':=bG (IntKind.u64.wrap v)) (o':=0) fun i hi=>by rw[gI (by omega) (by omega)];congr 1;omega]
  rw[fv,hv,IntKind.wrap_u64]
  omega
 rw[ho j hj q,← h j hj]
 exact cI fun i hi=>by rw[bN];omega
theorem TAt.set {m:Nat→Int} {off go:Nat} {l:Lay} {n:Nat} {T T':Tb} (h:TAt m off go l n T) (hd:off+64≤go∨go+n*gN l≤off) {k:Nat} (hk:k < 8) {v:Int} (hv:dQ T' n go k=v) (ho:∀ j,j < 8→j≠k→dQ T' n go j=dQ T n go j) (hc:T'.cells=T.cells):
  TAt (cl m (off+8*k) 8 (bG (IntKind.u64.wrap v))) off go l n T':=by
 refine⟨xC h.head hk hv ho,fun g hg=>?_,by rw[hc];exact h.okc⟩
 rw[hc]
 refine GAt.out (h.body g hg) ?_
 have:g*gN l+gN l≤n*gN l:=by have:=Nat.mul_le_mul_right (gN l) (show g+1≤n by omega);rw[Nat.add_mul] at this;omega
 omega
theorem TAt.grp {m:Nat→Int} {off go:Nat} {l:Lay} {n:Nat} {T T':Tb} (h:TAt m off go l n T) (hd:off+64≤go∨go+n*gN l≤off) {g:Nat} (hg:g < n) {cs:Nat→Cell} (hcs:∀ i,i < 8→(cs i).ok l)
  (hv:∀ k,k < 8→dQ T' n go k=dQ T n go k) (hc:∀ i,T'.cells i=if i / 8=g then cs (i % 8) else T.cells i) (hl:gT l):
  TAt (cl m (go+g*gN l) (gN l) (df l cs)) off go l n T':=by
 have hgl:g*gN l+gN l≤n*gN l:=by have:=Nat.mul_le_mul_right (gN l) (show g+1≤n by omega);rw[Nat.add_mul] at this;omega
 refine⟨fun k hk=>?_,fun g' hg'=>?_,fun i hi=>?_⟩
 ·rw[hv k hk,← h.head k hk]
  exact cI fun i hi=>by rw[bN];omega
 ·by_cases q:g'=g
  ·subst q
   intro j hj
   rw[GAt.lay cs j hj]
   have e:∀ i,i < 8→cy T'.cells g' i=cs i:=fun i hi=>by
    show T'.cells (8*g'+i)=_
    rw[hc,if_pos (by omega)];congr 1;omega
   unfold df
   split
   ·next hj8=>rw[e _ hj8]
   next hj8=>
   obtain⟨i,r,hi,hr,e0⟩:=nO hl (by omega:8≤j) hj
   obtain⟨d1,d2⟩:=j5 (i:=i) hr
   rw[show j-8=i*sN l+r by omega,d1,e i hi]
  have e:cy T'.cells g'=fun i=>if i < 8 then cy T.cells g' i else T'.cells (8*g'+i):=by
   funext i
   split
   ·next hi=>show T'.cells (8*g'+i)=T.cells (8*g'+i);rw[hc,if_neg (by omega)]
   rfl
  have hb:=(h.body g' hg').out (o:=go+g*gN l) (k:=gN l) (f:=df l cs) (by
   rcases Nat.lt_or_ge g' g with q2 | q2
   ·have:=Nat.mul_le_mul_right (gN l) (show g'+1≤g by omega);rw[Nat.add_mul] at this;omega
   have:=Nat.mul_le_mul_right (gN l) (show g+1≤g' by omega);rw[Nat.add_mul] at this;omega)
  intro j hj
  rw[hb j hj]
  have e2:∀ i,i < 8→cy T'.cells g' i=cy T.cells g' i:=fun i hi=>by
   show T'.cells (8*g'+i)=T.cells (8*g'+i);rw[hc,if_neg (by omega)]
  unfold df
  split
  ·next hj8=>rw[e2 _ hj8]
  next hj8=>
  obtain⟨i,r,hi,hr,e0⟩:=nO hl (by omega:8≤j) hj
  obtain⟨d1,d2⟩:=j5 (i:=i) hr
  rw[show j-8=i*sN l+r by omega,d1,e2 i hi]
 rw[hc]
 split
 ·exact hcs _ (Nat.mod_lt _ (by decide))
 exact h.okc i hi
end TableB
end
section
set_option maxRecDepth 100000
namespace TableI
open Go.RowKit Go.Proofs Eng Bits Layout Mem CtrlB GroupB Probe TableB
def isFull:Cell→Bool
 | .full _ _ _ _=>true
 | _=>false
def lA:Cell→Bool
 | .deleted=>true
 | _=>false
def dZ:Cell→Bool
 | .empty=>true
 | _=>false
def cnt (p:Cell→Bool) (cells:Nat→Cell) (N:Nat):Nat:=(List.range N).countP fun i=>p (cells i)
theorem ff (p:Cell→Bool) (cells:Nat→Cell) (N:Nat):cnt p cells (N+1)=cnt p cells N+if p (cells N) then 1 else 0:=by
 unfold cnt;rw[List.range_succ,List.countP_append,List.countP_singleton]
theorem xS {p:Cell→Bool} {c d:Nat→Cell} {N:Nat} (h:∀ i,i < N→c i=d i):cnt p c N=cnt p d N:=by
 induction N with
 | zero=>rfl
 | succ N ih=>rw[ff,ff,ih fun i hi=>h i (by omega),h N (by omega)]
theorem mC {p:Cell→Bool} {cells:Nat→Cell} {N i:Nat} (hi:i < N) (c:Cell):cnt p (bU cells i c) N+(if p (cells i) then 1 else 0)=cnt p cells N+if p c then 1 else 0:=by
 induction N with
 | zero=>omega
 | succ N ih=>
  rw[ff,ff]
  by_cases q:i=N
  ·subst q
   rw[xS (c:=bU cells i c) (d:=cells) (N:=i) fun j hj=>gi _ (by omega) _,fp];omega
  rw[gi _ (by omega)]
  have:=ih (by omega)
  omega
theorem rS (p:Cell→Bool) (cells:Nat→Cell) (N:Nat):cnt p cells N≤N:=by
 unfold cnt;exact Nat.le_trans List.countP_le_length (by simp)
structure HY (n:Nat) (T:Tb):Prop where
 mixed:∀ i j,i < 8*n→j < 8*n→i / 8=j / 8→T.cells i=.empty→T.cells j≠.deleted
 used:T.used=((cnt isFull T.cells (8*n):Nat):Int)
 left:T.left=7*(n:Int)-((cnt isFull T.cells (8*n):Nat):Int)-((cnt lA T.cells (8*n):Nat):Int)
 room:0≤T.left
def reach (n:Nat) (cells:Nat→Cell) (h:Int) (g:Nat):Prop:=∃ j,j < n∧gk (h / 128) n j=g∧∀ i,i < j→ey (h / 128) n cells i=8
structure HX (n:Nat) (H:ByteArray→Int) (cells:Nat→Cell):Prop where
 uniq:∀ i j,i < 8*n→j < 8*n→∀ t k e b t' e' b',cells i=.full t k e b→cells j=.full t' k e' b'→i=j
 tag:∀ i,i < 8*n→∀ t k e b,cells i=.full t k e b→t=H k % 128
 way:∀ i,i < 8*n→∀ t k e b,cells i=.full t k e b→reach n cells (H k) (i / 8)
theorem oO {home:Int} {n k:Nat} (hn:0 < n):gk home n k < n:=by
 unfold gk ord
 have h1:=Int.emod_nonneg (home+((k*(k+1) / 2:Nat):Int)) (by omega:(n:Int)≠0)
 have h2:=Int.emod_lt_of_pos (home+((k*(k+1) / 2:Nat):Int)) (by omega:(0:Int) < (n:Int))
 omega
theorem wi {home:Int} {n k:Nat} (hn:0 < n):((gk home n k:Nat):Int)=ord home n k:=by
 unfold gk ord
 have h1:=Int.emod_nonneg (home+((k*(k+1) / 2:Nat):Int)) (by omega:(n:Int)≠0)
 omega
theorem hit_cell {cs:Nat→Cell} {tag:Int} {key:ByteArray} {i:Nat} (h:fa cs tag key i=true):∃ e b,cs i=.full tag key e b:=by
 unfold fa at h
 split at h
 ·next t k e b hc=>simp only[Bool.and_eq_true,decide_eq_true_eq] at h;obtain⟨rfl,rfl⟩:=h;exact⟨e,b,hc⟩
 cases h
theorem DD {cs:Nat→Cell} {tag:Int} {key:ByteArray} {i:Nat} {e:ByteArray} {b:Int} (h:cs i=.full tag key e b):fa cs tag key i=true:=by
 unfold fa;rw[h];simp
theorem rb {cs:Nat→Cell} {i:Nat}:eA cs i=true↔isFull (cs i)=false:=by unfold eA isFull;cases cs i <;> simp
theorem B8 {cs:Nat→Cell} {i:Nat}:fX cs i=true↔cs i=.empty:=by unfold fX;cases cs i <;> simp
theorem B7 {cs:Nat→Cell} {i:Nat} (h:fX cs i=true):eA cs i=true:=by unfold fX eA at *;cases e:cs i <;> rw[e] at h <;> simp_all
section
variable {n:Nat} {cells:Nat→Cell} {h:Int} {key:ByteArray} {H:ByteArray→Int}
theorem BA {g i:Nat} (hg:g < n) (hi:i < 8):8*g+i < 8*n:=by omega
theorem uv {home:Int} {k:Nat} (hv:¬ dK home n cells k < 0):∃ j,j < k∧cK home n cells j < 8∧(∀ i,i < j→cK home n cells i=8)∧dK home n cells k=8*((gk home n j:Nat):Int)+((cK home n cells j:Nat):Int)∧eD home n cells k=fX (cy cells (gk home n j)) (cK home n cells j):=by
 rw[l9] at hv
 cases e:vst home n cells k with
 | none=>exact absurd e hv
 | some j=>
  have e2:=e
  unfold vst at e
  rw[List.find?_range_eq_some] at e
  obtain⟨h1,h2,h3⟩:=e
  refine⟨j,by simpa using h2,by simpa using h1,fun i hi=>?_,?_,?_⟩
  ·have:=h3 i hi
   have h4:=dJ (eA (cy cells (gk home n i)))
   simp at this
   unfold cK at this ⊢;omega
  ·unfold dK;rw[e2]
  unfold eD;rw[e2]
theorem vac_no {home:Int} {k:Nat} (hv:dK home n cells k < 0):∀ j,j < k→cK home n cells j=8:=by
 rw[l9] at hv
 unfold vst at hv
 rw[List.find?_range_eq_none] at hv
 intro j hj
 have:=hv j hj
 have h4:=dJ (eA (cy cells (gk home n j)))
 simp at this
 unfold cK at this ⊢;omega
theorem Bq {home:Int} {k:Nat} (hv:cK home n cells k=8):ey home n cells k=8:=by
 unfold cK at hv;unfold ey
 rw[gC] at hv ⊢
 intro i hi
 cases q:fX (cy cells (gk home n k)) i with
 | false=>rfl
 | true=>have:=B7 q;rw[hv i hi] at this;cases this
end
end TableI
end
end Go.Proofs.YthkajgkagnenbaaGreatDoor
