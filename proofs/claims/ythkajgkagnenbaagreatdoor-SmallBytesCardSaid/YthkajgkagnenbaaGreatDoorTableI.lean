import Derived.Test.YthkajgkagnenbaaGreatDoorMem
import Derived.Test.YthkajgkagnenbaaGreatDoorLayout
set_option linter.unusedVariables false
set_option linter.unusedSimpArgs false
set_option linter.unusedSectionVars false
namespace Go.Proofs.YthkajgkagnenbaaGreatDoor
section
set_option maxRecDepth 100000
namespace Mem
open Go.RowKit Go.Proofs Eng Ty Bits
def dw (vs:List Value) (ss:List ByteArray):HP:=stars (List.zipWith iO vs ss)
theorem AL {vs:List Value} {ss:List ByteArray} {M:List HP} {w:World} (h:Sat (stars (dw vs ss::M)) w) {i:Nat} {v:Value} {s:ByteArray} (hv:vs[i]?=some v) (hs:ss[i]?=some s):∃ M',Sat (stars (iO v s::M')) w:=by
 have h1:=cl.1 h
 have hm:iO v s∈List.zipWith iO vs ss:=by
  have:(List.zipWith iO vs ss)[i]?=some (iO v s):=by rw[List.getElem?_zipWith];simp[hv,hs]
  exact List.mem_of_getElem? this
 obtain⟨A,B,hAB⟩:=List.append_of_mem hm
 rw[hAB] at h1
 exact⟨A ++ B ++ M,h1.perm (by
  rw[List.append_assoc,List.append_assoc]
  exact List.perm_middle)⟩
theorem xh {L M:List HP} {vs:List Value} {ss:List ByteArray} {i b cap n:Nat} {s:ByteArray} (ht:Take (dw vs ss) L M) (hv:vs[i]?=some (.slice (some ⟨b,0,none⟩) n cap)) (hs:ss[i]?=some s):Reads L ⟨b,0,none⟩ (cA s):=fun w hw j u hu=>by
 obtain⟨M',h⟩:=AL (hw.take ht) hv hs
 have:=s8 (L:=iO (.slice (some ⟨b,0,none⟩) n cap) s::M') s.size .here w h j u
 rw[List.take_of_length_le (by rw[ft];omega)] at this
 exact this hu
def cP (s:ByteArray) (i:Nat):Int:=if h:i < s.size then((s[i]'h).toNat:Int) else 0
def fG:List ByteArray→Nat→Int
 | [],_=>0
 | s::r,i=>if i < s.size then cP s i else fG r (i-s.size)
def cR:List ByteArray→Nat
 | []=>0
 | s::r=>s.size+cR r
theorem mj {ss:List ByteArray} {j:Nat} {s:ByteArray} (h:ss[j]?=some s):cR (ss.take (j+1))=cR (ss.take j)+s.size:=by
 induction ss generalizing j with
 | nil=>simp at h
 | cons x r ih=>
  cases j with
  | zero=>simp at h;subst h;simp[cR]
  | succ j=>simp only[List.getElem?_cons_succ] at h;simp only[List.take_succ_cons,cR,ih h];omega
theorem rn (ss:List ByteArray) (j:Nat):cR (ss.take j)≤cR ss:=by
 induction ss generalizing j with
 | nil=>simp[cR]
 | cons x r ih=>
  cases j with
  | zero=>simp[cR]
  | succ j=>simp only[List.take_succ_cons,cR];have:=ih j;omega
theorem r4 {ss:List ByteArray} {j:Nat} {s:ByteArray} (h:ss[j]?=some s) {i:Nat} (hi:i < s.size):fG ss (cR (ss.take j)+i)=cP s i:=by
 induction ss generalizing j with
 | nil=>simp at h
 | cons x r ih=>
  cases j with
  | zero=>simp at h;subst h;simp[cR,fG,hi]
  | succ j=>
   simp only[List.getElem?_cons_succ] at h
   simp only[List.take_succ_cons,cR,fG]
   rw[if_neg (by omega),show x.size+cR (List.take j r)+i-x.size=cR (List.take j r)+i by omega]
   exact ih h
theorem kK (s:ByteArray):cA s=bt (cP s) s.size:=by
 apply List.ext_getElem?
 intro i
 by_cases h:i < s.size
 ·rw[vl h,cN h];simp[cP,h]
 rw[List.getElem?_eq_none (by rw[ft];omega),List.getElem?_eq_none (by rw[bL];omega)]
theorem B3 {m:Nat→Int} {ss:List ByteArray} {j o n cap:Nat} {s:ByteArray} (h:ss[j]?=some s) (hn:o+cR ss≤n) (hc:n≤cap):
  lay (bt (cm m o (cR (ss.take j)) (fG ss)) n) (dI 0 (o+cR (ss.take j)) cap) (cA s)=bt (cm m o (cR (ss.take (j+1))) (fG ss)) n:=by
 have ht:=mj h
 have hle:=rn ss (j+1)
 rw[kK,kD (by omega) hc]
 congr 1
 funext i
 simp only[cm,ht]
 by_cases q:o+cR (ss.take j)≤i∧i < o+cR (ss.take j)+s.size
 ·rw[if_pos q,if_pos (by omega)]
  have:=r4 h (i:=i-(o+cR (ss.take j))) (by omega)
  rw[show cR (ss.take j)+(i-(o+cR (ss.take j)))=i-o by omega] at this
  exact this.symm
 rw[if_neg q]
 by_cases q2:o≤i∧i < o+cR (ss.take j)
 ·rw[if_pos q2,if_pos (by omega)]
 rw[if_neg q2,if_neg (by omega)]
theorem Write_ok (pm g n cap off p k kc:Nat) (m:Nat→Int) (vs:List Value) (ss:List ByteArray) (hn:n≤134217728) (hc:n≤cap) (hk:ss.length=k) (hkb:k≤1000000) (ho:off+cR ss≤n):
  aG Tryz.prog 227 #[.pointer (some ⟨pm,0,none⟩),.int .i64 off,.slice (some ⟨p,0,none⟩) k kc] [pt pm (.cells #[.slice (some ⟨g,0,none⟩) n cap] 189 (0,0)),aE 5 1 (.slice (some ⟨g,0,none⟩) n cap) n (bt m n),aE 117 1 (.slice (some ⟨p,0,none⟩) k kc) k vs,dw vs ss]
   (fun r L=>r=.int .i64 0∧L= [pt pm (.cells #[.slice (some ⟨g,0,none⟩) n cap] 189 (0,0)),aE 5 1 (.slice (some ⟨g,0,none⟩) n cap) n (bt (cm m off (cR ss) (fG ss)) n),aE 117 1 (.slice (some ⟨p,0,none⟩) k kc) k vs,dw vs ss]):=by
 refine aq Fm Tryz.func227 rfl rfl rfl fun Fr w0=>aR ?_
 refine cI (φ:=vs.length=k∧∀(i:Nat) (s:ByteArray),ss[i]?=some s→∃ b c,vs[i]?=some (Value.slice (some ⟨b,0,none⟩) s.size c)) (fun w hw=>?_) fun⟨hvl,hsh⟩=>?_
 ·obtain⟨h1,_⟩:=nc (hw.take (.there (.there .here)))
  rw[Nat.mul_one] at h1
  refine⟨h1,fun i s hs=>?_⟩
  have hlt:=(List.getElem?_eq_some_iff.1 hs).1
  have hv:vs[i]?=some (vs[i]'(by omega)):=List.getElem?_eq_getElem _
  obtain⟨M',h2⟩:=AL (hw.take (.there (.there (.there .here)))) hv hs
  obtain⟨b,c,_,_,_,h3,_⟩:=o9 h2
  exact⟨b,c,by rw[hv,h3]⟩
 refine sr<|asg rfl rfl<|lz<|asg rfl rfl<|lc<|ah<|sr<|mv rfl rfl<|l_q rfl (ql rfl oa)<|mv rfl rfl<|lc<|ax ?_
 refine bw (fun j:Nat=>j≤k) (fun j=>[(0,.pointer (some ⟨pm,0,none⟩)),(1,.int .i64 off),(2,.slice (some ⟨p,0,none⟩) k kc),(12,.slice (some ⟨p,0,none⟩) k kc),(13,.int .i64 k),(14,.int .i64 j),(7,.int .i64 (cR (ss.take j)))]) (fun _=>pt pm (.cells #[.slice (some ⟨g,0,none⟩) n cap] 189 (0,0))::aE 5 1 (.slice (some ⟨g,0,none⟩) n cap) n (bt m n)::aE 117 1 (.slice (some ⟨p,0,none⟩) k kc) k vs::dw vs ss::Fr) (fun j=>k-j) 0 (by omega) ⟨rfl,rfl,rfl,rfl,rfl,rfl,rfl,trivial⟩ (Ent.refl _) ?_
 intro j hj
 have hle:=rn ss (j+1)
 refine sr<|l_q rfl (qi rfl rfl (aU ·))<|lc<|ah<|aA rfl (fun h=>?_) fun h=>?_
 ·have hjl:j < ss.length:=by omega
  obtain⟨b,c',hvj⟩:=hsh j ss[j] (List.getElem?_eq_getElem hjl)
  have htt:=mj (List.getElem?_eq_getElem hjl)
  refine al<|ak<|ah<|ax<|sr<|l_q rfl (ay rfl rfl oa dG (by omega)) ?_
  apply l_q rfl
  ·apply bf rfl eE
   ·exact tk
   rw[Nat.zero_add,Int.toNat_natCast];exact hvj
  refine asg rfl rfl<|lr<|mv rfl rfl<|mv rfl rfl<|l_q rfl (ql rfl ck)<|l_q rfl (ba rfl rfl) ?_
  refine asg rfl rfl<|aj<|aV<|ak<|aB<|l_q rfl (ba rfl rfl) ?_
  refine mv rfl rfl<|aj ?_
  apply aO ((j+1))
  ·exact(show j+1≤k by omega)
  ·omega
  ·exact⟨rfl,rfl,rfl,rfl,rfl,rfl,by rw[htt,Int.natCast_add];rfl,trivial⟩
  exact en
 refine xt rfl<|ak<|ah<|sr<|mv rfl rfl<|mv rfl rfl<|mv rfl rfl ?_
 obtain rfl:j=k:=by omega
 rw[← hk,List.take_length]
 refine lc1 rfl rfl rfl (eS pm g n cap m _ _ hn) ?_
 refine l_q rfl (cX rfl (bY ·))<|lc<|aA rfl (fun z=>?_) fun z=>?_
 ·simp at z;omega
 refine al<|ak<|ah<|sr<|mv rfl rfl<|l_q rfl (ql rfl oa)<|mv rfl rfl<|lc<|ax ?_
 refine bw (fun i:Nat=>i≤ss.length) (fun i=>[(0,.pointer (some ⟨pm,0,none⟩)),(1,.int .i64 (off+(cR (ss.take i):Nat))),(28,.slice (some ⟨p,0,none⟩) ss.length kc),(29,.int .i64 ss.length),(30,.int .i64 i)]) (fun i=>pt pm (.cells #[.slice (some ⟨g,0,none⟩) n cap] 189 (0,0))::aE 5 1 (.slice (some ⟨g,0,none⟩) n cap) n (bt (cm m off (cR (ss.take i)) (fG ss)) n)::aE 117 1 (.slice (some ⟨p,0,none⟩) ss.length kc) ss.length vs::dw vs ss::Fr) (fun i=>ss.length-i) 0 (by omega) ⟨rfl,by simp[cR];rfl,rfl,rfl,rfl,trivial⟩ (by simp only[List.take_zero,cR,kC];exact Ent.refl _) ?_
 intro j hj
 have hle:=rn ss (j+1)
 refine sr<|l_q rfl (qi rfl rfl (aU ·))<|lc<|ah<|aA rfl (fun h=>?_) fun h=>?_
 ·have hjl:j < ss.length:=by omega
  obtain⟨b,c',hvj⟩:=hsh j ss[j] (List.getElem?_eq_getElem hjl)
  have htt:=mj (List.getElem?_eq_getElem hjl)
  have hbl:=ft ss[j]
  have hbl':(ss[j].size:Int)=((cA ss[j]).length:Int):=by rw[hbl]
  refine al<|ak<|ah<|ax<|sr<|l_q rfl (ay rfl rfl oa dG (by omega)) ?_
  apply l_q rfl
  ·apply bf rfl eE
   ·exact tk
   rw[Nat.zero_add,Int.toNat_natCast];exact hvj
  refine asg rfl rfl<|lr<|mv rfl rfl<|mv rfl rfl<|l_q rfl (ad rfl)<|l_q rfl (qfa 0 rfl ff rfl rfl dG)<|l_q rfl (qld rfl eE) ?_
  refine mv rfl rfl<|l_q rfl (fy rfl rfl ck yS5 (by omega)) ?_
  refine mv rfl rfl ?_
  apply rF (cA ss[j]) rfl rfl rfl Tryz.underlying117 (by obtain⟨i,h1,_,h2,_⟩:=yI5;exact⟨i,h1,h2⟩)
  ·exact tk
  ·rw[ft,show((off:Int)+(cR (ss.take j):Nat)).toNat=off+cR (ss.take j) by omega];exact(Nat.min_eq_left (by omega)).symm
  ·exact xh (i:=j) (.there (.there (.there .here))) hvj (List.getElem?_eq_getElem hjl)
  ·rw[ft,show((off:Int)+(cR (ss.take j):Nat)).toNat=off+cR (ss.take j) by omega];exact kP (by omega) hc
  ·exact o8 _
  refine l_q rfl (ba rfl rfl) ?_
  refine asg rfl rfl<|aj<|aV<|ak<|aB<|l_q rfl (ba rfl rfl) ?_
  refine mv rfl rfl<|aj ?_
  rw[show((off:Int)+(cR (ss.take j):Nat)).toNat=off+cR (ss.take j) by omega,B3 (List.getElem?_eq_getElem hjl) ho hc]
  apply aO ((j+1))
  ·exact(show j+1≤ss.length by omega)
  ·omega
  ·exact⟨rfl,by rw[htt,Int.natCast_add,hbl',← Int.add_assoc];rfl,rfl,rfl,rfl,trivial⟩
  exact en
 refine xt rfl<|nz<|asg rfl rfl<|lc<|rt ?_
 obtain rfl:j=ss.length:=by omega
 rw[List.take_length]
 exact fr1 rfl ([pt pm (.cells #[.slice (some ⟨g,0,none⟩) n cap] 189 (0,0)),aE 5 1 (.slice (some ⟨g,0,none⟩) n cap) n (bt (cm m off (cR ss) (fG ss)) n),aE 117 1 (.slice (some ⟨p,0,none⟩) ss.length kc) ss.length vs,dw vs ss]) (.tmp rfl) ⟨rfl,rfl⟩
end Mem
end
section
set_option maxRecDepth 100000
namespace GroupB
open Go.RowKit Go.Proofs Eng Bits Layout Mem CtrlB
def kN (l:Lay):Nat:=l.key.toNat
def eN (l:Lay):Nat:=l.elem.toNat
def eoN (l:Lay):Nat:=l.eo.toNat
def boN (l:Lay):Nat:=l.bo.toNat
def sN (l:Lay):Nat:=l.slot.toNat
def gN (l:Lay):Nat:=l.group.toNat
structure gW (l:Lay):Prop where
 k:((kN l:Nat):Int)=l.key
 e:((eN l:Nat):Int)=l.elem
 eo:((eoN l:Nat):Int)=l.eo
 bo:((boN l:Nat):Int)=l.bo
 s:((sN l:Nat):Int)=l.slot
 g:((gN l:Nat):Int)=l.group
 s_eq:sN l=boN l+8
 g_eq:gN l=8+8*sN l
 k1:1≤kN l∧kN l≤128
 e1:eN l≤128
 eo1:kN l≤eoN l∧eoN l≤kN l+7
 bo1:eoN l+eN l≤boN l∧boN l≤eoN l+eN l+7
theorem eL {l:Lay} (h:l.err=0):gW l:=by
 have b:=Lay.bnd h
 have e1:=gZ (n:=l.key) (a:=l.ea) (by omega) (by omega)
 have e2:=gZ (n:=l.eo+l.elem) (a:=8) (by omega) (by omega)
 have q1:l.eo=fK l.key l.ea:=rfl
 have q2:l.bo=fK (l.eo+l.elem) 8:=rfl
 constructor <;> simp only[kN,eN,eoN,boN,sN,gN] <;> omega
inductive Cell where
 | empty
 | deleted
 | full (tag:Int) (key elem:ByteArray) (birth:Int)
def Cell.ok (l:Lay):Cell→Prop
 | .full t k e b=>0≤t∧t < 128∧k.size=kN l∧e.size=eN l∧0≤b∧b < 9223372036854775808
 | _=>True
def Cell.ctrl:Cell→Int
 | .empty=>128
 | .deleted=>254
 | .full t _ _ _=>t
theorem Cell.ctrl_bnd {l:Lay} {c:Cell} (h:c.ok l):0≤c.ctrl∧c.ctrl < 256:=by cases c <;> simp only[Cell.ctrl,Cell.ok] at h ⊢ <;> omega
def eU (n:Nat):ByteArray:=⟨(List.replicate n (0:UInt8)).toArray⟩
def oL (b:Int):ByteArray:=dE (bG b) 0 8
theorem fo (n:Nat):(eU n).size=n:=by simp[eU,ByteArray.size]
theorem cC (m:Nat→Int) (o k:Nat):(dE m o k).size=k:=by simp[dE,ByteArray.size]
theorem k7 (b:Int):(oL b).size=8:=cC _ _ _
theorem tX (n i:Nat):cP (eU n) i=0:=by
 unfold cP
 split
 ·next h=>simp[eU,ByteArray.getElem_eq_getElem_data]
 rfl
theorem np (v:Int) (i:Nat):0≤bG v i∧bG v i < 256:=by unfold bG;omega
theorem nH {m:Nat→Int} (hm:∀ i,0≤m i∧m i < 256) (o k:Nat) {i:Nat} (h:i < k):cP (dE m o k) i=m (o+i):=by
 unfold cP
 rw[dif_pos (by rw[cC];exact h)]
 have:=hm (o+i)
 simp only[dE,ByteArray.getElem_eq_getElem_data,List.getElem_toArray,List.getElem_map,List.getElem_range,UInt8.toNat_ofNat']
 omega
theorem pf (b:Int) {i:Nat} (h:i < 8):cP (oL b) i=bG b i:=by
 unfold oL;rw[nH (np b) _ _ h,Nat.zero_add]
theorem vm (s:ByteArray) (i:Nat):0≤cP s i∧cP s i < 256:=by
 unfold cP
 split
 ·next h=>have:=(s[i]'h).toNat_lt;omega
 omega
theorem BD {s t:ByteArray} (hs:s.size=t.size) (h:∀ i,i < s.size→cP s i=cP t i):s=t:=by
 apply ByteArray.ext
 apply Array.ext
 ·exact hs
 intro i h1 h2
 have:=h i h1
 unfold cP at this
 rw[dif_pos (show i < s.size from h1),dif_pos (show i < t.size from h2)] at this
 simp only[ByteArray.getElem_eq_getElem_data] at this
 exact UInt8.toNat_inj.1 (by exact_mod_cast this)
theorem rq {m:Nat→Int} (hm:∀ i,0≤m i∧m i < 256) {o:Nat} {s:ByteArray} (h:∀ i,i < s.size→m (o+i)=cP s i):dE m o s.size=s:=
 BD (cC _ _ _) fun i hi=>by rw[cC] at hi;rw[nH hm _ _ hi];exact h i hi
theorem Cm (ss:List ByteArray):∀ i,0≤fG ss i∧fG ss i < 256:=by
 induction ss with
 | nil=>intro i;simp[fG]
 | cons s r ih=>intro i;simp only[fG];split;exact vm _ _;exact ih _
def parts (l:Lay) (k e:ByteArray) (b:Int):List ByteArray:=[k,eU (eoN l-kN l),e,eU (boN l-eoN l-eN l),oL b]
theorem wY {l:Lay} (h:gW l) {k e:ByteArray} (hk:k.size=kN l) (he:e.size=eN l) (b:Int):cR (parts l k e b)=sN l:=by
 have:=h.eo1;have:=h.bo1;have:=h.s_eq
 simp only[parts,cR,hk,he,fo,k7];omega
def l7 (l:Lay) (c:Cell) (r:Nat):Int:=match c with
 | .full _ k e b=>fG (parts l k e b) r
 | _=>0
def c7 (l:Lay) (cs:Nat→Cell) (j:Nat):Int:=if j < 8 then(cs j).ctrl else l7 l (cs ((j-8) / sN l)) ((j-8) % sN l)
theorem An (l:Lay) (c:Cell) (r:Nat):0≤l7 l c r∧l7 l c r < 256:=by
 unfold l7
 split
 ·exact Cm _ _
 omega
theorem kH {l:Lay} {cs:Nat→Cell} (h:∀ i,i < 8→(cs i).ok l) (j:Nat):0≤c7 l cs j∧c7 l cs j < 256:=by
 unfold c7
 split
 ·exact Cell.ctrl_bnd (h j (by assumption))
 exact An _ _ _
theorem jq {l:Lay} (cs:Nat→Cell) {i:Nat} (h:i < 8):c7 l cs i=(cs i).ctrl:=by unfold c7;rw[if_pos h]
theorem j7 {s i r:Nat} (hr:r < s):(i*s+r) / s=i∧(i*s+r) % s=r:=by
 constructor
 ·rw[Nat.add_comm,Nat.add_mul_div_right _ _ (by omega),Nat.div_eq_of_lt hr];omega
 rw[Nat.add_comm,Nat.add_mul_mod_self_right,Nat.mod_eq_of_lt hr]
theorem ld {l:Lay} (cs:Nat→Cell) {i r:Nat} (hr:r < sN l):c7 l cs (8+i*sN l+r)=l7 l (cs i) r:=by
 unfold c7
 obtain⟨h1,h2⟩:=j7 (i:=i) hr
 rw[if_neg (by omega),show 8+i*sN l+r-8=i*sN l+r by omega,h1,h2]
theorem tT {l:Lay} (h:gW l) {t:Int} {k e:ByteArray} {b:Int} (hk:k.size=kN l) {i:Nat} (hi:i < k.size):l7 l (.full t k e b) i=cP k i:=by
 have:=r4 (ss:=parts l k e b) (j:=0) (s:=k) rfl hi
 simpa [l7,parts,cR] using this
theorem qN {l:Lay} (h:gW l) {t:Int} {k e:ByteArray} {b:Int} (hk:k.size=kN l) {i:Nat} (hi:i < e.size):l7 l (.full t k e b) (eoN l+i)=cP e i:=by
 have:=r4 (ss:=parts l k e b) (j:=2) (s:=e) rfl hi
 have h1:=h.eo1
 simp only[parts,List.take_succ_cons,List.take_zero,cR,fo,hk] at this
 rw[show kN l+(eoN l-kN l+0)+i=eoN l+i by omega] at this
 exact this
theorem u7 {l:Lay} (h:gW l) {t:Int} {k e:ByteArray} {b:Int} (hk:k.size=kN l) (he:e.size=eN l) {i:Nat} (hi:i < 8):l7 l (.full t k e b) (boN l+i)=bG b i:=by
 have:=r4 (ss:=parts l k e b) (j:=4) (s:=oL b) rfl (by rw[k7];exact hi)
 have h1:=h.eo1;have h2:=h.bo1
 simp only[parts,List.take_succ_cons,List.take_zero,cR,fo,hk,he] at this
 rw[show kN l+(eoN l-kN l+(eN l+(boN l-eoN l-eN l+0)))+i=boN l+i by omega,pf b hi] at this
 exact this
def GAt (m:Nat→Int) (off:Nat) (l:Lay) (cs:Nat→Cell):Prop:=∀ j,j < gN l→m (off+j)=c7 l cs j
def bT (cs:Nat→Cell) (i:Nat) (c:Cell):Nat→Cell:=fun j=>if j=i then c else cs j
theorem fv (cs:Nat→Cell) (i:Nat) (c:Cell):bT cs i c i=c:=by simp[bT]
theorem gj (cs:Nat→Cell) {i j:Nat} (h:j≠i) (c:Cell):bT cs i c j=cs j:=by simp[bT,h]
theorem GAt.ctrl {m:Nat→Int} {off:Nat} {l:Lay} {cs:Nat→Cell} (h:GAt m off l cs) (hl:gW l) {i:Nat} (hi:i < 8):m (off+i)=(cs i).ctrl:=by
 rw[h i (by have:=hl.g_eq;have:=hl.s_eq;omega),jq cs hi]
theorem kS {l:Lay} (hl:gW l) {i r:Nat} (hi:i < 8) (hr:r < sN l):8+i*sN l+r < gN l:=by
 have h1:i*sN l≤7*sN l:=Nat.mul_le_mul_right _ (by omega)
 have:=hl.g_eq
 omega
theorem GAt.slot {m:Nat→Int} {off:Nat} {l:Lay} {cs:Nat→Cell} (h:GAt m off l cs) (hl:gW l) {i r:Nat} (hi:i < 8) (hr:r < sN l):m (off+(8+i*sN l+r))=l7 l (cs i) r:=by
 rw[h _ (kS hl hi hr),ld cs hr]
theorem gJ {m f:Nat→Int} {o k a:Nat} (h1:o≤a) (h2:a < o+k):cm m o k f a=f (a-o):=by unfold cm;rw[if_pos ⟨h1,h2⟩]
theorem bO {m f:Nat→Int} {o k a:Nat} (h:a < o∨o+k≤a):cm m o k f a=m a:=by unfold cm;rw[if_neg (by omega)]
theorem nX {l:Lay} (hl:gW l) {j:Nat} (h1:8≤j) (h2:j < gN l):∃ i r,i < 8∧r < sN l∧j=8+i*sN l+r:=by
 have hs:=hl.s_eq
 have hg:=hl.g_eq
 refine⟨(j-8) / sN l,(j-8) % sN l,?_,Nat.mod_lt _ (by omega),?_⟩
 ·exact Nat.div_lt_of_lt_mul (by rw[Nat.mul_comm];omega)
 have:=Nat.div_add_mod (j-8) (sN l)
 rw[Nat.mul_comm] at this
 omega
theorem ti {m f w:Nat→Int} {off:Nat} {l:Lay} {cs:Nat→Cell} (hl:gW l) (h:GAt m off l cs) {i:Nat} (hi:i < 8) (c:Cell) (hf:∀ r,r < sN l→f r=l7 l c r) (hw:∀ j,j < 8→w j=if j=i then c.ctrl else(cs j).ctrl):
  cm (cm m (off+(8+i*sN l)) (sN l) f) off 8 w=cm m off (gN l) (c7 l (bT cs i c)):=by
 funext a
 have hg:=hl.g_eq
 by_cases q1:a < off∨off+gN l≤a
 ·have h1:i*sN l≤7*sN l:=Nat.mul_le_mul_right _ (by omega)
  rw[bO (by omega),bO (by omega),bO q1]
 rw[gJ (o:=off) (k:=gN l) (by omega) (by omega)]
 by_cases q2:a-off < 8
 ·rw[gJ (by omega) (by omega),hw _ q2,jq _ q2]
  by_cases q3:a-off=i
  ·rw[if_pos q3,q3,fv]
  rw[if_neg q3,gj _ q3]
 obtain⟨i',r,hi',hr,e⟩:=nX hl (by omega:8≤a-off) (by omega)
 rw[bO (by omega),e,ld _ hr]
 by_cases q3:i'=i
 ·subst q3
  rw[gJ (by omega) (by omega),fv,show a-(off+(8+i'*sN l))=r by omega,hf r hr]
 rw[gj _ q3,bO,show a=off+(8+i'*sN l+r) by omega,h.slot hl hi' hr]
 rcases Nat.lt_or_ge i' i with q4 | q4
 ·have:=Nat.mul_le_mul_right (sN l) (show i'+1≤i by omega);rw[Nat.add_mul] at this;omega
 have:=Nat.mul_le_mul_right (sN l) (show i+1≤i' by omega);rw[Nat.add_mul] at this;omega
theorem tl {m:Nat→Int} {off:Nat} {l:Lay} {cs:Nat→Cell} (hl:gW l) (h:GAt m off l cs) {i:Nat} (hi:i < 8) {t:Int} {k e e':ByteArray} {b:Int} (hc:cs i=.full t k e b) (hk:k.size=kN l) (he:e.size=eN l) (he':e'.size=eN l):
  cm m (off+(8+i*sN l+eoN l)) (eN l) (cP e')=cm m off (gN l) (c7 l (bT cs i (.full t k e' b))):=by
 funext a
 have hg:=hl.g_eq;have hs:=hl.s_eq;have he1:=hl.eo1;have hb1:=hl.bo1
 have h1:i*sN l≤7*sN l:=Nat.mul_le_mul_right _ (by omega)
 by_cases q1:a < off∨off+gN l≤a
 ·rw[bO (by omega),bO q1]
 rw[gJ (o:=off) (k:=gN l) (by omega) (by omega)]
 by_cases q2:a-off < 8
 ·rw[bO (by omega),jq _ q2,show a=off+(a-off) by omega,h.ctrl hl q2,show off+(a-off)-off=a-off by omega]
  by_cases q3:a-off=i
  ·rw[q3,fv,hc];rfl
  rw[gj _ q3]
 obtain⟨i',r,hi',hr,e0⟩:=nX hl (by omega:8≤a-off) (by omega)
 rw[e0,ld _ hr]
 have ha:a=off+(8+i'*sN l+r):=by omega
 by_cases q3:i'=i
 ·subst q3
  rw[fv]
  by_cases q4:eoN l≤r∧r < eoN l+eN l
  ·rw[gJ (by omega) (by omega),show a-(off+(8+i'*sN l+eoN l))=r-eoN l by omega]
   have:=qN hl (t:=t) (k:=k) (e:=e') (b:=b) hk (i:=r-eoN l) (by omega)
   rw[show eoN l+(r-eoN l)=r by omega] at this
   exact this.symm
  rw[bO (by omega),ha,h.slot hl hi' hr,hc]
  simp only[l7,parts,fG]
  rw[hk,fo,he,he']
  by_cases q5:r < kN l
  ·rw[if_pos q5,if_pos q5]
  rw[if_neg q5,if_neg q5]
  by_cases q6:r-kN l < eoN l-kN l
  ·rw[if_pos q6,if_pos q6]
  have q7:¬ r-kN l-(eoN l-kN l) < eN l:=by omega
  rw[if_neg q6,if_neg q6,if_neg q7,if_neg q7]
 rw[gj _ q3,bO,ha,h.slot hl hi' hr]
 rcases Nat.lt_or_ge i' i with q4 | q4
 ·have:=Nat.mul_le_mul_right (sN l) (show i'+1≤i by omega);rw[Nat.add_mul] at this;omega
 have:=Nat.mul_le_mul_right (sN l) (show i+1≤i' by omega);rw[Nat.add_mul] at this;omega
theorem xl {m w:Nat→Int} {off:Nat} {l:Lay} (hl:gW l) (hw:∀ j,j < 8→w j=128):cm (cm m off (gN l) (fun _=>0)) off 8 w=cm m off (gN l) (c7 l fun _=>.empty):=by
 funext a
 have hg:=hl.g_eq
 by_cases q1:a < off∨off+gN l≤a
 ·rw[bO (by omega),bO q1,bO q1]
 rw[gJ (o:=off) (k:=gN l) (f:=c7 l fun _=>.empty) (by omega) (by omega)]
 by_cases q2:a-off < 8
 ·rw[gJ (by omega) (by omega),hw _ q2,jq _ q2];rfl
 rw[bO (by omega),gJ (by omega) (by omega)]
 unfold c7;rw[if_neg q2];try rfl
theorem GAt.lay {m:Nat→Int} {off:Nat} {l:Lay} (cs:Nat→Cell):GAt (cm m off (gN l) (c7 l cs)) off l cs:=fun j hj=>by
 rw[gJ (by omega) (by omega)];congr 1;omega
theorem GAt.out {m f:Nat→Int} {off o k:Nat} {l:Lay} {cs:Nat→Cell} (h:GAt m off l cs) (hd:off+gN l≤o∨o+k≤off):GAt (cm m o k f) off l cs:=fun j hj=>by
 rw[bO (by omega)];exact h j hj
theorem cJ {m m':Nat→Int} {o o':Nat}:∀ {k:Nat},(∀ i,i < k→m (o+i)=m' (o'+i))→cZ m o k=cZ m' o' k
 | 0,_=>rfl
 | k+1,h=>by simp only[cZ];rw[h k (by omega),cJ (k:=k) fun i hi=>h i (by omega)]
theorem fA (v:Int):∀ k,cZ (bG v) 0 k=v % 2 ^ (8*k)
 | 0=>by simp[cZ]
 | k+1=>by
  simp only[cZ,Nat.zero_add]
  rw[fA v k]
  have hp:(0:Int) < 2 ^ (8*k):=Int.pow_pos (by decide)
  have e:(2:Int) ^ (8*(k+1))=2 ^ (8*k)*256:=by rw[show 8*(k+1)=8*k+8 by omega,Int.pow_add];rfl
  rw[e]
  unfold bG
  generalize (2:Int) ^ (8*k)=p at *
  have h1:=Int.mul_ediv_add_emod v p
  have h2:=Int.mul_ediv_add_emod (v / p) 256
  have h3:=Int.emod_nonneg v (by omega:p≠0)
  have h4:=Int.emod_lt_of_pos v hp
  have h5:=Int.emod_nonneg (v / p) (by omega:(256:Int)≠0)
  have h6:=Int.emod_lt_of_pos (v / p) (by omega:(0:Int) < 256)
  have key:v=p*256*(v / p / 256)+(v % p+v / p % 256*p):=by
   have:p*(v / p)=p*(256*(v / p / 256))+p*(v / p % 256):=by rw[← Int.mul_add,h2]
   have a1:p*(256*(v / p / 256))=p*256*(v / p / 256):=(Int.mul_assoc _ _ _).symm
   have a2:p*(v / p % 256)=v / p % 256*p:=Int.mul_comm _ _
   omega
  have b1:0≤v / p % 256*p:=Int.mul_nonneg h5 (by omega)
  have b2:v / p % 256*p≤255*p:=Int.mul_le_mul_of_nonneg_right (by omega) (by omega)
  have hq:v % (p*256)=v % p+v / p % 256*p:=by
   conv=>lhs;rw[key]
   rw[Int.add_emod,Int.mul_emod_right,Int.zero_add,Int.emod_emod]
   exact Int.emod_eq_of_lt (by omega) (by omega)
  exact hq.symm
end GroupB
end
section
set_option maxRecDepth 100000
namespace TableB
open Go.RowKit Go.Proofs Eng Bits Layout Mem CtrlB GroupB Probe
structure Tb where
 kind:Int
 pins:Int
 next:Int
 used:Int
 left:Int
 depth:Int
 cells:Nat→Cell
def dT (T:Tb) (n go:Nat):Nat→Int
 | 0=>T.kind
 | 1=>T.pins
 | 2=>T.next
 | 3=>T.used
 | 4=>8*(n:Int)
 | 5=>T.left
 | 6=>T.depth
 | 7=>(go:Int)
 | _=>0
def cD (cells:Nat→Cell) (g:Nat):Nat→Cell:=fun i=>cells (8*g+i)
structure TAt (m:Nat→Int) (off go:Nat) (l:Lay) (n:Nat) (T:Tb):Prop where
 head:∀ k,k < 8→cZ m (off+8*k) 8=IntKind.u64.wrap (dT T n go k)
 body:∀ g,g < n→GAt m (go+g*gN l) l (cD T.cells g)
 okc:∀ i,i < 8*n→(T.cells i).ok l
def fh (cs:Nat→Cell) (tag:Int) (key:ByteArray) (i:Nat):Bool:=match cs i with
 | .full t k _ _=>decide (t=tag) && decide (k=key)
 | _=>false
def eD (cs:Nat→Cell) (i:Nat):Bool:=match cs i with
 | .full _ _ _ _=>false
 | _=>true
def fY (cs:Nat→Cell) (i:Nat):Bool:=match cs i with
 | .empty=>true
 | _=>false
theorem dK (s:Nat→Bool):bA s≤8:=by
 unfold bA
 cases h:bz s with
 | nil=>simp
 | cons a r=>
  have:=(dn (s:=s) (i:=a)).1 (by rw[h];simp)
  simp;omega
theorem g5 {s:Nat→Bool} (h:bA s < 8):s (bA s)=true:=by
 unfold bA at h ⊢
 cases e:bz s with
 | nil=>rw[e] at h;simp at h
 | cons a r=>
  have:=(dn (s:=s) (i:=a)).1 (by rw[e];simp)
  simpa using this.2
theorem gC {s:Nat→Bool}:bA s=8↔∀ i,i < 8→s i=false:=by
 constructor
 ·intro h i hi
  cases e:bz s with
  | nil=>
   cases q:s i with
   | false=>rfl
   | true=>have:=(dn (s:=s) (i:=i)).2 ⟨hi,q⟩;rw[e] at this;cases this
  | cons a r=>
   have:=(dn (s:=s) (i:=a)).1 (by rw[e];simp)
   unfold bA at h;rw[e] at h;simp at h;omega
 intro h
 have:bz s= []:=by
  cases e:bz s with
  | nil=>rfl
  | cons a r=>
   have:=(dn (s:=s) (i:=a)).1 (by rw[e];simp)
   rw[h a this.1] at this;cases this.2
 unfold bA;rw[this];rfl
theorem oV {s:Nat→Bool} {i:Nat} (hi:i < 8) (h:s i=true):bA s < 8:=by
 have h1:=dK s
 rcases Nat.lt_or_ge (bA s) 8 with q | q
 ·exact q
 have:=(gC (s:=s)).1 (by omega) i hi
 rw[h] at this;cases this
theorem rU {s:Nat→Bool} {j:Nat} (h:j < bA s):s j=false:=by
 have hle:=dK s
 cases q:s j with
 | false=>rfl
 | true=>
  exfalso
  have hm:j∈bz s:=dn.2 ⟨by omega,q⟩
  unfold bA at h
  have hp:(bz s).Pairwise (· < ·):=(List.pairwise_lt_range (n:=8)).filter _
  cases e:bz s with
  | nil=>rw[e] at hm;cases hm
  | cons a r=>
   rw[e] at hm h hp
   simp at h
   rcases List.mem_cons.1 hm with rfl | hm
   ·omega
   have:=List.rel_of_pairwise_cons hp hm
   omega
theorem jm {s:Nat→Bool} {i:Nat} (hi:i < 8) (h:s i=true) (hn:∀ j,j < i→s j=false):bA s=i:=by
 have h1:=oV hi h
 rcases Nat.lt_trichotomy (bA s) i with q | q | q
 ·have:=hn _ q;rw[g5 h1] at this;cases this
 ·exact q
 have:=rU q;rw[h] at this;cases this
section
variable (home:Int) (n:Nat) (cells:Nat→Cell) (tag:Int) (key:ByteArray)
def gk (k:Nat):Nat:=(ord home n k).toNat
def dW (k:Nat):Nat:=bA (fh (cD cells (gk home n k)) tag key)
def cM (k:Nat):Nat:=bA (eD (cD cells (gk home n k)))
def eC (k:Nat):Nat:=bA (fY (cD cells (gk home n k)))
def dP (k:Nat):Bool:=decide (dW home n cells tag key k < 8) || decide (eC home n cells k < 8)
def vst (k:Nat):Option Nat:=(List.range k).find? fun j=>decide (cM home n cells j < 8)
def dL (k:Nat):Int:=match vst home n cells k with
 | some j=>8*((gk home n j:Nat):Int)+((cM home n cells j:Nat):Int)
 | none=>-1
def eG (k:Nat):Bool:=match vst home n cells k with
 | some j=>fY (cD cells (gk home n j)) (cM home n cells j)
 | none=>false
structure Fnd where
 slot:Int
 vac:Int
 emp:Bool
 probes:Int
def br:Fnd:=match (List.range n).find? (dP home n cells tag key) with
 | some j=>if dW home n cells tag key j < 8 then⟨8*((gk home n j:Nat):Int)+((dW home n cells tag key j:Nat):Int),dL home n cells j,eG home n cells j,(j:Int)+1⟩
  else⟨-1,dL home n cells (j+1),eG home n cells (j+1),(j:Int)+1⟩
 | none=>⟨-1,dL home n cells n,eG home n cells n,n⟩
end
section
variable {home:Int} {n:Nat} {cells:Nat→Cell} {tag:Int} {key:ByteArray}
theorem sH (k:Nat):vst home n cells (k+1)=match vst home n cells k with | some j=>some j | none=>if cM home n cells k < 8 then some k else none:=by
 unfold vst
 rw[List.range_succ,List.find?_append]
 cases (List.range k).find? fun j=>decide (cM home n cells j < 8) with
 | some j=>rfl
 | none=>
  simp only[List.find?_cons,List.find?_nil,Option.none_or]
  by_cases q:cM home n cells k < 8 <;> simp[q]
theorem mi {k:Nat}:dL home n cells k < 0↔vst home n cells k=none:=by
 unfold dL
 cases vst home n cells k with
 | some j=>simp;omega
 | none=>simp
theorem yQ {k:Nat} (h1:dL home n cells k < 0) (h2:cM home n cells k < 8):dL home n cells (k+1)=8*((gk home n k:Nat):Int)+((cM home n cells k:Nat):Int)∧eG home n cells (k+1)=fY (cD cells (gk home n k)) (cM home n cells k):=by
 have:=sH (home:=home) (n:=n) (cells:=cells) k
 rw[mi.1 h1] at this
 simp only[if_pos h2] at this
 unfold dL eG
 rw[this];exact⟨rfl,rfl⟩
theorem sJ {k:Nat} (h:¬ dL home n cells k < 0∨¬ cM home n cells k < 8):dL home n cells (k+1)=dL home n cells k∧eG home n cells (k+1)=eG home n cells k:=by
 have:=sH (home:=home) (n:=n) (cells:=cells) k
 unfold dL eG
 cases e:vst home n cells k with
 | some j=>rw[e] at this;rw[this];exact⟨rfl,rfl⟩
 | none=>
  rw[e] at this
  have h2:¬ cM home n cells k < 8:=by
   rcases h with h | h
   ·exact absurd (mi.2 e) h
   exact h
  simp only[if_neg h2] at this
  rw[this];exact⟨rfl,rfl⟩
theorem jL {n k:Nat} {p:Nat→Bool} (hk:k < n) (hp:p k=true) (hn:∀ j,j < k→p j=false):(List.range n).find? p=some k:=by
 rw[List.find?_range_eq_some]
 exact⟨hp,by simpa using hk,fun j hj=>by simp[hn j hj]⟩
theorem lS {k:Nat} (hk:k < n) (hn:∀ j,j < k→dP home n cells tag key j=false) (hh:dW home n cells tag key k < 8):
  br home n cells tag key=⟨8*((gk home n k:Nat):Int)+((dW home n cells tag key k:Nat):Int),dL home n cells k,eG home n cells k,(k:Int)+1⟩:=by
 unfold br
 rw[jL hk (by unfold dP;simp[hh]) hn]
 simp only[if_pos hh]
theorem ie {k:Nat} (hk:k < n) (hn:∀ j,j < k→dP home n cells tag key j=false) (hh:¬ dW home n cells tag key k < 8) (he:eC home n cells k < 8):
  br home n cells tag key=⟨-1,dL home n cells (k+1),eG home n cells (k+1),(k:Int)+1⟩:=by
 unfold br
 rw[jL hk (by unfold dP;simp[he]) hn]
 simp only[if_neg hh]
theorem kf (hn:∀ j,j < n→dP home n cells tag key j=false):br home n cells tag key=⟨-1,dL home n cells n,eG home n cells n,n⟩:=by
 unfold br
 have:(List.range n).find? (dP home n cells tag key)=none:=by
  rw[List.find?_range_eq_none]
  intro j hj;simp[hn j hj]
 rw[this]
theorem jD (home:Int) (n:Nat) (cells:Nat→Cell) (tag:Int) (key:ByteArray):
  (∃ k,k < n∧(∀ j,j < k→dP home n cells tag key j=false)∧dW home n cells tag key k < 8∧br home n cells tag key=⟨8*((gk home n k:Nat):Int)+((dW home n cells tag key k:Nat):Int),dL home n cells k,eG home n cells k,(k:Int)+1⟩)∨
  (∃ k,k < n∧(∀ j,j < k→dP home n cells tag key j=false)∧¬ dW home n cells tag key k < 8∧eC home n cells k < 8∧br home n cells tag key=⟨-1,dL home n cells (k+1),eG home n cells (k+1),(k:Int)+1⟩)∨
  ((∀ j,j < n→dP home n cells tag key j=false)∧br home n cells tag key=⟨-1,dL home n cells n,eG home n cells n,n⟩):=by
 cases e:(List.range n).find? (dP home n cells tag key) with
 | none=>
  rw[List.find?_range_eq_none] at e
  have hn:∀ j,j < n→dP home n cells tag key j=false:=fun j hj=>by simpa using e j hj
  exact .inr (.inr ⟨hn,kf hn⟩)
 | some k=>
  rw[List.find?_range_eq_some] at e
  obtain⟨h1,h2,h3⟩:=e
  have hk:k < n:=by simpa using h2
  have hn:∀ j,j < k→dP home n cells tag key j=false:=fun j hj=>by simpa using h3 j hj
  by_cases hh:dW home n cells tag key k < 8
  ·exact .inl ⟨k,hk,hn,hh,lS hk hn hh⟩
  have he:eC home n cells k < 8:=by unfold dP at h1;simpa [hh] using h1
  exact .inr (.inl ⟨k,hk,hn,hh,he,ie hk hn hh he⟩)
end
theorem xI {T T':Tb} {n go k:Nat} {v:Int} {m:Nat→Int} {off:Nat} (h:∀ j,j < 8→cZ m (off+8*j) 8=IntKind.u64.wrap (dT T n go j)) (hk:k < 8) (hv:dT T' n go k=v) (ho:∀ j,j < 8→j≠k→dT T' n go j=dT T n go j):
  ∀ j,j < 8→cZ (cm m (off+8*k) 8 (bG (IntKind.u64.wrap v))) (off+8*j) 8=IntKind.u64.wrap (dT T' n go j):=by
 intro j hj
 by_cases q:j=k
 ·subst q
  rw[cJ (m':=bG (IntKind.u64.wrap v)) (o':=0) fun i hi=>by rw[gJ (by omega) (by omega)];congr 1;omega]
  rw[fA,hv,IntKind.wrap_u64]
  omega
 rw[ho j hj q,← h j hj]
 exact cJ fun i hi=>by rw[bO];omega
theorem TAt.set {m:Nat→Int} {off go:Nat} {l:Lay} {n:Nat} {T T':Tb} (h:TAt m off go l n T) (hd:off+64≤go∨go+n*gN l≤off) {k:Nat} (hk:k < 8) {v:Int} (hv:dT T' n go k=v) (ho:∀ j,j < 8→j≠k→dT T' n go j=dT T n go j) (hc:T'.cells=T.cells):
  TAt (cm m (off+8*k) 8 (bG (IntKind.u64.wrap v))) off go l n T':=by
 refine⟨xI h.head hk hv ho,fun g hg=>?_,by rw[hc];exact h.okc⟩
 rw[hc]
 refine GAt.out (h.body g hg) ?_
 have:g*gN l+gN l≤n*gN l:=by have:=Nat.mul_le_mul_right (gN l) (show g+1≤n by omega);rw[Nat.add_mul] at this;omega
 omega
theorem TAt.grp {m:Nat→Int} {off go:Nat} {l:Lay} {n:Nat} {T T':Tb} (h:TAt m off go l n T) (hd:off+64≤go∨go+n*gN l≤off) {g:Nat} (hg:g < n) {cs:Nat→Cell} (hcs:∀ i,i < 8→(cs i).ok l)
  (hv:∀ k,k < 8→dT T' n go k=dT T n go k) (hc:∀ i,T'.cells i=if i / 8=g then cs (i % 8) else T.cells i) (hl:gW l):
  TAt (cm m (go+g*gN l) (gN l) (c7 l cs)) off go l n T':=by
 have hgl:g*gN l+gN l≤n*gN l:=by have:=Nat.mul_le_mul_right (gN l) (show g+1≤n by omega);rw[Nat.add_mul] at this;omega
 refine⟨fun k hk=>?_,fun g' hg'=>?_,fun i hi=>?_⟩
 ·rw[hv k hk,← h.head k hk]
  exact cJ fun i hi=>by rw[bO];omega
 ·by_cases q:g'=g
  ·subst q
   intro j hj
   rw[GAt.lay cs j hj]
   have e:∀ i,i < 8→cD T'.cells g' i=cs i:=fun i hi=>by
    show T'.cells (8*g'+i)=_
    rw[hc,if_pos (by omega)];congr 1;omega
   unfold c7
   split
   ·next hj8=>rw[e _ hj8]
   next hj8=>
   obtain⟨i,r,hi,hr,e0⟩:=nX hl (by omega:8≤j) hj
   obtain⟨d1,d2⟩:=j7 (i:=i) hr
   rw[show j-8=i*sN l+r by omega,d1,e i hi]
  have e:cD T'.cells g'=fun i=>if i < 8 then cD T.cells g' i else T'.cells (8*g'+i):=by
   funext i
   split
   ·next hi=>show T'.cells (8*g'+i)=T.cells (8*g'+i);rw[hc,if_neg (by omega)]
   rfl
  have hb:=(h.body g' hg').out (o:=go+g*gN l) (k:=gN l) (f:=c7 l cs) (by
   rcases Nat.lt_or_ge g' g with q2 | q2
   ·have:=Nat.mul_le_mul_right (gN l) (show g'+1≤g by omega);rw[Nat.add_mul] at this;omega
   have:=Nat.mul_le_mul_right (gN l) (show g+1≤g' by omega);rw[Nat.add_mul] at this;omega)
  intro j hj
  rw[hb j hj]
  have e2:∀ i,i < 8→cD T'.cells g' i=cD T.cells g' i:=fun i hi=>by
   show T'.cells (8*g'+i)=T.cells (8*g'+i);rw[hc,if_neg (by omega)]
  unfold c7
  split
  ·next hj8=>rw[e2 _ hj8]
  next hj8=>
  obtain⟨i,r,hi,hr,e0⟩:=nX hl (by omega:8≤j) hj
  obtain⟨d1,d2⟩:=j7 (i:=i) hr
  rw[show j-8=i*sN l+r by omega,d1,e2 i hi]
 rw[hc]
 split
 ·exact hcs _ (Nat.mod_lt _ (by decide))
 exact h.okc i hi
end TableB
end
section
set_option maxRecDepth 100000
namespace TableI
open Go.RowKit Go.Proofs Eng Bits Layout Mem CtrlB GroupB Probe TableB
def isFull:Cell→Bool
 | .full _ _ _ _=>true
 | _=>false
def lG:Cell→Bool
 | .deleted=>true
 | _=>false
def ed:Cell→Bool
 | .empty=>true
 | _=>false
def cnt (p:Cell→Bool) (cells:Nat→Cell) (N:Nat):Nat:=(List.range N).countP fun i=>p (cells i)
theorem fk (p:Cell→Bool) (cells:Nat→Cell) (N:Nat):cnt p cells (N+1)=cnt p cells N+if p (cells N) then 1 else 0:=by
 unfold cnt;rw[List.range_succ,List.countP_append,List.countP_singleton]
theorem xY {p:Cell→Bool} {c d:Nat→Cell} {N:Nat} (h:∀ i,i < N→c i=d i):cnt p c N=cnt p d N:=by
 induction N with
 | zero=>rfl
 | succ N ih=>rw[fk,fk,ih fun i hi=>h i (by omega),h N (by omega)]
theorem mK {p:Cell→Bool} {cells:Nat→Cell} {N i:Nat} (hi:i < N) (c:Cell):cnt p (bT cells i c) N+(if p (cells i) then 1 else 0)=cnt p cells N+if p c then 1 else 0:=by
 induction N with
 | zero=>omega
 | succ N ih=>
  rw[fk,fk]
  by_cases q:i=N
  ·subst q
   rw[xY (c:=bT cells i c) (d:=cells) (N:=i) fun j hj=>gj _ (by omega) _,fv];omega
  rw[gj _ (by omega)]
  have:=ih (by omega)
  omega
theorem rY (p:Cell→Bool) (cells:Nat→Cell) (N:Nat):cnt p cells N≤N:=by
 unfold cnt;exact Nat.le_trans List.countP_le_length (by simp)
structure H7 (n:Nat) (T:Tb):Prop where
 mixed:∀ i j,i < 8*n→j < 8*n→i / 8=j / 8→T.cells i=.empty→T.cells j≠.deleted
 used:T.used=((cnt isFull T.cells (8*n):Nat):Int)
 left:T.left=7*(n:Int)-((cnt isFull T.cells (8*n):Nat):Int)-((cnt lG T.cells (8*n):Nat):Int)
 room:0≤T.left
def reach (n:Nat) (cells:Nat→Cell) (h:Int) (g:Nat):Prop:=∃ j,j < n∧gk (h / 128) n j=g∧∀ i,i < j→eC (h / 128) n cells i=8
structure H6 (n:Nat) (H:ByteArray→Int) (cells:Nat→Cell):Prop where
 uniq:∀ i j,i < 8*n→j < 8*n→∀ t k e b t' e' b',cells i=.full t k e b→cells j=.full t' k e' b'→i=j
 tag:∀ i,i < 8*n→∀ t k e b,cells i=.full t k e b→t=H k % 128
 way:∀ i,i < 8*n→∀ t k e b,cells i=.full t k e b→reach n cells (H k) (i / 8)
theorem oR {home:Int} {n k:Nat} (hn:0 < n):gk home n k < n:=by
 unfold gk ord
 have h1:=Int.emod_nonneg (home+((k*(k+1) / 2:Nat):Int)) (by omega:(n:Int)≠0)
 have h2:=Int.emod_lt_of_pos (home+((k*(k+1) / 2:Nat):Int)) (by omega:(0:Int) < (n:Int))
 omega
theorem wv {home:Int} {n k:Nat} (hn:0 < n):((gk home n k:Nat):Int)=ord home n k:=by
 unfold gk ord
 have h1:=Int.emod_nonneg (home+((k*(k+1) / 2:Nat):Int)) (by omega:(n:Int)≠0)
 omega
theorem hit_cell {cs:Nat→Cell} {tag:Int} {key:ByteArray} {i:Nat} (h:fh cs tag key i=true):∃ e b,cs i=.full tag key e b:=by
 unfold fh at h
 split at h
 ·next t k e b hc=>simp only[Bool.and_eq_true,decide_eq_true_eq] at h;obtain⟨rfl,rfl⟩:=h;exact⟨e,b,hc⟩
 cases h
theorem DL {cs:Nat→Cell} {tag:Int} {key:ByteArray} {i:Nat} {e:ByteArray} {b:Int} (h:cs i=.full tag key e b):fh cs tag key i=true:=by
 unfold fh;rw[h];simp
theorem rk {cs:Nat→Cell} {i:Nat}:eD cs i=true↔isFull (cs i)=false:=by unfold eD isFull;cases cs i <;> simp
theorem Ci {cs:Nat→Cell} {i:Nat}:fY cs i=true↔cs i=.empty:=by unfold fY;cases cs i <;> simp
theorem Ch {cs:Nat→Cell} {i:Nat} (h:fY cs i=true):eD cs i=true:=by unfold fY eD at *;cases e:cs i <;> rw[e] at h <;> simp_all
section
variable {n:Nat} {cells:Nat→Cell} {h:Int} {key:ByteArray} {H:ByteArray→Int}
theorem BM {g i:Nat} (hg:g < n) (hi:i < 8):8*g+i < 8*n:=by omega
theorem uz {home:Int} {k:Nat} (hv:¬ dL home n cells k < 0):∃ j,j < k∧cM home n cells j < 8∧(∀ i,i < j→cM home n cells i=8)∧dL home n cells k=8*((gk home n j:Nat):Int)+((cM home n cells j:Nat):Int)∧eG home n cells k=fY (cD cells (gk home n j)) (cM home n cells j):=by
 rw[mi] at hv
 cases e:vst home n cells k with
 | none=>exact absurd e hv
 | some j=>
  have e2:=e
  unfold vst at e
  rw[List.find?_range_eq_some] at e
  obtain⟨h1,h2,h3⟩:=e
  refine⟨j,by simpa using h2,by simpa using h1,fun i hi=>?_,?_,?_⟩
  ·have:=h3 i hi
   have h4:=dK (eD (cD cells (gk home n i)))
   simp at this
   unfold cM at this ⊢;omega
  ·unfold dL;rw[e2]
  unfold eG;rw[e2]
theorem vac_no {home:Int} {k:Nat} (hv:dL home n cells k < 0):∀ j,j < k→cM home n cells j=8:=by
 rw[mi] at hv
 unfold vst at hv
 rw[List.find?_range_eq_none] at hv
 intro j hj
 have:=hv j hj
 have h4:=dK (eD (cD cells (gk home n j)))
 simp at this
 unfold cM at this ⊢;omega
theorem By {home:Int} {k:Nat} (hv:cM home n cells k=8):eC home n cells k=8:=by
 unfold cM at hv;unfold eC
 rw[gC] at hv ⊢
 intro i hi
 cases q:fY (cD cells (gk home n k)) i with
 | false=>rfl
 | true=>have:=Ch q;rw[hv i hi] at this;cases this
end
end TableI
end
end Go.Proofs.YthkajgkagnenbaaGreatDoor
