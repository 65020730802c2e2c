import Derived.Test.YthkajgkagnenbaaGreatDoorArenaW
set_option linter.unusedVariables false
set_option linter.unusedSimpArgs false
set_option linter.unusedSectionVars false
set_option maxRecDepth 100000
namespace Go.Proofs.YthkajgkagnenbaaGreatDoor
namespace Group
open Go.RowKit Go.Proofs Eng Ty Bits Mem Search Arena CtrlB Ctrl Layout GroupB
def _root_.Go.Proofs.YthkajgkagnenbaaGreatDoor.GroupB.Cell.kind:Cell->Int | .empty=>0 | .deleted=>1 | .full _ _ _ _=>2
def _root_.Go.Proofs.YthkajgkagnenbaaGreatDoor.GroupB.Cell.tagI:Cell->Int | .full t _ _ _=>t | _=>0
def _root_.Go.Proofs.YthkajgkagnenbaaGreatDoor.GroupB.Cell.keyS:Cell->ByteArray | .full _ k _ _=>k | _=>⟨#[]⟩
def _root_.Go.Proofs.YthkajgkagnenbaaGreatDoor.GroupB.Cell.elemS:Cell->ByteArray | .full _ _ e _=>e | _=>⟨#[]⟩
def _root_.Go.Proofs.YthkajgkagnenbaaGreatDoor.GroupB.Cell.birthI:Cell->Int | .full _ _ _ b=>b | _=>0
def ny (cs:Nat->Cell):jT:=fun i=>(cs i).ctrl.toNat
theorem ig {l:Lay} {cs:Nat->Cell} (h:∀ i,i < 8->(cs i).ok l) {i:Nat} (hi:i < 8):((ny cs i:Nat):Int)=(cs i).ctrl:=by
 have:=Cell.ctrl_bnd (h i hi);unfold ny;omega
theorem ld {l:Lay} {cs:Nat->Cell} (h:∀ i,i < 8->(cs i).ok l):okB (ny cs):=fun i hi=>by
 have:=Cell.ctrl_bnd (h i hi);have:=ig h hi;omega
theorem vS {f:jT} (hf:okB f):0<=wI f/\wI f < 18446744073709551616:=by
 have:=iK hf
 show 0<=((wd f:Nat):Int)/\((wd f:Nat):Int) < _
 omega
def KL:Cell->Bool | .full _ _ _ _=>true | _=>false
theorem Dy {m:Nat->Int} {o:Nat} {f:jT} (h:∀ i,i < 8->m (o+i)=((f i:Nat):Int)):dU m o 8=wI f:=by
 have h0:=h 0 (by decide);have h1:=h 1 (by decide);have h2:=h 2 (by decide);have h3:=h 3 (by decide)
 have h4:=h 4 (by decide);have h5:=h 5 (by decide);have h6:=h 6 (by decide);have h7:=h 7 (by decide)
 simp only[dU,wI,wd,CT,nd]
 rw[h0,h1,h2,h3,h4,h5,h6,h7]
 simp only[show(2:Int) ^ (8*0)=1 from rfl,show(2:Int) ^ (8*1)=256 from rfl,show(2:Int) ^ (8*2)=65536 from rfl,show(2:Int) ^ (8*3)=16777216 from rfl,show(2:Int) ^ (8*4)=4294967296 from rfl,show(2:Int) ^ (8*5)=1099511627776 from rfl,show(2:Int) ^ (8*6)=281474976710656 from rfl,show(2:Int) ^ (8*7)=72057594037927936 from rfl]
 push_cast
 omega
theorem hJ {m:Nat->Int} {off:Nat} {l:Lay} {cs:Nat->Cell} (hG:qO m off l cs) (hN:lQ l) (h:∀ i,i < 8->(cs i).ok l):dU m off 8=wI (ny cs):=
 Dy fun i hi=>by rw[hG.ctrl hN hi,ig h hi]
theorem oY {f:jT} (hf:okB f) {j:Nat} (hj:j < 8):ct (wI f) j=((f j:Nat):Int):=by
 have:=Au f hf j hj
 unfold ct
 rw[<- cr,<- Int.natCast_ediv,<- this]
 exact(Int.natCast_emod _ 256).symm
theorem sL {s:ArS} {a b c d o k:Nat} {f g h:Nat->Int} (e:dh (dh s.m a b f) c d g=dh s.m o k h):(s.put a b f).put c d g=s.put o k h:=by
 unfold ArS.put;simp only[e]
def lK:List Int->Int
 | []=>0
 | e::r=>if e=0 then lK r else e
theorem qt (p k:Nat) (es:List Int) (hk:es.length=k) (hkb:k<=1000):aK Tryz.prog 191 #[.slice (some ⟨p,0,none⟩) k k] [pt p (.cells (ints es).toArray 77 (0,0))] (fun v L=>v=.int .i64 (lK es)/\L= []):=by
 subst hk
 refine au Ic Tryz.func191 rfl rfl rfl fun Fr w0=>aZ ?_
 refine sr<|ar O O<|lc<|al<|sr<|mv O O<|ad O (ql O rf)<|mv O O<|lc<|aB ?_
 refine bK (fun j:Nat=>j<=es.length/\lK (es.drop j)=lK es) (fun j=>[(5,.slice (some ⟨p,0,none⟩) es.length es.length),(6,.int .i64 es.length),(7,.int .i64 j)]) (fun j=>pt p (.cells (ints es).toArray 77 (0,0))::Fr) (fun j=>es.length-j) 0 ⟨by omega,by simp⟩ ⟨rfl,rfl,rfl,trivial⟩ (dS.refl _) ?_
 rintro j ⟨hj,hd⟩
 refine sr<|ad O (qi O O (bj ·))<|lc<|al<|aG O (fun h=>?_) fun h=>?_
 ·have hjl:j < es.length:=by omega
  rw[List.drop_eq_getElem_cons hjl] at hd
  simp only[lK] at hd
  refine aq<|an<|al<|aB<|sr<|ad O (az O O rf fU (by omega)) ?_
  apply ad O
  ·apply fW O iO
   ·exact tk
   rw[Nat.zero_add,Int.toNat_natCast];simp[ints,hjl];rfl
  refine ar O O<|lz<|mv O O<|ad O (qi O O (bf ·))<|lc<|aG O (fun q=>?_) fun q=>?_
  ·refine sr<|mv O O<|ar O O<|lc<|rt<|cN O ([]) (.tmp rfl) ?_
   exact⟨by rw[if_neg q] at hd;rw[hd],rfl⟩
  refine aq<|bz<|an<|aD<|ad O (bn O O) ?_
  refine mv O O<|ai ?_
  apply aU ((j+1))
  ·exact⟨by omega,by rw[if_pos (Classical.not_not.1 q)] at hd;exact hd⟩
  ·omega
  ·exact⟨O,O,O,trivial⟩
  exact en
 refine xt O<|nz<|ar O O<|lc<|rt ?_
 have hz:es.drop j= []:=List.drop_eq_nil_of_le (by omega)
 rw[hz] at hd
 refine cN O ([]) (.tmp rfl) ?_
 exact⟨by rw[<- hd];rfl,rfl⟩
theorem rO (p:Nat) (a b:Int):aK Tryz.prog 191 #[.slice (some ⟨p,0,none⟩) 2 2] [pt p (.cells #[.int .i64 a,.int .i64 b] 77 (0,0))] (fun v L=>v=.int .i64 (lK [a,b])/\L= []):=qt p 2 [a,b] rfl (by decide)
theorem zn (p:Nat) (a b c:Int):aK Tryz.prog 191 #[.slice (some ⟨p,0,none⟩) 3 3] [pt p (.cells #[.int .i64 a,.int .i64 b,.int .i64 c] 77 (0,0))] (fun v L=>v=.int .i64 (lK [a,b,c])/\L= []):=qt p 3 [a,b,c] rfl (by decide)
theorem zm (p:Nat) (a b c d e f:Int):aK Tryz.prog 191 #[.slice (some ⟨p,0,none⟩) 6 6] [pt p (.cells #[.int .i64 a,.int .i64 b,.int .i64 c,.int .i64 d,.int .i64 e,.int .i64 f] 77 (0,0))] (fun v L=>v=.int .i64 (lK [a,b,c,d,e,f])/\L= []):=qt p 6 [a,b,c,d,e,f] rfl (by decide)
theorem CW (b:Bool) (e:Int):aK Tryz.prog 193 #[.bool b,.int .i64 e] [] (fun v L=>v=.int .i64 (if b then e else 0)/\L= []):=by
 refine au Ia Tryz.func193 rfl rfl rfl fun Fr w0=>aZ ?_
 refine sr<|ar O O<|lc<|al<|sr<|mv O O<|lc<|aG O (fun h=>?_) fun h=>?_
 ·refine sr<|mv O O<|ar O O<|lc<|rt<|cN O ([]) (.tmp rfl) ?_
  exact⟨by rw[h];rfl,rfl⟩
 refine aq<|nz<|ar O O<|lc<|rt<|cN O ([]) (.tmp rfl) ?_
 exact⟨by rw[h];rfl,rfl⟩
theorem oQ (i:Int) (h0:0<=i) (h1:i < 8):aK Tryz.prog 192 #[.int .i64 i] [] (fun v L=>v=.int .i64 0/\L= []):=by
 refine au Ib Tryz.func192 rfl rfl rfl fun Fr w0=>aZ ?_
 refine sr<|ar O O<|lc<|al<|sr<|mv O O<|ad O (qi O O (bj ·))<|mv O O<|bQ (t:=5) rfl (fun h=>?_) fun h=>?_
 ·omega
 refine aA O O<|mv O O<|aA O O<|ad O (qi O O (iC ·))<|ad O (aS O O)<|lc<|aG O (fun h2=>?_) fun h2=>?_
 ·omega
 exact aq<|nz<|ar O O<|lc<|rt<|cN O ([]) (.tmp rfl) ⟨rfl,rfl⟩
theorem E3 (pa off:Nat) (l:Lay):aK Tryz.prog 131 #[.pointer (some ⟨pa,0,none⟩),.agg l.cells,.int .i64 off] [] (fun v L=>v=.agg #[.pointer (some ⟨pa,0,none⟩),.int .i64 l.key,.int .i64 l.elem,.int .i64 l.ka,.int .i64 l.ea,.int .i64 l.cap,.int .i64 l.eo,.int .i64 l.bo,.int .i64 l.slot,.int .i64 l.group,.int .i64 off]/\L= []):=by
 refine au IZ Tryz.func131 rfl rfl rfl fun Fr w0=>aZ ?_
 refine sr<|bw O O fun b4=>ay O o6 fun b6=>lz<|mv O O<|ad O (aO O cZ bH) ?_
 refine mv O O ?_
 apply ad O
 ·apply bp O GD o6
  apply aP.one
  ·repeat (first | exact ba.here | apply ba.there)
  ·rfl
  ·exact sa
  apply aP.all
  ·repeat (first | exact ba.here | apply ba.there)
  ·rfl
  ·simp
  ·exact Dj
  apply aP.one
  ·repeat (first | exact ba.here | apply ba.there)
  ·rfl
  ·exact sa
  exact aP.nil
 refine bZ O O O dO O O ?_
 refine lc<|rt ?_
 apply aR (.inl rfl) ([])
 ·apply cP O
  apply Rv.agg rfl
  ·exact tk
  exact aJ eG dO O
 ·exact⟨rfl,rfl⟩
 exact en
section
variable (pa off:Nat) (s:ArS) (l:Lay) (hl:l.err=0) (hg:bt s off l.group)
include hl hg
theorem jb:aK Tryz.prog 167 #[.agg #[.pointer (some ⟨pa,0,none⟩),.int .i64 l.key,.int .i64 l.elem,.int .i64 l.ka,.int .i64 l.ea,.int .i64 l.cap,.int .i64 l.eo,.int .i64 l.bo,.int .i64 l.slot,.int .i64 l.group,.int .i64 off]] [aj pa s] (fun v L=>v=.int .i64 0/\L= [aj pa s]):=by
 have hN:=eK hl
 refine au Iw Tryz.func167 rfl rfl rfl fun Fr w0=>aZ ?_
 refine sr<|bw O O fun b1=>ar O O<|lc<|al<|sr<|ad O (aE 1 O bJ O O bH)<|ad O (aO O cZ bH) ?_
 refine bF O O O (ob l hl) ?_
 refine ad O (db O (cy ·))<|lc<|aG O (fun z=>?_) fun z=>?_
 ·exact absurd z (by simp)
 refine aq<|nz<|ad O (aE 0 O bJ O O eu)<|ad O (aI O ew) ?_
 refine ad O (aE 10 O bJ O O aN)<|ad O (aI O aX) ?_
 refine ad O (aE 10 O bJ O O aN)<|ad O (aI O aX) ?_
 refine ad O (aE 1 O bJ O O bH)<|ad O (aE 8 O cB O O aN)<|ad O (aI O aX) ?_
 refine cT O O O (Ac pa s _ _ _ off off (gN l) rfl rfl hN.g.symm hg hg) ?_
 rintro v L' ⟨⟨q,rfl,_⟩,rfl⟩
 refine bx ?_
 refine mv O O<|ad O (aa O ga) ?_
 refine ad O (aa O ga) ?_
 exact ar O O<|ar O O<|lz<|mv O O<|ar O O<|lc<|rt<|cN O ([aj pa s]) (.tmp rfl) ⟨rfl,rfl⟩
theorem Cu:aK Tryz.prog 132 #[.agg #[.pointer (some ⟨pa,0,none⟩),.int .i64 l.key,.int .i64 l.elem,.int .i64 l.ka,.int .i64 l.ea,.int .i64 l.cap,.int .i64 l.eo,.int .i64 l.bo,.int .i64 l.slot,.int .i64 l.group,.int .i64 off]] [aj pa s] (fun v L=>v=.int .i64 0/\L= [aj pa (s.put off (gN l) (dZ l fun _=>.empty))]):=by
 have hN:=eK hl
 have hn8:=hN.g_eq
 have hng:=hN.g
 refine au IY Tryz.func132 rfl rfl rfl fun Fr w0=>aZ ?_
 refine sr<|bw O O fun b1=>ar O O<|lc<|al<|sr<|ad O (aO O eG dO) ?_
 refine bF O O O (jb pa off s l hl hg) ?_
 refine ar O O<|lz<|mv O O<|ad O (qi O O (bf ·))<|lc<|aG O (fun z=>?_) fun z=>?_
 ·exact absurd rfl z
 refine aq<|nz<|ad O (aE 0 O bJ O O eu)<|ad O (aI O ew) ?_
 refine ad O (aE 10 O bJ O O aN)<|ad O (aI O aX) ?_
 refine ad O (aE 1 O bJ O O bH)<|ad O (aE 8 O cB O O aN)<|ad O (aI O aX) ?_
 refine bF O O O (vF pa s _ _ off (gN l) 0 rfl hN.g.symm (by omega) hg) ?_
 refine lc<|al<|aY mixed ?_
 apply dq 0 O (yq (aE 0 O bJ O O eu))
 apply dq 1 O (yq (aI O ew))
 apply dq 2 O (yq (aE 10 O bJ O O aN))
 apply dq 3 O (yq (aI O aX))
 refine ak [] [3,2,1,0] 4 [] gO trivial (by kernel_rfl) (by kernel_rfl) fun Ex=>?_
 refine bF O O O (CP) ?_
 refine ai ?_
 refine aQ ⟨ya O O (yq (aI O aX)),ya O O (yq (aE 10 O bJ O O aN)),ya O O (yq (aI O ew)),ya O O (yq (aE 0 O bJ O O eu)),trivial⟩ ?_
 refine ak [1,3,0,2] [] 5 [(18,_),(20,_),(21,_)] gO ⟨rfl,rfl,rfl,trivial⟩ (by kernel_rfl) (by kernel_rfl) fun Ex=>?_
 refine bF O O O (mi pa (s.put off (gN l) fun _=>0) _ _ off 8 _ rfl rfl (vS (f:=fun _=>128) (ir (by decide))) (by unfold wid;omega) (bt.sub (bt.put hg) (by omega) (by omega) (by omega))) ?_
 refine ai ?_
 refine aQ trivial ?_
 refine ak [] [] 6 [(22,_)] gO ⟨rfl,trivial⟩ (by kernel_rfl) (by kernel_rfl) fun Ex=>?_
 refine ar O O<|ai ?_
 refine aQ trivial ?_
 refine aV (by kernel_rfl) ?_
 refine an<|rt ?_
 apply aR (.inl rfl) ([aj pa (s.put off (gN l) (dZ l fun _=>.empty))])
 ·apply cP O
  exact .tmp rfl
 ·exact⟨rfl,rfl⟩
 rw[sL (yS hN fun j hj=>(oY (f:=fun _=>128) (ir (by decide)) hj))];(exact en)
end
theorem A9 {off:Nat} {s:ArS} {l:Lay} {cs:Nat->Cell} (hl:l.err=0) (hG:qO s.m off l cs) (hok:∀ i,i < 8->(cs i).ok l) {i:Nat} (hi:i < 8) {t:Nat} (ht:t < 128) {k e:ByteArray} {b:Int} (hk:k.size=kN l) (he:e.size=eN l):
  ((s.put (off+(8+i*sN l)) (sN l) (iG (parts l k e b))).put off 8 (ct (wI (mE (ny cs) i t))))=s.put off (gN l) (dZ l (cW cs i (.full t k e b))):=by
 have hN:=eK hl
 refine sL (uw hN hG hi (.full t k e b) (fun r _=>rfl) fun j hj=>?_)
 have hsf:okB (mE (ny cs) i t):=fun j hj=>by unfold mE;split;omega;exact ld hok j hj
 rw[oY hsf hj]
 unfold mE
 by_cases q:j=i
 ·rw[if_pos q,if_pos q];rfl
 rw[if_neg q,if_neg q,ig hok hj]
theorem ux {off:Nat} {s:ArS} {l:Lay} {cs:Nat->Cell} (hl:l.err=0) (hG:qO s.m off l cs) (hok:∀ i,i < 8->(cs i).ok l) {i:Nat} (hi:i < 8) {c:Nat} {cell:Cell} (hc:cell.ctrl=(c:Int)) (hc2:c < 256) (hn:KL cell=false):
  ((s.put (off+(8+i*sN l)) (sN l) (fun _=>0)).put off 8 (ct (wI (mE (ny cs) i c))))=s.put off (gN l) (dZ l (cW cs i cell)):=by
 have hN:=eK hl
 refine sL (uw hN hG hi cell (fun r _=>by cases cell <;> first | rfl | cases hn) fun j hj=>?_)
 have hsf:okB (mE (ny cs) i c):=fun j hj=>by unfold mE;split;exact hc2;exact ld hok j hj
 rw[oY hsf hj]
 unfold mE
 by_cases q:j=i
 ·rw[if_pos q,if_pos q,hc]
 rw[if_neg q,if_neg q,ig hok hj]
theorem lH {m f:Nat->Int} {off x k:Nat}:dU (dh m (off+(8+x)) k f) off 8=dU m off 8:=eA fun i hi=>by rw[cC (by omega)]
theorem yd (s:ByteArray):iG [s]=eX s:=by
 funext i
 simp only[iG]
 split
 ·rfl
 next h=>unfold eX;rw[dif_neg h]
theorem mb:∀ n,n<=8->(⟨#[0,0,0,0,0,0,0,0]⟩:ByteArray).extract 0 n=iZ n:=by
 intro n hn
 have:n=0\/n=1\/n=2\/n=3\/n=4\/n=5\/n=6\/n=7\/n=8:=by omega
 rcases this with rfl | rfl | rfl | rfl | rfl | rfl | rfl | rfl | rfl <;> rfl
theorem mY (b:Bool) (e:Int) (h:b=false):aK Tryz.prog 193 #[.bool b,.int .i64 e] [] (fun v L=>v=.int .i64 0/\L= []):=
 (CW b e).mono fun v L ⟨h1,h2⟩=>⟨by rw[h1,h];rfl,h2⟩
theorem zf (f:Nat->Int):cu (dh (fun _=>0) 0 8 f) 8=cu f 8:=by
 apply List.ext_getElem?
 intro i
 by_cases h:i < 8
 ·rw[dW h,dW h];unfold dh;rw[if_pos (by omega)];simp
 rw[List.getElem?_eq_none (by rw[cH];omega),List.getElem?_eq_none (by rw[cH];omega)]
theorem wG (b:Int):eW (qe b)=cu (ct b) 8:=by
 unfold qe
 rw[pD (r7 b)]
 congr 1
 funext i;congr 1;omega
theorem number_ok (b:Int) (hb:0<=b/\b < 9223372036854775808):aK Tryz.prog 198 #[.int .i64 b] [] (fun v L=>v=.string (qe b)/\L= []):=by
 refine au H5 Tryz.func198 rfl rfl rfl fun Fr w0=>aZ ?_
 refine sr<|ar O O<|lz ?_
 apply dL O O O dG CU O (by omega) (by omega)
 intro b5
 refine ar O O<|lc<|al<|sr<|mv O O<|ad O (ql O dG)<|mv O O<|lc<|aB ?_
 refine il (L':=aF 5 1 (.slice (some ⟨b5,0,none⟩) 8 8) 8 (cu (dh (fun _=>0) 0 0 (ct b)) 8)::Fr) (by rw[lI];exact dS.refl _) ?_
 refine bK (fun j:Nat=>j<=8) (fun j=>[(0,.int .i64 b),(3,.slice (some ⟨b5,0,none⟩) 8 8),(7,.int .i64 8),(8,.int .i64 j)]) (fun j=>aF 5 1 (.slice (some ⟨b5,0,none⟩) 8 8) 8 (cu (dh (fun _=>0) 0 j (ct b)) 8)::Fr) (fun j=>8-j) 0 (by omega) ⟨rfl,rfl,rfl,rfl,trivial⟩ (dS.refl _) ?_
 intro j hj
 refine sr<|ad O (qi O O (bj ·))<|lc<|al<|aG O (fun h=>?_) fun h=>?_
 ·refine aq<|an<|al<|aB<|sr<|mv O O<|ar O O<|lr<|mv O O<|mv O O<|mv O O<|ad O (km O j5 fv) ?_
  refine mv O O<|ad O (dA O O) ?_
  apply ad O
  ·apply qi O O;exact fun w=>gA w (by omega)
  refine ad O (km O fv E5) ?_
  refine ad O (az O O dG sn (by omega)) ?_
  apply ee O O O sn O
  ·exact tk
  ·rw[Nat.zero_add,Int.toNat_natCast];omega
  ·refine Eq.trans ?_ (qk (m:=fun _=>0) (f:=ct b) (n:=8) (o:=0) (j:=j) (by omega) (ua b j hb.1 (by omega)));rw[Nat.zero_add,Int.toNat_natCast,Nat.zero_add]
  refine ai<|bz<|an<|aD<|ad O (bn O O) ?_
  refine mv O O<|ai ?_
  apply aU ((j+1))
  ·exact(show j+1<=8 by omega)
  ·omega
  ·exact⟨O,O,O,O,trivial⟩
  exact en
 obtain rfl:j=8:=by omega
 rw[zf]
 refine xt O<|nz<|mv O O ?_
 apply ad O
 ·apply pR (qe b) rfl Tryz.underlying117 Tryz.underlying5 Tryz.underlying9
  ·rw[nT]
  rw[wG];exact mG (by exact tk)
 exact ar O O<|lc<|rt<|cN O ([]) (.tmp rfl) ⟨rfl,rfl⟩
theorem sU (pa off i c:Nat) (s:ArS) (l:Lay) (hl:l.err=0) (hg:bt s off l.group) (f:jT) (hf:okB f) (hw:dU s.m off 8=wI f) (hi:i < 8) (hc:c < 256):
  aK Tryz.prog 199 #[.agg #[.pointer (some ⟨pa,0,none⟩),.int .i64 l.key,.int .i64 l.elem,.int .i64 l.ka,.int .i64 l.ea,.int .i64 l.cap,.int .i64 l.eo,.int .i64 l.bo,.int .i64 l.slot,.int .i64 l.group,.int .i64 off],.int .i64 i,.int .i64 c] [aj pa s] (fun v L=>v=.int .i64 0/\L= [aj pa (s.put off 8 (ct (wI (mE f i c))))]):=by
 have hN:=eK hl
 have hn8:=hN.g_eq
 have hng:=hN.g
 have hg8:bt s off 8:=bt.sub hg (by omega) (by omega) (by omega)
 have hsf:okB (mE f i c):=fun j hj=>by unfold mE;split;exact hc;exact hf j hj
 refine au H4 Tryz.func199 rfl rfl rfl fun Fr w0=>aZ ?_
 refine sr<|bw O O fun b3=>ar O O<|lz<|ad O (aE 0 O bJ O O eu)<|ad O (aI O ew) ?_
 refine ad O (aE 10 O bJ O O aN)<|ad O (aI O aX) ?_
 refine bF O O O (jz pa s _ _ off 8 rfl rfl (by unfold wid;omega) hg8) ?_
 rw[hw]
 refine mv O O<|ad O (aa O ga) ?_
 refine ad O (aa O ga) ?_
 refine ar O O<|ar O O<|lc<|al<|aY mixed ?_
 apply dq 0 O (yq (aE 0 O bJ O O eu))
 apply dq 1 O (yq (aI O ew))
 apply dq 2 O (yq (aE 10 O bJ O O aN))
 apply dq 3 O (yq (aI O aX))
 apply dq 4 O (yq (ah O))
 apply dq 5 O (yq (ah O))
 apply dq 6 O (yq (ah O))
 refine ak [4,5,6] [3,2,1,0] 7 [(21,_),(22,_),(23,_)] gO ⟨rfl,rfl,rfl,trivial⟩ (by kernel_rfl) (by kernel_rfl) fun Ex=>?_
 refine bF O O O (Gc f hf i c hi hc) ?_
 refine ai ?_
 refine aQ ⟨ya O O (yq (aI O aX)),ya O O (yq (aE 10 O bJ O O aN)),ya O O (yq (aI O ew)),ya O O (yq (aE 0 O bJ O O eu)),trivial⟩ ?_
 refine ak [1,3,0,2] [] 8 [(18,_),(20,_),(24,_)] gO ⟨rfl,rfl,rfl,trivial⟩ (by kernel_rfl) (by kernel_rfl) fun Ex=>?_
 refine bF O O O (mi pa s _ _ off 8 _ rfl rfl (vS hsf) (by unfold wid;omega) hg8) ?_
 refine ai ?_
 refine aQ trivial ?_
 refine ak [] [] 9 [(25,_)] gO ⟨rfl,trivial⟩ (by kernel_rfl) (by kernel_rfl) fun Ex=>?_
 refine ar O O<|ai ?_
 refine aQ trivial ?_
 refine aV (by kernel_rfl) ?_
 exact an<|rt<|cN O ([aj pa (s.put off 8 (ct (wI (mE f i c))))]) (.tmp rfl) ⟨rfl,rfl⟩
section
variable (pa off:Nat) (s:ArS) (l:Lay) (cs:Nat->Cell) (hl:l.err=0) (hg:bt s off l.group) (hG:qO s.m off l cs) (hok:∀ i,i < 8->(cs i).ok l)
include hl hg hG hok
theorem tr:aK Tryz.prog 98 #[.agg #[.pointer (some ⟨pa,0,none⟩),.int .i64 l.key,.int .i64 l.elem,.int .i64 l.ka,.int .i64 l.ea,.int .i64 l.cap,.int .i64 l.eo,.int .i64 l.bo,.int .i64 l.slot,.int .i64 l.group,.int .i64 off]] [aj pa s] (fun v L=>v=.tuple #[.int .u64 (wI (ny cs)),.int .i64 0]/\L= [aj pa s]):=by
 have hN:=eK hl
 have hn8:=hN.g_eq
 have hng:=hN.g
 have hg8:bt s off 8:=bt.sub hg (by omega) (by omega) (by omega)
 refine au JN Tryz.func98 rfl rfl rfl fun Fr w0=>aZ ?_
 refine sr<|bw O O fun b1=>ar O O<|ar O O<|lc<|al<|sr<|ad O (aO O eG dO) ?_
 refine bF O O O (jb pa off s l hl hg) ?_
 refine ar O O<|lz<|mv O O<|ad O (qi O O (bf ·))<|lc<|aG O (fun z=>?_) fun z=>?_
 ·exact absurd rfl z
 refine aq<|nz<|ad O (aE 0 O bJ O O eu)<|ad O (aI O ew) ?_
 refine ad O (aE 10 O bJ O O aN)<|ad O (aI O aX) ?_
 refine bF O O O (jz pa s _ _ off 8 rfl rfl (by unfold wid;omega) hg8) ?_
 refine ad O (aa O ga) ?_
 refine ad O (aa O ga) ?_
 refine ar O O<|ar O O<|lc<|rt<|ft O ([aj pa s]) (.tmp rfl) (.tmp rfl) ?_
 exact⟨by rw[hJ hG hN hok],rfl⟩
set_option maxHeartbeats 1000000 in
theorem DN (i:Nat) (hi:i < 8) (t:Int) (k e:ByteArray) (b:Int) (hc:cs i=.full t k e b):aK Tryz.prog 203 #[.agg #[.pointer (some ⟨pa,0,none⟩),.int .i64 l.key,.int .i64 l.elem,.int .i64 l.ka,.int .i64 l.ea,.int .i64 l.cap,.int .i64 l.eo,.int .i64 l.bo,.int .i64 l.slot,.int .i64 l.group,.int .i64 off],.int .i64 i,.int .i64 t] [aj pa s]
  (fun v L=>v=.agg #[.int .i64 2,.int .i64 t,.string k,.string e,.int .i64 b]/\L= [aj pa s]):=by
 have hN:=eK hl
 have hn8:=hN.g_eq;have hns:=hN.s_eq
 have h1:=hN.g;have h2:=hN.k;have h3:=hN.e;have h4:=hN.eo;have h5:=hN.bo;have h6:=hN.s
 have h7:=hN.eo1;have h8:=hN.bo1
 have hcok:=hok i hi
 rw[hc] at hcok
 obtain⟨_,_,hk,he,hb0,hb1⟩:=hcok
 have hst:(i:Int)*l.slot=((i*sN l:Nat):Int):=by rw[Int.natCast_mul,h6]
 have hit:=m6 hN hi (r:=sN l-1) (by omega)
 have hpl:∀ x:Int,fX l i x=8+((i*sN l:Nat):Int)+x:=fun x=>by unfold fX;rw[if_neg (by omega),hst]
 have inb:∀ o n:Int,0<=n->0<=o->o+n<=l.slot->bt s ((off:Int)+(8+((i*sN l:Nat):Int)+o)) n:=fun o n h0 h1 h2=>bt.sub hg h0 (by omega) (by omega)
 refine aK.mono (Post:=fun v L=>s.ok/\v=.agg #[.int .i64 2,.int .i64 t,.string (mo s.m (off+(8+i*sN l)) (kN l)),.string (mo s.m (off+(8+i*sN l+jC l)) (eN l)),.int .i64 (IntKind.i64.wrap (dU s.m (off+(8+i*sN l+r8 l)) 8))]/\L= [aj pa s]) ?_ ?_
 ·refine au H0 Tryz.func203 rfl rfl rfl fun Fr w0=>aZ ?_
  refine dN (φ:=s.ok) (fun w hw=>cS hw .here) fun hok0=>?_
  have hge:=bt.end_le hok0 hg
  have hst0:=hok0.stop_eq
  refine sr<|bw O O fun b3=>ay O dF fun b6=>lz<|mv O O ?_
  apply ad O
  ·apply bp O j9 dF
   apply aP.one
   ·repeat (first | exact ba.here | apply ba.there)
   ·rfl
   ·exact sa
   apply aP.one
   ·repeat (first | exact ba.here | apply ba.there)
   ·rfl
   ·exact sa
   exact aP.nil
  refine ay O dF fun b7=>bZ O O O bV O O ?_
  refine lc<|al<|aY mixed ?_
  apply dq 0 O (yq (aE 0 O bJ O O eu))
  apply dq 1 O (yq (aI O ew))
  apply dq 2 O (yq (aE 10 O bJ O O aN))
  apply dq 3 O (yq (aI O aX))
  apply dq 4 O (yq (aE 1 O bJ O O bH))
  apply dq 5 O (yq (aO O cZ bH))
  apply dq 6 O (yq (ah O))
  apply dq 9 O (yq (aE 1 O bJ O O bH))
  apply dq 10 O (yq (aE 0 O cB O O aN))
  apply dq 11 O (yq (aI O aX))
  refine ak [5,6,4] [11,10,9,3,2,1,0] 7 [(18,_),(19,_)] gO ⟨rfl,rfl,trivial⟩ (by kernel_rfl) (by kernel_rfl) fun Ex=>?_
  refine bF O O O (qL l hl i) ?_
  rw[hpl]
  refine ai ?_
  refine aQ ⟨ya O O (yq (aI O aX)),ya O O (yq (aE 0 O cB O O aN)),ya O O (yq (aE 1 O bJ O O bH)),ya O O (yq (aI O aX)),ya O O (yq (aE 10 O bJ O O aN)),ya O O (yq (aI O ew)),ya O O (yq (aE 0 O bJ O O eu)),trivial⟩ ?_
  apply dq 8 O (yq (bn O O))
  refine ak [1,8,11,0,3,10,2,9] [] 12 [(14,_),(21,_),(24,_)] gO ⟨rfl,rfl,rfl,trivial⟩ (by kernel_rfl) (by kernel_rfl) fun Ex=>?_
  refine bF O O O (vr pa s _ l.key (off+(8+i*sN l)) (kN l) (by omega) (by omega) (inb 0 l.key (by omega) (by omega) (by omega))) ?_
  refine ai ?_
  refine aQ trivial ?_
  apply dq 13 O (yq (ah O))
  apply dq 14 O (yq (aa O ga))
  apply dq 15 O (yq (aa O ga))
  apply dq 16 O (yq (aE 2 O cq O O fA))
  refine ak [16,14,13] [15] 17 [(28,_),(26,_)] gO ⟨rfl,rfl,trivial⟩ (by kernel_rfl) (by kernel_rfl) fun Ex=>?_
  refine st O O O fA O ?_
  refine ai ?_
  refine aQ ⟨ya O O (yq (aa O ga)),trivial⟩ ?_
  refine aV (by kernel_rfl) ?_
  refine an<|al<|aY mixed ?_
  apply dq 0 O (yq (aE 0 O bJ O O eu))
  apply dq 1 O (yq (aI O ew))
  apply dq 2 O (yq (aE 10 O bJ O O aN))
  apply dq 3 O (yq (aI O aX))
  apply dq 4 O (yq (aE 1 O bJ O O bH))
  apply dq 5 O (yq (aO O cZ bH))
  apply dq 6 O (yq (ah O))
  apply dq 9 O (yq (aE 1 O bJ O O bH))
  apply dq 10 O (yq (aE 1 O cB O O aN))
  apply dq 11 O (yq (aI O aX))
  refine ak [5,6,4] [11,10,9,3,2,1,0] 7 [(35,_),(36,_)] gO ⟨rfl,rfl,trivial⟩ (by kernel_rfl) (by kernel_rfl) fun Ex=>?_
  refine bF O O O (om l hl i) ?_
  rw[hpl]
  refine ai ?_
  refine aQ ⟨ya O O (yq (aI O aX)),ya O O (yq (aE 1 O cB O O aN)),ya O O (yq (aE 1 O bJ O O bH)),ya O O (yq (aI O aX)),ya O O (yq (aE 10 O bJ O O aN)),ya O O (yq (aI O ew)),ya O O (yq (aE 0 O bJ O O eu)),trivial⟩ ?_
  apply dq 8 O (yq (bn O O))
  refine ak [1,8,11,0,3,10,2,9] [] 12 [(31,_),(38,_),(41,_)] gO ⟨rfl,rfl,rfl,trivial⟩ (by kernel_rfl) (by kernel_rfl) fun Ex=>?_
  refine bF O O O (vr pa s _ l.elem (off+(8+i*sN l+jC l)) (eN l) (by omega) (by omega) (inb l.eo l.elem (by omega) (by omega) (by omega))) ?_
  refine ai ?_
  refine aQ trivial ?_
  apply dq 13 O (yq (ah O))
  apply dq 14 O (yq (aa O ga))
  apply dq 15 O (yq (aa O ga))
  apply dq 16 O (yq (aE 3 O cq O O fA))
  refine ak [16,14,13] [15] 17 [(45,_),(43,_)] gO ⟨rfl,rfl,trivial⟩ (by kernel_rfl) (by kernel_rfl) fun Ex=>?_
  refine st O O O fA O ?_
  refine ai ?_
  refine aQ ⟨ya O O (yq (aa O ga)),trivial⟩ ?_
  refine aV (by kernel_rfl) ?_
  refine an<|al<|aY mixed ?_
  apply dq 0 O (yq (aE 0 O bJ O O eu))
  apply dq 1 O (yq (aI O ew))
  apply dq 2 O (yq (aE 10 O bJ O O aN))
  apply dq 3 O (yq (aI O aX))
  apply dq 4 O (yq (aE 1 O bJ O O bH))
  apply dq 5 O (yq (aO O cZ bH))
  apply dq 6 O (yq (ah O))
  refine ak [5,6,4] [3,2,1,0] 7 [(52,_),(53,_)] gO ⟨rfl,rfl,trivial⟩ (by kernel_rfl) (by kernel_rfl) fun Ex=>?_
  refine bF O O O (xC l hl i) ?_
  rw[hpl]
  refine ai ?_
  refine aQ ⟨ya O O (yq (aI O aX)),ya O O (yq (aE 10 O bJ O O aN)),ya O O (yq (aI O ew)),ya O O (yq (aE 0 O bJ O O eu)),trivial⟩ ?_
  apply dq 8 O (yq (bn O O))
  refine ak [1,8,0,3,2] [] 9 [(48,_),(55,_)] gO ⟨rfl,rfl,trivial⟩ (by kernel_rfl) (by kernel_rfl) fun Ex=>?_
  refine bF O O O (jz pa s _ 8 (off+(8+i*sN l+r8 l)) 8 (by omega) rfl (by unfold wid;omega) (inb l.bo 8 (by omega) (by omega) (by omega))) ?_
  refine ai ?_
  refine aQ trivial ?_
  apply dq 10 O (yq (ah O))
  apply dq 11 O (yq (aa O ga))
  apply dq 12 O (yq (aa O ga))
  refine ak [11,10] [12] 13 [(57,_)] gO ⟨rfl,trivial⟩ (by kernel_rfl) (by kernel_rfl) fun Ex=>?_
  refine ar O O<|ai ?_
  refine aQ ⟨ya O O (yq (aa O ga)),trivial⟩ ?_
  refine ak [12] [] 14 [(58,_)] gO ⟨rfl,trivial⟩ (by kernel_rfl) (by kernel_rfl) fun Ex=>?_
  refine ar O O<|ai ?_
  refine aQ trivial ?_
  refine aV (by kernel_rfl) ?_
  refine nz<|mv O O<|ad O (km O fv j5) ?_
  refine ad O (aE 4 O cq O O aN)<|st O O O aN O ?_
  refine lz<|ad O (aO O fj bV) ?_
  refine bZ O O O bV O O ?_
  refine lc<|rt ?_
  apply aR (.inl rfl) ([aj pa s])
  ·apply cP O
   apply Rv.agg rfl
   ·exact tk
   exact aJ fj bV O
  ·exact⟨hok0,rfl,rfl⟩
  exact en
 rintro v L ⟨hok0,rfl,rfl⟩
 refine⟨?_,rfl⟩
 have e1:mo s.m (off+(8+i*sN l)) (kN l)=k:=by
  rw[<- hk]
  refine xQ hok0.bytes fun j hj=>?_
  rw[<- B0 hN (t:=t) (e:=e) (b:=b) hk hj,<- hc,<- hG.slot hN hi (by omega)]
  congr 1;omega
 have e2:mo s.m (off+(8+i*sN l+jC l)) (eN l)=e:=by
  rw[<- he]
  refine xQ hok0.bytes fun j hj=>?_
  rw[<- rU hN (t:=t) (k:=k) (b:=b) hk hj,<- hc,<- hG.slot hN hi (by omega)]
  congr 1;omega
 have e3:dU s.m (off+(8+i*sN l+r8 l)) 8=b:=by
  rw[eA (m':=ct b) (o':=0) fun j hj=>by rw[Nat.zero_add,<- wT hN (t:=t) (k:=k) (e:=e) hk he hj,<- hc,<- hG.slot hN hi (by omega)];congr 1;omega,jJ]
  omega
 rw[e1,e2,e3,wrap_i64 (by omega)]
theorem tB (i:Nat) (hi:i < 8):aK Tryz.prog 144 #[.agg #[.pointer (some ⟨pa,0,none⟩),.int .i64 l.key,.int .i64 l.elem,.int .i64 l.ka,.int .i64 l.ea,.int .i64 l.cap,.int .i64 l.eo,.int .i64 l.bo,.int .i64 l.slot,.int .i64 l.group,.int .i64 off],.int .i64 i] [aj pa s]
  (fun v L=>v=.tuple #[.agg #[.int .i64 (cs i).kind,.int .i64 (cs i).tagI,.string (cs i).keyS,.string (cs i).elemS,.int .i64 (cs i).birthI],.int .i64 0]/\L= [aj pa s]):=by
 have hN:=eK hl
 have hn8:=hN.g_eq
 have hng:=hN.g
 have hg8:bt s off 8:=bt.sub hg (by omega) (by omega) (by omega)
 have hct:=ig hok hi
 refine au IN Tryz.func144 rfl rfl rfl fun Fr w0=>aZ ?_
 refine sr<|bw O O fun b2=>ay O dF fun b4=>ar O O<|lc<|al<|al<|aY mixed ?_
 apply dq 0 O (yq (ah O))
 apply dq 2 O (yq (aO O eG dO))
 refine ak [0] [2] 1 [(10,_)] gO ⟨rfl,trivial⟩ (by kernel_rfl) (by kernel_rfl) fun Ex=>?_
 refine bF O O O (oQ i (by omega) (by omega)) ?_
 refine ai ?_
 refine aQ ⟨ya O O (yq (aO O eG dO)),trivial⟩ ?_
 refine ak [2] [] 3 [(12,_)] gO ⟨rfl,trivial⟩ (by kernel_rfl) (by kernel_rfl) fun Ex=>?_
 refine bF O O O (jb pa off s l hl hg) ?_
 refine ai ?_
 refine aQ trivial ?_
 refine ak [] [] 4 [(11,_),(13,_)] gO ⟨rfl,rfl,trivial⟩ (by kernel_rfl) (by kernel_rfl) fun Ex=>?_
 refine bR [_,_] rfl rfl rf fU si rfl rfl rfl rfl (fun b14=>?_)
 refine ai ?_
 refine aQ trivial ?_
 refine ak [] [] 5 [(14,_)] gO ⟨rfl,trivial⟩ (by kernel_rfl) (by kernel_rfl) fun Ex=>?_
 refine bF O O O (rO b14 0 0) ?_
 refine ai ?_
 refine aQ trivial ?_
 refine ak [] [] 6 [(15,_)] gO ⟨rfl,trivial⟩ (by kernel_rfl) (by kernel_rfl) fun Ex=>?_
 refine ar O O<|ai ?_
 refine aQ trivial ?_
 refine aV (by kernel_rfl) ?_
 refine nz<|mv O O<|ad O (qi O O (bf ·))<|lc<|aG O (fun z=>?_) fun z=>?_
 ·exact absurd rfl z
 refine aq<|nz<|ad O (aE 0 O bJ O O eu)<|ad O (aI O ew) ?_
 refine ad O (aE 10 O bJ O O aN)<|ad O (aI O aX) ?_
 refine bF O O O (jz pa s _ _ off 8 rfl rfl (by unfold wid;omega) hg8) ?_
 rw[hJ hG hN hok]
 refine mv O O<|ad O (aa O ga) ?_
 refine ad O (aa O ga) ?_
 refine ar O O<|ar O O<|lc<|al<|sr<|mv O O<|mv O O<|bF O O O (Gg (ny cs) (ld hok) i hi) ?_
 rw[hct]
 refine ar O O<|lc<|aB<|sr<|mv O O<|ad O (qi O O (iB ·))<|ar O O<|lc ?_
 cases hc:cs i with
 | full t k e b=>
  have hcok:=hok i hi
  rw[hc] at hcok
  have ht:(Cell.full t k e b).ctrl=t:=rfl
  rw[ht]
  obtain⟨ht0,ht1,_⟩:=hcok
  refine aG O (fun q=>?_) fun q=>?_
  ·refine sr<|ad O (aO O eG dO) ?_
   refine mv O O<|mv O O<|bF O O O (DN pa off s l cs hl hg hG hok i hi t k e b hc) ?_
   refine bZ O O O bV O O ?_
   refine ar O O<|lc<|rt ?_
   apply aR (.inl rfl) ([aj pa s])
   ·apply cF O
    ·apply Rv.agg rfl
     ·exact tk
     exact aJ fj bV O
    exact .tmp rfl
   ·exact⟨rfl,rfl⟩
   exact en
  omega
 | deleted=>
  refine aG O (fun q=>?_) fun q=>?_
  ·exact absurd q (by decide)
  refine sr<|mv O O<|ad O (qi O O (bN ·))<|ar O O<|lc<|aG O (fun q2=>?_) fun q2=>?_
  ·refine sr ?_
   apply ad O
   ·apply bp O j9 dF
    apply aP.one
    ·repeat (first | exact ba.here | apply ba.there)
    ·rfl
    ·exact sa
    exact aP.nil
   refine bZ O O O bV O O ?_
   refine ar O O<|lc<|rt ?_
   apply aR (.inl rfl) ([aj pa s])
   ·apply cF O
    ·apply Rv.agg rfl
     ·exact tk
     exact aJ fj bV O
    exact .tmp rfl
   ·exact⟨rfl,rfl⟩
   exact en
  exact absurd rfl q2
 | empty=>
  refine aG O (fun q=>?_) fun q=>?_
  ·exact absurd q (by decide)
  refine sr<|mv O O<|ad O (qi O O (bN ·))<|ar O O<|lc<|aG O (fun q2=>?_) fun q2=>?_
  ·exact absurd q2 (by decide)
  refine aq<|bz<|nz ?_
  apply ad O
  ·apply bp O j9 dF
   exact aP.nil
  refine bZ O O O bV O O ?_
  refine ar O O<|lc<|rt ?_
  apply aR (.inl rfl) ([aj pa s])
  ·apply cF O
   ·apply Rv.agg rfl
    ·exact tk
    exact aJ fj bV O
   exact .tmp rfl
  ·exact⟨rfl,rfl⟩
  exact en
theorem Fill_ok (i t:Nat) (k e:ByteArray) (b:Int) (hi:i < 8) (ht:t < 128) (hk:k.size=kN l) (he:e.size=eN l) (hb:0<=b/\b < 9223372036854775808):
  aK Tryz.prog 138 #[.agg #[.pointer (some ⟨pa,0,none⟩),.int .i64 l.key,.int .i64 l.elem,.int .i64 l.ka,.int .i64 l.ea,.int .i64 l.cap,.int .i64 l.eo,.int .i64 l.bo,.int .i64 l.slot,.int .i64 l.group,.int .i64 off],.int .i64 i,.int .i64 t,.string k,.string e,.int .i64 b] [aj pa s] (fun v L=>v=.int .i64 0/\L= [aj pa (s.put off (gN l) (dZ l (cW cs i (.full t k e b))))]):=by
 have hN:=eK hl
 have hn8:=hN.g_eq;have hns:=hN.s_eq
 have h1:=hN.g;have h2:=hN.k;have h3:=hN.e;have h4:=hN.eo;have h5:=hN.bo;have h6:=hN.s
 have h7:=hN.eo1;have h8:=hN.bo1
 have hst:(i:Int)*l.slot=((i*sN l:Nat):Int):=by rw[Int.natCast_mul,h6]
 have hit:=m6 hN hi (r:=sN l-1) (by omega)
 have hpl:∀ x:Int,fX l i x=8+((i*sN l:Nat):Int)+x:=fun x=>by unfold fX;rw[if_neg (by omega),hst]
 have hks:(k.size:Int)=l.key:=by omega
 have hes:(e.size:Int)=l.elem:=by omega
 have htot:=yB hN hk he b
 refine au IU Tryz.func138 rfl rfl rfl fun Fr w0=>aZ ?_
 have hgs:((⟨#[0,0,0,0,0,0,0,0]⟩:ByteArray).size:Int)=8:=rfl
 have hz1:l.eo-l.key<=((⟨#[0,0,0,0,0,0,0,0]⟩:ByteArray).size:Int):=by rw[hgs];omega
 have hz2:l.bo-l.eo-l.elem<=((⟨#[0,0,0,0,0,0,0,0]⟩:ByteArray).size:Int):=by rw[hgs];omega
 refine dN (φ:=s.ok) (fun w hw=>cS hw .here) fun hok0=>?_
 have hge:=bt.end_le hok0 hg
 have hst0:=hok0.stop_eq
 refine sr<|bw O O fun b6=>ar O O<|lc<|al<|aY mixed ?_
 apply dq 0 O (yq (ah O))
 apply dq 2 O (yq (ah O))
 apply dq 3 O (yq (qi O O (bj ·)))
 apply dq 9 O (yq (ah O))
 apply dq 10 O (yq (m9 O lg))
 apply dq 11 O (yq (aE 1 O bJ O O bH))
 apply dq 12 O (yq (aE 0 O cB O O aN))
 apply dq 13 O (yq (aI O aX))
 apply dq 14 O (yq (qi O O (bf ·)))
 apply dq 16 O (yq (ah O))
 apply dq 17 O (yq (m9 O lg))
 apply dq 18 O (yq (aE 1 O bJ O O bH))
 apply dq 19 O (yq (aE 1 O cB O O aN))
 apply dq 20 O (yq (aI O aX))
 apply dq 21 O (yq (qi O O (bf ·)))
 apply dq 23 O (yq (ah O))
 apply dq 24 O (yq (qi O O (bj ·)))
 apply dq 26 O (yq (aO O eG dO))
 refine ak [0] [26,24,23,21,20,19,18,17,16,14,13,12,11,10,9,3,2] 1 [(14,_)] gO ⟨rfl,trivial⟩ (by kernel_rfl) (by kernel_rfl) fun Ex=>?_
 refine bF O O O (oQ i (by omega) (by omega)) ?_
 refine ai ?_
 refine aQ ⟨ya O O (yq (aO O eG dO)),ya O O (yq (qi O O (bj ·))),ya O O (yq (ah O)),ya O O (yq (qi O O (bf ·))),ya O O (yq (aI O aX)),ya O O (yq (aE 1 O cB O O aN)),ya O O (yq (aE 1 O bJ O O bH)),ya O O (yq (m9 O lg)),ya O O (yq (ah O)),ya O O (yq (qi O O (bf ·))),ya O O (yq (aI O aX)),ya O O (yq (aE 0 O cB O O aN)),ya O O (yq (aE 1 O bJ O O bH)),ya O O (yq (m9 O lg)),ya O O (yq (ah O)),ya O O (yq (qi O O (bj ·))),ya O O (yq (ah O)),trivial⟩ ?_
 apply dq 4 O (yq (ah O))
 refine n6 (t:=18) rfl (fun p1=>?_) fun p1=>?_
 ·omega
 apply dq 5 O (bD O O (ah O))
 apply dq 6 O (bD O O (qi O O (di ·)))
 apply dq 7 O (yq (aS O O))
 refine ak [7,4,6,3,5,2] [26,24,23,21,20,19,18,17,16,14,13,12,11,10,9] 8 [(21,_)] gO ⟨rfl,trivial⟩ (by kernel_rfl) (by kernel_rfl) fun Ex=>?_
 refine bF O O O (mY _ _ (by simp;omega)) ?_
 refine ai ?_
 refine aQ ⟨ya O O (yq (aO O eG dO)),ya O O (yq (qi O O (bj ·))),ya O O (yq (ah O)),ya O O (yq (qi O O (bf ·))),ya O O (yq (aI O aX)),ya O O (yq (aE 1 O cB O O aN)),ya O O (yq (aE 1 O bJ O O bH)),ya O O (yq (m9 O lg)),ya O O (yq (ah O)),ya O O (yq (qi O O (bf ·))),ya O O (yq (aI O aX)),ya O O (yq (aE 0 O cB O O aN)),ya O O (yq (aE 1 O bJ O O bH)),ya O O (yq (m9 O lg)),ya O O (yq (ah O)),trivial⟩ ?_
 refine ak [14,10,13,9,12,11] [26,24,23,21,20,19,18,17,16] 15 [(28,_)] gO ⟨rfl,trivial⟩ (by kernel_rfl) (by kernel_rfl) fun Ex=>?_
 refine bF O O O (mY _ _ (by simp;omega)) ?_
 refine ai ?_
 refine aQ ⟨ya O O (yq (aO O eG dO)),ya O O (yq (qi O O (bj ·))),ya O O (yq (ah O)),ya O O (yq (qi O O (bf ·))),ya O O (yq (aI O aX)),ya O O (yq (aE 1 O cB O O aN)),ya O O (yq (aE 1 O bJ O O bH)),ya O O (yq (m9 O lg)),ya O O (yq (ah O)),trivial⟩ ?_
 refine ak [21,17,20,16,19,18] [26,24,23] 22 [(35,_)] gO ⟨rfl,trivial⟩ (by kernel_rfl) (by kernel_rfl) fun Ex=>?_
 refine bF O O O (mY _ _ (by simp;omega)) ?_
 refine ai ?_
 refine aQ ⟨ya O O (yq (aO O eG dO)),ya O O (yq (qi O O (bj ·))),ya O O (yq (ah O)),trivial⟩ ?_
 refine ak [24,23] [26] 25 [(38,_)] gO ⟨rfl,trivial⟩ (by kernel_rfl) (by kernel_rfl) fun Ex=>?_
 refine bF O O O (mY _ _ (by simp;omega)) ?_
 refine ai ?_
 refine aQ ⟨ya O O (yq (aO O eG dO)),trivial⟩ ?_
 refine ak [26] [] 27 [(40,_)] gO ⟨rfl,trivial⟩ (by kernel_rfl) (by kernel_rfl) fun Ex=>?_
 refine bF O O O (jb pa off s l hl hg) ?_
 refine ai ?_
 refine aQ trivial ?_
 refine ak [] [] 28 [(15,_),(22,_),(29,_),(36,_),(39,_),(41,_)] gO ⟨rfl,rfl,rfl,rfl,rfl,rfl,trivial⟩ (by kernel_rfl) (by kernel_rfl) fun Ex=>?_
 refine bR [_,_,_,_,_,_] rfl rfl rf fU si rfl rfl rfl rfl (fun b42=>?_)
 refine ai ?_
 refine aQ trivial ?_
 refine ak [] [] 29 [(42,_)] gO ⟨rfl,trivial⟩ (by kernel_rfl) (by kernel_rfl) fun Ex=>?_
 refine bF O O O (zm b42 0 0 0 0 0 0) ?_
 refine ai ?_
 refine aQ trivial ?_
 refine ak [] [] 30 [(43,_)] gO ⟨rfl,trivial⟩ (by kernel_rfl) (by kernel_rfl) fun Ex=>?_
 refine ar O O<|ai ?_
 refine aQ trivial ?_
 refine aV (by kernel_rfl) ?_
 refine an<|al<|sr<|mv O O<|ad O (qi O O (bf ·))<|lc<|aG O (fun z=>?_) fun z=>?_
 ·exact absurd rfl z
 refine aq<|an<|al<|aY mixed ?_
 apply dq 0 O (yq (aE 0 O bJ O O eu))
 apply dq 1 O (yq (aI O ew))
 apply dq 2 O (yq (aE 10 O bJ O O aN))
 apply dq 3 O (yq (aI O aX))
 apply dq 4 O (yq (aE 1 O bJ O O bH))
 apply dq 5 O (yq (aO O cZ bH))
 apply dq 6 O (yq (ah O))
 apply dq 9 O (yq (ah O))
 apply dq 10 O (yq (aE 1 O bJ O O bH))
 apply dq 11 O (yq (aE 5 O cB O O aN))
 apply dq 12 O (yq (aI O aX))
 apply dq 13 O (yq (aE 1 O bJ O O bH))
 apply dq 14 O (yq (aE 0 O cB O O aN))
 apply dq 15 O (yq (aI O aX))
 apply dq 16 O (yq (eJ O O))
 apply dq 17 O
 ·apply yq
  refine QV.to (v':=.string (iZ (jC l-kN l))) (g9 O O Tryz.underlying9 ⟨by omega,hz1⟩) (by rw[show(l.eo-l.key).toNat=jC l-kN l by omega,mb _ (by omega)])
 apply dq 18 O (yq (ah O))
 apply dq 19 O (yq (aE 1 O bJ O O bH))
 apply dq 20 O (yq (aE 6 O cB O O aN))
 apply dq 21 O (yq (aI O aX))
 apply dq 22 O (yq (aE 1 O bJ O O bH))
 apply dq 23 O (yq (aE 5 O cB O O aN))
 apply dq 24 O (yq (aI O aX))
 apply dq 25 O (yq (eJ O O))
 apply dq 26 O (yq (aE 1 O bJ O O bH))
 apply dq 27 O (yq (aE 1 O cB O O aN))
 apply dq 28 O (yq (aI O aX))
 apply dq 29 O (yq (eJ O O))
 apply dq 30 O
 ·apply yq
  refine QV.to (v':=.string (iZ (r8 l-jC l-eN l))) (g9 O O Tryz.underlying9 ⟨by omega,hz2⟩) (by rw[show(l.bo-l.eo-l.elem).toNat=r8 l-jC l-eN l by omega,mb _ (by omega)])
 apply dq 31 O (yq (ah O))
 refine ak [5,6,4] [31,30,29,28,27,26,25,24,23,22,21,20,19,18,17,16,15,14,13,12,11,10,9,3,2,1,0] 7 [(52,_),(53,_)] gO ⟨rfl,rfl,trivial⟩ (by kernel_rfl) (by kernel_rfl) fun Ex=>?_
 refine bF O O O (qL l hl i) ?_
 rw[hpl]
 refine ai ?_
 apply aQ
 ·refine⟨?_,?_,?_,?_,?_,?_,?_,?_,?_,?_,?_,?_,?_,?_,?_,?_,?_,?_,?_,?_,?_,?_,?_,?_,?_,?_,?_,trivial⟩
  ·apply ya O O;exact yq (ah O)
  ·apply ya O O
   apply yq
   refine QV.to (v':=.string (iZ (r8 l-jC l-eN l))) (g9 O O Tryz.underlying9 ⟨by omega,hz2⟩) (by rw[show(l.bo-l.eo-l.elem).toNat=r8 l-jC l-eN l by omega,mb _ (by omega)])
  ·apply ya O O;exact yq (eJ O O)
  ·apply ya O O;exact yq (aI O aX)
  ·apply ya O O;exact yq (aE 1 O cB O O aN)
  ·apply ya O O;exact yq (aE 1 O bJ O O bH)
  ·apply ya O O;exact yq (eJ O O)
  ·apply ya O O;exact yq (aI O aX)
  ·apply ya O O;exact yq (aE 5 O cB O O aN)
  ·apply ya O O;exact yq (aE 1 O bJ O O bH)
  ·apply ya O O;exact yq (aI O aX)
  ·apply ya O O;exact yq (aE 6 O cB O O aN)
  ·apply ya O O;exact yq (aE 1 O bJ O O bH)
  ·apply ya O O;exact yq (ah O)
  ·apply ya O O
   apply yq
   refine QV.to (v':=.string (iZ (jC l-kN l))) (g9 O O Tryz.underlying9 ⟨by omega,hz1⟩) (by rw[show(l.eo-l.key).toNat=jC l-kN l by omega,mb _ (by omega)])
  ·apply ya O O;exact yq (eJ O O)
  ·apply ya O O;exact yq (aI O aX)
  ·apply ya O O;exact yq (aE 0 O cB O O aN)
  ·apply ya O O;exact yq (aE 1 O bJ O O bH)
  ·apply ya O O;exact yq (aI O aX)
  ·apply ya O O;exact yq (aE 5 O cB O O aN)
  ·apply ya O O;exact yq (aE 1 O bJ O O bH)
  ·apply ya O O;exact yq (ah O)
  ·apply ya O O;exact yq (aI O aX)
  ·apply ya O O;exact yq (aE 10 O bJ O O aN)
  ·apply ya O O;exact yq (aI O ew)
  apply ya O O;exact yq (aE 0 O bJ O O eu)
 apply dq 8 O (yq (bn O O))
 refine ak [31] [8,30,29,28,27,26,25,24,23,22,21,20,19,18,17,16,15,14,13,12,11,10,9,3,2,1,0] 32 [(78,_)] gO ⟨rfl,trivial⟩ (by kernel_rfl) (by kernel_rfl) fun Ex=>?_
 refine bF O O O (number_ok b hb) ?_
 refine ai ?_
 apply aQ
 ·refine⟨?_,?_,?_,?_,?_,?_,?_,?_,?_,?_,?_,?_,?_,?_,?_,?_,?_,?_,?_,?_,?_,?_,?_,?_,?_,?_,?_,trivial⟩
  ·apply ya O O;exact yq (bn O O)
  ·apply ya O O
   apply yq
   refine QV.to (v':=.string (iZ (r8 l-jC l-eN l))) (g9 O O Tryz.underlying9 ⟨by omega,hz2⟩) (by rw[show(l.bo-l.eo-l.elem).toNat=r8 l-jC l-eN l by omega,mb _ (by omega)])
  ·apply ya O O;exact yq (eJ O O)
  ·apply ya O O;exact yq (aI O aX)
  ·apply ya O O;exact yq (aE 1 O cB O O aN)
  ·apply ya O O;exact yq (aE 1 O bJ O O bH)
  ·apply ya O O;exact yq (eJ O O)
  ·apply ya O O;exact yq (aI O aX)
  ·apply ya O O;exact yq (aE 5 O cB O O aN)
  ·apply ya O O;exact yq (aE 1 O bJ O O bH)
  ·apply ya O O;exact yq (aI O aX)
  ·apply ya O O;exact yq (aE 6 O cB O O aN)
  ·apply ya O O;exact yq (aE 1 O bJ O O bH)
  ·apply ya O O;exact yq (ah O)
  ·apply ya O O
   apply yq
   refine QV.to (v':=.string (iZ (jC l-kN l))) (g9 O O Tryz.underlying9 ⟨by omega,hz1⟩) (by rw[show(l.eo-l.key).toNat=jC l-kN l by omega,mb _ (by omega)])
  ·apply ya O O;exact yq (eJ O O)
  ·apply ya O O;exact yq (aI O aX)
  ·apply ya O O;exact yq (aE 0 O cB O O aN)
  ·apply ya O O;exact yq (aE 1 O bJ O O bH)
  ·apply ya O O;exact yq (aI O aX)
  ·apply ya O O;exact yq (aE 5 O cB O O aN)
  ·apply ya O O;exact yq (aE 1 O bJ O O bH)
  ·apply ya O O;exact yq (ah O)
  ·apply ya O O;exact yq (aI O aX)
  ·apply ya O O;exact yq (aE 10 O bJ O O aN)
  ·apply ya O O;exact yq (aI O ew)
  apply ya O O;exact yq (aE 0 O bJ O O eu)
 refine ak [9,17,18,30,16,29,12,15,25,28,11,14,21,24,27,10,13,20,23,26,19,22] [8,3,2,1,0] 33 [(56,_),(64,_),(65,_),(77,_),(79,_)] gO ⟨rfl,rfl,rfl,rfl,rfl,trivial⟩ (by kernel_rfl) (by kernel_rfl) fun Ex=>?_
 refine bR [_,_,_,_,_] rfl rfl re fA Jm rfl rfl rfl rfl (fun b80=>?_)
 refine ai ?_
 refine aQ ⟨ya O O (yq (bn O O)),ya O O (yq (aI O aX)),ya O O (yq (aE 10 O bJ O O aN)),ya O O (yq (aI O ew)),ya O O (yq (aE 0 O bJ O O eu)),trivial⟩ ?_
 refine ak [1,8,0,3,2] [] 34 [(48,_),(55,_),(80,_)] gO ⟨rfl,rfl,rfl,trivial⟩ (by kernel_rfl) (by kernel_rfl) fun Ex=>?_
 refine bF O O O (zG pa s b80 (off+(8+i*sN l)) _ k (iZ (jC l-kN l)) e (iZ (r8 l-jC l-eN l)) (qe b) (by omega) (by show bt s _ ((dx (parts l k e b):Nat):Int);rw[htot];exact bt.sub hg (by omega) (by omega) (by omega))) ?_
 rw[show[k,iZ (jC l-kN l),e,iZ (r8 l-jC l-eN l),qe b]=parts l k e b from rfl,htot]
 refine ai ?_
 refine aQ trivial ?_
 refine aV (by kernel_rfl) ?_
 refine nz<|ad O (aO O eG dO) ?_
 refine mv O O<|mv O O<|bF O O O (sU pa off i t (s.put (off+(8+i*sN l)) (sN l) (iG (parts l k e b))) l hl (bt.put hg) (ny cs) (ld hok) (by rw[ArS.put_m,lH,hJ hG hN hok]) hi (by omega)) ?_
 rw[A9 hl hG hok hi ht hk he]
 exact ar O O<|lc<|rt<|cN O ([aj pa (s.put off (gN l) (dZ l (cW cs i (.full t k e b))))]) (.tmp rfl) ⟨rfl,rfl⟩
theorem xj (i:Nat) (t:Int) (k e e':ByteArray) (b:Int) (hi:i < 8) (hc:cs i=.full t k e b) (he':e'.size=eN l):
  aK Tryz.prog 137 #[.agg #[.pointer (some ⟨pa,0,none⟩),.int .i64 l.key,.int .i64 l.elem,.int .i64 l.ka,.int .i64 l.ea,.int .i64 l.cap,.int .i64 l.eo,.int .i64 l.bo,.int .i64 l.slot,.int .i64 l.group,.int .i64 off],.int .i64 i,.string e'] [aj pa s] (fun v L=>v=.int .i64 0/\L= [aj pa (s.put off (gN l) (dZ l (cW cs i (.full t k e' b))))]):=by
 have hN:=eK hl
 have hn8:=hN.g_eq;have hns:=hN.s_eq
 have h1:=hN.g;have h2:=hN.k;have h3:=hN.e;have h4:=hN.eo;have h5:=hN.bo;have h6:=hN.s
 have h7:=hN.eo1;have h8:=hN.bo1
 have hcok:=hok i hi
 have hcti:=ig hok hi
 rw[hc] at hcok hcti
 obtain⟨ht0,ht1,hk,he,_⟩:=hcok
 have hct2:ny cs i < 128:=by have:(Cell.full t k e b).ctrl=t:=rfl;omega
 have hst:(i:Int)*l.slot=((i*sN l:Nat):Int):=by rw[Int.natCast_mul,h6]
 have hit:=m6 hN hi (r:=sN l-1) (by omega)
 have hpl:∀ x:Int,fX l i x=8+((i*sN l:Nat):Int)+x:=fun x=>by unfold fX;rw[if_neg (by omega),hst]
 have hes:(e'.size:Int)=l.elem:=by omega
 have hg8:bt s off 8:=bt.sub hg (by omega) (by omega) (by omega)
 refine au IV Tryz.func137 rfl rfl rfl fun Fr w0=>aZ ?_
 refine dN (φ:=s.ok) (fun w hw=>cS hw .here) fun hok0=>?_
 have hge:=bt.end_le hok0 hg
 have hst0:=hok0.stop_eq
 refine sr<|bw O O fun b3=>ar O O<|lc<|al<|al<|aY mixed ?_
 apply dq 0 O (yq (ah O))
 apply dq 2 O (yq (ah O))
 apply dq 3 O (yq (m9 O lg))
 apply dq 4 O (yq (aE 1 O bJ O O bH))
 apply dq 5 O (yq (aE 1 O cB O O aN))
 apply dq 6 O (yq (aI O aX))
 apply dq 7 O (yq (qi O O (bf ·)))
 apply dq 9 O (yq (aO O eG dO))
 refine ak [0] [9,7,6,5,4,3,2] 1 [(10,_)] gO ⟨rfl,trivial⟩ (by kernel_rfl) (by kernel_rfl) fun Ex=>?_
 refine bF O O O (oQ i (by omega) (by omega)) ?_
 refine ai ?_
 refine aQ ⟨ya O O (yq (aO O eG dO)),ya O O (yq (qi O O (bf ·))),ya O O (yq (aI O aX)),ya O O (yq (aE 1 O cB O O aN)),ya O O (yq (aE 1 O bJ O O bH)),ya O O (yq (m9 O lg)),ya O O (yq (ah O)),trivial⟩ ?_
 refine ak [7,3,6,2,5,4] [9] 8 [(17,_)] gO ⟨rfl,trivial⟩ (by kernel_rfl) (by kernel_rfl) fun Ex=>?_
 refine bF O O O (mY _ _ (by simp;omega)) ?_
 refine ai ?_
 refine aQ ⟨ya O O (yq (aO O eG dO)),trivial⟩ ?_
 refine ak [9] [] 10 [(19,_)] gO ⟨rfl,trivial⟩ (by kernel_rfl) (by kernel_rfl) fun Ex=>?_
 refine bF O O O (jb pa off s l hl hg) ?_
 refine ai ?_
 refine aQ trivial ?_
 refine ak [] [] 11 [(11,_),(18,_),(20,_)] gO ⟨rfl,rfl,rfl,trivial⟩ (by kernel_rfl) (by kernel_rfl) fun Ex=>?_
 refine bR [_,_,_] rfl rfl rf fU si rfl rfl rfl rfl (fun b21=>?_)
 refine ai ?_
 refine aQ trivial ?_
 refine ak [] [] 12 [(21,_)] gO ⟨rfl,trivial⟩ (by kernel_rfl) (by kernel_rfl) fun Ex=>?_
 refine bF O O O (zn b21 0 0 0) ?_
 refine ai ?_
 refine aQ trivial ?_
 refine ak [] [] 13 [(22,_)] gO ⟨rfl,trivial⟩ (by kernel_rfl) (by kernel_rfl) fun Ex=>?_
 refine ar O O<|ai ?_
 refine aQ trivial ?_
 refine aV (by kernel_rfl) ?_
 refine nz<|mv O O<|ad O (qi O O (bf ·))<|lc<|aG O (fun z=>?_) fun z=>?_
 ·exact absurd rfl z
 refine aq<|nz<|ad O (aE 0 O bJ O O eu)<|ad O (aI O ew) ?_
 refine ad O (aE 10 O bJ O O aN)<|ad O (aI O aX) ?_
 refine bF O O O (jz pa s _ _ off 8 rfl rfl (by unfold wid;omega) hg8) ?_
 rw[hJ hG hN hok]
 refine mv O O<|ad O (aa O ga) ?_
 refine ad O (aa O ga) ?_
 refine ar O O<|ar O O<|lc<|al<|sr<|mv O O<|bF O O O (tx (ny cs) (ld hok)) ?_
 refine mv O O<|bF O O O (CK _ i hi) ?_
 refine ad O (db O (cy ·))<|lc<|aG O (fun y=>?_) fun y=>?_
 ·simp[hct2] at y
 refine aq<|an<|al<|aY mixed ?_
 apply dq 0 O (yq (aE 0 O bJ O O eu))
 apply dq 1 O (yq (aI O ew))
 apply dq 2 O (yq (aE 10 O bJ O O aN))
 apply dq 3 O (yq (aI O aX))
 apply dq 4 O (yq (aE 1 O bJ O O bH))
 apply dq 5 O (yq (aO O cZ bH))
 apply dq 6 O (yq (ah O))
 apply dq 9 O (yq (ah O))
 apply dI 7 10
 ·kernel_rfl
 ·refine cA (q1:=[5,6,4]) (q2:=[9,3,2,1,0]) [(44,_),(45,_)] gO ⟨O,O,trivial⟩ (by kernel_rfl) fun Ex=>?_
  refine bF O O O (om l hl i) ?_
  rw[hpl]
  refine ai ?_
  refine aQ ⟨ya O O (yq (ah O)),ya O O (yq (aI O aX)),ya O O (yq (aE 10 O bJ O O aN)),ya O O (yq (aI O ew)),ya O O (yq (aE 0 O bJ O O eu)),trivial⟩ ?_
  apply dq 8 O (yq (bn O O))
  refine ak [9] [8,3,2,1,0] 10 [(48,_)] gO ⟨rfl,trivial⟩ (by kernel_rfl) (by kernel_rfl) fun Ex=>?_
  refine bR [_] rfl rfl re fA Jm rfl rfl rfl rfl (fun b49=>?_)
  refine ai ?_
  refine aQ ⟨ya O O (yq (bn O O)),ya O O (yq (aI O aX)),ya O O (yq (aE 10 O bJ O O aN)),ya O O (yq (aI O ew)),ya O O (yq (aE 0 O bJ O O eu)),trivial⟩ ?_
  refine ak [1,8,0,3,2] [] 11 [(40,_),(47,_),(49,_)] gO ⟨rfl,rfl,rfl,trivial⟩ (by kernel_rfl) (by kernel_rfl) fun Ex=>?_
  refine bF O O O (se pa s b49 (off+(8+i*sN l+jC l)) _ e' (by omega) (bt.sub hg (by omega) (by omega) (by simp only[dx];omega))) ?_
  rw[show s.put (off+(8+i*sN l+jC l)) (dx [e']) (iG [e'])=s.put off (gN l) (dZ l (cW cs i (.full t k e' b))) by unfold ArS.put;rw[show dx [e']=eN l by simp only[dx];omega,yd,uy hN hG hi hc hk he he']]
  refine ai ?_
  refine aQ trivial ?_
  refine ak [] [] 12 [(50,_)] gO ⟨rfl,trivial⟩ (by kernel_rfl) (by kernel_rfl) fun Ex=>?_
  refine ar O O<|ai ?_
  refine aQ trivial ?_
  refine aV (by kernel_rfl) ?_
  exact an<|rt<|cN O ([aj pa (s.put off (gN l) (dZ l (cW cs i (.full t k e' b))))]) (.tmp rfl) ⟨rfl,rfl⟩
 refine cA (q1:=[9]) (q2:=[6,5,4,3,2,1,0]) [(48,_)] gO ⟨O,trivial⟩ (by kernel_rfl) fun Ex=>?_
 refine bR [_] rfl rfl re fA Jm rfl rfl rfl rfl (fun b49=>?_)
 refine ai ?_
 refine aQ ⟨ya O O (yq (ah O)),ya O O (yq (aO O cZ bH)),ya O O (yq (aE 1 O bJ O O bH)),ya O O (yq (aI O aX)),ya O O (yq (aE 10 O bJ O O aN)),ya O O (yq (aI O ew)),ya O O (yq (aE 0 O bJ O O eu)),trivial⟩ ?_
 refine ak [5,6,4] [3,2,1,0] 7 [(44,_),(45,_)] gO ⟨rfl,rfl,trivial⟩ (by kernel_rfl) (by kernel_rfl) fun Ex=>?_
 refine bF O O O (om l hl i) ?_
 rw[hpl]
 refine ai ?_
 refine aQ ⟨ya O O (yq (aI O aX)),ya O O (yq (aE 10 O bJ O O aN)),ya O O (yq (aI O ew)),ya O O (yq (aE 0 O bJ O O eu)),trivial⟩ ?_
 apply dq 8 O (yq (bn O O))
 refine ak [1,8,0,3,2] [] 11 [(40,_),(47,_),(49,_)] gO ⟨rfl,rfl,rfl,trivial⟩ (by kernel_rfl) (by kernel_rfl) fun Ex=>?_
 refine bF O O O (se pa s b49 (off+(8+i*sN l+jC l)) _ e' (by omega) (bt.sub hg (by omega) (by omega) (by simp only[dx];omega))) ?_
 rw[show s.put (off+(8+i*sN l+jC l)) (dx [e']) (iG [e'])=s.put off (gN l) (dZ l (cW cs i (.full t k e' b))) by unfold ArS.put;rw[show dx [e']=eN l by simp only[dx];omega,yd,uy hN hG hi hc hk he he']]
 refine ai ?_
 refine aQ trivial ?_
 refine ak [] [] 12 [(50,_)] gO ⟨rfl,trivial⟩ (by kernel_rfl) (by kernel_rfl) fun Ex=>?_
 refine ar O O<|ai ?_
 refine aQ trivial ?_
 refine aV (by kernel_rfl) ?_
 exact an<|rt<|cN O ([aj pa (s.put off (gN l) (dZ l (cW cs i (.full t k e' b))))]) (.tmp rfl) ⟨rfl,rfl⟩
theorem CO (i:Nat) (gone:Bool) (hi:i < 8):
  aK Tryz.prog 163 #[.agg #[.pointer (some ⟨pa,0,none⟩),.int .i64 l.key,.int .i64 l.elem,.int .i64 l.ka,.int .i64 l.ea,.int .i64 l.cap,.int .i64 l.eo,.int .i64 l.bo,.int .i64 l.slot,.int .i64 l.group,.int .i64 off],.int .i64 i,.bool gone] [aj pa s] (fun v L=>v=.int .i64 0/\L= [aj pa (s.put off (gN l) (dZ l (cW cs i (if gone then .deleted else .empty))))]):=by
 have hN:=eK hl
 have hn8:=hN.g_eq;have hns:=hN.s_eq
 have h1:=hN.g;have h2:=hN.k;have h3:=hN.e;have h4:=hN.eo;have h5:=hN.bo;have h6:=hN.s
 have h7:=hN.eo1;have h8:=hN.bo1
 have hst:(i:Int)*l.slot=((i*sN l:Nat):Int):=by rw[Int.natCast_mul,h6]
 have hit:=m6 hN hi (r:=sN l-1) (by omega)
 have hpl:∀ x:Int,fX l i x=8+((i*sN l:Nat):Int)+x:=fun x=>by unfold fX;rw[if_neg (by omega),hst]
 refine au IA Tryz.func163 rfl rfl rfl fun Fr w0=>aZ ?_
 refine dN (φ:=s.ok) (fun w hw=>cS hw .here) fun hok0=>?_
 have hge:=bt.end_le hok0 hg
 have hst0:=hok0.stop_eq
 refine sr<|bw O O fun b3=>ar O O<|lc<|al<|al<|aY mixed ?_
 apply dq 0 O (yq (ah O))
 apply dq 2 O (yq (aO O eG dO))
 refine ak [0] [2] 1 [(8,_)] gO ⟨rfl,trivial⟩ (by kernel_rfl) (by kernel_rfl) fun Ex=>?_
 refine bF O O O (oQ i (by omega) (by omega)) ?_
 refine ai ?_
 refine aQ ⟨ya O O (yq (aO O eG dO)),trivial⟩ ?_
 refine ak [2] [] 3 [(10,_)] gO ⟨rfl,trivial⟩ (by kernel_rfl) (by kernel_rfl) fun Ex=>?_
 refine bF O O O (jb pa off s l hl hg) ?_
 refine ai ?_
 refine aQ trivial ?_
 refine ak [] [] 4 [(9,_),(11,_)] gO ⟨rfl,rfl,trivial⟩ (by kernel_rfl) (by kernel_rfl) fun Ex=>?_
 refine bR [_,_] rfl rfl rf fU si rfl rfl rfl rfl (fun b12=>?_)
 refine ai ?_
 refine aQ trivial ?_
 refine ak [] [] 5 [(12,_)] gO ⟨rfl,trivial⟩ (by kernel_rfl) (by kernel_rfl) fun Ex=>?_
 refine bF O O O (rO b12 0 0) ?_
 refine ai ?_
 refine aQ trivial ?_
 refine ak [] [] 6 [(13,_)] gO ⟨rfl,trivial⟩ (by kernel_rfl) (by kernel_rfl) fun Ex=>?_
 refine ar O O<|ai ?_
 refine aQ trivial ?_
 refine aV (by kernel_rfl) ?_
 refine nz<|mv O O<|ad O (qi O O (bf ·))<|lc<|aG O (fun z=>?_) fun z=>?_
 ·exact absurd rfl z
 refine aq<|an<|al<|aY mixed ?_
 apply dq 0 O (yq (aE 0 O bJ O O eu))
 apply dq 1 O (yq (aI O ew))
 apply dq 2 O (yq (aE 10 O bJ O O aN))
 apply dq 3 O (yq (aI O aX))
 apply dq 4 O (yq (aE 1 O bJ O O bH))
 apply dq 5 O (yq (aO O cZ bH))
 apply dq 6 O (yq (ah O))
 apply dq 9 O (yq (aE 1 O bJ O O bH))
 apply dq 10 O (yq (aE 7 O cB O O aN))
 apply dq 11 O (yq (aI O aX))
 refine ak [5,6,4] [11,10,9,3,2,1,0] 7 [(22,_),(23,_)] gO ⟨rfl,rfl,trivial⟩ (by kernel_rfl) (by kernel_rfl) fun Ex=>?_
 refine bF O O O (qL l hl i) ?_
 rw[hpl]
 refine ai ?_
 refine aQ ⟨ya O O (yq (aI O aX)),ya O O (yq (aE 7 O cB O O aN)),ya O O (yq (aE 1 O bJ O O bH)),ya O O (yq (aI O aX)),ya O O (yq (aE 10 O bJ O O aN)),ya O O (yq (aI O ew)),ya O O (yq (aE 0 O bJ O O eu)),trivial⟩ ?_
 apply dq 8 O (yq (bn O O))
 refine ak [1,8,11,0,3,10,2,9] [] 12 [(18,_),(25,_),(28,_)] gO ⟨rfl,rfl,rfl,trivial⟩ (by kernel_rfl) (by kernel_rfl) fun Ex=>?_
 refine bF O O O (vF pa s _ l.slot (off+(8+i*sN l)) (sN l) 0 (by omega) (by omega) (by omega) (bt.sub hg (by omega) (by omega) (by omega))) ?_
 refine ai ?_
 refine aQ trivial ?_
 refine aV (by kernel_rfl) ?_
 refine an<|al<|sr<|mv O O<|lc<|aG O (fun y=>?_) fun y=>?_
 ·refine sr<|ad O (aO O eG dO) ?_
  refine mv O O<|bF O O O (sU pa off i 254 (s.put (off+(8+i*sN l)) (sN l) (fun _=>0)) l hl (bt.put hg) (ny cs) (ld hok) (by rw[ArS.put_m,lH,hJ hG hN hok]) hi (by omega)) ?_
  rw[ux hl hG hok hi (c:=254) (cell:=.deleted) rfl (by decide) rfl]
  refine ar O O<|lc<|rt<|cN O ([aj pa (s.put off (gN l) (dZ l (cW cs i .deleted)))]) (.tmp rfl) ?_
  exact⟨rfl,by rw[y];rfl⟩
 refine aq<|nz<|ad O (aO O eG dO) ?_
 refine mv O O<|bF O O O (sU pa off i 128 (s.put (off+(8+i*sN l)) (sN l) (fun _=>0)) l hl (bt.put hg) (ny cs) (ld hok) (by rw[ArS.put_m,lH,hJ hG hN hok]) hi (by omega)) ?_
 rw[ux hl hG hok hi (c:=128) (cell:=.empty) rfl (by decide) rfl]
 refine ar O O<|lc<|rt<|cN O ([aj pa (s.put off (gN l) (dZ l (cW cs i .empty)))]) (.tmp rfl) ?_
 exact⟨rfl,by rw[y];rfl⟩
end
end Group
end Go.Proofs.YthkajgkagnenbaaGreatDoor
