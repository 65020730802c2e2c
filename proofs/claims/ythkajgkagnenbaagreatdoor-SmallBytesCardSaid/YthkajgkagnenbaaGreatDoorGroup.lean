import Derived.Test.YthkajgkagnenbaaGreatDoorArenaW
set_option linter.unusedVariables false
set_option linter.unusedSimpArgs false
set_option linter.unusedSectionVars false
set_option maxRecDepth 100000
namespace Go.Proofs.YthkajgkagnenbaaGreatDoor
namespace Group
open Go.RowKit Go.Proofs Eng Ty Bits Mem Search Arena CtrlB Ctrl Layout GroupB
def _root_.Go.Proofs.YthkajgkagnenbaaGreatDoor.GroupB.Cell.kind:Cell→Int | .empty=>0 | .deleted=>1 | .full _ _ _ _=>2
def _root_.Go.Proofs.YthkajgkagnenbaaGreatDoor.GroupB.Cell.tagI:Cell→Int | .full t _ _ _=>t | _=>0
def _root_.Go.Proofs.YthkajgkagnenbaaGreatDoor.GroupB.Cell.keyS:Cell→ByteArray | .full _ k _ _=>k | _=>⟨#[]⟩
def _root_.Go.Proofs.YthkajgkagnenbaaGreatDoor.GroupB.Cell.elemS:Cell→ByteArray | .full _ _ e _=>e | _=>⟨#[]⟩
def _root_.Go.Proofs.YthkajgkagnenbaaGreatDoor.GroupB.Cell.birthI:Cell→Int | .full _ _ _ b=>b | _=>0
def ctF (cs:Nat→Cell):Byt:=fun i=>(cs i).ctrl.toNat
theorem gV {l:Lay} {cs:Nat→Cell} (h:∀ i,i < 8→(cs i).ok l) {i:Nat} (hi:i < 8):((ctF cs i:Nat):Int)=(cs i).ctrl:=by
 have:=Cell.ctrl_bnd (h i hi);unfold ctF;omega
theorem kv {l:Lay} {cs:Nat→Cell} (h:∀ i,i < 8→(cs i).ok l):okB (ctF cs):=fun i hi=>by
 have:=Cell.ctrl_bnd (h i hi);have:=gV h hi;omega
theorem yO {f:Byt} (hf:okB f):0≤wI f∧wI f < 18446744073709551616:=by
 have:=hJ hf
 show 0≤((wd f:Nat):Int)∧((wd f:Nat):Int) < _
 omega
def isF:Cell→Bool | .full _ _ _ _=>true | _=>false
theorem BY {m:Nat→Int} {o:Nat} {f:Byt} (h:∀ i,i < 8→m (o+i)=((f i:Nat):Int)):cZ m o 8=wI f:=by
 have h0:=h 0 (by decide);have h1:=h 1 (by decide);have h2:=h 2 (by decide);have h3:=h 3 (by decide)
 have h4:=h 4 (by decide);have h5:=h 5 (by decide);have h6:=h 6 (by decide);have h7:=h 7 (by decide)
 simp only[cZ,wI,wd,lst,ofB]
 rw[h0,h1,h2,h3,h4,h5,h6,h7]
 simp only[show(2:Int) ^ (8*0)=1 from rfl,show(2:Int) ^ (8*1)=256 from rfl,show(2:Int) ^ (8*2)=65536 from rfl,show(2:Int) ^ (8*3)=16777216 from rfl,show(2:Int) ^ (8*4)=4294967296 from rfl,show(2:Int) ^ (8*5)=1099511627776 from rfl,show(2:Int) ^ (8*6)=281474976710656 from rfl,show(2:Int) ^ (8*7)=72057594037927936 from rfl]
 push_cast
 omega
theorem fW {m:Nat→Int} {off:Nat} {l:Lay} {cs:Nat→Cell} (hG:GAt m off l cs) (hN:gW l) (h:∀ i,i < 8→(cs i).ok l):cZ m off 8=wI (ctF cs):=
 BY fun i hi=>by rw[hG.ctrl hN hi,gV h hi]
theorem r7 {f:Byt} (hf:okB f) {j:Nat} (hj:j < 8):bG (wI f) j=((f j:Nat):Int):=by
 have:=yN f hf j hj
 unfold bG
 rw[← bX,← Int.natCast_ediv,← this]
 exact(Int.natCast_emod _ 256).symm
theorem rC {s:ArS} {a b c d o k:Nat} {f g h:Nat→Int} (e:cm (cm s.m a b f) c d g=cm s.m o k h):(s.put a b f).put c d g=s.put o k h:=by
 unfold ArS.put;simp only[e]
def kF:List Int→Int
 | []=>0
 | e::r=>if e=0 then kF r else e
theorem oU (p k:Nat) (es:List Int) (hk:es.length=k) (hkb:k≤1000):aG Tryz.prog 191 #[.slice (some ⟨p,0,none⟩) k k] [pt p (.cells (ints es).toArray 77 (0,0))] (fun v L=>v=.int .i64 (kF es)∧L= []):=by
 subst hk
 refine aq FO Tryz.func191 rfl rfl rfl fun Fr w0=>aR ?_
 refine sr<|asg rfl rfl<|lc<|ah<|sr<|mv rfl rfl<|l_q rfl (ql rfl lx)<|mv rfl rfl<|lc<|ax ?_
 refine bw (fun j:Nat=>j≤es.length∧kF (es.drop j)=kF es) (fun j=>[(5,.slice (some ⟨p,0,none⟩) es.length es.length),(6,.int .i64 es.length),(7,.int .i64 j)]) (fun j=>pt p (.cells (ints es).toArray 77 (0,0))::Fr) (fun j=>es.length-j) 0 ⟨by omega,by simp⟩ ⟨rfl,rfl,rfl,trivial⟩ (Ent.refl _) ?_
 rintro j ⟨hj,hd⟩
 refine sr<|l_q rfl (qi rfl rfl (aU ·))<|lc<|ah<|aA rfl (fun h=>?_) fun h=>?_
 ·have hjl:j < es.length:=by omega
  rw[List.drop_eq_getElem_cons hjl] at hd
  simp only[kF] at hd
  refine al<|ak<|ah<|ax<|sr<|l_q rfl (ay rfl rfl lx jT (by omega)) ?_
  apply l_q rfl
  ·apply fa rfl pH
   ·exact tk
   rw[Nat.zero_add,Int.toNat_natCast];simp[ints,hjl];rfl
  refine asg rfl rfl<|lz<|mv rfl rfl<|l_q rfl (qi rfl rfl (aI ·))<|lc<|aA rfl (fun q=>?_) fun q=>?_
  ·refine sr<|mv rfl rfl<|asg rfl rfl<|lc<|rt<|fr1 rfl ([]) (.tmp rfl) ?_
   exact⟨by rw[if_neg q] at hd;rw[hd],rfl⟩
  refine al<|aV<|ak<|aB<|l_q rfl (ba rfl rfl) ?_
  refine mv rfl rfl<|aj ?_
  apply aO ((j+1))
  ·exact⟨by omega,by rw[if_pos (Classical.not_not.1 q)] at hd;exact hd⟩
  ·omega
  ·exact⟨rfl,rfl,rfl,trivial⟩
  exact en
 refine xt rfl<|nz<|asg rfl rfl<|lc<|rt ?_
 have hz:es.drop j= []:=List.drop_eq_nil_of_le (by omega)
 rw[hz] at hd
 refine fr1 rfl ([]) (.tmp rfl) ?_
 exact⟨by rw[← hd];rfl,rfl⟩
theorem nn (p:Nat) (a b:Int):aG Tryz.prog 191 #[.slice (some ⟨p,0,none⟩) 2 2] [pt p (.cells #[.int .i64 a,.int .i64 b] 77 (0,0))] (fun v L=>v=.int .i64 (kF [a,b])∧L= []):=oU p 2 [a,b] rfl (by decide)
theorem la (p:Nat) (a b c:Int):aG Tryz.prog 191 #[.slice (some ⟨p,0,none⟩) 3 3] [pt p (.cells #[.int .i64 a,.int .i64 b,.int .i64 c] 77 (0,0))] (fun v L=>v=.int .i64 (kF [a,b,c])∧L= []):=oU p 3 [a,b,c] rfl (by decide)
theorem xN (p:Nat) (a b c d e f:Int):aG Tryz.prog 191 #[.slice (some ⟨p,0,none⟩) 6 6] [pt p (.cells #[.int .i64 a,.int .i64 b,.int .i64 c,.int .i64 d,.int .i64 e,.int .i64 f] 77 (0,0))] (fun v L=>v=.int .i64 (kF [a,b,c,d,e,f])∧L= []):=oU p 6 [a,b,c,d,e,f] rfl (by decide)
theorem vN (b:Bool) (e:Int):aG Tryz.prog 193 #[.bool b,.int .i64 e] [] (fun v L=>v=.int .i64 (if b then e else 0)∧L= []):=by
 refine aq FN Tryz.func193 rfl rfl rfl fun Fr w0=>aR ?_
 refine sr<|asg rfl rfl<|lc<|ah<|sr<|mv rfl rfl<|lc<|aA rfl (fun h=>?_) fun h=>?_
 ·refine sr<|mv rfl rfl<|asg rfl rfl<|lc<|rt<|fr1 rfl ([]) (.tmp rfl) ?_
  exact⟨by rw[h];rfl,rfl⟩
 refine al<|nz<|asg rfl rfl<|lc<|rt<|fr1 rfl ([]) (.tmp rfl) ?_
 exact⟨by rw[h];rfl,rfl⟩
theorem nW (i:Int) (h0:0≤i) (h1:i < 8):aG Tryz.prog 192 #[.int .i64 i] [] (fun v L=>v=.int .i64 0∧L= []):=by
 refine aq C3 Tryz.func192 rfl rfl rfl fun Fr w0=>aR ?_
 refine sr<|asg rfl rfl<|lc<|ah<|sr<|mv rfl rfl<|l_q rfl (qi rfl rfl (aU ·))<|mv rfl rfl<|bD (t:=5) rfl (fun h=>?_) fun h=>?_
 ·omega
 refine au rfl rfl<|mv rfl rfl<|au rfl rfl<|l_q rfl (qi rfl rfl (gM ·))<|l_q rfl (aL rfl rfl)<|lc<|aA rfl (fun h2=>?_) fun h2=>?_
 ·omega
 exact al<|nz<|asg rfl rfl<|lc<|rt<|fr1 rfl ([]) (.tmp rfl) ⟨rfl,rfl⟩
theorem At_ok (pa off:Nat) (l:Lay):aG Tryz.prog 131 #[.pointer (some ⟨pa,0,none⟩),.agg l.cells,.int .i64 off] [] (fun v L=>v=.agg #[.pointer (some ⟨pa,0,none⟩),.int .i64 l.key,.int .i64 l.elem,.int .i64 l.ka,.int .i64 l.ea,.int .i64 l.cap,.int .i64 l.eo,.int .i64 l.bo,.int .i64 l.slot,.int .i64 l.group,.int .i64 off]∧L= []):=by
 refine aq GB Tryz.func131 rfl rfl rfl fun Fr w0=>aR ?_
 refine sr<|aP rfl rfl fun b4=>az rfl pR fun b6=>lz<|mv rfl rfl<|l_q rfl (aK rfl cu aX) ?_
 refine mv rfl rfl ?_
 apply l_q rfl
 ·apply aQ rfl Ev pR
  apply aF.one
  ·repeat (first | exact aH.here | apply aH.there)
  ·rfl
  ·exact sa
  apply aF.all
  ·repeat (first | exact aH.here | apply aH.there)
  ·rfl
  ·simp
  ·exact sal
  apply aF.one
  ·repeat (first | exact aH.here | apply aH.there)
  ·rfl
  ·exact sa
  exact aF.nil
 refine sta rfl rfl rfl cT rfl rfl ?_
 refine lc<|rt ?_
 apply aJ (.inl rfl) ([])
 ·apply cO rfl
  apply Rv.agg rfl
  ·exact tk
  exact aD df cT rfl
 ·exact⟨rfl,rfl⟩
 exact en
section
variable (pa off:Nat) (s:ArS) (l:Lay) (hl:l.err=0) (hg:aN s off l.group)
include hl hg
theorem fg:aG Tryz.prog 167 #[.agg #[.pointer (some ⟨pa,0,none⟩),.int .i64 l.key,.int .i64 l.elem,.int .i64 l.ka,.int .i64 l.ea,.int .i64 l.cap,.int .i64 l.eo,.int .i64 l.bo,.int .i64 l.slot,.int .i64 l.group,.int .i64 off]] [ae pa s] (fun v L=>v=.int .i64 0∧L= [ae pa s]):=by
 have hN:=eL hl
 refine aq Gb Tryz.func167 rfl rfl rfl fun Fr w0=>aR ?_
 refine sr<|aP rfl rfl fun b1=>asg rfl rfl<|lc<|ah<|sr<|l_q rfl (qfa 1 rfl bp rfl rfl aX)<|l_q rfl (aK rfl cu aX) ?_
 refine lc1 rfl rfl rfl (nt l hl) ?_
 refine l_q rfl (cX rfl (bY ·))<|lc<|aA rfl (fun z=>?_) fun z=>?_
 ·exact absurd z (by simp)
 refine al<|nz<|l_q rfl (qfa 0 rfl bp rfl rfl dt)<|l_q rfl (qld rfl du) ?_
 refine l_q rfl (qfa 10 rfl bp rfl rfl yS3)<|l_q rfl (qld rfl yA3) ?_
 refine l_q rfl (qfa 10 rfl bp rfl rfl yS3)<|l_q rfl (qld rfl yA3) ?_
 refine l_q rfl (qfa 1 rfl bp rfl rfl aX)<|l_q rfl (qfa 8 rfl bK rfl rfl yS3)<|l_q rfl (qld rfl yA3) ?_
 refine lcf rfl rfl rfl (yt pa s _ _ _ off off (gN l) rfl rfl hN.g.symm hg hg) ?_
 rintro v L' ⟨⟨q,rfl,_⟩,rfl⟩
 refine bF ?_
 refine mv rfl rfl<|l_q rfl (aa rfl ga) ?_
 refine l_q rfl (aa rfl ga) ?_
 exact asg rfl rfl<|asg rfl rfl<|lz<|mv rfl rfl<|asg rfl rfl<|lc<|rt<|fr1 rfl ([ae pa s]) (.tmp rfl) ⟨rfl,rfl⟩
theorem uf:aG Tryz.prog 132 #[.agg #[.pointer (some ⟨pa,0,none⟩),.int .i64 l.key,.int .i64 l.elem,.int .i64 l.ka,.int .i64 l.ea,.int .i64 l.cap,.int .i64 l.eo,.int .i64 l.bo,.int .i64 l.slot,.int .i64 l.group,.int .i64 off]] [ae pa s] (fun v L=>v=.int .i64 0∧L= [ae pa (s.put off (gN l) (c7 l fun _=>.empty))]):=by
 have hN:=eL hl
 have hn8:=hN.g_eq
 have hng:=hN.g
 refine aq GA Tryz.func132 rfl rfl rfl fun Fr w0=>aR ?_
 refine sr<|aP rfl rfl fun b1=>asg rfl rfl<|lc<|ah<|sr<|l_q rfl (aK rfl df cT) ?_
 refine lc1 rfl rfl rfl (fg pa off s l hl hg) ?_
 refine asg rfl rfl<|lz<|mv rfl rfl<|l_q rfl (qi rfl rfl (aI ·))<|lc<|aA rfl (fun z=>?_) fun z=>?_
 ·exact absurd rfl z
 refine al<|nz<|l_q rfl (qfa 0 rfl bp rfl rfl dt)<|l_q rfl (qld rfl du) ?_
 refine l_q rfl (qfa 10 rfl bp rfl rfl yS3)<|l_q rfl (qld rfl yA3) ?_
 refine l_q rfl (qfa 1 rfl bp rfl rfl aX)<|l_q rfl (qfa 8 rfl bK rfl rfl yS3)<|l_q rfl (qld rfl yA3) ?_
 refine lc1 rfl rfl rfl (uq pa s _ _ off (gN l) 0 rfl hN.g.symm (by omega) hg) ?_
 refine lc<|ah<|aS mixed ?_
 apply dq 0 rfl
 ·exact yq (qfa 0 rfl bp rfl rfl dt)
 apply dq 1 rfl
 ·exact yq (qld rfl du)
 apply dq 2 rfl
 ·exact yq (qfa 10 rfl bp rfl rfl yS3)
 apply dq 3 rfl
 ·exact yq (qld rfl yA3)
 refine an [] [3,2,1,0] 4 [] gO trivial (by kernel_rfl) (by kernel_rfl) fun Ex=>?_
 refine lc1 rfl rfl rfl (Be) ?_
 refine aj ?_
 apply n_d
 ·refine⟨?_,?_,?_,?_,trivial⟩
  ·apply ya rfl rfl;exact yq (qld rfl yA3)
  ·apply ya rfl rfl;exact yq (qfa 10 rfl bp rfl rfl yS3)
  ·apply ya rfl rfl;exact yq (qld rfl du)
  apply ya rfl rfl;exact yq (qfa 0 rfl bp rfl rfl dt)
 refine an [1,3,0,2] [] 5 [(18,_),(20,_),(21,_)] gO ⟨rfl,rfl,rfl,trivial⟩ (by kernel_rfl) (by kernel_rfl) fun Ex=>?_
 refine lc1 rfl rfl rfl (lh pa (s.put off (gN l) fun _=>0) _ _ off 8 _ rfl rfl (yO (f:=fun _=>128) (gu (by decide))) (by unfold wid;omega) (aN.sub (aN.put hg) (by omega) (by omega) (by omega))) ?_
 refine aj ?_
 apply n_d
 ·exact trivial
 refine an [] [] 6 [(22,_)] gO ⟨rfl,trivial⟩ (by kernel_rfl) (by kernel_rfl) fun Ex=>?_
 refine asg rfl rfl<|aj ?_
 apply n_d
 ·exact trivial
 refine bd (by kernel_rfl) ?_
 refine ak<|rt ?_
 apply aJ (.inl rfl) ([ae pa (s.put off (gN l) (c7 l fun _=>.empty))])
 ·apply cO rfl
  exact .tmp rfl
 ·exact⟨rfl,rfl⟩
 rw[rC (xl hN fun j hj=>(r7 (f:=fun _=>128) (gu (by decide)) hj))];(exact en)
end
theorem zr {off:Nat} {s:ArS} {l:Lay} {cs:Nat→Cell} (hl:l.err=0) (hG:GAt s.m off l cs) (hok:∀ i,i < 8→(cs i).ok l) {i:Nat} (hi:i < 8) {t:Nat} (ht:t < 128) {k e:ByteArray} {b:Int} (hk:k.size=kN l) (he:e.size=eN l):
  ((s.put (off+(8+i*sN l)) (sN l) (fG (parts l k e b))).put off 8 (bG (wI (lR (ctF cs) i t))))=s.put off (gN l) (c7 l (bT cs i (.full t k e b))):=by
 have hN:=eL hl
 refine rC (ti hN hG hi (.full t k e b) (fun r _=>rfl) fun j hj=>?_)
 have hsf:okB (lR (ctF cs) i t):=fun j hj=>by unfold lR;split;omega;exact kv hok j hj
 rw[r7 hsf hj]
 unfold lR
 by_cases q:j=i
 ·rw[if_pos q,if_pos q];rfl
 rw[if_neg q,if_neg q,gV hok hj]
theorem tj {off:Nat} {s:ArS} {l:Lay} {cs:Nat→Cell} (hl:l.err=0) (hG:GAt s.m off l cs) (hok:∀ i,i < 8→(cs i).ok l) {i:Nat} (hi:i < 8) {c:Nat} {cell:Cell} (hc:cell.ctrl=(c:Int)) (hc2:c < 256) (hn:isF cell=false):
  ((s.put (off+(8+i*sN l)) (sN l) (fun _=>0)).put off 8 (bG (wI (lR (ctF cs) i c))))=s.put off (gN l) (c7 l (bT cs i cell)):=by
 have hN:=eL hl
 refine rC (ti hN hG hi cell (fun r _=>by cases cell <;> first | rfl | cases hn) fun j hj=>?_)
 have hsf:okB (lR (ctF cs) i c):=fun j hj=>by unfold lR;split;exact hc2;exact kv hok j hj
 rw[r7 hsf hj]
 unfold lR
 by_cases q:j=i
 ·rw[if_pos q,if_pos q,hc]
 rw[if_neg q,if_neg q,gV hok hj]
theorem kB {m f:Nat→Int} {off x k:Nat}:cZ (cm m (off+(8+x)) k f) off 8=cZ m off 8:=cJ fun i hi=>by rw[bO (by omega)]
theorem wF (s:ByteArray):fG [s]=cP s:=by
 funext i
 simp only[fG]
 split
 ·rfl
 next h=>unfold cP;rw[dif_neg h]
theorem k9:∀ n,n≤8→(⟨#[0,0,0,0,0,0,0,0]⟩:ByteArray).extract 0 n=eU n:=by
 intro n hn
 have:n=0∨n=1∨n=2∨n=3∨n=4∨n=5∨n=6∨n=7∨n=8:=by omega
 rcases this with rfl | rfl | rfl | rfl | rfl | rfl | rfl | rfl | rfl <;> rfl
theorem gS (b:Bool) (e:Int) (h:b=false):aG Tryz.prog 193 #[.bool b,.int .i64 e] [] (fun v L=>v=.int .i64 0∧L= []):=
 (vN b e).mono fun v L ⟨h1,h2⟩=>⟨by rw[h1,h];rfl,h2⟩
theorem xF (f:Nat→Int):bt (cm (fun _=>0) 0 8 f) 8=bt f 8:=by
 apply List.ext_getElem?
 intro i
 by_cases h:i < 8
 ·rw[cN h,cN h];unfold cm;rw[if_pos (by omega)];simp
 rw[List.getElem?_eq_none (by rw[bL];omega),List.getElem?_eq_none (by rw[bL];omega)]
theorem uY (b:Int):cA (oL b)=bt (bG b) 8:=by
 unfold oL
 rw[oo (np b)]
 congr 1
 funext i;congr 1;omega
theorem number_ok (b:Int) (hb:0≤b∧b < 9223372036854775808):aG Tryz.prog 198 #[.int .i64 b] [] (fun v L=>v=.string (oL b)∧L= []):=by
 refine aq FH Tryz.func198 rfl rfl rfl fun Fr w0=>aR ?_
 refine sr<|asg rfl rfl<|lz ?_
 apply da rfl rfl rfl ck yI5 rfl (by omega) (by omega)
 intro b5
 refine asg rfl rfl<|lc<|ah<|sr<|mv rfl rfl<|l_q rfl (ql rfl ck)<|mv rfl rfl<|lc<|ax ?_
 refine fw (L':=aE 5 1 (.slice (some ⟨b5,0,none⟩) 8 8) 8 (bt (cm (fun _=>0) 0 0 (bG b)) 8)::Fr) (by rw[kC];exact Ent.refl _) ?_
 refine bw (fun j:Nat=>j≤8) (fun j=>[(0,.int .i64 b),(3,.slice (some ⟨b5,0,none⟩) 8 8),(7,.int .i64 8),(8,.int .i64 j)]) (fun j=>aE 5 1 (.slice (some ⟨b5,0,none⟩) 8 8) 8 (bt (cm (fun _=>0) 0 j (bG b)) 8)::Fr) (fun j=>8-j) 0 (by omega) ⟨rfl,rfl,rfl,rfl,trivial⟩ (Ent.refl _) ?_
 intro j hj
 refine sr<|l_q rfl (qi rfl rfl (aU ·))<|lc<|ah<|aA rfl (fun h=>?_) fun h=>?_
 ·refine al<|ak<|ah<|ax<|sr<|mv rfl rfl<|asg rfl rfl<|lr<|mv rfl rfl<|mv rfl rfl<|mv rfl rfl<|l_q rfl (qcv rfl yU3 fF) ?_
  refine mv rfl rfl<|l_q rfl (dF rfl rfl) ?_
  apply l_q rfl
  ·apply qi rfl rfl;exact fun w=>jR w (by omega)
  refine l_q rfl (qcv rfl fF yU5) ?_
  refine l_q rfl (ay rfl rfl ck yS5 (by omega)) ?_
  apply dp rfl rfl rfl yS5 rfl
  ·exact tk
  ·rw[Nat.zero_add,Int.toNat_natCast];omega
  ·refine Eq.trans ?_ (oO (m:=fun _=>0) (f:=bG b) (n:=8) (o:=0) (j:=j) (by omega) (sR b j hb.1 (by omega)));rw[Nat.zero_add,Int.toNat_natCast,Nat.zero_add]
  refine aj<|aV<|ak<|aB<|l_q rfl (ba rfl rfl) ?_
  refine mv rfl rfl<|aj ?_
  apply aO ((j+1))
  ·exact(show j+1≤8 by omega)
  ·omega
  ·exact⟨rfl,rfl,rfl,rfl,trivial⟩
  exact en
 obtain rfl:j=8:=by omega
 rw[xF]
 refine xt rfl<|nz<|mv rfl rfl ?_
 apply l_q rfl
 ·apply eI (oL b) rfl Tryz.underlying117 Tryz.underlying5 Tryz.underlying9
  ·rw[k7]
  rw[uY];exact dQ (by exact tk)
 exact asg rfl rfl<|lc<|rt<|fr1 rfl ([]) (.tmp rfl) ⟨rfl,rfl⟩
theorem rG (pa off i c:Nat) (s:ArS) (l:Lay) (hl:l.err=0) (hg:aN s off l.group) (f:Byt) (hf:okB f) (hw:cZ s.m off 8=wI f) (hi:i < 8) (hc:c < 256):
  aG Tryz.prog 199 #[.agg #[.pointer (some ⟨pa,0,none⟩),.int .i64 l.key,.int .i64 l.elem,.int .i64 l.ka,.int .i64 l.ea,.int .i64 l.cap,.int .i64 l.eo,.int .i64 l.bo,.int .i64 l.slot,.int .i64 l.group,.int .i64 off],.int .i64 i,.int .i64 c] [ae pa s] (fun v L=>v=.int .i64 0∧L= [ae pa (s.put off 8 (bG (wI (lR f i c))))]):=by
 have hN:=eL hl
 have hn8:=hN.g_eq
 have hng:=hN.g
 have hg8:aN s off 8:=aN.sub hg (by omega) (by omega) (by omega)
 have hsf:okB (lR f i c):=fun j hj=>by unfold lR;split;exact hc;exact hf j hj
 refine aq FG Tryz.func199 rfl rfl rfl fun Fr w0=>aR ?_
 refine sr<|aP rfl rfl fun b3=>asg rfl rfl<|lz<|l_q rfl (qfa 0 rfl bp rfl rfl dt)<|l_q rfl (qld rfl du) ?_
 refine l_q rfl (qfa 10 rfl bp rfl rfl yS3)<|l_q rfl (qld rfl yA3) ?_
 refine lc1 rfl rfl rfl (gE pa s _ _ off 8 rfl rfl (by unfold wid;omega) hg8) ?_
 rw[hw]
 refine mv rfl rfl<|l_q rfl (aa rfl ga) ?_
 refine l_q rfl (aa rfl ga) ?_
 refine asg rfl rfl<|asg rfl rfl<|lc<|ah<|aS mixed ?_
 apply dq 0 rfl
 ·exact yq (qfa 0 rfl bp rfl rfl dt)
 apply dq 1 rfl
 ·exact yq (qld rfl du)
 apply dq 2 rfl
 ·exact yq (qfa 10 rfl bp rfl rfl yS3)
 apply dq 3 rfl
 ·exact yq (qld rfl yA3)
 apply dq 4 rfl
 ·exact yq (ai rfl)
 apply dq 5 rfl
 ·exact yq (ai rfl)
 apply dq 6 rfl
 ·exact yq (ai rfl)
 refine an [4,5,6] [3,2,1,0] 7 [(21,_),(22,_),(23,_)] gO ⟨rfl,rfl,rfl,trivial⟩ (by kernel_rfl) (by kernel_rfl) fun Ex=>?_
 refine lc1 rfl rfl rfl (D3 f hf i c hi hc) ?_
 refine aj ?_
 apply n_d
 ·refine⟨?_,?_,?_,?_,trivial⟩
  ·apply ya rfl rfl;exact yq (qld rfl yA3)
  ·apply ya rfl rfl;exact yq (qfa 10 rfl bp rfl rfl yS3)
  ·apply ya rfl rfl;exact yq (qld rfl du)
  apply ya rfl rfl;exact yq (qfa 0 rfl bp rfl rfl dt)
 refine an [1,3,0,2] [] 8 [(18,_),(20,_),(24,_)] gO ⟨rfl,rfl,rfl,trivial⟩ (by kernel_rfl) (by kernel_rfl) fun Ex=>?_
 refine lc1 rfl rfl rfl (lh pa s _ _ off 8 _ rfl rfl (yO hsf) (by unfold wid;omega) hg8) ?_
 refine aj ?_
 apply n_d
 ·exact trivial
 refine an [] [] 9 [(25,_)] gO ⟨rfl,trivial⟩ (by kernel_rfl) (by kernel_rfl) fun Ex=>?_
 refine asg rfl rfl<|aj ?_
 apply n_d
 ·exact trivial
 refine bd (by kernel_rfl) ?_
 exact ak<|rt<|fr1 rfl ([ae pa (s.put off 8 (bG (wI (lR f i c))))]) (.tmp rfl) ⟨rfl,rfl⟩
section
variable (pa off:Nat) (s:ArS) (l:Lay) (cs:Nat→Cell) (hl:l.err=0) (hg:aN s off l.group) (hG:GAt s.m off l cs) (hok:∀ i,i < 8→(cs i).ok l)
include hl hg hG hok
theorem wM:aG Tryz.prog 98 #[.agg #[.pointer (some ⟨pa,0,none⟩),.int .i64 l.key,.int .i64 l.elem,.int .i64 l.ka,.int .i64 l.ea,.int .i64 l.cap,.int .i64 l.eo,.int .i64 l.bo,.int .i64 l.slot,.int .i64 l.group,.int .i64 off]] [ae pa s] (fun v L=>v=.tuple #[.int .u64 (wI (ctF cs)),.int .i64 0]∧L= [ae pa s]):=by
 have hN:=eL hl
 have hn8:=hN.g_eq
 have hng:=hN.g
 have hg8:aN s off 8:=aN.sub hg (by omega) (by omega) (by omega)
 refine aq Hr Tryz.func98 rfl rfl rfl fun Fr w0=>aR ?_
 refine sr<|aP rfl rfl fun b1=>asg rfl rfl<|asg rfl rfl<|lc<|ah<|sr<|l_q rfl (aK rfl df cT) ?_
 refine lc1 rfl rfl rfl (fg pa off s l hl hg) ?_
 refine asg rfl rfl<|lz<|mv rfl rfl<|l_q rfl (qi rfl rfl (aI ·))<|lc<|aA rfl (fun z=>?_) fun z=>?_
 ·exact absurd rfl z
 refine al<|nz<|l_q rfl (qfa 0 rfl bp rfl rfl dt)<|l_q rfl (qld rfl du) ?_
 refine l_q rfl (qfa 10 rfl bp rfl rfl yS3)<|l_q rfl (qld rfl yA3) ?_
 refine lc1 rfl rfl rfl (gE pa s _ _ off 8 rfl rfl (by unfold wid;omega) hg8) ?_
 refine l_q rfl (aa rfl ga) ?_
 refine l_q rfl (aa rfl ga) ?_
 refine asg rfl rfl<|asg rfl rfl<|lc<|rt<|fr2 rfl ([ae pa s]) (.tmp rfl) (.tmp rfl) ?_
 exact⟨by rw[fW hG hN hok],rfl⟩
set_option maxHeartbeats 1000000 in
theorem Cc (i:Nat) (hi:i < 8) (t:Int) (k e:ByteArray) (b:Int) (hc:cs i=.full t k e b):aG Tryz.prog 203 #[.agg #[.pointer (some ⟨pa,0,none⟩),.int .i64 l.key,.int .i64 l.elem,.int .i64 l.ka,.int .i64 l.ea,.int .i64 l.cap,.int .i64 l.eo,.int .i64 l.bo,.int .i64 l.slot,.int .i64 l.group,.int .i64 off],.int .i64 i,.int .i64 t] [ae pa s]
  (fun v L=>v=.agg #[.int .i64 2,.int .i64 t,.string k,.string e,.int .i64 b]∧L= [ae pa s]):=by
 have hN:=eL hl
 have hn8:=hN.g_eq;have hns:=hN.s_eq
 have h1:=hN.g;have h2:=hN.k;have h3:=hN.e;have h4:=hN.eo;have h5:=hN.bo;have h6:=hN.s
 have h7:=hN.eo1;have h8:=hN.bo1
 have hcok:=hok i hi
 rw[hc] at hcok
 obtain⟨_,_,hk,he,hb0,hb1⟩:=hcok
 have hst:(i:Int)*l.slot=((i*sN l:Nat):Int):=by rw[Int.natCast_mul,h6]
 have hit:=kS hN hi (r:=sN l-1) (by omega)
 have hpl:∀ x:Int,eJ l i x=8+((i*sN l:Nat):Int)+x:=fun x=>by unfold eJ;rw[if_neg (by omega),hst]
 have inb:∀ o n:Int,0≤n→0≤o→o+n≤l.slot→aN s ((off:Int)+(8+((i*sN l:Nat):Int)+o)) n:=fun o n h0 h1 h2=>aN.sub hg h0 (by omega) (by omega)
 refine aG.mono (Post:=fun v L=>s.ok∧v=.agg #[.int .i64 2,.int .i64 t,.string (dE s.m (off+(8+i*sN l)) (kN l)),.string (dE s.m (off+(8+i*sN l+eoN l)) (eN l)),.int .i64 (IntKind.i64.wrap (cZ s.m (off+(8+i*sN l+boN l)) 8))]∧L= [ae pa s]) ?_ ?_
 ·refine aq FD Tryz.func203 rfl rfl rfl fun Fr w0=>aR ?_
  refine cI (φ:=s.ok) (fun w hw=>bQ hw .here) fun hok0=>?_
  have hge:=aN.end_le hok0 hg
  have hst0:=hok0.stop_eq
  refine sr<|aP rfl rfl fun b3=>az rfl cK fun b6=>lz<|mv rfl rfl ?_
  apply l_q rfl
  ·apply aQ rfl gl cK
   apply aF.one
   ·repeat (first | exact aH.here | apply aH.there)
   ·rfl
   ·exact sa
   apply aF.one
   ·repeat (first | exact aH.here | apply aH.there)
   ·rfl
   ·exact sa
   exact aF.nil
  refine az rfl cK fun b7=>sta rfl rfl rfl bx rfl rfl ?_
  refine lc<|ah<|aS mixed ?_
  apply dq 0 rfl
  ·exact yq (qfa 0 rfl bp rfl rfl dt)
  apply dq 1 rfl
  ·exact yq (qld rfl du)
  apply dq 2 rfl
  ·exact yq (qfa 10 rfl bp rfl rfl yS3)
  apply dq 3 rfl
  ·exact yq (qld rfl yA3)
  apply dq 4 rfl
  ·exact yq (qfa 1 rfl bp rfl rfl aX)
  apply dq 5 rfl
  ·exact yq (aK rfl cu aX)
  apply dq 6 rfl
  ·exact yq (ai rfl)
  apply dq 9 rfl
  ·exact yq (qfa 1 rfl bp rfl rfl aX)
  apply dq 10 rfl
  ·exact yq (qfa 0 rfl bK rfl rfl yS3)
  apply dq 11 rfl
  ·exact yq (qld rfl yA3)
  refine an [5,6,4] [11,10,9,3,2,1,0] 7 [(18,_),(19,_)] gO ⟨rfl,rfl,trivial⟩ (by kernel_rfl) (by kernel_rfl) fun Ex=>?_
  refine lc1 rfl rfl rfl (mT l hl i) ?_
  rw[hpl]
  refine aj ?_
  apply n_d
  ·refine⟨?_,?_,?_,?_,?_,?_,?_,trivial⟩
   ·apply ya rfl rfl;exact yq (qld rfl yA3)
   ·apply ya rfl rfl;exact yq (qfa 0 rfl bK rfl rfl yS3)
   ·apply ya rfl rfl;exact yq (qfa 1 rfl bp rfl rfl aX)
   ·apply ya rfl rfl;exact yq (qld rfl yA3)
   ·apply ya rfl rfl;exact yq (qfa 10 rfl bp rfl rfl yS3)
   ·apply ya rfl rfl;exact yq (qld rfl du)
   apply ya rfl rfl;exact yq (qfa 0 rfl bp rfl rfl dt)
  apply dq 8 rfl
  ·exact yq (ba rfl rfl)
  refine an [1,8,11,0,3,10,2,9] [] 12 [(14,_),(21,_),(24,_)] gO ⟨rfl,rfl,rfl,trivial⟩ (by kernel_rfl) (by kernel_rfl) fun Ex=>?_
  refine lc1 rfl rfl rfl (pB pa s _ l.key (off+(8+i*sN l)) (kN l) (by omega) (by omega) (inb 0 l.key (by omega) (by omega) (by omega))) ?_
  refine aj ?_
  apply n_d
  ·exact trivial
  apply dq 13 rfl
  ·exact yq (ai rfl)
  apply dq 14 rfl
  ·exact yq (aa rfl ga)
  apply dq 15 rfl
  ·exact yq (aa rfl ga)
  apply dq 16 rfl
  ·exact yq (qfa 2 rfl cQ rfl rfl yS9)
  refine an [16,14,13] [15] 17 [(28,_),(26,_)] gO ⟨rfl,rfl,trivial⟩ (by kernel_rfl) (by kernel_rfl) fun Ex=>?_
  refine st rfl rfl rfl yS9 rfl ?_
  refine aj ?_
  apply n_d
  ·refine⟨?_,trivial⟩
   apply ya rfl rfl;exact yq (aa rfl ga)
  refine bd (by kernel_rfl) ?_
  refine ak<|ah<|aS mixed ?_
  apply dq 0 rfl
  ·exact yq (qfa 0 rfl bp rfl rfl dt)
  apply dq 1 rfl
  ·exact yq (qld rfl du)
  apply dq 2 rfl
  ·exact yq (qfa 10 rfl bp rfl rfl yS3)
  apply dq 3 rfl
  ·exact yq (qld rfl yA3)
  apply dq 4 rfl
  ·exact yq (qfa 1 rfl bp rfl rfl aX)
  apply dq 5 rfl
  ·exact yq (aK rfl cu aX)
  apply dq 6 rfl
  ·exact yq (ai rfl)
  apply dq 9 rfl
  ·exact yq (qfa 1 rfl bp rfl rfl aX)
  apply dq 10 rfl
  ·exact yq (qfa 1 rfl bK rfl rfl yS3)
  apply dq 11 rfl
  ·exact yq (qld rfl yA3)
  refine an [5,6,4] [11,10,9,3,2,1,0] 7 [(35,_),(36,_)] gO ⟨rfl,rfl,trivial⟩ (by kernel_rfl) (by kernel_rfl) fun Ex=>?_
  refine lc1 rfl rfl rfl (ny l hl i) ?_
  rw[hpl]
  refine aj ?_
  apply n_d
  ·refine⟨?_,?_,?_,?_,?_,?_,?_,trivial⟩
   ·apply ya rfl rfl;exact yq (qld rfl yA3)
   ·apply ya rfl rfl;exact yq (qfa 1 rfl bK rfl rfl yS3)
   ·apply ya rfl rfl;exact yq (qfa 1 rfl bp rfl rfl aX)
   ·apply ya rfl rfl;exact yq (qld rfl yA3)
   ·apply ya rfl rfl;exact yq (qfa 10 rfl bp rfl rfl yS3)
   ·apply ya rfl rfl;exact yq (qld rfl du)
   apply ya rfl rfl;exact yq (qfa 0 rfl bp rfl rfl dt)
  apply dq 8 rfl
  ·exact yq (ba rfl rfl)
  refine an [1,8,11,0,3,10,2,9] [] 12 [(31,_),(38,_),(41,_)] gO ⟨rfl,rfl,rfl,trivial⟩ (by kernel_rfl) (by kernel_rfl) fun Ex=>?_
  refine lc1 rfl rfl rfl (pB pa s _ l.elem (off+(8+i*sN l+eoN l)) (eN l) (by omega) (by omega) (inb l.eo l.elem (by omega) (by omega) (by omega))) ?_
  refine aj ?_
  apply n_d
  ·exact trivial
  apply dq 13 rfl
  ·exact yq (ai rfl)
  apply dq 14 rfl
  ·exact yq (aa rfl ga)
  apply dq 15 rfl
  ·exact yq (aa rfl ga)
  apply dq 16 rfl
  ·exact yq (qfa 3 rfl cQ rfl rfl yS9)
  refine an [16,14,13] [15] 17 [(45,_),(43,_)] gO ⟨rfl,rfl,trivial⟩ (by kernel_rfl) (by kernel_rfl) fun Ex=>?_
  refine st rfl rfl rfl yS9 rfl ?_
  refine aj ?_
  apply n_d
  ·refine⟨?_,trivial⟩
   apply ya rfl rfl;exact yq (aa rfl ga)
  refine bd (by kernel_rfl) ?_
  refine ak<|ah<|aS mixed ?_
  apply dq 0 rfl
  ·exact yq (qfa 0 rfl bp rfl rfl dt)
  apply dq 1 rfl
  ·exact yq (qld rfl du)
  apply dq 2 rfl
  ·exact yq (qfa 10 rfl bp rfl rfl yS3)
  apply dq 3 rfl
  ·exact yq (qld rfl yA3)
  apply dq 4 rfl
  ·exact yq (qfa 1 rfl bp rfl rfl aX)
  apply dq 5 rfl
  ·exact yq (aK rfl cu aX)
  apply dq 6 rfl
  ·exact yq (ai rfl)
  refine an [5,6,4] [3,2,1,0] 7 [(52,_),(53,_)] gO ⟨rfl,rfl,trivial⟩ (by kernel_rfl) (by kernel_rfl) fun Ex=>?_
  refine lc1 rfl rfl rfl (vE l hl i) ?_
  rw[hpl]
  refine aj ?_
  apply n_d
  ·refine⟨?_,?_,?_,?_,trivial⟩
   ·apply ya rfl rfl;exact yq (qld rfl yA3)
   ·apply ya rfl rfl;exact yq (qfa 10 rfl bp rfl rfl yS3)
   ·apply ya rfl rfl;exact yq (qld rfl du)
   apply ya rfl rfl;exact yq (qfa 0 rfl bp rfl rfl dt)
  apply dq 8 rfl
  ·exact yq (ba rfl rfl)
  refine an [1,8,0,3,2] [] 9 [(48,_),(55,_)] gO ⟨rfl,rfl,trivial⟩ (by kernel_rfl) (by kernel_rfl) fun Ex=>?_
  refine lc1 rfl rfl rfl (gE pa s _ 8 (off+(8+i*sN l+boN l)) 8 (by omega) rfl (by unfold wid;omega) (inb l.bo 8 (by omega) (by omega) (by omega))) ?_
  refine aj ?_
  apply n_d
  ·exact trivial
  apply dq 10 rfl
  ·exact yq (ai rfl)
  apply dq 11 rfl
  ·exact yq (aa rfl ga)
  apply dq 12 rfl
  ·exact yq (aa rfl ga)
  refine an [11,10] [12] 13 [(57,_)] gO ⟨rfl,trivial⟩ (by kernel_rfl) (by kernel_rfl) fun Ex=>?_
  refine asg rfl rfl<|aj ?_
  apply n_d
  ·refine⟨?_,trivial⟩
   apply ya rfl rfl;exact yq (aa rfl ga)
  refine an [12] [] 14 [(58,_)] gO ⟨rfl,trivial⟩ (by kernel_rfl) (by kernel_rfl) fun Ex=>?_
  refine asg rfl rfl<|aj ?_
  apply n_d
  ·exact trivial
  refine bd (by kernel_rfl) ?_
  refine nz<|mv rfl rfl<|l_q rfl (qcv rfl fF yU3) ?_
  refine l_q rfl (qfa 4 rfl cQ rfl rfl yS3)<|st rfl rfl rfl yS3 rfl ?_
  refine lz<|l_q rfl (aK rfl dh bx) ?_
  refine sta rfl rfl rfl bx rfl rfl ?_
  refine lc<|rt ?_
  apply aJ (.inl rfl) ([ae pa s])
  ·apply cO rfl
   apply Rv.agg rfl
   ·exact tk
   exact aD dh bx rfl
  ·exact⟨hok0,rfl,rfl⟩
  exact en
 rintro v L ⟨hok0,rfl,rfl⟩
 refine⟨?_,rfl⟩
 have e1:dE s.m (off+(8+i*sN l)) (kN l)=k:=by
  rw[← hk]
  refine rq hok0.bytes fun j hj=>?_
  rw[← tT hN (t:=t) (e:=e) (b:=b) hk hj,← hc,← hG.slot hN hi (by omega)]
  congr 1;omega
 have e2:dE s.m (off+(8+i*sN l+eoN l)) (eN l)=e:=by
  rw[← he]
  refine rq hok0.bytes fun j hj=>?_
  rw[← qN hN (t:=t) (k:=k) (b:=b) hk hj,← hc,← hG.slot hN hi (by omega)]
  congr 1;omega
 have e3:cZ s.m (off+(8+i*sN l+boN l)) 8=b:=by
  rw[cJ (m':=bG b) (o':=0) fun j hj=>by rw[Nat.zero_add,← u7 hN (t:=t) (k:=k) (e:=e) hk he hj,← hc,← hG.slot hN hi (by omega)];congr 1;omega,fA]
  omega
 rw[e1,e2,e3,wrap_i64 (by omega)]
theorem sv (i:Nat) (hi:i < 8):aG Tryz.prog 144 #[.agg #[.pointer (some ⟨pa,0,none⟩),.int .i64 l.key,.int .i64 l.elem,.int .i64 l.ka,.int .i64 l.ea,.int .i64 l.cap,.int .i64 l.eo,.int .i64 l.bo,.int .i64 l.slot,.int .i64 l.group,.int .i64 off],.int .i64 i] [ae pa s]
  (fun v L=>v=.tuple #[.agg #[.int .i64 (cs i).kind,.int .i64 (cs i).tagI,.string (cs i).keyS,.string (cs i).elemS,.int .i64 (cs i).birthI],.int .i64 0]∧L= [ae pa s]):=by
 have hN:=eL hl
 have hn8:=hN.g_eq
 have hng:=hN.g
 have hg8:aN s off 8:=aN.sub hg (by omega) (by omega) (by omega)
 have hct:=gV hok hi
 refine aq C6 Tryz.func144 rfl rfl rfl fun Fr w0=>aR ?_
 refine sr<|aP rfl rfl fun b2=>az rfl cK fun b4=>asg rfl rfl<|lc<|ah<|ah<|aS mixed ?_
 apply dq 0 rfl
 ·exact yq (ai rfl)
 apply dq 2 rfl
 ·exact yq (aK rfl df cT)
 refine an [0] [2] 1 [(10,_)] gO ⟨rfl,trivial⟩ (by kernel_rfl) (by kernel_rfl) fun Ex=>?_
 refine lc1 rfl rfl rfl (nW i (by omega) (by omega)) ?_
 refine aj ?_
 apply n_d
 ·refine⟨?_,trivial⟩
  apply ya rfl rfl;exact yq (aK rfl df cT)
 refine an [2] [] 3 [(12,_)] gO ⟨rfl,trivial⟩ (by kernel_rfl) (by kernel_rfl) fun Ex=>?_
 refine lc1 rfl rfl rfl (fg pa off s l hl hg) ?_
 refine aj ?_
 apply n_d
 ·exact trivial
 refine an [] [] 4 [(11,_),(13,_)] gO ⟨rfl,rfl,trivial⟩ (by kernel_rfl) (by kernel_rfl) fun Ex=>?_
 refine aW [_,_] rfl rfl lx jT mU rfl rfl rfl rfl (fun b14=>?_)
 refine aj ?_
 apply n_d
 ·exact trivial
 refine an [] [] 5 [(14,_)] gO ⟨rfl,trivial⟩ (by kernel_rfl) (by kernel_rfl) fun Ex=>?_
 refine lc1 rfl rfl rfl (nn b14 0 0) ?_
 refine aj ?_
 apply n_d
 ·exact trivial
 refine an [] [] 6 [(15,_)] gO ⟨rfl,trivial⟩ (by kernel_rfl) (by kernel_rfl) fun Ex=>?_
 refine asg rfl rfl<|aj ?_
 apply n_d
 ·exact trivial
 refine bd (by kernel_rfl) ?_
 refine nz<|mv rfl rfl<|l_q rfl (qi rfl rfl (aI ·))<|lc<|aA rfl (fun z=>?_) fun z=>?_
 ·exact absurd rfl z
 refine al<|nz<|l_q rfl (qfa 0 rfl bp rfl rfl dt)<|l_q rfl (qld rfl du) ?_
 refine l_q rfl (qfa 10 rfl bp rfl rfl yS3)<|l_q rfl (qld rfl yA3) ?_
 refine lc1 rfl rfl rfl (gE pa s _ _ off 8 rfl rfl (by unfold wid;omega) hg8) ?_
 rw[fW hG hN hok]
 refine mv rfl rfl<|l_q rfl (aa rfl ga) ?_
 refine l_q rfl (aa rfl ga) ?_
 refine asg rfl rfl<|asg rfl rfl<|lc<|ah<|sr<|mv rfl rfl<|mv rfl rfl<|lc1 rfl rfl rfl (D9 (ctF cs) (kv hok) i hi) ?_
 rw[hct]
 refine asg rfl rfl<|lc<|ax<|sr<|mv rfl rfl<|l_q rfl (qi rfl rfl (iw ·))<|asg rfl rfl<|lc ?_
 cases hc:cs i with
 | full t k e b=>
  have hcok:=hok i hi
  rw[hc] at hcok
  have ht:(Cell.full t k e b).ctrl=t:=rfl
  rw[ht]
  obtain⟨ht0,ht1,_⟩:=hcok
  refine aA rfl (fun q=>?_) fun q=>?_
  ·refine sr<|l_q rfl (aK rfl df cT) ?_
   refine mv rfl rfl<|mv rfl rfl<|lc1 rfl rfl rfl (Cc pa off s l cs hl hg hG hok i hi t k e b hc) ?_
   refine sta rfl rfl rfl bx rfl rfl ?_
   refine asg rfl rfl<|lc<|rt ?_
   apply aJ (.inl rfl) ([ae pa s])
   ·apply bS rfl
    ·apply Rv.agg rfl
     ·exact tk
     exact aD dh bx rfl
    exact .tmp rfl
   ·exact⟨rfl,rfl⟩
   exact en
  omega
 | deleted=>
  refine aA rfl (fun q=>?_) fun q=>?_
  ·exact absurd q (by decide)
  refine sr<|mv rfl rfl<|l_q rfl (qi rfl rfl (aZ ·))<|asg rfl rfl<|lc<|aA rfl (fun q2=>?_) fun q2=>?_
  ·refine sr ?_
   apply l_q rfl
   ·apply aQ rfl gl cK
    apply aF.one
    ·repeat (first | exact aH.here | apply aH.there)
    ·rfl
    ·exact sa
    exact aF.nil
   refine sta rfl rfl rfl bx rfl rfl ?_
   refine asg rfl rfl<|lc<|rt ?_
   apply aJ (.inl rfl) ([ae pa s])
   ·apply bS rfl
    ·apply Rv.agg rfl
     ·exact tk
     exact aD dh bx rfl
    exact .tmp rfl
   ·exact⟨rfl,rfl⟩
   exact en
  exact absurd rfl q2
 | empty=>
  refine aA rfl (fun q=>?_) fun q=>?_
  ·exact absurd q (by decide)
  refine sr<|mv rfl rfl<|l_q rfl (qi rfl rfl (aZ ·))<|asg rfl rfl<|lc<|aA rfl (fun q2=>?_) fun q2=>?_
  ·exact absurd q2 (by decide)
  refine al<|aV<|nz ?_
  apply l_q rfl
  ·apply aQ rfl gl cK
   exact aF.nil
  refine sta rfl rfl rfl bx rfl rfl ?_
  refine asg rfl rfl<|lc<|rt ?_
  apply aJ (.inl rfl) ([ae pa s])
  ·apply bS rfl
   ·apply Rv.agg rfl
    ·exact tk
    exact aD dh bx rfl
   exact .tmp rfl
  ·exact⟨rfl,rfl⟩
  exact en
theorem Fill_ok (i t:Nat) (k e:ByteArray) (b:Int) (hi:i < 8) (ht:t < 128) (hk:k.size=kN l) (he:e.size=eN l) (hb:0≤b∧b < 9223372036854775808):
  aG Tryz.prog 138 #[.agg #[.pointer (some ⟨pa,0,none⟩),.int .i64 l.key,.int .i64 l.elem,.int .i64 l.ka,.int .i64 l.ea,.int .i64 l.cap,.int .i64 l.eo,.int .i64 l.bo,.int .i64 l.slot,.int .i64 l.group,.int .i64 off],.int .i64 i,.int .i64 t,.string k,.string e,.int .i64 b] [ae pa s] (fun v L=>v=.int .i64 0∧L= [ae pa (s.put off (gN l) (c7 l (bT cs i (.full t k e b))))]):=by
 have hN:=eL hl
 have hn8:=hN.g_eq;have hns:=hN.s_eq
 have h1:=hN.g;have h2:=hN.k;have h3:=hN.e;have h4:=hN.eo;have h5:=hN.bo;have h6:=hN.s
 have h7:=hN.eo1;have h8:=hN.bo1
 have hst:(i:Int)*l.slot=((i*sN l:Nat):Int):=by rw[Int.natCast_mul,h6]
 have hit:=kS hN hi (r:=sN l-1) (by omega)
 have hpl:∀ x:Int,eJ l i x=8+((i*sN l:Nat):Int)+x:=fun x=>by unfold eJ;rw[if_neg (by omega),hst]
 have hks:(k.size:Int)=l.key:=by omega
 have hes:(e.size:Int)=l.elem:=by omega
 have htot:=wY hN hk he b
 refine aq Gu Tryz.func138 rfl rfl rfl fun Fr w0=>aR ?_
 have hgs:((⟨#[0,0,0,0,0,0,0,0]⟩:ByteArray).size:Int)=8:=rfl
 have hz1:l.eo-l.key≤((⟨#[0,0,0,0,0,0,0,0]⟩:ByteArray).size:Int):=by rw[hgs];omega
 have hz2:l.bo-l.eo-l.elem≤((⟨#[0,0,0,0,0,0,0,0]⟩:ByteArray).size:Int):=by rw[hgs];omega
 refine cI (φ:=s.ok) (fun w hw=>bQ hw .here) fun hok0=>?_
 have hge:=aN.end_le hok0 hg
 have hst0:=hok0.stop_eq
 refine sr<|aP rfl rfl fun b6=>asg rfl rfl<|lc<|ah<|aS mixed ?_
 apply dq 0 rfl
 ·exact yq (ai rfl)
 apply dq 2 rfl
 ·exact yq (ai rfl)
 apply dq 3 rfl
 ·exact yq (qi rfl rfl (aU ·))
 apply dq 9 rfl
 ·exact yq (ai rfl)
 apply dq 10 rfl
 ·exact yq (qls rfl yU9)
 apply dq 11 rfl
 ·exact yq (qfa 1 rfl bp rfl rfl aX)
 apply dq 12 rfl
 ·exact yq (qfa 0 rfl bK rfl rfl yS3)
 apply dq 13 rfl
 ·exact yq (qld rfl yA3)
 apply dq 14 rfl
 ·exact yq (qi rfl rfl (aI ·))
 apply dq 16 rfl
 ·exact yq (ai rfl)
 apply dq 17 rfl
 ·exact yq (qls rfl yU9)
 apply dq 18 rfl
 ·exact yq (qfa 1 rfl bp rfl rfl aX)
 apply dq 19 rfl
 ·exact yq (qfa 1 rfl bK rfl rfl yS3)
 apply dq 20 rfl
 ·exact yq (qld rfl yA3)
 apply dq 21 rfl
 ·exact yq (qi rfl rfl (aI ·))
 apply dq 23 rfl
 ·exact yq (ai rfl)
 apply dq 24 rfl
 ·exact yq (qi rfl rfl (aU ·))
 apply dq 26 rfl
 ·exact yq (aK rfl df cT)
 refine an [0] [26,24,23,21,20,19,18,17,16,14,13,12,11,10,9,3,2] 1 [(14,_)] gO ⟨rfl,trivial⟩ (by kernel_rfl) (by kernel_rfl) fun Ex=>?_
 refine lc1 rfl rfl rfl (nW i (by omega) (by omega)) ?_
 refine aj ?_
 apply n_d
 ·refine⟨?_,?_,?_,?_,?_,?_,?_,?_,?_,?_,?_,?_,?_,?_,?_,?_,?_,trivial⟩
  ·apply ya rfl rfl;exact yq (aK rfl df cT)
  ·apply ya rfl rfl;exact yq (qi rfl rfl (aU ·))
  ·apply ya rfl rfl;exact yq (ai rfl)
  ·apply ya rfl rfl;exact yq (qi rfl rfl (aI ·))
  ·apply ya rfl rfl;exact yq (qld rfl yA3)
  ·apply ya rfl rfl;exact yq (qfa 1 rfl bK rfl rfl yS3)
  ·apply ya rfl rfl;exact yq (qfa 1 rfl bp rfl rfl aX)
  ·apply ya rfl rfl;exact yq (qls rfl yU9)
  ·apply ya rfl rfl;exact yq (ai rfl)
  ·apply ya rfl rfl;exact yq (qi rfl rfl (aI ·))
  ·apply ya rfl rfl;exact yq (qld rfl yA3)
  ·apply ya rfl rfl;exact yq (qfa 0 rfl bK rfl rfl yS3)
  ·apply ya rfl rfl;exact yq (qfa 1 rfl bp rfl rfl aX)
  ·apply ya rfl rfl;exact yq (qls rfl yU9)
  ·apply ya rfl rfl;exact yq (ai rfl)
  ·apply ya rfl rfl;exact yq (qi rfl rfl (aU ·))
  apply ya rfl rfl;exact yq (ai rfl)
 apply dq 4 rfl
 ·exact yq (ai rfl)
 refine jW (t:=18) rfl (fun p1=>?_) fun p1=>?_
 ·omega
 apply dq 5 rfl
 ·exact bE rfl rfl (ai rfl)
 apply dq 6 rfl
 ·exact bE rfl rfl (qi rfl rfl (cU ·))
 apply dq 7 rfl
 ·exact yq (aL rfl rfl)
 refine an [7,4,6,3,5,2] [26,24,23,21,20,19,18,17,16,14,13,12,11,10,9] 8 [(21,_)] gO ⟨rfl,trivial⟩ (by kernel_rfl) (by kernel_rfl) fun Ex=>?_
 refine lc1 rfl rfl rfl (gS _ _ (by simp;omega)) ?_
 refine aj ?_
 apply n_d
 ·refine⟨?_,?_,?_,?_,?_,?_,?_,?_,?_,?_,?_,?_,?_,?_,?_,trivial⟩
  ·apply ya rfl rfl;exact yq (aK rfl df cT)
  ·apply ya rfl rfl;exact yq (qi rfl rfl (aU ·))
  ·apply ya rfl rfl;exact yq (ai rfl)
  ·apply ya rfl rfl;exact yq (qi rfl rfl (aI ·))
  ·apply ya rfl rfl;exact yq (qld rfl yA3)
  ·apply ya rfl rfl;exact yq (qfa 1 rfl bK rfl rfl yS3)
  ·apply ya rfl rfl;exact yq (qfa 1 rfl bp rfl rfl aX)
  ·apply ya rfl rfl;exact yq (qls rfl yU9)
  ·apply ya rfl rfl;exact yq (ai rfl)
  ·apply ya rfl rfl;exact yq (qi rfl rfl (aI ·))
  ·apply ya rfl rfl;exact yq (qld rfl yA3)
  ·apply ya rfl rfl;exact yq (qfa 0 rfl bK rfl rfl yS3)
  ·apply ya rfl rfl;exact yq (qfa 1 rfl bp rfl rfl aX)
  ·apply ya rfl rfl;exact yq (qls rfl yU9)
  apply ya rfl rfl;exact yq (ai rfl)
 refine an [14,10,13,9,12,11] [26,24,23,21,20,19,18,17,16] 15 [(28,_)] gO ⟨rfl,trivial⟩ (by kernel_rfl) (by kernel_rfl) fun Ex=>?_
 refine lc1 rfl rfl rfl (gS _ _ (by simp;omega)) ?_
 refine aj ?_
 apply n_d
 ·refine⟨?_,?_,?_,?_,?_,?_,?_,?_,?_,trivial⟩
  ·apply ya rfl rfl;exact yq (aK rfl df cT)
  ·apply ya rfl rfl;exact yq (qi rfl rfl (aU ·))
  ·apply ya rfl rfl;exact yq (ai rfl)
  ·apply ya rfl rfl;exact yq (qi rfl rfl (aI ·))
  ·apply ya rfl rfl;exact yq (qld rfl yA3)
  ·apply ya rfl rfl;exact yq (qfa 1 rfl bK rfl rfl yS3)
  ·apply ya rfl rfl;exact yq (qfa 1 rfl bp rfl rfl aX)
  ·apply ya rfl rfl;exact yq (qls rfl yU9)
  apply ya rfl rfl;exact yq (ai rfl)
 refine an [21,17,20,16,19,18] [26,24,23] 22 [(35,_)] gO ⟨rfl,trivial⟩ (by kernel_rfl) (by kernel_rfl) fun Ex=>?_
 refine lc1 rfl rfl rfl (gS _ _ (by simp;omega)) ?_
 refine aj ?_
 apply n_d
 ·refine⟨?_,?_,?_,trivial⟩
  ·apply ya rfl rfl;exact yq (aK rfl df cT)
  ·apply ya rfl rfl;exact yq (qi rfl rfl (aU ·))
  apply ya rfl rfl;exact yq (ai rfl)
 refine an [24,23] [26] 25 [(38,_)] gO ⟨rfl,trivial⟩ (by kernel_rfl) (by kernel_rfl) fun Ex=>?_
 refine lc1 rfl rfl rfl (gS _ _ (by simp;omega)) ?_
 refine aj ?_
 apply n_d
 ·refine⟨?_,trivial⟩
  apply ya rfl rfl;exact yq (aK rfl df cT)
 refine an [26] [] 27 [(40,_)] gO ⟨rfl,trivial⟩ (by kernel_rfl) (by kernel_rfl) fun Ex=>?_
 refine lc1 rfl rfl rfl (fg pa off s l hl hg) ?_
 refine aj ?_
 apply n_d
 ·exact trivial
 refine an [] [] 28 [(15,_),(22,_),(29,_),(36,_),(39,_),(41,_)] gO ⟨rfl,rfl,rfl,rfl,rfl,rfl,trivial⟩ (by kernel_rfl) (by kernel_rfl) fun Ex=>?_
 refine aW [_,_,_,_,_,_] rfl rfl lx jT mU rfl rfl rfl rfl (fun b42=>?_)
 refine aj ?_
 apply n_d
 ·exact trivial
 refine an [] [] 29 [(42,_)] gO ⟨rfl,trivial⟩ (by kernel_rfl) (by kernel_rfl) fun Ex=>?_
 refine lc1 rfl rfl rfl (xN b42 0 0 0 0 0 0) ?_
 refine aj ?_
 apply n_d
 ·exact trivial
 refine an [] [] 30 [(43,_)] gO ⟨rfl,trivial⟩ (by kernel_rfl) (by kernel_rfl) fun Ex=>?_
 refine asg rfl rfl<|aj ?_
 apply n_d
 ·exact trivial
 refine bd (by kernel_rfl) ?_
 refine ak<|ah<|sr<|mv rfl rfl<|l_q rfl (qi rfl rfl (aI ·))<|lc<|aA rfl (fun z=>?_) fun z=>?_
 ·exact absurd rfl z
 refine al<|ak<|ah<|aS mixed ?_
 apply dq 0 rfl
 ·exact yq (qfa 0 rfl bp rfl rfl dt)
 apply dq 1 rfl
 ·exact yq (qld rfl du)
 apply dq 2 rfl
 ·exact yq (qfa 10 rfl bp rfl rfl yS3)
 apply dq 3 rfl
 ·exact yq (qld rfl yA3)
 apply dq 4 rfl
 ·exact yq (qfa 1 rfl bp rfl rfl aX)
 apply dq 5 rfl
 ·exact yq (aK rfl cu aX)
 apply dq 6 rfl
 ·exact yq (ai rfl)
 apply dq 9 rfl
 ·exact yq (ai rfl)
 apply dq 10 rfl
 ·exact yq (qfa 1 rfl bp rfl rfl aX)
 apply dq 11 rfl
 ·exact yq (qfa 5 rfl bK rfl rfl yS3)
 apply dq 12 rfl
 ·exact yq (qld rfl yA3)
 apply dq 13 rfl
 ·exact yq (qfa 1 rfl bp rfl rfl aX)
 apply dq 14 rfl
 ·exact yq (qfa 0 rfl bK rfl rfl yS3)
 apply dq 15 rfl
 ·exact yq (qld rfl yA3)
 apply dq 16 rfl
 ·exact yq (e9 rfl rfl)
 apply dq 17 rfl
 ·apply yq
  refine QV.to (v':=.string (eU (eoN l-kN l))) (fV rfl rfl Tryz.underlying9 ⟨by omega,hz1⟩) (by rw[show(l.eo-l.key).toNat=eoN l-kN l by omega,k9 _ (by omega)])
 apply dq 18 rfl
 ·exact yq (ai rfl)
 apply dq 19 rfl
 ·exact yq (qfa 1 rfl bp rfl rfl aX)
 apply dq 20 rfl
 ·exact yq (qfa 6 rfl bK rfl rfl yS3)
 apply dq 21 rfl
 ·exact yq (qld rfl yA3)
 apply dq 22 rfl
 ·exact yq (qfa 1 rfl bp rfl rfl aX)
 apply dq 23 rfl
 ·exact yq (qfa 5 rfl bK rfl rfl yS3)
 apply dq 24 rfl
 ·exact yq (qld rfl yA3)
 apply dq 25 rfl
 ·exact yq (e9 rfl rfl)
 apply dq 26 rfl
 ·exact yq (qfa 1 rfl bp rfl rfl aX)
 apply dq 27 rfl
 ·exact yq (qfa 1 rfl bK rfl rfl yS3)
 apply dq 28 rfl
 ·exact yq (qld rfl yA3)
 apply dq 29 rfl
 ·exact yq (e9 rfl rfl)
 apply dq 30 rfl
 ·apply yq
  refine QV.to (v':=.string (eU (boN l-eoN l-eN l))) (fV rfl rfl Tryz.underlying9 ⟨by omega,hz2⟩) (by rw[show(l.bo-l.eo-l.elem).toNat=boN l-eoN l-eN l by omega,k9 _ (by omega)])
 apply dq 31 rfl
 ·exact yq (ai rfl)
 refine an [5,6,4] [31,30,29,28,27,26,25,24,23,22,21,20,19,18,17,16,15,14,13,12,11,10,9,3,2,1,0] 7 [(52,_),(53,_)] gO ⟨rfl,rfl,trivial⟩ (by kernel_rfl) (by kernel_rfl) fun Ex=>?_
 refine lc1 rfl rfl rfl (mT l hl i) ?_
 rw[hpl]
 refine aj ?_
 apply n_d
 ·refine⟨?_,?_,?_,?_,?_,?_,?_,?_,?_,?_,?_,?_,?_,?_,?_,?_,?_,?_,?_,?_,?_,?_,?_,?_,?_,?_,?_,trivial⟩
  ·apply ya rfl rfl;exact yq (ai rfl)
  ·apply ya rfl rfl
   apply yq
   refine QV.to (v':=.string (eU (boN l-eoN l-eN l))) (fV rfl rfl Tryz.underlying9 ⟨by omega,hz2⟩) (by rw[show(l.bo-l.eo-l.elem).toNat=boN l-eoN l-eN l by omega,k9 _ (by omega)])
  ·apply ya rfl rfl;exact yq (e9 rfl rfl)
  ·apply ya rfl rfl;exact yq (qld rfl yA3)
  ·apply ya rfl rfl;exact yq (qfa 1 rfl bK rfl rfl yS3)
  ·apply ya rfl rfl;exact yq (qfa 1 rfl bp rfl rfl aX)
  ·apply ya rfl rfl;exact yq (e9 rfl rfl)
  ·apply ya rfl rfl;exact yq (qld rfl yA3)
  ·apply ya rfl rfl;exact yq (qfa 5 rfl bK rfl rfl yS3)
  ·apply ya rfl rfl;exact yq (qfa 1 rfl bp rfl rfl aX)
  ·apply ya rfl rfl;exact yq (qld rfl yA3)
  ·apply ya rfl rfl;exact yq (qfa 6 rfl bK rfl rfl yS3)
  ·apply ya rfl rfl;exact yq (qfa 1 rfl bp rfl rfl aX)
  ·apply ya rfl rfl;exact yq (ai rfl)
  ·apply ya rfl rfl
   apply yq
   refine QV.to (v':=.string (eU (eoN l-kN l))) (fV rfl rfl Tryz.underlying9 ⟨by omega,hz1⟩) (by rw[show(l.eo-l.key).toNat=eoN l-kN l by omega,k9 _ (by omega)])
  ·apply ya rfl rfl;exact yq (e9 rfl rfl)
  ·apply ya rfl rfl;exact yq (qld rfl yA3)
  ·apply ya rfl rfl;exact yq (qfa 0 rfl bK rfl rfl yS3)
  ·apply ya rfl rfl;exact yq (qfa 1 rfl bp rfl rfl aX)
  ·apply ya rfl rfl;exact yq (qld rfl yA3)
  ·apply ya rfl rfl;exact yq (qfa 5 rfl bK rfl rfl yS3)
  ·apply ya rfl rfl;exact yq (qfa 1 rfl bp rfl rfl aX)
  ·apply ya rfl rfl;exact yq (ai rfl)
  ·apply ya rfl rfl;exact yq (qld rfl yA3)
  ·apply ya rfl rfl;exact yq (qfa 10 rfl bp rfl rfl yS3)
  ·apply ya rfl rfl;exact yq (qld rfl du)
  apply ya rfl rfl;exact yq (qfa 0 rfl bp rfl rfl dt)
 apply dq 8 rfl
 ·exact yq (ba rfl rfl)
 refine an [31] [8,30,29,28,27,26,25,24,23,22,21,20,19,18,17,16,15,14,13,12,11,10,9,3,2,1,0] 32 [(78,_)] gO ⟨rfl,trivial⟩ (by kernel_rfl) (by kernel_rfl) fun Ex=>?_
 refine lc1 rfl rfl rfl (number_ok b hb) ?_
 refine aj ?_
 apply n_d
 ·refine⟨?_,?_,?_,?_,?_,?_,?_,?_,?_,?_,?_,?_,?_,?_,?_,?_,?_,?_,?_,?_,?_,?_,?_,?_,?_,?_,?_,trivial⟩
  ·apply ya rfl rfl;exact yq (ba rfl rfl)
  ·apply ya rfl rfl
   apply yq
   refine QV.to (v':=.string (eU (boN l-eoN l-eN l))) (fV rfl rfl Tryz.underlying9 ⟨by omega,hz2⟩) (by rw[show(l.bo-l.eo-l.elem).toNat=boN l-eoN l-eN l by omega,k9 _ (by omega)])
  ·apply ya rfl rfl;exact yq (e9 rfl rfl)
  ·apply ya rfl rfl;exact yq (qld rfl yA3)
  ·apply ya rfl rfl;exact yq (qfa 1 rfl bK rfl rfl yS3)
  ·apply ya rfl rfl;exact yq (qfa 1 rfl bp rfl rfl aX)
  ·apply ya rfl rfl;exact yq (e9 rfl rfl)
  ·apply ya rfl rfl;exact yq (qld rfl yA3)
  ·apply ya rfl rfl;exact yq (qfa 5 rfl bK rfl rfl yS3)
  ·apply ya rfl rfl;exact yq (qfa 1 rfl bp rfl rfl aX)
  ·apply ya rfl rfl;exact yq (qld rfl yA3)
  ·apply ya rfl rfl;exact yq (qfa 6 rfl bK rfl rfl yS3)
  ·apply ya rfl rfl;exact yq (qfa 1 rfl bp rfl rfl aX)
  ·apply ya rfl rfl;exact yq (ai rfl)
  ·apply ya rfl rfl
   apply yq
   refine QV.to (v':=.string (eU (eoN l-kN l))) (fV rfl rfl Tryz.underlying9 ⟨by omega,hz1⟩) (by rw[show(l.eo-l.key).toNat=eoN l-kN l by omega,k9 _ (by omega)])
  ·apply ya rfl rfl;exact yq (e9 rfl rfl)
  ·apply ya rfl rfl;exact yq (qld rfl yA3)
  ·apply ya rfl rfl;exact yq (qfa 0 rfl bK rfl rfl yS3)
  ·apply ya rfl rfl;exact yq (qfa 1 rfl bp rfl rfl aX)
  ·apply ya rfl rfl;exact yq (qld rfl yA3)
  ·apply ya rfl rfl;exact yq (qfa 5 rfl bK rfl rfl yS3)
  ·apply ya rfl rfl;exact yq (qfa 1 rfl bp rfl rfl aX)
  ·apply ya rfl rfl;exact yq (ai rfl)
  ·apply ya rfl rfl;exact yq (qld rfl yA3)
  ·apply ya rfl rfl;exact yq (qfa 10 rfl bp rfl rfl yS3)
  ·apply ya rfl rfl;exact yq (qld rfl du)
  apply ya rfl rfl;exact yq (qfa 0 rfl bp rfl rfl dt)
 refine an [9,17,18,30,16,29,12,15,25,28,11,14,21,24,27,10,13,20,23,26,19,22] [8,3,2,1,0] 33 [(56,_),(64,_),(65,_),(77,_),(79,_)] gO ⟨rfl,rfl,rfl,rfl,rfl,trivial⟩ (by kernel_rfl) (by kernel_rfl) fun Ex=>?_
 refine aW [_,_,_,_,_] rfl rfl pS yS9 yZ9 rfl rfl rfl rfl (fun b80=>?_)
 refine aj ?_
 apply n_d
 ·refine⟨?_,?_,?_,?_,?_,trivial⟩
  ·apply ya rfl rfl;exact yq (ba rfl rfl)
  ·apply ya rfl rfl;exact yq (qld rfl yA3)
  ·apply ya rfl rfl;exact yq (qfa 10 rfl bp rfl rfl yS3)
  ·apply ya rfl rfl;exact yq (qld rfl du)
  apply ya rfl rfl;exact yq (qfa 0 rfl bp rfl rfl dt)
 refine an [1,8,0,3,2] [] 34 [(48,_),(55,_),(80,_)] gO ⟨rfl,rfl,rfl,trivial⟩ (by kernel_rfl) (by kernel_rfl) fun Ex=>?_
 refine lc1 rfl rfl rfl (x9 pa s b80 (off+(8+i*sN l)) _ k (eU (eoN l-kN l)) e (eU (boN l-eoN l-eN l)) (oL b) (by omega) (by show aN s _ ((cR (parts l k e b):Nat):Int);rw[htot];exact aN.sub hg (by omega) (by omega) (by omega))) ?_
 rw[show[k,eU (eoN l-kN l),e,eU (boN l-eoN l-eN l),oL b]=parts l k e b from rfl,htot]
 refine aj ?_
 apply n_d
 ·exact trivial
 refine bd (by kernel_rfl) ?_
 refine nz<|l_q rfl (aK rfl df cT) ?_
 refine mv rfl rfl<|mv rfl rfl<|lc1 rfl rfl rfl (rG pa off i t (s.put (off+(8+i*sN l)) (sN l) (fG (parts l k e b))) l hl (aN.put hg) (ctF cs) (kv hok) (by rw[ArS.put_m,kB,fW hG hN hok]) hi (by omega)) ?_
 rw[zr hl hG hok hi ht hk he]
 exact asg rfl rfl<|lc<|rt<|fr1 rfl ([ae pa (s.put off (gN l) (c7 l (bT cs i (.full t k e b))))]) (.tmp rfl) ⟨rfl,rfl⟩
theorem pz (i:Nat) (t:Int) (k e e':ByteArray) (b:Int) (hi:i < 8) (hc:cs i=.full t k e b) (he':e'.size=eN l):
  aG Tryz.prog 137 #[.agg #[.pointer (some ⟨pa,0,none⟩),.int .i64 l.key,.int .i64 l.elem,.int .i64 l.ka,.int .i64 l.ea,.int .i64 l.cap,.int .i64 l.eo,.int .i64 l.bo,.int .i64 l.slot,.int .i64 l.group,.int .i64 off],.int .i64 i,.string e'] [ae pa s] (fun v L=>v=.int .i64 0∧L= [ae pa (s.put off (gN l) (c7 l (bT cs i (.full t k e' b))))]):=by
 have hN:=eL hl
 have hn8:=hN.g_eq;have hns:=hN.s_eq
 have h1:=hN.g;have h2:=hN.k;have h3:=hN.e;have h4:=hN.eo;have h5:=hN.bo;have h6:=hN.s
 have h7:=hN.eo1;have h8:=hN.bo1
 have hcok:=hok i hi
 have hcti:=gV hok hi
 rw[hc] at hcok hcti
 obtain⟨ht0,ht1,hk,he,_⟩:=hcok
 have hct2:ctF cs i < 128:=by have:(Cell.full t k e b).ctrl=t:=rfl;omega
 have hst:(i:Int)*l.slot=((i*sN l:Nat):Int):=by rw[Int.natCast_mul,h6]
 have hit:=kS hN hi (r:=sN l-1) (by omega)
 have hpl:∀ x:Int,eJ l i x=8+((i*sN l:Nat):Int)+x:=fun x=>by unfold eJ;rw[if_neg (by omega),hst]
 have hes:(e'.size:Int)=l.elem:=by omega
 have hg8:aN s off 8:=aN.sub hg (by omega) (by omega) (by omega)
 refine aq Gv Tryz.func137 rfl rfl rfl fun Fr w0=>aR ?_
 refine cI (φ:=s.ok) (fun w hw=>bQ hw .here) fun hok0=>?_
 have hge:=aN.end_le hok0 hg
 have hst0:=hok0.stop_eq
 refine sr<|aP rfl rfl fun b3=>asg rfl rfl<|lc<|ah<|ah<|aS mixed ?_
 apply dq 0 rfl
 ·exact yq (ai rfl)
 apply dq 2 rfl
 ·exact yq (ai rfl)
 apply dq 3 rfl
 ·exact yq (qls rfl yU9)
 apply dq 4 rfl
 ·exact yq (qfa 1 rfl bp rfl rfl aX)
 apply dq 5 rfl
 ·exact yq (qfa 1 rfl bK rfl rfl yS3)
 apply dq 6 rfl
 ·exact yq (qld rfl yA3)
 apply dq 7 rfl
 ·exact yq (qi rfl rfl (aI ·))
 apply dq 9 rfl
 ·exact yq (aK rfl df cT)
 refine an [0] [9,7,6,5,4,3,2] 1 [(10,_)] gO ⟨rfl,trivial⟩ (by kernel_rfl) (by kernel_rfl) fun Ex=>?_
 refine lc1 rfl rfl rfl (nW i (by omega) (by omega)) ?_
 refine aj ?_
 apply n_d
 ·refine⟨?_,?_,?_,?_,?_,?_,?_,trivial⟩
  ·apply ya rfl rfl;exact yq (aK rfl df cT)
  ·apply ya rfl rfl;exact yq (qi rfl rfl (aI ·))
  ·apply ya rfl rfl;exact yq (qld rfl yA3)
  ·apply ya rfl rfl;exact yq (qfa 1 rfl bK rfl rfl yS3)
  ·apply ya rfl rfl;exact yq (qfa 1 rfl bp rfl rfl aX)
  ·apply ya rfl rfl;exact yq (qls rfl yU9)
  apply ya rfl rfl;exact yq (ai rfl)
 refine an [7,3,6,2,5,4] [9] 8 [(17,_)] gO ⟨rfl,trivial⟩ (by kernel_rfl) (by kernel_rfl) fun Ex=>?_
 refine lc1 rfl rfl rfl (gS _ _ (by simp;omega)) ?_
 refine aj ?_
 apply n_d
 ·refine⟨?_,trivial⟩
  apply ya rfl rfl;exact yq (aK rfl df cT)
 refine an [9] [] 10 [(19,_)] gO ⟨rfl,trivial⟩ (by kernel_rfl) (by kernel_rfl) fun Ex=>?_
 refine lc1 rfl rfl rfl (fg pa off s l hl hg) ?_
 refine aj ?_
 apply n_d
 ·exact trivial
 refine an [] [] 11 [(11,_),(18,_),(20,_)] gO ⟨rfl,rfl,rfl,trivial⟩ (by kernel_rfl) (by kernel_rfl) fun Ex=>?_
 refine aW [_,_,_] rfl rfl lx jT mU rfl rfl rfl rfl (fun b21=>?_)
 refine aj ?_
 apply n_d
 ·exact trivial
 refine an [] [] 12 [(21,_)] gO ⟨rfl,trivial⟩ (by kernel_rfl) (by kernel_rfl) fun Ex=>?_
 refine lc1 rfl rfl rfl (la b21 0 0 0) ?_
 refine aj ?_
 apply n_d
 ·exact trivial
 refine an [] [] 13 [(22,_)] gO ⟨rfl,trivial⟩ (by kernel_rfl) (by kernel_rfl) fun Ex=>?_
 refine asg rfl rfl<|aj ?_
 apply n_d
 ·exact trivial
 refine bd (by kernel_rfl) ?_
 refine nz<|mv rfl rfl<|l_q rfl (qi rfl rfl (aI ·))<|lc<|aA rfl (fun z=>?_) fun z=>?_
 ·exact absurd rfl z
 refine al<|nz<|l_q rfl (qfa 0 rfl bp rfl rfl dt)<|l_q rfl (qld rfl du) ?_
 refine l_q rfl (qfa 10 rfl bp rfl rfl yS3)<|l_q rfl (qld rfl yA3) ?_
 refine lc1 rfl rfl rfl (gE pa s _ _ off 8 rfl rfl (by unfold wid;omega) hg8) ?_
 rw[fW hG hN hok]
 refine mv rfl rfl<|l_q rfl (aa rfl ga) ?_
 refine l_q rfl (aa rfl ga) ?_
 refine asg rfl rfl<|asg rfl rfl<|lc<|ah<|sr<|mv rfl rfl<|lc1 rfl rfl rfl (sn (ctF cs) (kv hok)) ?_
 refine mv rfl rfl<|lc1 rfl rfl rfl (A7 _ i hi) ?_
 refine l_q rfl (cX rfl (bY ·))<|lc<|aA rfl (fun y=>?_) fun y=>?_
 ·simp[hct2] at y
 refine al<|ak<|ah<|aS mixed ?_
 apply dq 0 rfl
 ·exact yq (qfa 0 rfl bp rfl rfl dt)
 apply dq 1 rfl
 ·exact yq (qld rfl du)
 apply dq 2 rfl
 ·exact yq (qfa 10 rfl bp rfl rfl yS3)
 apply dq 3 rfl
 ·exact yq (qld rfl yA3)
 apply dq 4 rfl
 ·exact yq (qfa 1 rfl bp rfl rfl aX)
 apply dq 5 rfl
 ·exact yq (aK rfl cu aX)
 apply dq 6 rfl
 ·exact yq (ai rfl)
 apply dq 9 rfl
 ·exact yq (ai rfl)
 apply iW 7 10
 ·kernel_rfl
 ·apply fj (q1:=[5,6,4]) (q2:=[9,3,2,1,0]) [(44,_),(45,_)]
  ·exact gO
  ·exact⟨rfl,rfl,trivial⟩
  ·kernel_rfl
  intro Ex
  refine lc1 rfl rfl rfl (ny l hl i) ?_
  rw[hpl]
  refine aj ?_
  apply n_d
  ·refine⟨?_,?_,?_,?_,?_,trivial⟩
   ·apply ya rfl rfl;exact yq (ai rfl)
   ·apply ya rfl rfl;exact yq (qld rfl yA3)
   ·apply ya rfl rfl;exact yq (qfa 10 rfl bp rfl rfl yS3)
   ·apply ya rfl rfl;exact yq (qld rfl du)
   apply ya rfl rfl;exact yq (qfa 0 rfl bp rfl rfl dt)
  apply dq 8 rfl
  ·exact yq (ba rfl rfl)
  refine an [9] [8,3,2,1,0] 10 [(48,_)] gO ⟨rfl,trivial⟩ (by kernel_rfl) (by kernel_rfl) fun Ex=>?_
  refine aW [_] rfl rfl pS yS9 yZ9 rfl rfl rfl rfl (fun b49=>?_)
  refine aj ?_
  apply n_d
  ·refine⟨?_,?_,?_,?_,?_,trivial⟩
   ·apply ya rfl rfl;exact yq (ba rfl rfl)
   ·apply ya rfl rfl;exact yq (qld rfl yA3)
   ·apply ya rfl rfl;exact yq (qfa 10 rfl bp rfl rfl yS3)
   ·apply ya rfl rfl;exact yq (qld rfl du)
   apply ya rfl rfl;exact yq (qfa 0 rfl bp rfl rfl dt)
  refine an [1,8,0,3,2] [] 11 [(40,_),(47,_),(49,_)] gO ⟨rfl,rfl,rfl,trivial⟩ (by kernel_rfl) (by kernel_rfl) fun Ex=>?_
  refine lc1 rfl rfl rfl (qS pa s b49 (off+(8+i*sN l+eoN l)) _ e' (by omega) (aN.sub hg (by omega) (by omega) (by simp only[cR];omega))) ?_
  rw[show s.put (off+(8+i*sN l+eoN l)) (cR [e']) (fG [e'])=s.put off (gN l) (c7 l (bT cs i (.full t k e' b))) by unfold ArS.put;rw[show cR [e']=eN l by simp only[cR];omega,wF,tl hN hG hi hc hk he he']]
  refine aj ?_
  apply n_d
  ·exact trivial
  refine an [] [] 12 [(50,_)] gO ⟨rfl,trivial⟩ (by kernel_rfl) (by kernel_rfl) fun Ex=>?_
  refine asg rfl rfl<|aj ?_
  apply n_d
  ·exact trivial
  refine bd (by kernel_rfl) ?_
  exact ak<|rt<|fr1 rfl ([ae pa (s.put off (gN l) (c7 l (bT cs i (.full t k e' b))))]) (.tmp rfl) ⟨rfl,rfl⟩
 apply fj (q1:=[9]) (q2:=[6,5,4,3,2,1,0]) [(48,_)]
 ·exact gO
 ·exact⟨rfl,trivial⟩
 ·kernel_rfl
 intro Ex
 refine aW [_] rfl rfl pS yS9 yZ9 rfl rfl rfl rfl (fun b49=>?_)
 refine aj ?_
 apply n_d
 ·refine⟨?_,?_,?_,?_,?_,?_,?_,trivial⟩
  ·apply ya rfl rfl;exact yq (ai rfl)
  ·apply ya rfl rfl;exact yq (aK rfl cu aX)
  ·apply ya rfl rfl;exact yq (qfa 1 rfl bp rfl rfl aX)
  ·apply ya rfl rfl;exact yq (qld rfl yA3)
  ·apply ya rfl rfl;exact yq (qfa 10 rfl bp rfl rfl yS3)
  ·apply ya rfl rfl;exact yq (qld rfl du)
  apply ya rfl rfl;exact yq (qfa 0 rfl bp rfl rfl dt)
 refine an [5,6,4] [3,2,1,0] 7 [(44,_),(45,_)] gO ⟨rfl,rfl,trivial⟩ (by kernel_rfl) (by kernel_rfl) fun Ex=>?_
 refine lc1 rfl rfl rfl (ny l hl i) ?_
 rw[hpl]
 refine aj ?_
 apply n_d
 ·refine⟨?_,?_,?_,?_,trivial⟩
  ·apply ya rfl rfl;exact yq (qld rfl yA3)
  ·apply ya rfl rfl;exact yq (qfa 10 rfl bp rfl rfl yS3)
  ·apply ya rfl rfl;exact yq (qld rfl du)
  apply ya rfl rfl;exact yq (qfa 0 rfl bp rfl rfl dt)
 apply dq 8 rfl
 ·exact yq (ba rfl rfl)
 refine an [1,8,0,3,2] [] 11 [(40,_),(47,_),(49,_)] gO ⟨rfl,rfl,rfl,trivial⟩ (by kernel_rfl) (by kernel_rfl) fun Ex=>?_
 refine lc1 rfl rfl rfl (qS pa s b49 (off+(8+i*sN l+eoN l)) _ e' (by omega) (aN.sub hg (by omega) (by omega) (by simp only[cR];omega))) ?_
 rw[show s.put (off+(8+i*sN l+eoN l)) (cR [e']) (fG [e'])=s.put off (gN l) (c7 l (bT cs i (.full t k e' b))) by unfold ArS.put;rw[show cR [e']=eN l by simp only[cR];omega,wF,tl hN hG hi hc hk he he']]
 refine aj ?_
 apply n_d
 ·exact trivial
 refine an [] [] 12 [(50,_)] gO ⟨rfl,trivial⟩ (by kernel_rfl) (by kernel_rfl) fun Ex=>?_
 refine asg rfl rfl<|aj ?_
 apply n_d
 ·exact trivial
 refine bd (by kernel_rfl) ?_
 exact ak<|rt<|fr1 rfl ([ae pa (s.put off (gN l) (c7 l (bT cs i (.full t k e' b))))]) (.tmp rfl) ⟨rfl,rfl⟩
theorem Bc (i:Nat) (gone:Bool) (hi:i < 8):
  aG Tryz.prog 163 #[.agg #[.pointer (some ⟨pa,0,none⟩),.int .i64 l.key,.int .i64 l.elem,.int .i64 l.ka,.int .i64 l.ea,.int .i64 l.cap,.int .i64 l.eo,.int .i64 l.bo,.int .i64 l.slot,.int .i64 l.group,.int .i64 off],.int .i64 i,.bool gone] [ae pa s] (fun v L=>v=.int .i64 0∧L= [ae pa (s.put off (gN l) (c7 l (bT cs i (if gone then .deleted else .empty))))]):=by
 have hN:=eL hl
 have hn8:=hN.g_eq;have hns:=hN.s_eq
 have h1:=hN.g;have h2:=hN.k;have h3:=hN.e;have h4:=hN.eo;have h5:=hN.bo;have h6:=hN.s
 have h7:=hN.eo1;have h8:=hN.bo1
 have hst:(i:Int)*l.slot=((i*sN l:Nat):Int):=by rw[Int.natCast_mul,h6]
 have hit:=kS hN hi (r:=sN l-1) (by omega)
 have hpl:∀ x:Int,eJ l i x=8+((i*sN l:Nat):Int)+x:=fun x=>by unfold eJ;rw[if_neg (by omega),hst]
 refine aq Gf Tryz.func163 rfl rfl rfl fun Fr w0=>aR ?_
 refine cI (φ:=s.ok) (fun w hw=>bQ hw .here) fun hok0=>?_
 have hge:=aN.end_le hok0 hg
 have hst0:=hok0.stop_eq
 refine sr<|aP rfl rfl fun b3=>asg rfl rfl<|lc<|ah<|ah<|aS mixed ?_
 apply dq 0 rfl
 ·exact yq (ai rfl)
 apply dq 2 rfl
 ·exact yq (aK rfl df cT)
 refine an [0] [2] 1 [(8,_)] gO ⟨rfl,trivial⟩ (by kernel_rfl) (by kernel_rfl) fun Ex=>?_
 refine lc1 rfl rfl rfl (nW i (by omega) (by omega)) ?_
 refine aj ?_
 apply n_d
 ·refine⟨?_,trivial⟩
  apply ya rfl rfl;exact yq (aK rfl df cT)
 refine an [2] [] 3 [(10,_)] gO ⟨rfl,trivial⟩ (by kernel_rfl) (by kernel_rfl) fun Ex=>?_
 refine lc1 rfl rfl rfl (fg pa off s l hl hg) ?_
 refine aj ?_
 apply n_d
 ·exact trivial
 refine an [] [] 4 [(9,_),(11,_)] gO ⟨rfl,rfl,trivial⟩ (by kernel_rfl) (by kernel_rfl) fun Ex=>?_
 refine aW [_,_] rfl rfl lx jT mU rfl rfl rfl rfl (fun b12=>?_)
 refine aj ?_
 apply n_d
 ·exact trivial
 refine an [] [] 5 [(12,_)] gO ⟨rfl,trivial⟩ (by kernel_rfl) (by kernel_rfl) fun Ex=>?_
 refine lc1 rfl rfl rfl (nn b12 0 0) ?_
 refine aj ?_
 apply n_d
 ·exact trivial
 refine an [] [] 6 [(13,_)] gO ⟨rfl,trivial⟩ (by kernel_rfl) (by kernel_rfl) fun Ex=>?_
 refine asg rfl rfl<|aj ?_
 apply n_d
 ·exact trivial
 refine bd (by kernel_rfl) ?_
 refine nz<|mv rfl rfl<|l_q rfl (qi rfl rfl (aI ·))<|lc<|aA rfl (fun z=>?_) fun z=>?_
 ·exact absurd rfl z
 refine al<|ak<|ah<|aS mixed ?_
 apply dq 0 rfl
 ·exact yq (qfa 0 rfl bp rfl rfl dt)
 apply dq 1 rfl
 ·exact yq (qld rfl du)
 apply dq 2 rfl
 ·exact yq (qfa 10 rfl bp rfl rfl yS3)
 apply dq 3 rfl
 ·exact yq (qld rfl yA3)
 apply dq 4 rfl
 ·exact yq (qfa 1 rfl bp rfl rfl aX)
 apply dq 5 rfl
 ·exact yq (aK rfl cu aX)
 apply dq 6 rfl
 ·exact yq (ai rfl)
 apply dq 9 rfl
 ·exact yq (qfa 1 rfl bp rfl rfl aX)
 apply dq 10 rfl
 ·exact yq (qfa 7 rfl bK rfl rfl yS3)
 apply dq 11 rfl
 ·exact yq (qld rfl yA3)
 refine an [5,6,4] [11,10,9,3,2,1,0] 7 [(22,_),(23,_)] gO ⟨rfl,rfl,trivial⟩ (by kernel_rfl) (by kernel_rfl) fun Ex=>?_
 refine lc1 rfl rfl rfl (mT l hl i) ?_
 rw[hpl]
 refine aj ?_
 apply n_d
 ·refine⟨?_,?_,?_,?_,?_,?_,?_,trivial⟩
  ·apply ya rfl rfl;exact yq (qld rfl yA3)
  ·apply ya rfl rfl;exact yq (qfa 7 rfl bK rfl rfl yS3)
  ·apply ya rfl rfl;exact yq (qfa 1 rfl bp rfl rfl aX)
  ·apply ya rfl rfl;exact yq (qld rfl yA3)
  ·apply ya rfl rfl;exact yq (qfa 10 rfl bp rfl rfl yS3)
  ·apply ya rfl rfl;exact yq (qld rfl du)
  apply ya rfl rfl;exact yq (qfa 0 rfl bp rfl rfl dt)
 apply dq 8 rfl
 ·exact yq (ba rfl rfl)
 refine an [1,8,11,0,3,10,2,9] [] 12 [(18,_),(25,_),(28,_)] gO ⟨rfl,rfl,rfl,trivial⟩ (by kernel_rfl) (by kernel_rfl) fun Ex=>?_
 refine lc1 rfl rfl rfl (uq pa s _ l.slot (off+(8+i*sN l)) (sN l) 0 (by omega) (by omega) (by omega) (aN.sub hg (by omega) (by omega) (by omega))) ?_
 refine aj ?_
 apply n_d
 ·exact trivial
 refine bd (by kernel_rfl) ?_
 refine ak<|ah<|sr<|mv rfl rfl<|lc<|aA rfl (fun y=>?_) fun y=>?_
 ·refine sr<|l_q rfl (aK rfl df cT) ?_
  refine mv rfl rfl<|lc1 rfl rfl rfl (rG pa off i 254 (s.put (off+(8+i*sN l)) (sN l) (fun _=>0)) l hl (aN.put hg) (ctF cs) (kv hok) (by rw[ArS.put_m,kB,fW hG hN hok]) hi (by omega)) ?_
  rw[tj hl hG hok hi (c:=254) (cell:=.deleted) rfl (by decide) rfl]
  refine asg rfl rfl<|lc<|rt<|fr1 rfl ([ae pa (s.put off (gN l) (c7 l (bT cs i .deleted)))]) (.tmp rfl) ?_
  exact⟨rfl,by rw[y];rfl⟩
 refine al<|nz<|l_q rfl (aK rfl df cT) ?_
 refine mv rfl rfl<|lc1 rfl rfl rfl (rG pa off i 128 (s.put (off+(8+i*sN l)) (sN l) (fun _=>0)) l hl (aN.put hg) (ctF cs) (kv hok) (by rw[ArS.put_m,kB,fW hG hN hok]) hi (by omega)) ?_
 rw[tj hl hG hok hi (c:=128) (cell:=.empty) rfl (by decide) rfl]
 refine asg rfl rfl<|lc<|rt<|fr1 rfl ([ae pa (s.put off (gN l) (c7 l (bT cs i .empty)))]) (.tmp rfl) ?_
 exact⟨rfl,by rw[y];rfl⟩
end
end Group
end Go.Proofs.YthkajgkagnenbaaGreatDoor
