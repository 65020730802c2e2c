/- The contracts of package table: one table of groups. -/
import Derived.Test.YthkajgkagnenbaaGreatDoorGroup
set_option linter.unusedVariables false
set_option linter.unusedSimpArgs false
set_option linter.unusedSectionVars false
set_option maxRecDepth 100000
namespace Go.Proofs.YthkajgkagnenbaaGreatDoor
namespace Table
open Go.RowKit Go.Proofs Eng Ty Bits Mem Search Arena CtrlB Ctrl Layout GroupB Group Probe TableB TableI
def HOk (T:Tb) (n go:Nat):Prop:=∀ k,k < 8→-9223372036854775808≤dT T n go k∧dT T n go k≤9223372036854775807
theorem pX {v:Int} (h:-9223372036854775808≤v∧v≤9223372036854775807):IntKind.i64.wrap (IntKind.u64.wrap v)=v:=by
 rw[IntKind.wrap_u64,IntKind.wrap_i64];omega
def wl (T:Tb) (n go k:Nat):List Value:=(List.range 8).map fun j=>if j < k then .int .i64 (dT T n go j) else .int .i64 0
theorem Dm (T:Tb) (n go k:Nat) (hk:k < 8):(wl T n go k).set k (.int .i64 (dT T n go k))=wl T n go (k+1):=by
 apply List.ext_getElem?
 intro i
 rw[List.getElem?_set]
 simp only[wl,List.length_map,List.length_range,List.getElem?_map]
 by_cases h:i < 8
 ·rw[List.getElem?_range h]
  by_cases q:k=i
  ·subst q;simp[h]
  rw[if_neg q]
  simp only[Option.map_some,Option.some.injEq]
  by_cases q2:i < k
  ·rw[if_pos q2,if_pos (by omega)]
  rw[if_neg q2,if_neg (by omega)]
 rw[List.getElem?_eq_none (by simpa using h)]
 simp;intro e;omega
theorem Dn (T:Tb) (n go k:Nat):(wl T n go k).length=8:=by simp[wl]
theorem Ct (pa off go n:Nat) (s:ArS) (l:Lay) (T:Tb) (hg:aN s off 64) (hh:∀ k,k < 8→cZ s.m (off+8*k) 8=IntKind.u64.wrap (dT T n go k)) (hr:HOk T n go):
  aG Tryz.prog 65 #[.agg #[.pointer (some ⟨pa,0,none⟩),.int .i64 l.key,.int .i64 l.elem,.int .i64 l.ka,.int .i64 l.ea,.int .i64 l.cap,.int .i64 l.eo,.int .i64 l.bo,.int .i64 l.slot,.int .i64 l.group,.int .i64 (off:Nat)]] [ae pa s] (fun v L=>v=.tuple #[.agg #[.int .i64 T.used,.int .i64 (8*(n:Int)),.int .i64 T.left,.int .i64 T.depth,.int .i64 T.pins,.int .i64 T.next,.bool (decide (T.kind=4)),.int .i64 (go:Nat)],.int .i64 0]∧L= [ae pa s]):=by
 refine aq HA Tryz.func65 rfl rfl rfl fun Fr w0=>aR ?_
 refine cI (φ:=s.ok) (fun w hw=>bQ hw .here) fun hok0=>?_
 have hge:=aN.end_le hok0 hg
 have hst0:=hok0.stop_eq
 refine sr<|aP rfl rfl fun b1=>az rfl sy fun b2=>asg rfl rfl<|lz<|az rfl Ee fun b4=>lc<|ah<|sr<|mv rfl rfl<|lc<|ax ?_
 refine bw (fun k:Nat=>k≤8) (fun k=>[(1,.pointer (some ⟨b1,0,none⟩)),(2,.pointer (some ⟨b2,0,none⟩)),(4,.pointer (some ⟨b4,0,none⟩)),(8,.int .i64 k)]) (fun k=>pt b4 (.cells (wl T n go k).toArray 243 (0,0))::pt b1 (.cells #[.pointer (some ⟨pa,0,none⟩),.int .i64 l.key,.int .i64 l.elem,.int .i64 l.ka,.int .i64 l.ea,.int .i64 l.cap,.int .i64 l.eo,.int .i64 l.bo,.int .i64 l.slot,.int .i64 l.group,.int .i64 (off:Nat)] 39 (0,0))::pt b2 (.cells #[.int .i64 0,.int .i64 0,.int .i64 0,.int .i64 0,.int .i64 0,.int .i64 0,.bool false,.int .i64 0] 147 (0,0))::ae pa s::Fr) (fun k=>8-k) 0 (by omega) ⟨rfl,rfl,rfl,rfl,trivial⟩ (by first | exact Ent.refl _ | (rw[show wl T n go 0= [.int .i64 0,.int .i64 0,.int .i64 0,.int .i64 0,.int .i64 0,.int .i64 0,.int .i64 0,.int .i64 0] from rfl];(exact en))) ?_
 intro k hk8
 refine sr<|l_q rfl (qi rfl rfl (aU ·))<|lc<|ah<|aA rfl (fun h=>?_) fun h=>?_
 ·have hk:k < 8:=by omega
  refine al<|ak<|ah<|ax<|sr<|mv rfl rfl<|asg rfl rfl<|lz<|l_q rfl (qfa 0 rfl pG rfl rfl dt)<|l_q rfl (qld rfl du) ?_
  refine l_q rfl (qfa 10 rfl pG rfl rfl yS3)<|l_q rfl (qld rfl yA3) ?_
  refine mv rfl rfl<|l_q rfl (dF rfl rfl) ?_
  refine l_q rfl (ba rfl rfl) ?_
  refine lc1 rfl rfl rfl (gE pa s _ 8 (off+8*k) 8 (by omega) rfl (by unfold wid;omega) (aN.sub (off':=(off:Int)+8*(k:Int)) hg (by omega) (by omega) (by omega))) ?_
  refine mv rfl rfl<|l_q rfl (aa rfl ga) ?_
  refine l_q rfl (aa rfl ga) ?_
  refine asg rfl rfl<|asg rfl rfl<|lc<|ah<|sr<|mv rfl rfl<|l_q rfl (qi rfl rfl (aI ·))<|lc<|aA rfl (fun z=>?_) fun z=>?_
  ·exact absurd rfl z
  refine al<|ak<|aB<|mv rfl rfl<|mv rfl rfl<|l_q rfl (qcv rfl fF yU3) ?_
  refine l_q rfl (bk rfl rfl ma yS3 (by omega)) ?_
  apply iI rfl rfl rfl yS3 rfl
  ·exact tk
  ·rw[Nat.zero_add,Int.toNat_natCast,Nat.mul_one];exact Nat.ble_eq_true_of_le (by simp[Dn];omega)
  ·rw[Nat.zero_add,Int.toNat_natCast,Nat.mul_one,hh k hk,pX (hr k hk),List.setIfInBounds_toArray,Dm T n go k hk]
  refine aj<|aV<|ak<|aB<|l_q rfl (ba rfl rfl) ?_
  refine mv rfl rfl<|aj ?_
  apply aO ((k+1))
  ·exact(show k+1≤8 by omega)
  ·omega
  ·exact⟨rfl,rfl,rfl,rfl,trivial⟩
  exact en
 obtain rfl:k=8:=by omega
 refine fw (L':=pt b4 (.cells #[.int .i64 T.kind,.int .i64 T.pins,.int .i64 T.next,.int .i64 T.used,.int .i64 (8*(n:Int)),.int .i64 T.left,.int .i64 T.depth,.int .i64 (go:Nat)] 243 (0,0))::pt b2 (.cells #[.int .i64 0,.int .i64 0,.int .i64 0,.int .i64 0,.int .i64 0,.int .i64 0,.bool false,.int .i64 0] 147 (0,0))::ae pa s::Fr) ?_ ?_
 ·rw[show wl T n go 8= [.int .i64 T.kind,.int .i64 T.pins,.int .i64 T.next,.int .i64 T.used,.int .i64 (8*(n:Int)),.int .i64 T.left,.int .i64 T.depth,.int .i64 ((go:Nat):Int)] from rfl]
  (exact en)
 refine xt rfl<|nz<|l_q rfl (bk rfl rfl ma yS3 (by omega)) ?_
 refine l_q rfl (qld rfl yA3) ?_
 refine l_q rfl (bk rfl rfl ma yS3 (by omega)) ?_
 refine l_q rfl (qld rfl yA3) ?_
 refine l_q rfl (bk rfl rfl ma yS3 (by omega)) ?_
 refine l_q rfl (qld rfl yA3) ?_
 refine l_q rfl (bk rfl rfl ma yS3 (by omega)) ?_
 refine l_q rfl (qld rfl yA3) ?_
 refine l_q rfl (bk rfl rfl ma yS3 (by omega)) ?_
 refine l_q rfl (qld rfl yA3) ?_
 refine l_q rfl (bk rfl rfl ma yS3 (by omega)) ?_
 refine l_q rfl (qld rfl yA3) ?_
 refine l_q rfl (bk rfl rfl ma yS3 (by omega)) ?_
 refine l_q rfl (qld rfl yA3) ?_
 refine l_q rfl (qi rfl rfl (aZ ·))<|l_q rfl (bk rfl rfl ma yS3 (by omega)) ?_
 refine l_q rfl (qld rfl yA3) ?_
 apply l_q rfl
 ·apply aQ rfl Ew sy
  apply aF.one
  ·repeat (first | exact aH.here | apply aH.there)
  ·rfl
  ·exact sa
  apply aF.one
  ·repeat (first | exact aH.here | apply aH.there)
  ·rfl
  ·exact sa
  apply aF.one
  ·repeat (first | exact aH.here | apply aH.there)
  ·rfl
  ·exact sa
  apply aF.one
  ·repeat (first | exact aH.here | apply aH.there)
  ·rfl
  ·exact sa
  apply aF.one
  ·repeat (first | exact aH.here | apply aH.there)
  ·rfl
  ·exact sa
  apply aF.one
  ·repeat (first | exact aH.here | apply aH.there)
  ·rfl
  ·exact sa
  apply aF.one
  ·repeat (first | exact aH.here | apply aH.there)
  ·rfl
  ·exact sa
  apply aF.one
  ·repeat (first | exact aH.here | apply aH.there)
  ·rfl
  ·exact sa
  exact aF.nil
 refine sta rfl rfl rfl iE rfl rfl ?_
 refine asg rfl rfl<|lc<|rt ?_
 apply aJ (.inl rfl) ([ae pa s])
 ·apply bS rfl
  ·apply Rv.agg rfl
   ·exact tk
   exact aD me iE rfl
  exact .tmp rfl
 ·exact⟨rfl,rfl⟩
 exact en
theorem tN (pa off go g n:Nat) (l:Lay) (hl:l.err=0) (T:Tb) (i:Int) (hi:i=(g:Nat)) (hb:go+g*gN l≤1000000000):
  aG Tryz.prog 136 #[.agg #[.pointer (some ⟨pa,0,none⟩),.int .i64 l.key,.int .i64 l.elem,.int .i64 l.ka,.int .i64 l.ea,.int .i64 l.cap,.int .i64 l.eo,.int .i64 l.bo,.int .i64 l.slot,.int .i64 l.group,.int .i64 (off:Nat)],.agg #[.int .i64 T.used,.int .i64 (8*(n:Int)),.int .i64 T.left,.int .i64 T.depth,.int .i64 T.pins,.int .i64 T.next,.bool (decide (T.kind=4)),.int .i64 (go:Nat)],.int .i64 i] [] (fun v L=>v=.agg #[.pointer (some ⟨pa,0,none⟩),.int .i64 l.key,.int .i64 l.elem,.int .i64 l.ka,.int .i64 l.ea,.int .i64 l.cap,.int .i64 l.eo,.int .i64 l.bo,.int .i64 l.slot,.int .i64 l.group,.int .i64 ((go+g*gN l:Nat):Int)]∧L= []):=by
 have hN:=eL hl
 have hng:=hN.g
 have hm:i*l.group=((g*gN l:Nat):Int):=by rw[hi,Int.natCast_mul,hng]
 refine aq Gw Tryz.func136 rfl rfl rfl fun Fr w0=>aR ?_
 refine sr<|aP rfl rfl fun b3=>aP rfl rfl fun b4=>az rfl pR fun b6=>lz<|l_q rfl (qfa 0 rfl pG rfl rfl dt)<|l_q rfl (qld rfl du) ?_
 refine l_q rfl (qfa 1 rfl pG rfl rfl aX)<|l_q rfl (aK rfl cu aX) ?_
 refine l_q rfl (qfa 7 rfl nB rfl rfl yS3)<|l_q rfl (qld rfl yA3) ?_
 refine mv rfl rfl<|l_q rfl (qfa 1 rfl pG rfl rfl aX)<|l_q rfl (qfa 8 rfl bK rfl rfl yS3)<|l_q rfl (qld rfl yA3) ?_
 refine l_q rfl (dF rfl rfl) ?_
 refine l_q rfl (ba rfl rfl) ?_
 rw[hm,← Int.natCast_add]
 refine lc1 rfl rfl rfl (At_ok pa (go+g*gN l) l) ?_
 refine sta rfl rfl rfl cT rfl rfl ?_
 refine lc<|rt ?_
 apply aJ (.inl rfl) ([])
 ·apply cO rfl
  apply Rv.agg rfl
  ·exact tk
  exact aD df cT rfl
 ·exact⟨rfl,rfl⟩
 exact en
theorem j9 (pa off k:Nat) (s:ArS) (l:Lay) (at_:Int) (v:Int) (hat:at_=((8*k:Nat):Int)) (hk:k < 8) (hg:aN s off 64):
  aG Tryz.prog 133 #[.agg #[.pointer (some ⟨pa,0,none⟩),.int .i64 l.key,.int .i64 l.elem,.int .i64 l.ka,.int .i64 l.ea,.int .i64 l.cap,.int .i64 l.eo,.int .i64 l.bo,.int .i64 l.slot,.int .i64 l.group,.int .i64 (off:Nat)],.int .i64 at_,.int .i64 v] [ae pa s] (fun r L=>L= [ae pa (s.put (off+8*k) 8 (bG (IntKind.u64.wrap v)))]):=by
 subst hat
 refine aq Gz Tryz.func133 rfl rfl rfl fun Fr w0=>aR ?_
 refine cI (φ:=s.ok) (fun w hw=>bQ hw .here) fun hok0=>?_
 have hge:=aN.end_le hok0 hg
 have hst0:=hok0.stop_eq
 have hw:∀ x,0≤IntKind.u64.wrap x∧IntKind.u64.wrap x < 18446744073709551616:=fun x=>by rw[IntKind.wrap_u64];omega
 have hc:∀ w,(convert 3 27 (.int .i64 v)).run Tryz.prog w=.ok (.int .u64 (IntKind.u64.wrap v)) w:=fun w=>Aw w Tryz.underlying3 Tryz.underlying27
 refine sr<|aP rfl rfl fun b3=>lr<|l_q rfl (qfa 0 rfl pG rfl rfl dt)<|l_q rfl (qld rfl du) ?_
 refine l_q rfl (qfa 10 rfl pG rfl rfl yS3)<|l_q rfl (qld rfl yA3) ?_
 refine mv rfl rfl<|l_q rfl (ba rfl rfl) ?_
 refine mv rfl rfl<|l_q rfl (uO rfl hc) ?_
 refine lcf rfl rfl rfl (lh pa s _ 8 (off+8*k) 8 (IntKind.u64.wrap v) (by omega) rfl (hw v) (by unfold wid;omega) (aN.sub (off':=(off:Int)+((8*k:Nat):Int)) hg (by omega) (by omega) (by omega))) ?_
 rintro v' L' ⟨rfl,rfl⟩
 refine bF ?_
 refine aj ?_
 apply aJ (.inr rfl) ([ae pa (s.put (off+8*k) 8 (bG (IntKind.u64.wrap v)))])
 ·exact pM rfl
 ·exact rfl
 exact en
def sS (cs:Nat→Cell) (t:Nat):Nat→Bool:=fun i=>ctF cs i == t
section
variable {l:Lay} {cs:Nat→Cell} (hok:∀ i,i < 8→(cs i).ok l)
include hok
theorem mm {t:Nat} (ht:t < 128) {i:Nat} (hi:i < 8):sS cs t i=true↔∃ k e b,cs i=.full (t:Int) k e b:=by
 have h1:=gV hok hi
 unfold sS
 rw[beq_iff_eq]
 cases hc:cs i with
 | empty=>rw[hc] at h1;simp only[Cell.ctrl] at h1;constructor;omega;rintro⟨_,_,_,q⟩;cases q
 | deleted=>rw[hc] at h1;simp only[Cell.ctrl] at h1;constructor;omega;rintro⟨_,_,_,q⟩;cases q
 | full t' k e b=>
  rw[hc] at h1;simp only[Cell.ctrl] at h1
  constructor
  ·intro q;exact⟨k,e,b,by congr 1;omega⟩
  rintro⟨_,_,_,q⟩;cases q;omega
theorem DT {i:Nat} (hi:i < 8):(ctF cs i == 128)=fY cs i:=by
 have h1:=gV hok hi
 have h2:=hok i hi
 rw[Bool.eq_iff_iff,beq_iff_eq]
 unfold fY
 cases hc:cs i with
 | empty=>rw[hc] at h1;simp only[Cell.ctrl] at h1;simp;omega
 | deleted=>rw[hc] at h1;simp only[Cell.ctrl] at h1;simp;omega
 | full t' k e b=>rw[hc] at h1 h2;simp only[Cell.ctrl] at h1;obtain⟨h3,h4,_⟩:=h2;simp;omega
theorem Dr {i:Nat} (hi:i < 8):(ctF cs i == 128 || ctF cs i == 254)=eD cs i:=by
 have h1:=gV hok hi
 have h2:=hok i hi
 rw[Bool.eq_iff_iff,Bool.or_eq_true,beq_iff_eq,beq_iff_eq]
 unfold eD
 cases hc:cs i with
 | empty=>rw[hc] at h1;simp only[Cell.ctrl] at h1;simp;omega
 | deleted=>rw[hc] at h1;simp only[Cell.ctrl] at h1;simp;omega
 | full t' k e b=>rw[hc] at h1 h2;simp only[Cell.ctrl] at h1;obtain⟨h3,h4,_⟩:=h2;simp;omega
theorem ln:aG Tryz.prog 161 #[.int .u64 (wI (ctF cs))] [] (fun v L=>v=iP (fY cs)∧L= []):=
 (lJ (ctF cs) (kv hok)).mono fun v L ⟨h1,h2⟩=>⟨by rw[h1];unfold iP;rw[ic fun i hi=>DT hok hi],h2⟩
theorem ra:aG Tryz.prog 174 #[.int .u64 (wI (ctF cs))] [] (fun v L=>v=iP (eD cs)∧L= []):=
 (pE (ctF cs) (kv hok)).mono fun v L ⟨h1,h2⟩=>⟨by rw[h1];unfold iP;rw[ic fun i hi=>Dr hok hi],h2⟩
theorem tJ {t:Nat} (ht:t < 128) {key:ByteArray} (h:∀ j (hj:j < (bz (sS cs t)).length),(cs (bz (sS cs t))[j]).keyS≠key):bA (fh cs t key)=8:=by
 rw[gC]
 intro i hi
 cases q:fh cs t key i with
 | false=>rfl
 | true=>
  exfalso
  obtain⟨e,b,hc⟩:=hit_cell q
  have hm:i∈bz (sS cs t):=dn.2 ⟨hi,(mm hok ht hi).2 ⟨_,_,_,hc⟩⟩
  obtain⟨j,hj,e2⟩:=List.getElem_of_mem hm
  exact h j hj (by rw[e2,hc];rfl)
theorem Ab {t:Nat} (ht:t < 128) {key:ByteArray} {j:Nat} (hj:j < (bz (sS cs t)).length) (hno:∀ j' (hj':j' < (bz (sS cs t)).length),j' < j→(cs (bz (sS cs t))[j']).keyS≠key) (hk:(cs (bz (sS cs t))[j]).keyS=key):
  bA (fh cs t key)=(bz (sS cs t))[j]:=by
 have hm:=dn.1 (List.getElem_mem hj)
 obtain⟨k,e,b,hc⟩:=(mm hok ht hm.1).1 hm.2
 refine jm hm.1 (DL (e:=e) (b:=b) ?_) fun i hi=>?_
 ·rw[hc] at hk ⊢;simp only[Cell.keyS] at hk;rw[hk]
 cases q:fh cs t key i with
 | false=>rfl
 | true=>
  exfalso
  obtain⟨e,b,hc⟩:=hit_cell q
  have hi8:i < 8:=by omega
  have hm2:i∈bz (sS cs t):=dn.2 ⟨hi8,(mm hok ht hi8).2 ⟨_,_,_,hc⟩⟩
  obtain⟨j',hj',e2⟩:=List.getElem_of_mem hm2
  refine hno j' hj' ?_ (by rw[e2,hc];rfl)
  rcases Nat.lt_trichotomy j' j with q2 | q2 | q2
  ·exact q2
  ·subst q2;omega
  have hp:(bz (sS cs t)).Pairwise (· < ·):=(List.pairwise_lt_range (n:=8)).filter _
  have:=List.pairwise_iff_getElem.1 hp j j' hj hj' q2
  omega
end
theorem ot {s:Nat→Bool} {j:Nat} {x:List Value} (h:(hX s)[j]?=some x):∃ hj:j < (bz s).length,x= [.int .i64 (((bz s)[j]:Nat):Int)]:=by
 simp only[hX,List.getElem?_map,Option.map_eq_some_iff] at h
 obtain⟨a,h1,h2⟩:=h
 obtain⟨hj,e⟩:=List.getElem?_eq_some_iff.1 h1
 exact⟨hj,by rw[← h2,e]⟩
theorem oq (s:Nat→Bool):(hX s).length=(bz s).length:=by simp[hX]
theorem CZ {n e:Nat} (he:e≤13) (hn:n=2 ^ e):grp (n:Int)=n:=by
 have:Probe.powB (n:Int) 1 8192=true:=(og _).2 ⟨e,he,by rw[hn,bX]⟩
 have:=(wo this).1
 omega
theorem CB (home:Int) {n e:Nat} (he:e≤13) (hn:n=2 ^ e):
  aG Tryz.prog 186 #[.int .u64 home,.int .i64 (n:Nat)] [] (fun v L=>∃ bh bg,v=.func (.func 224) #[] #[.pointer (some ⟨bh,0,none⟩),.pointer (some ⟨bg,0,none⟩)]∧
   L= [pt bh (.cells #[.int .u64 home] 27 (0,0)),pt bg (.cells #[.int .i64 (n:Nat)] 3 (0,0))]):=
 (A4 home n).mono fun v L ⟨bh,bg,h1,h2⟩=>⟨bh,bg,h1,by rw[h2,CZ he hn]⟩
theorem xp (bh bg:Nat) (home:Int) (hh:0≤home∧home < 18446744073709551616) {n e:Nat} (he:e≤13) (hn:n=2 ^ e):
  iZ Tryz.prog 224 #[.pointer (some ⟨bh,0,none⟩),.pointer (some ⟨bg,0,none⟩)] [pt bh (.cells #[.int .u64 home] 27 (0,0)),pt bg (.cells #[.int .i64 (n:Nat)] 3 (0,0))]
   (way home n) [pt bh (.cells #[.int .u64 home] 27 (0,0)),pt bg (.cells #[.int .i64 (n:Nat)] 3 (0,0))]:=by
 have:=zy bh bg home hh n
 rw[CZ he hn] at this
 exact this
theorem sg (h:Int) (hh:0≤h∧h < 18446744073709551616) (t:Nat) (ht:h % 128=(t:Nat)):aG Tryz.prog 139 #[.int .u64 h] [] (fun v L=>v=.int .i64 (t:Nat)∧L= []):=
 (D2 h hh).mono fun v L ⟨h1,h2⟩=>⟨by rw[h1,ht],h2⟩
set_option maxHeartbeats 1000000 in
theorem xa (G:HP) (hG:dz G) (pa off go n e:Nat) (s:ArS) (l:Lay) (T:Tb) (hl:l.err=0) (he:e≤13) (hn:n=2 ^ e) (hT:TAt s.m off go l n T) (hgh:aN s off 64) (hgg:aN s go ((n*gN l:Nat):Int)) (hr:HOk T n go)
  (h:Int) (hh:0≤h∧h < 18446744073709551616) (key:ByteArray) (hk:key.size=kN l):
  aG Tryz.prog 135 #[.agg #[.pointer (some ⟨pa,0,none⟩),.int .i64 l.key,.int .i64 l.elem,.int .i64 l.ka,.int .i64 l.ea,.int .i64 l.cap,.int .i64 l.eo,.int .i64 l.bo,.int .i64 l.slot,.int .i64 l.group,.int .i64 (off:Nat)],.int .u64 h,.string key] [G,ae pa s]
   (fun v L=>v=.tuple #[.agg #[.int .i64 T.used,.int .i64 (8*(n:Int)),.int .i64 T.left,.int .i64 T.depth,.int .i64 T.pins,.int .i64 T.next,.bool (decide (T.kind=4)),.int .i64 (go:Nat)],.agg #[.int .i64 (br (h / 128) n T.cells (h % 128) key).slot,.int .i64 (br (h / 128) n T.cells (h % 128) key).vac,.bool (br (h / 128) n T.cells (h % 128) key).emp,.int .i64 (br (h / 128) n T.cells (h % 128) key).probes],.int .i64 0]∧L= [G,ae pa s]):=by
 have hN:=eL hl
 have hks:(key.size:Int)=l.key:=by rw[hk];exact hN.k
 have hn0:0 < n:=by rw[hn];exact Nat.two_pow_pos e
 have hn8:n≤8192:=by rw[hn];exact(Nat.pow_le_pow_right (by decide:0 < 2) he:2 ^ e≤2 ^ 13)
 obtain⟨t,htt,ht128⟩:∃ t:Nat,h % 128=(t:Nat)∧t < 128:=⟨(h % 128).toNat,by omega,by omega⟩
 rw[htt]
 refine aq Gx Tryz.func135 rfl rfl rfl fun Fr w0=>aR ?_
 refine cI (φ:=s.ok) (fun w hw=>bQ hw (.there .here)) fun hok0=>?_
 have hge:=aN.end_le hok0 hgh
 have hge2:=aN.end_le hok0 hgg
 have hst0:=hok0.stop_eq
 refine sr<|aP rfl rfl fun b3=>fL rfl rfl rfl fun b4=>fL rfl rfl rfl fun b5=>az rfl sy fun b6=>az rfl vG fun b7=>dN rfl mU rfl fun b8=>lc<|BB<|sr<|l_q rfl (aK rfl gm er) ?_
 refine lc1 rfl rfl rfl (Ct pa off go n s l T hgh hT.head hr) ?_
 refine mv rfl rfl<|l_q rfl (aa rfl ga) ?_
 refine l_q rfl (aa rfl ga) ?_
 refine az rfl sy fun b9=>sta rfl rfl rfl iE rfl rfl ?_
 refine asg rfl rfl<|lc<|ah<|sr<|mv rfl rfl<|l_q rfl (qi rfl rfl (aI ·))<|lc<|aA rfl (fun z=>?_) fun z=>?_
 ·exact absurd rfl z
 refine al<|ak<|ah<|sr<|l_q rfl (qld rfl yA9) ?_
 refine l_q rfl (qls rfl yU9)<|l_q rfl (qfa 1 rfl pG rfl rfl aX)<|l_q rfl (qfa 0 rfl bK rfl rfl yS3)<|l_q rfl (qld rfl yA3) ?_
 refine l_q rfl (qi rfl rfl (aI ·))<|lc<|aA rfl (fun y=>?_) fun y=>?_
 ·omega
 refine al<|nz ?_
 apply l_q rfl
 ·apply aQ rfl Er vG
  apply aF.one
  ·repeat (first | exact aH.here | apply aH.there)
  ·rfl
  ·exact sa
  apply aF.one
  ·repeat (first | exact aH.here | apply aH.there)
  ·rfl
  ·exact sa
  exact aF.nil
 refine az rfl vG fun b11=>sta rfl rfl rfl lA rfl rfl ?_
 refine lc<|ah<|BC<|ak<|ah<|ah<|aS mixed ?_
 apply dq 0 rfl
 ·exact yq (qld rfl j4)
 apply dq 2 rfl
 ·exact yq (qfa 1 rfl nB rfl rfl yS3)
 apply dq 3 rfl
 ·exact yq (qld rfl yA3)
 apply dq 4 rfl
 ·exact yq (gI rfl rfl)
 refine an [0] [4,3,2] 1 [(39,_)] gO ⟨rfl,trivial⟩ (by kernel_rfl) (by kernel_rfl) fun Ex=>?_
 refine lc1 rfl rfl rfl (CD h hh) ?_
 refine aj ?_
 apply n_d
 ·refine⟨?_,?_,?_,trivial⟩
  ·apply ya rfl rfl;exact yq (gI rfl rfl)
  ·apply ya rfl rfl;exact yq (qld rfl yA3)
  apply ya rfl rfl;exact yq (qfa 1 rfl nB rfl rfl yS3)
 refine an [4,3,2] [] 5 [(40,_),(43,_)] gO ⟨rfl,rfl,trivial⟩ (by kernel_rfl) (by kernel_rfl) fun Ex=>?_
 rw[show(8*(n:Int)) / 8=((n:Nat):Int) by omega]
 refine lcf rfl rfl rfl (CB (h / 128) he hn) ?_
 rintro v L' ⟨bh,bg,rfl,rfl⟩
 refine bF ?_
 refine aj ?_
 apply n_d
 ·exact trivial
 refine bd (by kernel_rfl) ?_
 refine ak<|ax ?_
 rw[show pt b11 (.cells #[.int .i64 (-1),.int .i64 (-1),.bool false,.int .i64 0] 224 (0,0))=pt b11 (.cells #[.int .i64 (-1),.int .i64 (dL (h / 128) n T.cells 0),.bool (eG (h / 128) n T.cells 0),.int .i64 ((0:Nat):Int)] 224 (0,0)) from rfl]
 apply vR (p:=(fun k (_:Unit)=>∀ j,j < k→dP (h / 128) n T.cells t key j=false)) (J:=(fun k _=>[pt b11 (.cells #[.int .i64 (-1),.int .i64 (dL (h / 128) n T.cells k),.bool (eG (h / 128) n T.cells k),.int .i64 ((k:Nat):Int)] 224 (0,0)),pt b3 (.cells #[.pointer (some ⟨pa,0,none⟩),.int .i64 l.key,.int .i64 l.elem,.int .i64 l.ka,.int .i64 l.ea,.int .i64 l.cap,.int .i64 l.eo,.int .i64 l.bo,.int .i64 l.slot,.int .i64 l.group,.int .i64 (off:Nat)] 39 (0,0)),pt b9 (.cells #[.int .i64 T.used,.int .i64 (8*(n:Int)),.int .i64 T.left,.int .i64 T.depth,.int .i64 T.pins,.int .i64 T.next,.bool (decide (T.kind=4)),.int .i64 (go:Nat)] 147 (0,0)),pt b5 (.cells #[.string key] 9 (0,0)),pt b4 (.cells #[.int .u64 h] 27 (0,0)),G,ae pa s])) (q:=(fun k (y:Code×Fnd)=>y.1=.exit 0∧br (h / 128) n T.cells t key=y.2)) (Jx:=(fun k y=>[pt b11 (.cells #[.int .i64 y.2.slot,.int .i64 y.2.vac,.bool y.2.emp,.int .i64 y.2.probes] 224 (0,0)),pt b9 (.cells #[.int .i64 T.used,.int .i64 (8*(n:Int)),.int .i64 T.left,.int .i64 T.depth,.int .i64 T.pins,.int .i64 T.next,.bool (decide (T.kind=4)),.int .i64 (go:Nat)] 147 (0,0)),G,ae pa s])) (x0:=()) (hc:=xp _ _ (h / 128) ⟨by omega,by omega⟩ he hn) (hr:=rfl) (hg:=rfl)
 ·exact pk
 ·(intro j hj;omega)
 ·(try dsimp only);(try simp only[Int.natCast_zero,Nat.sub_zero]);exact pk
 ·rfl
 ·(intro x hx;simp only[way,List.mem_map] at hx;obtain⟨_,_,rfl⟩:=hx;rfl)
 ·intro ll rc Fr' w1 k x jj hrd hpn hx hj
  obtain⟨hk',rfl⟩:=Bt hx
  rw[← wv hn0]
  have hgk:=oR (home:=h / 128) (k:=k) hn0
  have hgin:gk (h / 128) n k*gN l+gN l≤n*gN l:=by have:=Nat.mul_le_mul_right (gN l) (show gk (h / 128) n k+1≤n by omega);rw[Nat.add_mul] at this;omega
  have hgood:aN s ((go+gk (h / 128) n k*gN l:Nat):Int) l.group:=by rw[← hN.g];exact aN.sub hgg (by omega) (by omega) (by omega)
  have hG':=hT.body _ hgk
  have hok':∀ i,i < 8→(cD T.cells (gk (h / 128) n k) i).ok l:=fun i hi=>hT.okc _ (by omega)
  refine aR ?_
  refine aB<|dN rfl yZ3 rfl fun b12=>st rfl rfl rfl yS3 rfl ?_
  refine aj ?_
  apply mA
  ·exact tk
  ·assumption
  refine ax<|sr<|l_q rfl (aK rfl gm er) ?_
  refine l_q rfl (aK rfl me iE) ?_
  refine l_q rfl (qld rfl yA3) ?_
  refine lc1 rfl rfl rfl (tN pa off go (gk (h / 128) n k) n l hl T _ rfl (by omega)) ?_
  refine az rfl pR fun b13=>sta rfl rfl rfl cT rfl rfl ?_
  refine lz<|l_q rfl (aK rfl df cT) ?_
  refine lc1 rfl rfl rfl (wM pa (go+gk (h / 128) n k*gN l) s l (cD T.cells (gk (h / 128) n k)) hl hgood hG' hok') ?_
  refine mv rfl rfl<|l_q rfl (aa rfl ga) ?_
  refine l_q rfl (aa rfl ga) ?_
  refine asg rfl rfl<|asg rfl rfl<|lc<|ah<|sr<|mv rfl rfl<|l_q rfl (qi rfl rfl (aI ·))<|lc<|aA rfl (fun z2=>?_) fun z2=>?_
  ·exact absurd rfl z2
  refine al<|nz<|l_q rfl (qfa 3 rfl eB rfl rfl yS3)<|l_q rfl (qld rfl yA3) ?_
  refine l_q rfl (ba rfl rfl) ?_
  refine l_q rfl (qfa 3 rfl eB rfl rfl yS3)<|st rfl rfl rfl yS3 rfl ?_
  refine lc<|ah<|sr<|mv rfl rfl<|l_q rfl (qld rfl j4) ?_
  refine lc1 rfl rfl rfl (sg h hh t htt) ?_
  refine lc1 rfl rfl rfl (uk _ (kv hok') t ht128) ?_
  refine lcf rfl rfl rfl (Bg _) ?_
  rintro v L' ⟨b68,rfl,rfl⟩
  refine bF ?_
  refine lc<|ax ?_
  have hsel:∀ j (hj:j < (bz (sS (cD T.cells (gk (h / 128) n k)) t)).length),(bz (sS (cD T.cells (gk (h / 128) n k)) t))[j] < 8:=fun j hj=>(dn.1 (List.getElem_mem hj)).1
  apply y0 (p:=(fun i (_:Unit)=>∀ j (hj:j < (bz (sS (cD T.cells (gk (h / 128) n k)) t)).length),j < i→(cD T.cells (gk (h / 128) n k) (bz (sS (cD T.cells (gk (h / 128) n k)) t))[j]).keyS≠key)) (J:=(fun i _=>[pt b13 (.cells #[.pointer (some ⟨pa,0,none⟩),.int .i64 l.key,.int .i64 l.elem,.int .i64 l.ka,.int .i64 l.ea,.int .i64 l.cap,.int .i64 l.eo,.int .i64 l.bo,.int .i64 l.slot,.int .i64 l.group,.int .i64 ((go+gk (h / 128) n k*gN l:Nat):Int)] 182 (0,0)),pt b12 (.cells #[.int .i64 ((gk (h / 128) n k:Nat):Int)] 3 (0,0)),pt b5 (.cells #[.string key] 9 (0,0)),pt b11 (.cells #[.int .i64 (-1),.int .i64 (dL (h / 128) n T.cells k),.bool (eG (h / 128) n T.cells k),.int .i64 (((k:Nat):Int)+1)] 224 (0,0)),ae pa s])) (q:=(fun i (y:Code×Unit)=>y.1=.exit 0∧dW (h / 128) n T.cells t key k < 8)) (Jx:=(fun i y=>[pt b11 (.cells #[.int .i64 (8*((gk (h / 128) n k:Nat):Int)+((dW (h / 128) n T.cells t key k:Nat):Int)),.int .i64 (dL (h / 128) n T.cells k),.bool (eG (h / 128) n T.cells k),.int .i64 (((k:Nat):Int)+1)] 224 (0,0)),ae pa s])) (x0:=()) (hc:=Bh G hG b68 _) (hr:=rfl) (hg:=rfl)
  ·exact tk
  ·exact pk
  ·(intro j hj;omega)
  ·(try dsimp only);(try simp only[Int.natCast_zero,Nat.sub_zero]);exact pk
  ·rfl
  ·(intro x hx;simp only[hX,List.mem_map] at hx;obtain⟨_,_,rfl⟩:=hx;rfl)
  ·intro ll2 rc2 Fr2 w2 i x2 jj2 hrd2 hpn2 hx2 hj2
   obtain⟨hi2,rfl⟩:=ot hx2
   have hs8:=hsel i hi2
   refine aR ?_
   refine aB<|asg rfl rfl<|aj ?_
   apply mA
   ·exact tk
   ·assumption
   refine ax<|sr<|l_q rfl (aK rfl df cT) ?_
   refine mv rfl rfl<|lc1 rfl rfl rfl (sv pa (go+gk (h / 128) n k*gN l) s l (cD T.cells (gk (h / 128) n k)) hl hgood hG' hok' _ hs8) ?_
   refine mv rfl rfl<|l_q rfl (aa rfl ga) ?_
   refine l_q rfl (aa rfl ga) ?_
   refine az rfl cK fun b17=>sta rfl rfl rfl bx rfl rfl ?_
   refine asg rfl rfl<|lz<|l_q rfl (qfa 2 rfl cQ rfl rfl yS9)<|l_q rfl (qld rfl yA9) ?_
   refine l_q rfl (qld rfl yA9) ?_
   refine l_q rfl (qs rfl rfl (l8 ·))<|lc<|aA rfl (fun q=>?_) fun q=>?_
   ·have hfi:dW (h / 128) n T.cells t key k=(bz (sS (cD T.cells (gk (h / 128) n k)) t))[i]:=Ab hok' ht128 hi2 hj2 q
    rw[show(bz fun i=>ctF (cD T.cells (gk (h / 128) n k)) i == t)[i]=dW (h / 128) n T.cells t key k from hfi.symm]
    refine sr<|l_q rfl (qld rfl yA3) ?_
    refine l_q rfl (dF rfl rfl) ?_
    refine mv rfl rfl<|l_q rfl (ba rfl rfl) ?_
    refine l_q rfl (qfa 0 rfl eB rfl rfl yS3)<|st rfl rfl rfl yS3 rfl ?_
    refine lc<|xe rfl ?_
    apply lV (.inr ⟨_,rfl,rfl⟩) (()) (⟨rfl,by rw[hfi];exact hs8⟩)
    exact en
   refine al<|aV ?_
   apply lU (by assumption) (by assumption) (()) (fun j hj' hji=>by by_cases e1:j=i;(subst e1;exact q);exact hj2 j hj' (by omega))
   exact en
  ·intro jj2 hj2
   rw[oq] at hj2
   have hnh:¬ dW (h / 128) n T.cells t key k < 8:=by have:=tJ hok' ht128 (key:=key) (fun j hj=>hj2 j hj hj);unfold dW;omega
   refine nQ ?_
   refine aV<|ak<|ah<|sr<|mv rfl rfl<|lc1 rfl rfl rfl (ra hok') ?_
   refine lc1 rfl rfl rfl (ju G hG (eD (cD T.cells (gk (h / 128) n k)))) ?_
   refine asg rfl rfl<|lz<|mv rfl rfl<|l_q rfl (qi rfl rfl (aU ·))<|mv rfl rfl<|bD (t:=90) rfl (fun p1=>?_) fun p1=>?_
   ·refine au rfl rfl<|l_q rfl (qfa 1 rfl eB rfl rfl yS3)<|au rfl rfl<|l_q rfl (qld rfl yA3) ?_
    refine au rfl rfl<|l_q rfl (qi rfl rfl (aU ·))<|l_q rfl (aL rfl rfl)<|lc<|aA rfl (fun p2=>?_) fun p2=>?_
    ·refine sr<|l_q rfl (qld rfl yA3) ?_
     refine l_q rfl (dF rfl rfl) ?_
     refine mv rfl rfl<|l_q rfl (ba rfl rfl) ?_
     refine l_q rfl (qfa 1 rfl eB rfl rfl yS3)<|st rfl rfl rfl yS3 rfl ?_
     refine lr<|mv rfl rfl ?_
     have hvt:=yQ (home:=h / 128) (n:=n) (cells:=T.cells) (k:=k) p2 (by unfold cM;omega)
     have hva:dL (h / 128) n T.cells (k+1)=8*((gk (h / 128) n k:Nat):Int)+((bA (eD (cD T.cells (gk (h / 128) n k))):Nat):Int):=hvt.1
     have hvb:eG (h / 128) n T.cells (k+1)=fY (cD T.cells (gk (h / 128) n k)) (bA (eD (cD T.cells (gk (h / 128) n k)))):=hvt.2
     refine lc1 rfl rfl rfl (ln hok') ?_
     refine mv rfl rfl<|lc1 rfl rfl rfl (A7 (fY (cD T.cells (gk (h / 128) n k))) (bA (eD (cD T.cells (gk (h / 128) n k)))) (by omega)) ?_
     refine l_q rfl (qfa 2 rfl eB rfl rfl yS4)<|st rfl rfl rfl yS4 rfl ?_
     refine lz<|mv rfl rfl<|lc1 rfl rfl rfl (ln hok') ?_
     refine lc1 rfl rfl rfl (ju G hG (fY (cD T.cells (gk (h / 128) n k)))) ?_
     refine l_q rfl (qi rfl rfl (aU ·))<|lc ?_
     rw[← hva,← hvb]
     refine aA rfl (fun em=>?_) fun em=>?_
     ·refine xe rfl ?_
      apply lV (.inr ⟨_,rfl,rfl⟩) (⟨-1,dL (h / 128) n T.cells (k+1),eG (h / 128) n T.cells (k+1),(k:Int)+1⟩) (⟨rfl,ie hk' hj hnh (by unfold eC;omega)⟩)
      exact en
     refine al<|aV ?_
     apply lU (by assumption) (by assumption) (()) (fun i hi=>by by_cases q:i=k;(subst q;unfold dP;simp[hnh];show 8≤bA _;omega);exact hj i (by omega))
     exact en
    refine al<|nz<|mv rfl rfl ?_
    obtain⟨hva,hvb⟩:=sJ (home:=h / 128) (n:=n) (cells:=T.cells) (k:=k) (.inl p2)
    refine lc1 rfl rfl rfl (ln hok') ?_
    refine lc1 rfl rfl rfl (ju G hG (fY (cD T.cells (gk (h / 128) n k)))) ?_
    refine l_q rfl (qi rfl rfl (aU ·))<|lc ?_
    rw[← hva,← hvb]
    refine aA rfl (fun em=>?_) fun em=>?_
    ·refine xe rfl ?_
     apply lV (.inr ⟨_,rfl,rfl⟩) (⟨-1,dL (h / 128) n T.cells (k+1),eG (h / 128) n T.cells (k+1),(k:Int)+1⟩) (⟨rfl,ie hk' hj hnh (by unfold eC;omega)⟩)
     exact en
    refine al<|aV ?_
    apply lU (by assumption) (by assumption) (()) (fun i hi=>by by_cases q:i=k;(subst q;unfold dP;simp[hnh];show 8≤bA _;omega);exact hj i (by omega))
    exact en
   refine ar rfl rfl rfl rfl<|ar rfl rfl rfl rfl<|ar rfl rfl rfl rfl<|l_q rfl (aL rfl rfl)<|lc<|bR rfl<|al<|nz<|mv rfl rfl ?_
   obtain⟨hva,hvb⟩:=sJ (home:=h / 128) (n:=n) (cells:=T.cells) (k:=k) (.inr (by unfold cM;omega))
   refine lc1 rfl rfl rfl (ln hok') ?_
   refine lc1 rfl rfl rfl (ju G hG (fY (cD T.cells (gk (h / 128) n k)))) ?_
   refine l_q rfl (qi rfl rfl (aU ·))<|lc ?_
   rw[← hva,← hvb]
   refine aA rfl (fun em=>?_) fun em=>?_
   ·refine xe rfl ?_
    apply lV (.inr ⟨_,rfl,rfl⟩) (⟨-1,dL (h / 128) n T.cells (k+1),eG (h / 128) n T.cells (k+1),(k:Int)+1⟩) (⟨rfl,ie hk' hj hnh (by unfold eC;omega)⟩)
    exact en
   refine al<|aV ?_
   apply lU (by assumption) (by assumption) (()) (fun i hi=>by by_cases q:i=k;(subst q;unfold dP;simp[hnh];show 8≤bA _;omega);exact hj i (by omega))
   exact en
  rintro i ⟨jc,yy⟩ hi2 ⟨rfl,hhit⟩
  refine aR ?_
  refine xe rfl ?_
  apply lV (.inr ⟨_,rfl,rfl⟩) (⟨8*((gk (h / 128) n k:Nat):Int)+((dW (h / 128) n T.cells t key k:Nat):Int),dL (h / 128) n T.cells k,eG (h / 128) n T.cells k,(k:Int)+1⟩) (⟨rfl,lS hk' hj hhit⟩)
  exact en
 ·intro b jj hj
  rw[lN] at hj ⊢
  have hsr:=kf (home:=h / 128) (n:=n) (cells:=T.cells) (tag:=t) (key:=key) hj
  refine nQ ?_
  refine aV<|ak<|ah<|aS mixed ?_
  apply dq 0 rfl
  ·exact yq (aK rfl me iE)
  apply dq 1 rfl
  ·exact yq (aK rfl pV lA)
  refine an [0] [1] 2 [(6,_),(109,_)] gO ⟨rfl,rfl,trivial⟩ (by kernel_rfl) (by kernel_rfl) fun Ex=>?_
  refine sta rfl rfl rfl iE rfl rfl ?_
  refine aj ?_
  apply n_d
  ·refine⟨?_,trivial⟩
   apply ya rfl rfl;exact yq (aK rfl pV lA)
  refine an [1] [] 3 [(7,_),(110,_)] gO ⟨rfl,rfl,trivial⟩ (by kernel_rfl) (by kernel_rfl) fun Ex=>?_
  refine sta rfl rfl rfl lA rfl rfl ?_
  refine aj ?_
  apply n_d
  ·exact trivial
  refine an [] [] 4 [(8,_)] gO ⟨rfl,trivial⟩ (by kernel_rfl) (by kernel_rfl) fun Ex=>?_
  refine st rfl rfl rfl jT rfl ?_
  refine aj ?_
  apply n_d
  ·exact trivial
  refine bd (by kernel_rfl) ?_
  refine ak<|rt ?_
  rw[hsr]
  apply kG (.inl rfl) [b] ([G,ae pa s])
  ·repeat (first | with_reducible exact eX.nil | apply eX.cons | with_reducible exact Take.here | apply Take.there)
  ·apply lT rfl
   ·apply Rv.agg rfl
    ·exact tk
    exact aD me iE rfl
   ·apply Rv.agg rfl
    ·exact tk
    exact aD pV lA rfl
   apply Rv.cellL rfl
   ·exact tk
   ·exact ga
   exact pH
  ·exact⟨rfl,rfl⟩
  exact en
 rintro b k ⟨jc,F⟩ hk2 ⟨rfl,hsr⟩
 refine aR ?_
 refine xt rfl<|ak<|ah<|aS mixed ?_
 apply dq 0 rfl
 ·exact yq (aK rfl me iE)
 apply dq 1 rfl
 ·exact yq (aK rfl pV lA)
 refine an [0] [1] 2 [(6,_),(109,_)] gO ⟨rfl,rfl,trivial⟩ (by kernel_rfl) (by kernel_rfl) fun Ex=>?_
 refine sta rfl rfl rfl iE rfl rfl ?_
 refine aj ?_
 apply n_d
 ·refine⟨?_,trivial⟩
  apply ya rfl rfl;exact yq (aK rfl pV lA)
 refine an [1] [] 3 [(7,_),(110,_)] gO ⟨rfl,rfl,trivial⟩ (by kernel_rfl) (by kernel_rfl) fun Ex=>?_
 refine sta rfl rfl rfl lA rfl rfl ?_
 refine aj ?_
 apply n_d
 ·exact trivial
 refine an [] [] 4 [(8,_)] gO ⟨rfl,trivial⟩ (by kernel_rfl) (by kernel_rfl) fun Ex=>?_
 refine st rfl rfl rfl jT rfl ?_
 refine aj ?_
 apply n_d
 ·exact trivial
 refine bd (by kernel_rfl) ?_
 refine ak<|rt ?_
 rw[hsr]
 apply kG (.inl rfl) [b] ([G,ae pa s])
 ·repeat (first | with_reducible exact eX.nil | apply eX.cons | with_reducible exact Take.here | apply Take.there)
 ·apply lT rfl
  ·apply Rv.agg rfl
   ·exact tk
   exact aD me iE rfl
  ·apply Rv.agg rfl
   ·exact tk
   exact aD pV lA rfl
  apply Rv.cellL rfl
  ·exact tk
  ·exact ga
  exact pH
 ·exact⟨rfl,rfl⟩
 exact en
end Table
end Go.Proofs.YthkajgkagnenbaaGreatDoor
