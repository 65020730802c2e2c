/- The contracts of package table: one table of groups. -/
import Derived.Test.YthkajgkagnenbaaGreatDoorGroup
set_option linter.unusedVariables false
set_option linter.unusedSimpArgs false
set_option linter.unusedSectionVars false
set_option maxRecDepth 100000
namespace Go.Proofs.YthkajgkagnenbaaGreatDoor
namespace Table
open Go.RowKit Go.Proofs Eng Ty Bits Mem Search Arena CtrlB Ctrl Layout GroupB Group Probe TableB TableI
def HOk (T:Tb) (n go:Nat):Prop:=∀ k,k < 8→-9223372036854775808≤dQ T n go k∧dQ T n go k≤9223372036854775807
theorem pW {v:Int} (h:-9223372036854775808≤v∧v≤9223372036854775807):IntKind.i64.wrap (IntKind.u64.wrap v)=v:=by
 rw[IntKind.wrap_u64,IntKind.wrap_i64];omega
def wl (T:Tb) (n go k:Nat):List Value:=(List.range 8).map fun j=>if j < k then .int .i64 (dQ T n go j) else .int .i64 0
theorem Dd (T:Tb) (n go k:Nat) (hk:k < 8):(wl T n go k).set k (.int .i64 (dQ T n go k))=wl T n go (k+1):=by
 apply List.ext_getElem?
 intro i
 rw[List.getElem?_set]
 simp only[wl,List.length_map,List.length_range,List.getElem?_map]
 by_cases h:i < 8
 ·rw[List.getElem?_range h]
  by_cases q:k=i
  ·subst q;simp[h]
  rw[if_neg q]
  simp only[Option.map_some,Option.some.injEq]
  by_cases q2:i < k
  ·rw[if_pos q2,if_pos (by omega)]
  rw[if_neg q2,if_neg (by omega)]
 rw[List.getElem?_eq_none (by simpa using h)]
 simp;intro e;omega
theorem De (T:Tb) (n go k:Nat):(wl T n go k).length=8:=by simp[wl]
theorem Ci (pa off go n:Nat) (s:ArS) (l:Lay) (T:Tb) (hg:aN s off 64) (hh:∀ k,k < 8→cX s.m (off+8*k) 8=IntKind.u64.wrap (dQ T n go k)) (hr:HOk T n go):
  aG Tryz.prog 65 #[.agg #[.pointer (some ⟨pa,0,none⟩),.int .i64 l.key,.int .i64 l.elem,.int .i64 l.ka,.int .i64 l.ea,.int .i64 l.cap,.int .i64 l.eo,.int .i64 l.bo,.int .i64 l.slot,.int .i64 l.group,.int .i64 (off:Nat)]] [ae pa s] (fun v L=>v=.tuple #[.agg #[.int .i64 T.used,.int .i64 (8*(n:Int)),.int .i64 T.left,.int .i64 T.depth,.int .i64 T.pins,.int .i64 T.next,.bool (decide (T.kind=4)),.int .i64 (go:Nat)],.int .i64 0]∧L= [ae pa s]):=by
 refine aq Hr Tryz.func65 rfl rfl rfl fun Fr w0=>aR ?_
 refine cH (φ:=s.ok) (fun w hw=>bR hw .here) fun hok0=>?_
 have hge:=aN.end_le hok0 hg
 have hst0:=hok0.stop_eq
 refine sr<|aP rfl rfl fun b1=>az rfl sj fun b2=>asg rfl rfl<|lz<|az rfl D6 fun b4=>lc<|ah<|sr<|mv rfl rfl<|lc<|ay ?_
 refine bw (fun k:Nat=>k≤8) (fun k=>[(1,.pointer (some ⟨b1,0,none⟩)),(2,.pointer (some ⟨b2,0,none⟩)),(4,.pointer (some ⟨b4,0,none⟩)),(8,.int .i64 k)]) (fun k=>pt b4 (.cells (wl T n go k).toArray 243 (0,0))::pt b1 (.cells #[.pointer (some ⟨pa,0,none⟩),.int .i64 l.key,.int .i64 l.elem,.int .i64 l.ka,.int .i64 l.ea,.int .i64 l.cap,.int .i64 l.eo,.int .i64 l.bo,.int .i64 l.slot,.int .i64 l.group,.int .i64 (off:Nat)] 39 (0,0))::pt b2 (.cells #[.int .i64 0,.int .i64 0,.int .i64 0,.int .i64 0,.int .i64 0,.int .i64 0,.bool false,.int .i64 0] 147 (0,0))::ae pa s::Fr) (fun k=>8-k) 0 (by omega) ⟨rfl,rfl,rfl,rfl,trivial⟩ (by first | exact Ent.refl _ | (rw[show wl T n go 0= [.int .i64 0,.int .i64 0,.int .i64 0,.int .i64 0,.int .i64 0,.int .i64 0,.int .i64 0,.int .i64 0] from rfl];(exact en))) ?_
 intro k hk8
 refine sr<|l_q rfl (qi rfl rfl (aS ·))<|lc<|ah<|aA rfl (fun h=>?_) fun h=>?_
 ·have hk:k < 8:=by omega
  refine al<|ak<|ah<|ay<|sr<|mv rfl rfl<|asg rfl rfl<|lz<|l_q rfl (qfa 0 rfl pD rfl rfl dk)<|l_q rfl (qld rfl dm) ?_
  refine l_q rfl (qfa 10 rfl pD rfl rfl yS3)<|l_q rfl (qld rfl yA3) ?_
  refine mv rfl rfl<|l_q rfl (dD rfl rfl) ?_
  refine l_q rfl (ba rfl rfl) ?_
  refine lc1 rfl rfl rfl (gE pa s _ 8 (off+8*k) 8 (by omega) rfl (by unfold wid;omega) (aN.sub (off':=(off:Int)+8*(k:Int)) hg (by omega) (by omega) (by omega))) ?_
  refine mv rfl rfl<|l_q rfl (aa rfl ga) ?_
  refine l_q rfl (aa rfl ga) ?_
  refine asg rfl rfl<|asg rfl rfl<|lc<|ah<|sr<|mv rfl rfl<|l_q rfl (qi rfl rfl (aI ·))<|lc<|aA rfl (fun z=>?_) fun z=>?_
  ·exact absurd rfl z
  refine al<|ak<|aB<|mv rfl rfl<|mv rfl rfl<|l_q rfl (qcv rfl fB yU3) ?_
  refine l_q rfl (bk rfl rfl lZ yS3 (by omega)) ?_
  apply iH rfl rfl rfl yS3 rfl
  ·exact tk
  ·rw[Nat.zero_add,Int.toNat_natCast,Nat.mul_one];exact Nat.ble_eq_true_of_le (by simp[De];omega)
  ·rw[Nat.zero_add,Int.toNat_natCast,Nat.mul_one,hh k hk,pW (hr k hk),List.setIfInBounds_toArray,Dd T n go k hk]
  refine aj<|aV<|ak<|aB<|l_q rfl (ba rfl rfl) ?_
  refine mv rfl rfl<|aj ?_
  apply aO ((k+1))
  ·exact(show k+1≤8 by omega)
  ·omega
  ·exact⟨rfl,rfl,rfl,rfl,trivial⟩
  exact en
 obtain rfl:k=8:=by omega
 refine fG (L':=pt b4 (.cells #[.int .i64 T.kind,.int .i64 T.pins,.int .i64 T.next,.int .i64 T.used,.int .i64 (8*(n:Int)),.int .i64 T.left,.int .i64 T.depth,.int .i64 (go:Nat)] 243 (0,0))::pt b2 (.cells #[.int .i64 0,.int .i64 0,.int .i64 0,.int .i64 0,.int .i64 0,.int .i64 0,.bool false,.int .i64 0] 147 (0,0))::ae pa s::Fr) ?_ ?_
 ·rw[show wl T n go 8= [.int .i64 T.kind,.int .i64 T.pins,.int .i64 T.next,.int .i64 T.used,.int .i64 (8*(n:Int)),.int .i64 T.left,.int .i64 T.depth,.int .i64 ((go:Nat):Int)] from rfl]
  (exact en)
 refine xt rfl<|nz<|l_q rfl (bk rfl rfl lZ yS3 (by omega)) ?_
 refine l_q rfl (qld rfl yA3) ?_
 refine l_q rfl (bk rfl rfl lZ yS3 (by omega)) ?_
 refine l_q rfl (qld rfl yA3) ?_
 refine l_q rfl (bk rfl rfl lZ yS3 (by omega)) ?_
 refine l_q rfl (qld rfl yA3) ?_
 refine l_q rfl (bk rfl rfl lZ yS3 (by omega)) ?_
 refine l_q rfl (qld rfl yA3) ?_
 refine l_q rfl (bk rfl rfl lZ yS3 (by omega)) ?_
 refine l_q rfl (qld rfl yA3) ?_
 refine l_q rfl (bk rfl rfl lZ yS3 (by omega)) ?_
 refine l_q rfl (qld rfl yA3) ?_
 refine l_q rfl (bk rfl rfl lZ yS3 (by omega)) ?_
 refine l_q rfl (qld rfl yA3) ?_
 refine l_q rfl (qi rfl rfl (aW ·))<|l_q rfl (bk rfl rfl lZ yS3 (by omega)) ?_
 refine l_q rfl (qld rfl yA3) ?_
 apply l_q rfl
 ·apply aQ rfl En sj
  apply aF.one
  ·repeat (first | exact aH.here | apply aH.there)
  ·rfl
  ·exact sa
  apply aF.one
  ·repeat (first | exact aH.here | apply aH.there)
  ·rfl
  ·exact sa
  apply aF.one
  ·repeat (first | exact aH.here | apply aH.there)
  ·rfl
  ·exact sa
  apply aF.one
  ·repeat (first | exact aH.here | apply aH.there)
  ·rfl
  ·exact sa
  apply aF.one
  ·repeat (first | exact aH.here | apply aH.there)
  ·rfl
  ·exact sa
  apply aF.one
  ·repeat (first | exact aH.here | apply aH.there)
  ·rfl
  ·exact sa
  apply aF.one
  ·repeat (first | exact aH.here | apply aH.there)
  ·rfl
  ·exact sa
  apply aF.one
  ·repeat (first | exact aH.here | apply aH.there)
  ·rfl
  ·exact sa
  exact aF.nil
 refine sta rfl rfl rfl iD rfl rfl ?_
 refine asg rfl rfl<|lc<|rt ?_
 apply aJ (.inl rfl) ([ae pa s])
 ·apply bT rfl
  ·apply Rv.agg rfl
   ·exact tk
   exact aD l5 iD rfl
  exact .tmp rfl
 ·exact⟨rfl,rfl⟩
 exact en
theorem tI (pa off go g n:Nat) (l:Lay) (hl:l.err=0) (T:Tb) (i:Int) (hi:i=(g:Nat)) (hb:go+g*gN l≤1000000000):
  aG Tryz.prog 136 #[.agg #[.pointer (some ⟨pa,0,none⟩),.int .i64 l.key,.int .i64 l.elem,.int .i64 l.ka,.int .i64 l.ea,.int .i64 l.cap,.int .i64 l.eo,.int .i64 l.bo,.int .i64 l.slot,.int .i64 l.group,.int .i64 (off:Nat)],.agg #[.int .i64 T.used,.int .i64 (8*(n:Int)),.int .i64 T.left,.int .i64 T.depth,.int .i64 T.pins,.int .i64 T.next,.bool (decide (T.kind=4)),.int .i64 (go:Nat)],.int .i64 i] [] (fun v L=>v=.agg #[.pointer (some ⟨pa,0,none⟩),.int .i64 l.key,.int .i64 l.elem,.int .i64 l.ka,.int .i64 l.ea,.int .i64 l.cap,.int .i64 l.eo,.int .i64 l.bo,.int .i64 l.slot,.int .i64 l.group,.int .i64 ((go+g*gN l:Nat):Int)]∧L= []):=by
 have hN:=eP hl
 have hng:=hN.g
 have hm:i*l.group=((g*gN l:Nat):Int):=by rw[hi,Int.natCast_mul,hng]
 refine aq Gn Tryz.func136 rfl rfl rfl fun Fr w0=>aR ?_
 refine sr<|aP rfl rfl fun b3=>aP rfl rfl fun b4=>az rfl pQ fun b6=>lz<|l_q rfl (qfa 0 rfl pD rfl rfl dk)<|l_q rfl (qld rfl dm) ?_
 refine l_q rfl (qfa 1 rfl pD rfl rfl aZ)<|l_q rfl (aK rfl cu aZ) ?_
 refine l_q rfl (qfa 7 rfl nt rfl rfl yS3)<|l_q rfl (qld rfl yA3) ?_
 refine mv rfl rfl<|l_q rfl (qfa 1 rfl pD rfl rfl aZ)<|l_q rfl (qfa 8 rfl bJ rfl rfl yS3)<|l_q rfl (qld rfl yA3) ?_
 refine l_q rfl (dD rfl rfl) ?_
 refine l_q rfl (ba rfl rfl) ?_
 rw[hm,← Int.natCast_add]
 refine lc1 rfl rfl rfl (At_ok pa (go+g*gN l) l) ?_
 refine sta rfl rfl rfl cS rfl rfl ?_
 refine lc<|rt ?_
 apply aJ (.inl rfl) ([])
 ·apply cM rfl
  apply Rv.agg rfl
  ·exact tk
  exact aD db cS rfl
 ·exact⟨rfl,rfl⟩
 exact en
theorem j7 (pa off k:Nat) (s:ArS) (l:Lay) (at_:Int) (v:Int) (hat:at_=((8*k:Nat):Int)) (hk:k < 8) (hg:aN s off 64):
  aG Tryz.prog 133 #[.agg #[.pointer (some ⟨pa,0,none⟩),.int .i64 l.key,.int .i64 l.elem,.int .i64 l.ka,.int .i64 l.ea,.int .i64 l.cap,.int .i64 l.eo,.int .i64 l.bo,.int .i64 l.slot,.int .i64 l.group,.int .i64 (off:Nat)],.int .i64 at_,.int .i64 v] [ae pa s] (fun r L=>L= [ae pa (s.put (off+8*k) 8 (bG (IntKind.u64.wrap v)))]):=by
 subst hat
 refine aq Gr Tryz.func133 rfl rfl rfl fun Fr w0=>aR ?_
 refine cH (φ:=s.ok) (fun w hw=>bR hw .here) fun hok0=>?_
 have hge:=aN.end_le hok0 hg
 have hst0:=hok0.stop_eq
 have hw:∀ x,0≤IntKind.u64.wrap x∧IntKind.u64.wrap x < 18446744073709551616:=fun x=>by rw[IntKind.wrap_u64];omega
 have hc:∀ w,(convert 3 27 (.int .i64 v)).run Tryz.prog w=.ok (.int .u64 (IntKind.u64.wrap v)) w:=fun w=>Ao w Tryz.underlying3 Tryz.underlying27
 refine sr<|aP rfl rfl fun b3=>lr<|l_q rfl (qfa 0 rfl pD rfl rfl dk)<|l_q rfl (qld rfl dm) ?_
 refine l_q rfl (qfa 10 rfl pD rfl rfl yS3)<|l_q rfl (qld rfl yA3) ?_
 refine mv rfl rfl<|l_q rfl (ba rfl rfl) ?_
 refine mv rfl rfl<|l_q rfl (uJ rfl hc) ?_
 refine lcf rfl rfl rfl (la pa s _ 8 (off+8*k) 8 (IntKind.u64.wrap v) (by omega) rfl (hw v) (by unfold wid;omega) (aN.sub (off':=(off:Int)+((8*k:Nat):Int)) hg (by omega) (by omega) (by omega))) ?_
 rintro v' L' ⟨rfl,rfl⟩
 refine bF ?_
 refine aj ?_
 apply aJ (.inr rfl) ([ae pa (s.put (off+8*k) 8 (bG (IntKind.u64.wrap v)))])
 ·exact pK rfl
 ·exact rfl
 exact en
def sS (cs:Nat→Cell) (t:Nat):Nat→Bool:=fun i=>ctF cs i == t
section
variable {l:Lay} {cs:Nat→Cell} (hok:∀ i,i < 8→(cs i).ok l)
include hok
theorem mc {t:Nat} (ht:t < 128) {i:Nat} (hi:i < 8):sS cs t i=true↔∃ k e b,cs i=.full (t:Int) k e b:=by
 have h1:=gS hok hi
 unfold sS
 rw[beq_iff_eq]
 cases hc:cs i with
 | empty=>rw[hc] at h1;simp only[Cell.ctrl] at h1;constructor;omega;rintro⟨_,_,_,q⟩;cases q
 | deleted=>rw[hc] at h1;simp only[Cell.ctrl] at h1;constructor;omega;rintro⟨_,_,_,q⟩;cases q
 | full t' k e b=>
  rw[hc] at h1;simp only[Cell.ctrl] at h1
  constructor
  ·intro q;exact⟨k,e,b,by congr 1;omega⟩
  rintro⟨_,_,_,q⟩;cases q;omega
theorem DL {i:Nat} (hi:i < 8):(ctF cs i == 128)=fX cs i:=by
 have h1:=gS hok hi
 have h2:=hok i hi
 rw[Bool.eq_iff_iff,beq_iff_eq]
 unfold fX
 cases hc:cs i with
 | empty=>rw[hc] at h1;simp only[Cell.ctrl] at h1;simp;omega
 | deleted=>rw[hc] at h1;simp only[Cell.ctrl] at h1;simp;omega
 | full t' k e b=>rw[hc] at h1 h2;simp only[Cell.ctrl] at h1;obtain⟨h3,h4,_⟩:=h2;simp;omega
theorem Dh {i:Nat} (hi:i < 8):(ctF cs i == 128 || ctF cs i == 254)=eA cs i:=by
 have h1:=gS hok hi
 have h2:=hok i hi
 rw[Bool.eq_iff_iff,Bool.or_eq_true,beq_iff_eq,beq_iff_eq]
 unfold eA
 cases hc:cs i with
 | empty=>rw[hc] at h1;simp only[Cell.ctrl] at h1;simp;omega
 | deleted=>rw[hc] at h1;simp only[Cell.ctrl] at h1;simp;omega
 | full t' k e b=>rw[hc] at h1 h2;simp only[Cell.ctrl] at h1;obtain⟨h3,h4,_⟩:=h2;simp;omega
theorem ld:aG Tryz.prog 161 #[.int .u64 (wI (ctF cs))] [] (fun v L=>v=iN (fX cs)∧L= []):=
 (lD (ctF cs) (kr hok)).mono fun v L ⟨h1,h2⟩=>⟨by rw[h1];unfold iN;rw[ic fun i hi=>DL hok hi],h2⟩
theorem qY:aG Tryz.prog 174 #[.int .u64 (wI (ctF cs))] [] (fun v L=>v=iN (eA cs)∧L= []):=
 (pB (ctF cs) (kr hok)).mono fun v L ⟨h1,h2⟩=>⟨by rw[h1];unfold iN;rw[ic fun i hi=>Dh hok hi],h2⟩
theorem tE {t:Nat} (ht:t < 128) {key:ByteArray} (h:∀ j (hj:j < (bA (sS cs t)).length),(cs (bA (sS cs t))[j]).keyS≠key):bB (fa cs t key)=8:=by
 rw[gC]
 intro i hi
 cases q:fa cs t key i with
 | false=>rfl
 | true=>
  exfalso
  obtain⟨e,b,hc⟩:=hit_cell q
  have hm:i∈bA (sS cs t):=dp.2 ⟨hi,(mc hok ht hi).2 ⟨_,_,_,hc⟩⟩
  obtain⟨j,hj,e2⟩:=List.getElem_of_mem hm
  exact h j hj (by rw[e2,hc];rfl)
theorem zT {t:Nat} (ht:t < 128) {key:ByteArray} {j:Nat} (hj:j < (bA (sS cs t)).length) (hno:∀ j' (hj':j' < (bA (sS cs t)).length),j' < j→(cs (bA (sS cs t))[j']).keyS≠key) (hk:(cs (bA (sS cs t))[j]).keyS=key):
  bB (fa cs t key)=(bA (sS cs t))[j]:=by
 have hm:=dp.1 (List.getElem_mem hj)
 obtain⟨k,e,b,hc⟩:=(mc hok ht hm.1).1 hm.2
 refine ji hm.1 (DD (e:=e) (b:=b) ?_) fun i hi=>?_
 ·rw[hc] at hk ⊢;simp only[Cell.keyS] at hk;rw[hk]
 cases q:fa cs t key i with
 | false=>rfl
 | true=>
  exfalso
  obtain⟨e,b,hc⟩:=hit_cell q
  have hi8:i < 8:=by omega
  have hm2:i∈bA (sS cs t):=dp.2 ⟨hi8,(mc hok ht hi8).2 ⟨_,_,_,hc⟩⟩
  obtain⟨j',hj',e2⟩:=List.getElem_of_mem hm2
  refine hno j' hj' ?_ (by rw[e2,hc];rfl)
  rcases Nat.lt_trichotomy j' j with q2 | q2 | q2
  ·exact q2
  ·subst q2;omega
  have hp:(bA (sS cs t)).Pairwise (· < ·):=(List.pairwise_lt_range (n:=8)).filter _
  have:=List.pairwise_iff_getElem.1 hp j j' hj hj' q2
  omega
end
theorem oi {s:Nat→Bool} {j:Nat} {x:List Value} (h:(hX s)[j]?=some x):∃ hj:j < (bA s).length,x= [.int .i64 (((bA s)[j]:Nat):Int)]:=by
 simp only[hX,List.getElem?_map,Option.map_eq_some_iff] at h
 obtain⟨a,h1,h2⟩:=h
 obtain⟨hj,e⟩:=List.getElem?_eq_some_iff.1 h1
 exact⟨hj,by rw[← h2,e]⟩
theorem oh (s:Nat→Bool):(hX s).length=(bA s).length:=by simp[hX]
theorem CQ {n e:Nat} (he:e≤13) (hn:n=2 ^ e):grp (n:Int)=n:=by
 have:Probe.powB (n:Int) 1 8192=true:=(n9 _).2 ⟨e,he,by rw[hn,bW]⟩
 have:=(we this).1
 omega
theorem Cp (home:Int) {n e:Nat} (he:e≤13) (hn:n=2 ^ e):
  aG Tryz.prog 186 #[.int .u64 home,.int .i64 (n:Nat)] [] (fun v L=>∃ bh bg,v=.func (.func 224) #[] #[.pointer (some ⟨bh,0,none⟩),.pointer (some ⟨bg,0,none⟩)]∧
   L= [pt bh (.cells #[.int .u64 home] 27 (0,0)),pt bg (.cells #[.int .i64 (n:Nat)] 3 (0,0))]):=
 (AW home n).mono fun v L ⟨bh,bg,h1,h2⟩=>⟨bh,bg,h1,by rw[h2,CQ he hn]⟩
theorem xi (bh bg:Nat) (home:Int) (hh:0≤home∧home < 18446744073709551616) {n e:Nat} (he:e≤13) (hn:n=2 ^ e):
  iX Tryz.prog 224 #[.pointer (some ⟨bh,0,none⟩),.pointer (some ⟨bg,0,none⟩)] [pt bh (.cells #[.int .u64 home] 27 (0,0)),pt bg (.cells #[.int .i64 (n:Nat)] 3 (0,0))]
   (way home n) [pt bh (.cells #[.int .u64 home] 27 (0,0)),pt bg (.cells #[.int .i64 (n:Nat)] 3 (0,0))]:=by
 have:=zp bh bg home hh n
 rw[CQ he hn] at this
 exact this
theorem r6 (h:Int) (hh:0≤h∧h < 18446744073709551616) (t:Nat) (ht:h % 128=(t:Nat)):aG Tryz.prog 139 #[.int .u64 h] [] (fun v L=>v=.int .i64 (t:Nat)∧L= []):=
 (DU h hh).mono fun v L ⟨h1,h2⟩=>⟨by rw[h1,ht],h2⟩
set_option maxHeartbeats 1000000 in
theorem wW (G:HP) (hG:dx G) (pa off go n e:Nat) (s:ArS) (l:Lay) (T:Tb) (hl:l.err=0) (he:e≤13) (hn:n=2 ^ e) (hT:TAt s.m off go l n T) (hgh:aN s off 64) (hgg:aN s go ((n*gN l:Nat):Int)) (hr:HOk T n go)
  (h:Int) (hh:0≤h∧h < 18446744073709551616) (key:ByteArray) (hk:key.size=kN l):
  aG Tryz.prog 135 #[.agg #[.pointer (some ⟨pa,0,none⟩),.int .i64 l.key,.int .i64 l.elem,.int .i64 l.ka,.int .i64 l.ea,.int .i64 l.cap,.int .i64 l.eo,.int .i64 l.bo,.int .i64 l.slot,.int .i64 l.group,.int .i64 (off:Nat)],.int .u64 h,.string key] [G,ae pa s]
   (fun v L=>v=.tuple #[.agg #[.int .i64 T.used,.int .i64 (8*(n:Int)),.int .i64 T.left,.int .i64 T.depth,.int .i64 T.pins,.int .i64 T.next,.bool (decide (T.kind=4)),.int .i64 (go:Nat)],.agg #[.int .i64 (bt (h / 128) n T.cells (h % 128) key).slot,.int .i64 (bt (h / 128) n T.cells (h % 128) key).vac,.bool (bt (h / 128) n T.cells (h % 128) key).emp,.int .i64 (bt (h / 128) n T.cells (h % 128) key).probes],.int .i64 0]∧L= [G,ae pa s]):=by
 have hN:=eP hl
 have hks:(key.size:Int)=l.key:=by rw[hk];exact hN.k
 have hn0:0 < n:=by rw[hn];exact Nat.two_pow_pos e
 have hn8:n≤8192:=by rw[hn];exact(Nat.pow_le_pow_right (by decide:0 < 2) he:2 ^ e≤2 ^ 13)
 obtain⟨t,htt,ht128⟩:∃ t:Nat,h % 128=(t:Nat)∧t < 128:=⟨(h % 128).toNat,by omega,by omega⟩
 rw[htt]
 refine aq Gp Tryz.func135 rfl rfl rfl fun Fr w0=>aR ?_
 refine cH (φ:=s.ok) (fun w hw=>bR hw (.there .here)) fun hok0=>?_
 have hge:=aN.end_le hok0 hgh
 have hge2:=aN.end_le hok0 hgg
 have hst0:=hok0.stop_eq
 refine sr<|aP rfl rfl fun b3=>fJ rfl rfl rfl fun b4=>fJ rfl rfl rfl fun b5=>az rfl sj fun b6=>az rfl vC fun b7=>dL rfl mN rfl fun b8=>lc<|Bt<|sr<|l_q rfl (aK rfl gl ei) ?_
 refine lc1 rfl rfl rfl (Ci pa off go n s l T hgh hT.head hr) ?_
 refine mv rfl rfl<|l_q rfl (aa rfl ga) ?_
 refine l_q rfl (aa rfl ga) ?_
 refine az rfl sj fun b9=>sta rfl rfl rfl iD rfl rfl ?_
 refine asg rfl rfl<|lc<|ah<|sr<|mv rfl rfl<|l_q rfl (qi rfl rfl (aI ·))<|lc<|aA rfl (fun z=>?_) fun z=>?_
 ·exact absurd rfl z
 refine al<|ak<|ah<|sr<|l_q rfl (qld rfl yA9) ?_
 refine l_q rfl (qls rfl yU9)<|l_q rfl (qfa 1 rfl pD rfl rfl aZ)<|l_q rfl (qfa 0 rfl bJ rfl rfl yS3)<|l_q rfl (qld rfl yA3) ?_
 refine l_q rfl (qi rfl rfl (aI ·))<|lc<|aA rfl (fun y=>?_) fun y=>?_
 ·omega
 refine al<|nz ?_
 apply l_q rfl
 ·apply aQ rfl Ei vC
  apply aF.one
  ·repeat (first | exact aH.here | apply aH.there)
  ·rfl
  ·exact sa
  apply aF.one
  ·repeat (first | exact aH.here | apply aH.there)
  ·rfl
  ·exact sa
  exact aF.nil
 refine az rfl vC fun b11=>sta rfl rfl rfl lj rfl rfl ?_
 refine lc<|ah<|Bu<|ak<|ah<|ah<|aT mixed ?_
 apply dq 0 rfl
 ·exact yq (qld rfl jZ)
 apply dq 2 rfl
 ·exact yq (qfa 1 rfl nt rfl rfl yS3)
 apply dq 3 rfl
 ·exact yq (qld rfl yA3)
 apply dq 4 rfl
 ·exact yq (gH rfl rfl)
 refine an [0] [4,3,2] 1 [(39,_)] gO ⟨rfl,trivial⟩ (by kernel_rfl) (by kernel_rfl) fun Ex=>?_
 refine lc1 rfl rfl rfl (Ct h hh) ?_
 refine aj ?_
 apply n_d
 ·refine⟨?_,?_,?_,trivial⟩
  ·apply ya rfl rfl;exact yq (gH rfl rfl)
  ·apply ya rfl rfl;exact yq (qld rfl yA3)
  apply ya rfl rfl;exact yq (qfa 1 rfl nt rfl rfl yS3)
 refine an [4,3,2] [] 5 [(40,_),(43,_)] gO ⟨rfl,rfl,trivial⟩ (by kernel_rfl) (by kernel_rfl) fun Ex=>?_
 rw[show(8*(n:Int)) / 8=((n:Nat):Int) by omega]
 refine lcf rfl rfl rfl (Cp (h / 128) he hn) ?_
 rintro v L' ⟨bh,bg,rfl,rfl⟩
 refine bF ?_
 refine aj ?_
 apply n_d
 ·exact trivial
 refine bj (by kernel_rfl) ?_
 refine ak<|ay ?_
 rw[show pt b11 (.cells #[.int .i64 (-1),.int .i64 (-1),.bool false,.int .i64 0] 224 (0,0))=pt b11 (.cells #[.int .i64 (-1),.int .i64 (dK (h / 128) n T.cells 0),.bool (eD (h / 128) n T.cells 0),.int .i64 ((0:Nat):Int)] 224 (0,0)) from rfl]
 apply vM (p:=(fun k (_:Unit)=>∀ j,j < k→dN (h / 128) n T.cells t key j=false)) (J:=(fun k _=>[pt b11 (.cells #[.int .i64 (-1),.int .i64 (dK (h / 128) n T.cells k),.bool (eD (h / 128) n T.cells k),.int .i64 ((k:Nat):Int)] 224 (0,0)),pt b3 (.cells #[.pointer (some ⟨pa,0,none⟩),.int .i64 l.key,.int .i64 l.elem,.int .i64 l.ka,.int .i64 l.ea,.int .i64 l.cap,.int .i64 l.eo,.int .i64 l.bo,.int .i64 l.slot,.int .i64 l.group,.int .i64 (off:Nat)] 39 (0,0)),pt b9 (.cells #[.int .i64 T.used,.int .i64 (8*(n:Int)),.int .i64 T.left,.int .i64 T.depth,.int .i64 T.pins,.int .i64 T.next,.bool (decide (T.kind=4)),.int .i64 (go:Nat)] 147 (0,0)),pt b5 (.cells #[.string key] 9 (0,0)),pt b4 (.cells #[.int .u64 h] 27 (0,0)),G,ae pa s])) (q:=(fun k (y:Code×Fnd)=>y.1=.exit 0∧bt (h / 128) n T.cells t key=y.2)) (Jx:=(fun k y=>[pt b11 (.cells #[.int .i64 y.2.slot,.int .i64 y.2.vac,.bool y.2.emp,.int .i64 y.2.probes] 224 (0,0)),pt b9 (.cells #[.int .i64 T.used,.int .i64 (8*(n:Int)),.int .i64 T.left,.int .i64 T.depth,.int .i64 T.pins,.int .i64 T.next,.bool (decide (T.kind=4)),.int .i64 (go:Nat)] 147 (0,0)),G,ae pa s])) (x0:=()) (hc:=xi _ _ (h / 128) ⟨by omega,by omega⟩ he hn) (hr:=rfl) (hg:=rfl)
 ·exact pk
 ·(intro j hj;omega)
 ·(try dsimp only);(try simp only[Int.natCast_zero,Nat.sub_zero]);exact pk
 ·rfl
 ·(intro x hx;simp only[way,List.mem_map] at hx;obtain⟨_,_,rfl⟩:=hx;rfl)
 ·intro ll rc Fr' w1 k x jj hrd hpn hx hj
  obtain⟨hk',rfl⟩:=Bl hx
  rw[← wi hn0]
  have hgk:=oO (home:=h / 128) (k:=k) hn0
  have hgin:gk (h / 128) n k*gN l+gN l≤n*gN l:=by have:=Nat.mul_le_mul_right (gN l) (show gk (h / 128) n k+1≤n by omega);rw[Nat.add_mul] at this;omega
  have hgood:aN s ((go+gk (h / 128) n k*gN l:Nat):Int) l.group:=by rw[← hN.g];exact aN.sub hgg (by omega) (by omega) (by omega)
  have hG':=hT.body _ hgk
  have hok':∀ i,i < 8→(cy T.cells (gk (h / 128) n k) i).ok l:=fun i hi=>hT.okc _ (by omega)
  refine aR ?_
  refine aB<|dL rfl yZ3 rfl fun b12=>st rfl rfl rfl yS3 rfl ?_
  refine aj ?_
  apply mo
  ·exact tk
  ·assumption
  refine ay<|sr<|l_q rfl (aK rfl gl ei) ?_
  refine l_q rfl (aK rfl l5 iD) ?_
  refine l_q rfl (qld rfl yA3) ?_
  refine lc1 rfl rfl rfl (tI pa off go (gk (h / 128) n k) n l hl T _ rfl (by omega)) ?_
  refine az rfl pQ fun b13=>sta rfl rfl rfl cS rfl rfl ?_
  refine lz<|l_q rfl (aK rfl db cS) ?_
  refine lc1 rfl rfl rfl (wE pa (go+gk (h / 128) n k*gN l) s l (cy T.cells (gk (h / 128) n k)) hl hgood hG' hok') ?_
  refine mv rfl rfl<|l_q rfl (aa rfl ga) ?_
  refine l_q rfl (aa rfl ga) ?_
  refine asg rfl rfl<|asg rfl rfl<|lc<|ah<|sr<|mv rfl rfl<|l_q rfl (qi rfl rfl (aI ·))<|lc<|aA rfl (fun z2=>?_) fun z2=>?_
  ·exact absurd rfl z2
  refine al<|nz<|l_q rfl (qfa 3 rfl eu rfl rfl yS3)<|l_q rfl (qld rfl yA3) ?_
  refine l_q rfl (ba rfl rfl) ?_
  refine l_q rfl (qfa 3 rfl eu rfl rfl yS3)<|st rfl rfl rfl yS3 rfl ?_
  refine lc<|ah<|sr<|mv rfl rfl<|l_q rfl (qld rfl jZ) ?_
  refine lc1 rfl rfl rfl (r6 h hh t htt) ?_
  refine lc1 rfl rfl rfl (ug _ (kr hok') t ht128) ?_
  refine lcf rfl rfl rfl (A7 _) ?_
  rintro v L' ⟨b68,rfl,rfl⟩
  refine bF ?_
  refine lc<|ay ?_
  have hsel:∀ j (hj:j < (bA (sS (cy T.cells (gk (h / 128) n k)) t)).length),(bA (sS (cy T.cells (gk (h / 128) n k)) t))[j] < 8:=fun j hj=>(dp.1 (List.getElem_mem hj)).1
  apply yV (p:=(fun i (_:Unit)=>∀ j (hj:j < (bA (sS (cy T.cells (gk (h / 128) n k)) t)).length),j < i→(cy T.cells (gk (h / 128) n k) (bA (sS (cy T.cells (gk (h / 128) n k)) t))[j]).keyS≠key)) (J:=(fun i _=>[pt b13 (.cells #[.pointer (some ⟨pa,0,none⟩),.int .i64 l.key,.int .i64 l.elem,.int .i64 l.ka,.int .i64 l.ea,.int .i64 l.cap,.int .i64 l.eo,.int .i64 l.bo,.int .i64 l.slot,.int .i64 l.group,.int .i64 ((go+gk (h / 128) n k*gN l:Nat):Int)] 182 (0,0)),pt b12 (.cells #[.int .i64 ((gk (h / 128) n k:Nat):Int)] 3 (0,0)),pt b5 (.cells #[.string key] 9 (0,0)),pt b11 (.cells #[.int .i64 (-1),.int .i64 (dK (h / 128) n T.cells k),.bool (eD (h / 128) n T.cells k),.int .i64 (((k:Nat):Int)+1)] 224 (0,0)),ae pa s])) (q:=(fun i (y:Code×Unit)=>y.1=.exit 0∧dU (h / 128) n T.cells t key k < 8)) (Jx:=(fun i y=>[pt b11 (.cells #[.int .i64 (8*((gk (h / 128) n k:Nat):Int)+((dU (h / 128) n T.cells t key k:Nat):Int)),.int .i64 (dK (h / 128) n T.cells k),.bool (eD (h / 128) n T.cells k),.int .i64 (((k:Nat):Int)+1)] 224 (0,0)),ae pa s])) (x0:=()) (hc:=A8 G hG b68 _) (hr:=rfl) (hg:=rfl)
  ·exact tk
  ·exact pk
  ·(intro j hj;omega)
  ·(try dsimp only);(try simp only[Int.natCast_zero,Nat.sub_zero]);exact pk
  ·rfl
  ·(intro x hx;simp only[hX,List.mem_map] at hx;obtain⟨_,_,rfl⟩:=hx;rfl)
  ·intro ll2 rc2 Fr2 w2 i x2 jj2 hrd2 hpn2 hx2 hj2
   obtain⟨hi2,rfl⟩:=oi hx2
   have hs8:=hsel i hi2
   refine aR ?_
   refine aB<|asg rfl rfl<|aj ?_
   apply mo
   ·exact tk
   ·assumption
   refine ay<|sr<|l_q rfl (aK rfl db cS) ?_
   refine mv rfl rfl<|lc1 rfl rfl rfl (sg pa (go+gk (h / 128) n k*gN l) s l (cy T.cells (gk (h / 128) n k)) hl hgood hG' hok' _ hs8) ?_
   refine mv rfl rfl<|l_q rfl (aa rfl ga) ?_
   refine l_q rfl (aa rfl ga) ?_
   refine az rfl cJ fun b17=>sta rfl rfl rfl bu rfl rfl ?_
   refine asg rfl rfl<|lz<|l_q rfl (qfa 2 rfl cO rfl rfl yS9)<|l_q rfl (qld rfl yA9) ?_
   refine l_q rfl (qld rfl yA9) ?_
   refine l_q rfl (qs rfl rfl (lY ·))<|lc<|aA rfl (fun q=>?_) fun q=>?_
   ·have hfi:dU (h / 128) n T.cells t key k=(bA (sS (cy T.cells (gk (h / 128) n k)) t))[i]:=zT hok' ht128 hi2 hj2 q
    rw[show(bA fun i=>ctF (cy T.cells (gk (h / 128) n k)) i == t)[i]=dU (h / 128) n T.cells t key k from hfi.symm]
    refine sr<|l_q rfl (qld rfl yA3) ?_
    refine l_q rfl (dD rfl rfl) ?_
    refine mv rfl rfl<|l_q rfl (ba rfl rfl) ?_
    refine l_q rfl (qfa 0 rfl eu rfl rfl yS3)<|st rfl rfl rfl yS3 rfl ?_
    refine lc<|xe rfl ?_
    apply lO (.inr ⟨_,rfl,rfl⟩) (()) (⟨rfl,by rw[hfi];exact hs8⟩)
    exact en
   refine al<|aV ?_
   apply lN (by assumption) (by assumption) (()) (fun j hj' hji=>by by_cases e1:j=i;(subst e1;exact q);exact hj2 j hj' (by omega))
   exact en
  ·intro jj2 hj2
   rw[oh] at hj2
   have hnh:¬ dU (h / 128) n T.cells t key k < 8:=by have:=tE hok' ht128 (key:=key) (fun j hj=>hj2 j hj hj);unfold dU;omega
   refine oH ?_
   refine aV<|ak<|ah<|sr<|mv rfl rfl<|lc1 rfl rfl rfl (qY hok') ?_
   refine lc1 rfl rfl rfl (js G hG (eA (cy T.cells (gk (h / 128) n k)))) ?_
   refine asg rfl rfl<|lz<|mv rfl rfl<|l_q rfl (qi rfl rfl (aS ·))<|mv rfl rfl<|bE (t:=90) rfl (fun p1=>?_) fun p1=>?_
   ·refine au rfl rfl<|l_q rfl (qfa 1 rfl eu rfl rfl yS3)<|au rfl rfl<|l_q rfl (qld rfl yA3) ?_
    refine au rfl rfl<|l_q rfl (qi rfl rfl (aS ·))<|l_q rfl (aL rfl rfl)<|lc<|aA rfl (fun p2=>?_) fun p2=>?_
    ·refine sr<|l_q rfl (qld rfl yA3) ?_
     refine l_q rfl (dD rfl rfl) ?_
     refine mv rfl rfl<|l_q rfl (ba rfl rfl) ?_
     refine l_q rfl (qfa 1 rfl eu rfl rfl yS3)<|st rfl rfl rfl yS3 rfl ?_
     refine lr<|mv rfl rfl ?_
     have hvt:=yL (home:=h / 128) (n:=n) (cells:=T.cells) (k:=k) p2 (by unfold cK;omega)
     have hva:dK (h / 128) n T.cells (k+1)=8*((gk (h / 128) n k:Nat):Int)+((bB (eA (cy T.cells (gk (h / 128) n k))):Nat):Int):=hvt.1
     have hvb:eD (h / 128) n T.cells (k+1)=fX (cy T.cells (gk (h / 128) n k)) (bB (eA (cy T.cells (gk (h / 128) n k)))):=hvt.2
     refine lc1 rfl rfl rfl (ld hok') ?_
     refine mv rfl rfl<|lc1 rfl rfl rfl (AZ (fX (cy T.cells (gk (h / 128) n k))) (bB (eA (cy T.cells (gk (h / 128) n k)))) (by omega)) ?_
     refine l_q rfl (qfa 2 rfl eu rfl rfl yS4)<|st rfl rfl rfl yS4 rfl ?_
     refine lz<|mv rfl rfl<|lc1 rfl rfl rfl (ld hok') ?_
     refine lc1 rfl rfl rfl (js G hG (fX (cy T.cells (gk (h / 128) n k)))) ?_
     refine l_q rfl (qi rfl rfl (aS ·))<|lc ?_
     rw[← hva,← hvb]
     refine aA rfl (fun em=>?_) fun em=>?_
     ·refine xe rfl ?_
      apply lO (.inr ⟨_,rfl,rfl⟩) (⟨-1,dK (h / 128) n T.cells (k+1),eD (h / 128) n T.cells (k+1),(k:Int)+1⟩) (⟨rfl,ie hk' hj hnh (by unfold ey;omega)⟩)
      exact en
     refine al<|aV ?_
     apply lN (by assumption) (by assumption) (()) (fun i hi=>by by_cases q:i=k;(subst q;unfold dN;simp[hnh];show 8≤bB _;omega);exact hj i (by omega))
     exact en
    refine al<|nz<|mv rfl rfl ?_
    obtain⟨hva,hvb⟩:=sB (home:=h / 128) (n:=n) (cells:=T.cells) (k:=k) (.inl p2)
    refine lc1 rfl rfl rfl (ld hok') ?_
    refine lc1 rfl rfl rfl (js G hG (fX (cy T.cells (gk (h / 128) n k)))) ?_
    refine l_q rfl (qi rfl rfl (aS ·))<|lc ?_
    rw[← hva,← hvb]
    refine aA rfl (fun em=>?_) fun em=>?_
    ·refine xe rfl ?_
     apply lO (.inr ⟨_,rfl,rfl⟩) (⟨-1,dK (h / 128) n T.cells (k+1),eD (h / 128) n T.cells (k+1),(k:Int)+1⟩) (⟨rfl,ie hk' hj hnh (by unfold ey;omega)⟩)
     exact en
    refine al<|aV ?_
    apply lN (by assumption) (by assumption) (()) (fun i hi=>by by_cases q:i=k;(subst q;unfold dN;simp[hnh];show 8≤bB _;omega);exact hj i (by omega))
    exact en
   refine ar rfl rfl rfl rfl<|ar rfl rfl rfl rfl<|ar rfl rfl rfl rfl<|l_q rfl (aL rfl rfl)<|lc<|bQ rfl<|al<|nz<|mv rfl rfl ?_
   obtain⟨hva,hvb⟩:=sB (home:=h / 128) (n:=n) (cells:=T.cells) (k:=k) (.inr (by unfold cK;omega))
   refine lc1 rfl rfl rfl (ld hok') ?_
   refine lc1 rfl rfl rfl (js G hG (fX (cy T.cells (gk (h / 128) n k)))) ?_
   refine l_q rfl (qi rfl rfl (aS ·))<|lc ?_
   rw[← hva,← hvb]
   refine aA rfl (fun em=>?_) fun em=>?_
   ·refine xe rfl ?_
    apply lO (.inr ⟨_,rfl,rfl⟩) (⟨-1,dK (h / 128) n T.cells (k+1),eD (h / 128) n T.cells (k+1),(k:Int)+1⟩) (⟨rfl,ie hk' hj hnh (by unfold ey;omega)⟩)
    exact en
   refine al<|aV ?_
   apply lN (by assumption) (by assumption) (()) (fun i hi=>by by_cases q:i=k;(subst q;unfold dN;simp[hnh];show 8≤bB _;omega);exact hj i (by omega))
   exact en
  rintro i ⟨jc,yy⟩ hi2 ⟨rfl,hhit⟩
  refine aR ?_
  refine xe rfl ?_
  apply lO (.inr ⟨_,rfl,rfl⟩) (⟨8*((gk (h / 128) n k:Nat):Int)+((dU (h / 128) n T.cells t key k:Nat):Int),dK (h / 128) n T.cells k,eD (h / 128) n T.cells k,(k:Int)+1⟩) (⟨rfl,lL hk' hj hhit⟩)
  exact en
 ·intro b jj hj
  rw[lH] at hj ⊢
  have hsr:=j9 (home:=h / 128) (n:=n) (cells:=T.cells) (tag:=t) (key:=key) hj
  refine oH ?_
  refine aV<|ak<|ah<|aT mixed ?_
  apply dq 0 rfl
  ·exact yq (aK rfl l5 iD)
  apply dq 1 rfl
  ·exact yq (aK rfl pU lj)
  refine an [0] [1] 2 [(6,_),(109,_)] gO ⟨rfl,rfl,trivial⟩ (by kernel_rfl) (by kernel_rfl) fun Ex=>?_
  refine sta rfl rfl rfl iD rfl rfl ?_
  refine aj ?_
  apply n_d
  ·refine⟨?_,trivial⟩
   apply ya rfl rfl;exact yq (aK rfl pU lj)
  refine an [1] [] 3 [(7,_),(110,_)] gO ⟨rfl,rfl,trivial⟩ (by kernel_rfl) (by kernel_rfl) fun Ex=>?_
  refine sta rfl rfl rfl lj rfl rfl ?_
  refine aj ?_
  apply n_d
  ·exact trivial
  refine an [] [] 4 [(8,_)] gO ⟨rfl,trivial⟩ (by kernel_rfl) (by kernel_rfl) fun Ex=>?_
  refine st rfl rfl rfl jS rfl ?_
  refine aj ?_
  apply n_d
  ·exact trivial
  refine bj (by kernel_rfl) ?_
  refine ak<|rt ?_
  rw[hsr]
  apply kD (.inl rfl) [b] ([G,ae pa s])
  ·repeat (first | with_reducible exact eU.nil | apply eU.cons | with_reducible exact Take.here | apply Take.there)
  ·apply lM rfl
   ·apply Rv.agg rfl
    ·exact tk
    exact aD l5 iD rfl
   ·apply Rv.agg rfl
    ·exact tk
    exact aD pU lj rfl
   apply Rv.cellL rfl
   ·exact tk
   ·exact ga
   exact pF
  ·exact⟨rfl,rfl⟩
  exact en
 rintro b k ⟨jc,F⟩ hk2 ⟨rfl,hsr⟩
 refine aR ?_
 refine xt rfl<|ak<|ah<|aT mixed ?_
 apply dq 0 rfl
 ·exact yq (aK rfl l5 iD)
 apply dq 1 rfl
 ·exact yq (aK rfl pU lj)
 refine an [0] [1] 2 [(6,_),(109,_)] gO ⟨rfl,rfl,trivial⟩ (by kernel_rfl) (by kernel_rfl) fun Ex=>?_
 refine sta rfl rfl rfl iD rfl rfl ?_
 refine aj ?_
 apply n_d
 ·refine⟨?_,trivial⟩
  apply ya rfl rfl;exact yq (aK rfl pU lj)
 refine an [1] [] 3 [(7,_),(110,_)] gO ⟨rfl,rfl,trivial⟩ (by kernel_rfl) (by kernel_rfl) fun Ex=>?_
 refine sta rfl rfl rfl lj rfl rfl ?_
 refine aj ?_
 apply n_d
 ·exact trivial
 refine an [] [] 4 [(8,_)] gO ⟨rfl,trivial⟩ (by kernel_rfl) (by kernel_rfl) fun Ex=>?_
 refine st rfl rfl rfl jS rfl ?_
 refine aj ?_
 apply n_d
 ·exact trivial
 refine bj (by kernel_rfl) ?_
 refine ak<|rt ?_
 rw[hsr]
 apply kD (.inl rfl) [b] ([G,ae pa s])
 ·repeat (first | with_reducible exact eU.nil | apply eU.cons | with_reducible exact Take.here | apply Take.there)
 ·apply lM rfl
  ·apply Rv.agg rfl
   ·exact tk
   exact aD l5 iD rfl
  ·apply Rv.agg rfl
   ·exact tk
   exact aD pU lj rfl
  apply Rv.cellL rfl
  ·exact tk
  ·exact ga
  exact pF
 ·exact⟨rfl,rfl⟩
 exact en
end Table
end Go.Proofs.YthkajgkagnenbaaGreatDoor
