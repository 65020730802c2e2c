/- Contracts of package order: a taking. -/
import Derived.Test.YtjekhcojebgpnaaBtX
set_option linter.unusedVariables false
set_option linter.unusedSimpArgs false
set_option maxRecDepth 100000
namespace Go.Proofs.Ytjekhcojebgpnaa.Bt
open Go.RowKit Go.Proofs Go.Proofs.Ytjekhcojebgpnaa.Eng Go.Proofs.Ytjekhcojebgpnaa.Ty Go.Proofs.Ytjekhcojebgpnaa.Bits Go.Proofs.Ytjekhcojebgpnaa.Mem Go.Proofs.Ytjekhcojebgpnaa.Search Go.Proofs.Ytjekhcojebgpnaa.Layout Go.Proofs.Ytjekhcojebgpnaa.Arena Go.Proofs.Ytjekhcojebgpnaa.GroupB
section
variable (pa : Nat) (offI : Int) (s : ArS) {l : Lay} (hl : l.err = 0)
include hl
theorem fill_ok (hs : s.ok) (ph h : Nat) (t : BT) (i : Nat) (u0 u1 u2 : Int) (nn : Nat) (hnn : (fillG t i).length ≤ nn) (hnb1 : nn ≤ 1000000000) (E : NdP l s h t i) :
  FnOk Try.prog 41 #[.agg #[.pointer (some ⟨pa, 0, none⟩), .int .i64 l.key, .int .i64 l.elem, .int .i64 l.ka, .int .i64 l.ea, .int .i64 l.cap, .int .i64 l.eo, .int .i64 l.bo, .int .i64 l.slot, .int .i64 l.group, .int .i64 offI], .pointer (some ⟨ph, 0, none⟩), .agg (nodeT (h + 1) t).toArray, .int .i64 ((i : Nat) : Int)] [pt ph (.cells #[.int .i64 u0, .int .i64 u1, .int .i64 u2, .int .i64 (((nn : Nat) : Int))] 57 (0, 0)), arenaH pa s]
   (fun v L => ∃ m', v = .tuple #[] ∧ L = [pt ph (.cells #[.int .i64 u0, .int .i64 u1, .int .i64 u2, .int .i64 (((nn - (fillG t i).length : Nat) : Int))] 57 (0, 0)), arenaH pa (wm (s.gives (gv (fillG t i))) m')] ∧ TreeM l m' (h + 1) (fillB t i) ∧ ∀ a, Away l (offs (h + 1) t) a → m' a = s.m a) := by
 have hi := E.hi
 have htk : (t.ks.map BT.o).length ≤ 8 := by have := E.h3; have := E.h2; rw [List.length_map]; omega
 have h2 := E.h2
 have hkid : ∀ j, j ≤ t.ps.length → (pad 0 8 (t.ks.map BT.o))[j]? = some (kid t j).o := fun j hj => by
  have h9 := E.kid_at hj
  have hlt := (List.getElem?_eq_some_iff.1 h9).1
  rw [pad_at htk (by rw [List.length_map]; exact hlt), List.getElem?_map, h9]; rfl
 have hnl := nodeC_len (o := ((t.o : Nat) : Int)) (n := ((t.ps.length : Nat) : Int)) (tot := ((tot (h + 1) t : Nat) : Int)) (leaf := decide (h + 1 = 0)) (pad_len (a := p0) h2) (pad_len (a := 0) htk)
 have hlI : ∀ j, j ≤ t.ps.length → (kid t j).ps.length ≤ 7 := fun j hj => (ok_len (E.ok2 hj)).2
 have e0 : fillB t i = (if 3 ≤ (kid t i).ps.length then t
  else if 0 < i ∧ 3 < (kid t (i - 1)).ps.length then turnAt t (i - 1) (rotR (kid t (i - 1)) (kid t i) (pr t (i - 1)))
  else if i < t.ps.length then
   if 3 < (kid t (i + 1)).ps.length then turnAt t i (rotL (kid t i) (kid t (i + 1)) (pr t i)) else joinAt t i
  else joinAt t (i - 1)) := rfl
 have e1 : fillG t i = (if 3 ≤ (kid t i).ps.length then []
  else if 0 < i ∧ 3 < (kid t (i - 1)).ps.length then []
  else if i < t.ps.length then
   if 3 < (kid t (i + 1)).ps.length then [] else [(kid t (i + 1)).o]
  else [(kid t i).o]) := rfl
 refine fn_intro en41 Try.func41 rfl rfl rfl fun Fr w0 => t_nm ?_
 refine sr<|o_boxA O O fun b4 => o_boxA O O fun b6 => lc<|t_seq ?_
 apply t_cut (p := (fun _ : Nat => True)) (EE := (fun zz => [(1, .pointer (some ⟨ph, 0, none⟩)), (3, .int .i64 ((i : Nat) : Int)), (4, .pointer (some ⟨b4, 0, none⟩)), (6, .pointer (some ⟨b6, 0, none⟩)), (8, .pointer (some ⟨zz, 0, none⟩))])) (LL := (fun zz => pt zz (.cells (nodeT (h) (kid t i)).toArray 73 (0, 0)) :: pt b6 (.cells (nodeT (h + 1) (t)).toArray 73 (0, 0)) :: pt b4 (.cells #[.pointer (some ⟨pa, 0, none⟩), .int .i64 l.key, .int .i64 l.elem, .int .i64 l.ka, .int .i64 l.ea, .int .i64 l.cap, .int .i64 l.eo, .int .i64 l.bo, .int .i64 l.slot, .int .i64 l.group, .int .i64 offI] 27 (0, 0)) :: pt ph (.cells #[.int .i64 u0, .int .i64 u1, .int .i64 u2, .int .i64 (((nn : Nat) : Int))] 57 (0, 0)) :: arenaH pa s :: Fr))
 refine t_draw mixed ?_
 apply dq 0 O
 ·exact yq (qlda O yA27 yS27)
 apply dq 1 O
 ·exact yq (q_move O)
 apply dq 2 O
 ·exact yq (qfa 18 O yU73 O O yS71)
 apply dq 3 O
 ·exact yq (q_indexAddrA O O yU71 yS3 (by omega))
 apply dq 4 O
 ·apply yq
  apply q_loadP1 (v := .int .i64 (((kid t i).o : Nat) : Int)) rfl yA3
  ·exact tk
  ·rw [Int.toNat_natCast, Nat.mul_one]; exact pkV_kid _ _ _ _ (pad_len h2) (hkid i hi)
 apply d_eff2 5 6
 ·kernel_rfl
 ·apply effAt (q1 := [0, 4, 3, 2, 1]) (q2 := []) [(11, _), (15, _)]
  ·exact gO
  ·exact ⟨O, O, trivial⟩
  ·kernel_rfl
  intro Ex
  refine lc1 O O O (readT_ok pa s hl _ hs (E.kidT hi)) ?_
  refine l_nil ?_
  apply n_d
  ·exact trivial
  refine d_eff1 [] [] 6 [] gO trivial (by kernel_rfl) (by kernel_rfl) fun Ex => ?_
  refine o_allocA O yZ73 fun b8 => l_nil ?_
  apply n_d
  ·exact trivial
  refine d_eff1 [] [] 7 [(8, _), (16, _)] gO ⟨rfl, rfl, trivial⟩ (by kernel_rfl) (by kernel_rfl) fun Ex => ?_
  apply o_storeP (us := nodeT (h) (kid t i)) (xs' := nodeT (h) (kid t i)) rfl rfl rfl yS73 (nodeT_len (E.h5)) (List.all_eq_true.2 (node_one _ _ _ _ _ _))
  ·exact tk
  ·decide
  ·exact lay_full (by rw [nodeT_len (E.h5)]; rfl)
  refine l_nil ?_
  apply n_d
  ·exact trivial
  refine d_end (by kernel_rfl) ?_
  apply n_join (b8)
  ·exact trivial
  ·exact ⟨O, O, O, O, O, trivial⟩
  ·exact en
 ·apply effAt (q1 := []) (q2 := [4, 3, 2, 1, 0]) []
  ·exact gO
  ·exact trivial
  ·kernel_rfl
  intro Ex
  refine o_allocA O yZ73 fun b8 => l_nil ?_
  apply n_d
  ·refine ⟨?_, ?_, ?_, ?_, ?_, trivial⟩
   ·apply ya O O
    apply yq
    apply q_loadP1 (v := .int .i64 (((kid t i).o : Nat) : Int)) rfl yA3
    ·exact tk
    ·rw [Int.toNat_natCast, Nat.mul_one]; exact pkV_kid _ _ _ _ (pad_len h2) (hkid i hi)
   ·apply ya O O; exact yq (q_indexAddrA O O yU71 yS3 (by omega))
   ·apply ya O O; exact yq (qfa 18 O yU73 O O yS71)
   ·apply ya O O; exact yq (q_move O)
   ·apply ya O O; exact yq (qlda O yA27 yS27)
  refine d_eff1 [0, 4, 3, 2, 1] [] 5 [(11, _), (15, _)] gO ⟨rfl, rfl, trivial⟩ (by kernel_rfl) (by kernel_rfl) fun Ex => ?_
  refine lc1 O O O (readT_ok pa s hl _ hs (E.kidT hi)) ?_
  refine l_nil ?_
  apply n_d
  ·exact trivial
  refine d_eff1 [] [] 7 [(8, _), (16, _)] gO ⟨rfl, rfl, trivial⟩ (by kernel_rfl) (by kernel_rfl) fun Ex => ?_
  apply o_storeP (us := nodeT (h) (kid t i)) (xs' := nodeT (h) (kid t i)) rfl rfl rfl yS73 (nodeT_len (E.h5)) (List.all_eq_true.2 (node_one _ _ _ _ _ _))
  ·exact tk
  ·decide
  ·exact lay_full (by rw [nodeT_len (E.h5)]; rfl)
  refine l_nil ?_
  apply n_d
  ·exact trivial
  refine d_end (by kernel_rfl) ?_
  apply n_join (b8)
  ·exact trivial
  ·exact ⟨O, O, O, O, O, trivial⟩
  ·exact en
 rintro b8 -
 try dsimp only
 refine n_nm ?_
 refine n_code<|t_seq<|sr<|l_q O (qfa 1 O yU73 O O yS3)<|l_q O (qld O yA3) ?_
 refine l_q O (qi O O (b_geq ·))<|lc<|t_if O (fun c1 => ?_) fun c1 => ?_
 ·have c1' : 3 ≤ (kid t i).ps.length := by omega
  rw [if_pos c1'] at e0 e1
  rw [e0, e1]
  refine rt ?_
  apply f_ret (.inl rfl) ([pt ph (.cells #[.int .i64 u0, .int .i64 u1, .int .i64 u2, .int .i64 (((nn : Nat) : Int))] 57 (0, 0)), arenaH pa s])
  ·exact res0 O
  ·exact ⟨s.m, rfl, rfl, E.tree, fun _ _ => rfl⟩
  ·exact en
 ·have c1' : ¬ 3 ≤ (kid t i).ps.length := by omega
  rw [if_neg c1'] at e0 e1
  refine t_skip<|n_code<|t_seq<|sr<|mv O O<|l_q O (qi O O (b_gtr ·))<|lc ?_
  apply t_cut (p := (fun _ : Unit => ¬ (0 < i ∧ 3 < (kid t (i - 1)).ps.length))) (EE := (fun _ => [(1, .pointer (some ⟨ph, 0, none⟩)), (3, .int .i64 ((i : Nat) : Int)), (4, .pointer (some ⟨b4, 0, none⟩)), (6, .pointer (some ⟨b6, 0, none⟩)), (8, .pointer (some ⟨b8, 0, none⟩))])) (LL := (fun _ => pt b6 (.cells (nodeT (h + 1) (t)).toArray 73 (0, 0)) :: pt b8 (.cells (nodeT (h) (kid t i)).toArray 73 (0, 0)) :: pt b4 (.cells #[.pointer (some ⟨pa, 0, none⟩), .int .i64 l.key, .int .i64 l.elem, .int .i64 l.ka, .int .i64 l.ea, .int .i64 l.cap, .int .i64 l.eo, .int .i64 l.bo, .int .i64 l.slot, .int .i64 l.group, .int .i64 offI] 27 (0, 0)) :: pt ph (.cells #[.int .i64 u0, .int .i64 u1, .int .i64 u2, .int .i64 (((nn : Nat) : Int))] 57 (0, 0)) :: arenaH pa s :: Fr))
  refine t_if O (fun c2 => ?_) fun c2 => ?_
  ·obtain ⟨j, rfl⟩ : ∃ j, i = j + 1 := ⟨i - 1, by omega⟩
   have hjl : j ≤ t.ps.length := by omega
   have hj7 := hlI j hjl
   refine t_seq ?_
   apply t_cut (p := (fun _ : Nat => True)) (EE := (fun zz => [(1, .pointer (some ⟨ph, 0, none⟩)), (3, .int .i64 ((j + 1 : Nat) : Int)), (4, .pointer (some ⟨b4, 0, none⟩)), (6, .pointer (some ⟨b6, 0, none⟩)), (8, .pointer (some ⟨b8, 0, none⟩)), (9, .pointer (some ⟨zz, 0, none⟩))])) (LL := (fun zz => pt zz (.cells (nodeT (h) (kid t j)).toArray 73 (0, 0)) :: pt b8 (.cells (nodeT (h) (kid t (j + 1))).toArray 73 (0, 0)) :: pt b6 (.cells (nodeT (h + 1) (t)).toArray 73 (0, 0)) :: pt b4 (.cells #[.pointer (some ⟨pa, 0, none⟩), .int .i64 l.key, .int .i64 l.elem, .int .i64 l.ka, .int .i64 l.ea, .int .i64 l.cap, .int .i64 l.eo, .int .i64 l.bo, .int .i64 l.slot, .int .i64 l.group, .int .i64 offI] 27 (0, 0)) :: pt ph (.cells #[.int .i64 u0, .int .i64 u1, .int .i64 u2, .int .i64 (((nn : Nat) : Int))] 57 (0, 0)) :: arenaH pa s :: Fr))
   refine t_draw mixed ?_
   apply dq 0 O
   ·exact yq (qlda O yA27 yS27)
   apply dq 1 O
   ·exact yq (q_move O)
   apply dq 2 O
   ·exact yq (qsub O O)
   apply dq 3 O
   ·exact yq (qfa 18 O yU73 O O yS71)
   apply dq 4 O
   ·exact yq (q_indexAddrA O O yU71 yS3 (by omega))
   apply dq 5 O
   ·apply yq
    apply q_loadP1 (v := .int .i64 (((kid t j).o : Nat) : Int)) rfl yA3
    ·exact tk
    ·rw [show (((j + 1 : Nat) : Int) - 1).toNat = j by omega, Nat.mul_one]; exact pkV_kid _ _ _ _ (pad_len h2) (hkid j (by omega))
   apply d_eff2 6 7
   ·kernel_rfl
   ·apply effAt (q1 := [0, 5, 4, 3, 2, 1]) (q2 := []) [(22, _), (27, _)]
    ·exact gO
    ·exact ⟨O, O, trivial⟩
    ·kernel_rfl
    intro Ex
    refine lc1 O O O (readT_ok pa s hl _ hs (E.kidT hjl)) ?_
    refine l_nil ?_
    apply n_d
    ·exact trivial
    refine d_eff1 [] [] 7 [] gO trivial (by kernel_rfl) (by kernel_rfl) fun Ex => ?_
    refine o_allocA O yZ73 fun b9 => l_nil ?_
    apply n_d
    ·exact trivial
    refine d_eff1 [] [] 8 [(9, _), (28, _)] gO ⟨rfl, rfl, trivial⟩ (by kernel_rfl) (by kernel_rfl) fun Ex => ?_
    apply o_storeP (us := nodeT (h) (kid t j)) (xs' := nodeT (h) (kid t j)) rfl rfl rfl yS73 (nodeT_len (E.ok2 (show j ≤ t.ps.length by omega))) (List.all_eq_true.2 (node_one _ _ _ _ _ _))
    ·exact tk
    ·decide
    ·exact lay_full (by rw [nodeT_len (E.ok2 (show j ≤ t.ps.length by omega))]; rfl)
    refine l_nil ?_
    apply n_d
    ·exact trivial
    refine d_end (by kernel_rfl) ?_
    apply n_join (b9)
    ·exact trivial
    ·exact ⟨O, O, O, O, O, O, trivial⟩
    ·exact en
   ·apply effAt (q1 := []) (q2 := [5, 4, 3, 2, 1, 0]) []
    ·exact gO
    ·exact trivial
    ·kernel_rfl
    intro Ex
    refine o_allocA O yZ73 fun b9 => l_nil ?_
    apply n_d
    ·refine ⟨?_, ?_, ?_, ?_, ?_, ?_, trivial⟩
     ·apply ya O O
      apply yq
      apply q_loadP1 (v := .int .i64 (((kid t j).o : Nat) : Int)) rfl yA3
      ·exact tk
      ·rw [show (((j + 1 : Nat) : Int) - 1).toNat = j by omega, Nat.mul_one]; exact pkV_kid _ _ _ _ (pad_len h2) (hkid j (by omega))
     ·apply ya O O; exact yq (q_indexAddrA O O yU71 yS3 (by omega))
     ·apply ya O O; exact yq (qfa 18 O yU73 O O yS71)
     ·apply ya O O; exact yq (qsub O O)
     ·apply ya O O; exact yq (q_move O)
     ·apply ya O O; exact yq (qlda O yA27 yS27)
    refine d_eff1 [0, 5, 4, 3, 2, 1] [] 6 [(22, _), (27, _)] gO ⟨rfl, rfl, trivial⟩ (by kernel_rfl) (by kernel_rfl) fun Ex => ?_
    refine lc1 O O O (readT_ok pa s hl _ hs (E.kidT hjl)) ?_
    refine l_nil ?_
    apply n_d
    ·exact trivial
    refine d_eff1 [] [] 8 [(9, _), (28, _)] gO ⟨rfl, rfl, trivial⟩ (by kernel_rfl) (by kernel_rfl) fun Ex => ?_
    apply o_storeP (us := nodeT (h) (kid t j)) (xs' := nodeT (h) (kid t j)) rfl rfl rfl yS73 (nodeT_len (E.ok2 (show j ≤ t.ps.length by omega))) (List.all_eq_true.2 (node_one _ _ _ _ _ _))
    ·exact tk
    ·decide
    ·exact lay_full (by rw [nodeT_len (E.ok2 (show j ≤ t.ps.length by omega))]; rfl)
    refine l_nil ?_
    apply n_d
    ·exact trivial
    refine d_end (by kernel_rfl) ?_
    apply n_join (b9)
    ·exact trivial
    ·exact ⟨O, O, O, O, O, O, trivial⟩
    ·exact en
   rintro b9 -
   try dsimp only
   refine n_nm ?_
   refine nz<|l_q O (qfa 1 O yU73 O O yS3)<|l_q O (qld O yA3) ?_
   refine l_q O (qi O O (b_gtr ·))<|lc<|t_if O (fun c3 => ?_) fun c3 => ?_
   ·rw [if_pos ⟨by omega, show 3 < (kid t (j + 1 - 1)).ps.length by rw [Nat.add_sub_cancel]; omega⟩, Nat.add_sub_cancel] at e0
    rw [if_pos ⟨by omega, show 3 < (kid t (j + 1 - 1)).ps.length by rw [Nat.add_sub_cancel]; omega⟩] at e1
    rw [e0, e1]
    refine sr<|l_q O (qlda O yA27 yS27) ?_
    refine mv O O<|lcf O O O (fromLeft_ok pa offI s hl hs b6 b9 b8 h j t (kid t j) (kid t (j + 1)) (j + 1) E (by omega) rfl rfl (E.ok3 hjl (by omega)) (by omega) E.h5 (by omega)) ?_
    rintro v L' ⟨m', rfl, rfl, g1, g2⟩
    refine l_nm ?_
    refine lc<|rt ?_
    apply f_ret (.inl rfl) ([pt ph (.cells #[.int .i64 u0, .int .i64 u1, .int .i64 u2, .int .i64 (((nn : Nat) : Int))] 57 (0, 0)), arenaH pa (wm s m')])
    ·exact res0 O
    ·exact ⟨m', rfl, rfl, g1, g2⟩
    ·exact en
   ·refine t_skip ?_
    apply n_join (())
    ·exact (fun w => c3 (by have := w.2; rw [Nat.add_sub_cancel] at this; omega))
    ·exact ⟨O, O, O, O, O, trivial⟩
    ·exact en
  ·refine t_skip ?_
   apply n_join (())
   ·exact (fun w => c2 (by have := w.1; omega))
   ·exact ⟨O, O, O, O, O, trivial⟩
   ·exact en
  rintro _ hno
  try dsimp only
  refine n_nm ?_
  refine n_code<|t_seq<|sr<|mv O O<|l_q O (qfa 1 O yU73 O O yS3)<|l_q O (qld O yA3) ?_
  refine l_q O (qi O O (b_lss ·))<|lc ?_
  rw [if_neg hno] at e0 e1
  refine t_if O (fun c4 => ?_) fun c4 => ?_
  ·have hi1 : i + 1 ≤ t.ps.length := by omega
   have hj7 := hlI (i + 1) hi1
   rw [if_pos (show i < t.ps.length by omega)] at e0 e1
   refine t_seq ?_
   apply t_cut (p := (fun _ : Nat => True)) (EE := (fun zz => [(1, .pointer (some ⟨ph, 0, none⟩)), (3, .int .i64 ((i : Nat) : Int)), (4, .pointer (some ⟨b4, 0, none⟩)), (6, .pointer (some ⟨b6, 0, none⟩)), (8, .pointer (some ⟨b8, 0, none⟩)), (10, .pointer (some ⟨zz, 0, none⟩))])) (LL := (fun zz => pt zz (.cells (nodeT (h) (kid t (i + 1))).toArray 73 (0, 0)) :: pt b8 (.cells (nodeT (h) (kid t i)).toArray 73 (0, 0)) :: pt b6 (.cells (nodeT (h + 1) (t)).toArray 73 (0, 0)) :: pt b4 (.cells #[.pointer (some ⟨pa, 0, none⟩), .int .i64 l.key, .int .i64 l.elem, .int .i64 l.ka, .int .i64 l.ea, .int .i64 l.cap, .int .i64 l.eo, .int .i64 l.bo, .int .i64 l.slot, .int .i64 l.group, .int .i64 offI] 27 (0, 0)) :: pt ph (.cells #[.int .i64 u0, .int .i64 u1, .int .i64 u2, .int .i64 (((nn : Nat) : Int))] 57 (0, 0)) :: arenaH pa s :: Fr))
   refine t_draw mixed ?_
   apply dq 0 O
   ·exact yq (qlda O yA27 yS27)
   apply dq 1 O
   ·exact yq (q_move O)
   apply dq 2 O
   ·exact yq (qadd O O)
   apply dq 3 O
   ·exact yq (qfa 18 O yU73 O O yS71)
   apply dq 4 O
   ·exact yq (q_indexAddrA O O yU71 yS3 (by omega))
   apply dq 5 O
   ·apply yq
    apply q_loadP1 (v := .int .i64 (((kid t (i + 1)).o : Nat) : Int)) rfl yA3
    ·exact tk
    ·rw [show (((i : Nat) : Int) + 1).toNat = i + 1 by omega, Nat.mul_one]; exact pkV_kid _ _ _ _ (pad_len h2) (hkid (i + 1) (by omega))
   apply d_eff2 6 7
   ·kernel_rfl
   ·apply effAt (q1 := [0, 5, 4, 3, 2, 1]) (q2 := []) [(39, _), (44, _)]
    ·exact gO
    ·exact ⟨O, O, trivial⟩
    ·kernel_rfl
    intro Ex
    refine lc1 O O O (readT_ok pa s hl _ hs (E.kidT hi1)) ?_
    refine l_nil ?_
    apply n_d
    ·exact trivial
    refine d_eff1 [] [] 7 [] gO trivial (by kernel_rfl) (by kernel_rfl) fun Ex => ?_
    refine o_allocA O yZ73 fun b10 => l_nil ?_
    apply n_d
    ·exact trivial
    refine d_eff1 [] [] 8 [(10, _), (45, _)] gO ⟨rfl, rfl, trivial⟩ (by kernel_rfl) (by kernel_rfl) fun Ex => ?_
    apply o_storeP (us := nodeT (h) (kid t (i + 1))) (xs' := nodeT (h) (kid t (i + 1))) rfl rfl rfl yS73 (nodeT_len (E.ok2 (show i + 1 ≤ t.ps.length by omega))) (List.all_eq_true.2 (node_one _ _ _ _ _ _))
    ·exact tk
    ·decide
    ·exact lay_full (by rw [nodeT_len (E.ok2 (show i + 1 ≤ t.ps.length by omega))]; rfl)
    refine l_nil ?_
    apply n_d
    ·exact trivial
    refine d_end (by kernel_rfl) ?_
    apply n_join (b10)
    ·exact trivial
    ·exact ⟨O, O, O, O, O, O, trivial⟩
    ·exact en
   ·apply effAt (q1 := []) (q2 := [5, 4, 3, 2, 1, 0]) []
    ·exact gO
    ·exact trivial
    ·kernel_rfl
    intro Ex
    refine o_allocA O yZ73 fun b10 => l_nil ?_
    apply n_d
    ·refine ⟨?_, ?_, ?_, ?_, ?_, ?_, trivial⟩
     ·apply ya O O
      apply yq
      apply q_loadP1 (v := .int .i64 (((kid t (i + 1)).o : Nat) : Int)) rfl yA3
      ·exact tk
      ·rw [show (((i : Nat) : Int) + 1).toNat = i + 1 by omega, Nat.mul_one]; exact pkV_kid _ _ _ _ (pad_len h2) (hkid (i + 1) (by omega))
     ·apply ya O O; exact yq (q_indexAddrA O O yU71 yS3 (by omega))
     ·apply ya O O; exact yq (qfa 18 O yU73 O O yS71)
     ·apply ya O O; exact yq (qadd O O)
     ·apply ya O O; exact yq (q_move O)
     ·apply ya O O; exact yq (qlda O yA27 yS27)
    refine d_eff1 [0, 5, 4, 3, 2, 1] [] 6 [(39, _), (44, _)] gO ⟨rfl, rfl, trivial⟩ (by kernel_rfl) (by kernel_rfl) fun Ex => ?_
    refine lc1 O O O (readT_ok pa s hl _ hs (E.kidT hi1)) ?_
    refine l_nil ?_
    apply n_d
    ·exact trivial
    refine d_eff1 [] [] 8 [(10, _), (45, _)] gO ⟨rfl, rfl, trivial⟩ (by kernel_rfl) (by kernel_rfl) fun Ex => ?_
    apply o_storeP (us := nodeT (h) (kid t (i + 1))) (xs' := nodeT (h) (kid t (i + 1))) rfl rfl rfl yS73 (nodeT_len (E.ok2 (show i + 1 ≤ t.ps.length by omega))) (List.all_eq_true.2 (node_one _ _ _ _ _ _))
    ·exact tk
    ·decide
    ·exact lay_full (by rw [nodeT_len (E.ok2 (show i + 1 ≤ t.ps.length by omega))]; rfl)
    refine l_nil ?_
    apply n_d
    ·exact trivial
    refine d_end (by kernel_rfl) ?_
    apply n_join (b10)
    ·exact trivial
    ·exact ⟨O, O, O, O, O, O, trivial⟩
    ·exact en
   rintro b10 -
   try dsimp only
   refine n_nm ?_
   refine n_code<|t_seq<|sr<|l_q O (qfa 1 O yU73 O O yS3)<|l_q O (qld O yA3) ?_
   refine l_q O (qi O O (b_gtr ·))<|lc<|t_if O (fun c5 => ?_) fun c5 => ?_
   ·rw [if_pos (show 3 < (kid t (i + 1)).ps.length by omega)] at e0 e1
    rw [e0, e1]
    refine sr<|l_q O (qlda O yA27 yS27) ?_
    refine mv O O<|lcf O O O (fromRight_ok pa offI s hl hs b6 b8 b10 h i t (kid t i) (kid t (i + 1)) i E (by omega) rfl rfl E.h5 (by omega) (E.ok3 hi1 (by omega)) (by omega)) ?_
    rintro v L' ⟨m', rfl, rfl, g1, g2⟩
    refine l_nm ?_
    refine lc<|rt ?_
    apply f_ret (.inl rfl) ([pt ph (.cells #[.int .i64 u0, .int .i64 u1, .int .i64 u2, .int .i64 (((nn : Nat) : Int))] 57 (0, 0)), arenaH pa (wm s m')])
    ·exact res0 O
    ·exact ⟨m', rfl, rfl, g1, g2⟩
    ·exact en
   ·rw [if_neg (show ¬ 3 < (kid t (i + 1)).ps.length by omega)] at e0 e1
    rw [e1] at hnn
    rw [e0, e1]
    refine t_skip<|nz<|l_q O (qlda O yA27 yS27) ?_
    refine mv O O ?_
    apply l_q O
    ·apply q_loadP (us := nodeT (h + 1) t) rfl yA73 yS73
     ·exact tk
     ·exact Nat.le_of_eq hnl.symm
     ·exact List.take_of_length_le (Nat.le_of_eq hnl)
    apply l_q O
    ·apply q_loadP (us := nodeT h (kid t i)) rfl yA73 yS73
     ·exact tk
     ·exact Nat.le_of_eq (nodeT_len E.h5).symm
     ·exact List.take_of_length_le (Nat.le_of_eq (nodeT_len E.h5))
    apply l_q O
    ·apply q_loadP (us := nodeT h (kid t (i + 1))) rfl yA73 yS73
     ·exact tk
     ·exact Nat.le_of_eq (nodeT_len (E.ok2 (show i + 1 ≤ t.ps.length by omega))).symm
     ·exact List.take_of_length_le (Nat.le_of_eq (nodeT_len (E.ok2 (show i + 1 ≤ t.ps.length by omega))))
    refine mv O O<|lcf O O O (join_ok pa offI s hl hs ph h i t (kid t i) (kid t (i + 1)) i u0 u1 u2 nn hnn hnb1 E (by omega) rfl rfl E.h5 (E.ok2 hi1) (by omega)) ?_
    rintro v L' ⟨m', rfl, rfl, g1, g2⟩
    refine l_nm ?_
    refine lc<|rt ?_
    apply f_ret (.inl rfl) ([pt ph (.cells #[.int .i64 u0, .int .i64 u1, .int .i64 u2, .int .i64 (((nn - 1 : Nat) : Int))] 57 (0, 0)), arenaH pa (wm (s.gives [(((kid t (i + 1)).o : Nat) : Int)]) m')])
    ·exact res0 O
    ·exact ⟨m', rfl, rfl, g1, g2⟩
    ·exact en
  ·have h1 := E.h1
   rw [if_neg (show ¬ i < t.ps.length by omega)] at e0 e1
   obtain ⟨j, rfl⟩ : ∃ j, i = j + 1 := ⟨i - 1, by omega⟩
   have hjl : j ≤ t.ps.length := by omega
   have hj7 := hlI j hjl
   have hj3 : ¬ 3 < (kid t j).ps.length := fun w => hno ⟨by omega, by rw [Nat.add_sub_cancel]; exact w⟩
   rw [Nat.add_sub_cancel] at e0
   rw [e1] at hnn
   rw [e0, e1]
   refine t_skip<|n_code<|t_draw mixed ?_
   apply dq 0 O
   ·exact yq (qlda O yA27 yS27)
   apply dq 1 O
   ·exact yq (q_move O)
   apply dq 2 O
   ·apply yq
    apply q_loadP (us := nodeT (h + 1) t) rfl yA73 yS73
    ·exact tk
    ·exact Nat.le_of_eq hnl.symm
    ·exact List.take_of_length_le (Nat.le_of_eq hnl)
   apply dq 3 O
   ·exact yq (qlda O yA27 yS27)
   apply dq 4 O
   ·exact yq (q_move O)
   apply dq 5 O
   ·exact yq (qsub O O)
   apply dq 6 O
   ·exact yq (qfa 18 O yU73 O O yS71)
   apply dq 7 O
   ·exact yq (q_indexAddrA O O yU71 yS3 (by omega))
   apply dq 8 O
   ·apply yq
    apply q_loadP1 (v := .int .i64 (((kid t j).o : Nat) : Int)) rfl yA3
    ·exact tk
    ·rw [show (((j + 1 : Nat) : Int) - 1).toNat = j by omega, Nat.mul_one]; exact pkV_kid _ _ _ _ (pad_len h2) (hkid j (by omega))
   apply dq 10 O
   ·apply yq
    apply q_loadP (us := nodeT h (kid t (j + 1))) rfl yA73 yS73
    ·exact tk
    ·exact Nat.le_of_eq (nodeT_len E.h5).symm
    ·exact List.take_of_length_le (Nat.le_of_eq (nodeT_len E.h5))
   apply dq 11 O
   ·exact yq (q_move O)
   apply dq 12 O
   ·exact yq (qsub O O)
   refine d_eff1 [3, 8, 7, 6, 5, 4] [12, 11, 10, 2, 1, 0] 9 [(62, _), (67, _)] gO ⟨rfl, rfl, trivial⟩ (by kernel_rfl) (by kernel_rfl) fun Ex => ?_
   refine lc1 O O O (readT_ok pa s hl _ hs (E.kidT hjl)) ?_
   refine l_nil ?_
   apply n_d
   ·refine ⟨?_, ?_, ?_, ?_, ?_, ?_, trivial⟩
    ·apply ya O O; exact yq (qsub O O)
    ·apply ya O O; exact yq (q_move O)
    ·apply ya O O
     apply yq
     apply q_loadP (us := nodeT h (kid t (j + 1))) rfl yA73 yS73
     ·exact tk
     ·exact Nat.le_of_eq (nodeT_len E.h5).symm
     ·exact List.take_of_length_le (Nat.le_of_eq (nodeT_len E.h5))
    ·apply ya O O
     apply yq
     apply q_loadP (us := nodeT (h + 1) t) rfl yA73 yS73
     ·exact tk
     ·exact Nat.le_of_eq hnl.symm
     ·exact List.take_of_length_le (Nat.le_of_eq hnl)
    ·apply ya O O; exact yq (q_move O)
    ·apply ya O O; exact yq (qlda O yA27 yS27)
   refine d_eff1 [0, 1, 2, 10, 12, 11] [] 13 [(59, _), (60, _), (61, _), (68, _), (69, _), (71, _)] gO ⟨rfl, rfl, rfl, rfl, rfl, rfl, trivial⟩ (by kernel_rfl) (by kernel_rfl) fun Ex => ?_
   rw [show ((j + 1 : Nat) : Int) - 1 = ((j : Nat) : Int) by omega]
   refine lcf O O O (join_ok pa offI s hl hs ph h j t (kid t j) (kid t (j + 1)) (j + 1) u0 u1 u2 nn hnn hnb1 E (by omega) rfl rfl (E.ok2 hjl) E.h5 (by omega)) ?_
   rintro v L' ⟨m', rfl, rfl, g1, g2⟩
   refine l_nm ?_
   refine l_nil ?_
   apply n_d
   ·exact trivial
   refine d_end (by kernel_rfl) ?_
   apply f_ret (.inr rfl) ([pt ph (.cells #[.int .i64 u0, .int .i64 u1, .int .i64 u2, .int .i64 (((nn - 1 : Nat) : Int))] 57 (0, 0)), arenaH pa (wm (s.gives [(((kid t (j + 1)).o : Nat) : Int)]) m')])
   ·exact res0 O
   ·exact ⟨m', rfl, rfl, g1, g2⟩
   ·exact en
/-- What a taking does, of a tree of so many levels. -/
def TakeOk (pa : Nat) (offI : Int) (l : Lay) (ph : Nat) (u0 u1 u2 : Int) (h : Nat) : Prop := ∀ (s : ArS) (t : BT) (k : ByteArray) (nn : Nat), s.ok → TkP l s h t k → (takeG h t k).length ≤ nn → nn ≤ 1000000000 →
  FnOk Try.prog 22 #[.agg #[.pointer (some ⟨pa, 0, none⟩), .int .i64 l.key, .int .i64 l.elem, .int .i64 l.ka, .int .i64 l.ea, .int .i64 l.cap, .int .i64 l.eo, .int .i64 l.bo, .int .i64 l.slot, .int .i64 l.group, .int .i64 offI], .pointer (some ⟨ph, 0, none⟩), .int .i64 ((t.o : Nat) : Int), .string k] [pt ph (.cells #[.int .i64 u0, .int .i64 u1, .int .i64 u2, .int .i64 (((nn : Nat) : Int))] 57 (0, 0)), arenaH pa s]
   (fun v L => ∃ m', v = .tuple #[] ∧ L = [pt ph (.cells #[.int .i64 u0, .int .i64 u1, .int .i64 u2, .int .i64 (((nn - (takeG h t k).length : Nat) : Int))] 57 (0, 0)), arenaH pa (wm (s.gives (gv (takeG h t k))) m')] ∧ TreeM l m' h (takeB h t k) ∧ ∀ a, Away l (offs h t) a → m' a = s.m a)
theorem take_step (ph : Nat) (u0 u1 u2 : Int) (h : Nat) (IH : ∀ g, h = g + 1 → TakeOk pa offI l ph u0 u1 u2 g) : TakeOk pa offI l ph u0 u1 u2 h := by
 intro s t k nn hs P hnn hnb1
 have hnb := nb_bnd hl
 obtain ⟨hk, h2, h3, h4, h5, h6⟩ := P.sub _ _ rfl
 have h7 := (ok_len hk).2
 have hk8 := ks_len hk
 have hle := rk_le t.ps k
 have hpl := takeP_len (h := h - 1) (t := t) (k := k)
 have hto : blkN l t.o ∈ s.bl := h3 _ (by cases h <;> simp [offs])
 have htb : tot h t ≤ 1000000000 := h6
 have ht1 : 1 ≤ tot h t := by
  obtain ⟨p, hp, _⟩ := P.key
  exact List.length_pos_iff.2 (fun e => by rw [e] at hp; cases hp)
 have hpsz : ∀ p ∈ t.ps, szs l p := fun p hp => h5 p (ps_mem hk p hp)
 have wt : ((tot h t : Nat) : Int) - 1 = ((tot h t - 1 : Nat) : Int) := by omega
 refine fn_intro en22 Try.func22 rfl rfl rfl fun Fr w0 => t_nm ?_
 refine sr<|o_boxA O O fun b4 => lz<|l_q O (qlda O yA27 yS27) ?_
 refine mv O O<|lc1 O O O (readT_ok pa s hl _ hs P.sub) ?_
 refine o_allocA O yZ73 fun b8 => ?_
 apply o_storeP (us := nodeT (h) (t)) (xs' := nodeT (h) (t)) rfl rfl rfl yS73 (nodeT_len (hk)) (List.all_eq_true.2 (node_one _ _ _ _ _ _))
 ·exact tk
 ·decide
 ·exact lay_full (by rw [nodeT_len (hk)]; rfl)
 refine lz<|mv O O<|lc1 O O O (find_ok b8 _ _ _ t _ k h7 (sl_ps hk h4)) ?_
 refine mv O O<|l_q O (q_extractL O ga) ?_
 refine l_q O (q_extractL O ga) ?_
 refine asg O O<|asg O O<|lz<|l_q O (qfa 2 O yU73 O O yS3)<|l_q O (qld O yA3) ?_
 refine l_q O (qsub O O) ?_
 refine l_q O (qfa 2 O yU73 O O yS3)<|st O O O yS3 O ?_
 refine lc<|t_seq<|sr<|l_q O (qfa 3 O yU73 O O yS4)<|l_q O (qld O yA4) ?_
 refine lc<|t_if O (fun z => ?_) fun z => ?_
 ·obtain rfl : h = 0 := by cases h with | zero => rfl | succ g => exact absurd z (by simp)
  have hown : own t k = true := (own_iff (o := t.o) (ks := t.ks) h4).2 P.key
  obtain ⟨hpr, _, _⟩ := way_own hk h4 hown
  have hlt := (List.getElem?_eq_some_iff.1 hpr).1
  have hel : (t.ps.eraseIdx (rk t.ps k)).length = t.ps.length - 1 := List.length_eraseIdx_of_lt hlt
  have hks : t.ks = [] := hk.2.2
  have htl : tot 0 t = t.ps.length := rfl
  rw [hks, List.map_nil, wt]
  refine sr<|mv O O<|lc1 O O O (NDrop_ok b8 t.ps.length (rk t.ps k) (.int .i64 ((t.o : Nat) : Int)) (.int .i64 ((tot 0 t - 1 : Nat) : Int)) (.bool (decide ((0 : Nat) = 0))) t.ps [] rfl h7 (Nat.zero_le _) hlt) ?_
  rw [kids_drop0 h7 hlt]
  refine lz<|l_q O (qlda O yA27 yS27) ?_
  apply l_q O
  ·apply q_loadP (us := nodeC ((t.o : Nat) : Int) ((t.ps.length - 1 : Nat) : Int) ((tot 0 t - 1 : Nat) : Int) (decide ((0 : Nat) = 0)) (pad p0 7 (t.ps.eraseIdx (rk t.ps k))) (pad 0 8 [])) rfl yA73 yS73
   ·exact tk
   ·exact Nat.le_of_eq (nodeC_len (pad_len (by omega)) (pad_len (a := 0) (l := ([] : List Nat)) (n := 8) (Nat.zero_le _))).symm
   ·rw [← wt]; exact List.take_of_length_le (Nat.le_of_eq (nodeC_len (pad_len (by omega)) (pad_len (a := 0) (l := ([] : List Nat)) (n := 8) (Nat.zero_le _))))
  refine lcf O O O (writeN_ok pa offI s hl t.o (t.ps.length - 1) (t.ps.eraseIdx (rk t.ps k)) (decide ((0 : Nat) = 0)) [] (tot 0 t - 1) hel (bl_bnd hs hto).2 hto (by omega) (Nat.zero_le _) (fun k hk => by cases hk) (by omega) (fun p hp => hpsz p ((List.eraseIdx_sublist _ _).subset hp))) ?_
  rintro v L' ⟨m1, rfl, rfl, hN, hO⟩
  refine l_nm ?_
  refine lc<|rt ?_
  apply f_ret (.inl rfl) ([pt ph (.cells #[.int .i64 u0, .int .i64 u1, .int .i64 u2, .int .i64 (((nn : Nat) : Int))] 57 (0, 0)), arenaH pa (wm s m1)])
  ·exact res0 O
  ·refine ⟨m1, rfl, rfl, ?_, fun a ha => hO a (ha _ (by simp [offs]))⟩; show NodeM l m1 t.o (t.ps.eraseIdx (rk t.ps k)) true [] (t.ps.eraseIdx (rk t.ps k)).length; rw [hel]; exact hN
  ·exact en
 ·have hh : h ≠ 0 := fun e => z (by rw [e])
  obtain ⟨g, rfl⟩ : ∃ g, h = g + 1 := ⟨h - 1, by omega⟩
  have hpl2 := takeP_len (h := g) (t := t) (k := k)
  have hkl : rk t.ps k < t.ks.length := by have := hk.2.2.1; omega
  have hkm : kid t (rk t.ps k) ∈ t.ks := List.mem_of_getElem? (kid_at hkl)
  have SC : SubT l s (some (g, kid t (rk t.ps k))) := P.sub.nxt hle
  obtain ⟨init, hlast⟩ := last_law (SC _ _ rfl).1
  have hPz : ∀ p ∈ takeP g t k, szs l p := fun p hp => by
   unfold takeP at hp
   split at hp
   ·rcases set_mem hp with rfl | ⟨_, _, w⟩
    ·exact (SC _ _ rfl).2.2.2.2.1 _ (by rw [hlast]; simp)
    ·exact hpsz p (List.mem_of_getElem? w)
   ·exact hpsz p hp
  have hG : (takeG (g + 1) t k).length = (takeG g (kid t (rk t.ps k)) (takeK g t k)).length + (fillG (takeT g t k) (rk t.ps k)).length := List.length_append
  rw [wt]
  refine t_skip<|n_code<|t_seq<|sr<|mv O O<|lc ?_
  apply t_cut (p := (fun _ : Unit => True)) (EE := (fun _ => [(1, .pointer (some ⟨ph, 0, none⟩)), (3, .string (takeK g t k)), (4, .pointer (some ⟨b4, 0, none⟩)), (8, .pointer (some ⟨b8, 0, none⟩)), (9, .int .i64 ((rk t.ps k : Nat) : Int))])) (LL := (fun _ => pt b8 (.cells (nodeC (((t.o : Nat) : Int)) (((t.ps.length : Nat) : Int)) (((tot (g + 1) t - 1 : Nat) : Int)) (decide (g + 1 = 0)) (pad p0 7 (takeP g t k)) (pad 0 8 (t.ks.map BT.o))).toArray 73 (0, 0)) :: pt b4 (.cells #[.pointer (some ⟨pa, 0, none⟩), .int .i64 l.key, .int .i64 l.elem, .int .i64 l.ka, .int .i64 l.ea, .int .i64 l.cap, .int .i64 l.eo, .int .i64 l.bo, .int .i64 l.slot, .int .i64 l.group, .int .i64 offI] 27 (0, 0)) :: pt ph (.cells #[.int .i64 u0, .int .i64 u1, .int .i64 u2, .int .i64 (((nn : Nat) : Int))] 57 (0, 0)) :: arenaH pa s :: Fr))
  refine t_if O (fun o1 => ?_) fun o1 => ?_
  ·have o2 : own t k = true := decide_eq_true o1
   obtain ⟨hpr, _, _⟩ := way_own hk h4 o2
   have hlt := (List.getElem?_eq_some_iff.1 hpr).1
   have hP : takeP g t k = t.ps.set (rk t.ps k) (lastB g (kid t (rk t.ps k))) := by unfold takeP; rw [if_pos o2]
   have hK : takeK g t k = (lastB g (kid t (rk t.ps k))).1 := by unfold takeK; rw [if_pos o2]
   refine t_seq ?_
   apply t_cut (p := (fun _ : Nat => True)) (EE := (fun zz => [(1, .pointer (some ⟨ph, 0, none⟩)), (3, .string k), (4, .pointer (some ⟨b4, 0, none⟩)), (8, .pointer (some ⟨b8, 0, none⟩)), (9, .int .i64 ((rk t.ps k : Nat) : Int)), (11, .pointer (some ⟨zz, 0, none⟩))])) (LL := (fun zz => pt zz (.cells #[.string (lastB g (kid t (rk t.ps k))).1, .string (lastB g (kid t (rk t.ps k))).2] 69 (0, 0)) :: pt b8 (.cells (nodeC (((t.o : Nat) : Int)) (((t.ps.length : Nat) : Int)) (((tot (g + 1) t - 1 : Nat) : Int)) (decide (g + 1 = 0)) (pad p0 7 t.ps) (pad 0 8 (t.ks.map BT.o))).toArray 73 (0, 0)) :: pt b4 (.cells #[.pointer (some ⟨pa, 0, none⟩), .int .i64 l.key, .int .i64 l.elem, .int .i64 l.ka, .int .i64 l.ea, .int .i64 l.cap, .int .i64 l.eo, .int .i64 l.bo, .int .i64 l.slot, .int .i64 l.group, .int .i64 offI] 27 (0, 0)) :: pt ph (.cells #[.int .i64 u0, .int .i64 u1, .int .i64 u2, .int .i64 (((nn : Nat) : Int))] 57 (0, 0)) :: arenaH pa s :: Fr))
   refine t_draw mixed ?_
   apply dq 0 O
   ·exact yq (qlda O yA27 yS27)
   apply dq 1 O
   ·exact yq (q_move O)
   apply dq 2 O
   ·exact yq (qfa 18 O yU73 O O yS71)
   apply dq 3 O
   ·exact yq (q_indexAddrA O O yU71 yS3 (by omega))
   apply dq 4 O
   ·apply yq
    apply q_loadP1 (v := .int .i64 (((kid t (rk t.ps k)).o : Nat) : Int)) rfl yA3
    ·exact tk
    ·rw [Int.toNat_natCast, Nat.mul_one]; exact pkV_kid _ _ _ _ (pad_len h7) (nxt_root hk hle)
   apply d_eff2 5 6
   ·kernel_rfl
   ·apply effAt (q1 := [0, 4, 3, 2, 1]) (q2 := []) [(32, _), (36, _)]
    ·exact gO
    ·exact ⟨O, O, trivial⟩
    ·kernel_rfl
    intro Ex
    refine lc1 O O O (last_ok pa s hl hs SC offI) ?_
    refine l_nil ?_
    apply n_d
    ·exact trivial
    refine d_eff1 [] [] 6 [] gO trivial (by kernel_rfl) (by kernel_rfl) fun Ex => ?_
    refine o_allocA O yZ69 fun b11 => l_nil ?_
    apply n_d
    ·exact trivial
    refine d_eff1 [] [] 7 [(11, _), (37, _)] gO ⟨rfl, rfl, trivial⟩ (by kernel_rfl) (by kernel_rfl) fun Ex => ?_
    refine sta O O O yS69 O O ?_
    refine l_nil ?_
    apply n_d
    ·exact trivial
    refine d_end (by kernel_rfl) ?_
    apply n_join (b11)
    ·exact trivial
    ·exact ⟨O, O, O, O, O, O, trivial⟩
    ·exact en
   ·apply effAt (q1 := []) (q2 := [4, 3, 2, 1, 0]) []
    ·exact gO
    ·exact trivial
    ·kernel_rfl
    intro Ex
    refine o_allocA O yZ69 fun b11 => l_nil ?_
    apply n_d
    ·refine ⟨?_, ?_, ?_, ?_, ?_, trivial⟩
     ·apply ya O O
      apply yq
      apply q_loadP1 (v := .int .i64 (((kid t (rk t.ps k)).o : Nat) : Int)) rfl yA3
      ·exact tk
      ·rw [Int.toNat_natCast, Nat.mul_one]; exact pkV_kid _ _ _ _ (pad_len h7) (nxt_root hk hle)
     ·apply ya O O; exact yq (q_indexAddrA O O yU71 yS3 (by omega))
     ·apply ya O O; exact yq (qfa 18 O yU73 O O yS71)
     ·apply ya O O; exact yq (q_move O)
     ·apply ya O O; exact yq (qlda O yA27 yS27)
    refine d_eff1 [0, 4, 3, 2, 1] [] 5 [(32, _), (36, _)] gO ⟨rfl, rfl, trivial⟩ (by kernel_rfl) (by kernel_rfl) fun Ex => ?_
    refine lc1 O O O (last_ok pa s hl hs SC offI) ?_
    refine l_nil ?_
    apply n_d
    ·exact trivial
    refine d_eff1 [] [] 7 [(11, _), (37, _)] gO ⟨rfl, rfl, trivial⟩ (by kernel_rfl) (by kernel_rfl) fun Ex => ?_
    refine sta O O O yS69 O O ?_
    refine l_nil ?_
    apply n_d
    ·exact trivial
    refine d_end (by kernel_rfl) ?_
    apply n_join (b11)
    ·exact trivial
    ·exact ⟨O, O, O, O, O, O, trivial⟩
    ·exact en
   rintro b11 -
   try dsimp only
   refine n_nm ?_
   refine nz<|mv O O<|l_q O (qlda O yA69 yS69) ?_
   refine l_q O (qfa 4 O yU73 O O yS70)<|l_q O (q_indexAddrA O O yU70 yS69 (by omega)) ?_
   apply o_storeP (us := prV (lastB g (kid t (rk t.ps k)))) (xs' := nodeC ((t.o : Nat) : Int) ((t.ps.length : Nat) : Int) ((tot (g + 1) t - 1 : Nat) : Int) (decide (g + 1 = 0)) (pad p0 7 (takeP g t k)) (pad 0 8 (t.ks.map BT.o))) rfl rfl rfl yS69 rfl rfl
   ·exact tk
   ·rw [Int.toNat_natCast, nodeC_len (pad_len h7) (pad_len hk8), prV_len]; omega
   ·rw [Int.toNat_natCast, lay_pair _ _ _ _ (by rw [pad_len h7]; omega), pad_set h7 hlt, hP]
   refine lr<|l_q O (qfa 0 O yU69 O O yS9)<|l_q O (qld O yA9) ?_
   refine asg O O<|l_nil ?_
   apply n_join (())
   ·exact trivial
   ·exact ⟨rfl, by rw [hK]; rfl, rfl, rfl, rfl, trivial⟩
   ·exact en
  ·have o2 : own t k = false := decide_eq_false o1
   have hP : takeP g t k = t.ps := by unfold takeP; rw [if_neg (by simp [o2])]
   have hK : takeK g t k = k := by unfold takeK; rw [if_neg (by simp [o2])]
   rw [show pad p0 7 t.ps = pad p0 7 (takeP g t k) by rw [hP]]
   refine t_skip ?_
   apply n_join (())
   ·exact trivial
   ·exact ⟨rfl, by rw [hK]; rfl, rfl, rfl, rfl, trivial⟩
   ·exact en
  rintro _ -
  try dsimp only
  refine n_nm ?_
  refine nz<|l_q O (qlda O yA27 yS27) ?_
  apply l_q O
  ·apply q_loadP (us := nodeC ((t.o : Nat) : Int) ((t.ps.length : Nat) : Int) ((tot (g + 1) t - 1 : Nat) : Int) (decide (g + 1 = 0)) (pad p0 7 (takeP g t k)) (pad 0 8 (t.ks.map BT.o))) rfl yA73 yS73
   ·exact tk
   ·exact Nat.le_of_eq (nodeC_len (pad_len (by omega)) (pad_len hk8)).symm
   ·exact List.take_of_length_le (Nat.le_of_eq (nodeC_len (pad_len (by omega)) (pad_len hk8)))
  refine lcf O O O (okA (pa := pa) (writeN_ok pa offI s hl t.o t.ps.length (takeP g t k) (decide (g + 1 = 0)) (t.ks.map BT.o) (tot (g + 1) t - 1) hpl2 (bl_bnd hs hto).2 hto h7 hk8 (kids_o hs P.sub) (by omega) hPz)) ?_
  rintro v L' ⟨⟨m1, rfl, rfl, hN, hO⟩, hA1⟩
  refine l_nm ?_
  refine lc<|t_seq<|t_draw mixed ?_
  apply dq 0 O
  ·exact yq (qlda O yA27 yS27)
  apply dq 1 O
  ·exact yq (q_move O)
  apply dq 2 O
  ·exact yq (q_move O)
  apply dq 3 O
  ·exact yq (qfa 18 O yU73 O O yS71)
  apply dq 4 O
  ·exact yq (q_indexAddrA O O yU71 yS3 (by omega))
  apply dq 5 O
  ·apply yq
   apply q_loadP1 (v := .int .i64 (((kid t (rk t.ps k)).o : Nat) : Int)) rfl yA3
   ·exact tk
   ·rw [Int.toNat_natCast, Nat.mul_one]; exact pkV_kid _ _ _ _ (pad_len (by omega)) (nxt_root hk hle)
  apply dq 6 O
  ·exact yq (q_move O)
  refine d_eff1 [0, 1, 5, 6, 4, 3, 2] [] 7 [(47, _), (48, _), (52, _), (53, _)] gO ⟨rfl, rfl, rfl, rfl, trivial⟩ (by kernel_rfl) (by kernel_rfl) fun Ex => ?_
  refine lcf O O O (okA (pa := pa) (IH g rfl (wm s m1) (kid t (rk t.ps k)) (takeK g t k) nn (hA1 _ (.head _)) (P.kid hO) (by omega) hnb1)) ?_
  rintro v L' ⟨⟨m2, rfl, rfl, hT2, hS2⟩, hA2⟩
  refine l_nm ?_
  have hN' : NodeM l m1 t.o (takeP g t k) false (t.ks.map BT.o) (tot (g + 1) t - 1) := by rw [show decide (g + 1 = 0) = false from decide_eq_false (by omega)] at hN; exact hN
  obtain ⟨q1, q2, q3, q4, q5⟩ := P.mid hl hs hN' hO hT2 hS2
  have hNT : nodeT (g + 1) (takeT g t k) = nodeC ((t.o : Nat) : Int) ((t.ps.length : Nat) : Int) ((tot (g + 1) t - 1 : Nat) : Int) (decide (g + 1 = 0)) (pad p0 7 (takeP g t k)) (pad 0 8 (t.ks.map BT.o)) := by
   show nodeC ((t.o : Nat) : Int) (((takeP g t k).length : Nat) : Int) ((tot (g + 1) (takeT g t k) : Nat) : Int) (decide (g + 1 = 0)) (pad p0 7 (takeP g t k)) (pad 0 8 ((takeT g t k).ks.map BT.o)) = _
   rw [q3, q4, hpl2]
  have hA3 := hA2 _ (.tail _ (.head _))
  rw [gives_wm, wm_wm] at hA3
  rw [gives_wm, wm_wm]
  refine l_nil ?_
  apply n_d
  ·exact trivial
  refine d_end (by kernel_rfl) ?_
  refine n_code<|t_region<|l_q O (qlda O yA27 yS27) ?_
  refine mv O O ?_
  apply l_q O
  ·apply q_loadP (us := nodeT (g + 1) (takeT g t k)) rfl yA73 yS73
   ·exact tk
   ·exact Nat.le_of_eq (nodeC_len (pad_len (by omega)) (pad_len hk8)).symm
   ·rw [hNT]; exact List.take_of_length_le (Nat.le_of_eq (nodeC_len (pad_len (by omega)) (pad_len hk8)))
  refine mv O O<|lcf O O O (fill_ok pa offI (wm (s.gives (gv (takeG g (kid t (rk t.ps k)) (takeK g t k)))) m2) hl hA3 ph g (takeT g t k) (rk t.ps k) u0 u1 u2 (nn - (takeG g (kid t (rk t.ps k)) (takeK g t k)).length) (by omega) (by omega) q2) ?_
  rintro v L' ⟨m3, rfl, rfl, hT3, hS3⟩
  refine l_nm ?_
  refine l_nil ?_
  rw [gives_wm, wm_wm, ← gives_cat, ← gv_app, Nat.sub_sub, ← List.length_append]
  apply f_ret (.inr rfl) ([pt ph (.cells #[.int .i64 u0, .int .i64 u1, .int .i64 u2, .int .i64 (((nn - (takeG g (kid t (rk t.ps k)) (takeK g t k) ++ fillG (takeT g t k) (rk t.ps k)).length : Nat) : Int))] 57 (0, 0)), arenaH pa (wm (s.gives (gv (takeG g (kid t (rk t.ps k)) (takeK g t k) ++ fillG (takeT g t k) (rk t.ps k)))) m3)])
  ·exact res0 O
  ·exact ⟨m3, rfl, rfl, hT3, fun a ha => (hS3 a (ha.mono q5)).trans ((hS2 a (ha.mono fun o ho => offs_kid hkm o ho)).trans (hO a (ha _ (by simp [offs]))))⟩
  ·exact en
theorem take_ok (ph : Nat) (u0 u1 u2 : Int) : ∀ h : Nat, TakeOk pa offI l ph u0 u1 u2 h
 | 0 => take_step pa offI hl ph u0 u1 u2 0 (fun g e => by cases e)
 | h + 1 => take_step pa offI hl ph u0 u1 u2 (h + 1) (fun g e => by cases e; exact take_ok ph u0 u1 u2 h)
end
end Go.Proofs.Ytjekhcojebgpnaa.Bt
