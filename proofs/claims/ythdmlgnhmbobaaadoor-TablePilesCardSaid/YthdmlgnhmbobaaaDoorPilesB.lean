/- Keys of one hash, put one by one: where each lies. No program. -/
import Derived.Test.YthdmlgnhmbobaaaDoorTableP
import Derived.Test.YthdmlgnhmbobaaaDoorProbeWay
import Derived.Test.YthdmlgnhmbobaaaDoorRef03
set_option linter.unusedVariables false
set_option linter.unusedSimpArgs false
set_option maxRecDepth 100000
namespace Go.Proofs.YthdmlgnhmbobaaaDoor.Piles
open Go.RowKit Go.Proofs Go.Proofs.YthdmlgnhmbobaaaDoor.Eng Go.Proofs.YthdmlgnhmbobaaaDoor.Bits Go.Proofs.YthdmlgnhmbobaaaDoor.Layout Go.Proofs.YthdmlgnhmbobaaaDoor.Mem Go.Proofs.YthdmlgnhmbobaaaDoor.CtrlB Go.Proofs.YthdmlgnhmbobaaaDoor.GroupB Go.Proofs.YthdmlgnhmbobaaaDoor.Probe Go.Proofs.YthdmlgnhmbobaaaDoor.TableB Go.Proofs.YthdmlgnhmbobaaaDoor.TableI Go.Proofs.YthdmlgnhmbobaaaDoor.Table Go.Proofs.YthdmlgnhmbobaaaDoor.Ref03

theorem gk_inj {home : Int} {n e a b : Nat} (hn : n = 2 ^ e) (ha : a < n) (hb : b < n) (h : gk home n a = gk home n b) : a = b := by
  have hn0 : 0 < n := by omega
  refine ord_inj (home := home) hn ha hb ?_
  rw [← gk_cast hn0, ← gk_cast hn0, h]
theorem gk_onto {home : Int} {n e g : Nat} (hn : n = 2 ^ e) (hg : g < n) : ∃ t, t < n ∧ gk home n t = g := by
  have hn0 : 0 < n := by omega
  obtain ⟨k, hk, h⟩ := ord_onto (home := home) hn (v := (g : Int)) (by omega) (by omega)
  rw [← gk_cast hn0] at h
  exact ⟨k, hk, by omega⟩
/-- Two bytes tell a small number. -/
theorem textS_byte (n : Int) (w i : Nat) (h : i < w) : byteAt (textS n w) i = byteN n i := by
  unfold textS; rw [byteAt_strM (byteN_bnd n) _ _ h, Nat.zero_add]
theorem textS_inj {a b w : Nat} (hw : 2 ≤ w) (ha : a < 65536) (hb : b < 65536) (h : textS a w = textS b w) : a = b := by
  have h0 := textS_byte a w 0 (by omega)
  have h1 := textS_byte a w 1 (by omega)
  rw [h, textS_byte b w 0 (by omega)] at h0
  rw [h, textS_byte b w 1 (by omega)] at h1
  unfold byteN at h0 h1
  simp only [show (2 : Int) ^ (8 * 0) = 1 from rfl, show (2 : Int) ^ (8 * 1) = 256 from rfl] at h0 h1
  omega

structure PileI (n : Nat) (l : Lay) (h : Int) (k : Nat) (T : Tb) : Prop where
  hk : k ≤ 7 * n
  full : ∀ j, j < k → T.cells (8 * gk (h / 128) n (j / 8) + j % 8) = .full (h % 128) (textS j (kN l)) (textS j (eN l)) j
  emp : ∀ t i, t < n → i < 8 → k ≤ 8 * t + i → T.cells (8 * gk (h / 128) n t + i) = .empty
  used : T.used = k
  left : T.left = 7 * (n : Int) - k

section
variable {n e k : Nat} {l : Lay} {h : Int} {T : Tb} (hI : PileI n l h k T) (hn : n = 2 ^ e) (hk2 : 2 ≤ kN l) (hk3 : k < 60000)
include hI hn hk2 hk3
theorem pile_cell {t i : Nat} (ht : t < n) (hi : i < 8) : T.cells (8 * gk (h / 128) n t + i) = if 8 * t + i < k then .full (h % 128) (textS (8 * t + i : Nat) (kN l)) (textS (8 * t + i : Nat) (eN l)) (8 * t + i : Nat) else .empty := by
  have _ := And.intro hn (And.intro hk2 hk3)
  split
  · next q =>
    have := hI.full (8 * t + i) q
    rw [show (8 * t + i) / 8 = t by omega, show (8 * t + i) % 8 = i by omega] at this
    exact this
  · next q => exact hI.emp t i ht hi (by omega)
theorem pile_hit {j t : Nat} (hj : j < 60000) (ht : t < n) : hitAt (h / 128) n T.cells (h % 128) (textS j (kN l)) t = if j < k ∧ j / 8 = t then j % 8 else 8 := by
  have hc : ∀ i, i < 8 → grpC T.cells (gk (h / 128) n t) i = if 8 * t + i < k then .full (h % 128) (textS (8 * t + i : Nat) (kN l)) (textS (8 * t + i : Nat) (eN l)) (8 * t + i : Nat) else .empty := fun i hi => pile_cell hI hn hk2 hk3 ht hi
  unfold hitAt
  split
  · next q =>
    refine firstF_eq (by omega) ?_ fun i hi => ?_
    · refine hit_of (e := textS j (eN l)) (b := j) ?_
      rw [hc _ (by omega), show 8 * t + j % 8 = j by omega, if_pos q.1]
    · unfold hitS
      rw [hc i (by omega)]
      split
      · next q2 =>
        split at q2
        · cases q2
          simp only [Bool.and_eq_false_imp, decide_eq_true_eq, decide_eq_false_iff_not]
          intro _ q3
          have := textS_inj hk2 (by omega) (by omega) q3
          omega
        · cases q2
      · rfl
  · next q =>
    rw [firstF_none]
    intro i hi
    unfold hitS
    rw [hc i hi]
    split
    · next q2 =>
      split at q2
      · cases q2
        simp only [Bool.and_eq_false_imp, decide_eq_true_eq, decide_eq_false_iff_not]
        intro _ q3
        have := textS_inj hk2 (by omega) (by omega) q3
        omega
      · cases q2
    · rfl
theorem pile_emp {t : Nat} (ht : t < n) : empAt (h / 128) n T.cells t = if t < k / 8 then 8 else if t = k / 8 then k % 8 else 0 := by
  have hc : ∀ i, i < 8 → grpC T.cells (gk (h / 128) n t) i = if 8 * t + i < k then .full (h % 128) (textS (8 * t + i : Nat) (kN l)) (textS (8 * t + i : Nat) (eN l)) (8 * t + i : Nat) else .empty := fun i hi => pile_cell hI hn hk2 hk3 ht hi
  unfold empAt
  split
  · rw [firstF_none]
    intro i hi
    unfold empS
    rw [hc i hi, if_pos (by omega)]
  · split
    · refine firstF_eq (by omega) (emp_iff.2 (by rw [hc _ (by omega), if_neg (by omega)])) fun i hi => ?_
      unfold empS; rw [hc i (by omega), if_pos (by omega)]
    · exact firstF_eq (by omega) (emp_iff.2 (by rw [hc _ (by omega), if_neg (by omega)])) fun i hi => by omega
theorem pile_vac {t : Nat} (ht : t < n) : vacAt (h / 128) n T.cells t = if t < k / 8 then 8 else if t = k / 8 then k % 8 else 0 := by
  have hc : ∀ i, i < 8 → grpC T.cells (gk (h / 128) n t) i = if 8 * t + i < k then .full (h % 128) (textS (8 * t + i : Nat) (kN l)) (textS (8 * t + i : Nat) (eN l)) (8 * t + i : Nat) else .empty := fun i hi => pile_cell hI hn hk2 hk3 ht hi
  unfold vacAt
  split
  · rw [firstF_none]
    intro i hi
    unfold vacS
    rw [hc i hi, if_pos (by omega)]
  · split
    · refine firstF_eq (by omega) (vac_iff.2 (by rw [hc _ (by omega), if_neg (by omega)]; rfl)) fun i hi => ?_
      unfold vacS; rw [hc i (by omega), if_pos (by omega)]
    · exact firstF_eq (by omega) (vac_iff.2 (by rw [hc _ (by omega), if_neg (by omega)]; rfl)) fun i hi => by omega
/-- A key that is there. -/
theorem pile_there {j : Nat} (hj : j < k) : (searchR (h / 128) n T.cells (h % 128) (textS j (kN l))).slot = 8 * ((gk (h / 128) n (j / 8) : Nat) : Int) + ((j % 8 : Nat) : Int) ∧ (searchR (h / 128) n T.cells (h % 128) (textS j (kN l))).probes = ((j / 8 : Nat) : Int) + 1 := by
  have hk7 := hI.hk
  have := search_hit (home := h / 128) (n := n) (cells := T.cells) (tag := h % 128) (key := textS j (kN l)) (k := j / 8) (by omega) (fun i hi => by
    unfold stopAt
    rw [pile_hit hI hn hk2 hk3 (by omega) (by omega), pile_emp hI hn hk2 hk3 (by omega), if_neg (by omega), if_pos (by omega)]; rfl) (by rw [pile_hit hI hn hk2 hk3 (by omega) (by omega), if_pos ⟨hj, rfl⟩]; omega)
  rw [this]
  refine ⟨?_, rfl⟩
  show 8 * ((gk (h / 128) n (j / 8) : Nat) : Int) + ((hitAt (h / 128) n T.cells (h % 128) (textS j (kN l)) (j / 8) : Nat) : Int) = _
  rw [pile_hit hI hn hk2 hk3 (by omega) (by omega), if_pos ⟨hj, rfl⟩]
/-- One that is not. -/
theorem pile_not {j : Nat} (hj : k ≤ j) (hj2 : j < 60000) (h0 : 0 < n) : searchR (h / 128) n T.cells (h % 128) (textS j (kN l)) = ⟨-1, 8 * ((gk (h / 128) n (k / 8) : Nat) : Int) + ((k % 8 : Nat) : Int), true, ((k / 8 : Nat) : Int) + 1⟩ := by
  have hk7 := hI.hk
  have hkn : k / 8 < n := by omega
  rw [search_emp (home := h / 128) (n := n) (cells := T.cells) (tag := h % 128) (key := textS j (kN l)) (k := k / 8) hkn (fun i hi => by
    unfold stopAt
    rw [pile_hit hI hn hk2 hk3 (by omega) (by omega), pile_emp hI hn hk2 hk3 (by omega), if_neg (by omega), if_pos (by omega)]; rfl) (by rw [pile_hit hI hn hk2 hk3 (by omega) (by omega), if_neg (by omega)]; omega) (by rw [pile_emp hI hn hk2 hk3 (by omega), if_neg (by omega), if_pos rfl]; omega)]
  have hv := pile_vac hI hn hk2 hk3 hkn
  rw [if_neg (by omega), if_pos rfl] at hv
  have hno : vacI (h / 128) n T.cells (k / 8) < 0 := by
    rw [vacI_nn]
    unfold vst
    rw [List.find?_range_eq_none]
    intro t ht
    rw [pile_vac hI hn hk2 hk3 (by omega), if_pos ht]; rfl
  obtain ⟨v1, v2⟩ := vac_take hno (by rw [hv]; omega)
  rw [v1, v2, hv]
  congr 1
  rw [emp_iff.2]
  show T.cells (8 * gk (h / 128) n (k / 8) + k % 8) = _
  exact hI.emp _ _ hkn (by omega) (by omega)
/-- The next one put. -/
theorem pile_put (h0 : 0 < n) (hlt : k < 7 * n) : (putT n T h (textS k (kN l)) (textS k (eN l)) k).1 = 2 ∧ PileI n l h (k + 1) (putT n T h (textS k (kN l)) (textS k (eN l)) k).2 := by
  have hs := pile_not hI hn hk2 hk3 (Nat.le_refl k) (by omega) h0
  have hl := hI.left
  unfold putT
  rw [hs, if_neg (by simp), if_neg (by simp; omega)]
  refine ⟨rfl, ?_⟩
  have e0 : (8 * ((gk (h / 128) n (k / 8) : Nat) : Int) + ((k % 8 : Nat) : Int)).toNat = 8 * gk (h / 128) n (k / 8) + k % 8 := by omega
  refine ⟨by omega, fun j hj => ?_, fun t i ht hi hle => ?_, by simp [hI.used], by simp [hI.left]; omega⟩
  · show updC T.cells _ _ _ = _
    simp only [e0]
    by_cases q : j = k
    · subst q; rw [updC_same]
    · rw [updC_ne, hI.full j (by omega)]
      intro q2
      have h1 : gk (h / 128) n (j / 8) = gk (h / 128) n (k / 8) := by omega
      have := gk_inj hn (by omega) (by omega) h1
      omega
  · show updC T.cells _ _ _ = _
    simp only [e0]
    rw [updC_ne, hI.emp t i ht hi (by omega)]
    intro q2
    have h1 : gk (h / 128) n t = gk (h / 128) n (k / 8) := by omega
    have := gk_inj hn ht (by omega) h1
    omega
/-- No room. -/
theorem pile_full {j : Nat} (h0 : 0 < n) (heq : k = 7 * n) (hj : k ≤ j) (hj2 : j < 60000) : putT n T h (textS j (kN l)) (textS j (eN l)) j = (3, T) := by
  have hs := pile_not hI hn hk2 hk3 hj hj2 h0
  have hl := hI.left
  unfold putT
  rw [hs, if_neg (by simp), if_pos (by simp; omega)]
end
theorem pile_new {n : Nat} (l : Lay) (h : Int) (T : Tb) (hc : T.cells = fun _ => .empty) (hu : T.used = 0) (hl : T.left = 7 * (n : Int)) : PileI n l h 0 T := ⟨by omega, fun j hj => by omega, fun _ _ _ _ _ => by rw [hc], by rw [hu]; rfl, by rw [hl]; simp⟩
end Go.Proofs.YthdmlgnhmbobaaaDoor.Piles
