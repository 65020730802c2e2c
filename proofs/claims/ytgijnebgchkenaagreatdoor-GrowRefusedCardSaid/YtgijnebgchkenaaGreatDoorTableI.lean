/- What holds of a table behind any puts and deletes. No program. -/
import Derived.Test.YtgijnebgchkenaaGreatDoorTableB
set_option linter.unusedVariables false
set_option linter.unusedSimpArgs false
set_option maxRecDepth 100000
namespace Go.Proofs.YtgijnebgchkenaaGreatDoor.TableI
open Go.RowKit Go.Proofs Go.Proofs.YtgijnebgchkenaaGreatDoor.Eng Go.Proofs.YtgijnebgchkenaaGreatDoor.Bits Go.Proofs.YtgijnebgchkenaaGreatDoor.Layout Go.Proofs.YtgijnebgchkenaaGreatDoor.Mem Go.Proofs.YtgijnebgchkenaaGreatDoor.CtrlB Go.Proofs.YtgijnebgchkenaaGreatDoor.GroupB Go.Proofs.YtgijnebgchkenaaGreatDoor.Probe Go.Proofs.YtgijnebgchkenaaGreatDoor.TableB

def isFull : Cell → Bool
  | .full _ _ _ _ => true
  | _ => false
def isDel : Cell → Bool
  | .deleted => true
  | _ => false
def isEmp : Cell → Bool
  | .empty => true
  | _ => false
/-- How many cells of the first N are such. -/
def cnt (p : Cell → Bool) (cells : Nat → Cell) (N : Nat) : Nat := (List.range N).countP fun i => p (cells i)
theorem cnt_succ (p : Cell → Bool) (cells : Nat → Cell) (N : Nat) : cnt p cells (N + 1) = cnt p cells N + if p (cells N) then 1 else 0 := by
  unfold cnt; rw [List.range_succ, List.countP_append, List.countP_singleton]
theorem cnt_congr {p : Cell → Bool} {c d : Nat → Cell} {N : Nat} (h : ∀ i, i < N → c i = d i) : cnt p c N = cnt p d N := by
  induction N with
  | zero => rfl
  | succ N ih => rw [cnt_succ, cnt_succ, ih fun i hi => h i (by omega), h N (by omega)]
theorem cnt_upd {p : Cell → Bool} {cells : Nat → Cell} {N i : Nat} (hi : i < N) (c : Cell) : cnt p (updC cells i c) N + (if p (cells i) then 1 else 0) = cnt p cells N + if p c then 1 else 0 := by
  induction N with
  | zero => omega
  | succ N ih =>
    rw [cnt_succ, cnt_succ]
    by_cases q : i = N
    · subst q
      rw [cnt_congr (c := updC cells i c) (d := cells) (N := i) fun j hj => updC_ne _ (by omega) _, updC_same]; omega
    · rw [updC_ne _ (by omega)]
      have := ih (by omega)
      omega
theorem cnt_le (p : Cell → Bool) (cells : Nat → Cell) (N : Nat) : cnt p cells N ≤ N := by
  unfold cnt; exact Nat.le_trans List.countP_le_length (by simp)
theorem cnt_all {p : Cell → Bool} {cells : Nat → Cell} {N : Nat} (h : ∀ i, i < N → p (cells i) = true) : cnt p cells N = N := by
  induction N with
  | zero => rfl
  | succ N ih => rw [cnt_succ, ih fun i hi => h i (by omega), h N (by omega)]; rfl
theorem cnt_none {p : Cell → Bool} {cells : Nat → Cell} {N : Nat} (h : ∀ i, i < N → p (cells i) = false) : cnt p cells N = 0 := by
  induction N with
  | zero => rfl
  | succ N ih => rw [cnt_succ, ih fun i hi => h i (by omega), h N (by omega)]; rfl

/-- The counts are those of the cells; no group has empty and deleted slots. -/
structure TCnt (n : Nat) (T : Tb) : Prop where
  mixed : ∀ i j, i < 8 * n → j < 8 * n → i / 8 = j / 8 → T.cells i = .empty → T.cells j ≠ .deleted
  used : T.used = ((cnt isFull T.cells (8 * n) : Nat) : Int)
  left : T.left = 7 * (n : Int) - ((cnt isFull T.cells (8 * n) : Nat) : Int) - ((cnt isDel T.cells (8 * n) : Nat) : Int)
  room : 0 ≤ T.left
/-- A key's way to a group: none ahead of it has an empty slot. -/
def reach (n : Nat) (cells : Nat → Cell) (h : Int) (g : Nat) : Prop := ∃ j, j < n ∧ gk (h / 128) n j = g ∧ ∀ i, i < j → empAt (h / 128) n cells i = 8
/-- The keys: each once, where its hash's way reaches. -/
structure TKey (n : Nat) (H : ByteArray → Int) (cells : Nat → Cell) : Prop where
  uniq : ∀ i j, i < 8 * n → j < 8 * n → ∀ t k e b t' e' b', cells i = .full t k e b → cells j = .full t' k e' b' → i = j
  tag : ∀ i, i < 8 * n → ∀ t k e b, cells i = .full t k e b → t = H k % 128
  way : ∀ i, i < 8 * n → ∀ t k e b, cells i = .full t k e b → reach n cells (H k) (i / 8)

theorem gk_lt {home : Int} {n k : Nat} (hn : 0 < n) : gk home n k < n := by
  unfold gk ord
  have h1 := Int.emod_nonneg (home + ((k * (k + 1) / 2 : Nat) : Int)) (by omega : (n : Int) ≠ 0)
  have h2 := Int.emod_lt_of_pos (home + ((k * (k + 1) / 2 : Nat) : Int)) (by omega : (0 : Int) < (n : Int))
  omega
theorem gk_cast {home : Int} {n k : Nat} (hn : 0 < n) : ((gk home n k : Nat) : Int) = ord home n k := by
  unfold gk ord
  have h1 := Int.emod_nonneg (home + ((k * (k + 1) / 2 : Nat) : Int)) (by omega : (n : Int) ≠ 0)
  omega
theorem hit_cell {cs : Nat → Cell} {tag : Int} {key : ByteArray} {i : Nat} (h : hitS cs tag key i = true) : ∃ e b, cs i = .full tag key e b := by
  unfold hitS at h
  split at h
  · next t k e b hc => simp only [Bool.and_eq_true, decide_eq_true_eq] at h; obtain ⟨rfl, rfl⟩ := h; exact ⟨e, b, hc⟩
  · cases h
theorem hit_of {cs : Nat → Cell} {tag : Int} {key : ByteArray} {i : Nat} {e : ByteArray} {b : Int} (h : cs i = .full tag key e b) : hitS cs tag key i = true := by
  unfold hitS; rw [h]; simp
theorem vac_iff {cs : Nat → Cell} {i : Nat} : vacS cs i = true ↔ isFull (cs i) = false := by unfold vacS isFull; cases cs i <;> simp
theorem emp_iff {cs : Nat → Cell} {i : Nat} : empS cs i = true ↔ cs i = .empty := by unfold empS; cases cs i <;> simp
theorem emp_vac {cs : Nat → Cell} {i : Nat} (h : empS cs i = true) : vacS cs i = true := by unfold empS vacS at *; cases e : cs i <;> rw [e] at h <;> simp_all

section
variable {n : Nat} {cells : Nat → Cell} {h : Int} {key : ByteArray} {H : ByteArray → Int}
theorem slot_lt {g i : Nat} (hg : g < n) (hi : i < 8) : 8 * g + i < 8 * n := by omega
/-- A key that is there is found where it is. -/
theorem find_there (hk : TKey n H cells) {i : Nat} (hi : i < 8 * n) {t : Int} {e : ByteArray} {b : Int} (hc : cells i = .full t key e b) (hh : h = H key) :
    ∃ j, j < n ∧ gk (h / 128) n j = i / 8 ∧ (∀ i', i' < j → empAt (h / 128) n cells i' = 8) ∧ ∃ k, k ≤ j ∧ gk (h / 128) n k = i / 8 ∧ searchR (h / 128) n cells (h % 128) key = ⟨(i : Int), vacI (h / 128) n cells k, vacE (h / 128) n cells k, (k : Int) + 1⟩ := by
  subst hh
  obtain ⟨j, hj, hg, hem⟩ := hk.way i hi _ _ _ _ hc
  have hn : 0 < n := by omega
  have ht := hk.tag i hi _ _ _ _ hc
  have hhit : hitAt (H key / 128) n cells (H key % 128) key j < 8 := by
    unfold hitAt
    refine firstF_hit (i := i % 8) (Nat.mod_lt _ (by decide)) (hit_of (e := e) (b := b) ?_)
    show cells (8 * gk (H key / 128) n j + i % 8) = _
    rw [hg, show 8 * (i / 8) + i % 8 = i by omega, hc, ht]
  have there : ∀ k, k < n → hitAt (H key / 128) n cells (H key % 128) key k < 8 → 8 * gk (H key / 128) n k + hitAt (H key / 128) n cells (H key % 128) key k = i := fun k hkn hlt => by
    obtain ⟨e', b', hc'⟩ := hit_cell (firstF_lt hlt)
    exact hk.uniq _ _ (slot_lt (gk_lt hn) hlt) hi _ _ _ _ _ _ _ hc' hc
  refine ⟨j, hj, hg, hem, ?_⟩
  rcases search_cases (H key / 128) n cells (H key % 128) key with ⟨k, hkn, hno, hlt, hs⟩ | ⟨k, hkn, hno, hlt, hemp, hs⟩ | ⟨hno, hs⟩
  · have := there k hkn hlt
    have hkj : k ≤ j := by
      rcases Nat.lt_or_ge j k with q | q
      · have := hno j q; unfold stopAt at this; simp [hhit] at this
      · exact q
    refine ⟨k, hkj, by omega, ?_⟩
    rw [hs]; congr 1; omega
  · exfalso
    rcases Nat.lt_trichotomy k j with q | q | q
    · have := hem k q; omega
    · subst q; exact hlt hhit
    · have := hno j q; unfold stopAt at this; simp [hhit] at this
  · exfalso
    have := hno j hj; unfold stopAt at this; simp [hhit] at this
/-- One that is not there is not found. -/
theorem find_not (hn : 0 < n) (hno : ∀ i, i < 8 * n → ∀ e b, cells i ≠ .full (h % 128) key e b) : (searchR (h / 128) n cells (h % 128) key).slot = -1 ∧
    ((∃ k, k < n ∧ (∀ j, j < k → empAt (h / 128) n cells j = 8) ∧ empAt (h / 128) n cells k < 8 ∧ searchR (h / 128) n cells (h % 128) key = ⟨-1, vacI (h / 128) n cells (k + 1), vacE (h / 128) n cells (k + 1), (k : Int) + 1⟩) ∨
     ((∀ j, j < n → empAt (h / 128) n cells j = 8) ∧ searchR (h / 128) n cells (h % 128) key = ⟨-1, vacI (h / 128) n cells n, vacE (h / 128) n cells n, n⟩)) := by
  have nohit : ∀ k, k < n → ¬ hitAt (h / 128) n cells (h % 128) key k < 8 := fun k hk hlt => by
    obtain ⟨e', b', hc'⟩ := hit_cell (firstF_lt hlt)
    exact hno _ (slot_lt (gk_lt hn) hlt) _ _ hc'
  have em : ∀ k, k < n → stopAt (h / 128) n cells (h % 128) key k = false → empAt (h / 128) n cells k = 8 := fun k hk hs => by
    unfold stopAt at hs
    simp only [Bool.or_eq_false_iff, decide_eq_false_iff_not] at hs
    have := firstF_le (empS (grpC cells (gk (h / 128) n k)))
    unfold empAt at hs ⊢; omega
  rcases search_cases (h / 128) n cells (h % 128) key with ⟨k, hkn, h2, hlt, hs⟩ | ⟨k, hkn, h2, hlt, hemp, hs⟩ | ⟨h2, hs⟩
  · exact absurd hlt (nohit k hkn)
  · exact ⟨by rw [hs], .inl ⟨k, hkn, fun j hj => em j (by omega) (h2 j hj), hemp, hs⟩⟩
  · exact ⟨by rw [hs], .inr ⟨fun j hj => em j hj (h2 j hj), hs⟩⟩
/-- The first vacant slot, where there is one: its step, its place. -/
theorem vac_at {home : Int} {k : Nat} (hv : ¬ vacI home n cells k < 0) : ∃ j, j < k ∧ vacAt home n cells j < 8 ∧ (∀ i, i < j → vacAt home n cells i = 8) ∧ vacI home n cells k = 8 * ((gk home n j : Nat) : Int) + ((vacAt home n cells j : Nat) : Int) ∧ vacE home n cells k = empS (grpC cells (gk home n j)) (vacAt home n cells j) := by
  rw [vacI_nn] at hv
  cases e : vst home n cells k with
  | none => exact absurd e hv
  | some j =>
    have e2 := e
    unfold vst at e
    rw [List.find?_range_eq_some] at e
    obtain ⟨h1, h2, h3⟩ := e
    refine ⟨j, by simpa using h2, by simpa using h1, fun i hi => ?_, ?_, ?_⟩
    · have := h3 i hi
      have h4 := firstF_le (vacS (grpC cells (gk home n i)))
      simp at this
      unfold vacAt at this ⊢; omega
    · unfold vacI; rw [e2]
    · unfold vacE; rw [e2]
theorem vac_no {home : Int} {k : Nat} (hv : vacI home n cells k < 0) : ∀ j, j < k → vacAt home n cells j = 8 := by
  rw [vacI_nn] at hv
  unfold vst at hv
  rw [List.find?_range_eq_none] at hv
  intro j hj
  have := hv j hj
  have h4 := firstF_le (vacS (grpC cells (gk home n j)))
  simp at this
  unfold vacAt at this ⊢; omega
theorem vac_emp {home : Int} {k : Nat} (hv : vacAt home n cells k = 8) : empAt home n cells k = 8 := by
  unfold vacAt at hv; unfold empAt
  rw [firstF_none] at hv ⊢
  intro i hi
  cases q : empS (grpC cells (gk home n k)) i with
  | false => rfl
  | true => have := emp_vac q; rw [hv i hi] at this; cases this
end
end Go.Proofs.YtgijnebgchkenaaGreatDoor.TableI
