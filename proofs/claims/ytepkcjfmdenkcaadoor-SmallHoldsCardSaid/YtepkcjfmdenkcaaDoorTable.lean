/- The contracts of package table: one table of groups. -/
import Derived.Test.YtepkcjfmdenkcaaDoorGroup
import Derived.Test.YtepkcjfmdenkcaaDoorTableI
set_option linter.unusedVariables false
set_option linter.unusedSimpArgs false
set_option maxRecDepth 100000
namespace Go.Proofs.YtepkcjfmdenkcaaDoor.Table
open Go.RowKit Go.Proofs Go.Proofs.YtepkcjfmdenkcaaDoor.Eng Go.Proofs.YtepkcjfmdenkcaaDoor.Ty Go.Proofs.YtepkcjfmdenkcaaDoor.Bits Go.Proofs.YtepkcjfmdenkcaaDoor.Mem Go.Proofs.YtepkcjfmdenkcaaDoor.Search Go.Proofs.YtepkcjfmdenkcaaDoor.Arena Go.Proofs.YtepkcjfmdenkcaaDoor.CtrlB Go.Proofs.YtepkcjfmdenkcaaDoor.Ctrl Go.Proofs.YtepkcjfmdenkcaaDoor.Layout Go.Proofs.YtepkcjfmdenkcaaDoor.GroupB Go.Proofs.YtepkcjfmdenkcaaDoor.Group Go.Proofs.YtepkcjfmdenkcaaDoor.Probe Go.Proofs.YtepkcjfmdenkcaaDoor.TableB Go.Proofs.YtepkcjfmdenkcaaDoor.TableI


/-- The header's words fit. -/
def HOk (T : Tb) (n go : Nat) : Prop := ∀ k, k < 8 → -9223372036854775808 ≤ headV T n go k ∧ headV T n go k ≤ 9223372036854775807
theorem wrap_back {v : Int} (h : -9223372036854775808 ≤ v ∧ v ≤ 9223372036854775807) : IntKind.i64.wrap (IntKind.u64.wrap v) = v := by
  rw [IntKind.wrap_u64, IntKind.wrap_i64]; omega
/-- The header's words read so far. -/
def wl (T : Tb) (n go k : Nat) : List Value := (List.range 8).map fun j => if j < k then .int .i64 (headV T n go j) else .int .i64 0
theorem wl_set (T : Tb) (n go k : Nat) (hk : k < 8) : (wl T n go k).set k (.int .i64 (headV T n go k)) = wl T n go (k + 1) := by
  apply List.ext_getElem?
  intro i
  rw [List.getElem?_set]
  simp only [wl, List.length_map, List.length_range, List.getElem?_map]
  by_cases h : i < 8
  · rw [List.getElem?_range h]
    by_cases q : k = i
    · subst q; simp [h]
    · rw [if_neg q]
      simp only [Option.map_some, Option.some.injEq]
      by_cases q2 : i < k
      · rw [if_pos q2, if_pos (by omega)]
      · rw [if_neg q2, if_neg (by omega)]
  · rw [List.getElem?_eq_none (by simpa using h)]
    simp; intro e; omega
theorem wl_len (T : Tb) (n go k : Nat) : (wl T n go k).length = 8 := by simp [wl]

/-! ### A search -/
def sS (cs : Nat → Cell) (t : Nat) : Nat → Bool := fun i => ctF cs i == t
section
variable {l : Lay} {cs : Nat → Cell} (hok : ∀ i, i < 8 → (cs i).ok l)
include hok
theorem sel_full {t : Nat} (ht : t < 128) {i : Nat} (hi : i < 8) : sS cs t i = true ↔ ∃ k e b, cs i = .full (t : Int) k e b := by
  have h1 := ct_cast hok hi
  unfold sS
  rw [beq_iff_eq]
  cases hc : cs i with
  | empty => rw [hc] at h1; simp only [Cell.ctrl] at h1; constructor; omega; rintro ⟨_, _, _, q⟩; cases q
  | deleted => rw [hc] at h1; simp only [Cell.ctrl] at h1; constructor; omega; rintro ⟨_, _, _, q⟩; cases q
  | full t' k e b =>
    rw [hc] at h1; simp only [Cell.ctrl] at h1
    constructor
    · intro q; exact ⟨k, e, b, by congr 1; omega⟩
    · rintro ⟨_, _, _, q⟩; cases q; omega
theorem emp_eq {i : Nat} (hi : i < 8) : (ctF cs i == 128) = empS cs i := by
  have h1 := ct_cast hok hi
  have h2 := hok i hi
  rw [Bool.eq_iff_iff, beq_iff_eq]
  unfold empS
  cases hc : cs i with
  | empty => rw [hc] at h1; simp only [Cell.ctrl] at h1; simp; omega
  | deleted => rw [hc] at h1; simp only [Cell.ctrl] at h1; simp; omega
  | full t' k e b => rw [hc] at h1 h2; simp only [Cell.ctrl] at h1; obtain ⟨h3, h4, _⟩ := h2; simp; omega
theorem vac_eq {i : Nat} (hi : i < 8) : (ctF cs i == 128 || ctF cs i == 254) = vacS cs i := by
  have h1 := ct_cast hok hi
  have h2 := hok i hi
  rw [Bool.eq_iff_iff, Bool.or_eq_true, beq_iff_eq, beq_iff_eq]
  unfold vacS
  cases hc : cs i with
  | empty => rw [hc] at h1; simp only [Cell.ctrl] at h1; simp; omega
  | deleted => rw [hc] at h1; simp only [Cell.ctrl] at h1; simp; omega
  | full t' k e b => rw [hc] at h1 h2; simp only [Cell.ctrl] at h1; obtain ⟨h3, h4, _⟩ := h2; simp; omega
theorem MatchE_ok : FnOk Tryd.prog 60 #[.int .u64 (wI (ctF cs))] [] (fun v L => v = bitsV (empS cs) ∧ L = []) :=
  (MatchEmpty_ok (ctF cs) (ok_ct hok)).mono fun v L ⟨h1, h2⟩ => ⟨by rw [h1]; unfold bitsV; rw [selW_congr fun i hi => emp_eq hok hi], h2⟩
theorem MatchV_ok : FnOk Tryd.prog 37 #[.int .u64 (wI (ctF cs))] [] (fun v L => v = bitsV (vacS cs) ∧ L = []) :=
  (MatchVacant_ok (ctF cs) (ok_ct hok)).mono fun v L ⟨h1, h2⟩ => ⟨by rw [h1]; unfold bitsV; rw [selW_congr fun i hi => vac_eq hok hi], h2⟩
theorem hit_none {t : Nat} (ht : t < 128) {key : ByteArray} (h : ∀ j (hj : j < (slotsF (sS cs t)).length), (cs (slotsF (sS cs t))[j]).keyS ≠ key) : firstF (hitS cs t key) = 8 := by
  rw [firstF_none]
  intro i hi
  cases q : hitS cs t key i with
  | false => rfl
  | true =>
    exfalso
    obtain ⟨e, b, hc⟩ := hit_cell q
    have hm : i ∈ slotsF (sS cs t) := slotsF_mem.2 ⟨hi, (sel_full hok ht hi).2 ⟨_, _, _, hc⟩⟩
    obtain ⟨j, hj, e2⟩ := List.getElem_of_mem hm
    exact h j hj (by rw [e2, hc]; rfl)
theorem hit_at {t : Nat} (ht : t < 128) {key : ByteArray} {j : Nat} (hj : j < (slotsF (sS cs t)).length) (hno : ∀ j' (hj' : j' < (slotsF (sS cs t)).length), j' < j → (cs (slotsF (sS cs t))[j']).keyS ≠ key) (hk : (cs (slotsF (sS cs t))[j]).keyS = key) :
    firstF (hitS cs t key) = (slotsF (sS cs t))[j] := by
  have hm := slotsF_mem.1 (List.getElem_mem hj)
  obtain ⟨k, e, b, hc⟩ := (sel_full hok ht hm.1).1 hm.2
  refine firstF_eq hm.1 (hit_of (e := e) (b := b) ?_) fun i hi => ?_
  · rw [hc] at hk ⊢; simp only [Cell.keyS] at hk; rw [hk]
  · cases q : hitS cs t key i with
    | false => rfl
    | true =>
      exfalso
      obtain ⟨e, b, hc⟩ := hit_cell q
      have hi8 : i < 8 := by omega
      have hm2 : i ∈ slotsF (sS cs t) := slotsF_mem.2 ⟨hi8, (sel_full hok ht hi8).2 ⟨_, _, _, hc⟩⟩
      obtain ⟨j', hj', e2⟩ := List.getElem_of_mem hm2
      refine hno j' hj' ?_ (by rw [e2, hc]; rfl)
      rcases Nat.lt_trichotomy j' j with q2 | q2 | q2
      · exact q2
      · subst q2; omega
      · have hp : (slotsF (sS cs t)).Pairwise (· < ·) := (List.pairwise_lt_range (n := 8)).filter _
        have := List.pairwise_iff_getElem.1 hp j j' hj hj' q2
        omega
end
theorem slotsV_get {s : Nat → Bool} {j : Nat} {x : List Value} (h : (slotsV s)[j]? = some x) : ∃ hj : j < (slotsF s).length, x = [.int .i64 (((slotsF s)[j] : Nat) : Int)] := by
  simp only [slotsV, List.getElem?_map, Option.map_eq_some_iff] at h
  obtain ⟨a, h1, h2⟩ := h
  obtain ⟨hj, e⟩ := List.getElem?_eq_some_iff.1 h1
  exact ⟨hj, by rw [← h2, e]⟩
theorem slotsV_len (s : Nat → Bool) : (slotsV s).length = (slotsF s).length := by simp [slotsV]
theorem grp_n {n e : Nat} (he : e ≤ 13) (hn : n = 2 ^ e) : grp (n : Int) = n := by
  have : Probe.powB (n : Int) 1 8192 = true := (valid_powB _).2 ⟨e, he, by rw [hn, pow_cast]⟩
  have := (grp_yes this).1
  omega
end Go.Proofs.YtepkcjfmdenkcaaDoor.Table
