/- Cells as values: eight in an array, the full ones of a row. No program's code. -/
import Derived.Test.YtmdangoaomppdaaGreatDoorTableI
import Derived.Test.YtmdangoaomppdaaGreatDoorGroup
set_option linter.unusedVariables false
set_option linter.unusedSimpArgs false
set_option maxRecDepth 100000
namespace Go.Proofs.YtmdangoaomppdaaGreatDoor.Cells
open Go.RowKit Go.Proofs Go.Proofs.YtmdangoaomppdaaGreatDoor.Eng Go.Proofs.YtmdangoaomppdaaGreatDoor.Bits Go.Proofs.YtmdangoaomppdaaGreatDoor.GroupB Go.Proofs.YtmdangoaomppdaaGreatDoor.Group Go.Proofs.YtmdangoaomppdaaGreatDoor.TableB Go.Proofs.YtmdangoaomppdaaGreatDoor.TableI

def cellV (c : Cell) : List Value := [.int .i64 c.kind, .int .i64 c.tagI, .string c.keyS, .string c.elemS, .int .i64 c.birthI]
theorem lt8 {j : Nat} (h : j < 8) : j = 0 ∨ j = 1 ∨ j = 2 ∨ j = 3 ∨ j = 4 ∨ j = 5 ∨ j = 6 ∨ j = 7 := by omega
abbrev arr8 (cs : Nat → Cell) : List Value := [.int .i64 (cs 0).kind, .int .i64 (cs 0).tagI, .string (cs 0).keyS, .string (cs 0).elemS, .int .i64 (cs 0).birthI,
  .int .i64 (cs 1).kind, .int .i64 (cs 1).tagI, .string (cs 1).keyS, .string (cs 1).elemS, .int .i64 (cs 1).birthI,
  .int .i64 (cs 2).kind, .int .i64 (cs 2).tagI, .string (cs 2).keyS, .string (cs 2).elemS, .int .i64 (cs 2).birthI,
  .int .i64 (cs 3).kind, .int .i64 (cs 3).tagI, .string (cs 3).keyS, .string (cs 3).elemS, .int .i64 (cs 3).birthI,
  .int .i64 (cs 4).kind, .int .i64 (cs 4).tagI, .string (cs 4).keyS, .string (cs 4).elemS, .int .i64 (cs 4).birthI,
  .int .i64 (cs 5).kind, .int .i64 (cs 5).tagI, .string (cs 5).keyS, .string (cs 5).elemS, .int .i64 (cs 5).birthI,
  .int .i64 (cs 6).kind, .int .i64 (cs 6).tagI, .string (cs 6).keyS, .string (cs 6).elemS, .int .i64 (cs 6).birthI,
  .int .i64 (cs 7).kind, .int .i64 (cs 7).tagI, .string (cs 7).keyS, .string (cs 7).elemS, .int .i64 (cs 7).birthI]
theorem arr8_part {cs : Nat → Cell} {i : Int} {j : Nat} (hi : i = (j : Nat)) (hj : j < 8) : (arr8 cs).toArray.extract (i.toNat * 5) (i.toNat * 5 + 5) = #[.int .i64 (cs j).kind, .int .i64 (cs j).tagI, .string (cs j).keyS, .string (cs j).elemS, .int .i64 (cs j).birthI] := by
  subst hi
  rw [Int.toNat_natCast]
  rcases lt8 hj with rfl | rfl | rfl | rfl | rfl | rfl | rfl | rfl <;> rfl
theorem arr8_part0 {cs : Nat → Cell} {i : Int} {j : Nat} (hi : i = (j : Nat)) (hj : j < 8) : (arr8 cs).toArray.extract (0 + i.toNat * 5) (0 + i.toNat * 5 + 5) = #[.int .i64 (cs j).kind, .int .i64 (cs j).tagI, .string (cs j).keyS, .string (cs j).elemS, .int .i64 (cs j).birthI] := by
  rw [Nat.zero_add]; exact arr8_part hi hj
theorem arr8_put {cs : Nat → Cell} {i : Int} {j : Nat} (hi : i = (j : Nat)) (hj : j < 8) (c : Cell) : setCells (arr8 cs).toArray (0 + i.toNat * 5) (cellV c) = (arr8 (updC cs j c)).toArray := by
  subst hi
  rw [Int.toNat_natCast]
  rcases lt8 hj with rfl | rfl | rfl | rfl | rfl | rfl | rfl | rfl <;> simp only [setCells, cellV, arr8, List.setIfInBounds_toArray, List.set, updC, Nat.zero_add, Nat.zero_mul, Nat.add_zero, Nat.reduceMul, Nat.reduceAdd, Nat.reduceEqDiff, if_true, if_false, ↓reduceIte]
theorem arr8_in {cs : Nat → Cell} {i : Int} {j n : Nat} (hi : i = (j : Nat)) (hj : j < 8) (hn : n ≤ 5) : Nat.ble (0 + i.toNat * 5 + n) (arr8 cs).toArray.size = true := Nat.ble_eq_true_of_le (by
  subst hi; rw [Int.toNat_natCast]; show _ ≤ 40; omega)
theorem arr8_get {cs : Nat → Cell} {i : Int} {j : Nat} (hi : i = (j : Nat)) (hj : j < 8) {m : Nat} {v : Value} (h : (cellV (cs j))[m]? = some v) : (arr8 cs).toArray[0 + i.toNat * 5 + m]? = some v := by
  subst hi
  rw [Int.toNat_natCast]
  have hm : m < 5 := by have := (List.getElem?_eq_some_iff.1 h).1; simpa [cellV] using this
  have hm' : m = 0 ∨ m = 1 ∨ m = 2 ∨ m = 3 ∨ m = 4 := by omega
  rcases lt8 hj with rfl | rfl | rfl | rfl | rfl | rfl | rfl | rfl <;> rcases hm' with rfl | rfl | rfl | rfl | rfl <;> exact h
theorem kind_full {c : Cell} : c.kind = 2 ↔ isFull c = true := by cases c <;> simp [Cell.kind, isFull]
/-- The first j of eight. -/
def fstC (cs : Nat → Cell) (j : Nat) : Nat → Cell := fun i => if i < j then cs i else .empty
theorem fstC_next (cs : Nat → Cell) (j : Nat) : updC (fstC cs j) j (cs j) = fstC cs (j + 1) := by
  funext i
  unfold updC fstC
  by_cases q : i = j
  · subst q; simp
  · by_cases r : i < j
    · simp [q, r, show i < j + 1 by omega]
    · simp [q, r, show ¬ i < j + 1 by omega]
theorem arr8_all (cs : Nat → Cell) : (arr8 (fstC cs 8)).toArray.extract 0 (0 + 40) = (arr8 cs).toArray := by
  have e : arr8 (fstC cs 8) = arr8 cs := by simp [fstC]
  rw [e]
  exact Array.extract_size
theorem arr8_set (cs : Nat → Cell) : setCells (arr8 fun _ => .empty).toArray 0 (arr8 cs) = (arr8 cs).toArray := by
  simp only [setCells, arr8, List.setIfInBounds_toArray, List.set, Nat.zero_add, Nat.reduceAdd]
/-- The full cells of the first N, as an iterator hands them over. -/
def cellsV (cs : Nat → Cell) (N : Nat) : List (List Value) := ((List.range N).filter fun i => isFull (cs i)).map fun i => [.int .i64 (i : Nat), .agg #[.int .i64 (cs i).kind, .int .i64 (cs i).tagI, .string (cs i).keyS, .string (cs i).elemS, .int .i64 (cs i).birthI]]
theorem filt_get (p : Nat → Bool) : ∀ {N i : Nat}, i < N → p i = true → ((List.range N).filter p)[(List.range i).countP p]? = some i
  | 0, i, h, _ => by omega
  | N + 1, i, h, hp => by
    rw [List.range_succ, List.filter_append]
    by_cases q : i = N
    · subst q
      rw [List.countP_eq_length_filter, List.getElem?_append_right (Nat.le_refl _), Nat.sub_self]
      simp [hp]
    · have ih := filt_get p (N := N) (i := i) (by omega) hp
      rw [List.getElem?_append_left (List.getElem?_eq_some_iff.1 ih).1]
      exact ih
theorem cellsV_len (cs : Nat → Cell) (N : Nat) : (cellsV cs N).length = cnt isFull cs N := by
  unfold cellsV cnt
  rw [List.length_map, List.countP_eq_length_filter]
theorem cellsV_get {cs : Nat → Cell} {N i : Nat} (hi : i < N) (h : isFull (cs i) = true) : (cellsV cs N)[cnt isFull cs i]? = some [.int .i64 (i : Nat), .agg #[.int .i64 (cs i).kind, .int .i64 (cs i).tagI, .string (cs i).keyS, .string (cs i).elemS, .int .i64 (cs i).birthI]] := by
  unfold cellsV cnt
  rw [List.getElem?_map, filt_get (fun i => isFull (cs i)) hi h]; rfl
theorem cellsV_two {cs : Nat → Cell} {N : Nat} : ∀ x ∈ cellsV cs N, x.length = 2 := fun x hx => by
  unfold cellsV at hx
  obtain ⟨i, _, rfl⟩ := List.mem_map.1 hx
  rfl
theorem cellsV_at {cs : Nat → Cell} {N k : Nat} {x : List Value} (h : (cellsV cs N)[k]? = some x) : ∃ i, i < N ∧ isFull (cs i) = true ∧ cnt isFull cs i = k ∧ x = [.int .i64 (i : Nat), .agg #[.int .i64 (cs i).kind, .int .i64 (cs i).tagI, .string (cs i).keyS, .string (cs i).elemS, .int .i64 (cs i).birthI]] := by
  have hk := (List.getElem?_eq_some_iff.1 h).1
  unfold cellsV at h
  rw [List.getElem?_map, Option.map_eq_some_iff] at h
  obtain ⟨i, hi, rfl⟩ := h
  have hm := List.mem_of_getElem? hi
  rw [List.mem_filter, List.mem_range] at hm
  refine ⟨i, hm.1, hm.2, ?_, rfl⟩
  have h2 := filt_get (fun i => isFull (cs i)) hm.1 hm.2
  have hk2 : k < ((List.range N).filter fun i => isFull (cs i)).length := (List.getElem?_eq_some_iff.1 hi).1
  have hnd : ((List.range N).filter fun i => isFull (cs i)).Nodup := List.Nodup.sublist List.filter_sublist List.nodup_range
  exact (List.getElem?_inj (List.getElem?_eq_some_iff.1 h2).1 hnd).1 (h2.trans hi.symm)
theorem cnt_mono {p : Cell → Bool} {cs : Nat → Cell} {i j : Nat} (h : i ≤ j) : cnt p cs i ≤ cnt p cs j := by
  induction j with
  | zero => rw [Nat.le_zero.1 h]; exact Nat.le_refl _
  | succ j ih =>
    by_cases q : i = j + 1
    · rw [q]; exact Nat.le_refl _
    · have := ih (by omega)
      rw [cnt_succ]; omega
end Go.Proofs.YtmdangoaomppdaaGreatDoor.Cells
