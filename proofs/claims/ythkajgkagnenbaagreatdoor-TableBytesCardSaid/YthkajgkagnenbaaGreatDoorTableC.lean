import Derived.Test.YthkajgkagnenbaaGreatDoorTableI
import Derived.Test.YthkajgkagnenbaaGreatDoorGroup
import Derived.Test.YthkajgkagnenbaaGreatDoorBenchB
import Derived.Test.YthkajgkagnenbaaGreatDoorTableN
import Derived.Test.YthkajgkagnenbaaGreatDoorPruneT
import Derived.Test.YthkajgkagnenbaaGreatDoorTableW
import Derived.Test.YthkajgkagnenbaaGreatDoorRefAB
section
/- Cells as values: eight in an array, the full ones of a row. No program's code. -/
set_option linter.unusedVariables false
set_option linter.unusedSimpArgs false
set_option maxRecDepth 100000
namespace Go.Proofs.YthkajgkagnenbaaGreatDoor.Cells
open Go.RowKit Go.Proofs Go.Proofs.YthkajgkagnenbaaGreatDoor.Eng Go.Proofs.YthkajgkagnenbaaGreatDoor.Bits Go.Proofs.YthkajgkagnenbaaGreatDoor.GroupB Go.Proofs.YthkajgkagnenbaaGreatDoor.Group Go.Proofs.YthkajgkagnenbaaGreatDoor.TableB Go.Proofs.YthkajgkagnenbaaGreatDoor.TableI

def cellV (c : Cell) : List Value := [.int .i64 c.kind, .int .i64 c.tagI, .string c.keyS, .string c.elemS, .int .i64 c.birthI]
theorem kind_full {c : Cell} : c.kind = 2 ↔ isFull c = true := by cases c <;> simp [Cell.kind, isFull]
/-- The full cells of the first N, as an iterator hands them over. -/
def cellsV (cs : Nat → Cell) (N : Nat) : List (List Value) := ((List.range N).filter fun i => isFull (cs i)).map fun i => [.int .i64 (i : Nat), .agg #[.int .i64 (cs i).kind, .int .i64 (cs i).tagI, .string (cs i).keyS, .string (cs i).elemS, .int .i64 (cs i).birthI]]
theorem filt_get (p : Nat → Bool) : ∀ {N i : Nat}, i < N → p i = true → ((List.range N).filter p)[(List.range i).countP p]? = some i
 | 0, i, h, _ => by omega
 | N + 1, i, h, hp => by
  rw [List.range_succ, List.filter_append]
  by_cases q : i = N
  ·subst q
   rw [List.countP_eq_length_filter, List.getElem?_append_right (Nat.le_refl _), Nat.sub_self]
   simp [hp]
  ·have ih := filt_get p (N := N) (i := i) (by omega) hp
   rw [List.getElem?_append_left (List.getElem?_eq_some_iff.1 ih).1]
   exact ih
theorem cellsV_len (cs : Nat → Cell) (N : Nat) : (cellsV cs N).length = cnt isFull cs N := by
 unfold cellsV cnt
 rw [List.length_map, List.countP_eq_length_filter]
theorem cellsV_get {cs : Nat → Cell} {N i : Nat} (hi : i < N) (h : isFull (cs i) = true) : (cellsV cs N)[cnt isFull cs i]? = some [.int .i64 (i : Nat), .agg #[.int .i64 (cs i).kind, .int .i64 (cs i).tagI, .string (cs i).keyS, .string (cs i).elemS, .int .i64 (cs i).birthI]] := by
 unfold cellsV cnt
 rw [List.getElem?_map, filt_get (fun i => isFull (cs i)) hi h]; rfl
theorem cellsV_two {cs : Nat → Cell} {N : Nat} : ∀ x ∈ cellsV cs N, x.length = 2 := fun x hx => by
 unfold cellsV at hx
 obtain ⟨i, _, rfl⟩ := List.mem_map.1 hx
 rfl
theorem cellsV_at {cs : Nat → Cell} {N k : Nat} {x : List Value} (h : (cellsV cs N)[k]? = some x) : ∃ i, i < N ∧ isFull (cs i) = true ∧ cnt isFull cs i = k ∧ x = [.int .i64 (i : Nat), .agg #[.int .i64 (cs i).kind, .int .i64 (cs i).tagI, .string (cs i).keyS, .string (cs i).elemS, .int .i64 (cs i).birthI]] := by
 have hk := (List.getElem?_eq_some_iff.1 h).1
 unfold cellsV at h
 rw [List.getElem?_map, Option.map_eq_some_iff] at h
 obtain ⟨i, hi, rfl⟩ := h
 have hm := List.mem_of_getElem? hi
 rw [List.mem_filter, List.mem_range] at hm
 refine ⟨i, hm.1, hm.2, ?_, rfl⟩
 have h2 := filt_get (fun i => isFull (cs i)) hm.1 hm.2
 have hk2 : k < ((List.range N).filter fun i => isFull (cs i)).length := (List.getElem?_eq_some_iff.1 hi).1
 have hnd : ((List.range N).filter fun i => isFull (cs i)).Nodup := List.Nodup.sublist List.filter_sublist List.nodup_range
 exact (List.getElem?_inj (List.getElem?_eq_some_iff.1 h2).1 hnd).1 (h2.trans hi.symm)
theorem cnt_mono {p : Cell → Bool} {cs : Nat → Cell} {i j : Nat} (h : i ≤ j) : cnt p cs i ≤ cnt p cs j := by
 induction j with
 | zero => rw [Nat.le_zero.1 h]; exact Nat.le_refl _
 | succ j ih =>
  by_cases q : i = j + 1
  ·rw [q]; exact Nat.le_refl _
  ·have := ih (by omega)
   rw [cnt_succ]; omega
end Go.Proofs.YthkajgkagnenbaaGreatDoor.Cells
end
section
/- A new table that is filled with a row's full cells; tables and small maps that lie where nothing else is written. No program's code. -/
set_option linter.unusedVariables false
set_option linter.unusedSimpArgs false
set_option maxRecDepth 100000
namespace Go.Proofs.YthkajgkagnenbaaGreatDoor.Refill
open Go.RowKit Go.Proofs Go.Proofs.YthkajgkagnenbaaGreatDoor.Eng Go.Proofs.YthkajgkagnenbaaGreatDoor.Bits Go.Proofs.YthkajgkagnenbaaGreatDoor.Layout Go.Proofs.YthkajgkagnenbaaGreatDoor.Mem Go.Proofs.YthkajgkagnenbaaGreatDoor.CtrlB Go.Proofs.YthkajgkagnenbaaGreatDoor.GroupB Go.Proofs.YthkajgkagnenbaaGreatDoor.Group Go.Proofs.YthkajgkagnenbaaGreatDoor.Probe Go.Proofs.YthkajgkagnenbaaGreatDoor.TableB Go.Proofs.YthkajgkagnenbaaGreatDoor.TableI Go.Proofs.YthkajgkagnenbaaGreatDoor.Table Go.Proofs.YthkajgkagnenbaaGreatDoor.Bench Go.Proofs.YthkajgkagnenbaaGreatDoor.Cells Go.Proofs.YthkajgkagnenbaaGreatDoor.Arena

/-- The table U holds the first k of the full cells. -/
structure RF (H : ByteArray → Int) (cs : Nat → Cell) (N n : Nat) (U : Tb) (lives : List Life) (k : Nat) : Prop where
 bi : BI n H (fun _ => True) U lives k
 is : ∀ i, i < N → isFull (cs i) = true → cnt isFull cs i < k → ∃ v, lives[cnt isFull cs i]? = some v ∧ v.key = (cs i).keyS ∧ v.elem = (cs i).elemS ∧ v.birth = (cs i).birthI
 len : lives.length = k
section
variable {H : ByteArray → Int} {cs : Nat → Cell} {N n k : Nat} {U U' : Tb} {lives : List Life} {out : Int}
end
/-! ### What lies elsewhere stays -/
theorem TabP.moved {s s' : ArS} {off go : Nat} {l : Lay} {n e : Nat} {T : Tb} (h : TabP s off go l n e T) (hg : ∀ o k, goodP s o k → goodP s' o k) (hm : ∀ a, off ≤ a → a < off + 64 → s'.m a = s.m a) (hm2 : ∀ a, go ≤ a → a < go + n * gN l → s'.m a = s.m a) : TabP s' off go l n e T := by
 refine ⟨h.hl, h.he, h.hn, ⟨fun k hk => ?_, fun g hg' j hj => ?_, h.hT.okc⟩, hg _ _ h.gh, hg _ _ h.gg, h.hr, h.dj⟩
 ·rw [← h.hT.head k hk]
  exact loadN_congr fun i hi => hm _ (by omega) (by omega)
 ·have hmul : g * gN l + gN l ≤ n * gN l := by rw [← Nat.succ_mul]; exact Nat.mul_le_mul_right _ hg'
  rw [hm2 _ (by omega) (by omega)]
  exact h.hT.body g hg' j hj
theorem TabP.same {s s' : ArS} {off go : Nat} {l : Lay} {n e : Nat} {T : Tb} (h : TabP s off go l n e T) {o2 g2 k2 : Nat} (hS : SameBut s s' o2 g2 k2) (h1 : off + 64 ≤ o2 ∨ o2 + 64 ≤ off) (h2 : off + 64 ≤ g2 ∨ g2 + k2 ≤ off) (h3 : go + n * gN l ≤ o2 ∨ o2 + 64 ≤ go) (h4 : go + n * gN l ≤ g2 ∨ g2 + k2 ≤ go) : TabP s' off go l n e T :=
 TabP.moved h (fun o k => hS.good) (fun a q1 q2 => hS.m a (by omega) (by omega)) (fun a q1 q2 => hS.m a (by omega) (by omega))
/-- What no put and no delete turns. -/
structure Keeps (T T' : Tb) : Prop where
 pins : T'.pins = T.pins
 next : T'.next = T.next
 kind : T'.kind = T.kind
 depth : T'.depth = T.depth
theorem Keeps.refl (T : Tb) : Keeps T T := ⟨rfl, rfl, rfl, rfl⟩
theorem Keeps.trans {a b c : Tb} (h : Keeps a b) (k : Keeps b c) : Keeps a c := ⟨k.pins.trans h.pins, k.next.trans h.next, k.kind.trans h.kind, k.depth.trans h.depth⟩
end Go.Proofs.YthkajgkagnenbaaGreatDoor.Refill
end
section
/- The document's own table: where its search goes, and that it is the program's. No program's code. -/
set_option linter.unusedVariables false
set_option linter.unusedSimpArgs false
set_option linter.unusedSectionVars false
set_option maxRecDepth 100000
namespace Go.Proofs.YthkajgkagnenbaaGreatDoor.RefT
open Go.RowKit Go.Proofs Go.Proofs.YthkajgkagnenbaaGreatDoor.Eng Go.Proofs.YthkajgkagnenbaaGreatDoor.Bits Go.Proofs.YthkajgkagnenbaaGreatDoor.Mem Go.Proofs.YthkajgkagnenbaaGreatDoor.CtrlB Go.Proofs.YthkajgkagnenbaaGreatDoor.Layout Go.Proofs.YthkajgkagnenbaaGreatDoor.GroupB Go.Proofs.YthkajgkagnenbaaGreatDoor.Probe Go.Proofs.YthkajgkagnenbaaGreatDoor.TableB Go.Proofs.YthkajgkagnenbaaGreatDoor.TableI Go.Proofs.YthkajgkagnenbaaGreatDoor.Table Go.Proofs.YthkajgkagnenbaaGreatDoor.Cells

section
variable {home : Int} {n : Nat} {cells : Nat → Cell} {tag : Int} {key : ByteArray} {k : Nat}
/-- How many groups the way has, up to the first one with an empty slot. -/
def wayN (home : Int) (n : Nat) (cells : Nat → Cell) : Nat := match (List.range n).find? (fun k => decide (empAt home n cells k < 8)) with | some j => j + 1 | none => n
theorem wayN_emp (hk : k < n) (he : empAt home n cells k < 8) (hno : ∀ j, j < k → ¬ empAt home n cells j < 8) : wayN home n cells = k + 1 := by
 unfold wayN
 rw [find_range (k := k) hk (by simpa using he) fun j hj => by simpa using hno j hj]
theorem wayN_none (hno : ∀ j, j < n → ¬ empAt home n cells j < 8) : wayN home n cells = n := by
 unfold wayN
 have : (List.range n).find? (fun k => decide (empAt home n cells k < 8)) = none := by
  rw [List.find?_range_eq_none]
  intro j hj; simpa using hno j hj
 rw [this]
theorem wayN_cases (home : Int) (n : Nat) (cells : Nat → Cell) : (∃ k, k < n ∧ empAt home n cells k < 8 ∧ (∀ j, j < k → ¬ empAt home n cells j < 8) ∧ wayN home n cells = k + 1) ∨ ((∀ j, j < n → ¬ empAt home n cells j < 8) ∧ wayN home n cells = n) := by
 cases e : (List.range n).find? (fun k => decide (empAt home n cells k < 8)) with
 | none =>
  rw [List.find?_range_eq_none] at e
  have hno : ∀ j, j < n → ¬ empAt home n cells j < 8 := fun j hj => by simpa using e j hj
  exact .inr ⟨hno, wayN_none hno⟩
 | some k =>
  rw [List.find?_range_eq_some] at e
  obtain ⟨h1, h2, h3⟩ := e
  have hk : k < n := by simpa using h2
  have he : empAt home n cells k < 8 := by simpa using h1
  have hno : ∀ j, j < k → ¬ empAt home n cells j < 8 := fun j hj => by simpa using h3 j hj
  exact .inl ⟨k, hk, he, hno, wayN_emp hk he hno⟩
theorem wayN_le (home : Int) (n : Nat) (cells : Nat → Cell) : wayN home n cells ≤ n := by
 rcases wayN_cases home n cells with ⟨k, h1, _, _, h2⟩ | ⟨_, h2⟩ <;> omega
theorem wayN_no {j : Nat} (h : j + 1 < wayN home n cells) : ¬ empAt home n cells j < 8 := by
 rcases wayN_cases home n cells with ⟨k, h1, _, h3, h2⟩ | ⟨h3, h2⟩
 ·exact h3 j (by omega)
 ·exact h3 j (by omega)
/-- The groups of the way. -/
def wayL (home : Int) (n k : Nat) : List Int := (List.range k).map fun j => ((gk home n j : Nat) : Int)
theorem wayL_get {j : Nat} (h : j < k) : (wayL home n k)[j]? = some ((gk home n j : Nat) : Int) := by simp [wayL, h]
theorem wayL_next (home : Int) (n k : Nat) : wayL home n (k + 1) = wayL home n k ++ [((gk home n k : Nat) : Int)] := by simp [wayL, List.range_succ]
/-- What is found is what the program's search finds. -/
theorem find_hit (hk : k < wayN home n cells) (hh : hitAt home n cells tag key k < 8) (hno : ∀ j, j < k → ¬ hitAt home n cells tag key j < 8) :
  searchR home n cells tag key = ⟨8 * ((gk home n k : Nat) : Int) + ((hitAt home n cells tag key k : Nat) : Int), vacI home n cells k, vacE home n cells k, (k : Int) + 1⟩ := by
 have hle := wayN_le home n cells
 refine search_hit (by omega) (fun j hj => ?_) hh
 unfold stopAt
 rw [decide_eq_false (hno j hj), decide_eq_false (wayN_no (by omega))]
 rfl
theorem find_no (hno : ∀ k, k < wayN home n cells → ¬ hitAt home n cells tag key k < 8) :
  searchR home n cells tag key = ⟨-1, vacI home n cells (wayN home n cells), vacE home n cells (wayN home n cells), (wayN home n cells : Nat)⟩ := by
 rcases wayN_cases home n cells with ⟨k, h1, h2, h3, h4⟩ | ⟨h3, h4⟩
 ·rw [search_emp h1 (fun j hj => ?_) (hno k (by omega)) h2, h4]
  ·simp
  ·unfold stopAt
   rw [decide_eq_false (hno j (by omega)), decide_eq_false (h3 j hj)]
   rfl
 ·rw [search_none (fun j hj => ?_), h4]
  unfold stopAt
  rw [decide_eq_false (hno j (by omega)), decide_eq_false (h3 j hj)]
  rfl
theorem find_neg (h : (searchR home n cells tag key).slot < 0) : searchR home n cells tag key = ⟨-1, vacI home n cells (wayN home n cells), vacE home n cells (wayN home n cells), (wayN home n cells : Nat)⟩ := by
 refine find_no fun k hk hh => ?_
 obtain ⟨k0, h0, h1⟩ : ∃ k0, (k0 < wayN home n cells ∧ hitAt home n cells tag key k0 < 8) ∧ ∀ j, j < k0 → ¬ hitAt home n cells tag key j < 8 := by
  induction k using Nat.strongRecOn with
  | _ k ih =>
   by_cases q : ∃ j, j < k ∧ hitAt home n cells tag key j < 8
   ·obtain ⟨j, hj, hh2⟩ := q
    exact ih j hj (by omega) hh2
   ·exact ⟨k, ⟨hk, hh⟩, fun j hj hh2 => q ⟨j, hj, hh2⟩⟩
 rw [find_hit h0.1 h0.2 h1] at h
 dsimp only at h
 omega
/-- The first vacant slot of the way. -/
theorem vac_hit {w : Nat} (hk : k < w) (h : vacAt home n cells k < 8) (hno : ∀ j, j < k → ¬ vacAt home n cells j < 8) : vacI home n cells w = 8 * ((gk home n k : Nat) : Int) + ((vacAt home n cells k : Nat) : Int) ∧ vacE home n cells w = empS (grpC cells (gk home n k)) (vacAt home n cells k) := by
 have : vst home n cells w = some k := by
  unfold vst
  exact find_range hk (by simpa using h) fun j hj => by simpa using hno j hj
 unfold vacI vacE
 rw [this]; exact ⟨rfl, rfl⟩
theorem vac_no {w : Nat} (hno : ∀ j, j < w → ¬ vacAt home n cells j < 8) : vacI home n cells w = -1 := by
 have : vst home n cells w = none := by
  unfold vst
  rw [List.find?_range_eq_none]
  intro j hj; simpa using hno j hj
 unfold vacI
 rw [this]
/-- A step on the way. -/
theorem gk_zero (home : Int) (hn : 0 < n) (hh : 0 ≤ home) : ((gk home n 0 : Nat) : Int) = home % (n : Int) := by
 unfold gk ord
 have := Int.emod_nonneg home (show (n : Int) ≠ 0 by omega)
 simp only [Nat.zero_mul, Nat.zero_div, Int.natCast_zero, Int.add_zero]
 omega
theorem gk_next (home : Int) (hn : 0 < n) (k : Nat) : ((gk home n (k + 1) : Nat) : Int) = (((gk home n k : Nat) : Int) + ((k + 1 : Nat) : Int)) % (n : Int) := by
 have e1 : ((gk home n k : Nat) : Int) = ord home n k := Int.toNat_of_nonneg (Int.emod_nonneg _ (by omega))
 have e2 : ((gk home n (k + 1) : Nat) : Int) = ord home n (k + 1) := Int.toNat_of_nonneg (Int.emod_nonneg _ (by omega))
 rw [e1, e2]
 unfold ord
 rw [tri_succ, Int.emod_add_emod]
 congr 1
 omega
end
/-- A cell that is not full. -/
theorem vacS_iff {cs : Nat → Cell} {i : Nat} : vacS cs i = !isFull (cs i) := by
 unfold vacS isFull
 cases cs i <;> rfl
theorem empS_iff {cs : Nat → Cell} {i : Nat} : empS cs i = isEmp (cs i) := by
 unfold empS isEmp
 cases cs i <;> rfl
theorem kind_empty {c : Cell} : c.kind = 0 ↔ isEmp c = true := by cases c <;> simp [Cell.kind, isEmp]
theorem hitS_iff {cs : Nat → Cell} {tag : Int} {key : ByteArray} {i : Nat} : hitS cs tag key i = true ↔ (cs i).kind = 2 ∧ (cs i).tagI = tag ∧ (cs i).keyS = key := by
 unfold hitS
 cases cs i <;> simp [Cell.kind, Cell.tagI, Cell.keyS]
/-- No slot of a group so far. -/
theorem first_none {s : Nat → Bool} (h : ∀ i, i < 8 → s i = false) : ¬ firstF s < 8 := by rw [firstF_none.2 h]; decide
/-- Taken slots. -/
def takenN (cells : Nat → Cell) (i : Nat) : Nat := cnt (fun c => !isEmp c) cells i
theorem taken_eq (cells : Nat → Cell) (N : Nat) : takenN cells N = cnt isFull cells N + cnt isDel cells N := by
 induction N with
 | zero => rfl
 | succ N ih =>
  unfold takenN at ih ⊢
  rw [cnt_succ, cnt_succ, cnt_succ, ih]
  cases cells N <;> simp [isEmp, isFull, isDel] <;> omega
end Go.Proofs.YthkajgkagnenbaaGreatDoor.RefT
end
section
/- Contracts of package table: Cells, a range over the full slots. -/
set_option linter.unusedVariables false
set_option linter.unusedSimpArgs false
set_option maxRecDepth 100000
namespace Go.Proofs.YthkajgkagnenbaaGreatDoor.Table
open Go.RowKit Go.Proofs Go.Proofs.YthkajgkagnenbaaGreatDoor.Eng Go.Proofs.YthkajgkagnenbaaGreatDoor.Ty Go.Proofs.YthkajgkagnenbaaGreatDoor.Bits Go.Proofs.YthkajgkagnenbaaGreatDoor.Mem Go.Proofs.YthkajgkagnenbaaGreatDoor.Search Go.Proofs.YthkajgkagnenbaaGreatDoor.Arena Go.Proofs.YthkajgkagnenbaaGreatDoor.CtrlB Go.Proofs.YthkajgkagnenbaaGreatDoor.Ctrl Go.Proofs.YthkajgkagnenbaaGreatDoor.Layout Go.Proofs.YthkajgkagnenbaaGreatDoor.GroupB Go.Proofs.YthkajgkagnenbaaGreatDoor.Group Go.Proofs.YthkajgkagnenbaaGreatDoor.Probe Go.Proofs.YthkajgkagnenbaaGreatDoor.TableB Go.Proofs.YthkajgkagnenbaaGreatDoor.TableI Go.Proofs.YthkajgkagnenbaaGreatDoor.Cells

/-- The first cells of a table. -/
def firstL (cs : Nat → Cell) (i : Nat) : List Cell := (List.range i).map cs
theorem firstL_len (cs : Nat → Cell) (i : Nat) : (firstL cs i).length = i := by simp [firstL]
theorem firstL_get {cs : Nat → Cell} {i j : Nat} (h : j < i) : (firstL cs i)[j]? = some (cs j) := by simp [firstL, h]
theorem firstL_next (cs : Nat → Cell) (i : Nat) : rowOf cellV (firstL cs i) ++ cellV (cs i) = rowOf cellV (firstL cs (i + 1)) := by
 unfold firstL; rw [List.range_succ, List.map_append, rowOf_app]; simp [rowOf]
theorem cellV5 (c : Cell) : (cellV c).length = 5 := rfl
theorem TCells_ok (pa off : Nat) (l : Lay) : FnOk Tryz.prog 141 #[.agg #[.pointer (some ⟨pa, 0, none⟩), .int .i64 l.key, .int .i64 l.elem, .int .i64 l.ka, .int .i64 l.ea, .int .i64 l.cap, .int .i64 l.eo, .int .i64 l.bo, .int .i64 l.slot, .int .i64 l.group, .int .i64 (off : Nat)]] [] (fun v L => ∃ bc, v = .func (.func 200) #[] #[.pointer (some ⟨bc, 0, none⟩)] ∧ L = [pt bc (.cells #[.pointer (some ⟨pa, 0, none⟩), .int .i64 l.key, .int .i64 l.elem, .int .i64 l.ka, .int .i64 l.ea, .int .i64 l.cap, .int .i64 l.eo, .int .i64 l.bo, .int .i64 l.slot, .int .i64 l.group, .int .i64 (off : Nat)] 39 (0, 0))]) := by
 refine fn_intro en141 Tryz.func141 rfl rfl rfl fun Fr w0 => t_nm ?_
 exact sr<|o_boxA O O fun b1 => asg O O<|lz<|l_q O (q_makeFunc O O)<|asg O O<|lc<|rt<|fr1 O ([pt b1 (.cells #[.pointer (some ⟨pa, 0, none⟩), .int .i64 l.key, .int .i64 l.elem, .int .i64 l.ka, .int .i64 l.ea, .int .i64 l.cap, .int .i64 l.eo, .int .i64 l.bo, .int .i64 l.slot, .int .i64 l.group, .int .i64 (off : Nat)] 39 (0, 0))]) (.tmp rfl) ⟨b1, rfl, rfl⟩
theorem TCells_itS (pa off go n e bc : Nat) (s : ArS) (l : Lay) (T : Tb) (hP : TabP s off go l n e T) : IterH Tryz.prog 200 #[.pointer (some ⟨bc, 0, none⟩)] [pt bc (.cells #[.pointer (some ⟨pa, 0, none⟩), .int .i64 l.key, .int .i64 l.elem, .int .i64 l.ka, .int .i64 l.ea, .int .i64 l.cap, .int .i64 l.eo, .int .i64 l.bo, .int .i64 l.slot, .int .i64 l.group, .int .i64 (off : Nat)] 39 (0, 0))] [arenaH pa s] (cellsV T.cells (8 * n)) [pt bc (.cells #[.pointer (some ⟨pa, 0, none⟩), .int .i64 l.key, .int .i64 l.elem, .int .i64 l.ka, .int .i64 l.ea, .int .i64 l.cap, .int .i64 l.eo, .int .i64 l.bo, .int .i64 l.slot, .int .i64 l.group, .int .i64 (off : Nat)] 39 (0, 0))] [pt bc (.cells #[.pointer (some ⟨pa, 0, none⟩), .int .i64 l.key, .int .i64 l.elem, .int .i64 l.ka, .int .i64 l.ea, .int .i64 l.cap, .int .i64 l.eo, .int .i64 l.bo, .int .i64 l.slot, .int .i64 l.group, .int .i64 (off : Nat)] 39 (0, 0))] := by
 have hn8 := hP.n0
 refine ⟨en200, fun l' B S' C hC hY => ?_⟩
 show FnOk _ _ #[.func (.yield l') #[] #[], .pointer (some ⟨bc, 0, none⟩)] _ _
 refine fn_intro en200 Tryz.func200 rfl rfl rfl fun Fr w0 => t_nm ?_
 refine t_pure (φ := s.ok) (fun w hw => arena_ok hw (.there .here)) fun hok0 => ?_
 refine sr<|l_q O (qlda O yA39 yS39) ?_
 refine lc1 O O O (StatP_ok pa off go n e s l T hP) ?_
 refine mv O O<|l_q O (q_extractL O ga) ?_
 refine l_q O (q_extractL O ga) ?_
 refine o_allocA O yZ147 fun b3 => sta O O O yS147 O O ?_
 refine asg O O<|lc<|t_seq<|sr<|mv O O<|l_q O (qi O O (b_neq ·))<|lc<|t_if O (fun z0 => ?_) fun z0 => ?_
 ·exact absurd rfl z0
 ·refine t_skip<|nz<|l_q O (qfa 1 rfl yU147 O O yS3)<|l_q O (qld O yA3) ?_
  refine o_makeSlice0 (sz := 5) (rowOf cellV (firstL T.cells 0)) rfl rfl rfl rfl Tryz.underlying43 yI142 (by omega) (by omega) fun b20 => ?_
  refine asg O O<|lc<|t_seq<|sr<|l_q O (qfa 1 rfl yU147 O O yS3)<|l_q O (qld O yA3) ?_
  refine mv O O<|lc<|t_block ?_
  rw [show (8 * (n : Int)).toNat = 8 * n by omega]
  refine t_loop (fun x : Nat × Value => x.1 ≤ 8 * n) (fun x => [(0, .func (.yield l') #[] #[]), (1, .pointer (some ⟨bc, 0, none⟩)), (3, .pointer (some ⟨b3, 0, none⟩)), (5, x.2), (22, .int .i64 (8 * (n : Int))), (23, .int .i64 (x.1 : Nat))]) (fun x => ownS 142 5 x.2 x.1 (rowOf cellV (firstL T.cells x.1)) :: pt b3 (.cells #[.int .i64 T.used, .int .i64 (8 * (n : Int)), .int .i64 T.left, .int .i64 T.depth, .int .i64 T.pins, .int .i64 T.next, .bool (decide (T.kind = 4)), .int .i64 (go : Nat)] 147 (0, 0)) :: pt bc (.cells #[.pointer (some ⟨pa, 0, none⟩), .int .i64 l.key, .int .i64 l.elem, .int .i64 l.ka, .int .i64 l.ea, .int .i64 l.cap, .int .i64 l.eo, .int .i64 l.bo, .int .i64 l.slot, .int .i64 l.group, .int .i64 (off : Nat)] 39 (0, 0)) :: arenaH pa s :: (C ++ Fr)) (fun x => 8 * n - x.1) (0, .slice (some ⟨b20, 0, none⟩) 0 (8 * n)) (Nat.zero_le _) ⟨rfl, rfl, rfl, rfl, rfl, rfl, trivial⟩ (by (exact en)) ?_
  rintro ⟨i, vc⟩ hi
  dsimp only at hi ⊢
  refine sr<|l_q O (qi O O (b_lss ·))<|lc<|t_seq<|t_if O (fun h => ?_) fun h => ?_
  ·skip
   have hi8 : i < 8 * n := by omega
   obtain ⟨hgood, hG', hok', hin⟩ := hP.grpAt (g := i / 8) (by omega)
   refine t_skip<|n_code<|t_seq<|t_block<|sr<|mv O O<|asg O O<|lz<|l_q O (qlda O yA39 yS39) ?_
   refine l_q O (qlda O yA147 yS147) ?_
   refine mv O O<|l_q O (qquo O O) ?_
   refine lc1 O O O (groupP_ok pa off go n e s l T hP hok0 (g := i / 8) (by omega) _ (by omega)) ?_
   refine mv O O<|l_q O (qrem O O) ?_
   rw [show ((i : Nat) : Int) % 8 = ((i % 8 : Nat) : Int) by omega]
   refine lc1 O O O (Cell_ok pa (go + i / 8 * gN l) s l (grpC T.cells (i / 8)) hP.hl hgood hG' hok' (i % 8) (by omega)) ?_
   rw [show grpC T.cells (i / 8) (i % 8) = T.cells i by show T.cells (8 * (i / 8) + i % 8) = _; congr 1; omega]
   refine mv O O<|l_q O (q_extractL O ga) ?_
   refine l_q O (q_extractL O ga) ?_
   refine o_allocA O yZ142 fun b7 => sta O O O yS142 O O ?_
   refine asg O O<|lc<|t_seq<|sr<|mv O O<|l_q O (qi O O (b_neq ·))<|lc<|t_if O (fun z => ?_) fun z => ?_
   ·exact absurd rfl z
   ·refine t_skip<|n_code<|t_region<|mv O O<|l_q O (qlda O yA142 yS142) ?_
    refine o_buildSlice (us := [_]) rfl rfl yU43 yS142 yZ142 O O O O O (fun b41 => ?_)
    apply o_append (sz := 5) rfl rfl rfl yU43 yI142 O O
    ·exact tk
    ·exact tk
    ·rfl
    ·rfl
    ·simp only [maxLen]; omega
    ·omega
    intro v42
    refine l_shape (v := v42) tk fun _ hs42 => ?_
    obtain ⟨a42, cap42, rfl, hs42, _, _⟩ := hs42
    refine asg O O<|l_nil<|n_blk<|n_code<|t_region<|l_q O (qadd O O) ?_
    refine mv O O<|l_nil ?_
    rw [show rowOf cellV (firstL T.cells i) ++ ([Value.agg #[.int .i64 (T.cells i).kind, .int .i64 (T.cells i).tagI, .string (T.cells i).keyS, .string (T.cells i).elemS, .int .i64 (T.cells i).birthI]].flatMap fun x => x.cells.toList).toArray.toList = rowOf cellV (firstL T.cells (i + 1)) from (by rw [← firstL_next]; rfl)]
    apply n_again ((i + 1, .slice a42 (i + 1) cap42))
    ·exact (show i + 1 ≤ 8 * n by omega)
    ·dsimp only; omega
    ·exact ⟨rfl, rfl, rfl, rfl, rfl, rfl, trivial⟩
    ·exact en
  ·obtain rfl : i = 8 * n := by omega
   refine t_shape (v := vc) (n := 8 * n) tk fun _ hsh => ?_
   obtain ⟨a0, cap, rfl, hsh, _, _⟩ := hsh
   obtain ⟨g, rfl⟩ := hsh (by omega)
   refine xt O<|nz<|mv O O<|l_q O (ql O yU43)<|mv O O<|lc<|t_block ?_
   refine t_weaken (E' := [(0, .func (.yield l') #[] #[]), (44, .slice (some ⟨g, 0, none⟩) (8 * n) cap), (45, .int .i64 ((8 * n : Nat) : Int)), (46, .int .i64 0)]) (L' := B 0 :: ownS 142 5 (.slice (some ⟨g, 0, none⟩) (8 * n) cap) (8 * n) (rowOf cellV (firstL T.cells (8 * n))) :: pt bc (.cells #[.pointer (some ⟨pa, 0, none⟩), .int .i64 l.key, .int .i64 l.elem, .int .i64 l.ka, .int .i64 l.ea, .int .i64 l.cap, .int .i64 l.eo, .int .i64 l.bo, .int .i64 l.slot, .int .i64 l.group, .int .i64 (off : Nat)] 39 (0, 0)) :: Fr) ⟨rfl, rfl, rfl, rfl, trivial⟩ (fun w hw => ?_) ?_
   ·have h1 : Sat (stars (ownS 142 5 (.slice (some ⟨g, 0, none⟩) (8 * n) cap) (8 * n) (rowOf cellV (firstL T.cells (8 * n))) :: pt bc (.cells #[.pointer (some ⟨pa, 0, none⟩), .int .i64 l.key, .int .i64 l.elem, .int .i64 l.ka, .int .i64 l.ea, .int .i64 l.cap, .int .i64 l.eo, .int .i64 l.bo, .int .i64 l.slot, .int .i64 l.group, .int .i64 (off : Nat)] 39 (0, 0)) :: arenaH pa s :: (C ++ Fr))) w := (show Ent _ _ by (exact en)) w hw
    exact hC _ _ (h1.perm (List.perm_append_comm_assoc [ownS 142 5 (.slice (some ⟨g, 0, none⟩) (8 * n) cap) (8 * n) (rowOf cellV (firstL T.cells (8 * n))), pt bc (.cells #[.pointer (some ⟨pa, 0, none⟩), .int .i64 l.key, .int .i64 l.elem, .int .i64 l.ka, .int .i64 l.ea, .int .i64 l.cap, .int .i64 l.eo, .int .i64 l.bo, .int .i64 l.slot, .int .i64 l.group, .int .i64 (off : Nat)] 39 (0, 0))] (arenaH pa s :: C) Fr))
   refine t_loop (fun i : Nat => i ≤ 8 * n) (fun i => [(0, .func (.yield l') #[] #[]), (44, .slice (some ⟨g, 0, none⟩) (8 * n) cap), (45, .int .i64 ((8 * n : Nat) : Int)), (46, .int .i64 (i : Nat))]) (fun i => B (cnt isFull T.cells i) :: ownS 142 5 (.slice (some ⟨g, 0, none⟩) (8 * n) cap) (8 * n) (rowOf cellV (firstL T.cells (8 * n))) :: pt bc (.cells #[.pointer (some ⟨pa, 0, none⟩), .int .i64 l.key, .int .i64 l.elem, .int .i64 l.ka, .int .i64 l.ea, .int .i64 l.cap, .int .i64 l.eo, .int .i64 l.bo, .int .i64 l.slot, .int .i64 l.group, .int .i64 (off : Nat)] 39 (0, 0)) :: Fr) (fun i => 8 * n - i) 0 (Nat.zero_le _) ⟨rfl, rfl, rfl, rfl, trivial⟩ (Ent.refl _) ?_
   intro i hi
   have hcs := cnt_succ isFull T.cells i
   refine sr<|l_q O (qi O O (b_lss ·))<|lc<|t_seq<|t_if O (fun h2 => ?_) fun h2 => ?_
   ·skip
    have hi8 : i < 8 * n := by omega
    have hcell : ∀ j x, [Value.int .i64 (T.cells i).kind, .int .i64 (T.cells i).tagI, .string (T.cells i).keyS, .string (T.cells i).elemS, .int .i64 (T.cells i).birthI][j]? = some x → CellAt (ownS 142 5 (.slice (some ⟨g, 0, none⟩) (8 * n) cap) (8 * n) (rowOf cellV (firstL T.cells (8 * n)))) ((⟨g, 0 + (i : Int).toNat * 5, none⟩ : Addr).add j) x := fun j x hx => by
     have hj : j < 5 := by rcases Nat.lt_or_ge j 5 with q | q; exact q; rw [List.getElem?_eq_none (by simpa using q)] at hx; cases hx
     rw [add_none, Nat.zero_add, Int.toNat_natCast]
     exact own_cell (by rw [rowOf_get cellV5 (firstL T.cells (8 * n)) i j (T.cells i) (firstL_get hi8) hj]; exact hx)
    refine t_skip<|n_code<|t_seq<|t_block<|sr<|mv O O<|l_q O (q_indexAddr O O yU43 yS142 (by omega)) ?_
    apply l_q O
    ·apply q_loadRA (A := ownS 142 5 (.slice (some ⟨g, 0, none⟩) (8 * n) cap) (8 * n) (rowOf cellV (firstL T.cells (8 * n)))) (us := [.int .i64 (T.cells i).kind, .int .i64 (T.cells i).tagI, .string (T.cells i).keyS, .string (T.cells i).elemS, .int .i64 (T.cells i).birthI]) rfl yA142 yS142 O
     ·exact tk
     ·exact hcell
    refine o_allocA O yZ142 fun b10 => asg O O<|sta O O O yS142 O O ?_
    refine lz<|l_q O (qfa 0 rfl yU142 O O yS3)<|l_q O (qld O yA3) ?_
    refine l_q O (qi O O (b_eql ·))<|mv O O<|l_pt (t := 54) rfl (fun x => ?_) fun x => ?_
    ·refine l_on O O<|mv O O<|l_on O O<|mv O O<|l_on O O<|l_q O (qlda O yA142 yS142) ?_
     refine l_on O O ?_
     have hf := kind_full.1 x
     apply l_yield O O O ((hY _ _ (cellsV_get hi8 hf)))
     ·exact pk
     ·exact pk
     rintro b L' (⟨rfl, rfl⟩ | ⟨rfl, rfl⟩)
     ·refine l_nm ?_
      refine l_on O O<|l_q O (q_un O (u_not ·))<|l_q O (q_pk O O)<|lc<|t_cond_f O<|t_skip<|n_blk<|n_code<|t_region<|l_q O (qadd O O) ?_
      refine mv O O<|l_nil ?_
      rw [hf, if_pos rfl] at hcs
      rw [← hcs]
      apply n_again ((i + 1))
      ·exact (show i + 1 ≤ 8 * n by omega)
      ·omega
      ·exact ⟨rfl, rfl, rfl, rfl, trivial⟩
      ·exact en
     ·refine l_nm ?_
      refine l_on O O<|l_q O (q_un O (u_not ·))<|l_q O (q_pk O O)<|lc<|t_cond_t O<|rt ?_
      apply f_ret (.inl rfl) (_)
      ·exact res0 O
      ·exact .inr ⟨cnt isFull T.cells i, by rw [cellsV_len]; have := cnt_mono (p := isFull) (cs := T.cells) (show i + 1 ≤ 8 * n by omega); rw [hcs, hf, if_pos rfl] at this; omega, rfl⟩
      ·exact en
    ·refine l_off O O O O<|l_off O O O O<|l_off O O O O<|l_off O O O O<|l_off O O O O<|l_q O (q_pk O O)<|lc<|t_cond_f O<|t_skip<|n_blk<|n_code<|t_region<|l_q O (qadd O O) ?_
     refine mv O O<|l_nil ?_
     have hf : ¬ isFull (T.cells i) = true := fun e => x (kind_full.2 e)
     rw [if_neg hf] at hcs
     rw [show cnt isFull T.cells i = cnt isFull T.cells (i + 1) by omega]
     apply n_again ((i + 1))
     ·exact (show i + 1 ≤ 8 * n by omega)
     ·omega
     ·exact ⟨rfl, rfl, rfl, rfl, trivial⟩
     ·exact en
   ·obtain rfl : i = 8 * n := by omega
    refine xt O ?_
    apply f_ret (.inr rfl) (_)
    ·exact res0 O
    ·exact .inl (by rw [cellsV_len])
    ·exact en
theorem TCells_it (pa off go n e bc : Nat) (s : ArS) (l : Lay) (T : Tb) (hP : TabP s off go l n e T) : IterH Tryz.prog 200 #[.pointer (some ⟨bc, 0, none⟩)] [pt bc (.cells #[.pointer (some ⟨pa, 0, none⟩), .int .i64 l.key, .int .i64 l.elem, .int .i64 l.ka, .int .i64 l.ea, .int .i64 l.cap, .int .i64 l.eo, .int .i64 l.bo, .int .i64 l.slot, .int .i64 l.group, .int .i64 (off : Nat)] 39 (0, 0))] [arenaH pa s] (cellsV T.cells (8 * n)) [pt bc (.cells #[.pointer (some ⟨pa, 0, none⟩), .int .i64 l.key, .int .i64 l.elem, .int .i64 l.ka, .int .i64 l.ea, .int .i64 l.cap, .int .i64 l.eo, .int .i64 l.bo, .int .i64 l.slot, .int .i64 l.group, .int .i64 (off : Nat)] 39 (0, 0))] := (TCells_itS pa off go n e bc s l T hP).plain
end Go.Proofs.YthkajgkagnenbaaGreatDoor.Table
end
