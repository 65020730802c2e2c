import Derived.Test.YthkajgkagnenbaaGreatDoorGroupB
import Derived.Test.YthkajgkagnenbaaGreatDoorProbe
section
/- A table as a function of its cells: where its bytes lie, where a search goes. No program. -/
set_option linter.unusedVariables false
set_option linter.unusedSimpArgs false
set_option maxRecDepth 100000
namespace Go.Proofs.YthkajgkagnenbaaGreatDoor.TableB
open Go.RowKit Go.Proofs Go.Proofs.YthkajgkagnenbaaGreatDoor.Eng Go.Proofs.YthkajgkagnenbaaGreatDoor.Bits Go.Proofs.YthkajgkagnenbaaGreatDoor.Layout Go.Proofs.YthkajgkagnenbaaGreatDoor.Mem Go.Proofs.YthkajgkagnenbaaGreatDoor.CtrlB Go.Proofs.YthkajgkagnenbaaGreatDoor.GroupB Go.Proofs.YthkajgkagnenbaaGreatDoor.Probe

/-- A table: its header's words but two, and its cells. -/
structure Tb where
 kind : Int
 pins : Int
 next : Int
 used : Int
 left : Int
 depth : Int
 cells : Nat → Cell
/-- The header's words. -/
def headV (T : Tb) (n go : Nat) : Nat → Int
 | 0 => T.kind
 | 1 => T.pins
 | 2 => T.next
 | 3 => T.used
 | 4 => 8 * (n : Int)
 | 5 => T.left
 | 6 => T.depth
 | 7 => (go : Int)
 | _ => 0
/-- The cells of a group. -/
def grpC (cells : Nat → Cell) (g : Nat) : Nat → Cell := fun i => cells (8 * g + i)
/-- The table's n groups lie at go, its header at off. -/
structure TAt (m : Nat → Int) (off go : Nat) (l : Lay) (n : Nat) (T : Tb) : Prop where
 head : ∀ k, k < 8 → loadN m (off + 8 * k) 8 = IntKind.u64.wrap (headV T n go k)
 body : ∀ g, g < n → GAt m (go + g * gN l) l (grpC T.cells g)
 okc : ∀ i, i < 8 * n → (T.cells i).ok l

/-! ### A search -/
def hitS (cs : Nat → Cell) (tag : Int) (key : ByteArray) (i : Nat) : Bool := match cs i with
 | .full t k _ _ => decide (t = tag) && decide (k = key)
 | _ => false
def vacS (cs : Nat → Cell) (i : Nat) : Bool := match cs i with
 | .full _ _ _ _ => false
 | _ => true
def empS (cs : Nat → Cell) (i : Nat) : Bool := match cs i with
 | .empty => true
 | _ => false
theorem firstF_le (s : Nat → Bool) : firstF s ≤ 8 := by
 unfold firstF
 cases h : slotsF s with
 | nil => simp
 | cons a r =>
  have := (slotsF_mem (s := s) (i := a)).1 (by rw [h]; simp)
  simp; omega
theorem firstF_lt {s : Nat → Bool} (h : firstF s < 8) : s (firstF s) = true := by
 unfold firstF at h ⊢
 cases e : slotsF s with
 | nil => rw [e] at h; simp at h
 | cons a r =>
  have := (slotsF_mem (s := s) (i := a)).1 (by rw [e]; simp)
  simpa using this.2
theorem firstF_none {s : Nat → Bool} : firstF s = 8 ↔ ∀ i, i < 8 → s i = false := by
 constructor
 ·intro h i hi
  cases e : slotsF s with
  | nil =>
   cases q : s i with
   | false => rfl
   | true => have := (slotsF_mem (s := s) (i := i)).2 ⟨hi, q⟩; rw [e] at this; cases this
  | cons a r =>
   have := (slotsF_mem (s := s) (i := a)).1 (by rw [e]; simp)
   unfold firstF at h; rw [e] at h; simp at h; omega
 ·intro h
  have : slotsF s = [] := by
   cases e : slotsF s with
   | nil => rfl
   | cons a r =>
    have := (slotsF_mem (s := s) (i := a)).1 (by rw [e]; simp)
    rw [h a this.1] at this; cases this.2
  unfold firstF; rw [this]; rfl
theorem firstF_hit {s : Nat → Bool} {i : Nat} (hi : i < 8) (h : s i = true) : firstF s < 8 := by
 have h1 := firstF_le s
 rcases Nat.lt_or_ge (firstF s) 8 with q | q
 ·exact q
 ·have := (firstF_none (s := s)).1 (by omega) i hi
  rw [h] at this; cases this
theorem firstF_least {s : Nat → Bool} {j : Nat} (h : j < firstF s) : s j = false := by
 have hle := firstF_le s
 cases q : s j with
 | false => rfl
 | true =>
  exfalso
  have hm : j ∈ slotsF s := slotsF_mem.2 ⟨by omega, q⟩
  unfold firstF at h
  have hp : (slotsF s).Pairwise (· < ·) := (List.pairwise_lt_range (n := 8)).filter _
  cases e : slotsF s with
  | nil => rw [e] at hm; cases hm
  | cons a r =>
   rw [e] at hm h hp
   simp at h
   rcases List.mem_cons.1 hm with rfl | hm
   ·omega
   ·have := List.rel_of_pairwise_cons hp hm
    omega
theorem firstF_eq {s : Nat → Bool} {i : Nat} (hi : i < 8) (h : s i = true) (hn : ∀ j, j < i → s j = false) : firstF s = i := by
 have h1 := firstF_hit hi h
 rcases Nat.lt_trichotomy (firstF s) i with q | q | q
 ·have := hn _ q; rw [firstF_lt h1] at this; cases this
 ·exact q
 ·have := firstF_least q; rw [h] at this; cases this

section
variable (home : Int) (n : Nat) (cells : Nat → Cell) (tag : Int) (key : ByteArray)
/-- The group at step k. -/
def gk (k : Nat) : Nat := (ord home n k).toNat
def hitAt (k : Nat) : Nat := firstF (hitS (grpC cells (gk home n k)) tag key)
def vacAt (k : Nat) : Nat := firstF (vacS (grpC cells (gk home n k)))
def empAt (k : Nat) : Nat := firstF (empS (grpC cells (gk home n k)))
def stopAt (k : Nat) : Bool := decide (hitAt home n cells tag key k < 8) || decide (empAt home n cells k < 8)
/-- The first step ahead of k with a slot that is not full. -/
def vst (k : Nat) : Option Nat := (List.range k).find? fun j => decide (vacAt home n cells j < 8)
def vacI (k : Nat) : Int := match vst home n cells k with
 | some j => 8 * ((gk home n j : Nat) : Int) + ((vacAt home n cells j : Nat) : Int)
 | none => -1
def vacE (k : Nat) : Bool := match vst home n cells k with
 | some j => empS (grpC cells (gk home n j)) (vacAt home n cells j)
 | none => false
/-- What a search comes upon. -/
structure Fnd where
 slot : Int
 vac : Int
 emp : Bool
 probes : Int
def searchR : Fnd := match (List.range n).find? (stopAt home n cells tag key) with
 | some j => if hitAt home n cells tag key j < 8 then ⟨8 * ((gk home n j : Nat) : Int) + ((hitAt home n cells tag key j : Nat) : Int), vacI home n cells j, vacE home n cells j, (j : Int) + 1⟩
  else ⟨-1, vacI home n cells (j + 1), vacE home n cells (j + 1), (j : Int) + 1⟩
 | none => ⟨-1, vacI home n cells n, vacE home n cells n, n⟩
end
section
variable {home : Int} {n : Nat} {cells : Nat → Cell} {tag : Int} {key : ByteArray}
theorem vst_succ (k : Nat) : vst home n cells (k + 1) = match vst home n cells k with | some j => some j | none => if vacAt home n cells k < 8 then some k else none := by
 unfold vst
 rw [List.range_succ, List.find?_append]
 cases (List.range k).find? fun j => decide (vacAt home n cells j < 8) with
 | some j => rfl
 | none =>
  simp only [List.find?_cons, List.find?_nil, Option.none_or]
  by_cases q : vacAt home n cells k < 8 <;> simp [q]
theorem vacI_nn {k : Nat} : vacI home n cells k < 0 ↔ vst home n cells k = none := by
 unfold vacI
 cases vst home n cells k with
 | some j => simp; omega
 | none => simp
theorem vac_take {k : Nat} (h1 : vacI home n cells k < 0) (h2 : vacAt home n cells k < 8) : vacI home n cells (k + 1) = 8 * ((gk home n k : Nat) : Int) + ((vacAt home n cells k : Nat) : Int) ∧ vacE home n cells (k + 1) = empS (grpC cells (gk home n k)) (vacAt home n cells k) := by
 have := vst_succ (home := home) (n := n) (cells := cells) k
 rw [vacI_nn.1 h1] at this
 simp only [if_pos h2] at this
 unfold vacI vacE
 rw [this]; exact ⟨rfl, rfl⟩
theorem vac_keep {k : Nat} (h : ¬ vacI home n cells k < 0 ∨ ¬ vacAt home n cells k < 8) : vacI home n cells (k + 1) = vacI home n cells k ∧ vacE home n cells (k + 1) = vacE home n cells k := by
 have := vst_succ (home := home) (n := n) (cells := cells) k
 unfold vacI vacE
 cases e : vst home n cells k with
 | some j => rw [e] at this; rw [this]; exact ⟨rfl, rfl⟩
 | none =>
  rw [e] at this
  have h2 : ¬ vacAt home n cells k < 8 := by
   rcases h with h | h
   ·exact absurd (vacI_nn.2 e) h
   ·exact h
  simp only [if_neg h2] at this
  rw [this]; exact ⟨rfl, rfl⟩
theorem find_range {n k : Nat} {p : Nat → Bool} (hk : k < n) (hp : p k = true) (hn : ∀ j, j < k → p j = false) : (List.range n).find? p = some k := by
 rw [List.find?_range_eq_some]
 exact ⟨hp, by simpa using hk, fun j hj => by simp [hn j hj]⟩
theorem search_hit {k : Nat} (hk : k < n) (hn : ∀ j, j < k → stopAt home n cells tag key j = false) (hh : hitAt home n cells tag key k < 8) :
  searchR home n cells tag key = ⟨8 * ((gk home n k : Nat) : Int) + ((hitAt home n cells tag key k : Nat) : Int), vacI home n cells k, vacE home n cells k, (k : Int) + 1⟩ := by
 unfold searchR
 rw [find_range hk (by unfold stopAt; simp [hh]) hn]
 simp only [if_pos hh]
theorem search_emp {k : Nat} (hk : k < n) (hn : ∀ j, j < k → stopAt home n cells tag key j = false) (hh : ¬ hitAt home n cells tag key k < 8) (he : empAt home n cells k < 8) :
  searchR home n cells tag key = ⟨-1, vacI home n cells (k + 1), vacE home n cells (k + 1), (k : Int) + 1⟩ := by
 unfold searchR
 rw [find_range hk (by unfold stopAt; simp [he]) hn]
 simp only [if_neg hh]
theorem search_none (hn : ∀ j, j < n → stopAt home n cells tag key j = false) : searchR home n cells tag key = ⟨-1, vacI home n cells n, vacE home n cells n, n⟩ := by
 unfold searchR
 have : (List.range n).find? (stopAt home n cells tag key) = none := by
  rw [List.find?_range_eq_none]
  intro j hj; simp [hn j hj]
 rw [this]
/-- One of the three. -/
theorem search_cases (home : Int) (n : Nat) (cells : Nat → Cell) (tag : Int) (key : ByteArray) :
  (∃ k, k < n ∧ (∀ j, j < k → stopAt home n cells tag key j = false) ∧ hitAt home n cells tag key k < 8 ∧ searchR home n cells tag key = ⟨8 * ((gk home n k : Nat) : Int) + ((hitAt home n cells tag key k : Nat) : Int), vacI home n cells k, vacE home n cells k, (k : Int) + 1⟩) ∨
  (∃ k, k < n ∧ (∀ j, j < k → stopAt home n cells tag key j = false) ∧ ¬ hitAt home n cells tag key k < 8 ∧ empAt home n cells k < 8 ∧ searchR home n cells tag key = ⟨-1, vacI home n cells (k + 1), vacE home n cells (k + 1), (k : Int) + 1⟩) ∨
  ((∀ j, j < n → stopAt home n cells tag key j = false) ∧ searchR home n cells tag key = ⟨-1, vacI home n cells n, vacE home n cells n, n⟩) := by
 cases e : (List.range n).find? (stopAt home n cells tag key) with
 | none =>
  rw [List.find?_range_eq_none] at e
  have hn : ∀ j, j < n → stopAt home n cells tag key j = false := fun j hj => by simpa using e j hj
  exact .inr (.inr ⟨hn, search_none hn⟩)
 | some k =>
  rw [List.find?_range_eq_some] at e
  obtain ⟨h1, h2, h3⟩ := e
  have hk : k < n := by simpa using h2
  have hn : ∀ j, j < k → stopAt home n cells tag key j = false := fun j hj => by simpa using h3 j hj
  by_cases hh : hitAt home n cells tag key k < 8
  ·exact .inl ⟨k, hk, hn, hh, search_hit hk hn hh⟩
  ·have he : empAt home n cells k < 8 := by unfold stopAt at h1; simpa [hh] using h1
   exact .inr (.inl ⟨k, hk, hn, hh, he, search_emp hk hn hh he⟩)
end

/-! ### Bytes -/
theorem headV_set {T T' : Tb} {n go k : Nat} {v : Int} {m : Nat → Int} {off : Nat} (h : ∀ j, j < 8 → loadN m (off + 8 * j) 8 = IntKind.u64.wrap (headV T n go j)) (hk : k < 8) (hv : headV T' n go k = v) (ho : ∀ j, j < 8 → j ≠ k → headV T' n go j = headV T n go j) :
  ∀ j, j < 8 → loadN (layM m (off + 8 * k) 8 (byteN (IntKind.u64.wrap v))) (off + 8 * j) 8 = IntKind.u64.wrap (headV T' n go j) := by
 intro j hj
 by_cases q : j = k
 ·subst q
  rw [loadN_congr (m' := byteN (IntKind.u64.wrap v)) (o' := 0) fun i hi => by rw [lay_at (by omega) (by omega)]; congr 1; omega]
  rw [loadN_byteN, hv, IntKind.wrap_u64]
  omega
 ·rw [ho j hj q, ← h j hj]
  exact loadN_congr fun i hi => by rw [lay_out]; omega
/-- A header's word written. -/
theorem TAt.set {m : Nat → Int} {off go : Nat} {l : Lay} {n : Nat} {T T' : Tb} (h : TAt m off go l n T) (hd : off + 64 ≤ go ∨ go + n * gN l ≤ off) {k : Nat} (hk : k < 8) {v : Int} (hv : headV T' n go k = v) (ho : ∀ j, j < 8 → j ≠ k → headV T' n go j = headV T n go j) (hc : T'.cells = T.cells) :
  TAt (layM m (off + 8 * k) 8 (byteN (IntKind.u64.wrap v))) off go l n T' := by
 refine ⟨headV_set h.head hk hv ho, fun g hg => ?_, by rw [hc]; exact h.okc⟩
 rw [hc]
 refine GAt.out (h.body g hg) ?_
 have : g * gN l + gN l ≤ n * gN l := by have := Nat.mul_le_mul_right (gN l) (show g + 1 ≤ n by omega); rw [Nat.add_mul] at this; omega
 omega
/-- A group written. -/
theorem TAt.grp {m : Nat → Int} {off go : Nat} {l : Lay} {n : Nat} {T T' : Tb} (h : TAt m off go l n T) (hd : off + 64 ≤ go ∨ go + n * gN l ≤ off) {g : Nat} (hg : g < n) {cs : Nat → Cell} (hcs : ∀ i, i < 8 → (cs i).ok l)
  (hv : ∀ k, k < 8 → headV T' n go k = headV T n go k) (hc : ∀ i, T'.cells i = if i / 8 = g then cs (i % 8) else T.cells i) (hl : LayN l) :
  TAt (layM m (go + g * gN l) (gN l) (encG l cs)) off go l n T' := by
 have hgl : g * gN l + gN l ≤ n * gN l := by have := Nat.mul_le_mul_right (gN l) (show g + 1 ≤ n by omega); rw [Nat.add_mul] at this; omega
 refine ⟨fun k hk => ?_, fun g' hg' => ?_, fun i hi => ?_⟩
 ·rw [hv k hk, ← h.head k hk]
  exact loadN_congr fun i hi => by rw [lay_out]; omega
 ·by_cases q : g' = g
  ·subst q
   intro j hj
   rw [GAt.lay cs j hj]
   have e : ∀ i, i < 8 → grpC T'.cells g' i = cs i := fun i hi => by
    show T'.cells (8 * g' + i) = _
    rw [hc, if_pos (by omega)]; congr 1; omega
   unfold encG
   split
   ·next hj8 => rw [e _ hj8]
   ·next hj8 =>
    obtain ⟨i, r, hi, hr, e0⟩ := slot_of hl (by omega : 8 ≤ j) hj
    obtain ⟨d1, d2⟩ := slot_div (i := i) hr
    rw [show j - 8 = i * sN l + r by omega, d1, e i hi]
  ·have e : grpC T'.cells g' = fun i => if i < 8 then grpC T.cells g' i else T'.cells (8 * g' + i) := by
    funext i
    split
    ·next hi => show T'.cells (8 * g' + i) = T.cells (8 * g' + i); rw [hc, if_neg (by omega)]
    ·rfl
   have hb := (h.body g' hg').out (o := go + g * gN l) (k := gN l) (f := encG l cs) (by
    rcases Nat.lt_or_ge g' g with q2 | q2
    ·have := Nat.mul_le_mul_right (gN l) (show g' + 1 ≤ g by omega); rw [Nat.add_mul] at this; omega
    ·have := Nat.mul_le_mul_right (gN l) (show g + 1 ≤ g' by omega); rw [Nat.add_mul] at this; omega)
   intro j hj
   rw [hb j hj]
   have e2 : ∀ i, i < 8 → grpC T'.cells g' i = grpC T.cells g' i := fun i hi => by
    show T'.cells (8 * g' + i) = T.cells (8 * g' + i); rw [hc, if_neg (by omega)]
   unfold encG
   split
   ·next hj8 => rw [e2 _ hj8]
   ·next hj8 =>
    obtain ⟨i, r, hi, hr, e0⟩ := slot_of hl (by omega : 8 ≤ j) hj
    obtain ⟨d1, d2⟩ := slot_div (i := i) hr
    rw [show j - 8 = i * sN l + r by omega, d1, e2 i hi]
 ·rw [hc]
  split
  ·exact hcs _ (Nat.mod_lt _ (by decide))
  ·exact h.okc i hi
end Go.Proofs.YthkajgkagnenbaaGreatDoor.TableB
end
section
/- What holds of a table behind any puts and deletes. No program. -/
set_option linter.unusedVariables false
set_option linter.unusedSimpArgs false
set_option maxRecDepth 100000
namespace Go.Proofs.YthkajgkagnenbaaGreatDoor.TableI
open Go.RowKit Go.Proofs Go.Proofs.YthkajgkagnenbaaGreatDoor.Eng Go.Proofs.YthkajgkagnenbaaGreatDoor.Bits Go.Proofs.YthkajgkagnenbaaGreatDoor.Layout Go.Proofs.YthkajgkagnenbaaGreatDoor.Mem Go.Proofs.YthkajgkagnenbaaGreatDoor.CtrlB Go.Proofs.YthkajgkagnenbaaGreatDoor.GroupB Go.Proofs.YthkajgkagnenbaaGreatDoor.Probe Go.Proofs.YthkajgkagnenbaaGreatDoor.TableB

def isFull : Cell → Bool
 | .full _ _ _ _ => true
 | _ => false
def isDel : Cell → Bool
 | .deleted => true
 | _ => false
def isEmp : Cell → Bool
 | .empty => true
 | _ => false
/-- How many cells of the first N are such. -/
def cnt (p : Cell → Bool) (cells : Nat → Cell) (N : Nat) : Nat := (List.range N).countP fun i => p (cells i)
theorem cnt_succ (p : Cell → Bool) (cells : Nat → Cell) (N : Nat) : cnt p cells (N + 1) = cnt p cells N + if p (cells N) then 1 else 0 := by
 unfold cnt; rw [List.range_succ, List.countP_append, List.countP_singleton]
theorem cnt_congr {p : Cell → Bool} {c d : Nat → Cell} {N : Nat} (h : ∀ i, i < N → c i = d i) : cnt p c N = cnt p d N := by
 induction N with
 | zero => rfl
 | succ N ih => rw [cnt_succ, cnt_succ, ih fun i hi => h i (by omega), h N (by omega)]
theorem cnt_upd {p : Cell → Bool} {cells : Nat → Cell} {N i : Nat} (hi : i < N) (c : Cell) : cnt p (updC cells i c) N + (if p (cells i) then 1 else 0) = cnt p cells N + if p c then 1 else 0 := by
 induction N with
 | zero => omega
 | succ N ih =>
  rw [cnt_succ, cnt_succ]
  by_cases q : i = N
  ·subst q
   rw [cnt_congr (c := updC cells i c) (d := cells) (N := i) fun j hj => updC_ne _ (by omega) _, updC_same]; omega
  ·rw [updC_ne _ (by omega)]
   have := ih (by omega)
   omega
theorem cnt_le (p : Cell → Bool) (cells : Nat → Cell) (N : Nat) : cnt p cells N ≤ N := by
 unfold cnt; exact Nat.le_trans List.countP_le_length (by simp)
/-- The counts are those of the cells; no group has empty and deleted slots. -/
structure TCnt (n : Nat) (T : Tb) : Prop where
 mixed : ∀ i j, i < 8 * n → j < 8 * n → i / 8 = j / 8 → T.cells i = .empty → T.cells j ≠ .deleted
 used : T.used = ((cnt isFull T.cells (8 * n) : Nat) : Int)
 left : T.left = 7 * (n : Int) - ((cnt isFull T.cells (8 * n) : Nat) : Int) - ((cnt isDel T.cells (8 * n) : Nat) : Int)
 room : 0 ≤ T.left
/-- A key's way to a group: none ahead of it has an empty slot. -/
def reach (n : Nat) (cells : Nat → Cell) (h : Int) (g : Nat) : Prop := ∃ j, j < n ∧ gk (h / 128) n j = g ∧ ∀ i, i < j → empAt (h / 128) n cells i = 8
/-- The keys: each once, where its hash's way reaches. -/
structure TKey (n : Nat) (H : ByteArray → Int) (cells : Nat → Cell) : Prop where
 uniq : ∀ i j, i < 8 * n → j < 8 * n → ∀ t k e b t' e' b', cells i = .full t k e b → cells j = .full t' k e' b' → i = j
 tag : ∀ i, i < 8 * n → ∀ t k e b, cells i = .full t k e b → t = H k % 128
 way : ∀ i, i < 8 * n → ∀ t k e b, cells i = .full t k e b → reach n cells (H k) (i / 8)

theorem gk_lt {home : Int} {n k : Nat} (hn : 0 < n) : gk home n k < n := by
 unfold gk ord
 have h1 := Int.emod_nonneg (home + ((k * (k + 1) / 2 : Nat) : Int)) (by omega : (n : Int) ≠ 0)
 have h2 := Int.emod_lt_of_pos (home + ((k * (k + 1) / 2 : Nat) : Int)) (by omega : (0 : Int) < (n : Int))
 omega
theorem gk_cast {home : Int} {n k : Nat} (hn : 0 < n) : ((gk home n k : Nat) : Int) = ord home n k := by
 unfold gk ord
 have h1 := Int.emod_nonneg (home + ((k * (k + 1) / 2 : Nat) : Int)) (by omega : (n : Int) ≠ 0)
 omega
theorem hit_cell {cs : Nat → Cell} {tag : Int} {key : ByteArray} {i : Nat} (h : hitS cs tag key i = true) : ∃ e b, cs i = .full tag key e b := by
 unfold hitS at h
 split at h
 ·next t k e b hc => simp only [Bool.and_eq_true, decide_eq_true_eq] at h; obtain ⟨rfl, rfl⟩ := h; exact ⟨e, b, hc⟩
 ·cases h
theorem hit_of {cs : Nat → Cell} {tag : Int} {key : ByteArray} {i : Nat} {e : ByteArray} {b : Int} (h : cs i = .full tag key e b) : hitS cs tag key i = true := by
 unfold hitS; rw [h]; simp
theorem vac_iff {cs : Nat → Cell} {i : Nat} : vacS cs i = true ↔ isFull (cs i) = false := by unfold vacS isFull; cases cs i <;> simp
theorem emp_iff {cs : Nat → Cell} {i : Nat} : empS cs i = true ↔ cs i = .empty := by unfold empS; cases cs i <;> simp
theorem emp_vac {cs : Nat → Cell} {i : Nat} (h : empS cs i = true) : vacS cs i = true := by unfold empS vacS at *; cases e : cs i <;> rw [e] at h <;> simp_all

section
variable {n : Nat} {cells : Nat → Cell} {h : Int} {key : ByteArray} {H : ByteArray → Int}
theorem slot_lt {g i : Nat} (hg : g < n) (hi : i < 8) : 8 * g + i < 8 * n := by omega
/-- The first vacant slot, where there is one: its step, its place. -/
theorem vac_at {home : Int} {k : Nat} (hv : ¬ vacI home n cells k < 0) : ∃ j, j < k ∧ vacAt home n cells j < 8 ∧ (∀ i, i < j → vacAt home n cells i = 8) ∧ vacI home n cells k = 8 * ((gk home n j : Nat) : Int) + ((vacAt home n cells j : Nat) : Int) ∧ vacE home n cells k = empS (grpC cells (gk home n j)) (vacAt home n cells j) := by
 rw [vacI_nn] at hv
 cases e : vst home n cells k with
 | none => exact absurd e hv
 | some j =>
  have e2 := e
  unfold vst at e
  rw [List.find?_range_eq_some] at e
  obtain ⟨h1, h2, h3⟩ := e
  refine ⟨j, by simpa using h2, by simpa using h1, fun i hi => ?_, ?_, ?_⟩
  ·have := h3 i hi
   have h4 := firstF_le (vacS (grpC cells (gk home n i)))
   simp at this
   unfold vacAt at this ⊢; omega
  ·unfold vacI; rw [e2]
  ·unfold vacE; rw [e2]
theorem vac_no {home : Int} {k : Nat} (hv : vacI home n cells k < 0) : ∀ j, j < k → vacAt home n cells j = 8 := by
 rw [vacI_nn] at hv
 unfold vst at hv
 rw [List.find?_range_eq_none] at hv
 intro j hj
 have := hv j hj
 have h4 := firstF_le (vacS (grpC cells (gk home n j)))
 simp at this
 unfold vacAt at this ⊢; omega
theorem vac_emp {home : Int} {k : Nat} (hv : vacAt home n cells k = 8) : empAt home n cells k = 8 := by
 unfold vacAt at hv; unfold empAt
 rw [firstF_none] at hv ⊢
 intro i hi
 cases q : empS (grpC cells (gk home n k)) i with
 | false => rfl
 | true => have := emp_vac q; rw [hv i hi] at this; cases this
end
end Go.Proofs.YthkajgkagnenbaaGreatDoor.TableI
end
