/- A table against a list: what holds behind every step of a plan. No program. -/
import Derived.Test.YthkajgkagnenbaaGreatDoorTableP
import Derived.Test.YthkajgkagnenbaaGreatDoorRef03
import Derived.Test.YthkajgkagnenbaaGreatDoorProbeWay
set_option linter.unusedVariables false
set_option linter.unusedSimpArgs false
set_option maxRecDepth 100000
namespace Go.Proofs.YthkajgkagnenbaaGreatDoor.Bench
open Go.RowKit Go.Proofs Go.Proofs.YthkajgkagnenbaaGreatDoor.Eng Go.Proofs.YthkajgkagnenbaaGreatDoor.Bits Go.Proofs.YthkajgkagnenbaaGreatDoor.Layout Go.Proofs.YthkajgkagnenbaaGreatDoor.Mem Go.Proofs.YthkajgkagnenbaaGreatDoor.CtrlB Go.Proofs.YthkajgkagnenbaaGreatDoor.GroupB Go.Proofs.YthkajgkagnenbaaGreatDoor.Probe Go.Proofs.YthkajgkagnenbaaGreatDoor.TableB Go.Proofs.YthkajgkagnenbaaGreatDoor.TableI Go.Proofs.YthkajgkagnenbaaGreatDoor.Table

theorem gk_onto {home : Int} {n e g : Nat} (hn : n = 2 ^ e) (hg : g < n) : ∃ t, t < n ∧ gk home n t = g := by
 have hn0 : 0 < n := by omega
 obtain ⟨k, hk, h⟩ := ord_onto (home := home) hn (v := (g : Int)) (by omega) (by omega)
 rw [← gk_cast hn0] at h
 exact ⟨k, hk, by omega⟩
/-! ### What a put does -/
/-- A put of a key: it was there (1); there was no room (3); it is new (2). -/
inductive PutR (n : Nat) (T : Tb) (h : Int) (key elem : ByteArray) (birth : Int) : Int × Tb → Prop
 | old (p : Nat) (e0 : ByteArray) (b0 : Int) : p < 8 * n → (searchR (h / 128) n T.cells (h % 128) key).slot = (p : Int) → T.cells p = .full (h % 128) key e0 b0 → PutR n T h key elem birth (1, { T with cells := updC T.cells p (.full (h % 128) key elem b0) })
 | no : (searchR (h / 128) n T.cells (h % 128) key).slot < 0 → ((∀ p, p < 8 * n → isFull (T.cells p) = true) ∨ (T.left = 0 ∧ ∃ j, j < n ∧ (∀ i, i < j → vacAt (h / 128) n T.cells i = 8) ∧ ∃ i, i < 8 ∧ isEmp (T.cells (8 * gk (h / 128) n j + i)) = true)) → PutR n T h key elem birth (3, T)
 | new (j i : Nat) : j < n → i < 8 → (searchR (h / 128) n T.cells (h % 128) key).slot < 0 → (∀ i, i < j → vacAt (h / 128) n T.cells i = 8) → isFull (T.cells (8 * gk (h / 128) n j + i)) = false → (isEmp (T.cells (8 * gk (h / 128) n j + i)) = true → T.left ≠ 0) →
   PutR n T h key elem birth (2, { T with used := T.used + 1, left := if isEmp (T.cells (8 * gk (h / 128) n j + i)) then T.left - 1 else T.left, cells := updC T.cells (8 * gk (h / 128) n j + i) (.full (h % 128) key elem birth) })

section
variable {n : Nat} {T : Tb} {h : Int} {key : ByteArray}
theorem search_none_k (hn : 0 < n) (h1 : (searchR (h / 128) n T.cells (h % 128) key).slot < 0) : ∃ K, K ≤ n ∧ (searchR (h / 128) n T.cells (h % 128) key).vac = vacI (h / 128) n T.cells K ∧ (searchR (h / 128) n T.cells (h % 128) key).emp = vacE (h / 128) n T.cells K ∧ (vacI (h / 128) n T.cells K < 0 → K = n) := by
 rcases search_cases (h / 128) n T.cells (h % 128) key with ⟨k, _, _, hh, e⟩ | ⟨k, hk, _, _, he, e⟩ | ⟨_, e⟩
 ·rw [e] at h1; dsimp only at h1; omega
 ·refine ⟨k + 1, by omega, by rw [e], by rw [e], ?_⟩
  intro q
  have := vac_emp (vac_no q k (by omega))
  omega
 ·exact ⟨n, Nat.le_refl _, by rw [e], by rw [e], fun _ => rfl⟩
theorem putR (hn : 0 < n) (hperm : ∀ g, g < n → ∃ j, j < n ∧ gk (h / 128) n j = g) (elem : ByteArray) (birth : Int) : PutR n T h key elem birth (putT n T h key elem birth) := by
 by_cases h1 : 0 ≤ (searchR (h / 128) n T.cells (h % 128) key).slot
 ·obtain ⟨g, i, hg, hi, h2, e0, b0, h3⟩ := search_slot hn h1
  have : putT n T h key elem birth = (1, { T with cells := updC T.cells (8 * g + i) (.full (h % 128) key elem b0) }) := by
   unfold putT
   rw [if_pos h1, h2, Int.toNat_natCast, h3]; rfl
  rw [this]
  exact .old (8 * g + i) e0 b0 (by omega) h2 h3
 ·obtain ⟨K, hK, hv, he, hl⟩ := search_none_k (T := T) (h := h) (key := key) hn (by omega)
  by_cases h4 : (searchR (h / 128) n T.cells (h % 128) key).vac < 0 ∨ ((searchR (h / 128) n T.cells (h % 128) key).emp = true ∧ T.left = 0)
  ·have : putT n T h key elem birth = (3, T) := by unfold putT; rw [if_neg h1, if_pos h4]
   rw [this]
   refine .no (by omega) ?_
   rcases h4 with h4 | h4
   ·left
    intro p hp
    rw [hv] at h4
    have hKn := hl h4
    subst hKn
    obtain ⟨j, hj, hg⟩ := hperm (p / 8) (by omega)
    have h5 := vac_no h4 j hj
    unfold vacAt at h5
    rw [firstF_none] at h5
    have h6 := h5 (p % 8) (by omega)
    cases q : isFull (T.cells p) with
    | true => rfl
    | false =>
     rw [hg, show vacS (grpC T.cells (p / 8)) (p % 8) = true from vac_iff.2 (by show isFull (T.cells (8 * (p / 8) + p % 8)) = false; rw [show 8 * (p / 8) + p % 8 = p by omega]; exact q)] at h6
     cases h6
   ·by_cases hvn : vacI (h / 128) n T.cells K < 0
    ·exfalso
     have : vacE (h / 128) n T.cells K = false := by unfold vacE; rw [vacI_nn.1 hvn]
     rw [he, this] at h4
     exact Bool.noConfusion h4.1
    ·obtain ⟨j, hj, h5, h6, h7, h8⟩ := vac_at hvn
     refine .inr ⟨h4.2, j, by omega, h6, _, h5, ?_⟩
     have h9 := h4.1
     rw [he, h8] at h9
     have h10 := emp_iff.1 h9
     show isEmp (grpC T.cells (gk (h / 128) n j) _) = true
     rw [h10]; rfl
  ·obtain ⟨j, hj, h5, h6, h7, h8⟩ := vac_at (home := h / 128) (n := n) (cells := T.cells) (k := K) (by rw [← hv]; omega)
   have hfull : isFull (T.cells (8 * gk (h / 128) n j + vacAt (h / 128) n T.cells j)) = false := vac_iff.1 (firstF_lt h5)
   have hemp : (searchR (h / 128) n T.cells (h % 128) key).emp = isEmp (T.cells (8 * gk (h / 128) n j + vacAt (h / 128) n T.cells j)) := by
    rw [he, h8]
    show empS (grpC T.cells (gk (h / 128) n j)) (vacAt (h / 128) n T.cells j) = isEmp (grpC T.cells (gk (h / 128) n j) (vacAt (h / 128) n T.cells j))
    unfold empS isEmp
    cases grpC T.cells (gk (h / 128) n j) (vacAt (h / 128) n T.cells j) <;> rfl
   have hvn : (searchR (h / 128) n T.cells (h % 128) key).vac.toNat = 8 * gk (h / 128) n j + vacAt (h / 128) n T.cells j := by rw [hv, h7]; omega
   have : putT n T h key elem birth = (2, { T with used := T.used + 1, left := if isEmp (T.cells (8 * gk (h / 128) n j + vacAt (h / 128) n T.cells j)) then T.left - 1 else T.left, cells := updC T.cells (8 * gk (h / 128) n j + vacAt (h / 128) n T.cells j) (.full (h % 128) key elem birth) }) := by
    unfold putT
    rw [if_neg h1, if_neg h4, hvn, hemp]
   rw [this]
   exact .new j _ (by omega) h5 (by omega) h6 hfull fun q q2 => h4 (.inr ⟨by rw [hemp]; exact q, q2⟩)
/-- A delete of a key. -/
inductive DelR (n : Nat) (T : Tb) (h : Int) (key : ByteArray) : Bool × Tb → Prop
 | no : (searchR (h / 128) n T.cells (h % 128) key).slot < 0 → DelR n T h key (false, T)
 | passed (p : Nat) (e0 : ByteArray) (b0 : Int) : p < 8 * n → (searchR (h / 128) n T.cells (h % 128) key).slot = (p : Int) → T.cells p = .full (h % 128) key e0 b0 → (∀ q, q / 8 = p / 8 → T.cells q ≠ .empty) →
   DelR n T h key (true, { T with used := T.used - 1, cells := updC T.cells p .deleted })
 | free (p q : Nat) (e0 : ByteArray) (b0 : Int) : p < 8 * n → (searchR (h / 128) n T.cells (h % 128) key).slot = (p : Int) → T.cells p = .full (h % 128) key e0 b0 → q / 8 = p / 8 → T.cells q = .empty →
   DelR n T h key (true, { T with used := T.used - 1, left := T.left + 1, cells := updC T.cells p .empty })
theorem passed_iff {cells : Nat → Cell} {p : Nat} : passedB cells p = true ↔ ∀ q, q / 8 = p / 8 → cells q ≠ .empty := by
 unfold passedB
 rw [decide_eq_true_iff, List.length_eq_zero_iff]
 constructor
 ·intro e q hq hc
  have : q % 8 ∈ slotsF (empS (grpC cells (p / 8))) := slotsF_mem.2 ⟨by omega, emp_iff.2 (by show cells (8 * (p / 8) + q % 8) = _; rw [show 8 * (p / 8) + q % 8 = q by omega]; exact hc)⟩
  rw [e] at this; cases this
 ·intro e
  rw [List.eq_nil_iff_forall_not_mem]
  intro i hi
  obtain ⟨h1, h2⟩ := slotsF_mem.1 hi
  exact e (8 * (p / 8) + i) (by omega) (emp_iff.1 h2)
theorem delR (hn : 0 < n) : DelR n T h key (delT n T h key) := by
 by_cases h1 : 0 ≤ (searchR (h / 128) n T.cells (h % 128) key).slot
 ·obtain ⟨g, i, hg, hi, h2, e0, b0, h3⟩ := search_slot hn h1
  unfold delT
  rw [if_pos h1, h2, Int.toNat_natCast]
  cases q : passedB T.cells (8 * g + i) with
  | true => exact .passed (8 * g + i) e0 b0 (by omega) h2 h3 (passed_iff.1 q)
  | false =>
   have : ∃ q, q / 8 = (8 * g + i) / 8 ∧ T.cells q = .empty := by
    apply Classical.byContradiction
    intro hno
    rw [passed_iff.2 fun q hq hc => hno ⟨q, hq, hc⟩] at q; cases q
   obtain ⟨q, hq, hc⟩ := this
   exact .free (8 * g + i) q e0 b0 (by omega) h2 h3 hq hc
 ·have : delT n T h key = (false, T) := by unfold delT; rw [if_neg h1]
  rw [this]; exact .no (by omega)
end

/-! ### The counts hold -/
section
variable {n : Nat} {T T' : Tb} {h : Int} {key elem : ByteArray} {birth out : Int} {b : Bool}
theorem TCnt.put (hc : TCnt n T) (hr : PutR n T h key elem birth (out, T')) : TCnt n T' := by
 cases hr with
 | old p e0 b0 hp hs hcell =>
  have h1 := cnt_upd (p := isFull) hp (cells := T.cells) (.full (h % 128) key elem b0)
  have h2 := cnt_upd (p := isDel) hp (cells := T.cells) (.full (h % 128) key elem b0)
  rw [hcell] at h1 h2
  simp only [isFull, isDel, if_pos, Bool.false_eq_true, if_false] at h1 h2
  refine ⟨fun i j hi hj hij he hd => ?_, ?_, ?_, hc.room⟩
  ·dsimp only at he hd
   by_cases qi : i = p
   ·subst qi; rw [updC_same] at he; cases he
   ·by_cases qj : j = p
    ·subst qj; rw [updC_same] at hd; cases hd
    ·rw [updC_ne _ qi] at he; rw [updC_ne _ qj] at hd; exact hc.mixed i j hi hj hij he hd
  ·dsimp only; rw [hc.used]; omega
  ·dsimp only; rw [hc.left]; omega
 | no _ _ => exact hc
 | new j i hj hi hs hem hf hl =>
  have hp : 8 * gk (h / 128) n j + i < 8 * n := slot_lt (gk_lt (by omega)) hi
  revert hp hf hl
  generalize 8 * gk (h / 128) n j + i = p
  intro hf hl hp
  have h1 := cnt_upd (p := isFull) hp (cells := T.cells) (.full (h % 128) key elem birth)
  have h2 := cnt_upd (p := isDel) hp (cells := T.cells) (.full (h % 128) key elem birth)
  have hroom := hc.room
  have hleft := hc.left
  rw [hf] at h1
  simp only [isFull, isDel, if_pos, Bool.false_eq_true, if_false] at h1 h2
  have hmix : ∀ i j, i < 8 * n → j < 8 * n → i / 8 = j / 8 → updC T.cells p (.full (h % 128) key elem birth) i = .empty → updC T.cells p (.full (h % 128) key elem birth) j ≠ .deleted := by
   intro i j hi hj hij he hd
   by_cases qi : i = p
   ·subst qi; rw [updC_same] at he; cases he
   ·by_cases qj : j = p
    ·subst qj; rw [updC_same] at hd; cases hd
    ·rw [updC_ne _ qi] at he; rw [updC_ne _ qj] at hd; exact hc.mixed i j hi hj hij he hd
  have husd : T.used + 1 = ((cnt isFull (updC T.cells p (.full (h % 128) key elem birth)) (8 * n) : Nat) : Int) := by rw [hc.used]; omega
  cases hcell : T.cells p with
  | empty =>
   rw [hcell] at h2 hl
   simp only [isDel, if_pos, Bool.false_eq_true, if_false] at h2
   have hl := hl rfl
   simp only [isEmp, if_pos]
   exact ⟨hmix, husd, by dsimp only; omega, by dsimp only; omega⟩
  | deleted =>
   rw [hcell] at h2
   simp only [isDel, if_pos] at h2
   simp only [isEmp, Bool.false_eq_true, if_false]
   exact ⟨hmix, husd, by dsimp only; omega, hroom⟩
  | full t k e b => rw [hcell] at hf; cases hf
theorem TCnt.del (hc : TCnt n T) (hr : DelR n T h key (b, T')) : TCnt n T' := by
 cases hr with
 | no _ => exact hc
 | passed p e0 b0 hp hs hcell hno =>
  have h1 := cnt_upd (p := isFull) hp (cells := T.cells) .deleted
  have h2 := cnt_upd (p := isDel) hp (cells := T.cells) .deleted
  rw [hcell] at h1 h2
  simp only [isFull, isDel, if_pos, Bool.false_eq_true, if_false] at h1 h2
  refine ⟨fun i j hi hj hij he hd => ?_, ?_, ?_, hc.room⟩
  ·dsimp only at he hd
   by_cases qi : i = p
   ·subst qi; rw [updC_same] at he; cases he
   ·rw [updC_ne _ qi] at he
    by_cases qj : j = p
    ·subst qj; exact hno i hij he
    ·rw [updC_ne _ qj] at hd; exact hc.mixed i j hi hj hij he hd
  ·dsimp only; rw [hc.used]; omega
  ·dsimp only; rw [hc.left]; omega
 | free p q e0 b0 hp hs hcell hq hqe =>
  have h1 := cnt_upd (p := isFull) hp (cells := T.cells) .empty
  have h2 := cnt_upd (p := isDel) hp (cells := T.cells) .empty
  have hroom := hc.room
  rw [hcell] at h1 h2
  simp only [isFull, isDel, if_pos, Bool.false_eq_true, if_false] at h1 h2
  refine ⟨fun i j hi hj hij he hd => ?_, ?_, ?_, ?_⟩
  ·dsimp only at he hd
   by_cases qj : j = p
   ·subst qj; rw [updC_same] at hd; cases hd
   ·rw [updC_ne _ qj] at hd
    by_cases qi : i = p
    ·subst qi
     exact hc.mixed q j (by omega) hj (by omega) hqe hd
    ·rw [updC_ne _ qi] at he; exact hc.mixed i j hi hj hij he hd
  ·dsimp only; rw [hc.used]; omega
  ·dsimp only; rw [hc.left]; omega
  ·show 0 ≤ T.left + 1; omega
/-- Full and deleted slots together. -/
def took (n : Nat) (T : Tb) : Nat := cnt isFull T.cells (8 * n) + cnt isDel T.cells (8 * n)
theorem took_put (hc : TCnt n T) (hr : PutR n T h key elem birth (out, T')) : took n T' ≤ took n T + if out = 2 then 1 else 0 := by
 have hc' := TCnt.put hc hr
 have h1 := hc.left
 have h2 := hc'.left
 cases hr with
 | old p e0 b0 hp hs hcell => unfold took; simp only at h2 ⊢; omega
 | no _ _ => simp
 | new j i hj hi hs hem hf hl =>
  simp only [if_pos]
  unfold took
  simp only at h2 ⊢
  split at h2 <;> omega
theorem took_del (hc : TCnt n T) (hr : DelR n T h key (b, T')) : took n T' ≤ took n T := by
 have hc' := TCnt.del hc hr
 have h1 := hc.left
 have h2 := hc'.left
 unfold took
 cases hr with
 | no _ => exact Nat.le_refl _
 | passed p e0 b0 hp hs hcell hno => simp only at h2 ⊢; omega
 | free p q e0 b0 hp hs hcell hq hqe => simp only at h2 ⊢; omega
theorem took_no (hc : TCnt n T) (hr : PutR n T h key elem birth (3, T')) : 7 * n ≤ took n T := by
 have h1 := hc.left
 cases hr with
 | no hs hq =>
  rcases hq with hq | hq
  ·have := cnt_all hq; unfold took; omega
  ·have := hq.1; unfold took; omega
end

/-! ### The keys hold -/
section
variable {n : Nat} {T T' : Tb} {H : ByteArray → Int} {key elem : ByteArray} {birth out : Int} {b : Bool}
theorem not_there {cells : Nat → Cell} (hk : TKey n H cells) (h1 : (searchR (H key / 128) n cells (H key % 128) key).slot < 0) : ∀ i, i < 8 * n → ∀ t e b, cells i ≠ .full t key e b := fun i hi t e b hc => by
 obtain ⟨_, _, _, _, k, _, _, hs⟩ := find_there hk hi hc rfl
 rw [hs] at h1
 simp at h1; omega
theorem reach_mono {cells cells' : Nat → Cell} (hm : ∀ i, i < 8 * n → cells' i = .empty → ∃ q, q / 8 = i / 8 ∧ cells q = .empty) {h : Int} {g : Nat} (hr : reach n cells h g) : reach n cells' h g := by
 obtain ⟨j, hj, hg, he⟩ := hr
 refine ⟨j, hj, hg, fun i hi => ?_⟩
 have := he i hi
 unfold empAt at this ⊢
 rw [firstF_none] at this ⊢
 intro k hk
 cases q : empS (grpC cells' (gk (h / 128) n i)) k with
 | false => rfl
 | true =>
  obtain ⟨q, hq, hc⟩ := hm (8 * gk (h / 128) n i + k) (slot_lt (gk_lt (by omega)) hk) (emp_iff.1 q)
  have h1 := this (q % 8) (by omega)
  rw [emp_iff.2 (show grpC cells (gk (h / 128) n i) (q % 8) = .empty by show cells (8 * gk (h / 128) n i + q % 8) = _; rw [show 8 * gk (h / 128) n i + q % 8 = q by omega]; exact hc)] at h1
  cases h1
theorem TKey.put (hc : TKey n H T.cells) (hr : PutR n T (H key) key elem birth (out, T')) : TKey n H T'.cells := by
 cases hr with
 | old p e0 b0 hp hs hcell =>
  have hm : ∀ i, i < 8 * n → updC T.cells p (.full (H key % 128) key elem b0) i = .empty → ∃ q, q / 8 = i / 8 ∧ T.cells q = .empty := fun i hi he => by
   by_cases q : i = p
   ·subst q; rw [updC_same] at he; cases he
   ·rw [updC_ne _ q] at he; exact ⟨i, rfl, he⟩
  have back : ∀ i, i < 8 * n → ∀ t k e b, updC T.cells p (.full (H key % 128) key elem b0) i = .full t k e b → ∃ e' b', T.cells i = .full t k e' b' := fun i hi t k e b he => by
   by_cases q : i = p
   ·subst q; rw [updC_same] at he; cases he; exact ⟨_, _, hcell⟩
   ·rw [updC_ne _ q] at he; exact ⟨_, _, he⟩
  refine ⟨fun i j hi hj t k e b t' e' b' h1 h2 => ?_, fun i hi t k e b h1 => ?_, fun i hi t k e b h1 => ?_⟩
  ·obtain ⟨_, _, h3⟩ := back i hi _ _ _ _ h1
   obtain ⟨_, _, h4⟩ := back j hj _ _ _ _ h2
   exact hc.uniq i j hi hj _ _ _ _ _ _ _ h3 h4
  ·obtain ⟨_, _, h3⟩ := back i hi _ _ _ _ h1
   exact hc.tag i hi _ _ _ _ h3
  ·obtain ⟨_, _, h3⟩ := back i hi _ _ _ _ h1
   exact reach_mono hm (hc.way i hi _ _ _ _ h3)
 | no _ _ => exact hc
 | new j i hj hi hs hem hf hl =>
  have hno := not_there hc hs
  show TKey n H (updC T.cells (8 * gk (H key / 128) n j + i) (.full (H key % 128) key elem birth))
  have hm : ∀ k, k < 8 * n → updC T.cells (8 * gk (H key / 128) n j + i) (.full (H key % 128) key elem birth) k = .empty → ∃ q, q / 8 = k / 8 ∧ T.cells q = .empty := fun k hk he => by
   by_cases q : k = 8 * gk (H key / 128) n j + i
   ·subst q; rw [updC_same] at he; cases he
   ·rw [updC_ne _ q] at he; exact ⟨k, rfl, he⟩
  refine ⟨fun a c ha hcx t k e b t' e' b' h1 h2 => ?_, fun a ha t k e b h1 => ?_, fun a ha t k e b h1 => ?_⟩
  ·by_cases qa : a = 8 * gk (H key / 128) n j + i
   ·by_cases qc : c = 8 * gk (H key / 128) n j + i
    ·omega
    ·rw [qa, updC_same] at h1; rw [updC_ne _ qc] at h2
     cases h1; exact absurd h2 (hno c hcx _ _ _)
   ·rw [updC_ne _ qa] at h1
    by_cases qc : c = 8 * gk (H key / 128) n j + i
    ·rw [qc, updC_same] at h2; cases h2; exact absurd h1 (hno a ha _ _ _)
    ·rw [updC_ne _ qc] at h2; exact hc.uniq a c ha hcx _ _ _ _ _ _ _ h1 h2
  ·by_cases qa : a = 8 * gk (H key / 128) n j + i
   ·rw [qa, updC_same] at h1; cases h1; rfl
   ·rw [updC_ne _ qa] at h1; exact hc.tag a ha _ _ _ _ h1
  ·by_cases qa : a = 8 * gk (H key / 128) n j + i
   ·rw [qa, updC_same] at h1; cases h1
    rw [qa, show (8 * gk (H key / 128) n j + i) / 8 = gk (H key / 128) n j by omega]
    exact reach_mono hm ⟨j, hj, rfl, fun i hi => vac_emp (hem i hi)⟩
   ·rw [updC_ne _ qa] at h1; exact reach_mono hm (hc.way a ha _ _ _ _ h1)
theorem TKey.off (hc : TKey n H T.cells) {p : Nat} {c : Cell} (hnf : isFull c = false) (hm : c = .empty → ∃ q, q / 8 = p / 8 ∧ T.cells q = .empty) : TKey n H (updC T.cells p c) := by
 have hm : ∀ k, k < 8 * n → updC T.cells p c k = .empty → ∃ q, q / 8 = k / 8 ∧ T.cells q = .empty := fun k hk he => by
  by_cases q : k = p
  ·subst q; rw [updC_same] at he; exact hm he
  ·rw [updC_ne _ q] at he; exact ⟨k, rfl, he⟩
 have back : ∀ i, ∀ t k e b, updC T.cells p c i = .full t k e b → T.cells i = .full t k e b := fun i t k e b he => by
  by_cases q : i = p
  ·subst q; rw [updC_same] at he; rw [he] at hnf; cases hnf
  ·rw [updC_ne _ q] at he; exact he
 exact ⟨fun i j hi hj t k e b t' e' b' h1 h2 => hc.uniq i j hi hj _ _ _ _ _ _ _ (back i _ _ _ _ h1) (back j _ _ _ _ h2), fun i hi t k e b h1 => hc.tag i hi _ _ _ _ (back i _ _ _ _ h1), fun i hi t k e b h1 => reach_mono hm (hc.way i hi _ _ _ _ (back i _ _ _ _ h1))⟩
theorem TKey.del {h : Int} (hc : TKey n H T.cells) (hr : DelR n T h key (b, T')) : TKey n H T'.cells := by
 cases hr with
 | no _ => exact hc
 | passed p e0 b0 hp hs hcell hno => exact TKey.off hc rfl fun q => by cases q
 | free p q e0 b0 hp hs hcell hq hqe => exact TKey.off hc rfl fun _ => ⟨q, hq, hqe⟩
end

/-! ### The list -/
structure Life where
 key : ByteArray
 elem : ByteArray
 hash : Int
 birth : Int
 slot : Nat
def Life.cells (v : Life) : List Value := [.string v.key, .string v.elem, .int .u64 v.hash, .int .i64 v.birth, .int .i64 (v.slot : Nat)]
def Life.cell (v : Life) : Cell := .full (v.hash % 128) v.key v.elem v.birth
/-- Where in the list the key is. -/
def placeL (lives : List Life) (key : ByteArray) : Option Nat := (List.range lives.length).find? fun i => match lives[i]? with | some v => decide (v.key = key) | none => false
theorem place_none {lives : List Life} {key : ByteArray} (h : placeL lives key = none) : ∀ v ∈ lives, v.key ≠ key := by
 unfold placeL at h
 rw [List.find?_range_eq_none] at h
 intro v hv
 obtain ⟨j, hj⟩ := List.getElem?_of_mem hv
 have h1 : j < lives.length := by rcases Nat.lt_or_ge j lives.length with q | q; exact q; rw [List.getElem?_eq_none q] at hj; cases hj
 have := h j h1
 rw [hj] at this
 simpa using this
theorem place_not {lives : List Life} {key : ByteArray} (h : ∀ (j : Nat) (u : Life), lives[j]? = some u → u.key ≠ key) : placeL lives key = none := by
 unfold placeL
 rw [List.find?_range_eq_none]
 intro j hj
 cases e : lives[j]? with
 | none => rfl
 | some u => simpa using h j u e
/-- The list is what lies in the table. -/
structure BI (n : Nat) (H : ByteArray → Int) (K : ByteArray → Prop) (T : Tb) (lives : List Life) (added : Nat) : Prop where
 n0 : 0 < n
 cnt : TCnt n T
 key : TKey n H T.cells
 there : ∀ v ∈ lives, v.slot < 8 * n ∧ T.cells v.slot = v.cell ∧ v.hash = H v.key
 all : ∀ i, i < 8 * n → isFull (T.cells i) = true → ∃ v ∈ lives, v.slot = i
 uniq : ∀ (i j : Nat) (u v : Life), lives[i]? = some u → lives[j]? = some v → u.slot = v.slot → i = j
 used : T.used = (lives.length : Int)
 added : took n T ≤ added
 isK : ∀ v ∈ lives, K v.key
theorem bi_new {n : Nat} (hn : 0 < n) (H : ByteArray → Int) (K : ByteArray → Prop) {T : Tb} (h1 : T.used = 0) (h2 : T.left = 7 * (n : Int)) (h3 : T.cells = fun _ => .empty) : BI n H K T [] 0 := by
 have e1 : cnt isFull T.cells (8 * n) = 0 := cnt_none fun i _ => by rw [h3]; rfl
 have e2 : cnt isDel T.cells (8 * n) = 0 := cnt_none fun i _ => by rw [h3]; rfl
 refine ⟨hn, ⟨fun i j _ _ _ _ h => (by rw [h3] at h; cases h), by rw [h1, e1]; rfl, by rw [h2, e1, e2]; omega, by rw [h2]; omega⟩, ⟨fun i j _ _ t k e b _ _ _ h _ => (by rw [h3] at h; cases h), fun i _ t k e b h => (by rw [h3] at h; cases h), fun i _ t k e b h => (by rw [h3] at h; cases h)⟩, fun v hv => (by cases hv), fun i _ h => (by rw [h3] at h; cases h), fun i j u v h => (by simp at h), by rw [h1]; rfl, by unfold took; omega, fun v hv => (by cases hv)⟩

section
variable {n : Nat} {T T' : Tb} {H : ByteArray → Int} {K : ByteArray → Prop} {lives : List Life} {added : Nat} {key elem : ByteArray} {out : Int} {b : Bool}
/-- Where a key of the list is found. -/
theorem BI.found (hb : BI n H K T lives added) {i : Nat} {v : Life} (hv : lives[i]? = some v) : v.slot < 8 * n ∧ T.cells v.slot = v.cell ∧ v.hash = H v.key ∧ (searchR (v.hash / 128) n T.cells (v.hash % 128) v.key).slot = (v.slot : Int) := by
 obtain ⟨h1, h2, h3⟩ := hb.there v (List.mem_of_getElem? hv)
 obtain ⟨_, _, _, _, k, _, _, hs⟩ := find_there hb.key h1 h2 h3
 exact ⟨h1, h2, h3, by rw [hs]⟩
/-- Its place is the only one. -/
theorem BI.place (hb : BI n H K T lives added) {i j : Nat} {u v : Life} (hu : lives[i]? = some u) (hv : lives[j]? = some v) (hk : u.key = v.key) : i = j := by
 obtain ⟨h1, h2, _⟩ := hb.there u (List.mem_of_getElem? hu)
 obtain ⟨h4, h5, _⟩ := hb.there v (List.mem_of_getElem? hv)
 unfold Life.cell at h2 h5
 rw [hk] at h2
 exact hb.uniq _ _ _ _ hu hv (hb.key.uniq _ _ h1 h4 _ _ _ _ _ _ _ h2 h5)
theorem BI.gone (hb : BI n H K T lives added) (hno : placeL lives key = none) : (searchR (H key / 128) n T.cells (H key % 128) key).slot = -1 := by
 refine (find_not hb.n0 fun i hi e b hc => ?_).1
 obtain ⟨v, hv, rfl⟩ := hb.all i hi (by rw [hc]; rfl)
 have h2 := (hb.there v hv).2.1
 rw [hc] at h2
 unfold Life.cell at h2
 injection h2 with _ h3
 exact place_none hno v hv h3.symm
/-- A put of a key that is not there. -/
theorem BI.put_newB {birth : Int} (hb : BI n H K T lives added) (hK : K key) (hno : placeL lives key = none) (hr : PutR n T (H key) key elem birth (out, T')) :
  (out = 3 ∧ T' = T ∧ 7 * n ≤ added) ∨ (out = 2 ∧ ∃ p, p < 8 * n ∧ (searchR (H key / 128) n T'.cells (H key % 128) key).slot = ((p : Nat) : Int) ∧ BI n H K T' (lives ++ [⟨key, elem, H key, birth, p⟩]) (added + 1)) := by
 have hs := hb.gone hno
 have hcnt := TCnt.put hb.cnt hr
 have hkey := TKey.put hb.key hr
 have htook := took_put hb.cnt hr
 cases hr with
 | old p e0 b0 hp hs2 hcell => rw [hs] at hs2; omega
 | no hs2 hq =>
  have := took_no hb.cnt (.no hs2 hq : PutR n T (H key) key elem birth (3, T))
  have := hb.added
  exact .inl ⟨rfl, rfl, by omega⟩
 | new j i hj hi hs2 hem hf hl =>
  have hp : 8 * gk (H key / 128) n j + i < 8 * n := slot_lt (gk_lt (by omega)) hi
  revert hp hf hl hcnt hkey htook
  generalize 8 * gk (H key / 128) n j + i = p
  intro hf hl hcnt hkey htook hp
  dsimp only at hkey
  have hthere : updC T.cells p (.full (H key % 128) key elem birth) p = .full (H key % 128) key elem birth := updC_same ..
  have hfree : ∀ v ∈ lives, v.slot ≠ p := fun v hv q => by
   have h2 := (hb.there v hv).2.1
   rw [q] at h2
   rw [h2] at hf; cases hf
  refine .inr ⟨rfl, p, hp, ?_, ⟨hb.n0, hcnt, hkey, fun u hu => ?_, fun k hk hfk => ?_, fun a c u w ha hc hq => ?_, ?_, ?_, fun u hu => ?_⟩⟩
  ·obtain ⟨_, _, _, _, k, _, _, hs⟩ := find_there hkey hp hthere rfl
   dsimp only
   rw [hs]
  ·rcases List.mem_append.1 hu with hu | hu
   ·obtain ⟨q1, q2, q3⟩ := hb.there u hu
    refine ⟨q1, ?_, q3⟩
    dsimp only
    rw [updC_ne _ (hfree u hu)]; exact q2
   ·rw [List.mem_singleton] at hu; subst hu
    exact ⟨hp, hthere, rfl⟩
  ·by_cases q : k = p
   ·exact ⟨_, List.mem_append.2 (.inr (List.mem_singleton.2 rfl)), q.symm⟩
   ·dsimp only at hfk
    rw [updC_ne _ q] at hfk
    obtain ⟨u, hu, hq⟩ := hb.all k hk hfk
    exact ⟨u, List.mem_append.2 (.inl hu), hq⟩
  ·have get : ∀ (a : Nat) (u : Life), (lives ++ [(⟨key, elem, H key, birth, p⟩ : Life)])[a]? = some u → (lives[a]? = some u ∧ a < lives.length) ∨ (a = lives.length ∧ u.slot = p) := fun a u ha => by
    rcases Nat.lt_or_ge a lives.length with q | q
    ·rw [List.getElem?_append_left q] at ha; exact .inl ⟨ha, q⟩
    ·rw [List.getElem?_append_right q] at ha
     rcases Nat.eq_zero_or_pos (a - lives.length) with q2 | q2
     ·rw [q2] at ha; simp at ha; exact .inr ⟨by omega, by rw [← ha]⟩
     ·rw [List.getElem?_eq_none (by simp; omega)] at ha; cases ha
   rcases get a u ha with ⟨h5, h6⟩ | ⟨h5, h6⟩ <;> rcases get c w hc with ⟨h7, h8⟩ | ⟨h7, h8⟩
   ·exact hb.uniq _ _ _ _ h5 h7 hq
   ·exact absurd (hq.trans h8) (hfree u (List.mem_of_getElem? h5))
   ·exact absurd (hq.symm.trans h6) (hfree w (List.mem_of_getElem? h7))
   ·omega
  ·dsimp only; rw [hb.used]; simp
  ·simp only [if_pos] at htook; have := hb.added; omega
  ·rcases List.mem_append.1 hu with hu | hu
   ·exact hb.isK u hu
   ·rw [List.mem_singleton] at hu; subst hu; exact hK
/-- A delete of a key that is there. -/
theorem BI.del (hb : BI n H K T lives added) {i : Nat} {v : Life} (hv : lives[i]? = some v) (hr : DelR n T (H v.key) v.key (b, T')) : b = true ∧ BI n H K T' (lives.eraseIdx i) added := by
 have hil : i < lives.length := by rcases Nat.lt_or_ge i lives.length with q | q; exact q; rw [List.getElem?_eq_none q] at hv; cases hv
 obtain ⟨h1, h2, h3, hs⟩ := hb.found hv
 rw [h3] at hs
 have hcnt := TCnt.del hb.cnt hr
 have hkey := TKey.del hb.key hr
 have htook := took_del hb.cnt hr
 have get : ∀ (a : Nat) (u : Life), (lives.eraseIdx i)[a]? = some u → ∃ a', a' ≠ i ∧ lives[a']? = some u ∧ a' = if a < i then a else a + 1 := fun a u ha => by
  rw [List.getElem?_eraseIdx] at ha
  split at ha
  ·next q => exact ⟨a, by omega, ha, by rw [if_pos q]⟩
  ·next q => exact ⟨a + 1, by omega, ha, by rw [if_neg q]⟩
 have fin : ∀ c : Cell, isFull c = false → T'.cells = updC T.cells v.slot c → T'.used = T.used - 1 → BI n H K T' (lives.eraseIdx i) added := fun c hc hcells hused => by
  refine ⟨hb.n0, hcnt, hkey, fun u hu => ?_, fun k hk hf => ?_, fun a c u w ha hc hq => ?_, ?_, by have := hb.added; omega, fun u hu => hb.isK u (List.mem_of_mem_eraseIdx hu)⟩
  ·obtain ⟨a, ha⟩ := List.getElem?_of_mem hu
   obtain ⟨a', h5, h6, _⟩ := get a u ha
   obtain ⟨q1, q2, q3⟩ := hb.there u (List.mem_of_getElem? h6)
   refine ⟨q1, ?_, q3⟩
   rw [hcells, updC_ne _ fun q => h5 (hb.uniq _ _ _ _ h6 hv q)]
   exact q2
  ·rw [hcells] at hf
   by_cases q : k = v.slot
   ·rw [q, updC_same, hc] at hf; cases hf
   ·rw [updC_ne _ q] at hf
    obtain ⟨u, hu, rfl⟩ := hb.all k hk hf
    obtain ⟨a, ha⟩ := List.getElem?_of_mem hu
    have hai : a ≠ i := fun q2 => q (by subst q2; rw [hv] at ha; cases ha; rfl)
    refine ⟨u, List.mem_of_getElem? (i := if a < i then a else a - 1) ?_, rfl⟩
    rw [List.getElem?_eraseIdx]
    by_cases q3 : a < i
    ·rw [if_pos q3, if_pos q3]; exact ha
    ·rw [if_neg q3, if_neg (by omega), show a - 1 + 1 = a by omega]; exact ha
  ·obtain ⟨a', h5, h6, h7⟩ := get a u ha
   obtain ⟨c', h8, h9, h10⟩ := get c w hc
   have := hb.uniq _ _ _ _ h6 h9 hq
   split at h7 <;> split at h10 <;> omega
  ·rw [hused, hb.used, List.length_eraseIdx, if_pos hil]; omega
 cases hr with
 | no hs2 => rw [hs] at hs2; omega
 | passed p e0 b0 hp hs2 hcell hno =>
  have hpv : p = v.slot := by rw [hs] at hs2; omega
  subst hpv
  exact ⟨rfl, fin .deleted rfl rfl rfl⟩
 | free p q e0 b0 hp hs2 hcell hq hqe =>
  have hpv : p = v.slot := by rw [hs] at hs2; omega
  subst hpv
  exact ⟨rfl, fin .empty rfl rfl rfl⟩
end

/-- The list is never longer than the table. -/
theorem BI.len {n : Nat} {H : ByteArray → Int} {K : ByteArray → Prop} {T : Tb} {lives : List Life} {added : Nat} (hb : BI n H K T lives added) : lives.length ≤ 8 * n := by
 have h1 := hb.used
 have h2 := hb.cnt.used
 have h3 := cnt_le isFull T.cells (8 * n)
 omega

theorem gk_inj {home : Int} {n e a b : Nat} (hn : n = 2 ^ e) (ha : a < n) (hb : b < n) (h : gk home n a = gk home n b) : a = b := by
 have hn0 : 0 < n := by omega
 refine ord_inj (home := home) hn ha hb ?_
 rw [← gk_cast hn0, ← gk_cast hn0, h]
/-- A key gone, another of the same hash put in its stead. -/
theorem BI.swap {n e : Nat} {H : ByteArray → Int} {K : ByteArray → Prop} {T T1 T2 : Tb} {lives : List Life} {added : Nat} (hb : BI n H K T lives added) (hn : n = 2 ^ e) {i : Nat} {v : Life} (hv : lives[i]? = some v) {key elem : ByteArray} {birth out : Int} {b : Bool}
  (hno : ∀ u ∈ lives, u.key ≠ key) (hD : DelR n T v.hash v.key (b, T1)) (hR : PutR n T1 v.hash key elem birth (out, T2)) :
  b = true ∧ out = 2 ∧ (searchR (v.hash / 128) n T2.cells (v.hash % 128) key).probes ≤ (searchR (v.hash / 128) n T.cells (v.hash % 128) v.key).probes ∧ T2.used = T.used ∧ (T2.left = T.left ∨ T2.left = T.left + 1) := by
 obtain ⟨h1, h2, h3, hs⟩ := hb.found hv
 have hn0 := hb.n0
 have hcnt := TCnt.del hb.cnt hD
 have hkey := TKey.del hb.key hD
 obtain ⟨j0, hj0, hg0, hem0, k, hk, hgk, hfind⟩ := find_there hb.key h1 h2 h3
 have hkn : k < n := by omega
 have hold : (searchR (v.hash / 128) n T.cells (v.hash % 128) v.key).probes = (k : Int) + 1 := by rw [hfind]
 -- the cells behind the delete
 have hT1 : b = true ∧ T1.used = T.used - 1 ∧ (∃ c, T1.cells = updC T.cells v.slot c ∧ isFull c = false) ∧ ((T1.left = T.left ∧ ∀ q, q / 8 = v.slot / 8 → T1.cells q ≠ .empty) ∨ T1.left = T.left + 1) := by
  cases hD with
  | no hs2 => rw [hs] at hs2; omega
  | passed p e0 b0 hp hs2 hcell hnoe =>
   have hpv : p = v.slot := by rw [hs] at hs2; omega
   subst hpv
   refine ⟨rfl, rfl, ⟨_, rfl, rfl⟩, .inl ⟨rfl, fun q hq hc => ?_⟩⟩
   by_cases q2 : q = v.slot
   ·dsimp only at hc; rw [q2, updC_same] at hc; cases hc
   ·dsimp only at hc; rw [updC_ne _ q2] at hc; exact hnoe q hq hc
  | free p q e0 b0 hp hs2 hcell hq hqe =>
   have hpv : p = v.slot := by rw [hs] at hs2; omega
   subst hpv
   exact ⟨rfl, rfl, ⟨_, rfl, rfl⟩, .inr rfl⟩
 obtain ⟨hbt, hused, ⟨c, hcells, hcf⟩, hleft⟩ := hT1
 have hvac : vacAt (v.hash / 128) n T1.cells k < 8 := by
  unfold vacAt
  refine firstF_hit (i := v.slot % 8) (Nat.mod_lt _ (by decide)) (vac_iff.2 ?_)
  show isFull (T1.cells (8 * gk (v.hash / 128) n k + v.slot % 8)) = false
  rw [hgk, show 8 * (v.slot / 8) + v.slot % 8 = v.slot by omega, hcells, updC_same]; exact hcf
 have hnoemp : ∀ j, j < k → ∀ r, r < 8 → T1.cells (8 * gk (v.hash / 128) n j + r) ≠ .empty := fun j hj r hr hc => by
  have hne : gk (v.hash / 128) n j ≠ v.slot / 8 := fun q => by
   have := gk_inj hn (by omega : j < n) hkn (q.trans hgk.symm)
   omega
  rw [hcells, updC_ne _ (by omega)] at hc
  have h5 := hem0 j (by omega)
  unfold empAt at h5
  rw [firstF_none] at h5
  have h6 := h5 r hr
  rw [emp_iff.2 (show grpC T.cells (gk (v.hash / 128) n j) r = .empty from hc)] at h6
  cases h6
 have hnot : ∀ p, p < 8 * n → ∀ t e b, T1.cells p ≠ .full t key e b := fun p hp t e b hc => by
  have hne : p ≠ v.slot := fun q => by rw [q, hcells, updC_same] at hc; rw [hc] at hcf; cases hcf
  rw [hcells, updC_ne _ hne] at hc
  obtain ⟨u, hu, rfl⟩ := hb.all p hp (by rw [hc]; rfl)
  have h5 := (hb.there u hu).2.1
  rw [hc] at h5
  unfold Life.cell at h5
  injection h5 with _ h6
  exact hno u hu h6.symm
 have hjk : ∀ j, (∀ i, i < j → vacAt (v.hash / 128) n T1.cells i = 8) → j ≤ k := fun j hj => by
  rcases Nat.lt_or_ge k j with q | q
  ·have := hj k q; omega
  ·exact q
 have hkey' : TKey n (fun x => if x = key then v.hash else H x) T1.cells :=
  ⟨hkey.uniq, fun p hp t k e b hc => by
   have hne : k ≠ key := fun q => hnot p hp t e b (by rw [← q]; exact hc)
   rw [if_neg hne]; exact hkey.tag p hp _ _ _ _ hc, fun p hp t k e b hc => by
   have hne : k ≠ key := fun q => hnot p hp t e b (by rw [← q]; exact hc)
   rw [if_neg hne]; exact hkey.way p hp _ _ _ _ hc⟩
 have hself : (fun x => if x = key then v.hash else H x) key = v.hash := if_pos rfl
 have hR' : PutR n T1 ((fun x => if x = key then v.hash else H x) key) key elem birth (out, T2) := by rw [hself]; exact hR
 have hkey2 := TKey.put hkey' hR'
 cases hR with
 | old p e0 b0 hp hs2 hcell => exact absurd hcell (hnot p hp _ _ _)
 | no hs2 hq =>
  exfalso
  rcases hq with hq | ⟨hl, j, hj, hvj, r, hr, hemp⟩
  ·have := hq v.slot h1
   rw [hcells, updC_same, hcf] at this; cases this
  ·have hjle := hjk j hvj
   have hemp' : T1.cells (8 * gk (v.hash / 128) n j + r) = .empty := by
    cases hc : T1.cells (8 * gk (v.hash / 128) n j + r) with
    | empty => rfl
    | deleted => rw [hc] at hemp; cases hemp
    | full _ _ _ _ => rw [hc] at hemp; cases hemp
   rcases Nat.lt_or_ge j k with q | q
   ·exact hnoemp j q r hr hemp'
   ·have : j = k := by omega
    subst this
    have hroom := hb.cnt.room
    rcases hleft with ⟨hl2, hno2⟩ | hl2
    ·exact hno2 _ (by rw [hgk]; omega) hemp'
    ·omega
 | new j r hj hr hs2 hvj hf hl =>
  have hjle := hjk j hvj
  have hp : 8 * gk (v.hash / 128) n j + r < 8 * n := slot_lt (gk_lt hn0) hr
  have hcell2 : updC T1.cells (8 * gk (v.hash / 128) n j + r) (.full (v.hash % 128) key elem birth) (8 * gk (v.hash / 128) n j + r) = .full (v.hash % 128) key elem birth := updC_same ..
  obtain ⟨_, _, _, _, k2, hk2, hgk2, hfind2⟩ := find_there hkey2 hp hcell2 hself.symm
  refine ⟨hbt, rfl, ?_, by dsimp only; omega, ?_⟩
  ·rw [hold]
   dsimp only at hfind2 ⊢
   rw [hfind2]
   have : k2 = j := gk_inj hn (by omega) hj (by rw [hgk2]; omega)
   dsimp only; omega
  ·dsimp only
   split
   ·next q =>
    rcases hleft with ⟨hl2, hno2⟩ | hl2
    ·exfalso
     have hemp' : T1.cells (8 * gk (v.hash / 128) n j + r) = .empty := by
      cases hc : T1.cells (8 * gk (v.hash / 128) n j + r) with
      | empty => rfl
      | deleted => rw [hc] at q; cases q
      | full _ _ _ _ => rw [hc] at q; cases q
     rcases Nat.lt_or_ge j k with q2 | q2
     ·exact hnoemp j q2 r hr hemp'
     ·have : j = k := by omega
      subst this
      exact hno2 _ (by rw [hgk]; omega) hemp'
    ·omega
   ·rcases hleft with ⟨hl2, _⟩ | hl2 <;> omega

/-! ### The plan's keys -/
end Go.Proofs.YthkajgkagnenbaaGreatDoor.Bench
