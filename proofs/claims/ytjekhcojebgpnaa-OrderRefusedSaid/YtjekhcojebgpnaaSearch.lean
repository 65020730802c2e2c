import Derived.Laws.BitsAllLaws
import Derived.Laws.BitsLemmas
import Derived.RowKit
import Derived.IntWalk
import Derived.KernelRfl
import Derived.Test.YtjekhcojebgpnaaTypes
section
/- Plain lemmas on whole numbers: powers of two, masks. No program. -/
set_option linter.unusedVariables false
set_option linter.unusedSimpArgs false
namespace Go.Proofs.Ytjekhcojebgpnaa.Bits
open Go.RowKit

/-- The test that Go's text makes: is a power of two. -/
def pow2 (a : Int) : Bool := bits .and .i64 a (wrap64 (a - 1)) == 0

theorem pow_cast (k : Nat) : ((2 ^ k : Nat) : Int) = (2 : Int) ^ k := Int.natCast_pow 2 k
end Go.Proofs.Ytjekhcojebgpnaa.Bits
end
section
/- Plain laws on the eight bytes of a word: what the control word's bit tricks come to. No program. -/
set_option linter.unusedVariables false
set_option linter.unusedSimpArgs false
set_option maxRecDepth 100000
namespace Go.Proofs.Ytjekhcojebgpnaa.CtrlB
open Go.RowKit Go.Proofs.Ytjekhcojebgpnaa.Bits

/-- The number with these digits to the base 256, the lowest first. -/
def ofB : List Nat → Nat
 | [] => 0
 | b :: r => b + 256 * ofB r
theorem tb (x X : Nat) (hx : x < 256) (i : Nat) : (x + 256 * X).testBit i = if i < 8 then x.testBit i else X.testBit (i - 8) := by
 have := Nat.testBit_two_pow_mul_add X (b := x) (i := 8) (by simpa using hx) i
 rw [show x + 256 * X = 2 ^ 8 * X + x by omega]; exact this
/-- A word's eight bytes. -/
abbrev Byt := Nat → Nat
def lst (f : Byt) : List Nat := [f 0, f 1, f 2, f 3, f 4, f 5, f 6, f 7]
/-- The word of these bytes. -/
def wd (f : Byt) : Nat := ofB (lst f)
def okB (f : Byt) : Prop := ∀ i, i < 8 → f i < 256
theorem c1 : (72340172838076673 : Nat) = wd fun _ => 1 := by decide
/-! ### The set's lowest slot, by the tables of trailing zeros -/
def oneF (i c : Nat) : Byt := fun j => if j = i then c else 0
theorem ok_one {i c : Nat} (hc : c < 256) : okB (oneF i c) := fun j _ => by unfold oneF; split <;> omega
end Go.Proofs.Ytjekhcojebgpnaa.CtrlB
end
section
/- The contract of slices.BinarySearch over rising whole numbers. -/
set_option linter.unusedVariables false
set_option linter.unusedSimpArgs false
set_option maxRecDepth 100000
namespace Go.Proofs.Ytjekhcojebgpnaa.Search
open Go.RowKit Go.Proofs Go.Proofs.Ytjekhcojebgpnaa.Eng Go.Proofs.Ytjekhcojebgpnaa.Ty Go.Proofs.Ytjekhcojebgpnaa.Bits

def ints (xs : List Int) : List Value := xs.map fun x => .int .i64 x
theorem ints_at {xs : List Int} {i : Nat} (h : i < xs.length) : (ints xs)[i]? = some (.int .i64 xs[i]) := by simp [ints, h]
theorem ints_len (xs : List Int) : (ints xs).length = xs.length := by simp [ints]

theorem isNaN1_ok (x : Int) : FnOk Try.prog 86 #[.int .i64 x] [] (fun v L => v = .bool false ∧ L = []) := by
 refine fn_intro en86 Try.func86 rfl rfl rfl fun Fr w0 => t_nm ?_
 refine sr<|asg O O<|lz<|mv O O<|mv O O<|l_q O (qi O O (b_neq ·))<|asg O O<|lc<|rt<|fr1 O ([]) (.tmp rfl) ?_
 exact ⟨by simp, rfl⟩
theorem isNaN2_ok (x : Int) : FnOk Try.prog 66 #[.int .i64 x] [] (fun v L => v = .bool false ∧ L = []) := by
 refine fn_intro en66 Try.func66 rfl rfl rfl fun Fr w0 => t_nm ?_
 refine sr<|asg O O<|lz<|mv O O<|mv O O<|l_q O (qi O O (b_neq ·))<|asg O O<|lc<|rt<|fr1 O ([]) (.tmp rfl) ?_
 exact ⟨by simp, rfl⟩
theorem Less_ok (x y : Int) : FnOk Try.prog 65 #[.int .i64 x, .int .i64 y] [] (fun v L => v = .bool (decide (x < y)) ∧ L = []) := by
 refine fn_intro en65 Try.func65 rfl rfl rfl fun Fr w0 => t_nm ?_
 refine sr<|asg O O<|lz<|mv O O<|lc1 O O O (isNaN1_ok _) ?_
 refine mv O O<|l_pt (t := 7) rfl (fun h => ?_) fun h => ?_
 ·cases h
 ·exact l_off O O O O<|l_off O O O O<|l_off O O O O<|l_q O (q_pk O O)<|mv O O<|l_on O O<|mv O O<|l_on O O<|mv O O<|l_on O O<|l_q O (qi O O (b_lss ·))<|l_q O (q_pk O O)<|asg O O<|lc<|rt<|fr1 O ([]) (.tmp rfl) ⟨rfl, rfl⟩

/-- Where t belongs. -/
def placed (xs : List Int) (t : Int) (i : Nat) : Prop := i ≤ xs.length ∧ (∀ j (h : j < xs.length), j < i → xs[j] < t) ∧ (∀ j (h : j < xs.length), i ≤ j → t ≤ xs[j])
theorem Search_ok (xs : List Int) (g k cap : Nat) (t : Int) (hk : xs.length = k) (hkb : k ≤ 4611686018427387904) (hs : ∀ i j (hi : i < xs.length) (hj : j < xs.length), i < j → xs[i] < xs[j]) :
  FnOk Try.prog 46 #[.slice (some ⟨g, 0, none⟩) k cap, .int .i64 t] [ownS 3 1 (.slice (some ⟨g, 0, none⟩) k cap) k (ints xs)]
   (fun v L => (∃ i : Nat, v = .tuple #[.int .i64 i, .bool (decide (xs[i]? = some t))] ∧ placed xs t i) ∧ L = [ownS 3 1 (.slice (some ⟨g, 0, none⟩) k cap) k (ints xs)]) := by
 refine fn_intro en46 Try.func46 rfl rfl rfl fun Fr w0 => t_nm ?_
 refine sr<|asg O O<|asg O O<|lz<|mv O O<|l_q O (ql O yU28)<|asg O O<|lz<|mv O O<|asg O O<|asg O O<|lc<|t_seq<|t_block ?_
 refine t_loop (fun x : Nat × Nat => x.1 ≤ x.2 ∧ x.2 ≤ k ∧ (∀ j (h : j < xs.length), j < x.1 → xs[j] < t) ∧ (∀ j (h : j < xs.length), x.2 ≤ j → t ≤ xs[j])) (fun x => [(0, .slice (some ⟨g, 0, none⟩) k cap), (1, .int .i64 t), (6, .int .i64 k), (7, .int .i64 x.1), (8, .int .i64 x.2)]) (fun _ => ownS 3 1 (.slice (some ⟨g, 0, none⟩) k cap) k (ints xs) :: Fr) (fun x => x.2 - x.1) (0, k) ⟨by omega, by omega, by omega, fun j h h2 => by omega⟩ ⟨rfl, rfl, rfl, rfl, rfl, trivial⟩ (Ent.refl _) ?_
 rintro ⟨i, j⟩ ⟨hij, hjk, hlo, hhi⟩
 dsimp only at hij hjk hlo hhi ⊢
 refine t_seq<|sr<|mv O O<|mv O O<|l_q O (qi O O (b_lss ·))<|lc<|t_if O (fun h => ?_) fun h => ?_
 ·have hm : (((i : Int) + (j : Int)) / 2).toNat = (i + j) / 2 := by omega
  refine t_skip<|n_code<|t_block<|sr<|mv O O<|mv O O<|l_q O (qadd O O) ?_
  refine l_q O (qcv O yU3 yU131) ?_
  apply l_q O
  ·apply qi O O; first | exact fun w => b_shr_c (m := 2) w (by decide) (by decide) (by omega) | exact fun w => b_shr w (by decide)
  refine l_q O (qcv O yU131 yU3) ?_
  refine asg O O<|lz<|mv O O<|mv O O<|l_q O (q_indexAddr1 O O yU28 yS3 (by omega)) ?_
  apply l_q O
  ·apply q_loadOwn O yA3
   ·exact tk
   ·rw [Nat.zero_add, hm, ints_at (by omega)]
  refine mv O O<|lc1 O O O (Less_ok _ _) ?_
  refine lc<|t_if O (fun q => ?_) fun q => ?_
  ·refine t_region<|mv O O<|l_q O (qadd O O) ?_
   refine asg O O<|l_nil<|n_blk ?_
   apply n_again (((i + j) / 2 + 1, j))
   ·exact ⟨by dsimp only; omega, hjk, fun a ha hai => by by_cases e : a = (i + j) / 2; (subst e; exact q); exact Int.lt_trans (hs a ((i + j) / 2) ha (by omega) (by dsimp only at hai; omega)) q, hhi⟩
   ·dsimp only; omega
   ·exact ⟨rfl, rfl, rfl, congrArg (fun z => some (Value.int .i64 z)) (by omega : ((i : Int) + (j : Int)) / 2 + 1 = (((i + j) / 2 + 1 : Nat) : Int)), rfl, trivial⟩
   ·exact en
  ·refine t_region<|mv O O<|asg O O<|l_nil<|n_blk ?_
   apply n_again ((i, (i + j) / 2))
   ·exact ⟨by dsimp only; omega, by dsimp only; omega, hlo, fun a ha hai => by by_cases e : a = (i + j) / 2; (subst e; omega); have := hs ((i + j) / 2) a (by omega) ha (by dsimp only at hai; omega); omega⟩
   ·dsimp only; omega
   ·exact ⟨rfl, rfl, rfl, rfl, congrArg (fun z => some (Value.int .i64 z)) (by omega : ((i : Int) + (j : Int)) / 2 = (((i + j) / 2 : Nat) : Int)), trivial⟩
   ·exact en
 ·refine xt O<|nz<|mv O O<|mv O O<|mv O O<|l_q O (qi O O (b_lss ·))<|mv O O ?_
  obtain rfl : i = j := by omega
  have hpl : placed xs t i := ⟨by omega, hlo, hhi⟩
  refine l_pt (t := 35) rfl (fun a => ?_) fun a => ?_
  ·refine l_on O O<|mv O O<|l_on O O<|mv O O<|l_on O O<|l_q O (q_indexAddr1 O O yU28 yS3 (by omega)) ?_
   refine l_on O O ?_
   apply l_q O
   ·apply q_loadOwn O yA3
    ·exact tk
    ·rw [Nat.zero_add, Int.toNat_natCast, ints_at (by omega)]
   refine l_on O O<|mv O O<|l_on O O<|l_q O (qi O O (b_eql ·))<|l_on O O<|mv O O ?_
   have hil : i < xs.length := by omega
   refine l_pt (t := 42) rfl (fun b => ?_) fun b => ?_
   ·refine l_off O O O O<|l_off O O O O<|l_off O O O O<|l_off O O O O<|l_off O O O O<|l_off O O O O<|l_offu O O O<|l_offu O O O<|l_off O O O O<|l_on O O<|l_q O (q_pk O O)<|l_q O (q_pk O O)<|asg O O<|asg O O<|lc<|rt<|fr2 O ([ownS 3 1 (.slice (some ⟨g, 0, none⟩) k cap) k (ints xs)]) (.tmp rfl) (.tmp rfl) ?_
    exact ⟨⟨i, by rw [List.getElem?_eq_getElem hil, b, decide_eq_true rfl], hpl⟩, rfl⟩
   ·refine l_on O O<|mv O O<|l_on O O<|mv O O<|l_on O O<|l_q O (q_indexAddr1 O O yU28 yS3 (by omega)) ?_
    refine l_on O O ?_
    apply l_q O
    ·apply q_loadOwn O yA3
     ·exact tk
     ·rw [Nat.zero_add, Int.toNat_natCast, ints_at (by omega)]
    refine l_on O O<|lc1 O O O (isNaN2_ok _) ?_
    refine l_on O O<|mv O O<|l_pt (t := 48) rfl (fun e => ?_) fun e => ?_
    ·cases e
    ·refine l_off O O O O<|l_off O O O O<|l_on O O<|l_q O (q_pk O O)<|l_on O O<|l_q O (q_pk O O)<|l_q O (q_pk O O)<|asg O O<|asg O O<|lc<|rt<|fr2 O ([ownS 3 1 (.slice (some ⟨g, 0, none⟩) k cap) k (ints xs)]) (.tmp rfl) (.tmp rfl) ?_
     exact ⟨⟨i, by rw [List.getElem?_eq_getElem hil, decide_eq_false (by simpa using b)], hpl⟩, rfl⟩
  ·refine l_off O O O O<|l_off O O O O<|l_off O O O O<|l_off O O O O<|l_off O O O O<|l_off O O O O<|l_off O O O O<|l_offu O O O<|l_offu O O O<|l_offu O O O<|l_offu O O O<|l_offu O O O<|l_offu O O O<|l_offu O O O<|l_offu O O O<|l_offu O O O<|l_off O O O O<|l_q O (q_pk O O)<|asg O O<|asg O O<|lc<|rt<|fr2 O ([ownS 3 1 (.slice (some ⟨g, 0, none⟩) k cap) k (ints xs)]) (.tmp rfl) (.tmp rfl) ?_
   exact ⟨⟨i, by rw [List.getElem?_eq_none (by omega)]; rfl, hpl⟩, rfl⟩
end Go.Proofs.Ytjekhcojebgpnaa.Search
end
