/- Plain lemmas on whole numbers: powers of two, masks. No program. -/
import Derived.Laws.BitsAllLaws
import Derived.Laws.BitsLemmas
import Derived.RowKit
import Derived.IntWalk
set_option linter.unusedVariables false
set_option linter.unusedSimpArgs false
namespace Go.Proofs.YtgijnebgchkenaaGreatDoor.Bits
open Go.RowKit

theorem ofInt_i64 (a : Nat) (ha : a < 9223372036854775808) : (BitVec.ofInt 64 (a : Int)).toNat = a := by
  rw [BitVec.ofInt_natCast, BitVec.toNat_ofNat]; exact Nat.mod_eq_of_lt (by omega)
theorem i64_and_nat (a b : Nat) (ha : a < 9223372036854775808) (hb : b < 9223372036854775808) : bits .and .i64 (a : Int) (b : Int) = ((a &&& b : Nat) : Int) := by
  have hx : a &&& b < 2 ^ 63 := Nat.and_lt_two_pow _ (by omega)
  show IntKind.i64.wrap ((BitVec.ofInt 64 (a : Int) &&& BitVec.ofInt 64 (b : Int)).toNat : Int) = _
  rw [BitVec.toNat_and, ofInt_i64 a ha, ofInt_i64 b hb, IntKind.wrap_i64]
  omega

/-- The test that Go's text makes: is a power of two. -/
def pow2 (a : Int) : Bool := bits .and .i64 a (wrap64 (a - 1)) == 0

theorem pow2_nat (a : Nat) (h1 : 1 ≤ a) (h2 : a ≤ 1048576) : pow2 (a : Int) = true ↔ ∃ k, a = 2 ^ k := by
  unfold pow2
  have e : wrap64 ((a : Int) - 1) = ((a - 1 : Nat) : Int) := by unfold wrap64; omega
  rw [e, i64_and_nat a (a - 1) (by omega) (by omega)]
  have hz : a ≠ 0 := by omega
  have := Nat.and_sub_one_eq_zero_iff_isPowerOfTwo hz
  rw [beq_iff_eq]
  constructor
  · intro h
    exact this.1 (by exact_mod_cast h)
  · rintro ⟨k, hk⟩
    exact_mod_cast this.2 ⟨k, hk⟩

theorem pow2_le {k n : Nat} (h : 2 ^ k ≤ 2 ^ n) : k ≤ n := (Nat.pow_le_pow_iff_right (by decide)).1 h

/-- An unsigned number masked by a power of two less one: the remainder. -/
theorem mask_u64 (x : Int) (h0 : 0 ≤ x) (h1 : x < 18446744073709551616) (k : Nat) (hk : k ≤ 63) : bits .and .u64 x ((2 : Int) ^ k - 1) = x % (2 : Int) ^ k := by
  obtain ⟨n, rfl⟩ := Int.eq_ofNat_of_zero_le h0
  have hp : 2 ^ k ≤ 9223372036854775808 := (Nat.pow_le_pow_right (by decide : 0 < 2) hk : 2 ^ k ≤ 2 ^ 63)
  have hq : 0 < 2 ^ k := Nat.two_pow_pos k
  have e : (2 : Int) ^ k - 1 = ((2 ^ k - 1 : Nat) : Int) := by
    have : ((2 ^ k : Nat) : Int) = (2 : Int) ^ k := Int.natCast_pow 2 k
    omega
  rw [e, u64_and_nat n _ (by omega) (by omega), Nat.and_two_pow_sub_one_eq_mod, Int.natCast_emod, Int.natCast_pow]
  rfl

theorem pow_cast (k : Nat) : ((2 ^ k : Nat) : Int) = (2 : Int) ^ k := Int.natCast_pow 2 k
end Go.Proofs.YtgijnebgchkenaaGreatDoor.Bits
