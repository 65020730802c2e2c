import Derived.Laws.BitsAllLaws
import Derived.Laws.BitsLemmas
import Derived.RowKit
import Derived.IntWalk
import Derived.Test.YtgijnebgchkenaaGreatDoorTypes
section
/- Plain lemmas on whole numbers: powers of two, masks. No program. -/
set_option linter.unusedVariables false
set_option linter.unusedSimpArgs false
namespace Go.Proofs.YtgijnebgchkenaaGreatDoor.Bits
open Go.RowKit

theorem ofInt_i64 (a : Nat) (ha : a < 9223372036854775808) : (BitVec.ofInt 64 (a : Int)).toNat = a := by
  rw [BitVec.ofInt_natCast, BitVec.toNat_ofNat]; exact Nat.mod_eq_of_lt (by omega)
theorem i64_and_nat (a b : Nat) (ha : a < 9223372036854775808) (hb : b < 9223372036854775808) : bits .and .i64 (a : Int) (b : Int) = ((a &&& b : Nat) : Int) := by
  have hx : a &&& b < 2 ^ 63 := Nat.and_lt_two_pow _ (by omega)
  show IntKind.i64.wrap ((BitVec.ofInt 64 (a : Int) &&& BitVec.ofInt 64 (b : Int)).toNat : Int) = _
  rw [BitVec.toNat_and, ofInt_i64 a ha, ofInt_i64 b hb, IntKind.wrap_i64]
  omega

/-- The test that Go's text makes: is a power of two. -/
def pow2 (a : Int) : Bool := bits .and .i64 a (wrap64 (a - 1)) == 0

theorem pow2_nat (a : Nat) (h1 : 1 ≤ a) (h2 : a ≤ 1048576) : pow2 (a : Int) = true ↔ ∃ k, a = 2 ^ k := by
  unfold pow2
  have e : wrap64 ((a : Int) - 1) = ((a - 1 : Nat) : Int) := by unfold wrap64; omega
  rw [e, i64_and_nat a (a - 1) (by omega) (by omega)]
  have hz : a ≠ 0 := by omega
  have := Nat.and_sub_one_eq_zero_iff_isPowerOfTwo hz
  rw [beq_iff_eq]
  constructor
  · intro h
    exact this.1 (by exact_mod_cast h)
  · rintro ⟨k, hk⟩
    exact_mod_cast this.2 ⟨k, hk⟩

theorem pow2_le {k n : Nat} (h : 2 ^ k ≤ 2 ^ n) : k ≤ n := (Nat.pow_le_pow_iff_right (by decide)).1 h

/-- An unsigned number masked by a power of two less one: the remainder. -/
theorem mask_u64 (x : Int) (h0 : 0 ≤ x) (h1 : x < 18446744073709551616) (k : Nat) (hk : k ≤ 63) : bits .and .u64 x ((2 : Int) ^ k - 1) = x % (2 : Int) ^ k := by
  obtain ⟨n, rfl⟩ := Int.eq_ofNat_of_zero_le h0
  have hp : 2 ^ k ≤ 9223372036854775808 := (Nat.pow_le_pow_right (by decide : 0 < 2) hk : 2 ^ k ≤ 2 ^ 63)
  have hq : 0 < 2 ^ k := Nat.two_pow_pos k
  have e : (2 : Int) ^ k - 1 = ((2 ^ k - 1 : Nat) : Int) := by
    have : ((2 ^ k : Nat) : Int) = (2 : Int) ^ k := Int.natCast_pow 2 k
    omega
  rw [e, u64_and_nat n _ (by omega) (by omega), Nat.and_two_pow_sub_one_eq_mod, Int.natCast_emod, Int.natCast_pow]
  rfl

theorem pow_cast (k : Nat) : ((2 ^ k : Nat) : Int) = (2 : Int) ^ k := Int.natCast_pow 2 k
end Go.Proofs.YtgijnebgchkenaaGreatDoor.Bits
end
section
/- The contract of slices.BinarySearch over rising whole numbers. -/
set_option linter.unusedVariables false
set_option linter.unusedSimpArgs false
set_option maxRecDepth 100000
namespace Go.Proofs.YtgijnebgchkenaaGreatDoor.Search
open Go.RowKit Go.Proofs Go.Proofs.YtgijnebgchkenaaGreatDoor.Eng Go.Proofs.YtgijnebgchkenaaGreatDoor.Ty Go.Proofs.YtgijnebgchkenaaGreatDoor.Bits

def ints (xs : List Int) : List Value := xs.map fun x => .int .i64 x
theorem ints_at {xs : List Int} {i : Nat} (h : i < xs.length) : (ints xs)[i]? = some (.int .i64 xs[i]) := by simp [ints, h]
theorem ints_len (xs : List Int) : (ints xs).length = xs.length := by simp [ints]

theorem isNaN1_ok (x : Int) : FnOk Tryz.prog 177 #[.int .i64 x] [] (fun v L => v = .bool false ∧ L = []) := by
  refine fn_intro en177 Tryz.func177 rfl rfl rfl fun Fr w0 => t_nm ?_
  refine sr <| asg rfl rfl <| lz <| mv rfl rfl <| mv rfl rfl <| l_q rfl (qi rfl rfl (b_neq ·)) <| asg rfl rfl <| lc <| rt <| fr1 rfl ([]) (.tmp rfl) ?_
  exact ⟨by simp, rfl⟩
theorem isNaN2_ok (x : Int) : FnOk Tryz.prog 158 #[.int .i64 x] [] (fun v L => v = .bool false ∧ L = []) := by
  refine fn_intro en158 Tryz.func158 rfl rfl rfl fun Fr w0 => t_nm ?_
  refine sr <| asg rfl rfl <| lz <| mv rfl rfl <| mv rfl rfl <| l_q rfl (qi rfl rfl (b_neq ·)) <| asg rfl rfl <| lc <| rt <| fr1 rfl ([]) (.tmp rfl) ?_
  exact ⟨by simp, rfl⟩
theorem Less_ok (x y : Int) : FnOk Tryz.prog 157 #[.int .i64 x, .int .i64 y] [] (fun v L => v = .bool (decide (x < y)) ∧ L = []) := by
  refine fn_intro en157 Tryz.func157 rfl rfl rfl fun Fr w0 => t_nm ?_
  refine sr <| asg rfl rfl <| lz <| mv rfl rfl <| lc1 rfl rfl rfl (isNaN1_ok _) ?_
  refine mv rfl rfl <| l_pt (t := 7) rfl (fun h => ?_) fun h => ?_
  · cases h
  · exact l_off rfl rfl rfl rfl <| l_off rfl rfl rfl rfl <| l_off rfl rfl rfl rfl <| l_q rfl (q_pk rfl rfl) <| mv rfl rfl <| l_on rfl rfl <| mv rfl rfl <| l_on rfl rfl <| mv rfl rfl <| l_on rfl rfl <| l_q rfl (qi rfl rfl (b_lss ·)) <| l_q rfl (q_pk rfl rfl) <| asg rfl rfl <| lc <| rt <| fr1 rfl ([]) (.tmp rfl) ⟨rfl, rfl⟩

/-- Where t belongs. -/
def placed (xs : List Int) (t : Int) (i : Nat) : Prop := i ≤ xs.length ∧ (∀ j (h : j < xs.length), j < i → xs[j] < t) ∧ (∀ j (h : j < xs.length), i ≤ j → t ≤ xs[j])
theorem Search_ok (xs : List Int) (g k cap : Nat) (t : Int) (hk : xs.length = k) (hkb : k ≤ 4611686018427387904) (hs : ∀ i j (hi : i < xs.length) (hj : j < xs.length), i < j → xs[i] < xs[j]) :
    FnOk Tryz.prog 118 #[.slice (some ⟨g, 0, none⟩) k cap, .int .i64 t] [ownS 3 1 (.slice (some ⟨g, 0, none⟩) k cap) k (ints xs)]
      (fun v L => (∃ i : Nat, v = .tuple #[.int .i64 i, .bool (decide (xs[i]? = some t))] ∧ placed xs t i) ∧ L = [ownS 3 1 (.slice (some ⟨g, 0, none⟩) k cap) k (ints xs)]) := by
  refine fn_intro en118 Tryz.func118 rfl rfl rfl fun Fr w0 => t_nm ?_
  refine sr <| asg rfl rfl <| asg rfl rfl <| lz <| mv rfl rfl <| l_q rfl (ql rfl yU22) <| asg rfl rfl <| lz <| mv rfl rfl <| asg rfl rfl <| asg rfl rfl <| lc <| t_seq <| t_block ?_
  refine t_loop (fun x : Nat × Nat => x.1 ≤ x.2 ∧ x.2 ≤ k ∧ (∀ j (h : j < xs.length), j < x.1 → xs[j] < t) ∧ (∀ j (h : j < xs.length), x.2 ≤ j → t ≤ xs[j])) (fun x => [(0, .slice (some ⟨g, 0, none⟩) k cap), (1, .int .i64 t), (6, .int .i64 k), (7, .int .i64 x.1), (8, .int .i64 x.2)]) (fun _ => ownS 3 1 (.slice (some ⟨g, 0, none⟩) k cap) k (ints xs) :: Fr) (fun x => x.2 - x.1) (0, k) ⟨by omega, by omega, by omega, fun j h h2 => by omega⟩ ⟨rfl, rfl, rfl, rfl, rfl, trivial⟩ (Ent.refl _) ?_
  rintro ⟨i, j⟩ ⟨hij, hjk, hlo, hhi⟩
  dsimp only at hij hjk hlo hhi ⊢
  refine t_seq <| sr <| mv rfl rfl <| mv rfl rfl <| l_q rfl (qi rfl rfl (b_lss ·)) <| lc <| t_if rfl (fun h => ?_) fun h => ?_
  · have hm : (((i : Int) + (j : Int)) / 2).toNat = (i + j) / 2 := by omega
    refine t_skip <| n_code <| t_block <| sr <| mv rfl rfl <| mv rfl rfl <| l_q rfl (qadd rfl rfl) ?_
    refine l_q rfl (qcv rfl yU3 yU226) ?_
    apply l_q rfl
    · apply qi rfl rfl; first | exact fun w => b_shr_c (m := 2) w (by decide) (by decide) (by omega) | exact fun w => b_shr w (by decide)
    refine l_q rfl (qcv rfl yU226 yU3) ?_
    refine asg rfl rfl <| lz <| mv rfl rfl <| mv rfl rfl <| l_q rfl (q_indexAddr1 rfl rfl yU22 yS3 (by omega)) ?_
    apply l_q rfl
    · apply q_loadOwn rfl yA3
      · exact tk
      · rw [Nat.zero_add, hm, ints_at (by omega)]
    refine mv rfl rfl <| lc1 rfl rfl rfl (Less_ok _ _) ?_
    refine lc <| t_if rfl (fun q => ?_) fun q => ?_
    · refine t_region <| mv rfl rfl <| l_q rfl (qadd rfl rfl) ?_
      refine asg rfl rfl <| l_nil <| n_blk ?_
      apply n_again (((i + j) / 2 + 1, j))
      · exact ⟨by dsimp only; omega, hjk, fun a ha hai => by by_cases e : a = (i + j) / 2; (subst e; exact q); exact Int.lt_trans (hs a ((i + j) / 2) ha (by omega) (by dsimp only at hai; omega)) q, hhi⟩
      · dsimp only; omega
      · exact ⟨rfl, rfl, rfl, congrArg (fun z => some (Value.int .i64 z)) (by omega : ((i : Int) + (j : Int)) / 2 + 1 = (((i + j) / 2 + 1 : Nat) : Int)), rfl, trivial⟩
      · exact en
    · refine t_region <| mv rfl rfl <| asg rfl rfl <| l_nil <| n_blk ?_
      apply n_again ((i, (i + j) / 2))
      · exact ⟨by dsimp only; omega, by dsimp only; omega, hlo, fun a ha hai => by by_cases e : a = (i + j) / 2; (subst e; omega); have := hs ((i + j) / 2) a (by omega) ha (by dsimp only at hai; omega); omega⟩
      · dsimp only; omega
      · exact ⟨rfl, rfl, rfl, rfl, congrArg (fun z => some (Value.int .i64 z)) (by omega : ((i : Int) + (j : Int)) / 2 = (((i + j) / 2 : Nat) : Int)), trivial⟩
      · exact en
  · refine xt rfl <| nz <| mv rfl rfl <| mv rfl rfl <| mv rfl rfl <| l_q rfl (qi rfl rfl (b_lss ·)) <| mv rfl rfl ?_
    obtain rfl : i = j := by omega
    have hpl : placed xs t i := ⟨by omega, hlo, hhi⟩
    refine l_pt (t := 35) rfl (fun a => ?_) fun a => ?_
    · refine l_on rfl rfl <| mv rfl rfl <| l_on rfl rfl <| mv rfl rfl <| l_on rfl rfl <| l_q rfl (q_indexAddr1 rfl rfl yU22 yS3 (by omega)) ?_
      refine l_on rfl rfl ?_
      apply l_q rfl
      · apply q_loadOwn rfl yA3
        · exact tk
        · rw [Nat.zero_add, Int.toNat_natCast, ints_at (by omega)]
      refine l_on rfl rfl <| mv rfl rfl <| l_on rfl rfl <| l_q rfl (qi rfl rfl (b_eql ·)) <| l_on rfl rfl <| mv rfl rfl ?_
      have hil : i < xs.length := by omega
      refine l_pt (t := 42) rfl (fun b => ?_) fun b => ?_
      · refine l_off rfl rfl rfl rfl <| l_off rfl rfl rfl rfl <| l_off rfl rfl rfl rfl <| l_off rfl rfl rfl rfl <| l_off rfl rfl rfl rfl <| l_off rfl rfl rfl rfl <| l_offu rfl rfl rfl <| l_offu rfl rfl rfl <| l_off rfl rfl rfl rfl <| l_on rfl rfl <| l_q rfl (q_pk rfl rfl) <| l_q rfl (q_pk rfl rfl) <| asg rfl rfl <| asg rfl rfl <| lc <| rt <| fr2 rfl ([ownS 3 1 (.slice (some ⟨g, 0, none⟩) k cap) k (ints xs)]) (.tmp rfl) (.tmp rfl) ?_
        exact ⟨⟨i, by rw [List.getElem?_eq_getElem hil, b, decide_eq_true rfl], hpl⟩, rfl⟩
      · refine l_on rfl rfl <| mv rfl rfl <| l_on rfl rfl <| mv rfl rfl <| l_on rfl rfl <| l_q rfl (q_indexAddr1 rfl rfl yU22 yS3 (by omega)) ?_
        refine l_on rfl rfl ?_
        apply l_q rfl
        · apply q_loadOwn rfl yA3
          · exact tk
          · rw [Nat.zero_add, Int.toNat_natCast, ints_at (by omega)]
        refine l_on rfl rfl <| lc1 rfl rfl rfl (isNaN2_ok _) ?_
        refine l_on rfl rfl <| mv rfl rfl <| l_pt (t := 48) rfl (fun e => ?_) fun e => ?_
        · cases e
        · refine l_off rfl rfl rfl rfl <| l_off rfl rfl rfl rfl <| l_on rfl rfl <| l_q rfl (q_pk rfl rfl) <| l_on rfl rfl <| l_q rfl (q_pk rfl rfl) <| l_q rfl (q_pk rfl rfl) <| asg rfl rfl <| asg rfl rfl <| lc <| rt <| fr2 rfl ([ownS 3 1 (.slice (some ⟨g, 0, none⟩) k cap) k (ints xs)]) (.tmp rfl) (.tmp rfl) ?_
          exact ⟨⟨i, by rw [List.getElem?_eq_getElem hil, decide_eq_false (by simpa using b)], hpl⟩, rfl⟩
    · refine l_off rfl rfl rfl rfl <| l_off rfl rfl rfl rfl <| l_off rfl rfl rfl rfl <| l_off rfl rfl rfl rfl <| l_off rfl rfl rfl rfl <| l_off rfl rfl rfl rfl <| l_off rfl rfl rfl rfl <| l_offu rfl rfl rfl <| l_offu rfl rfl rfl <| l_offu rfl rfl rfl <| l_offu rfl rfl rfl <| l_offu rfl rfl rfl <| l_offu rfl rfl rfl <| l_offu rfl rfl rfl <| l_offu rfl rfl rfl <| l_offu rfl rfl rfl <| l_off rfl rfl rfl rfl <| l_q rfl (q_pk rfl rfl) <| asg rfl rfl <| asg rfl rfl <| lc <| rt <| fr2 rfl ([ownS 3 1 (.slice (some ⟨g, 0, none⟩) k cap) k (ints xs)]) (.tmp rfl) (.tmp rfl) ?_
      exact ⟨⟨i, by rw [List.getElem?_eq_none (by omega)]; rfl, hpl⟩, rfl⟩
end Go.Proofs.YtgijnebgchkenaaGreatDoor.Search
end
