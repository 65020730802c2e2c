import Derived.Laws.BitsAllLaws
import Derived.Laws.BitsLemmas
import Derived.RowKit
import Derived.IntWalk
import Derived.Test.YthkajgkagnenbaaGreatDoorTypes
import Derived.Test.YthkajgkagnenbaaGreatDoorEngRange
section
/- Plain lemmas on whole numbers: powers of two, masks. No program. -/
set_option linter.unusedVariables false
set_option linter.unusedSimpArgs false
namespace Go.Proofs.YthkajgkagnenbaaGreatDoor.Bits
open Go.RowKit

theorem ofInt_i64 (a : Nat) (ha : a < 9223372036854775808) : (BitVec.ofInt 64 (a : Int)).toNat = a := by
 rw [BitVec.ofInt_natCast, BitVec.toNat_ofNat]; exact Nat.mod_eq_of_lt (by omega)
theorem i64_and_nat (a b : Nat) (ha : a < 9223372036854775808) (hb : b < 9223372036854775808) : bits .and .i64 (a : Int) (b : Int) = ((a &&& b : Nat) : Int) := by
 have hx : a &&& b < 2 ^ 63 := Nat.and_lt_two_pow _ (by omega)
 show IntKind.i64.wrap ((BitVec.ofInt 64 (a : Int) &&& BitVec.ofInt 64 (b : Int)).toNat : Int) = _
 rw [BitVec.toNat_and, ofInt_i64 a ha, ofInt_i64 b hb, IntKind.wrap_i64]
 omega

/-- The test that Go's text makes: is a power of two. -/
def pow2 (a : Int) : Bool := bits .and .i64 a (wrap64 (a - 1)) == 0

theorem pow2_nat (a : Nat) (h1 : 1 ≤ a) (h2 : a ≤ 1048576) : pow2 (a : Int) = true ↔ ∃ k, a = 2 ^ k := by
 unfold pow2
 have e : wrap64 ((a : Int) - 1) = ((a - 1 : Nat) : Int) := by unfold wrap64; omega
 rw [e, i64_and_nat a (a - 1) (by omega) (by omega)]
 have hz : a ≠ 0 := by omega
 have := Nat.and_sub_one_eq_zero_iff_isPowerOfTwo hz
 rw [beq_iff_eq]
 constructor
 ·intro h
  exact this.1 (by exact_mod_cast h)
 ·rintro ⟨k, hk⟩
  exact_mod_cast this.2 ⟨k, hk⟩

theorem pow2_le {k n : Nat} (h : 2 ^ k ≤ 2 ^ n) : k ≤ n := (Nat.pow_le_pow_iff_right (by decide)).1 h

/-- An unsigned number masked by a power of two less one: the remainder. -/
theorem mask_u64 (x : Int) (h0 : 0 ≤ x) (h1 : x < 18446744073709551616) (k : Nat) (hk : k ≤ 63) : bits .and .u64 x ((2 : Int) ^ k - 1) = x % (2 : Int) ^ k := by
 obtain ⟨n, rfl⟩ := Int.eq_ofNat_of_zero_le h0
 have hp : 2 ^ k ≤ 9223372036854775808 := (Nat.pow_le_pow_right (by decide : 0 < 2) hk : 2 ^ k ≤ 2 ^ 63)
 have hq : 0 < 2 ^ k := Nat.two_pow_pos k
 have e : (2 : Int) ^ k - 1 = ((2 ^ k - 1 : Nat) : Int) := by
  have : ((2 ^ k : Nat) : Int) = (2 : Int) ^ k := Int.natCast_pow 2 k
  omega
 rw [e, u64_and_nat n _ (by omega) (by omega), Nat.and_two_pow_sub_one_eq_mod, Int.natCast_emod, Int.natCast_pow]
 rfl

theorem pow_cast (k : Nat) : ((2 ^ k : Nat) : Int) = (2 : Int) ^ k := Int.natCast_pow 2 k
end Go.Proofs.YthkajgkagnenbaaGreatDoor.Bits
end
section
/- The contracts of package probe. -/
set_option linter.unusedVariables false
set_option linter.unusedSimpArgs false
set_option maxRecDepth 100000
namespace Go.Proofs.YthkajgkagnenbaaGreatDoor.Probe
open Go.RowKit Go.Proofs Go.Proofs.YthkajgkagnenbaaGreatDoor.Eng Go.Proofs.YthkajgkagnenbaaGreatDoor.Ty Go.Proofs.YthkajgkagnenbaaGreatDoor.Bits

def powB (n lo hi : Int) : Bool := decide (lo ≤ n) && decide (n ≤ hi) && pow2 n
theorem pow2_eq {n : Int} (h1 : 1 ≤ n) (h2 : n ≤ 1073741824) : decide (bits .and .i64 n (n - 1) = 0) = pow2 n := by
 unfold pow2
 rw [show wrap64 (n - 1) = n - 1 by unfold wrap64; omega]
 by_cases h : bits .and .i64 n (n - 1) = 0 <;> simp [h]

theorem power_ok (n lo hi : Int) (h1 : 1 ≤ lo) (h2 : hi ≤ 1073741824) :
  FnOk Tryz.prog 185 #[.int .i64 n, .int .i64 lo, .int .i64 hi] [] (fun v L => v = .bool (powB n lo hi) ∧ L = []) := by
 refine fn_intro en185 Tryz.func185 rfl rfl rfl fun Fr w0 => t_nm ?_
 refine sr<|asg O O<|lz<|mv O O<|mv O O<|l_q O (qi O O (b_geq ·))<|mv O O<|l_pt (t := 10) rfl (fun h => ?_) fun h => ?_
 ·refine l_on O O<|mv O O<|l_on O O<|mv O O<|l_on O O<|l_q O (qi O O (b_leq ·))<|l_q O (q_pk O O)<|mv O O<|l_pt (t := 15) rfl (fun k => ?_) fun k => ?_
  ·refine l_on O O<|mv O O<|l_on O O<|mv O O<|l_on O O<|l_q O (qsub O O) ?_
   refine l_on O O<|l_q O (qbit O O O)<|l_on O O<|l_q O (qi O O (b_eql ·))<|l_q O (q_pk O O)<|asg O O<|lc<|rt<|fr1 O ([]) (.tmp rfl) ?_
   exact ⟨by rw [pow2_eq (by omega) (by omega)]; simp [powB, h, k], rfl⟩
  ·refine l_off O O O O<|l_off O O O O<|l_off O O O O<|l_off O O O O<|l_off O O O O<|l_q O (q_pk O O)<|asg O O<|lc<|rt<|fr1 O ([]) (.tmp rfl) ?_
   exact ⟨by simp [powB, k], rfl⟩
 ·refine l_off O O O O<|l_off O O O O<|l_off O O O O<|l_q O (q_pk O O)<|mv O O<|l_off O O O O<|l_off O O O O<|l_off O O O O<|l_off O O O O<|l_off O O O O<|l_q O (q_pk O O)<|asg O O<|lc<|rt<|fr1 O ([]) (.tmp rfl) ?_
  exact ⟨by simp [powB, h], rfl⟩

theorem powB_iff (n : Int) (lo k0 k1 : Nat) (hi : Int) (h0 : (lo : Int) = 2 ^ k0) (h1 : hi = 2 ^ k1) (hk : k1 ≤ 20) : powB n lo hi = true ↔ ∃ k : Nat, k0 ≤ k ∧ k ≤ k1 ∧ n = 2 ^ k := by
 have e1 := pow_cast k1
 have e0 := pow_cast k0
 have hb : 2 ^ k1 ≤ 1048576 := (Nat.pow_le_pow_right (by decide : 0 < 2) hk : 2 ^ k1 ≤ 2 ^ 20)
 have hp : 0 < 2 ^ k0 := Nat.two_pow_pos k0
 unfold powB
 simp only [Bool.and_eq_true, decide_eq_true_eq]
 constructor
 ·rintro ⟨⟨a, b⟩, c⟩
  obtain ⟨m, rfl⟩ := Int.eq_ofNat_of_zero_le (by omega : 0 ≤ n)
  obtain ⟨k, rfl⟩ := (pow2_nat m (by omega) (by omega)).1 c
  exact ⟨k, pow2_le (by omega), pow2_le (by omega), pow_cast k⟩
 ·rintro ⟨k, a, b, rfl⟩
  have e := pow_cast k
  have c1 : 2 ^ k0 ≤ 2 ^ k := Nat.pow_le_pow_right (by decide) a
  have c2 : 2 ^ k ≤ 2 ^ k1 := Nat.pow_le_pow_right (by decide) b
  refine ⟨⟨by omega, by omega⟩, ?_⟩
  rw [← e]
  exact (pow2_nat _ (by omega) (by omega)).2 ⟨k, rfl⟩

/-- The group at step k, of g. -/
def ord (home : Int) (g k : Nat) : Int := (home + ((k * (k + 1) / 2 : Nat) : Int)) % (g : Int)
/-- How many groups there are. -/
def grp (groups : Int) : Nat := if powB groups 1 8192 then groups.toNat else 0
theorem grp_le (groups : Int) : grp groups ≤ 8192 := by
 unfold grp
 split
 ·next h => simp only [powB, Bool.and_eq_true, decide_eq_true_eq] at h; omega
 ·omega
theorem grp_pow {groups : Int} (h : grp groups ≠ 0) : powB groups 1 8192 = true ∧ ∃ e : Nat, e ≤ 13 ∧ grp groups = 2 ^ e ∧ groups = 2 ^ e := by
 unfold grp at h ⊢
 split at h
 ·next hp =>
  obtain ⟨e, _, h2, h3⟩ := (powB_iff groups 1 0 13 8192 (by decide) (by decide) (by decide)).1 hp
  rw [if_pos hp]
  refine ⟨hp, e, h2, ?_, h3⟩
  rw [h3, ← pow_cast]; exact Int.toNat_natCast _
 ·omega

theorem tri_succ (k : Nat) : (k + 1) * (k + 1 + 1) / 2 = k * (k + 1) / 2 + (k + 1) := by
 have : (k + 1) * (k + 1 + 1) = k * (k + 1) + 2 * (k + 1) := by simp only [Nat.add_mul, Nat.mul_add]; omega
 rw [this]; omega
theorem dvd64 (k : Nat) (hk : k ≤ 13) : (2 : Int) ^ k ∣ 18446744073709551616 := by
 have : (18446744073709551616 : Int) = 2 ^ k * 2 ^ (64 - k) := by
  rw [← Int.pow_add, show k + (64 - k) = 64 by omega]; decide
 exact ⟨_, this⟩

/-- The way of a home: its groups, one behind the other. -/
def way (home : Int) (g : Nat) : List (List Value) := (List.range g).map fun k => [.int .i64 (ord home g k)]
theorem way_get {home : Int} {g k : Nat} {x : List Value} (h : (way home g)[k]? = some x) : k < g ∧ x = [.int .i64 (ord home g k)] := by
 simp only [way, List.getElem?_map, List.getElem?_range'] at h
 by_cases hk : k < g
 ·simp [hk] at h; exact ⟨hk, h.symm⟩
 ·simp [hk] at h
theorem way_length (home : Int) (g : Nat) : (way home g).length = g := by simp [way]
theorem way_at {home : Int} {g k : Nat} (h : k < g) : (way home g)[k]? = some [.int .i64 (ord home g k)] := by simp [way, h]

theorem acc_ord (home : Int) (g e k : Nat) (he : e ≤ 13) (hg : g = 2 ^ e) (acc : Int) (ha : acc = (home + ((k * (k + 1) / 2 : Nat) : Int)) % 18446744073709551616) :
  IntKind.i64.wrap (bits .and .u64 acc ((g : Int) - 1)) = ord home g k := by
 subst hg
 have hb : 2 ^ e ≤ 8192 := (Nat.pow_le_pow_right (by decide : 0 < 2) he : 2 ^ e ≤ 2 ^ 13)
 have hp : 0 < 2 ^ e := Nat.two_pow_pos e
 have hc := pow_cast e
 rw [hc, mask_u64 acc (by omega) (by omega) e (by omega), ha, Int.emod_emod_of_dvd _ (dvd64 e he)]
 unfold ord
 rw [hc]
 have l0 := Int.emod_nonneg (home + ((k * (k + 1) / 2 : Nat) : Int)) (by omega : (2 : Int) ^ e ≠ 0)
 have l1 := Int.emod_lt_of_pos (home + ((k * (k + 1) / 2 : Nat) : Int)) (by omega : 0 < (2 : Int) ^ e)
 exact wrap_i64 (by omega)

theorem order_itS (bh bg : Nat) (home : Int) (hh : 0 ≤ home ∧ home < 18446744073709551616) (groups : Int) :
  IterOk Tryz.prog 224 #[.pointer (some ⟨bh, 0, none⟩), .pointer (some ⟨bg, 0, none⟩)] [pt bh (.cells #[.int .u64 home] 27 (0, 0)), pt bg (.cells #[.int .i64 (grp groups)] 3 (0, 0))]
   (way home (grp groups)) [pt bh (.cells #[.int .u64 home] 27 (0, 0)), pt bg (.cells #[.int .i64 (grp groups)] 3 (0, 0))] [pt bh (.cells #[.int .u64 home] 27 (0, 0)), pt bg (.cells #[.int .i64 (grp groups)] 3 (0, 0))] := by
 refine ⟨en224, fun l B S hY => ?_⟩
 have hle := grp_le groups
 show FnOk _ _ #[.func (.yield l) #[] #[], .pointer (some ⟨bh, 0, none⟩), .pointer (some ⟨bg, 0, none⟩)] _ _
 refine fn_intro en224 Tryz.func224 rfl rfl rfl fun Fr w0 => t_nm ?_
 refine sr<|l_q O (qld O yA27) ?_
 refine asg O O<|lz<|l_q O (qld O yA3) ?_
 refine mv O O<|lc<|t_block ?_
 refine t_loop (fun x : Nat × Int => x.1 ≤ grp groups ∧ 0 ≤ x.2 ∧ x.2 < 18446744073709551616 ∧ (x.2 + x.1) % 18446744073709551616 = (home + ((x.1 * (x.1 + 1) / 2 : Nat) : Int)) % 18446744073709551616) (fun x => [(0, .func (.yield l) #[] #[]), (2, .pointer (some ⟨bg, 0, none⟩)), (4, .int .u64 x.2), (7, .int .i64 (grp groups)), (8, .int .i64 x.1)]) (fun x => pt bh (.cells #[.int .u64 home] 27 (0, 0)) :: pt bg (.cells #[.int .i64 (grp groups)] 3 (0, 0)) :: B x.1 :: Fr) (fun x => grp groups - x.1) (0, home) ⟨by omega, by omega, by omega, by simp⟩ ⟨rfl, rfl, rfl, rfl, rfl, trivial⟩ (Ent.refl _) ?_
 rintro ⟨k, acc⟩ ⟨hk, ha0, ha1, hacc⟩
 dsimp only at hk ha0 ha1 hacc ⊢
 refine sr<|l_q O (qi O O (b_lss ·))<|lc<|t_seq<|t_if O (fun h => ?_) fun h => ?_
 ·refine t_skip<|n_code<|t_seq<|t_block<|sr<|mv O O<|asg O O<|lz<|mv O O<|mv O O<|l_q O (qcv O yU3 yU27) ?_
  refine l_q O (qadd O O) ?_
  refine asg O O<|lz<|mv O O<|mv O O<|l_q O (qld O yA3) ?_
  refine l_q O (qsub O O) ?_
  refine l_q O (qcv O yU3 yU27) ?_
  refine l_q O (qbit O O O)<|l_q O (qcv O yU27 yU3) ?_
  have hacc2 : IntKind.u64.wrap (acc + (k : Int)) = (home + ((k * (k + 1) / 2 : Nat) : Int)) % 18446744073709551616 := by rw [IntKind.wrap_u64]; exact hacc
  have hv : IntKind.i64.wrap (bits .and .u64 (IntKind.u64.wrap (acc + (k : Int))) (((grp groups : Nat) : Int) - 1)) = ord home (grp groups) k := by
   obtain ⟨_, e, he, hg, _⟩ := grp_pow (groups := groups) (by omega)
   exact acc_ord home _ e k he hg _ hacc2
  apply l_yield O O O ((by rw [hv]; exact hY k _ (way_at (by omega))))
  ·exact pk
  ·exact pk
  rintro b L' (⟨rfl, rfl⟩ | ⟨rfl, rfl⟩)
  ·refine l_nm ?_
   refine l_q O (q_un O (u_not ·))<|lc<|t_cond_f O<|t_skip<|n_blk<|n_code<|t_region<|l_q O (qadd O O) ?_
   refine mv O O<|l_nil ?_
   apply n_again ((k + 1, IntKind.u64.wrap (acc + (k : Int))))
   ·exact ⟨by dsimp only; omega, by rw [IntKind.wrap_u64]; dsimp only; omega, by rw [IntKind.wrap_u64]; dsimp only; omega, by dsimp only; rw [IntKind.wrap_u64, tri_succ]; omega⟩
   ·dsimp only; omega
   ·exact ⟨rfl, rfl, rfl, rfl, rfl, trivial⟩
   ·exact en
  ·refine l_nm ?_
   refine l_q O (q_un O (u_not ·))<|lc<|t_cond_t O<|rt ?_
   apply f_ret (.inl rfl) (_)
   ·exact res0 O
   ·exact .inr ⟨k, by rw [way_length]; omega, rfl⟩
   ·exact en
 ·refine xt O ?_
  obtain rfl : k = grp groups := by omega
  apply f_ret (.inr rfl) (_)
  ·exact res0 O
  ·exact .inl (by rw [way_length])
  ·exact en

theorem order_it (bh bg : Nat) (home : Int) (hh : 0 ≤ home ∧ home < 18446744073709551616) (groups : Int) :
  IterOk Tryz.prog 224 #[.pointer (some ⟨bh, 0, none⟩), .pointer (some ⟨bg, 0, none⟩)] [pt bh (.cells #[.int .u64 home] 27 (0, 0)), pt bg (.cells #[.int .i64 (grp groups)] 3 (0, 0))]
   (way home (grp groups)) [pt bh (.cells #[.int .u64 home] 27 (0, 0)), pt bg (.cells #[.int .i64 (grp groups)] 3 (0, 0))] := (order_itS bh bg home hh groups).plain

theorem valid_powB (n : Int) : powB n 1 8192 = true ↔ ∃ k : Nat, k ≤ 13 ∧ n = 2 ^ k := by
 have := powB_iff n 1 0 13 8192 (by decide) (by decide) (by decide)
 exact this.trans ⟨fun ⟨k, _, a, b⟩ => ⟨k, a, b⟩, fun ⟨k, a, b⟩ => ⟨k, by omega, a, b⟩⟩

theorem grp_no {groups : Int} (h : powB groups 1 8192 = false) : grp groups = 0 := by unfold grp; rw [h]; rfl
theorem grp_yes {groups : Int} (h : powB groups 1 8192 = true) : groups = ((grp groups : Nat) : Int) ∧ ∃ e : Nat, e ≤ 13 ∧ grp groups = 2 ^ e := by
 obtain ⟨e, he, hg⟩ := (valid_powB groups).1 h
 have hc := pow_cast e
 have hgr : grp groups = 2 ^ e := by unfold grp; rw [if_pos h, hg, ← hc]; exact Int.toNat_natCast _
 exact ⟨by rw [hgr, hg, hc], e, he, hgr⟩

theorem Order_ok (home groups : Int) :
  FnOk Tryz.prog 186 #[.int .u64 home, .int .i64 groups] [] (fun v L => ∃ bh bg, v = .func (.func 224) #[] #[.pointer (some ⟨bh, 0, none⟩), .pointer (some ⟨bg, 0, none⟩)] ∧
   L = [pt bh (.cells #[.int .u64 home] 27 (0, 0)), pt bg (.cells #[.int .i64 (grp groups)] 3 (0, 0))]) := by
 refine fn_intro en186 Tryz.func186 rfl rfl rfl fun Fr w0 => t_nm ?_
 refine sr<|o_box1 O O O fun b2 => o_box1 O O O fun b3 => asg O O<|lc<|t_seq<|sr<|l_q O (qld O yA3) ?_
 refine lc1 O O O (power_ok _ _ _ (by omega) (by omega)) ?_
 refine l_q O (q_un O (u_not ·))<|lc<|t_if O (fun h => ?_) fun h => ?_
 ·refine t_region<|st O O O yS3 O ?_
  refine lz<|l_q O (q_makeFunc O O)<|asg O O<|lc<|rt ?_
  have hz := grp_no (groups := groups) (by simpa using h)
  apply f_ret (.inl rfl) ([pt b2 (.cells #[.int .u64 home] 27 (0, 0)), pt b3 (.cells #[.int .i64 (grp groups)] 3 (0, 0))])
  ·apply res1 O
   ·exact .tmp rfl
  ·exact ⟨_, _, rfl, rfl⟩
  ·rw [hz]; first | exact Ent.refl _ | (apply Sel.ent; (repeat (first | apply Sel.cons | with_reducible exact Sel.nil | apply Sel.rest | exact Take.here | apply Take.there | exact Drop.refl | apply Drop.skip)))
 ·refine t_skip<|nz<|l_q O (q_makeFunc O O)<|asg O O<|lc<|rt ?_
  have hz := (grp_yes (groups := groups) (by simpa using h)).1
  apply f_ret (.inl rfl) ([pt b2 (.cells #[.int .u64 home] 27 (0, 0)), pt b3 (.cells #[.int .i64 (grp groups)] 3 (0, 0))])
  ·apply res1 O
   ·exact .tmp rfl
  ·exact ⟨_, _, rfl, rfl⟩
  ·rw [← hz]; first | exact Ent.refl _ | (apply Sel.ent; (repeat (first | apply Sel.cons | with_reducible exact Sel.nil | apply Sel.rest | exact Take.here | apply Take.there | exact Drop.refl | apply Drop.skip)))

end Go.Proofs.YthkajgkagnenbaaGreatDoor.Probe
end
section
/- The contract of slices.BinarySearch over rising whole numbers. -/
set_option linter.unusedVariables false
set_option linter.unusedSimpArgs false
set_option maxRecDepth 100000
namespace Go.Proofs.YthkajgkagnenbaaGreatDoor.Search
open Go.RowKit Go.Proofs Go.Proofs.YthkajgkagnenbaaGreatDoor.Eng Go.Proofs.YthkajgkagnenbaaGreatDoor.Ty Go.Proofs.YthkajgkagnenbaaGreatDoor.Bits

def ints (xs : List Int) : List Value := xs.map fun x => .int .i64 x
theorem ints_at {xs : List Int} {i : Nat} (h : i < xs.length) : (ints xs)[i]? = some (.int .i64 xs[i]) := by simp [ints, h]
theorem ints_len (xs : List Int) : (ints xs).length = xs.length := by simp [ints]

theorem isNaN1_ok (x : Int) : FnOk Tryz.prog 221 #[.int .i64 x] [] (fun v L => v = .bool false ∧ L = []) := by
 refine fn_intro en221 Tryz.func221 rfl rfl rfl fun Fr w0 => t_nm ?_
 refine sr<|asg O O<|lz<|mv O O<|mv O O<|l_q O (qi O O (b_neq ·))<|asg O O<|lc<|rt<|fr1 O ([]) (.tmp rfl) ?_
 exact ⟨by simp, rfl⟩
theorem isNaN2_ok (x : Int) : FnOk Tryz.prog 179 #[.int .i64 x] [] (fun v L => v = .bool false ∧ L = []) := by
 refine fn_intro en179 Tryz.func179 rfl rfl rfl fun Fr w0 => t_nm ?_
 refine sr<|asg O O<|lz<|mv O O<|mv O O<|l_q O (qi O O (b_neq ·))<|asg O O<|lc<|rt<|fr1 O ([]) (.tmp rfl) ?_
 exact ⟨by simp, rfl⟩
theorem Less_ok (x y : Int) : FnOk Tryz.prog 178 #[.int .i64 x, .int .i64 y] [] (fun v L => v = .bool (decide (x < y)) ∧ L = []) := by
 refine fn_intro en178 Tryz.func178 rfl rfl rfl fun Fr w0 => t_nm ?_
 refine sr<|asg O O<|lz<|mv O O<|lc1 O O O (isNaN1_ok _) ?_
 refine mv O O<|l_pt (t := 7) rfl (fun h => ?_) fun h => ?_
 ·cases h
 ·exact l_off O O O O<|l_off O O O O<|l_off O O O O<|l_q O (q_pk O O)<|mv O O<|l_on O O<|mv O O<|l_on O O<|mv O O<|l_on O O<|l_q O (qi O O (b_lss ·))<|l_q O (q_pk O O)<|asg O O<|lc<|rt<|fr1 O ([]) (.tmp rfl) ⟨rfl, rfl⟩

/-- Where t belongs. -/
def placed (xs : List Int) (t : Int) (i : Nat) : Prop := i ≤ xs.length ∧ (∀ j (h : j < xs.length), j < i → xs[j] < t) ∧ (∀ j (h : j < xs.length), i ≤ j → t ≤ xs[j])
theorem Search_ok (xs : List Int) (g k cap : Nat) (t : Int) (hk : xs.length = k) (hkb : k ≤ 4611686018427387904) (hs : ∀ i j (hi : i < xs.length) (hj : j < xs.length), i < j → xs[i] < xs[j]) :
  FnOk Tryz.prog 127 #[.slice (some ⟨g, 0, none⟩) k cap, .int .i64 t] [ownS 3 1 (.slice (some ⟨g, 0, none⟩) k cap) k (ints xs)]
   (fun v L => (∃ i : Nat, v = .tuple #[.int .i64 i, .bool (decide (xs[i]? = some t))] ∧ placed xs t i) ∧ L = [ownS 3 1 (.slice (some ⟨g, 0, none⟩) k cap) k (ints xs)]) := by
 refine fn_intro en127 Tryz.func127 rfl rfl rfl fun Fr w0 => t_nm ?_
 refine sr<|asg O O<|asg O O<|lz<|mv O O<|l_q O (ql O yU22)<|asg O O<|lz<|mv O O<|asg O O<|asg O O<|lc<|t_seq<|t_block ?_
 refine t_loop (fun x : Nat × Nat => x.1 ≤ x.2 ∧ x.2 ≤ k ∧ (∀ j (h : j < xs.length), j < x.1 → xs[j] < t) ∧ (∀ j (h : j < xs.length), x.2 ≤ j → t ≤ xs[j])) (fun x => [(0, .slice (some ⟨g, 0, none⟩) k cap), (1, .int .i64 t), (6, .int .i64 k), (7, .int .i64 x.1), (8, .int .i64 x.2)]) (fun _ => ownS 3 1 (.slice (some ⟨g, 0, none⟩) k cap) k (ints xs) :: Fr) (fun x => x.2 - x.1) (0, k) ⟨by omega, by omega, by omega, fun j h h2 => by omega⟩ ⟨rfl, rfl, rfl, rfl, rfl, trivial⟩ (Ent.refl _) ?_
 rintro ⟨i, j⟩ ⟨hij, hjk, hlo, hhi⟩
 dsimp only at hij hjk hlo hhi ⊢
 refine t_seq<|sr<|mv O O<|mv O O<|l_q O (qi O O (b_lss ·))<|lc<|t_if O (fun h => ?_) fun h => ?_
 ·have hm : (((i : Int) + (j : Int)) / 2).toNat = (i + j) / 2 := by omega
  refine t_skip<|n_code<|t_block<|sr<|mv O O<|mv O O<|l_q O (qadd O O) ?_
  refine l_q O (qcv O yU3 yU259) ?_
  apply l_q O
  ·apply qi O O; first | exact fun w => b_shr_c (m := 2) w (by decide) (by decide) (by omega) | exact fun w => b_shr w (by decide)
  refine l_q O (qcv O yU259 yU3) ?_
  refine asg O O<|lz<|mv O O<|mv O O<|l_q O (q_indexAddr1 O O yU22 yS3 (by omega)) ?_
  apply l_q O
  ·apply q_loadOwn O yA3
   ·exact tk
   ·rw [Nat.zero_add, hm, ints_at (by omega)]
  refine mv O O<|lc1 O O O (Less_ok _ _) ?_
  refine lc<|t_if O (fun q => ?_) fun q => ?_
  ·refine t_region<|mv O O<|l_q O (qadd O O) ?_
   refine asg O O<|l_nil<|n_blk ?_
   apply n_again (((i + j) / 2 + 1, j))
   ·exact ⟨by dsimp only; omega, hjk, fun a ha hai => by by_cases e : a = (i + j) / 2; (subst e; exact q); exact Int.lt_trans (hs a ((i + j) / 2) ha (by omega) (by dsimp only at hai; omega)) q, hhi⟩
   ·dsimp only; omega
   ·exact ⟨rfl, rfl, rfl, congrArg (fun z => some (Value.int .i64 z)) (by omega : ((i : Int) + (j : Int)) / 2 + 1 = (((i + j) / 2 + 1 : Nat) : Int)), rfl, trivial⟩
   ·exact en
  ·refine t_region<|mv O O<|asg O O<|l_nil<|n_blk ?_
   apply n_again ((i, (i + j) / 2))
   ·exact ⟨by dsimp only; omega, by dsimp only; omega, hlo, fun a ha hai => by by_cases e : a = (i + j) / 2; (subst e; omega); have := hs ((i + j) / 2) a (by omega) ha (by dsimp only at hai; omega); omega⟩
   ·dsimp only; omega
   ·exact ⟨rfl, rfl, rfl, rfl, congrArg (fun z => some (Value.int .i64 z)) (by omega : ((i : Int) + (j : Int)) / 2 = (((i + j) / 2 : Nat) : Int)), trivial⟩
   ·exact en
 ·refine xt O<|nz<|mv O O<|mv O O<|mv O O<|l_q O (qi O O (b_lss ·))<|mv O O ?_
  obtain rfl : i = j := by omega
  have hpl : placed xs t i := ⟨by omega, hlo, hhi⟩
  refine l_pt (t := 35) rfl (fun a => ?_) fun a => ?_
  ·refine l_on O O<|mv O O<|l_on O O<|mv O O<|l_on O O<|l_q O (q_indexAddr1 O O yU22 yS3 (by omega)) ?_
   refine l_on O O ?_
   apply l_q O
   ·apply q_loadOwn O yA3
    ·exact tk
    ·rw [Nat.zero_add, Int.toNat_natCast, ints_at (by omega)]
   refine l_on O O<|mv O O<|l_on O O<|l_q O (qi O O (b_eql ·))<|l_on O O<|mv O O ?_
   have hil : i < xs.length := by omega
   refine l_pt (t := 42) rfl (fun b => ?_) fun b => ?_
   ·refine l_off O O O O<|l_off O O O O<|l_off O O O O<|l_off O O O O<|l_off O O O O<|l_off O O O O<|l_offu O O O<|l_offu O O O<|l_off O O O O<|l_on O O<|l_q O (q_pk O O)<|l_q O (q_pk O O)<|asg O O<|asg O O<|lc<|rt<|fr2 O ([ownS 3 1 (.slice (some ⟨g, 0, none⟩) k cap) k (ints xs)]) (.tmp rfl) (.tmp rfl) ?_
    exact ⟨⟨i, by rw [List.getElem?_eq_getElem hil, b, decide_eq_true rfl], hpl⟩, rfl⟩
   ·refine l_on O O<|mv O O<|l_on O O<|mv O O<|l_on O O<|l_q O (q_indexAddr1 O O yU22 yS3 (by omega)) ?_
    refine l_on O O ?_
    apply l_q O
    ·apply q_loadOwn O yA3
     ·exact tk
     ·rw [Nat.zero_add, Int.toNat_natCast, ints_at (by omega)]
    refine l_on O O<|lc1 O O O (isNaN2_ok _) ?_
    refine l_on O O<|mv O O<|l_pt (t := 48) rfl (fun e => ?_) fun e => ?_
    ·cases e
    ·refine l_off O O O O<|l_off O O O O<|l_on O O<|l_q O (q_pk O O)<|l_on O O<|l_q O (q_pk O O)<|l_q O (q_pk O O)<|asg O O<|asg O O<|lc<|rt<|fr2 O ([ownS 3 1 (.slice (some ⟨g, 0, none⟩) k cap) k (ints xs)]) (.tmp rfl) (.tmp rfl) ?_
     exact ⟨⟨i, by rw [List.getElem?_eq_getElem hil, decide_eq_false (by simpa using b)], hpl⟩, rfl⟩
  ·refine l_off O O O O<|l_off O O O O<|l_off O O O O<|l_off O O O O<|l_off O O O O<|l_off O O O O<|l_off O O O O<|l_offu O O O<|l_offu O O O<|l_offu O O O<|l_offu O O O<|l_offu O O O<|l_offu O O O<|l_offu O O O<|l_offu O O O<|l_offu O O O<|l_off O O O O<|l_q O (q_pk O O)<|asg O O<|asg O O<|lc<|rt<|fr2 O ([ownS 3 1 (.slice (some ⟨g, 0, none⟩) k cap) k (ints xs)]) (.tmp rfl) (.tmp rfl) ?_
   exact ⟨⟨i, by rw [List.getElem?_eq_none (by omega)]; rfl, hpl⟩, rfl⟩
end Go.Proofs.YthkajgkagnenbaaGreatDoor.Search
end
