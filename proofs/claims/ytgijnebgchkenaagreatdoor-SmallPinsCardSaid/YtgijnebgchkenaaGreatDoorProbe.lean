import Derived.Test.YtgijnebgchkenaaGreatDoorTypes
import Derived.Test.YtgijnebgchkenaaGreatDoorSearch
import Derived.Test.YtgijnebgchkenaaGreatDoorEngRange
/- The contracts of package probe. -/
set_option linter.unusedVariables false
set_option linter.unusedSimpArgs false
set_option maxRecDepth 100000
namespace Go.Proofs.YtgijnebgchkenaaGreatDoor.Probe
open Go.RowKit Go.Proofs Go.Proofs.YtgijnebgchkenaaGreatDoor.Eng Go.Proofs.YtgijnebgchkenaaGreatDoor.Ty Go.Proofs.YtgijnebgchkenaaGreatDoor.Bits

def powB (n lo hi : Int) : Bool := decide (lo ≤ n) && decide (n ≤ hi) && pow2 n
theorem pow2_eq {n : Int} (h1 : 1 ≤ n) (h2 : n ≤ 1073741824) : decide (bits .and .i64 n (n - 1) = 0) = pow2 n := by
  unfold pow2
  rw [show wrap64 (n - 1) = n - 1 by unfold wrap64; omega]
  by_cases h : bits .and .i64 n (n - 1) = 0 <;> simp [h]

theorem power_ok (n lo hi : Int) (h1 : 1 ≤ lo) (h2 : hi ≤ 1073741824) :
    FnOk Tryz.prog 141 #[.int .i64 n, .int .i64 lo, .int .i64 hi] [] (fun v L => v = .bool (powB n lo hi) ∧ L = []) := by
  refine fn_intro en141 Tryz.func141 rfl rfl rfl fun Fr w0 => t_nm ?_
  refine sr <| asg rfl rfl <| lz <| mv rfl rfl <| mv rfl rfl <| l_q rfl (qi rfl rfl (b_geq ·)) <| mv rfl rfl <| l_pt (t := 10) rfl (fun h => ?_) fun h => ?_
  · refine l_on rfl rfl <| mv rfl rfl <| l_on rfl rfl <| mv rfl rfl <| l_on rfl rfl <| l_q rfl (qi rfl rfl (b_leq ·)) <| l_q rfl (q_pk rfl rfl) <| mv rfl rfl <| l_pt (t := 15) rfl (fun k => ?_) fun k => ?_
    · refine l_on rfl rfl <| mv rfl rfl <| l_on rfl rfl <| mv rfl rfl <| l_on rfl rfl <| l_q rfl (qsub rfl rfl) ?_
      refine l_on rfl rfl <| l_q rfl (qbit rfl rfl rfl) <| l_on rfl rfl <| l_q rfl (qi rfl rfl (b_eql ·)) <| l_q rfl (q_pk rfl rfl) <| asg rfl rfl <| lc <| rt <| fr1 rfl ([]) (.tmp rfl) ?_
      exact ⟨by rw [pow2_eq (by omega) (by omega)]; simp [powB, h, k], rfl⟩
    · refine l_off rfl rfl rfl rfl <| l_off rfl rfl rfl rfl <| l_off rfl rfl rfl rfl <| l_off rfl rfl rfl rfl <| l_off rfl rfl rfl rfl <| l_q rfl (q_pk rfl rfl) <| asg rfl rfl <| lc <| rt <| fr1 rfl ([]) (.tmp rfl) ?_
      exact ⟨by simp [powB, k], rfl⟩
  · refine l_off rfl rfl rfl rfl <| l_off rfl rfl rfl rfl <| l_off rfl rfl rfl rfl <| l_q rfl (q_pk rfl rfl) <| mv rfl rfl <| l_off rfl rfl rfl rfl <| l_off rfl rfl rfl rfl <| l_off rfl rfl rfl rfl <| l_off rfl rfl rfl rfl <| l_off rfl rfl rfl rfl <| l_q rfl (q_pk rfl rfl) <| asg rfl rfl <| lc <| rt <| fr1 rfl ([]) (.tmp rfl) ?_
    exact ⟨by simp [powB, h], rfl⟩

theorem powB_iff (n : Int) (lo k0 k1 : Nat) (hi : Int) (h0 : (lo : Int) = 2 ^ k0) (h1 : hi = 2 ^ k1) (hk : k1 ≤ 20) : powB n lo hi = true ↔ ∃ k : Nat, k0 ≤ k ∧ k ≤ k1 ∧ n = 2 ^ k := by
  have e1 := pow_cast k1
  have e0 := pow_cast k0
  have hb : 2 ^ k1 ≤ 1048576 := (Nat.pow_le_pow_right (by decide : 0 < 2) hk : 2 ^ k1 ≤ 2 ^ 20)
  have hp : 0 < 2 ^ k0 := Nat.two_pow_pos k0
  unfold powB
  simp only [Bool.and_eq_true, decide_eq_true_eq]
  constructor
  · rintro ⟨⟨a, b⟩, c⟩
    obtain ⟨m, rfl⟩ := Int.eq_ofNat_of_zero_le (by omega : 0 ≤ n)
    obtain ⟨k, rfl⟩ := (pow2_nat m (by omega) (by omega)).1 c
    exact ⟨k, pow2_le (by omega), pow2_le (by omega), pow_cast k⟩
  · rintro ⟨k, a, b, rfl⟩
    have e := pow_cast k
    have c1 : 2 ^ k0 ≤ 2 ^ k := Nat.pow_le_pow_right (by decide) a
    have c2 : 2 ^ k ≤ 2 ^ k1 := Nat.pow_le_pow_right (by decide) b
    refine ⟨⟨by omega, by omega⟩, ?_⟩
    rw [← e]
    exact (pow2_nat _ (by omega) (by omega)).2 ⟨k, rfl⟩

/-- The group at step k, of g. -/
def ord (home : Int) (g k : Nat) : Int := (home + ((k * (k + 1) / 2 : Nat) : Int)) % (g : Int)
/-- How many groups there are. -/
def grp (groups : Int) : Nat := if powB groups 1 8192 then groups.toNat else 0
theorem grp_le (groups : Int) : grp groups ≤ 8192 := by
  unfold grp
  split
  · next h => simp only [powB, Bool.and_eq_true, decide_eq_true_eq] at h; omega
  · omega
theorem grp_pow {groups : Int} (h : grp groups ≠ 0) : powB groups 1 8192 = true ∧ ∃ e : Nat, e ≤ 13 ∧ grp groups = 2 ^ e ∧ groups = 2 ^ e := by
  unfold grp at h ⊢
  split at h
  · next hp =>
    obtain ⟨e, _, h2, h3⟩ := (powB_iff groups 1 0 13 8192 (by decide) (by decide) (by decide)).1 hp
    rw [if_pos hp]
    refine ⟨hp, e, h2, ?_, h3⟩
    rw [h3, ← pow_cast]; exact Int.toNat_natCast _
  · omega

theorem tri_succ (k : Nat) : (k + 1) * (k + 1 + 1) / 2 = k * (k + 1) / 2 + (k + 1) := by
  have : (k + 1) * (k + 1 + 1) = k * (k + 1) + 2 * (k + 1) := by simp only [Nat.add_mul, Nat.mul_add]; omega
  rw [this]; omega
theorem dvd64 (k : Nat) (hk : k ≤ 13) : (2 : Int) ^ k ∣ 18446744073709551616 := by
  have : (18446744073709551616 : Int) = 2 ^ k * 2 ^ (64 - k) := by
    rw [← Int.pow_add, show k + (64 - k) = 64 by omega]; decide
  exact ⟨_, this⟩

/-- The way of a home: its groups, one behind the other. -/
def way (home : Int) (g : Nat) : List (List Value) := (List.range g).map fun k => [.int .i64 (ord home g k)]
theorem way_get {home : Int} {g k : Nat} {x : List Value} (h : (way home g)[k]? = some x) : k < g ∧ x = [.int .i64 (ord home g k)] := by
  simp only [way, List.getElem?_map, List.getElem?_range'] at h
  by_cases hk : k < g
  · simp [hk] at h; exact ⟨hk, h.symm⟩
  · simp [hk] at h
theorem way_length (home : Int) (g : Nat) : (way home g).length = g := by simp [way]
theorem way_at {home : Int} {g k : Nat} (h : k < g) : (way home g)[k]? = some [.int .i64 (ord home g k)] := by simp [way, h]

theorem acc_ord (home : Int) (g e k : Nat) (he : e ≤ 13) (hg : g = 2 ^ e) (acc : Int) (ha : acc = (home + ((k * (k + 1) / 2 : Nat) : Int)) % 18446744073709551616) :
    IntKind.i64.wrap (bits .and .u64 acc ((g : Int) - 1)) = ord home g k := by
  subst hg
  have hb : 2 ^ e ≤ 8192 := (Nat.pow_le_pow_right (by decide : 0 < 2) he : 2 ^ e ≤ 2 ^ 13)
  have hp : 0 < 2 ^ e := Nat.two_pow_pos e
  have hc := pow_cast e
  rw [hc, mask_u64 acc (by omega) (by omega) e (by omega), ha, Int.emod_emod_of_dvd _ (dvd64 e he)]
  unfold ord
  rw [hc]
  have l0 := Int.emod_nonneg (home + ((k * (k + 1) / 2 : Nat) : Int)) (by omega : (2 : Int) ^ e ≠ 0)
  have l1 := Int.emod_lt_of_pos (home + ((k * (k + 1) / 2 : Nat) : Int)) (by omega : 0 < (2 : Int) ^ e)
  exact wrap_i64 (by omega)

theorem order_itS (bh bg : Nat) (home : Int) (hh : 0 ≤ home ∧ home < 18446744073709551616) (groups : Int) :
    IterOk Tryz.prog 154 #[.pointer (some ⟨bh, 0, none⟩), .pointer (some ⟨bg, 0, none⟩)] [pt bh (.cells #[.int .u64 home] 52 (0, 0)), pt bg (.cells #[.int .i64 (grp groups)] 3 (0, 0))]
      (way home (grp groups)) [pt bh (.cells #[.int .u64 home] 52 (0, 0)), pt bg (.cells #[.int .i64 (grp groups)] 3 (0, 0))] [pt bh (.cells #[.int .u64 home] 52 (0, 0)), pt bg (.cells #[.int .i64 (grp groups)] 3 (0, 0))] := by
  refine ⟨en154, fun l B S hY => ?_⟩
  have hle := grp_le groups
  show FnOk _ _ #[.func (.yield l) #[] #[], .pointer (some ⟨bh, 0, none⟩), .pointer (some ⟨bg, 0, none⟩)] _ _
  refine fn_intro en154 Tryz.func154 rfl rfl rfl fun Fr w0 => t_nm ?_
  refine sr <| l_q rfl (qld rfl yA52) ?_
  refine asg rfl rfl <| lz <| l_q rfl (qld rfl yA3) ?_
  refine mv rfl rfl <| lc <| t_block ?_
  refine t_loop (fun x : Nat × Int => x.1 ≤ grp groups ∧ 0 ≤ x.2 ∧ x.2 < 18446744073709551616 ∧ (x.2 + x.1) % 18446744073709551616 = (home + ((x.1 * (x.1 + 1) / 2 : Nat) : Int)) % 18446744073709551616) (fun x => [(0, .func (.yield l) #[] #[]), (2, .pointer (some ⟨bg, 0, none⟩)), (4, .int .u64 x.2), (7, .int .i64 (grp groups)), (8, .int .i64 x.1)]) (fun x => pt bh (.cells #[.int .u64 home] 52 (0, 0)) :: pt bg (.cells #[.int .i64 (grp groups)] 3 (0, 0)) :: B x.1 :: Fr) (fun x => grp groups - x.1) (0, home) ⟨by omega, by omega, by omega, by simp⟩ ⟨rfl, rfl, rfl, rfl, rfl, trivial⟩ (Ent.refl _) ?_
  rintro ⟨k, acc⟩ ⟨hk, ha0, ha1, hacc⟩
  dsimp only at hk ha0 ha1 hacc ⊢
  refine sr <| l_q rfl (qi rfl rfl (b_lss ·)) <| lc <| t_seq <| t_if rfl (fun h => ?_) fun h => ?_
  · refine t_skip <| n_code <| t_seq <| t_block <| sr <| mv rfl rfl <| asg rfl rfl <| lz <| mv rfl rfl <| mv rfl rfl <| l_q rfl (qcv rfl yU3 yU52) ?_
    refine l_q rfl (qadd rfl rfl) ?_
    refine asg rfl rfl <| lz <| mv rfl rfl <| mv rfl rfl <| l_q rfl (qld rfl yA3) ?_
    refine l_q rfl (qsub rfl rfl) ?_
    refine l_q rfl (qcv rfl yU3 yU52) ?_
    refine l_q rfl (qbit rfl rfl rfl) <| l_q rfl (qcv rfl yU52 yU3) ?_
    have hacc2 : IntKind.u64.wrap (acc + (k : Int)) = (home + ((k * (k + 1) / 2 : Nat) : Int)) % 18446744073709551616 := by rw [IntKind.wrap_u64]; exact hacc
    have hv : IntKind.i64.wrap (bits .and .u64 (IntKind.u64.wrap (acc + (k : Int))) (((grp groups : Nat) : Int) - 1)) = ord home (grp groups) k := by
      obtain ⟨_, e, he, hg, _⟩ := grp_pow (groups := groups) (by omega)
      exact acc_ord home _ e k he hg _ hacc2
    apply l_yield rfl rfl rfl ((by rw [hv]; exact hY k _ (way_at (by omega))))
    · exact pk
    · exact pk
    rintro b L' (⟨rfl, rfl⟩ | ⟨rfl, rfl⟩)
    · refine l_nm ?_
      refine l_q rfl (q_un rfl (u_not ·)) <| lc <| t_cond_f rfl <| t_skip <| n_blk <| n_code <| t_region <| l_q rfl (qadd rfl rfl) ?_
      refine mv rfl rfl <| l_nil ?_
      apply n_again ((k + 1, IntKind.u64.wrap (acc + (k : Int))))
      · exact ⟨by dsimp only; omega, by rw [IntKind.wrap_u64]; dsimp only; omega, by rw [IntKind.wrap_u64]; dsimp only; omega, by dsimp only; rw [IntKind.wrap_u64, tri_succ]; omega⟩
      · dsimp only; omega
      · exact ⟨rfl, rfl, rfl, rfl, rfl, trivial⟩
      · exact en
    · refine l_nm ?_
      refine l_q rfl (q_un rfl (u_not ·)) <| lc <| t_cond_t rfl <| rt ?_
      apply f_ret (.inl rfl) (_)
      · exact res0 rfl
      · exact .inr ⟨k, by rw [way_length]; omega, rfl⟩
      · exact en
  · refine xt rfl ?_
    obtain rfl : k = grp groups := by omega
    apply f_ret (.inr rfl) (_)
    · exact res0 rfl
    · exact .inl (by rw [way_length])
    · exact en

theorem order_it (bh bg : Nat) (home : Int) (hh : 0 ≤ home ∧ home < 18446744073709551616) (groups : Int) :
    IterOk Tryz.prog 154 #[.pointer (some ⟨bh, 0, none⟩), .pointer (some ⟨bg, 0, none⟩)] [pt bh (.cells #[.int .u64 home] 52 (0, 0)), pt bg (.cells #[.int .i64 (grp groups)] 3 (0, 0))]
      (way home (grp groups)) [pt bh (.cells #[.int .u64 home] 52 (0, 0)), pt bg (.cells #[.int .i64 (grp groups)] 3 (0, 0))] := (order_itS bh bg home hh groups).plain

theorem valid_powB (n : Int) : powB n 1 8192 = true ↔ ∃ k : Nat, k ≤ 13 ∧ n = 2 ^ k := by
  have := powB_iff n 1 0 13 8192 (by decide) (by decide) (by decide)
  exact this.trans ⟨fun ⟨k, _, a, b⟩ => ⟨k, a, b⟩, fun ⟨k, a, b⟩ => ⟨k, by omega, a, b⟩⟩

/-- The group at step n; -1: there is none. -/
def atI (home groups n : Int) : Int := if 0 ≤ n ∧ n < (grp groups : Int) then ord home (grp groups) n.toNat else -1
theorem grp_no {groups : Int} (h : powB groups 1 8192 = false) : grp groups = 0 := by unfold grp; rw [h]; rfl
theorem grp_yes {groups : Int} (h : powB groups 1 8192 = true) : groups = ((grp groups : Nat) : Int) ∧ ∃ e : Nat, e ≤ 13 ∧ grp groups = 2 ^ e := by
  obtain ⟨e, he, hg⟩ := (valid_powB groups).1 h
  have hc := pow_cast e
  have hgr : grp groups = 2 ^ e := by unfold grp; rw [if_pos h, hg, ← hc]; exact Int.toNat_natCast _
  exact ⟨by rw [hgr, hg, hc], e, he, hgr⟩

theorem mul_le (n : Int) (h0 : 0 ≤ n) (h1 : n < 8192) : 0 ≤ n * (n + 1) ∧ n * (n + 1) ≤ 67108864 := by
  refine ⟨Int.mul_nonneg h0 (by omega), ?_⟩
  have : n * (n + 1) ≤ 8191 * 8192 := Int.mul_le_mul (by omega) (by omega) (by omega) (by omega)
  omega

theorem at_ord (home n : Int) (g e : Nat) (he : e ≤ 13) (hg : g = 2 ^ e) (h0 : 0 ≤ n) (h1 : n < (g : Int)) :
    IntKind.i64.wrap (bits .and .u64 (IntKind.u64.wrap (home + n * (n + 1) / 2)) ((g : Int) - 1)) = ord home g n.toNat := by
  refine acc_ord home g e n.toNat he hg _ ?_
  rw [IntKind.wrap_u64]
  obtain ⟨m, rfl⟩ := Int.eq_ofNat_of_zero_le h0
  rw [Int.toNat_natCast]
  congr 2

theorem Order_ok (home groups : Int) :
    FnOk Tryz.prog 107 #[.int .u64 home, .int .i64 groups] [] (fun v L => ∃ bh bg, v = .func (.func 154) #[] #[.pointer (some ⟨bh, 0, none⟩), .pointer (some ⟨bg, 0, none⟩)] ∧
      L = [pt bh (.cells #[.int .u64 home] 52 (0, 0)), pt bg (.cells #[.int .i64 (grp groups)] 3 (0, 0))]) := by
  refine fn_intro en107 Tryz.func107 rfl rfl rfl fun Fr w0 => t_nm ?_
  refine sr <| o_box1 rfl rfl rfl fun b2 => o_box1 rfl rfl rfl fun b3 => asg rfl rfl <| lc <| t_seq <| sr <| l_q rfl (qld rfl yA3) ?_
  refine lc1 rfl rfl rfl (power_ok _ _ _ (by omega) (by omega)) ?_
  refine l_q rfl (q_un rfl (u_not ·)) <| lc <| t_if rfl (fun h => ?_) fun h => ?_
  · refine t_region <| st rfl rfl rfl yS3 rfl ?_
    refine lz <| l_q rfl (q_makeFunc rfl rfl) <| asg rfl rfl <| lc <| rt ?_
    have hz := grp_no (groups := groups) (by simpa using h)
    apply f_ret (.inl rfl) ([pt b2 (.cells #[.int .u64 home] 52 (0, 0)), pt b3 (.cells #[.int .i64 (grp groups)] 3 (0, 0))])
    · apply res1 rfl
      · exact .tmp rfl
    · exact ⟨_, _, rfl, rfl⟩
    · rw [hz]; first | exact Ent.refl _ | (apply Sel.ent; (repeat (first | apply Sel.cons | with_reducible exact Sel.nil | apply Sel.rest | exact Take.here | apply Take.there | exact Drop.refl | apply Drop.skip)))
  · refine t_skip <| nz <| l_q rfl (q_makeFunc rfl rfl) <| asg rfl rfl <| lc <| rt ?_
    have hz := (grp_yes (groups := groups) (by simpa using h)).1
    apply f_ret (.inl rfl) ([pt b2 (.cells #[.int .u64 home] 52 (0, 0)), pt b3 (.cells #[.int .i64 (grp groups)] 3 (0, 0))])
    · apply res1 rfl
      · exact .tmp rfl
    · exact ⟨_, _, rfl, rfl⟩
    · rw [← hz]; first | exact Ent.refl _ | (apply Sel.ent; (repeat (first | apply Sel.cons | with_reducible exact Sel.nil | apply Sel.rest | exact Take.here | apply Take.there | exact Drop.refl | apply Drop.skip)))

/-- At which step the group is met; -1: never. -/
def stI (home groups g : Int) : Int := match (List.range (grp groups)).find? (fun k => decide (ord home (grp groups) k = g)) with | some k => (k : Int) | none => -1
theorem stI_hit {home groups g : Int} {k : Nat} (hk : k < grp groups) (h : ord home (grp groups) k = g) (hn : ∀ j, j < k → ord home (grp groups) j ≠ g) : stI home groups g = k := by
  unfold stI
  have : (List.range (grp groups)).find? (fun k => decide (ord home (grp groups) k = g)) = some k := by
    rw [List.find?_range_eq_some]
    exact ⟨by simpa using h, by simpa using hk, fun j hj => by simpa using hn j hj⟩
  rw [this]
theorem stI_miss {home groups g : Int} (hn : ∀ j, j < grp groups → ord home (grp groups) j ≠ g) : stI home groups g = -1 := by
  unfold stI
  have : (List.range (grp groups)).find? (fun k => decide (ord home (grp groups) k = g)) = none := by
    rw [List.find?_range_eq_none]
    intro j hj; simpa using hn j hj
  rw [this]
theorem ord_range (home : Int) (groups : Int) (k : Nat) (h : grp groups ≠ 0) : 0 ≤ ord home (grp groups) k ∧ ord home (grp groups) k < (grp groups : Int) := by
  unfold ord
  exact ⟨Int.emod_nonneg _ (by omega), Int.emod_lt_of_pos _ (by omega)⟩

theorem Steps_ok (home groups g : Int) (hh : 0 ≤ home ∧ home < 18446744073709551616) :
    FnOk Tryz.prog 105 #[.int .u64 home, .int .i64 groups, .int .i64 g] [] (fun v L => v = .int .i64 (stI home groups g) ∧ L = []) := by
  have hle := grp_le groups
  refine fn_intro en105 Tryz.func105 rfl rfl rfl fun Fr w0 => t_nm ?_
  refine sr <| o_box1 rfl rfl rfl fun b5 => o_alloc1 rfl yZ3 rfl fun b6 => lc <| t_seq <| sr <| mv rfl rfl <| lc1 rfl rfl rfl (power_ok _ _ _ (by omega) (by omega)) ?_
  refine l_q rfl (q_un rfl (u_not ·)) <| mv rfl rfl <| l_pt (t := 12) rfl (fun h => ?_) fun h => ?_
  · refine l_off rfl rfl rfl rfl <| l_off rfl rfl rfl rfl <| l_q rfl (q_pk rfl rfl) <| mv rfl rfl <| l_off rfl rfl rfl rfl <| l_off rfl rfl rfl rfl <| l_off rfl rfl rfl rfl <| l_q rfl (q_pk rfl rfl) <| lc <| t_cond_t rfl <| sr <| st rfl rfl rfl yS3 rfl ?_
    refine lc <| rt ?_
    have hz := grp_no (groups := groups) (by simpa using h)
    apply f_ret (.inl rfl) ([])
    · apply res1 rfl
      · apply Rv.cellL rfl
        · exact tk
        · exact ga
        · exact yA3
    · exact ⟨by rw [stI_miss (by omega)], rfl⟩
    · exact en
  · refine l_on rfl rfl <| l_q rfl (qld rfl yA3) ?_
    refine l_on rfl rfl <| l_q rfl (qi rfl rfl (b_lss ·)) <| l_q rfl (q_pk rfl rfl) <| mv rfl rfl ?_
    obtain ⟨hgi, e, he, hge⟩ := grp_yes (groups := groups) (by simpa using h)
    have h1 : 0 < 2 ^ e := Nat.two_pow_pos e
    refine l_pt (t := 16) rfl (fun k => ?_) fun k => ?_
    · refine l_off rfl rfl rfl rfl <| l_off rfl rfl rfl rfl <| l_off rfl rfl rfl rfl <| l_q rfl (q_pk rfl rfl) <| lc <| t_cond_t rfl <| sr <| st rfl rfl rfl yS3 rfl ?_
      refine lc <| rt ?_
      apply f_ret (.inl rfl) ([])
      · apply res1 rfl
        · apply Rv.cellL rfl
          · exact tk
          · exact ga
          · exact yA3
      · exact ⟨by rw [stI_miss (fun j hj => by have := ord_range home groups j (by omega); omega)], rfl⟩
      · exact en
    · refine l_on rfl rfl <| l_q rfl (qld rfl yA3) ?_
      refine l_on rfl rfl <| mv rfl rfl <| l_on rfl rfl <| l_q rfl (qi rfl rfl (b_geq ·)) <| l_q rfl (q_pk rfl rfl) <| lc <| t_if rfl (fun m => ?_) fun m => ?_
      · refine sr <| st rfl rfl rfl yS3 rfl ?_
        refine lc <| rt ?_
        apply f_ret (.inl rfl) ([])
        · apply res1 rfl
          · apply Rv.cellL rfl
            · exact tk
            · exact ga
            · exact yA3
        · exact ⟨by rw [stI_miss (fun j hj => by have := ord_range home groups j (by omega); omega)], rfl⟩
        · exact en
      · refine t_skip <| nz <| o_alloc1 rfl yZ3 rfl fun b7 => st rfl rfl rfl yS3 rfl ?_
        refine lc <| t_seq <| sr <| mv rfl rfl <| mv rfl rfl <| lcf rfl rfl rfl (Order_ok _ _) ?_
        rintro v L' ⟨bh, bg, rfl, rfl⟩
        refine l_nm ?_
        refine lc <| t_block ?_
        apply t_range (p := (fun k (_ : Unit) => ∀ j, j < k → ord home (grp groups) j ≠ g)) (J := (fun k _ => [pt b7 (.cells #[.int .i64 (k : Nat)] 3 (0, 0)), pt b5 (.cells #[.int .i64 g] 3 (0, 0)), pt b6 (.cells #[.int .i64 0] 3 (0, 0))])) (q := (fun k (y : Code × Unit) => y.1 = .ret ∧ ord home (grp groups) k = g ∧ ∀ j, j < k → ord home (grp groups) j ≠ g)) (Jx := (fun k _ => [pt b6 (.cells #[.int .i64 (k : Nat)] 3 (0, 0))])) (x0 := ()) (hc := order_it _ _ home hh groups) (hr := rfl) (hg := rfl)
        · exact pk
        · omega
        · (try dsimp only); (try simp only [Int.natCast_zero, Nat.sub_zero]); exact pk
        · rfl
        · (intro x hx; simp only [way, List.mem_map] at hx; obtain ⟨_, _, rfl⟩ := hx; rfl)
        · intro l rc Fr' w1 k x j hrd hpn hx hj
          obtain ⟨hk, rfl⟩ := way_get hx
          refine t_nm ?_
          refine t_region <| asg rfl rfl <| l_nil ?_
          apply n_begin
          · exact tk
          · assumption
          refine t_block <| t_seq <| sr <| mv rfl rfl <| l_q rfl (qld rfl yA3) ?_
          refine l_q rfl (qi rfl rfl (b_eql ·)) <| lc <| t_if rfl (fun q => ?_) fun q => ?_
          · refine sr <| l_q rfl (qld rfl yA3) ?_
            refine st rfl rfl rfl yS3 rfl ?_
            refine lc <| rt ?_
            apply r_left (.inl ⟨rfl, rfl⟩) (()) (⟨rfl, q, hj⟩)
            exact en
          · refine t_skip <| n_code <| t_region <| l_q rfl (qld rfl yA3) ?_
            refine l_q rfl (qadd rfl rfl) ?_
            refine st rfl rfl rfl yS3 rfl ?_
            refine l_nil <| n_blk ?_
            apply r_next (by assumption) (by assumption) (()) (fun j' hj' => by by_cases hjk : j' = k; (subst hjk; exact q); exact hj j' (by omega))
            exact en
        · intro b j hj
          refine n_nm ?_
          refine n_blk <| nz <| st rfl rfl rfl yS3 rfl ?_
          refine lc <| rt ?_
          apply f_retm (.inl rfl) [b] ([])
          · repeat (first | with_reducible exact TakeM.nil | apply TakeM.cons | with_reducible exact Take.here | apply Take.there)
          · apply res1 rfl
            · apply Rv.cellL rfl
              · exact tk
              · exact ga
              · exact yA3
          · exact ⟨by rw [stI_miss (by simpa [way_length] using hj)], rfl⟩
          · exact en
        · rintro b k ⟨jc, y⟩ hk ⟨rfl, hq1, hq2⟩
          refine t_nm ?_
          refine rt ?_
          apply f_retm (.inl rfl) [b] ([])
          · repeat (first | with_reducible exact TakeM.nil | apply TakeM.cons | with_reducible exact Take.here | apply Take.there)
          · apply res1 rfl
            · apply Rv.cellL rfl
              · exact tk
              · exact ga
              · exact yA3
          · exact ⟨by rw [stI_hit (k := k) (by simpa [way_length] using hk) hq1 hq2], rfl⟩
          · exact en
end Go.Proofs.YtgijnebgchkenaaGreatDoor.Probe
