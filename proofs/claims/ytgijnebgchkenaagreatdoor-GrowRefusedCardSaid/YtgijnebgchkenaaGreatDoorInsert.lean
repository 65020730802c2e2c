import Derived.Laws.BitsAllLaws
import Derived.Laws.BitsLemmas
import Derived.RowKit
import Derived.IntWalk
import Derived.Test.YtgijnebgchkenaaGreatDoorTypes
import Derived.Test.YtgijnebgchkenaaGreatDoorEngTail
import Derived.Shelf.Spec.SlicesInsert
import Derived.Shelf.Spec.SlicesInsertGrow
section
/- Plain lemmas on whole numbers: powers of two, masks. No program. -/
set_option linter.unusedVariables false
set_option linter.unusedSimpArgs false
namespace Go.Proofs.YtgijnebgchkenaaGreatDoor.Bits
open Go.RowKit

theorem ofInt_i64 (a : Nat) (ha : a < 9223372036854775808) : (BitVec.ofInt 64 (a : Int)).toNat = a := by
  rw [BitVec.ofInt_natCast, BitVec.toNat_ofNat]; exact Nat.mod_eq_of_lt (by omega)
theorem i64_and_nat (a b : Nat) (ha : a < 9223372036854775808) (hb : b < 9223372036854775808) : bits .and .i64 (a : Int) (b : Int) = ((a &&& b : Nat) : Int) := by
  have hx : a &&& b < 2 ^ 63 := Nat.and_lt_two_pow _ (by omega)
  show IntKind.i64.wrap ((BitVec.ofInt 64 (a : Int) &&& BitVec.ofInt 64 (b : Int)).toNat : Int) = _
  rw [BitVec.toNat_and, ofInt_i64 a ha, ofInt_i64 b hb, IntKind.wrap_i64]
  omega

/-- The test that Go's text makes: is a power of two. -/
def pow2 (a : Int) : Bool := bits .and .i64 a (wrap64 (a - 1)) == 0

theorem pow2_nat (a : Nat) (h1 : 1 ≤ a) (h2 : a ≤ 1048576) : pow2 (a : Int) = true ↔ ∃ k, a = 2 ^ k := by
  unfold pow2
  have e : wrap64 ((a : Int) - 1) = ((a - 1 : Nat) : Int) := by unfold wrap64; omega
  rw [e, i64_and_nat a (a - 1) (by omega) (by omega)]
  have hz : a ≠ 0 := by omega
  have := Nat.and_sub_one_eq_zero_iff_isPowerOfTwo hz
  rw [beq_iff_eq]
  constructor
  · intro h
    exact this.1 (by exact_mod_cast h)
  · rintro ⟨k, hk⟩
    exact_mod_cast this.2 ⟨k, hk⟩

theorem pow2_le {k n : Nat} (h : 2 ^ k ≤ 2 ^ n) : k ≤ n := (Nat.pow_le_pow_iff_right (by decide)).1 h

/-- An unsigned number masked by a power of two less one: the remainder. -/
theorem mask_u64 (x : Int) (h0 : 0 ≤ x) (h1 : x < 18446744073709551616) (k : Nat) (hk : k ≤ 63) : bits .and .u64 x ((2 : Int) ^ k - 1) = x % (2 : Int) ^ k := by
  obtain ⟨n, rfl⟩ := Int.eq_ofNat_of_zero_le h0
  have hp : 2 ^ k ≤ 9223372036854775808 := (Nat.pow_le_pow_right (by decide : 0 < 2) hk : 2 ^ k ≤ 2 ^ 63)
  have hq : 0 < 2 ^ k := Nat.two_pow_pos k
  have e : (2 : Int) ^ k - 1 = ((2 ^ k - 1 : Nat) : Int) := by
    have : ((2 ^ k : Nat) : Int) = (2 : Int) ^ k := Int.natCast_pow 2 k
    omega
  rw [e, u64_and_nat n _ (by omega) (by omega), Nat.and_two_pow_sub_one_eq_mod, Int.natCast_emod, Int.natCast_pow]
  rfl

theorem pow_cast (k : Nat) : ((2 ^ k : Nat) : Int) = (2 : Int) ^ k := Int.natCast_pow 2 k
end Go.Proofs.YtgijnebgchkenaaGreatDoor.Bits
end
section
/- The contract of slices.BinarySearch over rising whole numbers. -/
set_option linter.unusedVariables false
set_option linter.unusedSimpArgs false
set_option maxRecDepth 100000
namespace Go.Proofs.YtgijnebgchkenaaGreatDoor.Search
open Go.RowKit Go.Proofs Go.Proofs.YtgijnebgchkenaaGreatDoor.Eng Go.Proofs.YtgijnebgchkenaaGreatDoor.Ty Go.Proofs.YtgijnebgchkenaaGreatDoor.Bits

def ints (xs : List Int) : List Value := xs.map fun x => .int .i64 x
theorem ints_at {xs : List Int} {i : Nat} (h : i < xs.length) : (ints xs)[i]? = some (.int .i64 xs[i]) := by simp [ints, h]
theorem ints_len (xs : List Int) : (ints xs).length = xs.length := by simp [ints]

theorem isNaN1_ok (x : Int) : FnOk Tryz.prog 177 #[.int .i64 x] [] (fun v L => v = .bool false ∧ L = []) := by
  refine fn_intro en177 Tryz.func177 rfl rfl rfl fun Fr w0 => t_nm ?_
  refine sr <| asg rfl rfl <| lz <| mv rfl rfl <| mv rfl rfl <| l_q rfl (qi rfl rfl (b_neq ·)) <| asg rfl rfl <| lc <| rt <| fr1 rfl ([]) (.tmp rfl) ?_
  exact ⟨by simp, rfl⟩
theorem isNaN2_ok (x : Int) : FnOk Tryz.prog 158 #[.int .i64 x] [] (fun v L => v = .bool false ∧ L = []) := by
  refine fn_intro en158 Tryz.func158 rfl rfl rfl fun Fr w0 => t_nm ?_
  refine sr <| asg rfl rfl <| lz <| mv rfl rfl <| mv rfl rfl <| l_q rfl (qi rfl rfl (b_neq ·)) <| asg rfl rfl <| lc <| rt <| fr1 rfl ([]) (.tmp rfl) ?_
  exact ⟨by simp, rfl⟩
theorem Less_ok (x y : Int) : FnOk Tryz.prog 157 #[.int .i64 x, .int .i64 y] [] (fun v L => v = .bool (decide (x < y)) ∧ L = []) := by
  refine fn_intro en157 Tryz.func157 rfl rfl rfl fun Fr w0 => t_nm ?_
  refine sr <| asg rfl rfl <| lz <| mv rfl rfl <| lc1 rfl rfl rfl (isNaN1_ok _) ?_
  refine mv rfl rfl <| l_pt (t := 7) rfl (fun h => ?_) fun h => ?_
  · cases h
  · exact l_off rfl rfl rfl rfl <| l_off rfl rfl rfl rfl <| l_off rfl rfl rfl rfl <| l_q rfl (q_pk rfl rfl) <| mv rfl rfl <| l_on rfl rfl <| mv rfl rfl <| l_on rfl rfl <| mv rfl rfl <| l_on rfl rfl <| l_q rfl (qi rfl rfl (b_lss ·)) <| l_q rfl (q_pk rfl rfl) <| asg rfl rfl <| lc <| rt <| fr1 rfl ([]) (.tmp rfl) ⟨rfl, rfl⟩

/-- Where t belongs. -/
def placed (xs : List Int) (t : Int) (i : Nat) : Prop := i ≤ xs.length ∧ (∀ j (h : j < xs.length), j < i → xs[j] < t) ∧ (∀ j (h : j < xs.length), i ≤ j → t ≤ xs[j])
theorem Search_ok (xs : List Int) (g k cap : Nat) (t : Int) (hk : xs.length = k) (hkb : k ≤ 4611686018427387904) (hs : ∀ i j (hi : i < xs.length) (hj : j < xs.length), i < j → xs[i] < xs[j]) :
    FnOk Tryz.prog 118 #[.slice (some ⟨g, 0, none⟩) k cap, .int .i64 t] [ownS 3 1 (.slice (some ⟨g, 0, none⟩) k cap) k (ints xs)]
      (fun v L => (∃ i : Nat, v = .tuple #[.int .i64 i, .bool (decide (xs[i]? = some t))] ∧ placed xs t i) ∧ L = [ownS 3 1 (.slice (some ⟨g, 0, none⟩) k cap) k (ints xs)]) := by
  refine fn_intro en118 Tryz.func118 rfl rfl rfl fun Fr w0 => t_nm ?_
  refine sr <| asg rfl rfl <| asg rfl rfl <| lz <| mv rfl rfl <| l_q rfl (ql rfl yU22) <| asg rfl rfl <| lz <| mv rfl rfl <| asg rfl rfl <| asg rfl rfl <| lc <| t_seq <| t_block ?_
  refine t_loop (fun x : Nat × Nat => x.1 ≤ x.2 ∧ x.2 ≤ k ∧ (∀ j (h : j < xs.length), j < x.1 → xs[j] < t) ∧ (∀ j (h : j < xs.length), x.2 ≤ j → t ≤ xs[j])) (fun x => [(0, .slice (some ⟨g, 0, none⟩) k cap), (1, .int .i64 t), (6, .int .i64 k), (7, .int .i64 x.1), (8, .int .i64 x.2)]) (fun _ => ownS 3 1 (.slice (some ⟨g, 0, none⟩) k cap) k (ints xs) :: Fr) (fun x => x.2 - x.1) (0, k) ⟨by omega, by omega, by omega, fun j h h2 => by omega⟩ ⟨rfl, rfl, rfl, rfl, rfl, trivial⟩ (Ent.refl _) ?_
  rintro ⟨i, j⟩ ⟨hij, hjk, hlo, hhi⟩
  dsimp only at hij hjk hlo hhi ⊢
  refine t_seq <| sr <| mv rfl rfl <| mv rfl rfl <| l_q rfl (qi rfl rfl (b_lss ·)) <| lc <| t_if rfl (fun h => ?_) fun h => ?_
  · have hm : (((i : Int) + (j : Int)) / 2).toNat = (i + j) / 2 := by omega
    refine t_skip <| n_code <| t_block <| sr <| mv rfl rfl <| mv rfl rfl <| l_q rfl (qadd rfl rfl) ?_
    refine l_q rfl (qcv rfl yU3 yU226) ?_
    apply l_q rfl
    · apply qi rfl rfl; first | exact fun w => b_shr_c (m := 2) w (by decide) (by decide) (by omega) | exact fun w => b_shr w (by decide)
    refine l_q rfl (qcv rfl yU226 yU3) ?_
    refine asg rfl rfl <| lz <| mv rfl rfl <| mv rfl rfl <| l_q rfl (q_indexAddr1 rfl rfl yU22 yS3 (by omega)) ?_
    apply l_q rfl
    · apply q_loadOwn rfl yA3
      · exact tk
      · rw [Nat.zero_add, hm, ints_at (by omega)]
    refine mv rfl rfl <| lc1 rfl rfl rfl (Less_ok _ _) ?_
    refine lc <| t_if rfl (fun q => ?_) fun q => ?_
    · refine t_region <| mv rfl rfl <| l_q rfl (qadd rfl rfl) ?_
      refine asg rfl rfl <| l_nil <| n_blk ?_
      apply n_again (((i + j) / 2 + 1, j))
      · exact ⟨by dsimp only; omega, hjk, fun a ha hai => by by_cases e : a = (i + j) / 2; (subst e; exact q); exact Int.lt_trans (hs a ((i + j) / 2) ha (by omega) (by dsimp only at hai; omega)) q, hhi⟩
      · dsimp only; omega
      · exact ⟨rfl, rfl, rfl, congrArg (fun z => some (Value.int .i64 z)) (by omega : ((i : Int) + (j : Int)) / 2 + 1 = (((i + j) / 2 + 1 : Nat) : Int)), rfl, trivial⟩
      · exact en
    · refine t_region <| mv rfl rfl <| asg rfl rfl <| l_nil <| n_blk ?_
      apply n_again ((i, (i + j) / 2))
      · exact ⟨by dsimp only; omega, by dsimp only; omega, hlo, fun a ha hai => by by_cases e : a = (i + j) / 2; (subst e; omega); have := hs ((i + j) / 2) a (by omega) ha (by dsimp only at hai; omega); omega⟩
      · dsimp only; omega
      · exact ⟨rfl, rfl, rfl, rfl, congrArg (fun z => some (Value.int .i64 z)) (by omega : ((i : Int) + (j : Int)) / 2 = (((i + j) / 2 : Nat) : Int)), trivial⟩
      · exact en
  · refine xt rfl <| nz <| mv rfl rfl <| mv rfl rfl <| mv rfl rfl <| l_q rfl (qi rfl rfl (b_lss ·)) <| mv rfl rfl ?_
    obtain rfl : i = j := by omega
    have hpl : placed xs t i := ⟨by omega, hlo, hhi⟩
    refine l_pt (t := 35) rfl (fun a => ?_) fun a => ?_
    · refine l_on rfl rfl <| mv rfl rfl <| l_on rfl rfl <| mv rfl rfl <| l_on rfl rfl <| l_q rfl (q_indexAddr1 rfl rfl yU22 yS3 (by omega)) ?_
      refine l_on rfl rfl ?_
      apply l_q rfl
      · apply q_loadOwn rfl yA3
        · exact tk
        · rw [Nat.zero_add, Int.toNat_natCast, ints_at (by omega)]
      refine l_on rfl rfl <| mv rfl rfl <| l_on rfl rfl <| l_q rfl (qi rfl rfl (b_eql ·)) <| l_on rfl rfl <| mv rfl rfl ?_
      have hil : i < xs.length := by omega
      refine l_pt (t := 42) rfl (fun b => ?_) fun b => ?_
      · refine l_off rfl rfl rfl rfl <| l_off rfl rfl rfl rfl <| l_off rfl rfl rfl rfl <| l_off rfl rfl rfl rfl <| l_off rfl rfl rfl rfl <| l_off rfl rfl rfl rfl <| l_offu rfl rfl rfl <| l_offu rfl rfl rfl <| l_off rfl rfl rfl rfl <| l_on rfl rfl <| l_q rfl (q_pk rfl rfl) <| l_q rfl (q_pk rfl rfl) <| asg rfl rfl <| asg rfl rfl <| lc <| rt <| fr2 rfl ([ownS 3 1 (.slice (some ⟨g, 0, none⟩) k cap) k (ints xs)]) (.tmp rfl) (.tmp rfl) ?_
        exact ⟨⟨i, by rw [List.getElem?_eq_getElem hil, b, decide_eq_true rfl], hpl⟩, rfl⟩
      · refine l_on rfl rfl <| mv rfl rfl <| l_on rfl rfl <| mv rfl rfl <| l_on rfl rfl <| l_q rfl (q_indexAddr1 rfl rfl yU22 yS3 (by omega)) ?_
        refine l_on rfl rfl ?_
        apply l_q rfl
        · apply q_loadOwn rfl yA3
          · exact tk
          · rw [Nat.zero_add, Int.toNat_natCast, ints_at (by omega)]
        refine l_on rfl rfl <| lc1 rfl rfl rfl (isNaN2_ok _) ?_
        refine l_on rfl rfl <| mv rfl rfl <| l_pt (t := 48) rfl (fun e => ?_) fun e => ?_
        · cases e
        · refine l_off rfl rfl rfl rfl <| l_off rfl rfl rfl rfl <| l_on rfl rfl <| l_q rfl (q_pk rfl rfl) <| l_on rfl rfl <| l_q rfl (q_pk rfl rfl) <| l_q rfl (q_pk rfl rfl) <| asg rfl rfl <| asg rfl rfl <| lc <| rt <| fr2 rfl ([ownS 3 1 (.slice (some ⟨g, 0, none⟩) k cap) k (ints xs)]) (.tmp rfl) (.tmp rfl) ?_
          exact ⟨⟨i, by rw [List.getElem?_eq_getElem hil, decide_eq_false (by simpa using b)], hpl⟩, rfl⟩
    · refine l_off rfl rfl rfl rfl <| l_off rfl rfl rfl rfl <| l_off rfl rfl rfl rfl <| l_off rfl rfl rfl rfl <| l_off rfl rfl rfl rfl <| l_off rfl rfl rfl rfl <| l_off rfl rfl rfl rfl <| l_offu rfl rfl rfl <| l_offu rfl rfl rfl <| l_offu rfl rfl rfl <| l_offu rfl rfl rfl <| l_offu rfl rfl rfl <| l_offu rfl rfl rfl <| l_offu rfl rfl rfl <| l_offu rfl rfl rfl <| l_offu rfl rfl rfl <| l_off rfl rfl rfl rfl <| l_q rfl (q_pk rfl rfl) <| asg rfl rfl <| asg rfl rfl <| lc <| rt <| fr2 rfl ([ownS 3 1 (.slice (some ⟨g, 0, none⟩) k cap) k (ints xs)]) (.tmp rfl) (.tmp rfl) ?_
      exact ⟨⟨i, by rw [List.getElem?_eq_none (by omega)]; rfl, hpl⟩, rfl⟩
end Go.Proofs.YtgijnebgchkenaaGreatDoor.Search
end
section
/- slices.Insert of one number, by the shelf's laws. -/
set_option linter.unusedVariables false
set_option linter.unusedSimpArgs false
set_option maxRecDepth 100000
namespace Go.Proofs.YtgijnebgchkenaaGreatDoor.Search
open Go.RowKit Go.Proofs Go.Shelf Go.Proofs.YtgijnebgchkenaaGreatDoor.Eng Go.Proofs.YtgijnebgchkenaaGreatDoor.Ty

/-- The shelf's numbers in this program. -/
def renI : Ren where
  f := fun n => match n with | 21 => 119 | 27 => 159 | 28 => 160 | 35 => 178 | 39 => 181 | _ => 0
  t := fun n => match n with | 3 => 3 | 4 => 4 | 22 => 22 | _ => 0
  g := fun _ => 0
theorem laysI : Lays2.n21 Tryz.prog renI where
  mixed := by kernel_rfl
  f21 := by kernel_rfl
  f27 := by kernel_rfl
  f28 := by kernel_rfl
  f35 := by kernel_rfl
  f39 := by kernel_rfl
  t0 := by kernel_rfl
  a0 := fun w => by kernel_rfl
  z0 := fun w => by kernel_rfl
  v0 := fun w => by kernel_rfl
  t3 := by kernel_rfl
  a3 := fun w => by kernel_rfl
  z3 := fun w => by kernel_rfl
  v3 := fun w => by kernel_rfl
  t4 := by kernel_rfl
  a4 := fun w => by kernel_rfl
  z4 := fun w => by kernel_rfl
  v4 := fun w => by kernel_rfl
  t22 := by kernel_rfl
  a22 := fun w => by kernel_rfl
  z22 := fun w => by kernel_rfl
  v22 := fun w => by kernel_rfl
  i3 := by kernel_rfl
theorem ints_get (xs : List Int) (k : Nat) : (ints xs)[k]? = xs[k]?.map fun x => .int .i64 x := by simp [ints]
theorem ints_one (xs : List Int) : ∀ v ∈ ints xs, v.oneCell' = true := fun v hv => by
  simp only [ints, List.mem_map] at hv
  obtain ⟨x, _, rfl⟩ := hv
  rfl
theorem Insert_ok (v : Value) (xs : List Int) (i : Nat) (x : Int) (vb : Nat) (hi : i ≤ xs.length) (hlen : xs.length ≤ 100000000) :
    FnOk Tryz.prog 119 #[v, .int .i64 (i : Nat), .slice (some ⟨vb, 0, none⟩) 1 1] [ownT 3 v (ints xs), pt vb (.cells #[.int .i64 x] 3 (0, 0))] (fun r L => L = [ownT 3 r (ints (insL xs i x))]) := by
  refine ⟨en119, fun Fr w0 w hs he => callsIn_wide.2 ?_⟩
  simp only [List.cons_append, List.nil_append] at hs
  obtain ⟨y, hy, hs1⟩ := sat_exP.1 hs
  have ht3 : renI.t 3 = 3 := rfl
  have hvs : ∀ j u, [Value.int .i64 x][j]? = some u → w.cell? ⟨vb, 0 + j, none⟩ = some u := fun j u hu => by
    have hb := (hs1.perm List.perm_append_comm).block (b := vb) .here
    simp only [World.cell?, hb, Nat.zero_add]
    simpa using hu
  have h1v : ∀ u ∈ [Value.int .i64 x], u.oneCell' = true := fun u hu => by rw [List.mem_singleton.1 hu]; rfl
  have hml : maxLen = 9223372036854775807 := rfl
  have hil : (insL xs i x).length = xs.length + 1 := insL_len hi x
  -- the pieces at the end
  have fin : ∀ (w' : World) (g o cap : Nat) (cur' : Array Value), Sat (stars (pt g (.cells cur' 3 (0, 0)) :: Fr)) w' → Ext w w' → xs.length + 1 ≤ cap → cap ≤ maxLen → o + cap ≤ cur'.size →
      (∀ k, k < xs.length + 1 → cur'[o + k]? = if k < i then xs[k]?.map fun x => Value.int .i64 x else if k = i then some (.int .i64 x) else xs[k - 1]?.map fun x => Value.int .i64 x) →
      ∃ r L', Ending.returned (.slice (some ⟨g, o, none⟩) (xs.length + 1) cap) = .returned r ∧ L' = [ownT 3 r (ints (insL xs i x))] ∧ Sat (stars (L' ++ Fr)) w' ∧ Ext w0 w' := fun w' g o cap cur' hsat hext h1 h2 h3 h4 =>
    ⟨_, _, rfl, rfl, sat_exP.2 ⟨some ⟨g, o, cap, cur'⟩, ⟨by rw [ints_len, hil], by rw [ints_len, hil]; exact h1, h2, h3, fun k u hu => by
      have hk : k < xs.length + 1 := by rw [← hil, ← ints_len]; exact (List.getElem?_eq_some_iff.1 hu).1
      dsimp only
      rw [h4 k hk, ← hu, ints_get, insL_get hi]
      split
      · rfl
      · split <;> rfl⟩, hsat⟩, he.trans hext⟩
  cases y with
  | none =>
    obtain ⟨rfl, hnil⟩ := hy
    have hx : xs = [] := by simpa [ints] using hnil
    subst hx
    obtain rfl : i = 0 := by simpa using hi
    refine (Any2.slices_Insert_int_end_grow laysI none 0 0 vb 0 1 1 [] [.int .i64 x] w (by decide) (by decide) (by decide) (by decide) rfl rfl (fun _ => rfl) (fun a h => by cases h) hvs h1v).mono fun e w' ⟨h1, h2⟩ => ?_
    rw [ht3] at h1 h2
    subst h1 h2
    have hF : Sat (stars Fr) w := (show Sat (stars (pt vb (.cells #[.int .i64 x] 3 (0, 0)) :: Fr)) w from hs1).tail
    have hge := grownCap_ge w 1 0 3
    have hle := grownCap_le_maxLen w 1 0 3 (by decide)
    refine fin _ w.heap.size 0 _ _ (Sat.alloc (A := stars Fr) hF.drew _) ((Ext.refl w).drew.alloc _) hge hle (by simp [size_zeroCells, Value.cells]; omega) fun k hk => ?_
    obtain rfl : k = 0 := by simpa using hk
    rw [Nat.zero_add, Array.getElem?_append_left (by simp)]
    rfl
  | some t =>
    obtain ⟨g, o, cap, cur⟩ := t
    obtain ⟨rfl, y1, y2, y3, y4⟩ := hy
    rw [ints_len] at y1 ⊢
    dsimp only at y1 y2 y3 y4 ⊢
    have hs2 : Sat (stars (pt g (.cells cur 3 (0, 0)) :: pt vb (.cells #[.int .i64 x] 3 (0, 0)) :: Fr)) w := hs1
    have hg := hs2.block (b := g) .here
    have hv := hs2.block (b := vb) (.there .here)
    have hne : vb ≠ g := by
      obtain ⟨_, _, f1, f2, rfl, ⟨f3, f4, rfl, _, _, rfl⟩, d, _⟩ := hs2
      rintro rfl
      rcases d vb with q | q
      · simp [Part.one] at q
      · rw [Part.join_eq_none] at q
        simp [Part.one] at q
    have hs3 : Sat (stars (pt g (.cells cur 3 (0, 0)) :: Fr)) w := (hs2.perm (.swap _ _ _)).tail
    have hF : Sat (stars Fr) w := hs3.tail
    have hcs : ∀ j v, (ints xs)[j]? = some v → w.cell? ⟨g, o + j, none⟩ = some v := fun j v hj => by
      simp only [World.cell?, hg]
      simpa using y4 j v hj
    have hsome : ∀ k, k < cur.size → (w.cell? ⟨g, k, none⟩).isSome = true := fun k hk => by
      simp only [World.cell?, hg]
      simp [hk]
    have hfz : ∀ k, w.frozen? ⟨g, k, none⟩ = false := fun k => by simp [World.frozen?, hg]
    have hfv : ∀ k, w.frozen? ⟨vb, k, none⟩ = false := fun k => by simp [World.frozen?, hv]
    have hold : ∀ k, k < xs.length → cur[o + k]? = xs[k]?.map fun x => Value.int .i64 x := fun k hk => by
      rw [← ints_get, y4 k _ (ints_at hk), ints_at hk]
    by_cases hroom : xs.length + 1 ≤ cap
    · by_cases hin : i = xs.length
      · subst hin
        refine (Any2.slices_Insert_int_end_room laysI g o xs.length cap vb 0 1 1 [.int .i64 x] w (by decide) hroom (by omega) rfl (fun j hj => hsome _ (by omega)) (fun j _ => hfz _) hvs h1v).mono fun e w' ⟨h1, h2⟩ => ?_
        subst h1 h2
        obtain ⟨cur', a1, a2, a3, a4⟩ := sat_cellsT [.int .i64 x] (o + xs.length) cur w hs3 (by simp only [List.length_cons, List.length_nil]; omega)
        refine fin _ g o cap cur' a1 a4 hroom y2 (by omega) fun k hk => ?_
        rw [a3]
        by_cases q : k < xs.length
        · rw [if_neg (by simp only [List.length_cons, List.length_nil]; omega), if_pos q]; exact hold k q
        · obtain rfl : k = xs.length := by omega
          rw [if_pos (by simp), if_neg q, if_pos rfl, Nat.sub_self]; rfl
      · have hlt : i < xs.length := by omega
        refine (Any2.slices_Insert_int_shift laysI g o xs.length cap i vb 0 1 1 (ints xs) [.int .i64 x] w hlt (by decide) hroom (by omega) hne (ints_len xs) rfl hcs (fun j hj => hsome _ (by omega)) (fun j _ => hfz _) hvs (ints_one xs) h1v 3 3 1 cur.size (by simp [World.shape?, hv]) (by simp [World.shape?, hg]) (by omega) (hfv _) (hfv _)).mono fun e w' ⟨h1, h2⟩ => ?_
        subst h1 h2
        have hdl : ((ints xs).drop i).length = xs.length - i := by rw [List.length_drop, ints_len]
        obtain ⟨c1, a1, a2, a3, a4⟩ := sat_cellsT ((ints xs).drop i) (o + (i + 1)) cur w.drew hs3.drew (by rw [hdl]; omega)
        obtain ⟨c2, b1, b2, b3, b4⟩ := sat_cellsT [.int .i64 x] (o + i) c1 _ a1 (by simp only [List.length_cons, List.length_nil]; omega)
        refine fin _ g o cap c2 b1 (((Ext.refl w).drew.trans a4).trans b4) hroom y2 (by omega) fun k hk => ?_
        rw [b3, a3, hdl]
        simp only [List.length_cons, List.length_nil]
        by_cases q : k < i
        · rw [if_neg (by omega), if_neg (by omega), if_pos q]; exact hold k (by omega)
        · rw [if_neg q]
          by_cases q2 : k = i
          · rw [if_pos (by omega), if_pos q2, show o + k - (o + i) = 0 by omega]; rfl
          · rw [if_neg (by omega), if_pos (by omega), if_neg q2, List.getElem?_drop, ints_get]
            congr 2; omega
    · have hge := grownCap_ge w (xs.length + 1) cap 3
      have hle := grownCap_le_maxLen w (xs.length + 1) cap 3 (by omega)
      by_cases hin : i = xs.length
      · subst hin
        refine (Any2.slices_Insert_int_end_grow laysI (some ⟨g, o, none⟩) xs.length cap vb 0 1 1 (ints xs) [.int .i64 x] w (by decide) y1 (by omega) (by omega) (ints_len xs) rfl (fun h => by cases h) (fun a h j v hj => by cases h; rw [add_none]; exact hcs j v hj) hvs h1v).mono fun e w' ⟨h1, h2⟩ => ?_
        rw [ht3] at h1 h2
        subst h1 h2
        refine fin _ w.heap.size 0 _ _ (Sat.alloc (A := stars Fr) hF.drew _) ((Ext.refl w).drew.alloc _) hge hle (by simp [size_zeroCells, Value.cells, ints_len]; omega) fun k hk => ?_
        rw [Nat.zero_add]
        rw [Array.getElem?_append_left (by simp [ints_len]; omega)]
        rw [List.getElem?_toArray]
        by_cases q : k < xs.length
        · rw [if_pos q, List.getElem?_append_left (by rw [ints_len]; exact q), ints_get]
        · obtain rfl : k = xs.length := by omega
          rw [if_neg q, if_pos rfl, List.getElem?_append_right (by rw [ints_len]; omega), ints_len, Nat.sub_self]; rfl
      · have hlt : i < xs.length := by omega
        refine (Any2.slices_Insert_int_grow laysI g o xs.length cap i vb 0 1 1 (ints xs) [.int .i64 x] w hlt (by decide) y1 (by omega) (by omega) (ints_len xs) rfl hcs hvs (ints_one xs) h1v).mono fun e w' ⟨h1, h2⟩ => ?_
        rw [ht3] at h1 h2
        subst h1 h2
        have hdl : ((ints xs).drop i).length = xs.length - i := by rw [List.length_drop, ints_len]
        have hA := (Sat.alloc (A := stars Fr) hF (.cells (((ints xs).take i).toArray ++ Builtin.zeroCells (Value.int .i64 0).cells (xs.length + 1 - i) ++ Builtin.zeroCells (Value.int .i64 0).cells (grownCap w (xs.length + 1) cap 3 - (xs.length + 1))) 3)).drew
        obtain ⟨cur0, hcur0⟩ : ∃ cur0, cur0 = ((ints xs).take i).toArray ++ Builtin.zeroCells (Value.int .i64 0).cells (xs.length + 1 - i) ++ Builtin.zeroCells (Value.int .i64 0).cells (grownCap w (xs.length + 1) cap 3 - (xs.length + 1)) := ⟨_, rfl⟩
        have hsz : cur0.size = grownCap w (xs.length + 1) cap 3 := by
          rw [hcur0]
          simp [size_zeroCells, Value.cells, ints_len]
          omega
        have hfst : ∀ k, k < i → cur0[k]? = xs[k]?.map fun x => Value.int .i64 x := fun k hk => by
          rw [hcur0, Array.append_assoc, Array.getElem?_append_left (by simp [ints_len]; omega), List.getElem?_toArray, List.getElem?_take, if_pos hk, ints_get]
        rw [← hcur0] at hA ⊢
        obtain ⟨c1, a1, a2, a3, a4⟩ := sat_cellsT [.int .i64 x] i cur0 _ hA (by simp only [List.length_cons, List.length_nil]; omega)
        obtain ⟨c2, b1, b2, b3, b4⟩ := sat_cellsT ((ints xs).drop i) (i + 1) c1 _ a1.drew (by rw [hdl]; omega)
        refine fin _ w.heap.size 0 _ c2 b1 ((((Ext.refl w).alloc _).drew.trans a4).drew.trans b4) hge hle (by omega) fun k hk => ?_
        rw [Nat.zero_add, b3, a3, hdl]
        simp only [List.length_cons, List.length_nil]
        by_cases q : k < i
        · rw [if_neg (by omega), if_neg (by omega), if_pos q]; exact hfst k q
        · rw [if_neg q]
          by_cases q2 : k = i
          · rw [if_neg (by omega), if_pos (by omega), if_pos q2, show k - i = 0 by omega]; rfl
          · rw [if_pos (by omega), if_neg q2, List.getElem?_drop, ints_get]
            congr 2; omega
end Go.Proofs.YtgijnebgchkenaaGreatDoor.Search
end
