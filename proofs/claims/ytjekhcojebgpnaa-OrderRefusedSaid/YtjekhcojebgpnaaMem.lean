import Derived.Test.YtjekhcojebgpnaaTypes
import Derived.Test.YtjekhcojebgpnaaSearch
/- The contracts of package mem. -/
set_option linter.unusedVariables false
set_option linter.unusedSimpArgs false
set_option maxRecDepth 100000
namespace Go.Proofs.Ytjekhcojebgpnaa.Mem
open Go.RowKit Go.Proofs Go.Proofs.Ytjekhcojebgpnaa.Eng Go.Proofs.Ytjekhcojebgpnaa.Ty Go.Proofs.Ytjekhcojebgpnaa.Bits

/-- n bytes as cells. -/
def memV (m : Nat → Int) (n : Nat) : List Value := (List.range n).map fun i => .int .u8 (m i)
theorem memV_len (m : Nat → Int) (n : Nat) : (memV m n).length = n := by simp [memV]
theorem memV_at {m : Nat → Int} {n i : Nat} (h : i < n) : (memV m n)[i]? = some (.int .u8 (m i)) := by simp [memV, h]
theorem memV_one (m : Nat → Int) (n : Nat) : ∀ v ∈ memV m n, v.oneCell' = true := fun v hv => by simp only [memV, List.mem_map] at hv; obtain ⟨_, _, rfl⟩ := hv; rfl
/-- The k bytes f laid at o. -/
def layM (m : Nat → Int) (o k : Nat) (f : Nat → Int) : Nat → Int := fun i => if o ≤ i ∧ i < o + k then f (i - o) else m i
theorem lay_memV {m f : Nat → Int} {n o k : Nat} (h : o + k ≤ n) : lay (memV m n) o (memV f k) = memV (layM m o k f) n := by
 apply List.ext_getElem?
 intro i
 rw [lay_get (by simp only [memV_len]; exact h), memV_len]
 by_cases hi : i < n
 ·rw [memV_at (m := layM m o k f) hi]
  by_cases hk : o ≤ i ∧ i < o + k
  ·rw [if_pos hk, memV_at (by omega)]; simp [layM, hk]
  ·rw [if_neg hk, memV_at hi]; simp only [layM]; rw [if_neg hk]
 ·rw [if_neg (by omega), List.getElem?_eq_none (by rw [memV_len]; omega), List.getElem?_eq_none (by rw [memV_len]; omega)]
theorem set_memV {m : Nat → Int} {n o : Nat} {b : Int} (h : o < n) : (memV m n).set o (.int .u8 b) = memV (fun i => if i = o then b else m i) n := by
 apply List.ext_getElem?
 intro i
 rw [List.getElem?_set, memV_len]
 by_cases hi : i < n
 ·rw [memV_at hi, memV_at hi]
  by_cases q : o = i
  ·subst q; simp [h]
  ·rw [if_neg q, if_neg (Ne.symm q)]
 ·rw [List.getElem?_eq_none (by rw [memV_len]; omega), List.getElem?_eq_none (by rw [memV_len]; omega)]
  split
  ·simp; omega
  ·rfl


theorem Len_ok (pm g n cap : Nat) (m : Nat → Int) : FnOk Try.prog 96 #[.pointer (some ⟨pm, 0, none⟩)] [pt pm (.cells #[.slice (some ⟨g, 0, none⟩) n cap] 116 (0, 0)), ownS 5 1 (.slice (some ⟨g, 0, none⟩) n cap) n (memV m n)] (fun v L => v = .int .i64 (n : Nat) ∧ L = [pt pm (.cells #[.slice (some ⟨g, 0, none⟩) n cap] 116 (0, 0)), ownS 5 1 (.slice (some ⟨g, 0, none⟩) n cap) n (memV m n)]) := by
 refine fn_intro en96 Try.func96 rfl rfl rfl fun Fr w0 => t_nm ?_
 refine sr<|asg O O<|lz<|mv O O<|l_q O (q_nilCheck O)<|l_q O (qfa 0 O yU116 O O yS63)<|l_q O (qld O yA63) ?_
 exact l_q O (ql O yU63)<|asg O O<|lc<|rt<|fr1 O ([pt pm (.cells #[.slice (some ⟨g, 0, none⟩) n cap] 116 (0, 0)), ownS 5 1 (.slice (some ⟨g, 0, none⟩) n cap) n (memV m n)]) (.tmp rfl) ⟨rfl, rfl⟩

theorem inside_ok (pm g n cap : Nat) (m : Nat → Int) (off k : Int) (hn : n ≤ 134217728) :
  FnOk Try.prog 85 #[.pointer (some ⟨pm, 0, none⟩), .int .i64 off, .int .i64 k] [pt pm (.cells #[.slice (some ⟨g, 0, none⟩) n cap] 116 (0, 0)), ownS 5 1 (.slice (some ⟨g, 0, none⟩) n cap) n (memV m n)] (fun v L => v = .bool (decide (0 ≤ off ∧ 0 ≤ k ∧ off + k ≤ (n : Int))) ∧ L = [pt pm (.cells #[.slice (some ⟨g, 0, none⟩) n cap] 116 (0, 0)), ownS 5 1 (.slice (some ⟨g, 0, none⟩) n cap) n (memV m n)]) := by
 refine fn_intro en85 Try.func85 rfl rfl rfl fun Fr w0 => t_nm ?_
 refine sr<|asg O O<|lz<|mv O O<|l_q O (qi O O (b_geq ·))<|mv O O<|l_pt (t := 9) rfl (fun h => ?_) fun h => ?_
 ·refine l_on O O<|mv O O<|l_on O O<|l_q O (qi O O (b_geq ·))<|l_q O (q_pk O O)<|mv O O<|l_pt (t := 13) rfl (fun h2 => ?_) fun h2 => ?_
  ·refine l_on O O<|mv O O<|l_on O O<|mv O O<|l_on O O<|l_q O (q_nilCheck O)<|l_on O O<|l_q O (qfa 0 O yU116 O O yS63)<|l_on O O<|l_q O (qld O yA63) ?_
   refine l_on O O<|l_q O (ql O yU63)<|l_on O O<|l_q O (qi O O (b_leq ·))<|l_q O (q_pk O O)<|mv O O<|l_pt (t := 22) rfl (fun h3 => ?_) fun h3 => ?_
   ·refine l_on O O<|mv O O<|l_on O O<|mv O O<|l_on O O<|l_q O (q_nilCheck O)<|l_on O O<|l_q O (qfa 0 O yU116 O O yS63)<|l_on O O<|l_q O (qld O yA63) ?_
    refine l_on O O<|l_q O (ql O yU63)<|l_on O O<|mv O O<|l_on O O<|l_q O (qsub O O) ?_
    refine l_on O O<|l_q O (qi O O (b_leq ·))<|l_q O (q_pk O O)<|asg O O<|lc<|rt<|fr1 O ([pt pm (.cells #[.slice (some ⟨g, 0, none⟩) n cap] 116 (0, 0)), ownS 5 1 (.slice (some ⟨g, 0, none⟩) n cap) n (memV m n)]) (.tmp rfl) ?_
    exact ⟨by congr 1; rw [decide_eq_decide]; omega, rfl⟩
   ·refine l_off O O O O<|l_off O O O O<|l_off O O O O<|l_off O O O O<|l_off O O O O<|l_off O O O O<|l_off O O O O<|l_off O O O O<|l_off O O O O<|l_q O (q_pk O O)<|asg O O<|lc<|rt<|fr1 O ([pt pm (.cells #[.slice (some ⟨g, 0, none⟩) n cap] 116 (0, 0)), ownS 5 1 (.slice (some ⟨g, 0, none⟩) n cap) n (memV m n)]) (.tmp rfl) ?_
    exact ⟨by rw [decide_eq_false (by omega)], rfl⟩
  ·refine l_off O O O O<|l_off O O O O<|l_off O O O O<|l_off O O O O<|l_off O O O O<|l_off O O O O<|l_off O O O O<|l_q O (q_pk O O)<|mv O O<|l_off O O O O<|l_off O O O O<|l_off O O O O<|l_off O O O O<|l_off O O O O<|l_off O O O O<|l_off O O O O<|l_off O O O O<|l_off O O O O<|l_q O (q_pk O O)<|asg O O<|lc<|rt<|fr1 O ([pt pm (.cells #[.slice (some ⟨g, 0, none⟩) n cap] 116 (0, 0)), ownS 5 1 (.slice (some ⟨g, 0, none⟩) n cap) n (memV m n)]) (.tmp rfl) ?_
   exact ⟨by rw [decide_eq_false (by omega)], rfl⟩
 ·refine l_off O O O O<|l_off O O O O<|l_q O (q_pk O O)<|mv O O<|l_off O O O O<|l_off O O O O<|l_off O O O O<|l_off O O O O<|l_off O O O O<|l_off O O O O<|l_off O O O O<|l_q O (q_pk O O)<|mv O O<|l_off O O O O<|l_off O O O O<|l_off O O O O<|l_off O O O O<|l_off O O O O<|l_off O O O O<|l_off O O O O<|l_off O O O O<|l_off O O O O<|l_q O (q_pk O O)<|asg O O<|lc<|rt<|fr1 O ([pt pm (.cells #[.slice (some ⟨g, 0, none⟩) n cap] 116 (0, 0)), ownS 5 1 (.slice (some ⟨g, 0, none⟩) n cap) n (memV m n)]) (.tmp rfl) ?_
  exact ⟨by rw [decide_eq_false (by omega)], rfl⟩

/-- The widths. -/
def wid (k : Nat) : Prop := k = 1 ∨ k = 2 ∨ k = 4 ∨ k = 8
theorem number_ok (pm g n cap off k : Nat) (m : Nat → Int) (hn : n ≤ 134217728) (hc : n ≤ cap) (hk : wid k) (ho : off + k ≤ n) :
  FnOk Try.prog 73 #[.pointer (some ⟨pm, 0, none⟩), .int .i64 off, .int .i64 k] [pt pm (.cells #[.slice (some ⟨g, 0, none⟩) n cap] 116 (0, 0)), ownS 5 1 (.slice (some ⟨g, 0, none⟩) n cap) n (memV m n)] (fun v L => v = .tuple #[.slice (some ⟨g, off, none⟩) k (cap - off), .int .i64 0] ∧ L = [pt pm (.cells #[.slice (some ⟨g, 0, none⟩) n cap] 116 (0, 0)), ownS 5 1 (.slice (some ⟨g, 0, none⟩) n cap) n (memV m n)]) := by
 have hk8 : 1 ≤ k ∧ k ≤ 8 := by unfold wid at hk; omega
 have ht : off < cap := by omega
 refine fn_intro en73 Try.func73 rfl rfl rfl fun Fr w0 => t_nm ?_
 refine sr<|asg O O<|asg O O<|lc<|t_seq<|sr<|mv O O<|lc<|t_block<|t_seq<|sr<|l_q O (qi O O (b_eql ·))<|asg O O<|lc<|t_pt (t := 9) rfl (fun h1 => ?_) fun h1 => ?_
 ·refine t_cond_t O<|t_skip<|n_code<|t_cond_t O<|t_skip<|n_blk<|n_code<|t_seq<|sr<|mv O O<|mv O O<|mv O O<|lc1 O O O (inside_ok pm g n cap m _ _ hn) ?_
  refine l_q O (q_un O (u_not ·))<|lc<|t_if O (fun z => ?_) fun z => ?_
  ·simp at z; omega
  ·refine t_skip<|nz<|mv O O<|l_q O (q_nilCheck O)<|l_q O (qfa 0 O yU116 O O yS63)<|l_q O (qld O yA63) ?_
   refine mv O O<|mv O O<|mv O O<|l_q O (qadd O O) ?_
   refine l_q O (q_slice_lh O O O yU63 yS5 (by omega)) ?_
   refine asg O O<|asg O O<|lc<|rt<|fr2 O ([pt pm (.cells #[.slice (some ⟨g, 0, none⟩) n cap] 116 (0, 0)), ownS 5 1 (.slice (some ⟨g, 0, none⟩) n cap) n (memV m n)]) (.tmp rfl) (.tmp rfl) ?_
   exact ⟨by rw [Int.toNat_natCast, tailAt_lt ht, Nat.zero_add, show ((off : Int) + (k : Int)).toNat - off = k by omega], rfl⟩
 ·refine t_cond_f O<|sr<|l_q O (qi O O (b_eql ·))<|asg O O<|lc<|t_pt (t := 9) rfl (fun h2 => ?_) fun h2 => ?_
  ·refine t_cond_t O<|t_skip<|n_code<|t_cond_t O<|t_skip<|n_blk<|n_code<|t_seq<|sr<|mv O O<|mv O O<|mv O O<|lc1 O O O (inside_ok pm g n cap m _ _ hn) ?_
   refine l_q O (q_un O (u_not ·))<|lc<|t_if O (fun z => ?_) fun z => ?_
   ·simp at z; omega
   ·refine t_skip<|nz<|mv O O<|l_q O (q_nilCheck O)<|l_q O (qfa 0 O yU116 O O yS63)<|l_q O (qld O yA63) ?_
    refine mv O O<|mv O O<|mv O O<|l_q O (qadd O O) ?_
    refine l_q O (q_slice_lh O O O yU63 yS5 (by omega)) ?_
    refine asg O O<|asg O O<|lc<|rt<|fr2 O ([pt pm (.cells #[.slice (some ⟨g, 0, none⟩) n cap] 116 (0, 0)), ownS 5 1 (.slice (some ⟨g, 0, none⟩) n cap) n (memV m n)]) (.tmp rfl) (.tmp rfl) ?_
    exact ⟨by rw [Int.toNat_natCast, tailAt_lt ht, Nat.zero_add, show ((off : Int) + (k : Int)).toNat - off = k by omega], rfl⟩
  ·refine t_cond_f O<|sr<|l_q O (qi O O (b_eql ·))<|asg O O<|lc<|t_pt (t := 9) rfl (fun h4 => ?_) fun h4 => ?_
   ·refine t_cond_t O<|t_skip<|n_code<|t_cond_t O<|t_skip<|n_blk<|n_code<|t_seq<|sr<|mv O O<|mv O O<|mv O O<|lc1 O O O (inside_ok pm g n cap m _ _ hn) ?_
    refine l_q O (q_un O (u_not ·))<|lc<|t_if O (fun z => ?_) fun z => ?_
    ·simp at z; omega
    ·refine t_skip<|nz<|mv O O<|l_q O (q_nilCheck O)<|l_q O (qfa 0 O yU116 O O yS63)<|l_q O (qld O yA63) ?_
     refine mv O O<|mv O O<|mv O O<|l_q O (qadd O O) ?_
     refine l_q O (q_slice_lh O O O yU63 yS5 (by omega)) ?_
     refine asg O O<|asg O O<|lc<|rt<|fr2 O ([pt pm (.cells #[.slice (some ⟨g, 0, none⟩) n cap] 116 (0, 0)), ownS 5 1 (.slice (some ⟨g, 0, none⟩) n cap) n (memV m n)]) (.tmp rfl) (.tmp rfl) ?_
     exact ⟨by rw [Int.toNat_natCast, tailAt_lt ht, Nat.zero_add, show ((off : Int) + (k : Int)).toNat - off = k by omega], rfl⟩
   ·refine t_cond_f O<|t_region<|l_q O (qi O O (b_eql ·))<|asg O O<|lc<|t_pt (t := 9) rfl (fun h8 => ?_) fun h8 => ?_
    ·refine t_cond_t O<|t_skip<|n_blk<|n_code<|t_seq<|sr<|mv O O<|mv O O<|mv O O<|lc1 O O O (inside_ok pm g n cap m _ _ hn) ?_
     refine l_q O (q_un O (u_not ·))<|lc<|t_if O (fun z => ?_) fun z => ?_
     ·simp at z; omega
     ·refine t_skip<|nz<|mv O O<|l_q O (q_nilCheck O)<|l_q O (qfa 0 O yU116 O O yS63)<|l_q O (qld O yA63) ?_
      refine mv O O<|mv O O<|mv O O<|l_q O (qadd O O) ?_
      refine l_q O (q_slice_lh O O O yU63 yS5 (by omega)) ?_
      refine asg O O<|asg O O<|lc<|rt<|fr2 O ([pt pm (.cells #[.slice (some ⟨g, 0, none⟩) n cap] 116 (0, 0)), ownS 5 1 (.slice (some ⟨g, 0, none⟩) n cap) n (memV m n)]) (.tmp rfl) (.tmp rfl) ?_
      exact ⟨by rw [Int.toNat_natCast, tailAt_lt ht, Nat.zero_add, show ((off : Int) + (k : Int)).toNat - off = k by omega], rfl⟩
    ·unfold wid at hk; omega

/-- The number in k bytes, the lowest first. -/
def loadN (m : Nat → Int) (o : Nat) : Nat → Int
 | 0 => 0
 | k + 1 => loadN m o k + m (o + k) * 2 ^ (8 * k)
theorem loadN_lt {m : Nat → Int} (hm : ∀ i, 0 ≤ m i ∧ m i < 256) (o : Nat) : ∀ k, 0 ≤ loadN m o k ∧ loadN m o k < 2 ^ (8 * k)
 | 0 => by simp [loadN]
 | k + 1 => by
  have ih := loadN_lt hm o k
  have hb := hm (o + k)
  have hp : (0 : Int) < 2 ^ (8 * k) := Int.pow_pos (by decide)
  have e : (2 : Int) ^ (8 * (k + 1)) = 256 * 2 ^ (8 * k) := by rw [show 8 * (k + 1) = 8 * k + 8 by omega, Int.pow_add, Int.mul_comm]; rfl
  have h1 : 0 ≤ m (o + k) * 2 ^ (8 * k) := Int.mul_nonneg hb.1 (by omega)
  have h2 : m (o + k) * 2 ^ (8 * k) ≤ 255 * 2 ^ (8 * k) := Int.mul_le_mul_of_nonneg_right (by omega) (by omega)
  simp only [loadN]
  rw [e]
  omega
theorem load_step {m : Nat → Int} (hm : ∀ i, 0 ≤ m i ∧ m i < 256) (o j : Nat) (hj : j < 8) :
  bits .or .u64 (loadN m o j) (IntKind.u64.wrap (m (o + j) * 2 ^ min (8 * (j : Int)).toNat IntKind.u64.bits)) = loadN m o (j + 1) := by
 have hl := loadN_lt hm o j
 have hb := hm (o + j)
 have hmin : min (8 * (j : Int)).toNat IntKind.u64.bits = 8 * j := by
  show min _ 64 = _
  omega
 have hp : (2 : Int) ^ (8 * j) ≤ 2 ^ 56 := by
  have h1 : (2 : Nat) ^ (8 * j) ≤ 2 ^ 56 := Nat.pow_le_pow_right (by decide) (by omega)
  have := pow_cast (8 * j)
  have h2 : ((2 : Nat) ^ (8 * j) : Int) ≤ ((2 ^ 56 : Nat) : Int) := by exact_mod_cast h1
  simpa using h2
 have hp0 : (0 : Int) < 2 ^ (8 * j) := Int.pow_pos (by decide)
 have h1 : 0 ≤ m (o + j) * 2 ^ (8 * j) := Int.mul_nonneg hb.1 (by omega)
 have h2 : m (o + j) * 2 ^ (8 * j) ≤ 255 * 2 ^ (8 * j) := Int.mul_le_mul_of_nonneg_right (by omega) (by omega)
 rw [hmin, wrap_u64 (by omega), u64_or _ _ hl.1 (by omega) h1 (by omega)]
 obtain ⟨c, hc⟩ := Int.eq_ofNat_of_zero_le hb.1
 obtain ⟨d, hd⟩ := Int.eq_ofNat_of_zero_le hl.1
 have hpc := pow_cast (8 * j)
 have hy : d < 2 ^ (8 * j) := by have := hl.2; rw [hd, ← hpc] at this; exact_mod_cast this
 have hx : (m (o + j) * 2 ^ (8 * j)).toNat = c * 2 ^ (8 * j) := by
  rw [hc, ← hpc]
  have : ((c : Int) * ((2 ^ (8 * j) : Nat) : Int)) = ((c * 2 ^ (8 * j) : Nat) : Int) := by simp
  rw [this, Int.toNat_natCast]
 rw [hx, hd, Int.toNat_natCast, Nat.or_comm, nat_join (8 * j) _ _ (Nat.mul_mod_left _ _) hy]
 simp only [loadN, hd, hc]
 rw [← hpc]
 simp only [Int.natCast_add, Int.natCast_mul]
 omega

theorem Load_ok (pm g n cap off k : Nat) (m : Nat → Int) (hm : ∀ i, 0 ≤ m i ∧ m i < 256) (hn : n ≤ 134217728) (hc : n ≤ cap) (hk : wid k) (ho : off + k ≤ n) :
  FnOk Try.prog 53 #[.pointer (some ⟨pm, 0, none⟩), .int .i64 off, .int .i64 k] [pt pm (.cells #[.slice (some ⟨g, 0, none⟩) n cap] 116 (0, 0)), ownS 5 1 (.slice (some ⟨g, 0, none⟩) n cap) n (memV m n)] (fun v L => v = .tuple #[.int .u64 (loadN m off k), .int .i64 0] ∧ L = [pt pm (.cells #[.slice (some ⟨g, 0, none⟩) n cap] 116 (0, 0)), ownS 5 1 (.slice (some ⟨g, 0, none⟩) n cap) n (memV m n)]) := by
 have hk8 : 1 ≤ k ∧ k ≤ 8 := by unfold wid at hk; omega
 refine fn_intro en53 Try.func53 rfl rfl rfl fun Fr w0 => t_nm ?_
 refine sr<|asg O O<|asg O O<|lz<|mv O O<|mv O O<|mv O O<|lc1 O O O (number_ok pm g n cap off k m hn hc hk ho) ?_
 refine mv O O<|l_q O (q_extractL O ga) ?_
 refine l_q O (q_extractL O ga) ?_
 refine asg O O<|asg O O<|lc<|t_seq<|sr<|mv O O<|l_q O (qi O O (b_neq ·))<|lc<|t_if O (fun z => ?_) fun z => ?_
 ·exact absurd rfl z
 ·refine t_skip<|nz<|asg O O<|lc<|t_seq<|sr<|mv O O<|l_q O (ql O yU63)<|mv O O<|lc<|t_block ?_
  refine t_loop (fun j : Nat => j ≤ k) (fun j => [(23, .slice (some ⟨g, off, none⟩) k (cap - off)), (24, .int .i64 k), (25, .int .i64 j), (10, .int .u64 (loadN m off j))]) (fun _ => pt pm (.cells #[.slice (some ⟨g, 0, none⟩) n cap] 116 (0, 0)) :: ownS 5 1 (.slice (some ⟨g, 0, none⟩) n cap) n (memV m n) :: Fr) (fun j => k - j) 0 (by omega) ⟨rfl, rfl, rfl, rfl, trivial⟩ (Ent.refl _) ?_
  intro j hj
  have hmj := hm (off + j)
  refine sr<|l_q O (qi O O (b_lss ·))<|lc<|t_seq<|t_if O (fun h => ?_) fun h => ?_
  ·refine t_skip<|n_code<|t_seq<|t_block<|sr<|mv O O<|l_q O (q_indexAddr1 O O yU63 yS5 (by omega)) ?_
   apply l_q O
   ·apply q_loadOwn O yA5
    ·exact tk
    ·rw [Int.toNat_natCast, memV_at (by omega)]
   refine asg O O<|asg O O<|lr<|mv O O<|mv O O<|l_q O (qcv O yU5 yU91) ?_
   refine mv O O<|l_q O (qmul O O) ?_
   apply l_q O
   ·apply qi O O; exact fun w => b_shl w (by omega)
   refine l_q O (qbit O O O)<|asg O O<|l_nil<|n_blk<|n_code<|t_region<|l_q O (qadd O O) ?_
   refine mv O O<|l_nil ?_
   rw [load_step hm off j (by omega)]
   apply n_again ((j + 1))
   ·exact (show j + 1 ≤ k by omega)
   ·omega
   ·exact ⟨O, O, O, O, trivial⟩
   ·exact en
  ·refine xt O<|nz<|mv O O<|asg O O<|asg O O<|lc<|rt ?_
   obtain rfl : j = k := by omega
   exact fr2 O ([pt pm (.cells #[.slice (some ⟨g, 0, none⟩) n cap] 116 (0, 0)), ownS 5 1 (.slice (some ⟨g, 0, none⟩) n cap) n (memV m n)]) (.tmp rfl) (.tmp rfl) ⟨rfl, rfl⟩

/-- A number's byte. -/
def byteN (v : Int) (i : Nat) : Int := v / 2 ^ (8 * i) % 256
theorem lay_zero (m f : Nat → Int) (o : Nat) : layM m o 0 f = m := by funext i; unfold layM; rw [if_neg (by omega)]
theorem lay_next {m f : Nat → Int} {n o j : Nat} {b : Int} (h : o + j < n) (hb : b = f j) : (memV (layM m o j f) n).set (o + j) (.int .u8 b) = memV (layM m o (j + 1) f) n := by
 rw [set_memV h]
 congr 1
 funext i
 simp only [layM]
 by_cases q : i = o + j
 ·subst q; rw [if_pos rfl, if_pos (by omega), hb]; congr 1; omega
 ·rw [if_neg q]
  by_cases q2 : o ≤ i ∧ i < o + j
  ·rw [if_pos q2, if_pos (by omega)]
  ·rw [if_neg q2, if_neg (by omega)]
theorem shr_byte (v : Int) (j : Nat) (hv : 0 ≤ v) (hj : j < 8) : IntKind.u8.wrap (v.fdiv (2 ^ min (8 * (j : Int)).toNat IntKind.u64.bits)) = byteN v j := by
 have hmin : min (8 * (j : Int)).toNat IntKind.u64.bits = 8 * j := by
  show min _ 64 = _
  omega
 have hp : (0 : Int) < 2 ^ (8 * j) := Int.pow_pos (by decide)
 rw [hmin, IntKind.wrap_u8', Int.fdiv_eq_ediv_of_nonneg _ (by omega)]
 rfl

theorem Store_ok (pm g n cap off k : Nat) (m : Nat → Int) (v : Int) (hv : 0 ≤ v ∧ v < 18446744073709551616) (hn : n ≤ 134217728) (hc : n ≤ cap) (hk : wid k) (ho : off + k ≤ n) :
  FnOk Try.prog 69 #[.pointer (some ⟨pm, 0, none⟩), .int .i64 off, .int .i64 k, .int .u64 v] [pt pm (.cells #[.slice (some ⟨g, 0, none⟩) n cap] 116 (0, 0)), ownS 5 1 (.slice (some ⟨g, 0, none⟩) n cap) n (memV m n)] (fun r L => r = .int .i64 0 ∧ L = [pt pm (.cells #[.slice (some ⟨g, 0, none⟩) n cap] 116 (0, 0)), ownS 5 1 (.slice (some ⟨g, 0, none⟩) n cap) n (memV (layM m off k (byteN v)) n)]) := by
 have hk8 : 1 ≤ k ∧ k ≤ 8 := by unfold wid at hk; omega
 refine fn_intro en69 Try.func69 rfl rfl rfl fun Fr w0 => t_nm ?_
 refine sr<|asg O O<|lz<|mv O O<|mv O O<|mv O O<|lc1 O O O (number_ok pm g n cap off k m hn hc hk ho) ?_
 refine mv O O<|l_q O (q_extractL O ga) ?_
 refine l_q O (q_extractL O ga) ?_
 refine asg O O<|asg O O<|lc<|t_seq<|sr<|mv O O<|l_q O (qi O O (b_neq ·))<|lc<|t_if O (fun z => ?_) fun z => ?_
 ·exact absurd rfl z
 ·refine t_skip<|n_code<|t_seq<|sr<|mv O O<|l_q O (ql O yU63)<|mv O O<|lc<|t_block ?_
  refine t_loop (fun j : Nat => j ≤ k) (fun j => [(3, .int .u64 v), (9, .slice (some ⟨g, off, none⟩) k (cap - off)), (23, .int .i64 k), (24, .int .i64 j)]) (fun j => pt pm (.cells #[.slice (some ⟨g, 0, none⟩) n cap] 116 (0, 0)) :: ownS 5 1 (.slice (some ⟨g, 0, none⟩) n cap) n (memV (layM m off j (byteN v)) n) :: Fr) (fun j => k - j) 0 (by omega) ⟨rfl, rfl, rfl, rfl, trivial⟩ (by rw [lay_zero]; exact Ent.refl _) ?_
  intro j hj
  refine sr<|l_q O (qi O O (b_lss ·))<|lc<|t_seq<|t_if O (fun h => ?_) fun h => ?_
  ·refine t_skip<|n_code<|t_seq<|t_block<|sr<|mv O O<|asg O O<|lr<|mv O O<|mv O O<|mv O O<|mv O O<|l_q O (qmul O O) ?_
   apply l_q O
   ·apply qi O O; exact fun w => b_shr w (by omega)
   refine l_q O (qcv O yU91 yU5) ?_
   refine l_q O (q_indexAddr1 O O yU63 yS5 (by omega)) ?_
   apply o_storeOwn O O O yS5 O
   ·exact tk
   ·rw [Int.toNat_natCast]; omega
   ·refine Eq.trans ?_ (lay_next (m := m) (f := byteN v) (n := n) (o := off) (j := j) (by omega) (shr_byte v j hv.1 (by omega))); rw [Int.toNat_natCast]
   refine l_nil<|n_blk<|n_code<|t_region<|l_q O (qadd O O) ?_
   refine mv O O<|l_nil ?_
   apply n_again ((j + 1))
   ·exact (show j + 1 ≤ k by omega)
   ·omega
   ·exact ⟨O, O, O, O, trivial⟩
   ·exact en
  ·refine xt O<|nz<|asg O O<|lc<|rt ?_
   obtain rfl : j = k := by omega
   exact fr1 O ([pt pm (.cells #[.slice (some ⟨g, 0, none⟩) n cap] 116 (0, 0)), ownS 5 1 (.slice (some ⟨g, 0, none⟩) n cap) n (memV (layM m off j (byteN v)) n)]) (.tmp rfl) ⟨rfl, rfl⟩

theorem lay_nil (xs : List Value) (o : Nat) : lay xs o [] = xs := by simp [lay]
theorem rep_memV (k : Nat) (b : Int) : List.replicate k (.int .u8 b) = memV (fun _ => b) k := by
 apply List.ext_getElem <;> simp [memV]
theorem lay_tail {m f : Nat → Int} {n o k cap : Nat} (h : o + k ≤ n) (hc : n ≤ cap) : lay (memV m n) (tailAt 0 o cap) (memV f k) = memV (layM m o k f) n := by
 by_cases q : o < cap
 ·rw [tailAt_lt q, Nat.zero_add]; exact lay_memV h
 ·have : k = 0 := by omega
  subst this
  rw [lay_zero]
  exact lay_nil _ _
theorem tail_le {o k n cap : Nat} (h : o + k ≤ n) (hc : n ≤ cap) : tailAt 0 o cap + k ≤ n := by unfold tailAt; split <;> omega

theorem Fill_ok (pm g n cap off k : Nat) (m : Nat → Int) (b : Int) (hb : 0 ≤ b ∧ b < 256) (hn : n ≤ 134217728) (hc : n ≤ cap) (ho : off + k ≤ n) :
  FnOk Try.prog 88 #[.pointer (some ⟨pm, 0, none⟩), .int .i64 off, .int .i64 k, .int .u8 b] [pt pm (.cells #[.slice (some ⟨g, 0, none⟩) n cap] 116 (0, 0)), ownS 5 1 (.slice (some ⟨g, 0, none⟩) n cap) n (memV m n)] (fun r L => r = .int .i64 0 ∧ L = [pt pm (.cells #[.slice (some ⟨g, 0, none⟩) n cap] 116 (0, 0)), ownS 5 1 (.slice (some ⟨g, 0, none⟩) n cap) n (memV (layM m off k (fun _ => b)) n)]) := by
 refine fn_intro en88 Try.func88 rfl rfl rfl fun Fr w0 => t_nm ?_
 refine sr<|asg O O<|lc<|t_seq<|sr<|mv O O<|mv O O<|mv O O<|lc1 O O O (inside_ok pm g n cap m _ _ hn) ?_
 refine l_q O (q_un O (u_not ·))<|lc<|t_if O (fun z => ?_) fun z => ?_
 ·simp at z; omega
 ·refine t_skip<|nz<|mv O O<|l_q O (q_nilCheck O)<|l_q O (qfa 0 O yU116 O O yS63)<|l_q O (qld O yA63) ?_
  refine mv O O<|mv O O<|mv O O<|l_q O (qadd O O) ?_
  refine l_q O (q_slice_lh O O O yU63 yS5 (by omega)) ?_
  refine asg O O<|lc<|t_seq<|sr<|mv O O<|l_q O (qi O O (b_eql ·))<|lc<|t_if O (fun y => ?_) fun y => ?_
  ·refine sr<|mv O O ?_
   apply o_clear O O Try.underlying63 yZ5 O
   ·exact tk
   ·rw [Int.toNat_natCast, show ((off : Int) + (k : Int)).toNat - off = k by omega]; exact tail_le ho hc
   refine lz<|asg O O<|lc<|rt ?_
   subst y
   rw [Int.toNat_natCast, show ((off : Int) + (k : Int)).toNat - off = k by omega, rep_memV, lay_tail ho hc]
   exact fr1 O ([pt pm (.cells #[.slice (some ⟨g, 0, none⟩) n cap] 116 (0, 0)), ownS 5 1 (.slice (some ⟨g, 0, none⟩) n cap) n (memV (layM m off k (fun _ => 0)) n)]) (.tmp rfl) ⟨rfl, rfl⟩
  ·refine t_skip<|n_code<|t_seq<|sr<|mv O O<|l_q O (ql O yU63)<|mv O O<|lc<|t_block ?_
   rw [Int.toNat_natCast, show ((off : Int) + (k : Int)).toNat - off = k by omega]
   refine t_loop (fun j : Nat => j ≤ k) (fun j => [(3, .int .u8 b), (9, .slice (some ⟨g, tailAt 0 off cap, none⟩) k (cap - off)), (29, .int .i64 k), (30, .int .i64 j)]) (fun j => pt pm (.cells #[.slice (some ⟨g, 0, none⟩) n cap] 116 (0, 0)) :: ownS 5 1 (.slice (some ⟨g, 0, none⟩) n cap) n (memV (layM m off j (fun _ => b)) n) :: Fr) (fun j => k - j) 0 (by omega) ⟨rfl, rfl, rfl, rfl, trivial⟩ (by rw [lay_zero]; exact Ent.refl _) ?_
   intro j hj
   refine sr<|l_q O (qi O O (b_lss ·))<|lc<|t_seq<|t_if O (fun h => ?_) fun h => ?_
   ·have hlt : off < cap := by omega
    refine t_skip<|n_code<|t_seq<|t_block<|sr<|mv O O<|asg O O<|lr<|mv O O<|mv O O<|mv O O<|l_q O (q_indexAddr1 O O yU63 yS5 (by omega)) ?_
    apply o_storeOwn O O O yS5 O
    ·exact tk
    ·simp only [Int.toNat_natCast, tailAt_lt hlt, Nat.zero_add]; omega
    ·refine Eq.trans ?_ (lay_next (m := m) (f := fun _ => b) (n := n) (o := off) (j := j) (b := b) (by omega) rfl); simp only [Int.toNat_natCast, tailAt_lt hlt, Nat.zero_add]
    refine l_nil<|n_blk<|n_code<|t_region<|l_q O (qadd O O) ?_
    refine mv O O<|l_nil ?_
    apply n_again ((j + 1))
    ·exact (show j + 1 ≤ k by omega)
    ·omega
    ·exact ⟨O, O, O, O, trivial⟩
    ·exact en
   ·refine xt O<|nz<|asg O O<|lc<|rt ?_
    obtain rfl : j = k := by omega
    exact fr1 O ([pt pm (.cells #[.slice (some ⟨g, 0, none⟩) n cap] 116 (0, 0)), ownS 5 1 (.slice (some ⟨g, 0, none⟩) n cap) n (memV (layM m off j (fun _ => b)) n)]) (.tmp rfl) ⟨rfl, rfl⟩

/-- k bytes from o on, as a string. -/
def strM (m : Nat → Int) (o k : Nat) : ByteArray := ⟨((List.range k).map fun i => UInt8.ofNat (m (o + i)).toNat).toArray⟩
theorem lay_full {xs ys : List Value} (h : xs.length = ys.length) : lay xs 0 ys = ys := by simp [lay, ← h]
theorem sub_memV {m : Nat → Int} {n o k : Nat} (h : o + k ≤ n) : ((memV m n).drop o).take k = memV (fun i => m (o + i)) k := by
 apply List.ext_getElem?
 intro i
 rw [List.getElem?_take]
 by_cases hi : i < k
 ·rw [if_pos hi, List.getElem?_drop, memV_at (by omega), memV_at hi]
 ·rw [if_neg hi, List.getElem?_eq_none (by rw [memV_len]; omega)]
theorem reads_mem {L M : List HP} {e : TypeId} {g n cap o k : Nat} {m : Nat → Int} (h : o + k ≤ n) (hc : n ≤ cap) (ht : Take (ownS e 1 (.slice (some ⟨g, 0, none⟩) n cap) n (memV m n)) L M) : Reads L ⟨g, tailAt 0 o cap, none⟩ (memV (fun i => m (o + i)) k) := by
 by_cases q : o < cap
 ·rw [tailAt_lt q, Nat.zero_add, ← sub_memV h]; exact reads_own ht
 ·have : k = 0 := by omega
  subst this
  intro w _ j v hv
  simp [memV] at hv
theorem Read_ok (pm g n cap off k : Nat) (m : Nat → Int) (hn : n ≤ 134217728) (hc : n ≤ cap) (ho : off + k ≤ n) :
  FnOk Try.prog 63 #[.pointer (some ⟨pm, 0, none⟩), .int .i64 off, .int .i64 k] [pt pm (.cells #[.slice (some ⟨g, 0, none⟩) n cap] 116 (0, 0)), ownS 5 1 (.slice (some ⟨g, 0, none⟩) n cap) n (memV m n)]
   (fun r L => ∃ g2, r = .tuple #[.slice (some ⟨g2, 0, none⟩) k k, .int .i64 0] ∧ L = [ownS 5 1 (.slice (some ⟨g2, 0, none⟩) k k) k (memV (fun i => m (off + i)) k), pt pm (.cells #[.slice (some ⟨g, 0, none⟩) n cap] 116 (0, 0)), ownS 5 1 (.slice (some ⟨g, 0, none⟩) n cap) n (memV m n)]) := by
 refine fn_intro en63 Try.func63 rfl rfl rfl fun Fr w0 => t_nm ?_
 refine sr<|asg O O<|asg O O<|lc<|t_seq<|sr<|mv O O<|mv O O<|mv O O<|lc1 O O O (inside_ok pm g n cap m _ _ hn) ?_
 refine l_q O (q_un O (u_not ·))<|lc<|t_if O (fun z => ?_) fun z => ?_
 ·simp at z; omega
 ·refine t_skip<|nz<|mv O O ?_
  apply o_makeSlice1 O O O yU63 yI5 O (by omega) (by omega)
  intro b15
  refine asg O O<|lz<|mv O O<|mv O O<|l_q O (q_nilCheck O)<|l_q O (qfa 0 O yU116 O O yS63)<|l_q O (qld O yA63) ?_
  refine mv O O<|l_q O (q_slice_l O O  yU63 yS5 (by omega)) ?_
  apply o_copy (memV (fun i => m (off + i)) k) rfl rfl rfl Try.underlying63 (by obtain ⟨i, h1, _, h2, _⟩ := yI5; exact ⟨i, h1, h2⟩)
  ·exact tk
  ·rw [memV_len, Int.toNat_natCast, Int.toNat_natCast]; exact (Nat.min_eq_right (by omega)).symm
  ·rw [Int.toNat_natCast]; apply reads_mem ho hc; exact tk
  ·rw [memV_len, Int.toNat_natCast]; omega
  ·exact memV_one _ _
  refine lz<|mv O O<|asg O O<|asg O O<|lc<|rt ?_
  rw [Int.toNat_natCast, lay_full (by simp [memV_len])]
  exact fr2 O ([ownS 5 1 (.slice (some ⟨b15, 0, none⟩) k k) k (memV (fun i => m (off + i)) k), pt pm (.cells #[.slice (some ⟨g, 0, none⟩) n cap] 116 (0, 0)), ownS 5 1 (.slice (some ⟨g, 0, none⟩) n cap) n (memV m n)]) (.tmp rfl) (.tmp rfl) ⟨_, rfl, rfl⟩

theorem New_ok (n : Nat) (hn : n ≤ 134217728) : FnOk Try.prog 29 #[.int .i64 n] [] (fun r L => ∃ pm g, r = .tuple #[.pointer (some ⟨pm, 0, none⟩), .int .i64 0] ∧ L = [pt pm (.cells #[.slice (some ⟨g, 0, none⟩) n n] 116 (0, 0)), ownS 5 1 (.slice (some ⟨g, 0, none⟩) n n) n (memV (fun _ => 0) n)]) := by
 refine fn_intro en29 Try.func29 rfl rfl rfl fun Fr w0 => t_nm ?_
 refine sr<|asg O O<|asg O O<|lc<|t_seq<|sr<|mv O O<|l_q O (qi O O (b_lss ·))<|mv O O<|l_pt (t := 6) rfl (fun z => ?_) fun z => ?_
 ·omega
 ·refine l_on O O<|mv O O<|l_on O O<|l_q O (qi O O (b_gtr ·))<|l_q O (q_pk O O)<|lc<|t_if O (fun z2 => ?_) fun z2 => ?_
  ·omega
  ·refine t_skip<|nz<|mv O O ?_
   apply o_makeSlice1 O O O yU63 yI5 O (by omega) (by omega)
   intro b11
   apply l_q O
   ·apply q_buildS O yP116 yZ116
    ·apply FillR.one
     ·repeat (first | exact PlAt.here | apply PlAt.there)
     ·rfl
     ·exact sa
     exact FillR.nil
   refine o_boxA O O fun b13 => asg O O<|asg O O<|lc<|rt ?_
   rw [Int.toNat_natCast, rep_memV]
   exact fr2 O ([pt b13 (.cells #[.slice (some ⟨b11, 0, none⟩) n n] 116 (0, 0)), ownS 5 1 (.slice (some ⟨b11, 0, none⟩) n n) n (memV (fun _ => 0) n)]) (.tmp rfl) (.tmp rfl) ⟨_, _, rfl, rfl⟩

/-- Behind n zeros. -/
def growM (m : Nat → Int) (n : Nat) : Nat → Int := fun i => if i < n then m i else 0
theorem lay_grow0 {m : Nat → Int} {n s : Nat} (h : n ≤ s) : lay (List.replicate s (.int .u8 0)) 0 (memV m n) = memV (growM m n) s := by
 apply List.ext_getElem?
 intro i
 rw [lay_get (by simp [memV_len]; exact h), memV_len]
 by_cases hi : i < s
 ·rw [memV_at hi]
  by_cases q : i < n
  ·rw [if_pos (by omega), Nat.sub_zero, memV_at q]; simp [growM, q]
  ·rw [if_neg (by omega)]; simp [growM, q, hi]
 ·rw [if_neg (by omega), List.getElem?_eq_none (by simp; omega), List.getElem?_eq_none (by rw [memV_len]; omega)]
theorem lay_grow1 {m : Nat → Int} {n s cap : Nat} {ys : List Value} (hy : ys.length = s - n) (h : n ≤ s) (hc : s ≤ cap) : lay (memV m n ++ ys) (tailAt 0 n cap) (List.replicate (s - n) (.int .u8 0)) = memV (growM m n) s := by
 by_cases q : n < cap
 ·rw [tailAt_lt q, Nat.zero_add]
  apply List.ext_getElem?
  intro i
  rw [lay_get (by simp [memV_len, hy])]
  by_cases hi : i < s
  ·rw [memV_at hi, List.length_replicate]
   by_cases q2 : i < n
   ·rw [if_neg (by omega), List.getElem?_append_left (by rw [memV_len]; exact q2), memV_at q2]; simp [growM, q2]
   ·rw [if_pos (by omega), List.getElem?_replicate, if_pos (by omega)]; simp [growM, q2]
  ·rw [List.length_replicate, if_neg (by omega), List.getElem?_eq_none (by simp [memV_len, hy]; omega), List.getElem?_eq_none (by rw [memV_len]; omega)]
 ·have e1 : s = n := by omega
  subst e1
  have e2 : ys = [] := List.eq_nil_of_length_eq_zero (by omega)
  subst e2
  rw [Nat.sub_self, List.replicate_zero, lay_nil, List.append_nil]
  apply List.ext_getElem?
  intro i
  by_cases hi : i < s
  ·rw [memV_at hi, memV_at hi]; simp [growM, hi]
  ·rw [List.getElem?_eq_none (by rw [memV_len]; omega), List.getElem?_eq_none (by rw [memV_len]; omega)]
theorem own_extend {e : TypeId} {g n n2 cap : Nat} {xs : List Value} {A : HP} {M : List HP} {w : World} (h : Sat (stars (A :: ownS e 1 (.slice (some ⟨g, 0, none⟩) n cap) n xs :: M)) w) (hle : n ≤ n2) (hc : n2 ≤ cap) :
  ∃ ys : { ys : List Value // ys.length = n2 - n }, Sat (stars (A :: ownS e 1 (.slice (some ⟨g, 0, none⟩) n2 cap) n2 (xs ++ ys.1) :: M)) w := by
 obtain ⟨cur, c1, c2, c3, c4, c5, hs⟩ := own_open (h.perm (.swap _ _ _))
 have hcl : cur.toList.length = cap := by rw [Array.length_toList, c1]; omega
 have key : cur.toList.take n2 = xs ++ (cur.toList.take n2).drop n := by
  rw [← c2, Nat.mul_one]
  have : cur.toList.take n = (cur.toList.take n2).take n := by rw [List.take_take]; congr 1; omega
  rw [this, List.take_append_drop]
 refine ⟨⟨(cur.toList.take n2).drop n, by simp [hcl]; omega⟩, ?_⟩
 refine (own_of_pt (n := n2) hs ?_ hc c4 c1 ?_).perm (.swap _ _ _)
 ·simp [c5, hcl]; omega
 ·rw [Nat.mul_one]; exact key

theorem reads_mem0 {L M : List HP} {e : TypeId} {g n cap : Nat} {m : Nat → Int} (ht : Take (ownS e 1 (.slice (some ⟨g, 0, none⟩) n cap) n (memV m n)) L M) : Reads L ⟨g, 0, none⟩ (memV m n) := by
 have := reads_own (o := 0) (k := n) ht
 rwa [List.drop_zero, List.take_of_length_le (by rw [memV_len]; omega)] at this

theorem Grow_ok (pm g n cap s : Nat) (m : Nat → Int) (hn : n ≤ 134217728) (hc : n ≤ cap) (hcm : cap ≤ 134217728) (h1 : n ≤ s) (h2 : s ≤ 134217728) :
  FnOk Try.prog 89 #[.pointer (some ⟨pm, 0, none⟩), .int .i64 s] [pt pm (.cells #[.slice (some ⟨g, 0, none⟩) n cap] 116 (0, 0)), ownS 5 1 (.slice (some ⟨g, 0, none⟩) n cap) n (memV m n)] (fun r L => ∃ g2 cap2, r = .int .i64 0 ∧ s ≤ cap2 ∧ cap2 ≤ 134217728 ∧ L = [pt pm (.cells #[.slice (some ⟨g2, 0, none⟩) s cap2] 116 (0, 0)), ownS 5 1 (.slice (some ⟨g2, 0, none⟩) s cap2) s (memV (growM m n) s)]) := by
 refine fn_intro en89 Try.func89 rfl rfl rfl fun Fr w0 => t_nm ?_
 refine sr<|asg O O<|lc<|t_seq<|sr<|mv O O<|mv O O<|l_q O (q_nilCheck O)<|l_q O (qfa 0 O yU116 O O yS63)<|l_q O (qld O yA63) ?_
 refine l_q O (ql O yU63)<|l_q O (qi O O (b_lss ·))<|mv O O<|l_pt (t := 14) rfl (fun z => ?_) fun z => ?_
 ·omega
 ·refine l_on O O<|mv O O<|l_on O O<|l_q O (qi O O (b_gtr ·))<|l_q O (q_pk O O)<|lc<|t_if O (fun z2 => ?_) fun z2 => ?_
  ·omega
  ·refine t_skip<|n_code<|t_seq<|sr<|mv O O<|mv O O<|l_q O (q_nilCheck O)<|l_q O (qfa 0 O yU116 O O yS63)<|l_q O (qld O yA63) ?_
   refine l_q O (q_cap O (fun w => cap_slice yU63 w))<|l_q O (qi O O (b_gtr ·))<|lc<|t_if O (fun z3 => ?_) fun z3 => ?_
   ·refine sr<|mv O O<|mv O O<|mv O O<|l_q O (q_nilCheck O)<|l_q O (qfa 0 O yU116 O O yS63)<|l_q O (qld O yA63) ?_
    refine l_q O (ql O yU63)<|l_q O (qmul O O) ?_
    refine l_q O (q_max2 O O)<|l_q O (q_min2 O O) ?_
    apply o_makeSlice1 O O O yU63 yI5 O (by omega) (by omega)
    intro b35
    refine asg O O<|lz<|mv O O<|mv O O<|l_q O (q_nilCheck O)<|l_q O (qfa 0 O yU116 O O yS63)<|l_q O (qld O yA63) ?_
    apply o_copy (memV m n) rfl rfl rfl Try.underlying63 (by obtain ⟨i, h1, _, h2, _⟩ := yI5; exact ⟨i, h1, h2⟩)
    ·exact tk
    ·rw [memV_len, Int.toNat_natCast]; exact (Nat.min_eq_left h1).symm
    ·exact reads_mem0 (by exact tk)
    ·rw [memV_len, Int.toNat_natCast]; omega
    ·exact memV_one _ _
    refine lz<|mv O O<|mv O O<|l_q O (q_nilCheck O)<|l_q O (qfa 0 O yU116 O O yS63)<|st O O O yS63 O ?_
    refine lz<|asg O O<|lc<|rt ?_
    rw [Int.toNat_natCast, lay_grow0 h1]
    obtain ⟨c2, hc2⟩ : ∃ c2 : Nat, (if (if (s : Int) < 2 * (n : Int) then 2 * (n : Int) else (s : Int)) < 134217728 then if (s : Int) < 2 * (n : Int) then 2 * (n : Int) else (s : Int) else 134217728).toNat = c2 := ⟨_, rfl⟩
    have hb : s ≤ c2 ∧ c2 ≤ 134217728 := by subst hc2; split <;> omega
    rw [hc2]
    exact fr1 O ([pt pm (.cells #[.slice (some ⟨b35, 0, none⟩) s c2] 116 (0, 0)), ownS 5 1 (.slice (some ⟨b35, 0, none⟩) s c2) s (memV (growM m n) s)]) (.tmp rfl) ⟨_, _, rfl, hb.1, hb.2, rfl⟩
   ·refine t_turn (X := { ys : List Value // ys.length = s - n }) (LL := fun ys => pt pm (.cells #[.slice (some ⟨g, 0, none⟩) n cap] 116 (0, 0)) :: ownS 5 1 (.slice (some ⟨g, 0, none⟩) s cap) s (memV m n ++ ys.1) :: Fr) (fun w hs => own_extend hs h1 (by omega)) fun ys => ?_
    refine t_skip<|nz<|mv O O<|l_q O (q_nilCheck O)<|l_q O (qfa 0 O yU116 O O yS63)<|l_q O (qld O yA63) ?_
    refine l_q O (ql O yU63)<|asg O O<|lz<|mv O O<|mv O O<|l_q O (q_nilCheck O)<|l_q O (qfa 0 O yU116 O O yS63)<|l_q O (qld O yA63) ?_
    refine mv O O<|l_q O (q_slice_h O O yU63 yS5 (by omega)) ?_
    refine l_q O (q_nilCheck O)<|l_q O (qfa 0 O yU116 O O yS63)<|st O O O yS63 O ?_
    refine lz<|mv O O<|l_q O (q_nilCheck O)<|l_q O (qfa 0 O yU116 O O yS63)<|l_q O (qld O yA63) ?_
    refine mv O O<|l_q O (q_slice_l O O  yU63 yS5 (by omega)) ?_
    apply o_clear O O Try.underlying63 yZ5 O
    ·exact tk
    ·rw [Int.toNat_natCast, Int.toNat_natCast]; exact tail_le (by omega) (by omega)
    refine lz<|asg O O<|lc<|rt ?_
    rw [Int.toNat_natCast, Int.toNat_natCast, lay_grow1 ys.2 h1 (by omega)]
    refine fr1 O ([pt pm (.cells #[.slice (some ⟨g, 0, none⟩) s cap] 116 (0, 0)), ownS 5 1 (.slice (some ⟨g, 0, none⟩) s cap) s (memV (growM m n) s)]) (.tmp rfl) ?_
    exact ⟨_, _, rfl, by omega, hcm, rfl⟩
end Go.Proofs.Ytjekhcojebgpnaa.Mem
