import Derived.Test.YtjekhcojebgpnaaTypes
import Derived.Test.YtjekhcojebgpnaaSearch
/- The contracts of package layout. -/
set_option linter.unusedVariables false
set_option linter.unusedSimpArgs false
set_option maxRecDepth 100000
namespace Go.Proofs.Ytjekhcojebgpnaa.Layout
open Go.RowKit Go.Proofs Go.Proofs.Ytjekhcojebgpnaa.Eng Go.Proofs.Ytjekhcojebgpnaa.Ty Go.Proofs.Ytjekhcojebgpnaa.Bits

def powB (n lo hi : Int) : Bool := decide (lo ≤ n) && decide (n ≤ hi) && pow2 n
theorem pow2_eq {n : Int} (h1 : 1 ≤ n) (h2 : n ≤ 1073741824) : decide (bits .and .i64 n (n - 1) = 0) = pow2 n := by
 unfold pow2
 rw [show wrap64 (n - 1) = n - 1 by unfold wrap64; omega]
 by_cases h : bits .and .i64 n (n - 1) = 0 <;> simp [h]
theorem powB_le {n lo hi : Int} (h : powB n lo hi = true) : lo ≤ n ∧ n ≤ hi := by simp only [powB, Bool.and_eq_true, decide_eq_true_eq] at h; omega

theorem power_ok (n lo hi : Int) (h1 : 1 ≤ lo) (h2 : hi ≤ 1073741824) :
  FnOk Try.prog 31 #[.int .i64 n, .int .i64 lo, .int .i64 hi] [] (fun v L => v = .bool (powB n lo hi) ∧ L = []) := by
 refine fn_intro en31 Try.func31 rfl rfl rfl fun Fr w0 => t_nm ?_
 refine sr<|asg O O<|lz<|mv O O<|mv O O<|l_q O (qi O O (b_geq ·))<|mv O O<|l_pt (t := 10) rfl (fun h => ?_) fun h => ?_
 ·refine l_on O O<|mv O O<|l_on O O<|mv O O<|l_on O O<|l_q O (qi O O (b_leq ·))<|l_q O (q_pk O O)<|mv O O<|l_pt (t := 15) rfl (fun k => ?_) fun k => ?_
  ·refine l_on O O<|mv O O<|l_on O O<|mv O O<|l_on O O<|l_q O (qsub O O) ?_
   refine l_on O O<|l_q O (qbit O O O)<|l_on O O<|l_q O (qi O O (b_eql ·))<|l_q O (q_pk O O)<|asg O O<|lc<|rt<|fr1 O ([]) (.tmp rfl) ?_
   exact ⟨by rw [pow2_eq (by omega) (by omega)]; simp [powB, h, k], rfl⟩
  ·refine l_off O O O O<|l_off O O O O<|l_off O O O O<|l_off O O O O<|l_off O O O O<|l_q O (q_pk O O)<|asg O O<|lc<|rt<|fr1 O ([]) (.tmp rfl) ?_
   exact ⟨by simp [powB, k], rfl⟩
 ·refine l_off O O O O<|l_off O O O O<|l_off O O O O<|l_q O (q_pk O O)<|mv O O<|l_off O O O O<|l_off O O O O<|l_off O O O O<|l_off O O O O<|l_off O O O O<|l_q O (q_pk O O)<|asg O O<|lc<|rt<|fr1 O ([]) (.tmp rfl) ?_
  exact ⟨by simp [powB, h], rfl⟩

def alignB (w a : Int) : Bool := powB a 1 8 && decide (w % a = 0)
theorem aligned_ok (w a : Int) (hw : 0 ≤ w) : FnOk Try.prog 30 #[.int .i64 w, .int .i64 a] [] (fun v L => v = .bool (alignB w a) ∧ L = []) := by
 refine fn_intro en30 Try.func30 rfl rfl rfl fun Fr w0 => t_nm ?_
 refine sr<|asg O O<|lz<|mv O O<|lc1 O O O (power_ok _ _ _ (by omega) (by omega)) ?_
 refine mv O O<|l_pt (t := 7) rfl (fun h => ?_) fun h => ?_
 ·have hb := powB_le h
  refine l_on O O<|mv O O<|l_on O O<|mv O O<|l_on O O<|l_q O (qrem O O) ?_
  refine l_on O O<|l_q O (qi O O (b_eql ·))<|l_q O (q_pk O O)<|asg O O<|lc<|rt<|fr1 O ([]) (.tmp rfl) ?_
  exact ⟨by simp [alignB, h], rfl⟩
 ·refine l_off O O O O<|l_off O O O O<|l_off O O O O<|l_off O O O O<|l_q O (q_pk O O)<|asg O O<|lc<|rt<|fr1 O ([]) (.tmp rfl) ?_
  exact ⟨by simp [alignB, h], rfl⟩

def raiseI (n a : Int) : Int := (n + a - 1) / a * a
theorem raise_bnd {n a : Int} (h0 : 0 ≤ n) (h1 : 1 ≤ a) : n ≤ raiseI n a ∧ raiseI n a ≤ n + a - 1 := by
 unfold raiseI
 have x1 := Int.mul_ediv_add_emod (n + a - 1) a
 have x2 := Int.emod_nonneg (n + a - 1) (by omega : a ≠ 0)
 have x3 := Int.emod_lt_of_pos (n + a - 1) (by omega : 0 < a)
 rw [Int.mul_comm] at x1
 omega
theorem raise_ok (n a : Int) (h0 : 0 ≤ n ∧ n ≤ 1000000) (h1 : 1 ≤ a ∧ a ≤ 1000) : FnOk Try.prog 32 #[.int .i64 n, .int .i64 a] [] (fun v L => v = .int .i64 (raiseI n a) ∧ L = []) := by
 have hb := raise_bnd h0.1 h1.1
 unfold raiseI at hb ⊢
 refine fn_intro en32 Try.func32 rfl rfl rfl fun Fr w0 => t_nm ?_
 refine sr<|asg O O<|lz<|mv O O<|mv O O<|l_q O (qadd O O) ?_
 refine l_q O (qsub O O) ?_
 refine mv O O<|l_q O (qquo O O) ?_
 refine mv O O<|l_q O (qmul O O) ?_
 exact asg O O<|lc<|rt<|fr1 O ([]) (.tmp rfl) ⟨rfl, rfl⟩

/-- A layout's five numbers; what follows from them. -/
structure Lay where
 key : Int
 elem : Int
 ka : Int
 ea : Int
 cap : Int
 deriving DecidableEq
namespace Lay
def eo (l : Lay) : Int := raiseI l.key l.ea
def bo (l : Lay) : Int := raiseI (l.eo + l.elem) 8
def slot (l : Lay) : Int := l.bo + 8
def group (l : Lay) : Int := 8 + 8 * l.slot
/-- The error of the descriptor; 0: none. -/
def err (l : Lay) : Int := if l.key < 1 ∨ 128 < l.key then 31 else if l.elem < 0 ∨ 128 < l.elem then 32 else if !alignB l.key l.ka || !alignB l.elem l.ea then 33 else if !powB l.cap 16 1024 then 34 else 0
/-- What Parse tells of a number. -/
def o (l : Lay) (x : Int) : Int := if l.err = 0 then x else 0
@[reducible] def cells (l : Lay) : Array Value := #[.int .i64 l.key, .int .i64 l.elem, .int .i64 l.ka, .int .i64 l.ea, .int .i64 l.cap, .int .i64 l.eo, .int .i64 l.bo, .int .i64 l.slot, .int .i64 l.group]
@[reducible] def zeros : Array Value := #[.int .i64 0, .int .i64 0, .int .i64 0, .int .i64 0, .int .i64 0, .int .i64 0, .int .i64 0, .int .i64 0, .int .i64 0]
theorem bnd {l : Lay} (h : l.err = 0) : 1 ≤ l.key ∧ l.key ≤ 128 ∧ 0 ≤ l.elem ∧ l.elem ≤ 128 ∧ 1 ≤ l.ea ∧ l.ea ≤ 8 ∧ l.key ≤ l.eo ∧ l.eo ≤ 135 ∧ l.eo + l.elem ≤ l.bo ∧ l.bo ≤ 270 ∧ l.slot = l.bo + 8 ∧ l.group = 8 + 8 * l.slot ∧ alignB l.key l.ka = true ∧ alignB l.elem l.ea = true ∧ powB l.cap 16 1024 = true := by
 unfold err at h
 split at h
 ·omega
 ·split at h
  ·omega
  ·split at h
   ·omega
   ·next h3 =>
    split at h
    ·omega
    ·next h4 =>
     simp only [Bool.or_eq_true, Bool.not_eq_true', not_or, Bool.not_eq_false] at h3 h4
     have ha : powB l.ea 1 8 = true := by have := h3.2; simp only [alignB, Bool.and_eq_true] at this; exact this.1
     have hb := powB_le ha
     have e1 := raise_bnd (n := l.key) (a := l.ea) (by omega) (by omega)
     have e2 := raise_bnd (n := l.eo + l.elem) (a := 8) (by unfold eo; omega) (by omega)
     refine ⟨by omega, by omega, by omega, by omega, by omega, by omega, e1.1, by unfold eo; omega, e2.1, ?_, rfl, rfl, h3.1, h3.2, by simpa using h4⟩
     unfold bo
     unfold eo at e2 ⊢
     omega
end Lay

theorem Lay.e31 {l : Lay} (h : l.key < 1 ∨ 128 < l.key) : l.err = 31 := by unfold Lay.err; rw [if_pos h]
theorem Lay.e32 {l : Lay} (h1 : ¬ l.key < 1) (h2 : ¬ 128 < l.key) (h : l.elem < 0 ∨ 128 < l.elem) : l.err = 32 := by unfold Lay.err; rw [if_neg (by omega), if_pos h]
theorem Lay.e33 {l : Lay} (h1 : ¬ l.key < 1) (h2 : ¬ 128 < l.key) (h3 : ¬ l.elem < 0) (h4 : ¬ 128 < l.elem) (h : alignB l.key l.ka = false ∨ alignB l.elem l.ea = false) : l.err = 33 := by
 unfold Lay.err; rw [if_neg (by omega), if_neg (by omega), if_pos (by rcases h with h | h <;> simp [h])]
theorem Lay.e34 {l : Lay} (h1 : ¬ l.key < 1) (h2 : ¬ 128 < l.key) (h3 : ¬ l.elem < 0) (h4 : ¬ 128 < l.elem) (h5 : alignB l.key l.ka = true) (h6 : alignB l.elem l.ea = true) (h : powB l.cap 16 1024 = false) : l.err = 34 := by
 unfold Lay.err; rw [if_neg (by omega), if_neg (by omega), if_neg (by simp [h5, h6]), if_pos (by simp [h])]
theorem Lay.e0 {l : Lay} (h1 : ¬ l.key < 1) (h2 : ¬ 128 < l.key) (h3 : ¬ l.elem < 0) (h4 : ¬ 128 < l.elem) (h5 : alignB l.key l.ka = true) (h6 : alignB l.elem l.ea = true) (h : powB l.cap 16 1024 = true) : l.err = 0 := by
 unfold Lay.err; rw [if_neg (by omega), if_neg (by omega), if_neg (by simp [h5, h6]), if_neg (by simp [h])]

theorem Lay.eo_ok (l : Lay) (h0 : 0 ≤ l.key ∧ l.key ≤ 1000000) (h1 : 1 ≤ l.ea ∧ l.ea ≤ 1000) : FnOk Try.prog 32 #[.int .i64 l.key, .int .i64 l.ea] [] (fun v L => v = .int .i64 l.eo ∧ L = []) := raise_ok _ _ h0 h1
theorem Lay.bo_ok (l : Lay) (h0 : 0 ≤ l.eo + l.elem ∧ l.eo + l.elem ≤ 1000000) : FnOk Try.prog 32 #[.int .i64 (l.eo + l.elem), .int .i64 8] [] (fun v L => v = .int .i64 l.bo ∧ L = []) := raise_ok _ _ h0 (by omega)

theorem Parse_ok (b : Nat) (l : Lay) : FnOk Try.prog 16 #[.slice (some ⟨b, 0, none⟩) 5 5] [pt b (.cells #[.int .i64 l.key, .int .i64 l.elem, .int .i64 l.ka, .int .i64 l.ea, .int .i64 l.cap] 3 (0, 0))]
  (fun v L => v = .tuple #[.agg #[.int .i64 (l.o l.key), .int .i64 (l.o l.elem), .int .i64 (l.o l.ka), .int .i64 (l.o l.ea), .int .i64 (l.o l.cap), .int .i64 (l.o l.eo), .int .i64 (l.o l.bo), .int .i64 (l.o l.slot), .int .i64 (l.o l.group)], .int .i64 l.err] ∧ L = [pt b (.cells #[.int .i64 l.key, .int .i64 l.elem, .int .i64 l.ka, .int .i64 l.ea, .int .i64 l.cap] 3 (0, 0))]) := by
 refine fn_intro en16 Try.func16 rfl rfl rfl fun Fr w0 => t_nm ?_
 refine sr<|o_allocA O yZ25 fun b2 => asg O O<|lc<|t_seq<|sr<|mv O O<|l_q O (ql O yU28)<|l_q O (qi O O (b_neq ·))<|lc<|t_if O (fun h => ?_) fun h => ?_
 ·exact absurd rfl h
 ·refine t_skip<|n_code<|t_seq<|t_draw mixed ?_
  apply dq 0 O
  ·exact yq (q_move O)
  apply dq 1 O
  ·apply yq
   first | exact q_indexAddrC 0 O O yU28 yS3 (by omega) | exact q_indexAddr1 O O yU28 yS3 (by omega)
  apply dq 2 O
  ·exact yq (qld O yA3)
  apply dq 3 O
  ·exact yq (q_move O)
  apply dq 4 O
  ·apply yq
   first | exact q_indexAddrC 1 O O yU28 yS3 (by omega) | exact q_indexAddr1 O O yU28 yS3 (by omega)
  apply dq 5 O
  ·exact yq (qld O yA3)
  apply dq 6 O
  ·exact yq (q_move O)
  apply dq 7 O
  ·apply yq
   first | exact q_indexAddrC 2 O O yU28 yS3 (by omega) | exact q_indexAddr1 O O yU28 yS3 (by omega)
  apply dq 8 O
  ·exact yq (qld O yA3)
  apply dq 9 O
  ·exact yq (q_move O)
  apply dq 10 O
  ·apply yq
   first | exact q_indexAddrC 3 O O yU28 yS3 (by omega) | exact q_indexAddr1 O O yU28 yS3 (by omega)
  apply dq 11 O
  ·exact yq (qld O yA3)
  apply dq 12 O
  ·exact yq (q_move O)
  apply dq 13 O
  ·apply yq
   first | exact q_indexAddrC 4 O O yU28 yS3 (by omega) | exact q_indexAddr1 O O yU28 yS3 (by omega)
  apply dq 14 O
  ·exact yq (qld O yA3)
  apply dq 15 O
  ·apply yq
   apply q_buildS O yP25 yZ25
   ·apply FillR.one
    ·repeat (first | exact PlAt.here | apply PlAt.there)
    ·rfl
    ·exact sa
    apply FillR.one
    ·repeat (first | exact PlAt.here | apply PlAt.there)
    ·rfl
    ·exact sa
    apply FillR.one
    ·repeat (first | exact PlAt.here | apply PlAt.there)
    ·rfl
    ·exact sa
    apply FillR.one
    ·repeat (first | exact PlAt.here | apply PlAt.there)
    ·rfl
    ·exact sa
    apply FillR.one
    ·repeat (first | exact PlAt.here | apply PlAt.there)
    ·rfl
    ·exact sa
    exact FillR.nil
  refine d_eff1 [] [15, 14, 13, 12, 11, 10, 9, 8, 7, 6, 5, 4, 3, 2, 1, 0] 16 [] gO trivial (by kernel_rfl) (by kernel_rfl) fun Ex => ?_
  refine o_allocA O yZ25 fun b4 => l_nil ?_
  apply n_d
  ·refine ⟨?_, ?_, ?_, ?_, ?_, ?_, ?_, ?_, ?_, ?_, ?_, ?_, ?_, ?_, ?_, ?_, trivial⟩
   ·apply ya O O
    apply yq
    apply q_buildS O yP25 yZ25
    ·apply FillR.one
     ·repeat (first | exact PlAt.here | apply PlAt.there)
     ·rfl
     ·exact sa
     apply FillR.one
     ·repeat (first | exact PlAt.here | apply PlAt.there)
     ·rfl
     ·exact sa
     apply FillR.one
     ·repeat (first | exact PlAt.here | apply PlAt.there)
     ·rfl
     ·exact sa
     apply FillR.one
     ·repeat (first | exact PlAt.here | apply PlAt.there)
     ·rfl
     ·exact sa
     apply FillR.one
     ·repeat (first | exact PlAt.here | apply PlAt.there)
     ·rfl
     ·exact sa
     exact FillR.nil
   ·apply ya O O; exact yq (qld O yA3)
   ·apply ya O O
    apply yq
    first | exact q_indexAddrC 4 O O yU28 yS3 (by omega) | exact q_indexAddr1 O O yU28 yS3 (by omega)
   ·apply ya O O; exact yq (q_move O)
   ·apply ya O O; exact yq (qld O yA3)
   ·apply ya O O
    apply yq
    first | exact q_indexAddrC 3 O O yU28 yS3 (by omega) | exact q_indexAddr1 O O yU28 yS3 (by omega)
   ·apply ya O O; exact yq (q_move O)
   ·apply ya O O; exact yq (qld O yA3)
   ·apply ya O O
    apply yq
    first | exact q_indexAddrC 2 O O yU28 yS3 (by omega) | exact q_indexAddr1 O O yU28 yS3 (by omega)
   ·apply ya O O; exact yq (q_move O)
   ·apply ya O O; exact yq (qld O yA3)
   ·apply ya O O
    apply yq
    first | exact q_indexAddrC 1 O O yU28 yS3 (by omega) | exact q_indexAddr1 O O yU28 yS3 (by omega)
   ·apply ya O O; exact yq (q_move O)
   ·apply ya O O; exact yq (qld O yA3)
   ·apply ya O O
    apply yq
    first | exact q_indexAddrC 0 O O yU28 yS3 (by omega) | exact q_indexAddr1 O O yU28 yS3 (by omega)
   ·apply ya O O; exact yq (q_move O)
  refine d_eff1 [15, 0, 1, 2, 3, 4, 5, 6, 7, 8, 9, 10, 11, 12, 13, 14] [] 17 [(4, _), (24, _)] gO ⟨rfl, rfl, trivial⟩ (by kernel_rfl) (by kernel_rfl) fun Ex => ?_
  refine sta O O O yS25 O O ?_
  refine l_nil ?_
  apply n_d
  ·exact trivial
  refine d_end (by kernel_rfl) ?_
  refine n_code<|t_seq<|t_block<|sr<|l_q O (qfa 0 O yU25 O O yS3)<|l_q O (qld O yA3) ?_
  refine l_q O (qi O O (b_lss ·))<|mv O O<|l_pt (t := 29) rfl (fun p1 => ?_) fun p1 => ?_
  ·refine l_off O O O O<|l_off O O O O<|l_off O O O O<|l_q O (q_pk O O)<|asg O O<|lc<|t_cond_t O<|sr ?_
   apply l_q O
   ·apply q_buildS O yP25 yZ25
    ·exact FillR.nil
   refine sta O O O yS25 O O ?_
   refine asg O O<|lc<|rt ?_
   apply f_ret (.inl rfl) ([pt b (.cells #[.int .i64 l.key, .int .i64 l.elem, .int .i64 l.ka, .int .i64 l.ea, .int .i64 l.cap] 3 (0, 0))])
   ·apply res2 O
    ·apply Rv.agg rfl
     ·exact tk
     ·exact run_loadAll yA25 yS25 O
    ·exact .tmp rfl
   ·have he := Lay.e31 (.inl p1); have ho : ∀ x, l.o x = 0 := fun x => (by unfold Lay.o; simp [he]); exact ⟨by simp only [ho, he], rfl⟩
   ·exact en
  ·refine l_on O O<|l_q O (qfa 0 O yU25 O O yS3)<|l_on O O<|l_q O (qld O yA3) ?_
   refine l_on O O<|l_q O (qi O O (b_gtr ·))<|l_q O (q_pk O O)<|asg O O<|lc<|t_if O (fun p2 => ?_) fun p2 => ?_
   ·refine sr ?_
    apply l_q O
    ·apply q_buildS O yP25 yZ25
     ·exact FillR.nil
    refine sta O O O yS25 O O ?_
    refine asg O O<|lc<|rt ?_
    apply f_ret (.inl rfl) ([pt b (.cells #[.int .i64 l.key, .int .i64 l.elem, .int .i64 l.ka, .int .i64 l.ea, .int .i64 l.cap] 3 (0, 0))])
    ·apply res2 O
     ·apply Rv.agg rfl
      ·exact tk
      ·exact run_loadAll yA25 yS25 O
     ·exact .tmp rfl
    ·have he := Lay.e31 (.inr p2); have ho : ∀ x, l.o x = 0 := fun x => (by unfold Lay.o; simp [he]); exact ⟨by simp only [ho, he], rfl⟩
    ·exact en
   ·refine sr<|l_q O (qfa 1 O yU25 O O yS3)<|l_q O (qld O yA3) ?_
    refine l_q O (qi O O (b_lss ·))<|mv O O<|l_pt (t := 39) rfl (fun p3 => ?_) fun p3 => ?_
    ·refine l_off O O O O<|l_off O O O O<|l_off O O O O<|l_q O (q_pk O O)<|asg O O<|lc<|t_cond_t O<|sr ?_
     apply l_q O
     ·apply q_buildS O yP25 yZ25
      ·exact FillR.nil
     refine sta O O O yS25 O O ?_
     refine asg O O<|lc<|rt ?_
     apply f_ret (.inl rfl) ([pt b (.cells #[.int .i64 l.key, .int .i64 l.elem, .int .i64 l.ka, .int .i64 l.ea, .int .i64 l.cap] 3 (0, 0))])
     ·apply res2 O
      ·apply Rv.agg rfl
       ·exact tk
       ·exact run_loadAll yA25 yS25 O
      ·exact .tmp rfl
     ·have he := Lay.e32 p1 p2 (.inl p3); have ho : ∀ x, l.o x = 0 := fun x => (by unfold Lay.o; simp [he]); exact ⟨by simp only [ho, he], rfl⟩
     ·exact en
    ·refine l_on O O<|l_q O (qfa 1 O yU25 O O yS3)<|l_on O O<|l_q O (qld O yA3) ?_
     refine l_on O O<|l_q O (qi O O (b_gtr ·))<|l_q O (q_pk O O)<|asg O O<|lc<|t_if O (fun p4 => ?_) fun p4 => ?_
     ·refine sr ?_
      apply l_q O
      ·apply q_buildS O yP25 yZ25
       ·exact FillR.nil
      refine sta O O O yS25 O O ?_
      refine asg O O<|lc<|rt ?_
      apply f_ret (.inl rfl) ([pt b (.cells #[.int .i64 l.key, .int .i64 l.elem, .int .i64 l.ka, .int .i64 l.ea, .int .i64 l.cap] 3 (0, 0))])
      ·apply res2 O
       ·apply Rv.agg rfl
        ·exact tk
        ·exact run_loadAll yA25 yS25 O
       ·exact .tmp rfl
      ·have he := Lay.e32 p1 p2 (.inr p4); have ho : ∀ x, l.o x = 0 := fun x => (by unfold Lay.o; simp [he]); exact ⟨by simp only [ho, he], rfl⟩
      ·exact en
     ·refine sr<|l_q O (qfa 0 O yU25 O O yS3)<|l_q O (qld O yA3) ?_
      refine l_q O (qfa 2 O yU25 O O yS3)<|l_q O (qld O yA3) ?_
      refine lc1 O O O (aligned_ok _ _ (by omega)) ?_
      refine l_q O (q_un O (u_not ·))<|mv O O<|l_pt (t := 52) rfl (fun p5 => ?_) fun p5 => ?_
      ·refine l_off O O O O<|l_off O O O O<|l_off O O O O<|l_off O O O O<|l_off O O O O<|l_off O O O O<|l_q O (q_pk O O)<|asg O O<|lc<|t_cond_t O<|sr ?_
       apply l_q O
       ·apply q_buildS O yP25 yZ25
        ·exact FillR.nil
       refine sta O O O yS25 O O ?_
       refine asg O O<|lc<|rt ?_
       apply f_ret (.inl rfl) ([pt b (.cells #[.int .i64 l.key, .int .i64 l.elem, .int .i64 l.ka, .int .i64 l.ea, .int .i64 l.cap] 3 (0, 0))])
       ·apply res2 O
        ·apply Rv.agg rfl
         ·exact tk
         ·exact run_loadAll yA25 yS25 O
        ·exact .tmp rfl
       ·have he := Lay.e33 p1 p2 p3 p4 (.inl (by simpa using p5)); have ho : ∀ x, l.o x = 0 := fun x => (by unfold Lay.o; simp [he]); exact ⟨by simp only [ho, he], rfl⟩
       ·exact en
      ·refine l_on O O<|l_q O (qfa 1 O yU25 O O yS3)<|l_on O O<|l_q O (qld O yA3) ?_
       refine l_on O O<|l_q O (qfa 3 O yU25 O O yS3)<|l_on O O<|l_q O (qld O yA3) ?_
       refine l_on O O<|lc1 O O O (aligned_ok _ _ (by omega)) ?_
       refine l_on O O<|l_q O (q_un O (u_not ·))<|l_q O (q_pk O O)<|asg O O<|lc<|t_if O (fun p6 => ?_) fun p6 => ?_
       ·refine sr ?_
        apply l_q O
        ·apply q_buildS O yP25 yZ25
         ·exact FillR.nil
        refine sta O O O yS25 O O ?_
        refine asg O O<|lc<|rt ?_
        apply f_ret (.inl rfl) ([pt b (.cells #[.int .i64 l.key, .int .i64 l.elem, .int .i64 l.ka, .int .i64 l.ea, .int .i64 l.cap] 3 (0, 0))])
        ·apply res2 O
         ·apply Rv.agg rfl
          ·exact tk
          ·exact run_loadAll yA25 yS25 O
         ·exact .tmp rfl
        ·have he := Lay.e33 p1 p2 p3 p4 (.inr (by simpa using p6)); have ho : ∀ x, l.o x = 0 := fun x => (by unfold Lay.o; simp [he]); exact ⟨by simp only [ho, he], rfl⟩
        ·exact en
       ·refine sr<|l_q O (qfa 4 O yU25 O O yS3)<|l_q O (qld O yA3) ?_
        refine lc1 O O O (power_ok _ _ _ (by omega) (by omega)) ?_
        refine l_q O (q_un O (u_not ·))<|asg O O<|lc<|t_if O (fun p7 => ?_) fun p7 => ?_
        ·refine sr ?_
         apply l_q O
         ·apply q_buildS O yP25 yZ25
          ·exact FillR.nil
         refine sta O O O yS25 O O ?_
         refine asg O O<|lc<|rt ?_
         apply f_ret (.inl rfl) ([pt b (.cells #[.int .i64 l.key, .int .i64 l.elem, .int .i64 l.ka, .int .i64 l.ea, .int .i64 l.cap] 3 (0, 0))])
         ·apply res2 O
          ·apply Rv.agg rfl
           ·exact tk
           ·exact run_loadAll yA25 yS25 O
          ·exact .tmp rfl
         ·have he := Lay.e34 p1 p2 p3 p4 (by simpa using p5) (by simpa using p6) (by simpa using p7); have ho : ∀ x, l.o x = 0 := fun x => (by unfold Lay.o; simp [he]); exact ⟨by simp only [ho, he], rfl⟩
         ·exact en
        ·refine t_skip<|n_blk<|nz<|l_q O (qfa 0 O yU25 O O yS3)<|l_q O (qld O yA3) ?_
         refine l_q O (qfa 3 O yU25 O O yS3)<|l_q O (qld O yA3) ?_
         have he := Lay.e0 p1 p2 p3 p4 (by simpa using p5) (by simpa using p6) (by simpa using p7)
         have hb := Lay.bnd he
         refine lc1 O O O (Lay.eo_ok l (by omega) (by omega)) ?_
         refine l_q O (qfa 5 O yU25 O O yS3)<|st O O O yS3 O ?_
         refine lz<|l_q O (qfa 5 O yU25 O O yS3)<|l_q O (qld O yA3) ?_
         refine l_q O (qfa 1 O yU25 O O yS3)<|l_q O (qld O yA3) ?_
         refine l_q O (qadd O O) ?_
         refine lc1 O O O (Lay.bo_ok l (by omega)) ?_
         refine l_q O (qfa 6 O yU25 O O yS3)<|st O O O yS3 O ?_
         refine lz<|l_q O (qfa 6 O yU25 O O yS3)<|l_q O (qld O yA3) ?_
         refine l_q O (qadd O O) ?_
         refine l_q O (qfa 7 O yU25 O O yS3)<|st O O O yS3 O ?_
         refine lz<|l_q O (qfa 7 O yU25 O O yS3)<|l_q O (qld O yA3) ?_
         refine l_q O (qmul O O) ?_
         refine l_q O (qadd O O) ?_
         refine l_q O (qfa 8 O yU25 O O yS3)<|st O O O yS3 O ?_
         refine lz<|l_q O (qlda O yA25 yS25) ?_
         refine sta O O O yS25 O O ?_
         refine asg O O<|lc<|rt ?_
         apply f_ret (.inl rfl) ([pt b (.cells #[.int .i64 l.key, .int .i64 l.elem, .int .i64 l.ka, .int .i64 l.ea, .int .i64 l.cap] 3 (0, 0))])
         ·apply res2 O
          ·apply Rv.agg rfl
           ·exact tk
           ·exact run_loadAll yA25 yS25 O
          ·exact .tmp rfl
         ·have ho : ∀ x, l.o x = x := fun x => (by unfold Lay.o; simp [he]); exact ⟨by simp only [ho, he]; rfl, rfl⟩
         ·exact en

end Go.Proofs.Ytjekhcojebgpnaa.Layout
