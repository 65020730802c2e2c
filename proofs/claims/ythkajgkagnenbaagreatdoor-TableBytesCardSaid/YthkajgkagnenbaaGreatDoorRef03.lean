import Derived.Test.YthkajgkagnenbaaGreatDoorLayout
import Derived.Test.YthkajgkagnenbaaGreatDoorProbe
import Derived.Test.YthkajgkagnenbaaGreatDoorGroupB
import Derived.Test.YthkajgkagnenbaaGreatDoorCtrl
/- The contracts of the document's own layout (larderref03), and of the laws' small helpers. -/
set_option linter.unusedVariables false
set_option linter.unusedSimpArgs false
set_option maxRecDepth 100000
namespace Go.Proofs.YthkajgkagnenbaaGreatDoor.Ref03
open Go.RowKit Go.Proofs Go.Proofs.YthkajgkagnenbaaGreatDoor.Eng Go.Proofs.YthkajgkagnenbaaGreatDoor.Ty Go.Proofs.YthkajgkagnenbaaGreatDoor.Bits Go.Proofs.YthkajgkagnenbaaGreatDoor.Layout Go.Proofs.YthkajgkagnenbaaGreatDoor.Mem

/-- A slice of whole numbers that can be read in the piece A. -/
def NumsAt (k : IntKind) (A : HP) (v : Value) (xs : List Int) : Prop := ∃ a cap, v = .slice a xs.length cap ∧ (0 < xs.length → ∃ b o, a = some ⟨b, o, none⟩ ∧ ∀ i x, xs[i]? = some x → CellAt A ⟨b, o + i, none⟩ (.int k x))
abbrev IntsAt (A : HP) (v : Value) (xs : List Int) : Prop := NumsAt .i64 A v xs

theorem raised_eq {x a : Int} {j : Nat} (hx : 0 ≤ x) (ha : 1 ≤ a) (h1 : x ≤ j * a) (h2 : j = 0 ∨ (j : Int) * a - a < x) : (j : Int) * a = raiseI x a := by
 unfold raiseI
 congr 1
 refine (Int.ediv_eq_iff_of_pos (by omega) |>.2 ?_).symm
 have : a * (j : Int) = (j : Int) * a := Int.mul_comm _ _
 have h3 : ((j : Int) + 1) * a = (j : Int) * a + a := by rw [Int.add_mul, Int.one_mul]
 rcases h2 with rfl | h2
 ·simp at h1 ⊢; omega
 ·constructor <;> omega
theorem raised_ok (x a : Int) (hx : 0 ≤ x ∧ x ≤ 100000) (ha : 1 ≤ a ∧ a ≤ 100000) : FnOk Tryz.prog 70 #[.int .i64 x, .int .i64 a] [] (fun v L => v = .int .i64 (raiseI x a) ∧ L = []) := by
 refine fn_intro en70 Tryz.func70 rfl rfl rfl fun Fr w0 => t_nm ?_
 refine sr<|asg O O<|lz<|asg O O<|lc<|t_seq<|t_block ?_
 refine t_loop (fun j : Nat => j = 0 ∨ (j : Int) * a - a < x) (fun j => [(0, .int .i64 x), (1, .int .i64 a), (5, .int .i64 (j * a))]) (fun _ => Fr) (fun j => (x - j * a + a).toNat) 0 (.inl rfl) ⟨rfl, rfl, by simp; rfl, trivial⟩ (Ent.refl _) ?_
 intro j hj
 have h3 : ((j : Int) + 1) * a = (j : Int) * a + a := by rw [Int.add_mul, Int.one_mul]
 have h0 : 0 ≤ (j : Int) * a := Int.mul_nonneg (by omega) (by omega)
 refine t_seq<|sr<|mv O O<|mv O O<|l_q O (qi O O (b_lss ·))<|lc<|t_if O (fun h => ?_) fun h => ?_
 ·refine t_skip<|n_code<|t_block<|t_region<|mv O O<|mv O O<|l_q O (qadd O O) ?_
  refine asg O O<|l_nil<|n_blk ?_
  apply n_again ((j + 1))
  ·exact .inr (by push_cast; omega)
  ·push_cast; omega
  ·exact ⟨rfl, rfl, by push_cast; rw [h3]; rfl, trivial⟩
  ·exact en
 ·refine xt O<|nz<|mv O O<|asg O O<|lc<|rt<|fr1 O ([]) (.tmp rfl) ?_
  exact ⟨by rw [raised_eq hx.1 ha.1 (by omega) hj], rfl⟩
theorem refPower_ok (x : Int) (lo hi : Int) (k0 k1 : Nat) (h0 : lo = 2 ^ k0) (h1 : hi = 2 ^ k1) (hk : k1 ≤ 20) (h01 : k0 ≤ k1) : FnOk Tryz.prog 69 #[.int .i64 x, .int .i64 lo, .int .i64 hi] [] (fun v L => v = .bool (powB x lo hi) ∧ L = []) := by
 have hiff : powB x lo hi = true ↔ ∃ k : Nat, k0 ≤ k ∧ k ≤ k1 ∧ x = 2 ^ k := by
  have := Probe.powB_iff x (2 ^ k0) k0 k1 hi (by rw [pow_cast]) h1 hk
  rw [pow_cast, ← h0] at this
  exact this
 refine fn_intro en69 Tryz.func69 rfl rfl rfl fun Fr w0 => t_nm ?_
 refine sr<|asg O O<|lc<|t_seq<|sr<|mv O O<|asg O O<|lc<|t_block ?_
 refine t_loop (fun j : Nat => k0 ≤ j ∧ j ≤ k1 + 1 ∧ ∀ i, k0 ≤ i → i < j → x ≠ 2 ^ i) (fun j => [(0, .int .i64 x), (2, .int .i64 hi), (7, .int .i64 (2 ^ j))]) (fun _ => Fr) (fun j => k1 + 1 - j) k0 ⟨by omega, by omega, by omega⟩ ⟨rfl, rfl, by rw [h0]; rfl, trivial⟩ (Ent.refl _) ?_
 rintro j ⟨hj0, hj1, hno⟩
 have pe : (2 : Int) ^ (j + 1) = 2 * 2 ^ j := by rw [Int.pow_succ]; omega
 have pj : 2 ^ j ≤ 2 ^ 21 := Nat.pow_le_pow_right (by decide) (by omega)
 have pc := pow_cast j
 have p0 := Nat.two_pow_pos j
 refine t_seq<|sr<|mv O O<|mv O O<|l_q O (qi O O (b_leq ·))<|lc<|t_if O (fun h => ?_) fun h => ?_
 ·have hjk : j ≤ k1 := by rcases Nat.lt_or_ge k1 j with q | q; (have := (Nat.pow_lt_pow_right (by decide : 1 < 2) q : 2 ^ k1 < 2 ^ j); have := pow_cast k1; omega); exact q
  refine t_skip<|n_code<|t_seq<|t_block<|sr<|mv O O<|mv O O<|l_q O (qi O O (b_eql ·))<|lc<|t_if O (fun q => ?_) fun q => ?_
  ·refine sr<|asg O O<|lc<|rt<|fr1 O ([]) (.tmp rfl) ?_
   exact ⟨by rw [hiff.2 ⟨j, hj0, hjk, q.symm⟩], rfl⟩
  ·refine t_skip<|n_blk<|n_code<|t_region<|mv O O<|l_q O (qmul O O) ?_
   refine asg O O<|l_nil ?_
   apply n_again ((j + 1))
   ·exact ⟨by omega, by omega, fun i hi1 hi2 => by by_cases e : i = j; (subst e; exact fun e2 => q e2.symm); exact hno i hi1 (by omega)⟩
   ·omega
   ·exact ⟨rfl, rfl, by rw [pe]; rfl, trivial⟩
   ·exact en
 ·refine xt O<|nz<|asg O O<|lc<|rt ?_
  have hjk : j = k1 + 1 := by rcases Nat.lt_or_ge k1 j with q | q; omega; (have := (Nat.pow_le_pow_right (by decide : 0 < 2) q : 2 ^ j ≤ 2 ^ k1); have := pow_cast k1; omega)
  have hf : powB x lo hi = false := by
   cases e : powB x lo hi with
   | false => rfl
   | true => obtain ⟨k, a1, a2, a3⟩ := hiff.1 e; exact absurd a3 (hno k a1 (by omega))
  refine fr1 O ([]) (.tmp rfl) ?_
  exact ⟨by rw [hf], rfl⟩
theorem align_eq {w a : Int} (hp : powB a 1 8 = true) (hw : 0 ≤ w) (ha : 1 ≤ a) : alignB w a = decide (raiseI w a = w) := by
 unfold alignB
 rw [hp, Bool.true_and, decide_eq_decide]
 have r := raise_bnd (n := w) (a := a) hw ha
 have h2 := Int.mul_ediv_add_emod w a
 have h3 : a * (w / a) = w / a * a := Int.mul_comm _ _
 unfold raiseI at r ⊢
 constructor
 ·intro e
  have h5 : (w + a - 1) / a = w / a := (Int.ediv_eq_iff_of_pos (by omega)).2 (by
   have h4 : (w / a + 1) * a = w / a * a + a := by rw [Int.add_mul, Int.one_mul]
   constructor <;> omega)
  rw [h5]; omega
 ·intro e; rw [← e]; exact Int.mul_emod_left _ _
theorem fits_ok (w a : Int) (hw : 0 ≤ w ∧ w ≤ 128) : FnOk Tryz.prog 68 #[.int .i64 w, .int .i64 a] [] (fun v L => v = .bool (alignB w a) ∧ L = []) := by
 refine fn_intro en68 Tryz.func68 rfl rfl rfl fun Fr w0 => t_nm ?_
 refine sr<|asg O O<|lz<|mv O O<|lc1 O O O (refPower_ok a 1 8 0 3 (by decide) (by decide) (by decide) (by decide)) ?_
 refine asg O O<|lc<|t_seq<|sr<|mv O O<|l_q O (q_un O (u_not ·))<|lc<|t_if O (fun h => ?_) fun h => ?_
 ·refine sr<|asg O O<|lc<|rt<|fr1 O ([]) (.tmp rfl) ?_
  exact ⟨by unfold alignB; simp at h; simp [h], rfl⟩
 ·have hb := powB_le (n := a) (lo := 1) (hi := 8) (by simpa using h)
  refine t_skip<|nz<|mv O O<|mv O O<|lc1 O O O (raised_ok w a (by omega) (by omega)) ?_
  refine asg O O<|lz<|mv O O<|mv O O<|l_q O (qi O O (b_eql ·))<|asg O O<|lc<|rt<|fr1 O ([]) (.tmp rfl) ?_
  exact ⟨by rw [← align_eq (w := w) (a := a) (by simpa using h) hw.1 hb.1], rfl⟩
/-- The layout's cells, as Parse tells them. -/
theorem zo (l : Lay) (h : l.err ≠ 0) : ∀ x, l.o x = 0 := fun x => by unfold Lay.o; rw [if_neg h]
theorem reo_ok (l : Lay) (h0 : 0 ≤ l.key ∧ l.key ≤ 100000) (h1 : 1 ≤ l.ea ∧ l.ea ≤ 100000) : FnOk Tryz.prog 70 #[.int .i64 l.key, .int .i64 l.ea] [] (fun v L => v = .int .i64 l.eo ∧ L = []) := raised_ok _ _ h0 h1
theorem rbo_ok (l : Lay) (h0 : 0 ≤ l.eo + l.elem ∧ l.eo + l.elem ≤ 100000) : FnOk Tryz.prog 70 #[.int .i64 (l.eo + l.elem), .int .i64 8] [] (fun v L => v = .int .i64 l.bo ∧ L = []) := raised_ok _ _ h0 (by decide)
theorem fiveParse_ok (A : HP) (b o cap : Nat) (l : Lay) (hA : ∀ i x, [l.key, l.elem, l.ka, l.ea, l.cap][i]? = some x → CellAt A ⟨b, o + i, none⟩ (.int .i64 x)) :
  FnOk Tryz.prog 25 #[.slice (some ⟨b, o, none⟩) 5 cap] [A] (fun v L => v = .tuple #[.agg #[.int .i64 (l.o l.key), .int .i64 (l.o l.elem), .int .i64 (l.o l.ka), .int .i64 (l.o l.ea), .int .i64 (l.o l.cap), .int .i64 (l.o l.eo), .int .i64 (l.o l.bo), .int .i64 (l.o l.slot), .int .i64 (l.o l.group)], .int .i64 l.err] ∧ L = [A]) := by
 refine fn_intro en25 Tryz.func25 rfl rfl rfl fun Fr w0 => t_nm ?_
 refine sr<|o_allocA O yZ34 fun b2 => asg O O<|lc<|t_seq<|sr<|mv O O<|l_q O (ql O yU22)<|l_q O (qi O O (b_neq ·))<|lc<|t_if O (fun h => ?_) fun h => ?_
 ·exact absurd rfl h
 ·refine t_skip<|n_code<|t_seq<|sr<|mv O O ?_
  first | refine l_q O (q_indexAddrC 0 rfl rfl yU22 yS3 (by omega)) ?_ | refine l_q O (q_indexAddr1 O O yU22 yS3 (by omega)) ?_
  apply l_q O
  ·apply q_loadR (A := A) rfl yA3
   ·exact tk
   ·exact hA 0 _ rfl
  refine l_q O (qi O O (b_lss ·))<|mv O O<|l_pt (t := 17) rfl (fun p1 => ?_) fun p1 => ?_
  ·refine l_off O O O O<|l_off O O O O<|l_off O O O O<|l_off O O O O<|l_q O (q_pk O O)<|lc<|t_cond_t O<|sr ?_
   apply l_q O
   ·apply q_buildS O yP34 yZ34
    ·exact FillR.nil
   refine sta O O O yS34 O O ?_
   refine asg O O<|lc<|rt ?_
   apply f_ret (.inl rfl) ([A])
   ·apply res2 O
    ·apply Rv.agg rfl
     ·exact tk
     ·exact run_loadAll yA34 yS34 O
    ·exact .tmp rfl
   ·have he := Lay.e31 (.inl p1); have ho := zo l (by rw [he]; decide); exact ⟨by simp only [ho, he], rfl⟩
   ·exact en
  ·refine l_on O O<|mv O O<|l_on O O ?_
   first | refine l_q O (q_indexAddrC 0 rfl rfl yU22 yS3 (by omega)) ?_ | refine l_q O (q_indexAddr1 O O yU22 yS3 (by omega)) ?_
   refine l_on O O ?_
   apply l_q O
   ·apply q_loadR (A := A) rfl yA3
    ·exact tk
    ·exact hA 0 _ rfl
   refine l_on O O<|l_q O (qi O O (b_gtr ·))<|l_q O (q_pk O O)<|lc<|t_if O (fun p2 => ?_) fun p2 => ?_
   ·refine sr ?_
    apply l_q O
    ·apply q_buildS O yP34 yZ34
     ·exact FillR.nil
    refine sta O O O yS34 O O ?_
    refine asg O O<|lc<|rt ?_
    apply f_ret (.inl rfl) ([A])
    ·apply res2 O
     ·apply Rv.agg rfl
      ·exact tk
      ·exact run_loadAll yA34 yS34 O
     ·exact .tmp rfl
    ·have he := Lay.e31 (.inr p2); have ho := zo l (by rw [he]; decide); exact ⟨by simp only [ho, he], rfl⟩
    ·exact en
   ·refine t_skip<|n_code<|t_seq<|sr<|mv O O ?_
    first | refine l_q O (q_indexAddrC 1 rfl rfl yU22 yS3 (by omega)) ?_ | refine l_q O (q_indexAddr1 O O yU22 yS3 (by omega)) ?_
    apply l_q O
    ·apply q_loadR (A := A) rfl yA3
     ·exact tk
     ·exact hA 1 _ rfl
    refine l_q O (qi O O (b_lss ·))<|mv O O<|l_pt (t := 28) rfl (fun p3 => ?_) fun p3 => ?_
    ·refine l_off O O O O<|l_off O O O O<|l_off O O O O<|l_off O O O O<|l_q O (q_pk O O)<|lc<|t_cond_t O<|sr ?_
     apply l_q O
     ·apply q_buildS O yP34 yZ34
      ·exact FillR.nil
     refine sta O O O yS34 O O ?_
     refine asg O O<|lc<|rt ?_
     apply f_ret (.inl rfl) ([A])
     ·apply res2 O
      ·apply Rv.agg rfl
       ·exact tk
       ·exact run_loadAll yA34 yS34 O
      ·exact .tmp rfl
     ·have he := Lay.e32 p1 p2 (.inl p3); have ho := zo l (by rw [he]; decide); exact ⟨by simp only [ho, he], rfl⟩
     ·exact en
    ·refine l_on O O<|mv O O<|l_on O O ?_
     first | refine l_q O (q_indexAddrC 1 rfl rfl yU22 yS3 (by omega)) ?_ | refine l_q O (q_indexAddr1 O O yU22 yS3 (by omega)) ?_
     refine l_on O O ?_
     apply l_q O
     ·apply q_loadR (A := A) rfl yA3
      ·exact tk
      ·exact hA 1 _ rfl
     refine l_on O O<|l_q O (qi O O (b_gtr ·))<|l_q O (q_pk O O)<|lc<|t_if O (fun p4 => ?_) fun p4 => ?_
     ·refine sr ?_
      apply l_q O
      ·apply q_buildS O yP34 yZ34
       ·exact FillR.nil
      refine sta O O O yS34 O O ?_
      refine asg O O<|lc<|rt ?_
      apply f_ret (.inl rfl) ([A])
      ·apply res2 O
       ·apply Rv.agg rfl
        ·exact tk
        ·exact run_loadAll yA34 yS34 O
       ·exact .tmp rfl
      ·have he := Lay.e32 p1 p2 (.inr p4); have ho := zo l (by rw [he]; decide); exact ⟨by simp only [ho, he], rfl⟩
      ·exact en
     ·refine t_skip<|n_code<|t_seq<|t_draw mixed ?_
      apply dq 0 rfl
      ·exact yq (q_move O)
      apply dq 1 rfl
      ·apply yq
       first | exact q_indexAddrC 0 rfl rfl yU22 yS3 (by omega) | exact q_indexAddr1 O O yU22 yS3 (by omega)
      apply dq 2 rfl
      ·apply yq
       apply q_loadR (A := A) rfl yA3
       ·exact tk
       ·exact hA 0 _ rfl
      apply dq 3 rfl
      ·exact yq (q_move O)
      apply dq 4 rfl
      ·apply yq
       first | exact q_indexAddrC 2 rfl rfl yU22 yS3 (by omega) | exact q_indexAddr1 O O yU22 yS3 (by omega)
      apply dq 5 rfl
      ·apply yq
       apply q_loadR (A := A) rfl yA3
       ·exact tk
       ·exact hA 2 _ rfl
      refine d_eff1 [2, 5, 1, 4, 0, 3] [] 6 [(37, _), (40, _)] gO ⟨rfl, rfl, trivial⟩ (by kernel_rfl) (by kernel_rfl) fun Ex => ?_
      refine lc1 O O O (fits_ok _ _ (by omega)) ?_
      refine l_nil ?_
      apply n_d
      ·exact trivial
      refine d_eff1 [] [] 7 [(41, _)] gO ⟨rfl, trivial⟩ (by kernel_rfl) (by kernel_rfl) fun Ex => ?_
      refine asg O O<|l_nil ?_
      apply n_d
      ·exact trivial
      refine d_end (by kernel_rfl) ?_
      refine n_code<|t_seq<|t_draw mixed ?_
      apply dq 0 rfl
      ·exact yq (q_move O)
      apply dq 1 rfl
      ·apply yq
       first | exact q_indexAddrC 1 rfl rfl yU22 yS3 (by omega) | exact q_indexAddr1 O O yU22 yS3 (by omega)
      apply dq 2 rfl
      ·apply yq
       apply q_loadR (A := A) rfl yA3
       ·exact tk
       ·exact hA 1 _ rfl
      apply dq 3 rfl
      ·exact yq (q_move O)
      apply dq 4 rfl
      ·apply yq
       first | exact q_indexAddrC 3 rfl rfl yU22 yS3 (by omega) | exact q_indexAddr1 O O yU22 yS3 (by omega)
      apply dq 5 rfl
      ·apply yq
       apply q_loadR (A := A) rfl yA3
       ·exact tk
       ·exact hA 3 _ rfl
      refine d_eff1 [2, 5, 1, 4, 0, 3] [] 6 [(44, _), (47, _)] gO ⟨rfl, rfl, trivial⟩ (by kernel_rfl) (by kernel_rfl) fun Ex => ?_
      refine lc1 O O O (fits_ok _ _ (by omega)) ?_
      refine l_nil ?_
      apply n_d
      ·exact trivial
      refine d_eff1 [] [] 7 [(48, _)] gO ⟨rfl, trivial⟩ (by kernel_rfl) (by kernel_rfl) fun Ex => ?_
      refine asg O O<|l_nil ?_
      apply n_d
      ·exact trivial
      refine d_end (by kernel_rfl) ?_
      refine n_code<|t_seq<|sr<|mv O O<|l_q O (q_un O (u_not ·))<|mv O O<|l_pt (t := 51) rfl (fun p5 => ?_) fun p5 => ?_
      ·refine l_off O O O O<|l_off O O O O<|l_q O (q_pk O O)<|lc<|t_cond_t O<|sr ?_
       apply l_q O
       ·apply q_buildS O yP34 yZ34
        ·exact FillR.nil
       refine sta O O O yS34 O O ?_
       refine asg O O<|lc<|rt ?_
       apply f_ret (.inl rfl) ([A])
       ·apply res2 O
        ·apply Rv.agg rfl
         ·exact tk
         ·exact run_loadAll yA34 yS34 O
        ·exact .tmp rfl
       ·have he := Lay.e33 p1 p2 p3 p4 (.inl (by simpa using p5)); have ho := zo l (by rw [he]; decide); exact ⟨by simp only [ho, he], rfl⟩
       ·exact en
      ·refine l_on O O<|mv O O<|l_on O O<|l_q O (q_un O (u_not ·))<|l_q O (q_pk O O)<|lc<|t_if O (fun p6 => ?_) fun p6 => ?_
       ·refine sr ?_
        apply l_q O
        ·apply q_buildS O yP34 yZ34
         ·exact FillR.nil
        refine sta O O O yS34 O O ?_
        refine asg O O<|lc<|rt ?_
        apply f_ret (.inl rfl) ([A])
        ·apply res2 O
         ·apply Rv.agg rfl
          ·exact tk
          ·exact run_loadAll yA34 yS34 O
         ·exact .tmp rfl
        ·have he := Lay.e33 p1 p2 p3 p4 (.inr (by simpa using p6)); have ho := zo l (by rw [he]; decide); exact ⟨by simp only [ho, he], rfl⟩
        ·exact en
       ·refine t_skip<|nz<|mv O O ?_
        first | refine l_q O (q_indexAddrC 4 rfl rfl yU22 yS3 (by omega)) ?_ | refine l_q O (q_indexAddr1 O O yU22 yS3 (by omega)) ?_
        apply l_q O
        ·apply q_loadR (A := A) rfl yA3
         ·exact tk
         ·exact hA 4 _ rfl
        refine lc1 O O O (refPower_ok _ 16 1024 4 10 (by decide) (by decide) (by decide) (by decide)) ?_
        refine asg O O<|lc<|t_seq<|sr<|mv O O<|l_q O (q_un O (u_not ·))<|lc<|t_if O (fun p7 => ?_) fun p7 => ?_
        ·refine sr ?_
         apply l_q O
         ·apply q_buildS O yP34 yZ34
          ·exact FillR.nil
         refine sta O O O yS34 O O ?_
         refine asg O O<|lc<|rt ?_
         apply f_ret (.inl rfl) ([A])
         ·apply res2 O
          ·apply Rv.agg rfl
           ·exact tk
           ·exact run_loadAll yA34 yS34 O
          ·exact .tmp rfl
         ·have he := Lay.e34 p1 p2 p3 p4 (by simpa using p5) (by simpa using p6) (by simpa using p7); have ho := zo l (by rw [he]; decide); exact ⟨by simp only [ho, he], rfl⟩
         ·exact en
        ·refine t_skip<|n_code<|t_seq<|t_draw mixed ?_
         apply dq 0 rfl
         ·exact yq (q_move O)
         apply dq 1 rfl
         ·apply yq
          first | exact q_indexAddrC 0 rfl rfl yU22 yS3 (by omega) | exact q_indexAddr1 O O yU22 yS3 (by omega)
         apply dq 2 rfl
         ·apply yq
          apply q_loadR (A := A) rfl yA3
          ·exact tk
          ·exact hA 0 _ rfl
         apply dq 3 rfl
         ·exact yq (q_move O)
         apply dq 4 rfl
         ·apply yq
          first | exact q_indexAddrC 1 rfl rfl yU22 yS3 (by omega) | exact q_indexAddr1 O O yU22 yS3 (by omega)
         apply dq 5 rfl
         ·apply yq
          apply q_loadR (A := A) rfl yA3
          ·exact tk
          ·exact hA 1 _ rfl
         apply dq 6 rfl
         ·exact yq (q_move O)
         apply dq 7 rfl
         ·apply yq
          first | exact q_indexAddrC 2 rfl rfl yU22 yS3 (by omega) | exact q_indexAddr1 O O yU22 yS3 (by omega)
         apply dq 8 rfl
         ·apply yq
          apply q_loadR (A := A) rfl yA3
          ·exact tk
          ·exact hA 2 _ rfl
         apply dq 9 rfl
         ·exact yq (q_move O)
         apply dq 10 rfl
         ·apply yq
          first | exact q_indexAddrC 3 rfl rfl yU22 yS3 (by omega) | exact q_indexAddr1 O O yU22 yS3 (by omega)
         apply dq 11 rfl
         ·apply yq
          apply q_loadR (A := A) rfl yA3
          ·exact tk
          ·exact hA 3 _ rfl
         apply dq 12 rfl
         ·exact yq (q_move O)
         apply dq 13 rfl
         ·apply yq
          first | exact q_indexAddrC 4 rfl rfl yU22 yS3 (by omega) | exact q_indexAddr1 O O yU22 yS3 (by omega)
         apply dq 14 rfl
         ·apply yq
          apply q_loadR (A := A) rfl yA3
          ·exact tk
          ·exact hA 4 _ rfl
         apply dq 15 rfl
         ·apply yq
          apply q_buildS O yP34 yZ34
          ·apply FillR.one
           ·repeat (first | exact PlAt.here | apply PlAt.there)
           ·rfl
           ·exact sa
           apply FillR.one
           ·repeat (first | exact PlAt.here | apply PlAt.there)
           ·rfl
           ·exact sa
           apply FillR.one
           ·repeat (first | exact PlAt.here | apply PlAt.there)
           ·rfl
           ·exact sa
           apply FillR.one
           ·repeat (first | exact PlAt.here | apply PlAt.there)
           ·rfl
           ·exact sa
           apply FillR.one
           ·repeat (first | exact PlAt.here | apply PlAt.there)
           ·rfl
           ·exact sa
           exact FillR.nil
         refine d_eff1 [] [15, 14, 13, 12, 11, 10, 9, 8, 7, 6, 5, 4, 3, 2, 1, 0] 16 [] gO trivial (by kernel_rfl) (by kernel_rfl) fun Ex => ?_
         refine o_allocA O yZ34 fun b7 => l_nil ?_
         apply n_d
         ·refine ⟨?_, ?_, ?_, ?_, ?_, ?_, ?_, ?_, ?_, ?_, ?_, ?_, ?_, ?_, ?_, ?_, trivial⟩
          ·apply ya O O
           apply yq
           apply q_buildS O yP34 yZ34
           ·apply FillR.one
            ·repeat (first | exact PlAt.here | apply PlAt.there)
            ·rfl
            ·exact sa
            apply FillR.one
            ·repeat (first | exact PlAt.here | apply PlAt.there)
            ·rfl
            ·exact sa
            apply FillR.one
            ·repeat (first | exact PlAt.here | apply PlAt.there)
            ·rfl
            ·exact sa
            apply FillR.one
            ·repeat (first | exact PlAt.here | apply PlAt.there)
            ·rfl
            ·exact sa
            apply FillR.one
            ·repeat (first | exact PlAt.here | apply PlAt.there)
            ·rfl
            ·exact sa
            exact FillR.nil
          ·apply ya O O
           apply yq
           apply q_loadR (A := A) rfl yA3
           ·exact tk
           ·exact hA 4 _ rfl
          ·apply ya O O
           apply yq
           first | exact q_indexAddrC 4 rfl rfl yU22 yS3 (by omega) | exact q_indexAddr1 O O yU22 yS3 (by omega)
          ·apply ya O O; exact yq (q_move O)
          ·apply ya O O
           apply yq
           apply q_loadR (A := A) rfl yA3
           ·exact tk
           ·exact hA 3 _ rfl
          ·apply ya O O
           apply yq
           first | exact q_indexAddrC 3 rfl rfl yU22 yS3 (by omega) | exact q_indexAddr1 O O yU22 yS3 (by omega)
          ·apply ya O O; exact yq (q_move O)
          ·apply ya O O
           apply yq
           apply q_loadR (A := A) rfl yA3
           ·exact tk
           ·exact hA 2 _ rfl
          ·apply ya O O
           apply yq
           first | exact q_indexAddrC 2 rfl rfl yU22 yS3 (by omega) | exact q_indexAddr1 O O yU22 yS3 (by omega)
          ·apply ya O O; exact yq (q_move O)
          ·apply ya O O
           apply yq
           apply q_loadR (A := A) rfl yA3
           ·exact tk
           ·exact hA 1 _ rfl
          ·apply ya O O
           apply yq
           first | exact q_indexAddrC 1 rfl rfl yU22 yS3 (by omega) | exact q_indexAddr1 O O yU22 yS3 (by omega)
          ·apply ya O O; exact yq (q_move O)
          ·apply ya O O
           apply yq
           apply q_loadR (A := A) rfl yA3
           ·exact tk
           ·exact hA 0 _ rfl
          ·apply ya O O
           apply yq
           first | exact q_indexAddrC 0 rfl rfl yU22 yS3 (by omega) | exact q_indexAddr1 O O yU22 yS3 (by omega)
          ·apply ya O O; exact yq (q_move O)
         refine d_eff1 [15, 0, 1, 2, 3, 4, 5, 6, 7, 8, 9, 10, 11, 12, 13, 14] [] 17 [(7, _), (78, _)] gO ⟨rfl, rfl, trivial⟩ (by kernel_rfl) (by kernel_rfl) fun Ex => ?_
         refine sta O O O yS34 O O ?_
         refine l_nil ?_
         apply n_d
         ·exact trivial
         refine d_end (by kernel_rfl) ?_
         refine nz<|l_q O (qfa 0 rfl yU34 O O yS3)<|l_q O (qld O yA3) ?_
         refine l_q O (qfa 3 rfl yU34 O O yS3)<|l_q O (qld O yA3) ?_
         have he := Lay.e0 p1 p2 p3 p4 (by simpa using p5) (by simpa using p6) (by simpa using p7)
         have hb := Lay.bnd he
         have ho : ∀ x, l.o x = x := fun x => (by unfold Lay.o; simp [he])
         refine lc1 O O O (reo_ok l (by omega) (by omega)) ?_
         refine l_q O (qfa 5 rfl yU34 O O yS3)<|st O O O yS3 O ?_
         refine lz<|l_q O (qfa 5 rfl yU34 O O yS3)<|l_q O (qld O yA3) ?_
         refine l_q O (qfa 1 rfl yU34 O O yS3)<|l_q O (qld O yA3) ?_
         refine l_q O (qadd O O) ?_
         refine lc1 O O O (rbo_ok l (by omega)) ?_
         refine l_q O (qfa 6 rfl yU34 O O yS3)<|st O O O yS3 O ?_
         refine lz<|l_q O (qfa 6 rfl yU34 O O yS3)<|l_q O (qld O yA3) ?_
         refine l_q O (qadd O O) ?_
         refine l_q O (qfa 7 rfl yU34 O O yS3)<|st O O O yS3 O ?_
         refine lz<|l_q O (qfa 8 rfl yU34 O O yS3)<|st O O O yS3 O ?_
         refine lc<|t_seq<|sr<|asg O O<|lc<|t_block ?_
         rw [show l.bo + 8 = l.slot from rfl]
         refine t_loop (fun i : Nat => i ≤ 8) (fun i => [(2, .pointer (some ⟨b2, 0, none⟩)), (7, .pointer (some ⟨b7, 0, none⟩)), (8, .int .i64 i)]) (fun i => pt b7 (.cells #[.int .i64 l.key, .int .i64 l.elem, .int .i64 l.ka, .int .i64 l.ea, .int .i64 l.cap, .int .i64 l.eo, .int .i64 l.bo, .int .i64 l.slot, .int .i64 (8 + (i : Int) * l.slot)] 34 (0, 0)) :: pt b2 (.cells #[.int .i64 0, .int .i64 0, .int .i64 0, .int .i64 0, .int .i64 0, .int .i64 0, .int .i64 0, .int .i64 0, .int .i64 0] 34 (0, 0)) :: A :: Fr) (fun i => 8 - i) 0 (by omega) ⟨rfl, rfl, rfl, trivial⟩ (by rw [show (8 : Int) + ((0 : Nat) : Int) * l.slot = 8 by simp]; (exact en)) ?_
         intro i hi
         have hm : (i : Int) * l.slot ≤ 8 * 278 := Int.mul_le_mul (by omega) (by omega) (by omega) (by omega)
         have hm0 : 0 ≤ (i : Int) * l.slot := Int.mul_nonneg (by omega) (by omega)
         refine t_seq<|sr<|mv O O<|l_q O (qi O O (b_lss ·))<|lc<|t_if O (fun q => ?_) fun q => ?_
         ·refine t_skip<|n_code<|t_seq<|t_block<|t_region<|l_q O (qfa 8 rfl yU34 O O yS3)<|l_q O (qld O yA3) ?_
          refine l_q O (qfa 7 rfl yU34 O O yS3)<|l_q O (qld O yA3) ?_
          refine l_q O (qadd O O) ?_
          refine l_q O (qfa 8 rfl yU34 O O yS3)<|st O O O yS3 O ?_
          refine l_nil<|n_blk<|n_code<|t_region<|mv O O<|l_q O (qadd O O) ?_
          refine asg O O<|l_nil ?_
          rw [show 8 + (i : Int) * l.slot + l.slot = 8 + ((i + 1 : Nat) : Int) * l.slot by push_cast; rw [Int.add_mul, Int.one_mul]; omega]
          apply n_again ((i + 1))
          ·exact (show i + 1 ≤ 8 by omega)
          ·omega
          ·exact ⟨rfl, rfl, rfl, trivial⟩
          ·exact en
         ·obtain rfl : i = 8 := by omega
          rw [show (8 : Int) + ((8 : Nat) : Int) * l.slot = l.group from rfl]
          refine xt O<|nz<|l_q O (qlda O yA34 yS34) ?_
          refine sta O O O yS34 O O ?_
          refine asg O O<|lc<|rt ?_
          apply f_ret (.inl rfl) ([A])
          ·apply res2 O
           ·apply Rv.agg rfl
            ·exact tk
            ·exact run_loadAll yA34 yS34 O
           ·exact .tmp rfl
          ·exact ⟨by simp only [ho, he], rfl⟩
          ·exact en
/-- Five numbers as a layout's. -/
def lay5 (xs : List Int) : Lay := ⟨xs.getD 0 0, xs.getD 1 0, xs.getD 2 0, xs.getD 3 0, xs.getD 4 0⟩
/-- What Parse answers. -/
def parseE (xs : List Int) : Int := if xs.length = 5 then (lay5 xs).err else 30
theorem Parse_ok (A : HP) (v : Value) (xs : List Int) (hA : IntsAt A v xs) :
  FnOk Tryz.prog 25 #[v] [A] (fun r L => L = [A] ∧ ((parseE xs = 0 ∧ (lay5 xs).err = 0 ∧ r = .tuple #[.agg (lay5 xs).cells, .int .i64 0]) ∨ (parseE xs ≠ 0 ∧ r = .tuple #[.agg Lay.zeros, .int .i64 (parseE xs)]))) := by
 obtain ⟨a, cap, rfl, hA⟩ := hA
 by_cases h5 : xs.length = 5
 ·obtain ⟨b, o, rfl, hA5⟩ := hA (by omega)
  have hx : xs = [(lay5 xs).key, (lay5 xs).elem, (lay5 xs).ka, (lay5 xs).ea, (lay5 xs).cap] := by
   match xs, h5 with
   | [_, _, _, _, _], _ => rfl
  have hp : parseE xs = (lay5 xs).err := by unfold parseE; rw [if_pos h5]
  rw [h5]
  refine (fiveParse_ok A b o cap (lay5 xs) (by rw [← hx]; exact hA5)).mono fun r L ⟨h1, h2⟩ => ⟨h2, ?_⟩
  by_cases he : (lay5 xs).err = 0
  ·have ho : ∀ x, (lay5 xs).o x = x := fun x => (by unfold Lay.o; rw [if_pos he])
   exact .inl ⟨by rw [hp, he], he, by rw [h1]; simp only [ho, he]⟩
  ·have ho := zo (lay5 xs) he
   exact .inr ⟨by rw [hp]; exact he, by rw [h1, hp]; simp only [ho]⟩
 ·have hp : parseE xs = 30 := by unfold parseE; rw [if_neg h5]
  refine FnOk.mono (Post := fun r L => L = [A] ∧ r = .tuple #[.agg Lay.zeros, .int .i64 30]) ?_ fun r L ⟨h1, h2⟩ => ⟨h1, .inr ⟨by rw [hp]; decide, by rw [h2, hp]⟩⟩
  refine fn_intro en25 Tryz.func25 rfl rfl rfl fun Fr w0 => t_nm ?_
  refine sr<|o_allocA O yZ34 fun b2 => asg O O<|lc<|t_seq<|sr<|mv O O<|l_q O (ql O yU22)<|l_q O (qi O O (b_neq ·))<|lc<|t_if O (fun h => ?_) fun h => ?_
  ·refine sr ?_
   apply l_q O
   ·apply q_buildS O yP34 yZ34
    ·exact FillR.nil
   refine sta O O O yS34 O O ?_
   refine asg O O<|lc<|rt ?_
   apply f_ret (.inl rfl) ([A])
   ·apply res2 O
    ·apply Rv.agg rfl
     ·exact tk
     ·exact run_loadAll yA34 yS34 O
    ·exact .tmp rfl
   ·exact ⟨rfl, rfl⟩
   ·exact en
  ·omega

/-! ### Small helpers of the laws -/
theorem strM_bytes0 {m : Nat → Int} (hm : ∀ i, 0 ≤ m i ∧ m i < 256) (k : Nat) : bytesV (strM m 0 k) = memV m k := by
 simp only [bytesV, strM, memV, List.map_map]
 refine List.map_congr_left fun i _ => ?_
 have := hm i
 simp only [Function.comp, Value.int.injEq, true_and, Nat.zero_add]
 rw [UInt8.toNat_ofNat']
 omega
end Go.Proofs.YthkajgkagnenbaaGreatDoor.Ref03
