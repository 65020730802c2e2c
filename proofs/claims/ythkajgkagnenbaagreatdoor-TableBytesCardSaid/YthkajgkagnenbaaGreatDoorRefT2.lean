/- The contracts of the document's own table (larderref08), the rest. -/
import Derived.Test.YthkajgkagnenbaaGreatDoorRefT
set_option linter.unusedVariables false
set_option linter.unusedSimpArgs false
set_option linter.unusedSectionVars false
set_option maxRecDepth 100000
namespace Go.Proofs.YthkajgkagnenbaaGreatDoor.RefT
open Go.RowKit Go.Proofs Go.Proofs.YthkajgkagnenbaaGreatDoor.Eng Go.Proofs.YthkajgkagnenbaaGreatDoor.Ty Go.Proofs.YthkajgkagnenbaaGreatDoor.Bits Go.Proofs.YthkajgkagnenbaaGreatDoor.Mem Go.Proofs.YthkajgkagnenbaaGreatDoor.Search Go.Proofs.YthkajgkagnenbaaGreatDoor.Arena Go.Proofs.YthkajgkagnenbaaGreatDoor.CtrlB Go.Proofs.YthkajgkagnenbaaGreatDoor.Layout Go.Proofs.YthkajgkagnenbaaGreatDoor.GroupB Go.Proofs.YthkajgkagnenbaaGreatDoor.Probe Go.Proofs.YthkajgkagnenbaaGreatDoor.TableB Go.Proofs.YthkajgkagnenbaaGreatDoor.TableI Go.Proofs.YthkajgkagnenbaaGreatDoor.Table Go.Proofs.YthkajgkagnenbaaGreatDoor.Cells Go.Proofs.YthkajgkagnenbaaGreatDoor.Refill Go.Proofs.YthkajgkagnenbaaGreatDoor.Exact Go.Proofs.YthkajgkagnenbaaGreatDoor.RefA Go.Proofs.YthkajgkagnenbaaGreatDoor.Ref03

theorem Most08_ok (s : Int) (h : 0 ≤ s ∧ s ≤ 1048576) : FnOk Tryz.prog 146 #[.int .i64 s] [] (fun v L => v = .int .i64 (s / 8 * 7) ∧ L = []) := by
 refine fn_intro en146 Tryz.func146 rfl rfl rfl fun Fr w0 => t_nm ?_
 refine sr<|asg O O<|lz<|mv O O<|l_q O (qquo O O) ?_
 refine l_q O (qmul O O) ?_
 exact asg O O<|lc<|rt<|fr1 O ([]) (.tmp rfl) ⟨rfl, rfl⟩
section
variable (pr : Nat) (l : Lay) (x : PR) (hn : x.n ≤ 8192) (hr : TRng x.n x.T)
include hn hr
theorem RDel_ok (hn0 : 0 < x.n) (h : Int) (hh : 0 ≤ h ∧ h < 18446744073709551616) (key : ByteArray) : FnOk Tryz.prog 83 #[.pointer (some ⟨x.p, 0, none⟩), .int .u64 h, .string key] [rtH pr l x] (fun v L => v = .tuple #[.bool (delX l x h key).1, .int .i64 (delX l x h key).2.1] ∧ L = [rtH pr l { x with T := (delX l x h key).2.2 }]) := by
 have hus := hr.used
 have hl0 := hr.left0
 have hl1 := hr.left1
 have hcle := cnt_le isFull x.T.cells (8 * x.n)
 refine fn_intro en83 Tryz.func83 rfl rfl rfl fun Fr w0 => t_nm ?_
 refine sr<|asg O O<|asg O O<|lz<|mv O O<|mv O O<|mv O O<|lc1 O O O (RFind_ok pr l x hn hn0 h hh key) ?_
 refine mv O O<|l_q O (q_extractL O ga) ?_
 refine l_q O (q_extractL O ga) ?_
 refine asg O O<|asg O O<|lc<|t_seq<|sr<|mv O O<|l_q O (qi O O (b_neq ·))<|mv O O ?_
 have hfx : (findX l x h key).2 = 0 → x.dead = false ∧ ¬ (key.size : Int) ≠ l.key ∧ (findX l x h key).1 = (searchR (h / 128) x.n x.T.cells (h % 128) key).slot := fun e => by
  unfold findX at e ⊢
  cases hd : x.dead with
  | true => rw [hd] at e; simp at e
  | false =>
   rw [hd] at e
   by_cases hk : (key.size : Int) ≠ l.key
   ·simp [hk] at e
   ·exact ⟨rfl, hk, by simp [hk]⟩
 have hfy : ¬ (findX l x h key).2 = 0 → delX l x h key = (false, (findX l x h key).2, x.T) := fun e => by
  unfold findX delX at *
  cases hd : x.dead with
  | true => simp
  | false =>
   by_cases hk : (key.size : Int) ≠ l.key
   ·simp [hk]
   ·rw [hd] at e; simp [hk] at e
 refine l_pt (t := 20) rfl (fun z1 => ?_) fun z1 => ?_
 ·skip
  rw [hfy z1]
  exact l_off O O O O<|l_off O O O O<|l_q O (q_pk O O)<|lc<|t_cond_t O<|sr<|mv O O<|asg O O<|asg O O<|lc<|rt<|fr2 O ([rtH pr l x]) (.tmp rfl) (.tmp rfl) ⟨rfl, rfl⟩
 ·refine l_on O O<|mv O O<|l_on O O<|l_q O (qi O O (b_lss ·))<|l_q O (q_pk O O)<|lc<|t_if O (fun z2 => ?_) fun z2 => ?_
  ·skip
   obtain ⟨a1, a2, a3⟩ := hfx (by simpa using z1)
   have e2 : (findX l x h key).2 = 0 := by simpa using z1
   have hg : delX l x h key = (false, (findX l x h key).2, x.T) := by
    rw [a3] at z2
    unfold delX delT
    rw [e2]
    simp only [a1, if_neg a2, Bool.false_eq_true, if_false, if_neg (show ¬ 0 ≤ (searchR (h / 128) x.n x.T.cells (h % 128) key).slot by omega)]
   rw [hg]
   exact sr<|mv O O<|asg O O<|asg O O<|lc<|rt<|fr2 O ([rtH pr l x]) (.tmp rfl) (.tmp rfl) ⟨rfl, rfl⟩
  ·skip
   obtain ⟨a1, a2, a3⟩ := hfx (by simpa using z1)
   obtain ⟨k, hk, hks, e0, b0, hcf⟩ := slot_bnd x hn h key hn0 (by omega)
   have hko : (findX l x h key).1 = ((k : Nat) : Int) := a3.trans hks
   have hpe : decide (firstF (empS (grpC x.T.cells (k / 8))) < 8) = !passedB x.T.cells k := by
    unfold passedB
    cases e : slotsF (empS (grpC x.T.cells (k / 8))) with
    | nil => unfold firstF; rw [e]; rfl
    | cons a r =>
     have := (slotsF_mem (s := empS (grpC x.T.cells (k / 8))) (i := a)).1 (by rw [e]; simp)
     unfold firstF; rw [e]; simp; omega
   rw [hko]
   refine t_skip<|nz<|mv O O<|mv O O<|l_q O (qquo O O) ?_
   refine lc1 O O O (hasEmpty_ok pr l x hn (k / 8) (by omega)) ?_
   rw [hpe]
   have hdt : delX l x h key = (true, 0, { x.T with used := x.T.used - 1, left := if passedB x.T.cells k then x.T.left else x.T.left + 1, cells := updC x.T.cells k (if passedB x.T.cells k then .deleted else .empty) }) := by
    unfold delX delT
    simp only [a1, if_neg a2, Bool.false_eq_true, if_false, hks, if_pos (show (0 : Int) ≤ ((k : Nat) : Int) by omega), Int.toNat_natCast]
   rw [hdt]
   refine rt_openL .here fun vc => ?_
   refine l_shape (.there .here) fun _ hvc => ?_
   obtain ⟨a0, cap, rfl, ha, _, _⟩ := hvc
   obtain ⟨g0, rfl⟩ := ha (by omega)
   have hlay : lay (rowOf cellV (firstL x.T.cells (8 * x.n))) (0 + ((k : Nat) : Int).toNat * 5) (cellV .deleted) = rowOf cellV (firstL (updC x.T.cells k .deleted) (8 * x.n)) := by
    rw [Nat.zero_add, Int.toNat_natCast]
    exact rt_put x hn hr (g0 := g0) (cap := cap) hk _
   have hupd : updC (updC x.T.cells k .deleted) k .empty = updC x.T.cells k .empty := by
    funext j
    by_cases q : j = k
    ·subst q; rw [updC_same, updC_same]
    ·rw [updC_ne _ q, updC_ne _ q, updC_ne _ q]
   have hset : (rowOf cellV (firstL (updC x.T.cells k .deleted) (8 * x.n))).set (0 + ((k : Nat) : Int).toNat * 5 + 0) (.int .i64 0) = rowOf cellV (firstL (updC x.T.cells k .empty) (8 * x.n)) := by
    rw [Nat.zero_add, Int.toNat_natCast, rowOf_set cellV5 (by decide) (firstL (updC x.T.cells k .deleted) (8 * x.n)) k (updC x.T.cells k .deleted k) (firstL_get hk) (a' := .empty) (by rw [updC_same]; rfl), firstL_set _ hk, hupd]
   cases hpb : passedB x.T.cells k with
   | true =>
    refine asg O O<|lz<|mv O O<|l_q O (q_nilCheck O)<|l_q O (qfa 19 rfl yU45 O O yS43)<|l_q O (qld O yA43) ?_
    refine mv O O ?_
    apply l_q O
    ·apply q_buildS O yP142 yZ142
     ·apply FillR.one
      ·repeat (first | exact PlAt.here | apply PlAt.there)
      ·rfl
      ·exact sa
      exact FillR.nil
    refine l_q O (q_indexAddr O O yU43 yS142 (by omega)) ?_
    refine o_storeOwnA (us := cellV .deleted) rfl rfl rfl yS142 O O tk (by omega) hlay ?_
    refine lc<|t_seq<|sr<|mv O O<|lc<|t_if O (fun q => ?_) fun q => ?_
    ·cases q
    ·refine t_skip<|nz<|mv O O<|l_q O (q_nilCheck O)<|l_q O (qfa 12 rfl yU45 O O yS3)<|l_q O (qld O yA3) ?_
     refine l_q O (qsub O O) ?_
     refine l_q O (q_nilCheck O)<|l_q O (qfa 12 rfl yU45 O O yS3)<|st O O O yS3 O ?_
     refine lz<|asg O O<|asg O O<|lc<|rt ?_
     apply f_ret (.inl rfl) ([rtH pr l { x with T := { x.T with used := x.T.used - 1, cells := updC x.T.cells k .deleted } }])
     ·apply res2 O
      ·exact .tmp rfl
      ·exact .tmp rfl
     ·exact ⟨rfl, rfl⟩
     ·refine rt_close (.slice (some ⟨g0, 0, none⟩) (8 * x.n) cap) ?_; (exact en)
   | false =>
    refine asg O O<|lz<|mv O O<|l_q O (q_nilCheck O)<|l_q O (qfa 19 rfl yU45 O O yS43)<|l_q O (qld O yA43) ?_
    refine mv O O ?_
    apply l_q O
    ·apply q_buildS O yP142 yZ142
     ·apply FillR.one
      ·repeat (first | exact PlAt.here | apply PlAt.there)
      ·rfl
      ·exact sa
      exact FillR.nil
    refine l_q O (q_indexAddr O O yU43 yS142 (by omega)) ?_
    refine o_storeOwnA (us := cellV .deleted) rfl rfl rfl yS142 O O tk (by omega) hlay ?_
    refine lc<|t_seq<|sr<|mv O O<|lc<|t_if O (fun q => ?_) fun q => ?_
    ·refine sr<|mv O O<|l_q O (q_nilCheck O)<|l_q O (qfa 19 rfl yU45 O O yS43)<|l_q O (qld O yA43) ?_
     refine mv O O<|l_q O (q_indexAddr O O yU43 yS142 (by omega)) ?_
     refine l_q O (qfa 0 rfl yU142 O O yS3) ?_
     refine o_storeOwn O O O yS3 O tk (by omega) hset ?_
     refine lr<|mv O O<|l_q O (q_nilCheck O)<|l_q O (qfa 13 rfl yU45 O O yS3)<|l_q O (qld O yA3) ?_
     refine l_q O (qadd O O) ?_
     refine l_q O (q_nilCheck O)<|l_q O (qfa 13 rfl yU45 O O yS3)<|st O O O yS3 O ?_
     refine lz<|mv O O<|l_q O (q_nilCheck O)<|l_q O (qfa 12 rfl yU45 O O yS3)<|l_q O (qld O yA3) ?_
     refine l_q O (qsub O O) ?_
     refine l_q O (q_nilCheck O)<|l_q O (qfa 12 rfl yU45 O O yS3)<|st O O O yS3 O ?_
     refine lz<|asg O O<|asg O O<|lc<|rt ?_
     apply f_ret (.inl rfl) ([rtH pr l { x with T := { x.T with used := x.T.used - 1, left := x.T.left + 1, cells := updC x.T.cells k .empty } }])
     ·apply res2 O
      ·exact .tmp rfl
      ·exact .tmp rfl
     ·exact ⟨rfl, rfl⟩
     ·refine rt_close (.slice (some ⟨g0, 0, none⟩) (8 * x.n) cap) ?_; (exact en)
    ·cases q
theorem RCell_ok (k : Int) : FnOk Tryz.prog 67 #[.pointer (some ⟨x.p, 0, none⟩), .int .i64 k] [rtH pr l x] (fun v L => v = .tuple #[.agg #[.int .i64 (cellX x k).1.kind, .int .i64 (cellX x k).1.tagI, .string (cellX x k).1.keyS, .string (cellX x k).1.elemS, .int .i64 (cellX x k).1.birthI], .int .i64 (cellX x k).2] ∧ L = [rtH pr l x]) := by
 refine fn_intro en67 Tryz.func67 rfl rfl rfl fun Fr w0 => t_nm ?_
 refine rt_open .here fun vc => ?_
 refine t_shape (.there .here) fun _ hvc => ?_
 obtain ⟨a0, cap, rfl, ha, _, _⟩ := hvc
 refine sr<|o_allocA O yZ142 fun b4 => asg O O<|lc<|t_seq<|sr<|mv O O<|l_q O (q_nilCheck O)<|l_q O (qfa 18 rfl yU45 O O yS4)<|l_q O (qld O yA4) ?_
 refine lc<|t_if O (fun z => ?_) fun z => ?_
 ·skip
  have hc : cellX x k = (.empty, 24) := by unfold cellX; rw [if_pos z]
  rw [hc]
  refine sr ?_
  apply l_q O
  ·apply q_buildS O yP142 yZ142
   ·exact FillR.nil
  refine sta O O O yS142 O O ?_
  refine asg O O<|lc<|rt ?_
  apply f_ret (.inl rfl) ([rtH pr l x])
  ·apply res2 O
   ·apply Rv.agg rfl
    ·exact tk
    ·exact run_loadAll yA142 yS142 O
   ·exact .tmp rfl
  ·exact ⟨rfl, rfl⟩
  ·refine rt_close (.slice a0 (8 * x.n) cap) ?_; (exact en)
 ·refine t_skip<|n_code<|t_seq<|sr<|mv O O<|l_q O (qi O O (b_lss ·))<|mv O O<|l_pt (t := 13) rfl (fun z1 => ?_) fun z1 => ?_
  ·skip
   have hc : cellX x k = (.empty, 60) := by unfold cellX; rw [if_neg (by simp [z]), if_pos (.inl z1)]
   rw [hc]
   refine l_off O O O O<|l_off O O O O<|l_off O O O O<|l_off O O O O<|l_off O O O O<|l_off O O O O<|l_off O O O O<|l_q O (q_pk O O)<|lc<|t_cond_t O<|sr ?_
   apply l_q O
   ·apply q_buildS O yP142 yZ142
    ·exact FillR.nil
   refine sta O O O yS142 O O ?_
   refine asg O O<|lc<|rt ?_
   apply f_ret (.inl rfl) ([rtH pr l x])
   ·apply res2 O
    ·apply Rv.agg rfl
     ·exact tk
     ·exact run_loadAll yA142 yS142 O
    ·exact .tmp rfl
   ·exact ⟨rfl, rfl⟩
   ·refine rt_close (.slice a0 (8 * x.n) cap) ?_; (exact en)
  ·refine l_on O O<|mv O O<|l_on O O<|mv O O<|l_on O O<|l_q O (q_nilCheck O)<|l_on O O<|l_q O (qfa 19 rfl yU45 O O yS43)<|l_on O O<|l_q O (qld O yA43) ?_
   refine l_on O O<|l_q O (ql O yU43)<|l_on O O<|l_q O (qi O O (b_geq ·))<|l_q O (q_pk O O)<|lc<|t_if O (fun z2 => ?_) fun z2 => ?_
   ·skip
    have hc : cellX x k = (.empty, 60) := by unfold cellX; rw [if_neg (by simp [z]), if_pos (.inr (by omega))]
    rw [hc]
    refine sr ?_
    apply l_q O
    ·apply q_buildS O yP142 yZ142
     ·exact FillR.nil
    refine sta O O O yS142 O O ?_
    refine asg O O<|lc<|rt ?_
    apply f_ret (.inl rfl) ([rtH pr l x])
    ·apply res2 O
     ·apply Rv.agg rfl
      ·exact tk
      ·exact run_loadAll yA142 yS142 O
     ·exact .tmp rfl
    ·exact ⟨rfl, rfl⟩
    ·refine rt_close (.slice a0 (8 * x.n) cap) ?_; (exact en)
   ·skip
    obtain ⟨j, rfl⟩ := Int.eq_ofNat_of_zero_le (show 0 ≤ k by omega)
    obtain ⟨g0, rfl⟩ := ha (by omega)
    have hc : cellX x ((j : Nat) : Int) = (x.T.cells j, 0) := by unfold cellX; rw [if_neg (by simp [z]), if_neg (by omega), Int.toNat_natCast]
    rw [hc]
    refine t_skip<|nz<|mv O O<|l_q O (q_nilCheck O)<|l_q O (qfa 19 rfl yU45 O O yS43)<|l_q O (qld O yA43) ?_
    refine mv O O<|l_q O (q_indexAddr O O yU43 yS142 (by omega)) ?_
    apply l_q O
    ·apply q_loadRA (A := ownS 142 5 (.slice (some ⟨g0, 0, none⟩) (8 * x.n) cap) (8 * x.n) (rowOf cellV (firstL x.T.cells (8 * x.n)))) (us := [.int .i64 (x.T.cells j).kind, .int .i64 (x.T.cells j).tagI, .string (x.T.cells j).keyS, .string (x.T.cells j).elemS, .int .i64 (x.T.cells j).birthI]) rfl yA142 yS142 O
     ·exact tk
     ·exact cell_at x hn (k := j) (by omega) _ (by omega)
    refine sta O O O yS142 O O ?_
    refine asg O O<|lc<|rt ?_
    apply f_ret (.inl rfl) ([rtH pr l x])
    ·apply res2 O
     ·apply Rv.agg rfl
      ·exact tk
      ·exact run_loadAll yA142 yS142 O
     ·exact .tmp rfl
    ·exact ⟨rfl, rfl⟩
    ·refine rt_close (.slice (some ⟨g0, 0, none⟩) (8 * x.n) cap) ?_; (exact en)
theorem RStat_ok : FnOk Tryz.prog 66 #[.pointer (some ⟨x.p, 0, none⟩)] [rtH pr l x] (fun v L => v = .tuple #[.agg (statX x).1, .int .i64 (statX x).2] ∧ L = [rtH pr l x]) := by
 refine fn_intro en66 Tryz.func66 rfl rfl rfl fun Fr w0 => t_nm ?_
 refine rt_open .here fun vc => ?_
 refine t_shape (.there .here) fun _ hvc => ?_
 obtain ⟨a0, cap, rfl, ha, _, _⟩ := hvc
 refine sr<|o_allocA O yZ147 fun b2 => asg O O<|lc<|t_seq<|sr<|mv O O<|l_q O (q_nilCheck O)<|l_q O (qfa 18 rfl yU45 O O yS4)<|l_q O (qld O yA4) ?_
 refine lc<|t_if O (fun z => ?_) fun z => ?_
 ·skip
  have hc : statX x = (#[.int .i64 0, .int .i64 0, .int .i64 0, .int .i64 0, .int .i64 0, .int .i64 0, .bool false, .int .i64 0], 24) := by unfold statX; rw [if_pos z]
  rw [hc]
  refine sr ?_
  apply l_q O
  ·apply q_buildS O yP147 yZ147
   ·exact FillR.nil
  refine sta O O O yS147 O O ?_
  refine asg O O<|lc<|rt ?_
  apply f_ret (.inl rfl) ([rtH pr l x])
  ·apply res2 O
   ·apply Rv.agg rfl
    ·exact tk
    ·exact run_loadAll yA147 yS147 O
   ·exact .tmp rfl
  ·exact ⟨rfl, rfl⟩
  ·refine rt_close (.slice a0 (8 * x.n) cap) ?_; (exact en)
 ·skip
  have hc : statX x = (#[.int .i64 x.T.used, .int .i64 ((8 * x.n : Nat) : Int), .int .i64 x.T.left, .int .i64 x.T.depth, .int .i64 x.T.pins, .int .i64 x.T.next, .bool (decide (x.T.kind = 4)), .int .i64 (x.go : Nat)], 0) := by unfold statX; rw [if_neg (by simp [z])]; rfl
  rw [hc]
  refine t_skip<|n_code<|t_seq<|t_draw mixed ?_
  apply dq 0 rfl
  ·exact yq (q_move O)
  apply dq 1 rfl
  ·exact yq (q_nilCheck O)
  apply dq 2 rfl
  ·exact yq (qfa 12 rfl yU45 O O yS3)
  apply dq 3 rfl
  ·exact yq (qld O yA3)
  apply dq 4 rfl
  ·exact yq (q_move O)
  apply dq 5 rfl
  ·exact yq (q_nilCheck O)
  apply dq 6 rfl
  ·exact yq (qfa 19 rfl yU45 O O yS43)
  apply dq 7 rfl
  ·exact yq (qld O yA43)
  apply dq 8 rfl
  ·exact yq (ql O yU43)
  apply dq 9 rfl
  ·exact yq (q_move O)
  apply dq 10 rfl
  ·exact yq (q_nilCheck O)
  apply dq 11 rfl
  ·exact yq (qfa 13 rfl yU45 O O yS3)
  apply dq 12 rfl
  ·exact yq (qld O yA3)
  apply dq 13 rfl
  ·exact yq (q_move O)
  apply dq 14 rfl
  ·exact yq (q_nilCheck O)
  apply dq 15 rfl
  ·exact yq (qfa 14 rfl yU45 O O yS3)
  apply dq 16 rfl
  ·exact yq (qld O yA3)
  apply dq 17 rfl
  ·exact yq (q_move O)
  apply dq 18 rfl
  ·exact yq (q_nilCheck O)
  apply dq 19 rfl
  ·exact yq (qfa 15 rfl yU45 O O yS3)
  apply dq 20 rfl
  ·exact yq (qld O yA3)
  apply dq 21 rfl
  ·exact yq (q_move O)
  apply dq 22 rfl
  ·exact yq (q_nilCheck O)
  apply dq 23 rfl
  ·exact yq (qfa 16 rfl yU45 O O yS3)
  apply dq 24 rfl
  ·exact yq (qld O yA3)
  apply dq 25 rfl
  ·exact yq (q_move O)
  apply dq 26 rfl
  ·exact yq (q_nilCheck O)
  apply dq 27 rfl
  ·exact yq (qfa 17 rfl yU45 O O yS4)
  apply dq 28 rfl
  ·exact yq (qld O yA4)
  apply dq 29 rfl
  ·exact yq (q_move O)
  apply dq 30 rfl
  ·exact yq (q_nilCheck O)
  apply dq 31 rfl
  ·exact yq (qfa 11 rfl yU45 O O yS3)
  apply dq 32 rfl
  ·exact yq (qld O yA3)
  apply dq 33 rfl
  ·apply yq
   apply q_buildS O yP147 yZ147
   ·apply FillR.one
    ·repeat (first | exact PlAt.here | apply PlAt.there)
    ·rfl
    ·exact sa
    apply FillR.one
    ·repeat (first | exact PlAt.here | apply PlAt.there)
    ·rfl
    ·exact sa
    apply FillR.one
    ·repeat (first | exact PlAt.here | apply PlAt.there)
    ·rfl
    ·exact sa
    apply FillR.one
    ·repeat (first | exact PlAt.here | apply PlAt.there)
    ·rfl
    ·exact sa
    apply FillR.one
    ·repeat (first | exact PlAt.here | apply PlAt.there)
    ·rfl
    ·exact sa
    apply FillR.one
    ·repeat (first | exact PlAt.here | apply PlAt.there)
    ·rfl
    ·exact sa
    apply FillR.one
    ·repeat (first | exact PlAt.here | apply PlAt.there)
    ·rfl
    ·exact sa
    apply FillR.one
    ·repeat (first | exact PlAt.here | apply PlAt.there)
    ·rfl
    ·exact sa
    exact FillR.nil
  refine d_eff1 [33, 0, 1, 2, 3, 4, 5, 6, 7, 8, 9, 10, 11, 12, 13, 14, 15, 16, 17, 18, 19, 20, 21, 22, 23, 24, 25, 26, 27, 28, 29, 30, 31, 32] [] 34 [(2, _), (42, _)] gO ⟨rfl, rfl, trivial⟩ (by kernel_rfl) (by kernel_rfl) fun Ex => ?_
  refine sta O O O yS147 O O ?_
  refine l_nil ?_
  apply n_d
  ·exact trivial
  refine d_eff1 [] [] 35 [] gO trivial (by kernel_rfl) (by kernel_rfl) fun Ex => ?_
  refine asg O O<|l_nil ?_
  apply n_d
  ·exact trivial
  refine d_end (by kernel_rfl) ?_
  refine n_code<|rt ?_
  apply f_ret (.inl rfl) ([rtH pr l x])
  ·apply res2 O
   ·apply Rv.agg rfl
    ·exact tk
    ·exact run_loadAll yA147 yS147 O
   ·exact .tmp rfl
  ·exact ⟨rfl, rfl⟩
  ·refine rt_close (.slice a0 (8 * x.n) cap) ?_; (exact en)
def groupX (l : Lay) (x : PR) (k : Int) : Int × Int := if x.dead then (0, 24) else if k < 0 ∨ (x.n : Int) ≤ k then (0, 60) else ((x.go : Int) + k * l.group, 0)
theorem RGroup_ok (hl : l.err = 0) (hgo : x.dead = false → x.go ≤ 1000000000) (k : Int) : FnOk Tryz.prog 97 #[.pointer (some ⟨x.p, 0, none⟩), .int .i64 k] [rtH pr l x] (fun v L => v = .tuple #[.int .i64 (groupX l x k).1, .int .i64 (groupX l x k).2] ∧ L = [rtH pr l x]) := by
 have hbd := Lay.bnd hl
 have hN := layN hl
 refine fn_intro en97 Tryz.func97 rfl rfl rfl fun Fr w0 => t_nm ?_
 refine rt_open .here fun vc => ?_
 refine t_shape (.there .here) fun _ hvc => ?_
 obtain ⟨a0, cap, rfl, ha, _, _⟩ := hvc
 refine sr<|asg O O<|asg O O<|lc<|t_seq<|sr<|mv O O<|l_q O (q_nilCheck O)<|l_q O (qfa 18 rfl yU45 O O yS4)<|l_q O (qld O yA4) ?_
 refine lc<|t_if O (fun z => ?_) fun z => ?_
 ·skip
  have hc : groupX l x k = (0, 24) := by unfold groupX; rw [if_pos z]
  rw [hc]
  refine sr<|asg O O<|asg O O<|lc<|rt ?_
  apply f_ret (.inl rfl) ([rtH pr l x])
  ·apply res2 O
   ·exact .tmp rfl
   ·exact .tmp rfl
  ·exact ⟨rfl, rfl⟩
  ·refine rt_close (.slice a0 (8 * x.n) cap) ?_; (exact en)
 ·refine t_skip<|n_code<|t_seq<|sr<|mv O O<|l_q O (qi O O (b_lss ·))<|mv O O<|l_pt (t := 12) rfl (fun z1 => ?_) fun z1 => ?_
  ·skip
   have hc : groupX l x k = (0, 60) := by unfold groupX; rw [if_neg (by simp [z]), if_pos (.inl z1)]
   rw [hc]
   refine l_off O O O O<|l_off O O O O<|l_off O O O O<|l_off O O O O<|l_off O O O O<|l_off O O O O<|l_off O O O O<|l_off O O O O<|l_q O (q_pk O O)<|lc<|t_cond_t O<|sr<|asg O O<|asg O O<|lc<|rt ?_
   apply f_ret (.inl rfl) ([rtH pr l x])
   ·apply res2 O
    ·exact .tmp rfl
    ·exact .tmp rfl
   ·exact ⟨rfl, rfl⟩
   ·refine rt_close (.slice a0 (8 * x.n) cap) ?_; (exact en)
  ·refine l_on O O<|mv O O<|l_on O O<|mv O O<|l_on O O<|l_q O (q_nilCheck O)<|l_on O O<|l_q O (qfa 19 rfl yU45 O O yS43)<|l_on O O<|l_q O (qld O yA43) ?_
   refine l_on O O<|l_q O (ql O yU43)<|l_on O O<|l_q O (qquo O O) ?_
   refine l_on O O<|l_q O (qi O O (b_geq ·))<|l_q O (q_pk O O)<|lc<|t_if O (fun z2 => ?_) fun z2 => ?_
   ·skip
    have hc : groupX l x k = (0, 60) := by unfold groupX; rw [if_neg (by simp [z]), if_pos (.inr (by omega))]
    rw [hc]
    refine sr<|asg O O<|asg O O<|lc<|rt ?_
    apply f_ret (.inl rfl) ([rtH pr l x])
    ·apply res2 O
     ·exact .tmp rfl
     ·exact .tmp rfl
    ·exact ⟨rfl, rfl⟩
    ·refine rt_close (.slice a0 (8 * x.n) cap) ?_; (exact en)
   ·skip
    obtain ⟨j, rfl⟩ := Int.eq_ofNat_of_zero_le (show 0 ≤ k by omega)
    have hgo := hgo (by simpa using z)
    have hj : j < 8192 := by omega
    have hjg : ((j : Nat) : Int) * l.group = ((j * gN l : Nat) : Int) := by rw [Int.natCast_mul, hN.g]
    have hjb : j * gN l ≤ 8192 * gN l := Nat.mul_le_mul_right _ (by omega)
    have hgb := hN.g
    have hc : groupX l x ((j : Nat) : Int) = ((x.go : Int) + ((j : Nat) : Int) * l.group, 0) := by unfold groupX; rw [if_neg (by simp [z]), if_neg (by omega)]
    rw [hc]
    refine t_skip<|n_code<|t_seq<|t_draw mixed ?_
    apply dq 0 rfl
    ·exact yq (q_move O)
    apply dq 1 rfl
    ·exact yq (q_nilCheck O)
    apply dq 2 rfl
    ·exact yq (qfa 11 rfl yU45 O O yS3)
    apply dq 3 rfl
    ·exact yq (qld O yA3)
    apply dq 4 rfl
    ·exact yq (q_move O)
    apply dq 5 rfl
    ·exact yq (q_move O)
    apply dq 6 rfl
    ·exact yq (q_nilCheck O)
    apply dq 7 rfl
    ·exact yq (qfa 1 rfl yU45 O O yS34)
    apply dq 8 rfl
    ·exact yq (qfa 8 rfl yU34 O O yS3)
    apply dq 9 rfl
    ·exact yq (qld O yA3)
    apply dq 10 rfl
    ·exact yq (qmul O O)
    apply dq 11 rfl
    ·exact yq (qadd O O)
    refine d_eff1 [11, 0, 1, 2, 3, 4, 5, 6, 7, 8, 9, 10] [] 12 [(33, _)] gO ⟨rfl, trivial⟩ (by kernel_rfl) (by kernel_rfl) fun Ex => ?_
    refine asg O O<|l_nil ?_
    apply n_d
    ·exact trivial
    refine d_eff1 [] [] 13 [] gO trivial (by kernel_rfl) (by kernel_rfl) fun Ex => ?_
    refine asg O O<|l_nil ?_
    apply n_d
    ·exact trivial
    refine d_end (by kernel_rfl) ?_
    refine n_code<|rt ?_
    apply f_ret (.inl rfl) ([rtH pr l x])
    ·apply res2 O
     ·exact .tmp rfl
     ·exact .tmp rfl
    ·exact ⟨rfl, rfl⟩
    ·refine rt_close (.slice a0 (8 * x.n) cap) ?_; (exact en)
theorem RPin_ok (v : Int) (hv : -9223372036854775808 ≤ v ∧ v ≤ 9223372036854775807) : FnOk Tryz.prog 87 #[.pointer (some ⟨x.p, 0, none⟩), .int .i64 v] [rtH pr l x] (fun r L => r = .tuple #[.int .i64 (pinX x v).1, .int .i64 (pinX x v).2.1] ∧ L = [rtH pr l { x with T := (pinX x v).2.2 }]) := by
 have hp := hr.pins
 have hneg : IntKind.i64.wrap (0 - x.T.pins) = -x.T.pins := by rw [wrap_i64 (by omega)]; omega
 refine fn_intro en87 Tryz.func87 rfl rfl rfl fun Fr w0 => t_nm ?_
 refine rt_open .here fun vc => ?_
 refine sr<|asg O O<|asg O O<|lc<|t_seq<|sr<|mv O O<|l_q O (q_nilCheck O)<|l_q O (qfa 18 rfl yU45 O O yS4)<|l_q O (qld O yA4) ?_
 refine lc<|t_if O (fun z => ?_) fun z => ?_
 ·skip
  have hc : pinX x v = (0, 24, x.T) := by unfold pinX; rw [if_pos z]
  rw [hc]
  refine sr<|asg O O<|asg O O<|lc<|rt ?_
  apply f_ret (.inl rfl) ([rtH pr l x])
  ·apply res2 O
   ·exact .tmp rfl
   ·exact .tmp rfl
  ·exact ⟨rfl, rfl⟩
  ·refine rt_close vc ?_; (exact en)
 ·refine t_skip<|n_code<|t_seq<|sr<|mv O O<|mv O O<|l_q O (q_nilCheck O)<|l_q O (qfa 15 rfl yU45 O O yS3)<|l_q O (qld O yA3) ?_
  refine l_q O (q_un O (u_neg ·))<|l_q O (qi O O (b_lss ·))<|mv O O<|l_pt (t := 17) rfl (fun z1 => ?_) fun z1 => ?_
  ·skip
   rw [hneg] at z1
   have hc : pinX x v = (0, 83, x.T) := by unfold pinX; rw [if_neg (by simp [z]), if_pos (.inl z1)]
   rw [hc]
   refine l_off O O O O<|l_off O O O O<|l_off O O O O<|l_off O O O O<|l_off O O O O<|l_off O O O O<|l_off O O O O<|l_q O (q_pk O O)<|lc<|t_cond_t O<|sr<|asg O O<|asg O O<|lc<|rt ?_
   apply f_ret (.inl rfl) ([rtH pr l x])
   ·apply res2 O
    ·exact .tmp rfl
    ·exact .tmp rfl
   ·exact ⟨rfl, rfl⟩
   ·refine rt_close vc ?_; (exact en)
  ·skip
   rw [hneg] at z1
   refine l_on O O<|mv O O<|l_on O O<|mv O O<|l_on O O<|l_q O (q_nilCheck O)<|l_on O O<|l_q O (qfa 15 rfl yU45 O O yS3)<|l_on O O<|l_q O (qld O yA3) ?_
   refine l_on O O<|l_q O (qsub O O) ?_
   refine l_on O O<|l_q O (qi O O (b_gtr ·))<|l_q O (q_pk O O)<|lc<|t_if O (fun z2 => ?_) fun z2 => ?_
   ·skip
    have hc : pinX x v = (0, 83, x.T) := by unfold pinX; rw [if_neg (by simp [z]), if_pos (.inr z2)]
    rw [hc]
    refine sr<|asg O O<|asg O O<|lc<|rt ?_
    apply f_ret (.inl rfl) ([rtH pr l x])
    ·apply res2 O
     ·exact .tmp rfl
     ·exact .tmp rfl
    ·exact ⟨rfl, rfl⟩
    ·refine rt_close vc ?_; (exact en)
   ·skip
    have hc : pinX x v = (x.T.pins + v, 0, { x.T with pins := x.T.pins + v }) := by unfold pinX; rw [if_neg (by simp [z]), if_neg (by omega)]
    rw [hc]
    refine t_skip<|nz<|mv O O<|mv O O<|l_q O (q_nilCheck O)<|l_q O (qfa 15 rfl yU45 O O yS3)<|l_q O (qld O yA3) ?_
    refine mv O O<|l_q O (qadd O O) ?_
    refine l_q O (q_nilCheck O)<|l_q O (qfa 15 rfl yU45 O O yS3)<|st O O O yS3 O ?_
    refine lz<|mv O O<|l_q O (q_nilCheck O)<|l_q O (qfa 15 rfl yU45 O O yS3)<|l_q O (qld O yA3) ?_
    refine asg O O<|asg O O<|lc<|rt ?_
    apply f_ret (.inl rfl) ([rtH pr l { x with T := { x.T with pins := x.T.pins + v } }])
    ·apply res2 O
     ·exact .tmp rfl
     ·exact .tmp rfl
    ·exact ⟨rfl, rfl⟩
    ·refine rt_close vc ?_; (exact en)
theorem RRetire_ok (v : Int) : FnOk Tryz.prog 89 #[.pointer (some ⟨x.p, 0, none⟩), .int .i64 v] [rtH pr l x] (fun r L => r = .int .i64 (retireX x v).1 ∧ L = [rtH pr l { x with T := (retireX x v).2 }]) := by
 refine fn_intro en89 Tryz.func89 rfl rfl rfl fun Fr w0 => t_nm ?_
 refine rt_open .here fun vc => ?_
 refine sr<|asg O O<|lc<|t_seq<|sr<|mv O O<|l_q O (q_nilCheck O)<|l_q O (qfa 18 rfl yU45 O O yS4)<|l_q O (qld O yA4) ?_
 refine lc<|t_if O (fun z => ?_) fun z => ?_
 ·skip
  have hc : retireX x v = (24, x.T) := by unfold retireX; rw [if_pos z]
  rw [hc]
  refine sr<|asg O O<|lc<|rt ?_
  apply f_ret (.inl rfl) ([rtH pr l x])
  ·apply res1 O
   ·exact .tmp rfl
  ·exact ⟨rfl, rfl⟩
  ·refine rt_close vc ?_; (exact en)
 ·skip
  have hc : retireX x v = (0, { x.T with next := v, kind := 4 }) := by unfold retireX; rw [if_neg (by simp [z])]
  rw [hc]
  refine t_skip<|nz<|mv O O<|l_q O (q_nilCheck O)<|l_q O (qfa 17 rfl yU45 O O yS4)<|st O O O yS4 O ?_
  refine lz<|mv O O<|mv O O<|l_q O (q_nilCheck O)<|l_q O (qfa 16 rfl yU45 O O yS3)<|st O O O yS3 O ?_
  refine lz<|asg O O<|lc<|rt ?_
  apply f_ret (.inl rfl) ([rtH pr l { x with T := { x.T with next := v, kind := 4 } }])
  ·apply res1 O
   ·exact .tmp rfl
  ·exact ⟨rfl, rfl⟩
  ·refine rt_close vc ?_; (exact en)
theorem RNext_ok (v : Int) : FnOk Tryz.prog 91 #[.pointer (some ⟨x.p, 0, none⟩), .int .i64 v] [rtH pr l x] (fun r L => r = .int .i64 (nextX x v).1 ∧ L = [rtH pr l { x with T := (nextX x v).2 }]) := by
 refine fn_intro en91 Tryz.func91 rfl rfl rfl fun Fr w0 => t_nm ?_
 refine rt_open .here fun vc => ?_
 refine sr<|asg O O<|lc<|t_seq<|sr<|mv O O<|l_q O (q_nilCheck O)<|l_q O (qfa 18 rfl yU45 O O yS4)<|l_q O (qld O yA4) ?_
 refine lc<|t_if O (fun z => ?_) fun z => ?_
 ·skip
  have hc : nextX x v = (24, x.T) := by unfold nextX; rw [if_pos z]
  rw [hc]
  refine sr<|asg O O<|lc<|rt ?_
  apply f_ret (.inl rfl) ([rtH pr l x])
  ·apply res1 O
   ·exact .tmp rfl
  ·exact ⟨rfl, rfl⟩
  ·refine rt_close vc ?_; (exact en)
 ·skip
  have hc : nextX x v = (0, { x.T with next := v }) := by unfold nextX; rw [if_neg (by simp [z])]
  rw [hc]
  refine t_skip<|nz<|mv O O<|mv O O<|l_q O (q_nilCheck O)<|l_q O (qfa 16 rfl yU45 O O yS3)<|st O O O yS3 O ?_
  refine lz<|asg O O<|lc<|rt ?_
  apply f_ret (.inl rfl) ([rtH pr l { x with T := { x.T with next := v } }])
  ·apply res1 O
   ·exact .tmp rfl
  ·exact ⟨rfl, rfl⟩
  ·refine rt_close vc ?_; (exact en)
theorem RLeft_ok (v : Int) (hv : -9223372036854775808 ≤ v ∧ v ≤ 9223372036854775807) : FnOk Tryz.prog 85 #[.pointer (some ⟨x.p, 0, none⟩), .int .i64 v] [rtH pr l x] (fun r L => r = .int .i64 (leftX x v).1 ∧ L = [rtH pr l { x with T := (leftX x v).2 }]) := by
 have hl0 := hr.left0
 have hl1 := hr.left1
 have hneg : IntKind.i64.wrap (0 - x.T.left) = -x.T.left := by rw [wrap_i64 (by omega)]; omega
 refine fn_intro en85 Tryz.func85 rfl rfl rfl fun Fr w0 => t_nm ?_
 refine rt_open .here fun vc => ?_
 refine t_shape (.there .here) fun _ hvc => ?_
 obtain ⟨a0, cap, rfl, ha, _, _⟩ := hvc
 refine sr<|asg O O<|lc<|t_seq<|sr<|mv O O<|l_q O (q_nilCheck O)<|l_q O (qfa 18 rfl yU45 O O yS4)<|l_q O (qld O yA4) ?_
 refine lc<|t_if O (fun z => ?_) fun z => ?_
 ·skip
  have hc : leftX x v = (24, x.T) := by unfold leftX; rw [if_pos z]
  rw [hc]
  refine sr<|asg O O<|lc<|rt ?_
  apply f_ret (.inl rfl) ([rtH pr l x])
  ·apply res1 O
   ·exact .tmp rfl
  ·exact ⟨rfl, rfl⟩
  ·refine rt_close (.slice a0 (8 * x.n) cap) ?_; (exact en)
 ·refine t_skip<|nz<|asg O O<|lc<|t_seq<|sr<|asg O O<|lc<|t_block ?_
  refine t_loop (fun i : Nat => i ≤ 8 * x.n) (fun i => [(0, .pointer (some ⟨x.p, 0, none⟩)), (1, .int .i64 v), (5, .int .i64 (takenN x.T.cells i : Nat)), (6, .int .i64 (i : Nat))]) (fun _ => pt x.p (.cells #[.pointer (some ⟨pr, 0, none⟩), .int .i64 l.key, .int .i64 l.elem, .int .i64 l.ka, .int .i64 l.ea, .int .i64 l.cap, .int .i64 l.eo, .int .i64 l.bo, .int .i64 l.slot, .int .i64 l.group, .int .i64 (x.off : Nat), .int .i64 (x.go : Nat), .int .i64 x.T.used, .int .i64 x.T.left, .int .i64 x.T.depth, .int .i64 x.T.pins, .int .i64 x.T.next, .bool (decide (x.T.kind = 4)), .bool x.dead, (.slice a0 (8 * x.n) cap)] 45 (0, 0)) :: ownS 142 5 (.slice a0 (8 * x.n) cap) (8 * x.n) (rowOf cellV (firstL x.T.cells (8 * x.n))) :: Fr) (fun i => 8 * x.n - i) 0 (Nat.zero_le _) ⟨rfl, rfl, rfl, rfl, trivial⟩ (by (exact en)) ?_
  intro i hi
  refine t_seq<|sr<|mv O O<|mv O O<|l_q O (q_nilCheck O)<|l_q O (qfa 19 rfl yU45 O O yS43)<|l_q O (qld O yA43) ?_
  refine l_q O (ql O yU43)<|l_q O (qi O O (b_lss ·))<|lc<|t_if O (fun h1 => ?_) fun h1 => ?_
  ·skip
   obtain ⟨g0, rfl⟩ := ha (by omega)
   have hkind : (rowOf cellV (firstL x.T.cells (8 * x.n)))[0 + ((i : Nat) : Int).toNat * 5 + 0]? = some (.int .i64 (x.T.cells i).kind) := by
    rw [show 0 + ((i : Nat) : Int).toNat * 5 + 0 = i * 5 + 0 by omega, cells_row x.T.cells (by omega) 0 (by decide)]
    rfl
   have hts : takenN x.T.cells (i + 1) = takenN x.T.cells i + if (!isEmp (x.T.cells i)) = true then 1 else 0 := cnt_succ _ _ _
   have htl := cnt_le (fun c => !isEmp c) x.T.cells i
   have hts2 : takenN x.T.cells i ≤ i := htl
   refine t_skip<|n_code<|t_seq<|t_block<|sr<|mv O O<|l_q O (q_nilCheck O)<|l_q O (qfa 19 rfl yU45 O O yS43)<|l_q O (qld O yA43) ?_
   refine mv O O<|l_q O (q_indexAddr O O yU43 yS142 (by omega)) ?_
   refine l_q O (qfa 0 rfl yU142 O O yS3) ?_
   apply l_q O
   ·apply q_loadOwn O yA3
    ·exact tk
    ·exact hkind
   refine l_q O (qi O O (b_neq ·))<|lc<|t_if O (fun q => ?_) fun q => ?_
   ·skip
    have hne : isEmp (x.T.cells i) = false := by cases he : isEmp (x.T.cells i) with | false => rfl | true => exact absurd (kind_empty.2 he) q
    rw [hne] at hts
    simp only [Bool.not_false, if_true] at hts
    refine t_region<|mv O O<|l_q O (qadd O O) ?_
    refine asg O O<|l_nil<|n_blk<|n_code<|t_region<|mv O O<|l_q O (qadd O O) ?_
    refine asg O O<|l_nil ?_
    apply n_again ((i + 1))
    ·exact by omega
    ·omega
    ·exact ⟨rfl, rfl, congrArg (fun z => some (Value.int .i64 z)) (by omega), rfl, trivial⟩
    ·exact en
   ·skip
    have hne : isEmp (x.T.cells i) = true := kind_empty.1 (by simpa using q)
    rw [hne] at hts
    simp only [Bool.not_true, Bool.false_eq_true, if_false] at hts
    refine t_skip<|n_blk<|n_code<|t_region<|mv O O<|l_q O (qadd O O) ?_
    refine asg O O<|l_nil ?_
    apply n_again ((i + 1))
    ·exact by omega
    ·omega
    ·exact ⟨rfl, rfl, congrArg (fun z => some (Value.int .i64 z)) (by omega), rfl, trivial⟩
    ·exact en
  ·skip
   obtain rfl : i = 8 * x.n := by omega
   have hte := taken_eq x.T.cells (8 * x.n)
   refine xt O<|n_code<|t_seq<|t_seq<|t_draw mixed ?_
   apply dq 0 rfl
   ·exact yq (q_move O)
   apply dq 1 rfl
   ·exact yq (q_move O)
   apply dq 2 rfl
   ·exact yq (q_nilCheck O)
   apply dq 3 rfl
   ·exact yq (qfa 13 rfl yU45 O O yS3)
   apply dq 4 rfl
   ·exact yq (qld O yA3)
   apply dq 5 rfl
   ·exact yq (q_un O (u_neg ·))
   apply dq 6 rfl
   ·exact yq (qi O O (b_lss ·))
   apply dq 7 rfl
   ·exact yq (q_move O)
   rw [hneg]
   refine d_pt (t := 38) rfl (fun p1 => ?_) fun p1 => ?_
   ·skip
    have hc : leftX x v = (82, x.T) := by unfold leftX; rw [if_neg (by simp [z]), if_pos (.inl p1)]
    rw [hc]
    apply dq 8 rfl
    ·exact yq_off O O O (by intro k; simp)
    apply dq 9 rfl
    ·exact yq_off O O O (by intro k; simp)
    apply dq 10 rfl
    ·exact yq_off O O O (by intro k; simp)
    apply dq 11 rfl
    ·exact yq_off O O O (by intro k; simp)
    apply dq 12 rfl
    ·exact yq_off O O O (by intro k; simp)
    apply dq 13 rfl
    ·exact yq_off O O O (by intro k; simp)
    apply dq 15 rfl
    ·exact yq_off O O O (by intro k; simp)
    apply dq 17 rfl
    ·exact yq_off O O O (by intro k; simp)
    apply dq 18 rfl
    ·exact yq_off O O O (by intro k; simp)
    apply dq 19 rfl
    ·exact yq_off O O O (by intro k; simp)
    apply dq 20 rfl
    ·exact yq_off O O O (by intro k; simp)
    refine d_eff1 [13, 7, 12, 6, 11, 0, 5, 10, 4, 9, 3, 2, 1] [20, 19, 18, 17, 15, 8] 14 [(44, _), (38, _)] gO ⟨rfl, rfl, trivial⟩ (by kernel_rfl) (by kernel_rfl) fun Ex => ?_
    refine l_off O O O O<|l_nil ?_
    apply n_d
    ·refine ⟨?_, ?_, ?_, ?_, ?_, ?_, trivial⟩
     ·apply ya O O; exact yq_off O O O (by intro k; simp)
     ·apply ya O O; exact yq_off O O O (by intro k; simp)
     ·apply ya O O; exact yq_off O O O (by intro k; simp)
     ·apply ya O O; exact yq_off O O O (by intro k; simp)
     ·apply ya O O; exact yq_off O O O (by intro k; simp)
     ·apply ya O O; exact yq_off O O O (by intro k; simp)
    apply dq 16 rfl
    ·exact yq_off O O O (by intro k; simp)
    apply dq 21 rfl
    ·exact yq_off O O O (by intro k; simp)
    apply dq 22 rfl
    ·exact yq_off O O O (by intro k; simp)
    apply dq 23 rfl
    ·exact yq (q_pk O O)
    refine d_end (by kernel_rfl) ?_
    refine n_code<|t_cond_t O<|sr<|asg O O<|lc<|rt ?_
    apply f_ret (.inl rfl) ([rtH pr l x])
    ·apply res1 O
     ·exact .tmp rfl
    ·exact ⟨rfl, rfl⟩
    ·refine rt_close (.slice a0 (8 * x.n) cap) ?_; (exact en)
   ·apply dq 8 rfl
    ·exact yq_on O O (q_move O)
    apply dq 9 rfl
    ·exact yq_on O O (q_move O)
    apply dq 10 rfl
    ·exact yq_on O O (q_nilCheck O)
    apply dq 11 rfl
    ·exact yq_on O O (qfa 19 rfl yU45 O O yS43)
    apply dq 12 rfl
    ·exact yq_on O O (qld O yA43)
    apply dq 13 rfl
    ·exact yq_on O O (ql O yU43)
    apply dq 15 rfl
    ·exact yq_on O O (q_move O)
    apply dq 17 rfl
    ·exact yq_on O O (q_move O)
    apply dq 18 rfl
    ·exact yq_on O O (q_nilCheck O)
    apply dq 19 rfl
    ·exact yq_on O O (qfa 13 rfl yU45 O O yS3)
    apply dq 20 rfl
    ·exact yq_on O O (qld O yA3)
    refine d_eff1 [13, 7, 12, 6, 11, 0, 5, 10, 4, 9, 3, 2, 1] [20, 19, 18, 17, 15, 8] 14 [(44, _), (38, _)] gO ⟨rfl, rfl, trivial⟩ (by kernel_rfl) (by kernel_rfl) fun Ex => ?_
    refine l_on O O<|lcf O O O (Most08_ok _ (by omega)) ?_
    rintro v2 L' ⟨rfl, rfl⟩
    refine l_nm ?_
    refine l_nil ?_
    apply n_d
    ·refine ⟨?_, ?_, ?_, ?_, ?_, ?_, trivial⟩
     ·apply ya O O; exact yq_on O O (qld O yA3)
     ·apply ya O O; exact yq_on O O (qfa 13 rfl yU45 O O yS3)
     ·apply ya O O; exact yq_on O O (q_nilCheck O)
     ·apply ya O O; exact yq_on O O (q_move O)
     ·apply ya O O; exact yq_on O O (q_move O)
     ·apply ya O O; exact yq_on O O (q_move O)
    apply dq 16 rfl
    ·exact yq_on O O (qsub O O)
    apply dq 21 rfl
    ·exact yq_on O O (qsub O O)
    apply dq 22 rfl
    ·exact yq_on O O (qi O O (b_gtr ·))
    apply dq 23 rfl
    ·exact yq (q_pk O O)
    refine d_end (by kernel_rfl) ?_
    refine n_code<|t_if O (fun p2 => ?_) fun p2 => ?_
    ·skip
     have hc : leftX x v = (82, x.T) := by unfold leftX; rw [if_neg (by simp [z]), if_pos (.inr (by omega))]
     rw [hc]
     refine sr<|asg O O<|lc<|rt ?_
     apply f_ret (.inl rfl) ([rtH pr l x])
     ·apply res1 O
      ·exact .tmp rfl
     ·exact ⟨rfl, rfl⟩
     ·refine rt_close (.slice a0 (8 * x.n) cap) ?_; (exact en)
    ·skip
     have hc : leftX x v = (0, { x.T with left := x.T.left + v }) := by unfold leftX; rw [if_neg (by simp [z]), if_neg (by omega)]
     rw [hc]
     refine t_skip<|nz<|mv O O<|mv O O<|l_q O (q_nilCheck O)<|l_q O (qfa 13 rfl yU45 O O yS3)<|l_q O (qld O yA3) ?_
     refine mv O O<|l_q O (qadd O O) ?_
     refine l_q O (q_nilCheck O)<|l_q O (qfa 13 rfl yU45 O O yS3)<|st O O O yS3 O ?_
     refine lz<|asg O O<|lc<|rt ?_
     apply f_ret (.inl rfl) ([rtH pr l { x with T := { x.T with left := x.T.left + v } }])
     ·apply res1 O
      ·exact .tmp rfl
     ·exact ⟨rfl, rfl⟩
     ·refine rt_close (.slice a0 (8 * x.n) cap) ?_; (exact en)
theorem RFree_tab (s : ArS) (hs : s.ok) (hlv : x.dead = false → x.off ≠ x.go ∧ (∃ c, (((x.off : Nat) : Int), c) ∈ s.bl) ∧ ∃ c, (((x.go : Nat) : Int), c) ∈ s.bl) : FnOk Tryz.prog 93 #[.pointer (some ⟨x.p, 0, none⟩)] [rtH pr l x, rarH pr s] (fun v L => v = .int .i64 (freeX x) ∧ ((x.dead = true ∧ L = [rtH pr l x, rarH pr s]) ∨ (x.dead = false ∧ L = [rtH pr l { x with dead := true }, rarH pr (s.gives [((x.off : Nat) : Int), ((x.go : Nat) : Int)])]))) := by
 refine fn_intro en93 Tryz.func93 rfl rfl rfl fun Fr w0 => t_nm ?_
 refine rt_open .here fun vc => ?_
 refine sr<|asg O O<|lc<|t_seq<|sr<|mv O O<|l_q O (q_nilCheck O)<|l_q O (qfa 18 rfl yU45 O O yS4)<|l_q O (qld O yA4) ?_
 refine lc<|t_if O (fun z => ?_) fun z => ?_
 ·skip
  have hc : freeX x = 24 := by unfold freeX; rw [if_pos z]
  rw [hc]
  refine sr<|asg O O<|lc<|rt ?_
  apply f_ret (.inl rfl) ([rtH pr l x, rarH pr s])
  ·apply res1 O
   ·exact .tmp rfl
  ·exact ⟨rfl, .inl ⟨z, rfl⟩⟩
  ·refine rt_close vc ?_; (exact en)
 ·skip
  have hc : freeX x = 0 := by unfold freeX; rw [if_neg (by simp [z])]
  rw [hc]
  obtain ⟨hne, h1, h2⟩ := hlv (by simpa using z)
  refine t_skip<|nz<|mv O O<|l_q O (q_nilCheck O)<|l_q O (qfa 18 rfl yU45 O O yS4)<|st O O O yS4 O ?_
  refine lc<|t_seq<|t_draw mixed ?_
  apply dq 0 rfl
  ·exact yq (q_move O)
  apply dq 1 rfl
  ·exact yq (q_nilCheck O)
  apply dq 2 rfl
  ·exact yq (qfa 0 rfl yU45 O O yS32)
  apply dq 3 rfl
  ·exact yq (qld O yA32)
  apply dq 4 rfl
  ·exact yq (q_move O)
  apply dq 5 rfl
  ·exact yq (q_nilCheck O)
  apply dq 6 rfl
  ·exact yq (qfa 10 rfl yU45 O O yS3)
  apply dq 7 rfl
  ·exact yq (qld O yA3)
  apply dq 8 rfl
  ·exact yq (q_move O)
  apply dq 9 rfl
  ·exact yq (q_nilCheck O)
  apply dq 10 rfl
  ·exact yq (qfa 11 rfl yU45 O O yS3)
  apply dq 11 rfl
  ·exact yq (qld O yA3)
  refine d_eff1 [7, 11, 6, 10, 5, 9, 4, 8] [3, 2, 1, 0] 12 [(17, _), (21, _)] gO ⟨rfl, rfl, trivial⟩ (by kernel_rfl) (by kernel_rfl) fun Ex => ?_
  refine o_buildSlice1 [_, _] rfl rfl yU22 yS3 yZ3 O O O O (fun b22 => ?_)
  refine l_nil ?_
  apply n_d
  ·refine ⟨?_, ?_, ?_, ?_, trivial⟩
   ·apply ya O O; exact yq (qld O yA32)
   ·apply ya O O; exact yq (qfa 0 rfl yU45 O O yS32)
   ·apply ya O O; exact yq (q_nilCheck O)
   ·apply ya O O; exact yq (q_move O)
  refine d_eff1 [3, 2, 1, 0] [] 13 [(13, _), (22, _)] gO ⟨rfl, rfl, trivial⟩ (by kernel_rfl) (by kernel_rfl) fun Ex => ?_
  refine lc1 O O O (RFree2_ok pr s hs b22 ((x.off : Nat) : Int) ((x.go : Nat) : Int) (by omega) h1 h2) ?_
  refine l_nil ?_
  apply n_d
  ·exact trivial
  refine d_eff1 [] [] 14 [(23, _)] gO ⟨rfl, trivial⟩ (by kernel_rfl) (by kernel_rfl) fun Ex => ?_
  refine asg O O<|l_nil ?_
  apply n_d
  ·exact trivial
  refine d_end (by kernel_rfl) ?_
  refine n_code<|rt ?_
  apply f_ret (.inl rfl) ([rtH pr l { x with dead := true }, rarH pr (s.gives [((x.off : Nat) : Int), ((x.go : Nat) : Int)])])
  ·apply res1 O
   ·exact .tmp rfl
  ·exact ⟨rfl, .inr ⟨by simpa using z, rfl⟩⟩
  ·refine rt_close vc ?_; (exact en)
end
theorem pt_cellR {b o : Nat} {cs : Array Value} {t : TypeId} {r : Nat × Nat} {v : Value} (hv : cs[o]? = some v) : CellAt (pt b (.cells cs t r)) ⟨b, o, none⟩ v := fun w hs => by
 have := pt_block hs
 simp [World.cell?, this, hv]
theorem ParseL_ok (b : Nat) (l : Lay) (hl : l.err = 0) : FnOk Tryz.prog 25 #[.slice (some ⟨b, 0, none⟩) 5 5] [pt b (.cells #[.int .i64 l.key, .int .i64 l.elem, .int .i64 l.ka, .int .i64 l.ea, .int .i64 l.cap] 3 (0, 0))] (fun v L => v = .tuple #[.agg #[.int .i64 l.key, .int .i64 l.elem, .int .i64 l.ka, .int .i64 l.ea, .int .i64 l.cap, .int .i64 l.eo, .int .i64 l.bo, .int .i64 l.slot, .int .i64 l.group], .int .i64 0] ∧ L = [pt b (.cells #[.int .i64 l.key, .int .i64 l.elem, .int .i64 l.ka, .int .i64 l.ea, .int .i64 l.cap] 3 (0, 0))]) := by
 refine FnOk.mono (Ref03.fiveParse_ok (pt b (.cells #[.int .i64 l.key, .int .i64 l.elem, .int .i64 l.ka, .int .i64 l.ea, .int .i64 l.cap] 3 (0, 0))) b 0 5 l fun i x hx => pt_cellR ?_) fun v L h => ?_
 ·rw [Nat.zero_add]
  match i, hx with
  | 0, hx | 1, hx | 2, hx | 3, hx | 4, hx => cases hx; rfl
  | i + 5, hx => simp at hx
 ·obtain ⟨rfl, rfl⟩ := h
  have ho : ∀ x, l.o x = x := fun x => if_pos hl
  simp only [ho, hl]
  exact ⟨trivial, trivial⟩
theorem decT {p : Prop} {i : Decidable p} (h : p) : decide p = true := by simp [h]
theorem Valid_ok (l : Lay) (hl : l.err = 0) : FnOk Tryz.prog 204 #[.agg #[.int .i64 l.key, .int .i64 l.elem, .int .i64 l.ka, .int .i64 l.ea, .int .i64 l.cap, .int .i64 l.eo, .int .i64 l.bo, .int .i64 l.slot, .int .i64 l.group]] [] (fun v L => v = .bool true ∧ L = []) := by
 refine fn_intro en204 Tryz.func204 rfl rfl rfl fun Fr w0 => t_nm ?_
 refine sr<|o_boxA O O fun b1 => asg O O<|lz<|l_q O (qfa 0 rfl yU34 O O yS3)<|l_q O (qld O yA3) ?_
 refine l_q O (qfa 1 rfl yU34 O O yS3)<|l_q O (qld O yA3) ?_
 refine l_q O (qfa 2 rfl yU34 O O yS3)<|l_q O (qld O yA3) ?_
 refine l_q O (qfa 3 rfl yU34 O O yS3)<|l_q O (qld O yA3) ?_
 refine l_q O (qfa 4 rfl yU34 O O yS3)<|l_q O (qld O yA3) ?_
 refine o_buildSlice1 [_, _, _, _, _] rfl rfl yU22 yS3 yZ3 O O O O (fun b16 => ?_)
 refine lc1 O O O (ParseL_ok b16 l hl) ?_
 refine mv O O<|l_q O (q_extractL O ga) ?_
 refine l_q O (q_extractL O ga) ?_
 refine o_allocA O yZ34 fun b3 => sta O O O yS34 O O ?_
 refine asg O O<|lz<|mv O O<|l_q O (qi O O (b_eql ·))<|mv O O<|l_pt (t := 22) rfl (fun z1 => ?_) fun z1 => ?_
 ·refine l_on O O<|l_q O (qlda O yA34 yS34) ?_
  refine l_on O O<|l_q O (qlda O yA34 yS34) ?_
  refine l_on O O<|l_q O (q_bin O O (g_flat · yG34) fun w => b_eqlFlat w yU34 yH34 (by kernel_rfl) (by kernel_rfl)) ?_
  refine l_q O (q_pk O O)<|asg O O<|lc<|rt<|fr1 O ([]) (.tmp rfl) ?_
  exact ⟨by rw [decT rfl], rfl⟩
 ·exact absurd rfl z1
theorem RGroups_ok (l : Lay) (hl : l.err = 0) (n e : Nat) (he : e ≤ 13) (hn : n = 2 ^ e) (sl : Int) (hsl : sl = 8 * (n : Int)) : FnOk Tryz.prog 145 #[.agg #[.int .i64 l.key, .int .i64 l.elem, .int .i64 l.ka, .int .i64 l.ea, .int .i64 l.cap, .int .i64 l.eo, .int .i64 l.bo, .int .i64 l.slot, .int .i64 l.group], .int .i64 sl] [] (fun v L => v = .int .i64 ((n * gN l : Nat) : Int) ∧ L = []) := by
 have hN := layN hl
 have hbd := Lay.bnd hl
 have hg := hN.g
 have h13 : 2 ^ e ≤ 2 ^ 13 := Nat.pow_le_pow_right (by decide) he
 refine fn_intro en145 Tryz.func145 rfl rfl rfl fun Fr w0 => t_nm ?_
 refine sr<|o_boxA O O fun b2 => asg O O<|lz<|l_q O (qlda O yA34 yS34) ?_
 refine lc1 O O O (Valid_ok l hl) ?_
 refine asg O O<|lc<|t_seq<|sr<|mv O O<|l_q O (q_un O (u_not ·))<|lc<|t_if O (fun z => ?_) fun z => ?_
 ·simp at z
 ·refine t_skip<|nz<|l_q O (qfa 8 rfl yU34 O O yS3)<|l_q O (qld O yA3) ?_
  refine asg O O<|lc<|t_seq<|sr<|asg O O<|lc<|t_block ?_
  refine t_loop (fun j : Nat => j ≤ e) (fun j => [(1, .int .i64 sl), (6, .int .i64 ((gN l * 2 ^ j : Nat) : Int)), (7, .int .i64 ((8 * 2 ^ j : Nat) : Int))]) (fun _ => Fr) (fun j => e - j) 0 (Nat.zero_le _) ⟨rfl, congrArg (fun z => some (Value.int .i64 z)) (by rw [← hg]; simp), rfl, trivial⟩ (by (exact en)) ?_
  intro j hj
  have hj13 : 2 ^ j ≤ 2 ^ e := Nat.pow_le_pow_right (by decide) hj
  have hgj : gN l * 2 ^ j ≤ gN l * 8192 := Nat.mul_le_mul_left _ (by omega)
  have hp1 : 2 ^ (j + 1) = 2 * 2 ^ j := by rw [Nat.pow_succ]; omega
  have hp2 : gN l * 2 ^ (j + 1) = 2 * (gN l * 2 ^ j) := by rw [hp1, Nat.mul_left_comm]
  have hp0 := Nat.two_pow_pos j
  refine t_seq<|sr<|mv O O<|l_q O (qi O O (b_leq ·))<|lc<|t_if O (fun h1 => ?_) fun h1 => ?_
  ·refine t_skip<|n_code<|t_seq<|t_block<|t_seq<|sr<|mv O O<|mv O O<|l_q O (qi O O (b_eql ·))<|lc<|t_if O (fun h2 => ?_) fun h2 => ?_
   ·skip
    have hje : n = 2 ^ j := by omega
    refine sr<|mv O O<|asg O O<|lc<|rt<|fr1 O ([]) (.tmp rfl) ?_
    exact ⟨by rw [hje, Nat.mul_comm], rfl⟩
   ·skip
    have hjl : j < e := by
     rcases Nat.lt_or_ge j e with q | q
     ·exact q
     ·have : j = e := by omega
      subst this
      omega
    refine t_skip<|n_code<|t_region<|mv O O<|l_q O (qmul O O) ?_
    refine asg O O<|l_nil<|n_blk<|n_code<|t_region<|mv O O<|l_q O (qmul O O) ?_
    refine asg O O<|l_nil ?_
    apply n_again ((j + 1))
    ·exact by omega
    ·omega
    ·exact ⟨rfl, congrArg (fun z => some (Value.int .i64 z)) (by omega), congrArg (fun z => some (Value.int .i64 z)) (by omega), trivial⟩
    ·exact en
  ·omega
theorem RNewT_ok (pr : Nat) (s : ArS) (hs : s.ok) (l : Lay) (hl : l.err = 0) (slots depth : Int) (hsl : -9223372036854775808 ≤ slots ∧ slots ≤ 9223372036854775807) :
  FnOk Tryz.prog 58 #[.pointer (some ⟨pr, 0, none⟩), .agg #[.int .i64 l.key, .int .i64 l.elem, .int .i64 l.ka, .int .i64 l.ea, .int .i64 l.cap, .int .i64 l.eo, .int .i64 l.bo, .int .i64 l.slot, .int .i64 l.group], .int .i64 slots, .int .i64 depth] [rarH pr s] (fun v L =>
   (Probe.powB slots 8 65536 = false ∧ v = .tuple #[.pointer none, .int .i64 80] ∧ L = [rarH pr s]) ∨
   (Probe.powB slots 8 65536 = true ∧ (depth < 0 ∨ 6 < depth) ∧ v = .tuple #[.pointer none, .int .i64 81] ∧ L = [rarH pr s]) ∨
   ∃ n e : Nat, n = 2 ^ e ∧ e ≤ 13 ∧ slots = 8 * (n : Int) ∧ (0 ≤ depth ∧ depth ≤ 6) ∧
    (((1048576 < ((n * gN l : Nat) : Int) ∨ s.limit - s.live < 64 + classI ((n * gN l : Nat) : Int)) ∧ v = .tuple #[.pointer none, .int .i64 22] ∧ L = [rarH pr s]) ∨
    (((n * gN l : Nat) : Int) ≤ 1048576 ∧ s.live + (64 + classI ((n * gN l : Nat) : Int)) ≤ s.limit ∧ ∃ p, v = .tuple #[.pointer (some ⟨p, 0, none⟩), .int .i64 0] ∧ L = [rtH pr l (⟨p, s.at 64, (s.take 64).at (classI ((n * gN l : Nat) : Int)), n, e, newT n depth, false, false⟩ : PR), rarH pr ((s.take 64).take (classI ((n * gN l : Nat) : Int)))]))) := by
 have hN := layN hl
 have hbd := Lay.bnd hl
 have hpw := Probe.powB_iff slots 8 3 16 65536 (by decide) (by decide) (by decide)
 refine fn_intro en58 Tryz.func58 rfl rfl rfl fun Fr w0 => t_nm ?_
 refine sr<|o_boxA O O fun b5 => asg O O<|asg O O<|lz<|asg O O<|lc<|t_seq<|sr<|asg O O<|lc<|t_block ?_
 refine t_loop (fun j : Nat => j ≤ 14) (fun j => [(0, .pointer (some ⟨pr, 0, none⟩)), (2, .int .i64 slots), (3, .int .i64 depth), (5, .pointer (some ⟨b5, 0, none⟩)), (10, .bool (decide (∃ i, i < j ∧ slots = 8 * ((2 ^ i : Nat) : Int)))), (11, .int .i64 ((8 * 2 ^ j : Nat) : Int))]) (fun _ => pt b5 (.cells #[.int .i64 l.key, .int .i64 l.elem, .int .i64 l.ka, .int .i64 l.ea, .int .i64 l.cap, .int .i64 l.eo, .int .i64 l.bo, .int .i64 l.slot, .int .i64 l.group] 34 (0, 0)) :: rarH pr s :: Fr) (fun j => 14 - j) 0 (Nat.zero_le _) ⟨rfl, rfl, rfl, rfl, congrArg (fun z => some (Value.bool z)) (by simp), rfl, trivial⟩ (by (exact en)) ?_
 intro j hj
 have hj13 : 2 ^ j ≤ 2 ^ 14 := Nat.pow_le_pow_right (by decide) hj
 have hp1 : 2 ^ (j + 1) = 2 * 2 ^ j := by rw [Nat.pow_succ]; omega
 have hp0 := Nat.two_pow_pos j
 refine t_seq<|sr<|mv O O<|l_q O (qi O O (b_leq ·))<|lc<|t_if O (fun h1 => ?_) fun h1 => ?_
 ·skip
  have hjl : j < 14 := by
   rcases Nat.lt_or_ge j 14 with q | q
   ·exact q
   ·have : j = 14 := by omega
    subst this
    omega
  refine t_skip<|n_code<|t_seq<|t_block<|sr<|mv O O<|mv O O<|l_q O (qi O O (b_eql ·))<|lc<|t_if O (fun h2 => ?_) fun h2 => ?_
  ·skip
   have he : decide (∃ i, i < j + 1 ∧ slots = 8 * ((2 ^ i : Nat) : Int)) = true := decide_eq_true ⟨j, by omega, by omega⟩
   refine t_region<|asg O O<|l_nil<|n_blk<|n_code<|t_region<|mv O O<|l_q O (qmul O O) ?_
   refine asg O O<|l_nil ?_
   apply n_again ((j + 1))
   ·exact by omega
   ·omega
   ·exact ⟨rfl, rfl, rfl, rfl, congrArg (fun z => some (Value.bool z)) he.symm, congrArg (fun z => some (Value.int .i64 z)) (by omega), trivial⟩
   ·exact en
  ·skip
   have he : decide (∃ i, i < j + 1 ∧ slots = 8 * ((2 ^ i : Nat) : Int)) = decide (∃ i, i < j ∧ slots = 8 * ((2 ^ i : Nat) : Int)) := by
    refine decide_eq_decide.2 ⟨fun ⟨i, h1, h2⟩ => ?_, fun ⟨i, h1, h2⟩ => ⟨i, by omega, h2⟩⟩
    rcases Nat.lt_or_ge i j with q | q
    ·exact ⟨i, q, h2⟩
    ·obtain rfl : i = j := by omega
     omega
   refine t_skip<|n_blk<|n_code<|t_region<|mv O O<|l_q O (qmul O O) ?_
   refine asg O O<|l_nil ?_
   apply n_again ((j + 1))
   ·exact by omega
   ·omega
   ·exact ⟨rfl, rfl, rfl, rfl, congrArg (fun z => some (Value.bool z)) he.symm, congrArg (fun z => some (Value.int .i64 z)) (by omega), trivial⟩
   ·exact en
 ·skip
  have hj14 : j = 14 := by
   rcases Nat.lt_or_ge j 14 with q | q
   ·have : 2 ^ j ≤ 2 ^ 13 := Nat.pow_le_pow_right (by decide) (by omega)
    omega
   ·omega
  subst hj14
  have hpd : decide (∃ i, i < 14 ∧ slots = 8 * ((2 ^ i : Nat) : Int)) = Probe.powB slots 8 65536 := by
   cases hb : Probe.powB slots 8 65536 with
   | true =>
    obtain ⟨k, k1, k2, k3⟩ := hpw.1 hb
    refine decide_eq_true ⟨k - 3, by omega, ?_⟩
    have hc := pow_cast (k - 3)
    have h3 : (2 : Int) ^ k = 2 ^ (k - 3) * 2 ^ 3 := by rw [← Int.pow_add]; congr 1; omega
    omega
   | false =>
    refine decide_eq_false fun ⟨i, h1, h2⟩ => ?_
    have := hpw.2 ⟨i + 3, by omega, by omega, by have hc := pow_cast i; rw [Int.pow_add]; omega⟩
    exact absurd (hb.symm.trans this) (by decide)
  rw [hpd]
  refine xt O<|n_code<|t_seq<|sr<|mv O O<|l_q O (q_un O (u_not ·))<|lc<|t_if O (fun z1 => ?_) fun z1 => ?_
  ·skip
   have hz : Probe.powB slots 8 65536 = false := by simpa using z1
   exact sr<|asg O O<|asg O O<|lc<|rt<|fr2 O ([rarH pr s]) (.tmp rfl) (.tmp rfl) (.inl ⟨hz, rfl, rfl⟩)
  ·skip
   have hz : Probe.powB slots 8 65536 = true := by simpa using z1
   refine t_skip<|n_code<|t_seq<|sr<|mv O O<|l_q O (qi O O (b_lss ·))<|mv O O<|l_pt (t := 25) rfl (fun d1 => ?_) fun d1 => ?_
   ·exact l_off O O O O<|l_off O O O O<|l_q O (q_pk O O)<|lc<|t_cond_t O<|sr<|asg O O<|asg O O<|lc<|rt<|fr2 O ([rarH pr s]) (.tmp rfl) (.tmp rfl) (.inr (.inl ⟨hz, .inl d1, rfl, rfl⟩))
   ·refine l_on O O<|mv O O<|l_on O O<|l_q O (qi O O (b_gtr ·))<|l_q O (q_pk O O)<|lc<|t_if O (fun d2 => ?_) fun d2 => ?_
    ·exact sr<|asg O O<|asg O O<|lc<|rt<|fr2 O ([rarH pr s]) (.tmp rfl) (.tmp rfl) (.inr (.inl ⟨hz, .inr d2, rfl, rfl⟩))
    ·skip
     obtain ⟨k, k1, k2, k3⟩ := hpw.1 hz
     obtain ⟨e, rfl⟩ : ∃ e, k = e + 3 := ⟨k - 3, by omega⟩
     obtain ⟨n, hn⟩ : ∃ n, n = 2 ^ e := ⟨_, rfl⟩
     have hc := pow_cast e
     rw [← hn] at hc
     have hsn : slots = 8 * (n : Int) := by rw [k3, Int.pow_add]; omega
     subst hsn
     have hn0 : 0 < n := by rw [hn]; exact Nat.two_pow_pos e
     have hn8 : n ≤ 8192 := by rw [hn]; exact (Nat.pow_le_pow_right (by decide : 0 < 2) (by omega) : 2 ^ e ≤ 2 ^ 13)
     have hng : 1 ≤ n * gN l := by have := hN.g_eq; have := Nat.mul_le_mul_right (gN l) hn0; omega
     refine t_skip<|nz<|mv O O<|l_q O (qlda O yA34 yS34) ?_
     refine mv O O<|lc1 O O O (RGroups_ok l hl n e (by omega) hn _ rfl) ?_
     refine o_buildSlice1 [_, _] rfl rfl yU22 yS3 yZ3 O O O O (fun b34 => ?_)
     refine lcf O O O (RAllocAll2 pr s hs b34 64 ((n * gN l : Nat) : Int) (by decide) (by omega)) ?_
     rintro v L' (⟨hb, rfl, rfl⟩ | ⟨_, hsm, hfit, vo, rfl, rfl⟩)
     refine l_nm ?_
     ·skip
      refine mv O O<|l_q O (q_extractL O ga) ?_
      refine l_q O (q_extractL O ga) ?_
      refine asg O O<|asg O O<|lc<|t_seq<|sr<|mv O O<|l_q O (qi O O (b_neq ·))<|lc<|t_if O (fun y => ?_) fun y => ?_
      ·refine sr<|mv O O<|asg O O<|asg O O<|lc<|rt<|fr2 O ([rarH pr s]) (.tmp rfl) (.tmp rfl) ?_
       exact .inr (.inr ⟨n, e, hn, by omega, rfl, by omega, .inl ⟨by rw [class64] at hb; omega, rfl, rfl⟩⟩)
      ·exact absurd y (by decide)
     ·skip
      rw [class64] at hfit ⊢
      refine l_norm fun M hM => ?_
      simp only [List.cons_append, List.nil_append] at hM
      subst M
      refine l_shape .here fun _ hvo => ?_
      obtain ⟨ao, co, rfl, hao, _, _⟩ := hvo
      obtain ⟨go0, rfl⟩ := hao (by decide)
      refine mv O O<|l_q O (q_extractL O ga) ?_
      refine l_q O (q_extractL O ga) ?_
      refine asg O O<|asg O O<|lc<|t_seq<|sr<|mv O O<|l_q O (qi O O (b_neq ·))<|lc<|t_if O (fun y => ?_) fun y => ?_
      ·exact absurd rfl y
      ·skip
       have hmade : (madeCells (#[.int .i64 0, .int .i64 0, .string ⟨#[]⟩, .string ⟨#[]⟩, .int .i64 0]) ((8 * (n : Int)).toNat * 5)).toList = rowOf cellV (firstL (newT n depth).cells (8 * n)) := by
        refine (made_rows (n := (8 * (n : Int)).toNat) Cell.empty #[.int .i64 0, .int .i64 0, .string ⟨#[]⟩, .string ⟨#[]⟩, .int .i64 0] rfl cellV5 (by decide)).trans ?_
        rw [show (8 * (n : Int)).toNat = 8 * n by omega]
        congr 1
        refine List.ext_getElem? fun i => ?_
        by_cases h : i < 8 * n
        ·rw [firstL_get h]; simp [h]; rfl
        ·rw [List.getElem?_eq_none (by simp; omega), List.getElem?_eq_none (by rw [firstL_len]; omega)]
       refine t_skip<|n_code<|t_seq<|t_draw mixed ?_
       apply dq 0 rfl
       ·exact yq (q_move O)
       apply dq 1 rfl
       ·exact yq (qlda O yA34 yS34)
       apply dq 2 rfl
       ·exact yq (q_move O)
       apply dq 3 rfl
       ·apply yq
        first | exact q_indexAddrC 0 rfl rfl yU22 yS3 (by omega) | exact q_indexAddr1 O O yU22 yS3 (by omega)
       apply dq 4 rfl
       ·apply yq
        apply q_loadOwn O yA3
        ·exact tk
        ·exact rfl
       apply dq 5 rfl
       ·exact yq (q_move O)
       apply dq 6 rfl
       ·apply yq
        first | exact q_indexAddrC 1 rfl rfl yU22 yS3 (by omega) | exact q_indexAddr1 O O yU22 yS3 (by omega)
       apply dq 7 rfl
       ·apply yq
        apply q_loadOwn O yA3
        ·exact tk
        ·exact rfl
       apply dq 8 rfl
       ·exact yq (q_move O)
       apply dq 10 rfl
       ·exact yq (q_move O)
       apply dq 11 rfl
       ·exact yq (q_move O)
       apply d_eff2 9 12
       ·kernel_rfl
       ·apply effAt (q1 := [8]) (q2 := [11, 10, 7, 6, 5, 4, 3, 2, 1, 0]) [(49, _)]
        ·exact gO
        ·exact ⟨rfl, trivial⟩
        ·kernel_rfl
        intro Ex
        refine lc1 O O O (Most08_ok _ (by omega)) ?_
        refine l_nil ?_
        apply n_d
        ·refine ⟨?_, ?_, ?_, ?_, ?_, ?_, ?_, ?_, ?_, ?_, trivial⟩
         ·apply ya O O; exact yq (q_move O)
         ·apply ya O O; exact yq (q_move O)
         ·apply ya O O
          apply yq
          apply q_loadOwn O yA3
          ·exact tk
          ·exact rfl
         ·apply ya O O
          apply yq
          first | exact q_indexAddrC 1 rfl rfl yU22 yS3 (by omega) | exact q_indexAddr1 O O yU22 yS3 (by omega)
         ·apply ya O O; exact yq (q_move O)
         ·apply ya O O
          apply yq
          apply q_loadOwn O yA3
          ·exact tk
          ·exact rfl
         ·apply ya O O
          apply yq
          first | exact q_indexAddrC 0 rfl rfl yU22 yS3 (by omega) | exact q_indexAddr1 O O yU22 yS3 (by omega)
         ·apply ya O O; exact yq (q_move O)
         ·apply ya O O; exact yq (qlda O yA34 yS34)
         ·apply ya O O; exact yq (q_move O)
        refine d_eff1 [11] [10, 7, 6, 5, 4, 3, 2, 1, 0] 12 [(52, _)] gO ⟨rfl, trivial⟩ (by kernel_rfl) (by kernel_rfl) fun Ex => ?_
        refine o_makeSliceN (sz := 5) (rowOf cellV (firstL (newT n depth).cells (8 * n))) rfl rfl rfl Tryz.underlying43 yI142 (by omega) (by omega) hmade fun b53 => ?_
        refine l_nil ?_
        apply n_d
        ·refine ⟨?_, ?_, ?_, ?_, ?_, ?_, ?_, ?_, ?_, trivial⟩
         ·apply ya O O; exact yq (q_move O)
         ·apply ya O O
          apply yq
          apply q_loadOwn O yA3
          ·exact tk
          ·exact rfl
         ·apply ya O O
          apply yq
          first | exact q_indexAddrC 1 rfl rfl yU22 yS3 (by omega) | exact q_indexAddr1 O O yU22 yS3 (by omega)
         ·apply ya O O; exact yq (q_move O)
         ·apply ya O O
          apply yq
          apply q_loadOwn O yA3
          ·exact tk
          ·exact rfl
         ·apply ya O O
          apply yq
          first | exact q_indexAddrC 0 rfl rfl yU22 yS3 (by omega) | exact q_indexAddr1 O O yU22 yS3 (by omega)
         ·apply ya O O; exact yq (q_move O)
         ·apply ya O O; exact yq (qlda O yA34 yS34)
         ·apply ya O O; exact yq (q_move O)
        apply dq 13 rfl
        ·apply yq
         apply q_buildS O yP45 yZ45
         ·apply FillR.one
          ·repeat (first | exact PlAt.here | apply PlAt.there)
          ·rfl
          ·exact sa
          apply FillR.all
          ·repeat (first | exact PlAt.here | apply PlAt.there)
          ·rfl
          ·simp
          ·exact sal
          apply FillR.one
          ·repeat (first | exact PlAt.here | apply PlAt.there)
          ·rfl
          ·exact sa
          apply FillR.one
          ·repeat (first | exact PlAt.here | apply PlAt.there)
          ·rfl
          ·exact sa
          apply FillR.one
          ·repeat (first | exact PlAt.here | apply PlAt.there)
          ·rfl
          ·exact sa
          apply FillR.one
          ·repeat (first | exact PlAt.here | apply PlAt.there)
          ·rfl
          ·exact sa
          apply FillR.one
          ·repeat (first | exact PlAt.here | apply PlAt.there)
          ·rfl
          ·exact sa
          exact FillR.nil
        refine d_eff1 [13, 0, 1, 4, 7, 10, 3, 6, 2, 5] [] 14 [(54, _)] gO ⟨rfl, trivial⟩ (by kernel_rfl) (by kernel_rfl) fun Ex => ?_
        refine o_boxA O O fun b55 => l_nil ?_
        apply n_d
        ·exact trivial
        refine d_eff1 [] [] 15 [(55, _)] gO ⟨rfl, trivial⟩ (by kernel_rfl) (by kernel_rfl) fun Ex => ?_
        refine asg O O<|l_nil ?_
        apply n_d
        ·exact trivial
        refine d_eff1 [] [] 16 [] gO trivial (by kernel_rfl) (by kernel_rfl) fun Ex => ?_
        refine asg O O<|l_nil ?_
        apply n_d
        ·exact trivial
        refine d_end (by kernel_rfl) ?_
        refine n_code<|rt ?_
        apply f_ret (.inl rfl) ([rtH pr l (⟨b55, s.at 64, (s.take 64).at (classI ((n * gN l : Nat) : Int)), n, e, newT n depth, false, false⟩ : PR), rarH pr ((s.take 64).take (classI ((n * gN l : Nat) : Int)))])
        ·apply res2 O
         ·exact .tmp rfl
         ·exact .tmp rfl
        ·exact .inr (.inr ⟨n, e, hn, by omega, rfl, by omega, .inr ⟨hsm, by omega, _, rfl, rfl⟩⟩)
        ·rw [show (8 * (n : Int)).toNat = 8 * n by omega, show 8 * (n : Int) / 8 * 7 = 7 * (n : Int) by omega]; refine rt_close (x := (⟨b55, s.at 64, (s.take 64).at (classI ((n * gN l : Nat) : Int)), n, e, newT n depth, false, false⟩ : PR)) (.slice (some ⟨b53, 0, none⟩) (8 * n) (8 * n)) ?_; show Ent _ (pt b55 (.cells #[.pointer (some ⟨pr, 0, none⟩), .int .i64 l.key, .int .i64 l.elem, .int .i64 l.ka, .int .i64 l.ea, .int .i64 l.cap, .int .i64 l.eo, .int .i64 l.bo, .int .i64 l.slot, .int .i64 l.group, .int .i64 (s.at 64 : Nat), .int .i64 ((s.take 64).at (classI ((n * gN l : Nat) : Int)) : Nat), .int .i64 0, .int .i64 (7 * (n : Int)), .int .i64 depth, .int .i64 0, .int .i64 0, .bool false, .bool false, .slice (some ⟨b53, 0, none⟩) (8 * n) (8 * n)] 45 (0, 0)) :: ownS 142 5 (.slice (some ⟨b53, 0, none⟩) (8 * n) (8 * n)) (8 * n) (rowOf cellV (firstL (newT n depth).cells (8 * n))) :: _); (exact en)
       ·apply effAt (q1 := [11]) (q2 := [10, 8, 7, 6, 5, 4, 3, 2, 1, 0]) [(52, _)]
        ·exact gO
        ·exact ⟨rfl, trivial⟩
        ·kernel_rfl
        intro Ex
        refine o_makeSliceN (sz := 5) (rowOf cellV (firstL (newT n depth).cells (8 * n))) rfl rfl rfl Tryz.underlying43 yI142 (by omega) (by omega) hmade fun b53 => ?_
        refine l_nil ?_
        apply n_d
        ·refine ⟨?_, ?_, ?_, ?_, ?_, ?_, ?_, ?_, ?_, ?_, trivial⟩
         ·apply ya O O; exact yq (q_move O)
         ·apply ya O O; exact yq (q_move O)
         ·apply ya O O
          apply yq
          apply q_loadOwn O yA3
          ·exact tk
          ·exact rfl
         ·apply ya O O
          apply yq
          first | exact q_indexAddrC 1 rfl rfl yU22 yS3 (by omega) | exact q_indexAddr1 O O yU22 yS3 (by omega)
         ·apply ya O O; exact yq (q_move O)
         ·apply ya O O
          apply yq
          apply q_loadOwn O yA3
          ·exact tk
          ·exact rfl
         ·apply ya O O
          apply yq
          first | exact q_indexAddrC 0 rfl rfl yU22 yS3 (by omega) | exact q_indexAddr1 O O yU22 yS3 (by omega)
         ·apply ya O O; exact yq (q_move O)
         ·apply ya O O; exact yq (qlda O yA34 yS34)
         ·apply ya O O; exact yq (q_move O)
        refine d_eff1 [8] [10, 7, 6, 5, 4, 3, 2, 1, 0] 9 [(49, _)] gO ⟨rfl, trivial⟩ (by kernel_rfl) (by kernel_rfl) fun Ex => ?_
        refine lc1 O O O (Most08_ok _ (by omega)) ?_
        refine l_nil ?_
        apply n_d
        ·refine ⟨?_, ?_, ?_, ?_, ?_, ?_, ?_, ?_, ?_, trivial⟩
         ·apply ya O O; exact yq (q_move O)
         ·apply ya O O
          apply yq
          apply q_loadOwn O yA3
          ·exact tk
          ·exact rfl
         ·apply ya O O
          apply yq
          first | exact q_indexAddrC 1 rfl rfl yU22 yS3 (by omega) | exact q_indexAddr1 O O yU22 yS3 (by omega)
         ·apply ya O O; exact yq (q_move O)
         ·apply ya O O
          apply yq
          apply q_loadOwn O yA3
          ·exact tk
          ·exact rfl
         ·apply ya O O
          apply yq
          first | exact q_indexAddrC 0 rfl rfl yU22 yS3 (by omega) | exact q_indexAddr1 O O yU22 yS3 (by omega)
         ·apply ya O O; exact yq (q_move O)
         ·apply ya O O; exact yq (qlda O yA34 yS34)
         ·apply ya O O; exact yq (q_move O)
        apply dq 13 rfl
        ·apply yq
         apply q_buildS O yP45 yZ45
         ·apply FillR.one
          ·repeat (first | exact PlAt.here | apply PlAt.there)
          ·rfl
          ·exact sa
          apply FillR.all
          ·repeat (first | exact PlAt.here | apply PlAt.there)
          ·rfl
          ·simp
          ·exact sal
          apply FillR.one
          ·repeat (first | exact PlAt.here | apply PlAt.there)
          ·rfl
          ·exact sa
          apply FillR.one
          ·repeat (first | exact PlAt.here | apply PlAt.there)
          ·rfl
          ·exact sa
          apply FillR.one
          ·repeat (first | exact PlAt.here | apply PlAt.there)
          ·rfl
          ·exact sa
          apply FillR.one
          ·repeat (first | exact PlAt.here | apply PlAt.there)
          ·rfl
          ·exact sa
          apply FillR.one
          ·repeat (first | exact PlAt.here | apply PlAt.there)
          ·rfl
          ·exact sa
          exact FillR.nil
        refine d_eff1 [13, 0, 1, 4, 7, 10, 3, 6, 2, 5] [] 14 [(54, _)] gO ⟨rfl, trivial⟩ (by kernel_rfl) (by kernel_rfl) fun Ex => ?_
        refine o_boxA O O fun b55 => l_nil ?_
        apply n_d
        ·exact trivial
        refine d_eff1 [] [] 15 [(55, _)] gO ⟨rfl, trivial⟩ (by kernel_rfl) (by kernel_rfl) fun Ex => ?_
        refine asg O O<|l_nil ?_
        apply n_d
        ·exact trivial
        refine d_eff1 [] [] 16 [] gO trivial (by kernel_rfl) (by kernel_rfl) fun Ex => ?_
        refine asg O O<|l_nil ?_
        apply n_d
        ·exact trivial
        refine d_end (by kernel_rfl) ?_
        refine n_code<|rt ?_
        apply f_ret (.inl rfl) ([rtH pr l (⟨b55, s.at 64, (s.take 64).at (classI ((n * gN l : Nat) : Int)), n, e, newT n depth, false, false⟩ : PR), rarH pr ((s.take 64).take (classI ((n * gN l : Nat) : Int)))])
        ·apply res2 O
         ·exact .tmp rfl
         ·exact .tmp rfl
        ·exact .inr (.inr ⟨n, e, hn, by omega, rfl, by omega, .inr ⟨hsm, by omega, _, rfl, rfl⟩⟩)
        ·rw [show (8 * (n : Int)).toNat = 8 * n by omega, show 8 * (n : Int) / 8 * 7 = 7 * (n : Int) by omega]; refine rt_close (x := (⟨b55, s.at 64, (s.take 64).at (classI ((n * gN l : Nat) : Int)), n, e, newT n depth, false, false⟩ : PR)) (.slice (some ⟨b53, 0, none⟩) (8 * n) (8 * n)) ?_; show Ent _ (pt b55 (.cells #[.pointer (some ⟨pr, 0, none⟩), .int .i64 l.key, .int .i64 l.elem, .int .i64 l.ka, .int .i64 l.ea, .int .i64 l.cap, .int .i64 l.eo, .int .i64 l.bo, .int .i64 l.slot, .int .i64 l.group, .int .i64 (s.at 64 : Nat), .int .i64 ((s.take 64).at (classI ((n * gN l : Nat) : Int)) : Nat), .int .i64 0, .int .i64 (7 * (n : Int)), .int .i64 depth, .int .i64 0, .int .i64 0, .bool false, .bool false, .slice (some ⟨b53, 0, none⟩) (8 * n) (8 * n)] 45 (0, 0)) :: ownS 142 5 (.slice (some ⟨b53, 0, none⟩) (8 * n) (8 * n)) (8 * n) (rowOf cellV (firstL (newT n depth).cells (8 * n))) :: _); (exact en)
end Go.Proofs.YthkajgkagnenbaaGreatDoor.RefT
