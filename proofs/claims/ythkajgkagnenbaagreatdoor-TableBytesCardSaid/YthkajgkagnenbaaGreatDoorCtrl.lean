import Derived.Test.YthkajgkagnenbaaGreatDoorEngMap
import Derived.Test.YthkajgkagnenbaaGreatDoorEngStr
import Derived.Test.YthkajgkagnenbaaGreatDoorTypes
import Derived.Test.YthkajgkagnenbaaGreatDoorCtrlB
import Derived.Test.YthkajgkagnenbaaGreatDoorEngRange
import Derived.Laws.IdiomCopy
import Derived.Test.YthkajgkagnenbaaGreatDoorProbe
import Derived.Shelf.Spec.SlicesInsert
import Derived.Shelf.Spec.SlicesInsertGrow
section
/- Reading out of pieces of which only what they read as is known (what lay there before: arguments, package variables). No program. -/
set_option linter.unusedVariables false
set_option linter.unusedSimpArgs false
namespace Go.Proofs.YthkajgkagnenbaaGreatDoor.Eng
open Go.RowKit

section
variable {c : Cx} {fin : Exit → Act → World → Prop} {ds : List Deferred} {E : Env} {L : List HP} {ks : List KI} {ops : Array Oper} {rest : List Oper}
variable {d : Option Tmp} {ty : TypeId} {pos : String} {af : Array Edge} {gd : Option (Nat × Bool)}
/-- Pieces turned. -/
theorem t_ent {L' : List HP} {x : Code} (hl : Ent L L') (h : TC c fin ds E L' x ks) : TC c fin ds E L x ks := fun a w hs => h a w ⟨hs.size, hs.defs, hs.agree, hl _ hs.sat, hs.ext⟩
theorem n_ent {L' : List HP} {x : Exit} (hl : Ent L L') (h : TN c fin ds E L' x ks) : TN c fin ds E L x ks := fun a w hs => h a w ⟨hs.size, hs.defs, hs.agree, hl _ hs.sat, hs.ext⟩
theorem l_ent {L' : List HP} {l : List Oper} (hl : Ent L L') (h : TL c fin ds E L' ops l ks) : TL c fin ds E L ops l ks := fun a w hs => h a w ⟨hs.size, hs.defs, hs.agree, hl _ hs.sat, hs.ext⟩
/-- The piece A has that cell. -/
def CellAt (A : HP) (a : Addr) (v : Value) : Prop := ∀ w, Sat A w → w.cell? a = some v
theorem q_loadR {A : HP} {t : TypeId} {x : Operand} {a0 : Addr} {v : Value} {M : List HP} (hx : ev E x = some (.pointer (some a0)))
  (ha : ∀ w, (isAgg t).run c.P w = .ok false w) (ht : Take A L M) (hv : CellAt A a0 v) : QV c ds E L ⟨d, .load t x, ty, pos, af, gd⟩ v :=
 ⟨by intro k; simp, fun a w hs => by
  have hb := hv w (hs.sat.take ht).left
  simp only [execOp, Instr.loadAt, Instr.sureAddr, hs.ev hx, Sem.run_bind, Sem.run_pure, Result.andThen, loadVar, ha]
  simp [load, Sem.run, hb]⟩
theorem run_loadCellsR {P : Program} {w : World} {a0 : Addr} : ∀ (n i : Nat) (acc : Array Value) (us : List Value), us.length = n → (∀ j u, us[j]? = some u → w.cell? (a0.add (i + j)) = some u) →
  (loadCellsFrom a0 i n acc).run P w = .ok (acc ++ us.toArray) w
 | 0, i, acc, us, hl, h => by
  have : us = [] := List.eq_nil_of_length_eq_zero hl
  subst this
  simp only [loadCellsFrom, Sem.run_pure]; simp
 | n + 1, i, acc, us, hl, h => by
  cases us with
  | nil => simp at hl
  | cons u us =>
   simp only [loadCellsFrom, Sem.run_bind]
   have h0 := h 0 u rfl
   rw [Nat.add_zero] at h0
   have hl0 : (load (a0.add i)).run P w = .ok u w := by simp [load, Sem.run, h0]
   rw [hl0]
   simp only [Result.andThen]
   rw [run_loadCellsR n (i + 1) _ us (by simpa using hl) fun j v hv => by
    have := h (j + 1) v (by simpa using hv)
    rw [show i + 1 + j = i + (j + 1) by omega]; exact this]
   simp
theorem q_loadRA {A : HP} {t : TypeId} {x : Operand} {a0 : Addr} {n : Nat} {us : List Value} {M : List HP} (hx : ev E x = some (.pointer (some a0)))
  (ha : ∀ w, (isAgg t).run c.P w = .ok true w) (hn : ∀ w, (sizeOf t).run c.P w = .ok n w) (hl : us.length = n) (ht : Take A L M) (hv : ∀ j u, us[j]? = some u → CellAt A (a0.add j) u) : QV c ds E L ⟨d, .load t x, ty, pos, af, gd⟩ (.agg us.toArray) :=
 ⟨by intro k; simp, fun a w hs => by
  have hb := (hs.sat.take ht).left
  have hr : (loadCells a0 n).run c.P w = .ok us.toArray w := by
   unfold loadCells
   rw [run_loadCellsR n 0 #[] us hl fun j u hu => by rw [Nat.zero_add]; exact hv j u hu w hb]
   simp
  simp only [execOp, Instr.loadAt, Instr.sureAddr, hs.ev hx, Sem.run_bind, Sem.run_pure, Result.andThen, loadVar, ha, hn, if_true, hr]⟩
end
end Go.Proofs.YthkajgkagnenbaaGreatDoor.Eng
end
section
/- The contracts of packages ctrl and oracle (what a table reaches of them). -/
set_option linter.unusedVariables false
set_option linter.unusedSimpArgs false
set_option maxRecDepth 100000
namespace Go.Proofs.YthkajgkagnenbaaGreatDoor.Ctrl
open Go.RowKit Go.Proofs Go.Proofs.YthkajgkagnenbaaGreatDoor.Eng Go.Proofs.YthkajgkagnenbaaGreatDoor.Ty Go.Proofs.YthkajgkagnenbaaGreatDoor.Bits Go.Proofs.YthkajgkagnenbaaGreatDoor.CtrlB

/-- The piece holds math/bits' table. -/
def TabOk (G : HP) : Prop := ∀ i b, dbt[i]? = some b → CellAt G ⟨1, i, none⟩ (.int .u8 (b : Nat))
/-- A set of slots. -/
abbrev bitsV (s : Nat → Bool) : Value := .agg #[.int .u64 (selW s)]
/-- A control word. -/
abbrev wI (f : Byt) : Int := ((wd f : Nat) : Int)

theorem Empty_ok : FnOk Tryz.prog 184 #[] [] (fun v L => v = .int .u64 (wI fun _ => 128) ∧ L = []) := by
 refine fn_intro en184 Tryz.func184 rfl rfl rfl fun Fr w0 => t_nm ?_
 refine sr<|asg O O<|lz<|asg O O<|lc<|rt<|fr1 O ([]) (.tmp rfl) ?_
 exact ⟨by rw [show wI (fun _ => 128) = 9259542123273814144 from rfl], rfl⟩
theorem zeros_ok (w : Int) (s : Nat → Bool) (h : zerosI w = selW s) : FnOk Tryz.prog 212 #[.int .u64 w] [] (fun v L => v = bitsV s ∧ L = []) := by
 refine fn_intro en212 Tryz.func212 rfl rfl rfl fun Fr w0 => t_nm ?_
 refine sr<|o_allocA O yZ247 fun b2 => lz<|mv O O<|l_q O (qbit O O O)<|l_q O (qadd O O) ?_
 refine mv O O<|l_q O (qbit O O O)<|l_q O (q_un O (u_xor ·))<|l_q O (qbit O O O) ?_
 apply l_q O
 ·apply q_buildS O yP247 yZ247
  ·apply FillR.one
   ·repeat (first | exact PlAt.here | apply PlAt.there)
   ·rfl
   ·exact sa
   exact FillR.nil
 refine sta O O O yS247 O O ?_
 refine lc<|rt ?_
 apply f_ret (.inl rfl) ([])
 ·apply res1 O
  ·apply Rv.agg rfl
   ·exact tk
   ·exact run_loadAll yA247 yS247 O
 ·exact ⟨by show Value.agg #[Value.int .u64 (zerosI w)] = _; rw [h], rfl⟩
 ·exact en
theorem Match_ok (f : Byt) (hf : okB f) (tag : Nat) (ht : tag < 128) : FnOk Tryz.prog 188 #[.int .u64 (wI f), .int .i64 tag] [] (fun v L => v = bitsV (fun i => f i == tag) ∧ L = []) := by
 refine fn_intro en188 Tryz.func188 rfl rfl rfl fun Fr w0 => t_nm ?_
 refine sr<|o_allocA O yZ247 fun b4 => lc<|t_seq<|sr<|mv O O<|l_q O (qi O O (b_lss ·))<|mv O O<|l_pt (t := 7) rfl (fun h => ?_) fun h => ?_
 ·omega
 ·refine l_on O O<|mv O O<|l_on O O<|l_q O (qi O O (b_gtr ·))<|l_q O (q_pk O O)<|lc<|t_if O (fun h2 => ?_) fun h2 => ?_
  ·omega
  ·refine t_skip<|nz<|mv O O<|mv O O<|l_q O (qcv O yU3 yU27) ?_
   refine l_q O (qmul O O) ?_
   refine l_q O (qbit O O O) ?_
   rw [lows_mul0 (by omega)]
   refine lc1 O O O (zeros_ok _ _ (xor_sel hf (by omega))) ?_
   refine sta O O O yS247 O O ?_
   refine lc<|rt ?_
   apply f_ret (.inl rfl) ([])
   ·apply res1 O
    ·apply Rv.agg rfl
     ·exact tk
     ·exact run_loadAll yA247 yS247 O
   ·exact ⟨rfl, rfl⟩
   ·exact en
theorem MatchEmpty_ok (f : Byt) (hf : okB f) : FnOk Tryz.prog 161 #[.int .u64 (wI f)] [] (fun v L => v = bitsV (fun i => f i == 128) ∧ L = []) := by
 refine fn_intro en161 Tryz.func161 rfl rfl rfl fun Fr w0 => t_nm ?_
 refine sr<|o_allocA O yZ247 fun b2 => lz<|mv O O<|l_q O (qbit O O O)<|lc1 O O O (zeros_ok _ _ (xor_sel hf (c := 128) (by decide))) ?_
 refine sta O O O yS247 O O ?_
 refine lc<|rt ?_
 apply f_ret (.inl rfl) ([])
 ·apply res1 O
  ·apply Rv.agg rfl
   ·exact tk
   ·exact run_loadAll yA247 yS247 O
 ·exact ⟨rfl, rfl⟩
 ·exact en
theorem MatchVacant_ok (f : Byt) (hf : okB f) : FnOk Tryz.prog 174 #[.int .u64 (wI f)] [] (fun v L => v = bitsV (fun i => f i == 128 || f i == 254) ∧ L = []) := by
 refine fn_intro en174 Tryz.func174 rfl rfl rfl fun Fr w0 => t_nm ?_
 refine sr<|o_allocA O yZ247 fun b2 => lz<|mv O O<|lc1 O O O (MatchEmpty_ok f hf) ?_
 refine l_q O (q_field1L 0 rfl yU247 O yA27 O ga) ?_
 refine mv O O<|l_q O (qbit O O O)<|lc1 O O O (zeros_ok _ _ (xor_sel hf (c := 254) (by decide))) ?_
 refine l_q O (q_field1L 0 rfl yU247 O yA27 O ga) ?_
 refine l_q O (qbit O O O) ?_
 apply l_q O
 ·apply q_buildS O yP247 yZ247
  ·apply FillR.one
   ·repeat (first | exact PlAt.here | apply PlAt.there)
   ·rfl
   ·exact sa
   exact FillR.nil
 refine sta O O O yS247 O O ?_
 refine lc<|rt ?_
 rw [or_sel]
 apply f_ret (.inl rfl) ([])
 ·apply res1 O
  ·apply Rv.agg rfl
   ·exact tk
   ·exact run_loadAll yA247 yS247 O
 ·exact ⟨rfl, rfl⟩
 ·exact en
theorem MatchFull_ok (f : Byt) (hf : okB f) : FnOk Tryz.prog 194 #[.int .u64 (wI f)] [] (fun v L => v = bitsV (fun i => decide (f i < 128)) ∧ L = []) := by
 refine fn_intro en194 Tryz.func194 rfl rfl rfl fun Fr w0 => t_nm ?_
 refine sr<|o_allocA O yZ247 fun b2 => lz<|mv O O<|l_q O (q_un O (u_xor ·))<|l_q O (qbit O O O) ?_
 apply l_q O
 ·apply q_buildS O yP247 yZ247
  ·apply FillR.one
   ·repeat (first | exact PlAt.here | apply PlAt.there)
   ·rfl
   ·exact sa
   exact FillR.nil
 refine sta O O O yS247 O O ?_
 refine lc<|rt ?_
 rw [full_sel hf]
 apply f_ret (.inl rfl) ([])
 ·apply res1 O
  ·apply Rv.agg rfl
   ·exact tk
   ·exact run_loadAll yA247 yS247 O
 ·exact ⟨rfl, rfl⟩
 ·exact en
theorem min64 {i : Nat} (hi : i < 8) : (2 : Int) ^ min (8 * (i : Int)).toNat IntKind.u64.bits = ((2 ^ (8 * i) : Nat) : Int) := by
 rw [show min (8 * (i : Int)).toNat IntKind.u64.bits = 8 * i by show min _ 64 = _; omega, Int.natCast_pow]; rfl
theorem Get_ok (f : Byt) (hf : okB f) (i : Nat) (hi : i < 8) : FnOk Tryz.prog 202 #[.int .u64 (wI f), .int .i64 i] [] (fun v L => v = .int .i64 (f i : Nat) ∧ L = []) := by
 have hfi := hf i hi
 refine fn_intro en202 Tryz.func202 rfl rfl rfl fun Fr w0 => t_nm ?_
 refine sr<|asg O O<|lc<|t_seq<|sr<|mv O O<|l_q O (qi O O (b_lss ·))<|mv O O<|l_pt (t := 7) rfl (fun h => ?_) fun h => ?_
 ·omega
 ·refine l_on O O<|mv O O<|l_on O O<|l_q O (qi O O (b_gtr ·))<|l_q O (q_pk O O)<|lc<|t_if O (fun h2 => ?_) fun h2 => ?_
  ·omega
  ·refine t_skip<|nz<|mv O O<|mv O O<|l_q O (qmul O O) ?_
   apply l_q O
   ·apply qi O O; exact fun w => b_shr w (by omega)
   refine l_q O (qbit O O O)<|l_q O (qcv O yU27 yU3) ?_
   refine asg O O<|lc<|rt<|fr1 O ([]) (.tmp rfl) ?_
   refine ⟨?_, rfl⟩; rw [min64 hi, Int.fdiv_eq_ediv_of_nonneg _ (Int.natCast_nonneg _), get_wd hf hi, wrap_i64 (by omega)]
theorem Set_ok (f : Byt) (hf : okB f) (i c : Nat) (hi : i < 8) (hc : c < 256) : FnOk Tryz.prog 229 #[.int .u64 (wI f), .int .i64 i, .int .i64 c] [] (fun v L => v = .int .u64 (wI (setF f i c)) ∧ L = []) := by
 refine fn_intro en229 Tryz.func229 rfl rfl rfl fun Fr w0 => t_nm ?_
 refine sr<|asg O O<|lc<|t_seq<|sr<|mv O O<|l_q O (qi O O (b_lss ·))<|mv O O<|l_pt (t := 9) rfl (fun h => ?_) fun h => ?_
 ·omega
 ·refine l_on O O<|mv O O<|l_on O O<|l_q O (qi O O (b_gtr ·))<|l_q O (q_pk O O)<|mv O O<|l_pt (t := 13) rfl (fun h2 => ?_) fun h2 => ?_
  ·omega
  ·refine l_on O O<|mv O O<|l_on O O<|l_q O (qi O O (b_lss ·))<|l_q O (q_pk O O)<|mv O O<|l_pt (t := 17) rfl (fun h3 => ?_) fun h3 => ?_
   ·omega
   ·refine l_on O O<|mv O O<|l_on O O<|l_q O (qi O O (b_gtr ·))<|l_q O (q_pk O O)<|lc<|t_if O (fun h4 => ?_) fun h4 => ?_
    ·omega
    ·refine t_skip<|n_code<|t_seq<|t_draw mixed ?_
     apply dq 0 rfl
     ·exact yq (q_move O)
     apply dq 1 rfl
     ·exact yq (q_move O)
     apply dq 2 rfl
     ·exact yq (qmul O O)
     apply dq 3 rfl
     ·apply yq
      apply qi O O; exact fun w => b_shl w (by omega)
     apply dq 4 rfl
     ·exact yq (qbit O O O)
     apply dq 5 rfl
     ·exact yq (q_move O)
     apply dq 6 rfl
     ·exact yq (qcv O yU3 yU27)
     apply dq 7 rfl
     ·exact yq (q_move O)
     apply dq 8 rfl
     ·exact yq (qmul O O)
     apply dq 9 rfl
     ·apply yq
      apply qi O O; exact fun w => b_shl w (by omega)
     apply dq 10 rfl
     ·exact yq (qbit O O O)
     refine d_eff1 [10, 0, 1, 2, 3, 4, 5, 6, 7, 8, 9] [] 11 [(32, _)] gO ⟨rfl, trivial⟩ (by kernel_rfl) (by kernel_rfl) fun Ex => ?_
     refine asg O O<|l_nil ?_
     apply n_d
     ·exact trivial
     refine d_end (by kernel_rfl) ?_
     refine n_code<|rt<|fr1 O ([]) (.tmp rfl) ?_
     refine ⟨?_, rfl⟩; rw [min64 hi, set_wd hf hi hc]
theorem Has_ok (s : Nat → Bool) (i : Nat) (hi : i < 8) : FnOk Tryz.prog 190 #[bitsV s, .int .i64 i] [] (fun v L => v = .bool (s i) ∧ L = []) := by
 refine fn_intro en190 Tryz.func190 rfl rfl rfl fun Fr w0 => t_nm ?_
 refine sr<|o_boxA O O fun b2 => asg O O<|lz<|mv O O<|l_q O (qi O O (b_geq ·))<|mv O O<|l_pt (t := 7) rfl (fun h => ?_) fun h => ?_
 ·refine l_on O O<|mv O O<|l_on O O<|l_q O (qi O O (b_leq ·))<|l_q O (q_pk O O)<|mv O O<|l_pt (t := 11) rfl (fun h2 => ?_) fun h2 => ?_
  ·refine l_on O O<|l_q O (qfa 0 rfl yU247 O O yS27)<|l_on O O<|l_q O (qld O yA27) ?_
   refine l_on O O<|mv O O<|l_on O O<|l_q O (qmul O O) ?_
   refine l_on O O ?_
   apply l_q O
   ·apply qi O O; exact fun w => b_shr w (by omega)
   refine l_on O O<|l_q O (qbit O O O)<|l_on O O<|l_q O (qi O O (b_neq ·))<|l_q O (q_pk O O)<|asg O O<|lc<|rt<|fr1 O ([]) (.tmp rfl) ?_
   refine ⟨?_, rfl⟩; rw [min64 hi, Int.fdiv_eq_ediv_of_nonneg _ (Int.natCast_nonneg _), has_sel s hi]; cases s i <;> rfl
  ·omega
 ·omega
theorem TrailingZeros_ok (G : HP) (hG : TabOk G) (s : Nat → Bool) : FnOk Tryz.prog 220 #[.int .u64 (selW s)] [G] (fun v L => v = .int .i64 (if firstF s < 8 then 8 * (firstF s : Nat) + 7 else 64) ∧ L = [G]) := by
 refine fn_intro en220 Tryz.func220 rfl rfl rfl fun Fr w0 => t_nm ?_
 refine sr<|asg O O<|lc<|t_seq<|sr<|mv O O<|l_q O (qi O O (b_eql ·))<|lc<|t_if O (fun h => ?_) fun h => ?_
 ·refine sr<|asg O O<|lc<|rt ?_
  have h0 : firstF s = 8 := by
   have : slotsF s = [] := (selN_zero s).1 (by rw [selN_W] at h; omega)
   unfold firstF; rw [this]; rfl
  refine fr1 O ([G]) (.tmp rfl) ?_
  exact ⟨by rw [if_neg (by omega)], rfl⟩
 ·have hne : slotsF s ≠ [] := fun q => h (by rw [selN_W, (selN_zero s).2 q]; rfl)
  have htz := tz_prog (x := selN s) (fun q => hne ((selN_zero s).1 q)) (selN_lt s)
  rw [← selN_W] at htz
  have hf8 := (tz_sel s hne).2
  have hw : ∀ x, 0 ≤ IntKind.u64.wrap x ∧ IntKind.u64.wrap x < 18446744073709551616 := fun x => by rw [IntKind.wrap_u64]; omega
  have hw2 := hw (bits .and .u64 (selW s) (IntKind.u64.wrap (0 - selW s)) * 285870213051353865)
  refine t_skip<|nz<|mv O O<|mv O O<|l_q O (q_un O (u_neg ·))<|l_q O (qbit O O O)<|l_q O (qmul O O) ?_
  apply l_q O
  ·apply qi O O; first | exact fun w => b_shr_c (m := 288230376151711744) w (by decide) (by decide) (by omega) | exact fun w => b_shr w (by decide)
  refine l_q O (q_indexAddrA O O yU304 yS5 (by omega)) ?_
  apply l_q O
  ·apply q_loadR rfl yA5
   ·exact tk
   ·refine hG (tzI (selN s)) (8 * firstF s + 7) (tz_sel s hne).1 |> fun h => ?_; rw [Nat.zero_add, Nat.mul_one, htz, Int.toNat_natCast]; exact h
  refine l_q O (qcv O yU5 yU3) ?_
  refine asg O O<|lc<|rt<|fr1 O ([G]) (.tmp rfl) ?_
  exact ⟨by rw [if_pos hf8]; congr 1, rfl⟩
theorem First_ok (G : HP) (hG : TabOk G) (s : Nat → Bool) : FnOk Tryz.prog 175 #[bitsV s] [G] (fun v L => v = .int .i64 (firstF s : Nat) ∧ L = [G]) := by
 have h8 : firstF s ≤ 8 := by
  unfold firstF
  cases h : slotsF s with
  | nil => simp
  | cons a r =>
   have := (slotsF_mem (s := s) (i := a)).1 (by rw [h]; simp)
   simp; omega
 refine fn_intro en175 Tryz.func175 rfl rfl rfl fun Fr w0 => t_nm ?_
 refine sr<|o_boxA O O fun b1 => asg O O<|lz<|l_q O (qfa 0 rfl yU247 O O yS27)<|l_q O (qld O yA27) ?_
 refine lc1 O O O (TrailingZeros_ok G hG s) ?_
 refine l_q O (qquo O O) ?_
 refine asg O O<|lc<|rt<|fr1 O ([G]) (.tmp rfl) ?_
 exact ⟨by congr 1; split <;> omega, rfl⟩
theorem Rest_ok (s : Nat → Bool) (h : slotsF s ≠ []) : FnOk Tryz.prog 226 #[bitsV s] [] (fun v L => v = bitsV (restS s) ∧ L = []) := by
 refine fn_intro en226 Tryz.func226 rfl rfl rfl fun Fr w0 => t_nm ?_
 refine sr<|o_boxA O O fun b1 => o_allocA O yZ247 fun b2 => lz<|l_q O (qfa 0 rfl yU247 O O yS27)<|l_q O (qld O yA27) ?_
 refine l_q O (qfa 0 rfl yU247 O O yS27)<|l_q O (qld O yA27) ?_
 refine l_q O (qsub O O) ?_
 refine l_q O (qbit O O O) ?_
 apply l_q O
 ·apply q_buildS O yP247 yZ247
  ·apply FillR.one
   ·repeat (first | exact PlAt.here | apply PlAt.there)
   ·rfl
   ·exact sa
   exact FillR.nil
 refine sta O O O yS247 O O ?_
 refine lc<|rt ?_
 apply f_ret (.inl rfl) ([])
 ·apply res1 O
  ·apply Rv.agg rfl
   ·exact tk
   ·exact run_loadAll yA247 yS247 O
 ·refine ⟨?_, rfl⟩; rw [(rest_sel s h).1]
 ·exact en
theorem All_ok (s : Nat → Bool) : FnOk Tryz.prog 189 #[bitsV s] [] (fun v L => ∃ b, v = .func (.func 225) #[] #[.pointer (some ⟨b, 0, none⟩)] ∧ L = [pt b (.cells #[.int .u64 (selW s)] 247 (0, 0))]) := by
 refine fn_intro en189 Tryz.func189 rfl rfl rfl fun Fr w0 => t_nm ?_
 exact sr<|o_boxA O O fun b1 => asg O O<|lz<|l_q O (q_makeFunc O O)<|asg O O<|lc<|rt<|fr1 O ([pt b1 (.cells #[.int .u64 (selW s)] 247 (0, 0))]) (.tmp rfl) ⟨_, rfl, rfl⟩
/-- The slots of the set, a round each. -/
def slotsV (s : Nat → Bool) : List (List Value) := (slotsF s).map fun i => [.int .i64 (i : Nat)]
theorem All_it (G : HP) (hG : TabOk G) (b : Nat) (s : Nat → Bool) : IterOk Tryz.prog 225 #[.pointer (some ⟨b, 0, none⟩)] [pt b (.cells #[.int .u64 (selW s)] 247 (0, 0)), G] (slotsV s) [G] [G] := by
 refine ⟨en225, fun l B S hY => ?_⟩
 show FnOk _ _ #[.func (.yield l) #[] #[], .pointer (some ⟨b, 0, none⟩)] _ _
 refine fn_intro en225 Tryz.func225 rfl rfl rfl fun Fr w0 => t_nm ?_
 refine sr<|l_q O (qlda O yA247 yS247) ?_
 refine o_allocA O yZ247 fun b3 => sta O O O yS247 O O ?_
 refine lc<|t_block ?_
 refine t_loop (fun x : Nat × Nat × (Nat → Bool) => x.1 ≤ (slotsF s).length ∧ slotsF x.2.2 = (slotsF s).drop x.1) (fun x => [(0, .func (.yield l) #[] #[]), (3, .pointer (some ⟨x.2.1, 0, none⟩))]) (fun x => pt x.2.1 (.cells #[.int .u64 (selW x.2.2)] 247 (0, 0)) :: G :: B x.1 :: Fr) (fun x => (slotsF s).length - x.1) (0, b3, s) ⟨by omega, by simp⟩ ⟨rfl, rfl, trivial⟩ (by (exact en)) ?_
 rintro ⟨k, b', t⟩ ⟨hk, ht⟩
 dsimp only at hk ht ⊢
 refine t_seq<|sr<|l_q O (qfa 0 rfl yU247 O O yS27)<|l_q O (qld O yA27) ?_
 refine l_q O (qi O O (b_neq ·))<|lc<|t_if O (fun h => ?_) fun h => ?_
 ·have hne : slotsF t ≠ [] := fun q => h (by rw [selN_W, (selN_zero t).2 q]; rfl)
  have hlt : k < (slotsF s).length := by
   rcases Nat.lt_or_ge k (slotsF s).length with q | q
   ·exact q
   ·rw [List.drop_eq_nil_of_le q] at ht; exact absurd ht hne
  have hat : (slotsV s)[k]? = some [.int .i64 (firstF t : Nat)] := by
   simp only [slotsV, List.getElem?_map]
   rw [List.getElem?_eq_getElem hlt]
   have : firstF t = (slotsF s)[k] := by
    unfold firstF; rw [ht, List.drop_eq_getElem_cons hlt]; rfl
   simp [this]
  refine t_skip<|n_code<|t_seq<|t_block<|sr<|mv O O<|l_q O (qlda O yA247 yS247) ?_
  refine lc1 O O O (First_ok G hG t) ?_
  apply l_yield O O O ((hY k _ hat))
  ·exact pk
  ·exact pk
  rintro bb L' (⟨rfl, rfl⟩ | ⟨rfl, rfl⟩)
  ·refine l_nm ?_
   refine l_q O (q_un O (u_not ·))<|lc<|t_cond_f O<|t_skip<|n_blk<|n_code<|t_seq<|sr<|l_q O (qlda O yA247 yS247) ?_
   refine lr<|o_allocA O yZ247 fun b3 => sta O O O yS247 O O ?_
   refine lr<|l_q O (qlda O yA247 yS247) ?_
   refine lc1 O O O (Rest_ok t hne) ?_
   refine sta O O O yS247 O O ?_
   refine l_nil ?_
   apply n_again ((k + 1, b3, restS t))
   ·exact ⟨by dsimp only; omega, by dsimp only; rw [(rest_sel t hne).2, ht, List.tail_drop]⟩
   ·dsimp only; omega
   ·exact ⟨rfl, rfl, trivial⟩
   ·exact en
  ·refine l_nm ?_
   refine l_q O (q_un O (u_not ·))<|lc<|t_cond_t O<|rt ?_
   apply f_ret (.inl rfl) ([G, S (k + 1)])
   ·exact res0 O
   ·exact .inr ⟨k, by simp [slotsV]; exact hlt, rfl⟩
   ·exact en
 ·refine xt O ?_
  have hnil : slotsF t = [] := (selN_zero t).1 (by rw [selN_W] at h; omega)
  have hkk : k = (slotsF s).length := by
   rw [hnil] at ht
   have := congrArg List.length ht
   simp at this; omega
  subst hkk
  apply f_ret (.inr rfl) ([G, B (slotsF s).length])
  ·exact res0 O
  ·exact .inl (by simp [slotsV])
  ·exact en

theorem Tag_ok (h : Int) (hh : 0 ≤ h ∧ h < 18446744073709551616) : FnOk Tryz.prog 139 #[.int .u64 h] [] (fun v L => v = .int .i64 (h % 128) ∧ L = []) := by
 refine fn_intro en139 Tryz.func139 rfl rfl rfl fun Fr w0 => t_nm ?_
 refine sr<|asg O O<|lz<|mv O O<|l_q O (qbit O O O)<|l_q O (qcv O yU27 yU3) ?_
 refine asg O O<|lc<|rt<|fr1 O ([]) (.tmp rfl) ?_
 refine ⟨?_, rfl⟩; have := mask_u64 h hh.1 hh.2 7 (by decide); rw [show (2 : Int) ^ 7 - 1 = 127 by decide, show (2 : Int) ^ 7 = 128 by decide] at this; rw [this, wrap_i64 (by omega)]
theorem Home_ok (h : Int) (hh : 0 ≤ h ∧ h < 18446744073709551616) : FnOk Tryz.prog 187 #[.int .u64 h] [] (fun v L => v = .int .u64 (h / 128) ∧ L = []) := by
 refine fn_intro en187 Tryz.func187 rfl rfl rfl fun Fr w0 => t_nm ?_
 refine sr<|asg O O<|lz<|mv O O ?_
 apply l_q O
 ·apply qi O O; first | exact fun w => b_shr_c (m := 128) w (by decide) (by decide) (by omega) | exact fun w => b_shr w (by decide)
 exact asg O O<|lc<|rt<|fr1 O ([]) (.tmp rfl) ⟨rfl, rfl⟩
end Go.Proofs.YthkajgkagnenbaaGreatDoor.Ctrl
end
section
/- Slices that own their row from some cell on: what lies in them, what writing cells does to them. No program. -/
set_option linter.unusedVariables false
set_option linter.unusedSimpArgs false
namespace Go.Proofs.YthkajgkagnenbaaGreatDoor.Eng
open Go.RowKit

/-- Where such a slice lies. -/
structure TX where
 g : Nat
 o : Nat
 cap : Nat
 cur : Array Value
def TX.ok (v : Value) (xs : List Value) : Option TX → Prop
 | none => v = .slice none 0 0 ∧ xs = []
 | some t => v = .slice (some ⟨t.g, t.o, none⟩) xs.length t.cap ∧ xs.length ≤ t.cap ∧ t.cap ≤ maxLen ∧ t.o + t.cap ≤ t.cur.size ∧ ∀ i u, xs[i]? = some u → t.cur[t.o + i]? = some u
def TX.ps (e : TypeId) : Option TX → List HP
 | none => []
 | some t => [pt t.g (.cells t.cur e (0, 0))]
/-- The slice v (of one-word elements xs) owns its row from some cell on. -/
def ownT (e : TypeId) (v : Value) (xs : List Value) : HP := exP (TX.ok v xs) (TX.ps e)
theorem ownT_nil {e : TypeId} {L : List HP} : Ent L (ownT e (.slice none 0 0) [] :: L) := fun w h => sat_exP.2 ⟨none, ⟨rfl, rfl⟩, h⟩
theorem ownT_shape {e : TypeId} {v : Value} {xs : List Value} {L : List HP} {w : World} (h : Sat (stars (ownT e v xs :: L)) w) : ∃ a cap, v = .slice a xs.length cap ∧ (0 < xs.length → ∃ g o, a = some ⟨g, o, none⟩) ∧ xs.length ≤ cap ∧ cap ≤ maxLen := by
 obtain ⟨x, hx, _⟩ := sat_exP.1 h
 cases x with
 | none => obtain ⟨rfl, rfl⟩ := hx; exact ⟨none, 0, rfl, fun q => absurd q (by decide), Nat.le_refl _, by decide⟩
 | some t => obtain ⟨rfl, h1, h2, _⟩ := hx; exact ⟨_, _, rfl, fun _ => ⟨_, _, rfl⟩, h1, h2⟩
theorem ownT_cell {e : TypeId} {g o n cap : Nat} {xs : List Value} {i : Nat} {u : Value} (hu : xs[i]? = some u) : CellAt (ownT e (.slice (some ⟨g, o, none⟩) n cap) xs) ⟨g, o + i, none⟩ u := fun w h => by
 have h' : Sat (stars [ownT e (.slice (some ⟨g, o, none⟩) n cap) xs]) w := by
  obtain ⟨f, hf, k⟩ := h
  exact ⟨f, hf, f, Part.none, k, rfl, Part.disj_none _, (Part.join_none _).symm⟩
 obtain ⟨x, hx, hs⟩ := sat_exP.1 h'
 cases x with
 | none => obtain ⟨q, _⟩ := hx; cases q
 | some t =>
  obtain ⟨q, _, _, _, hc⟩ := hx
  cases q
  have hg := hs.block (b := t.g) .here
  have := hc i u hu
  simp [World.cell?, hg, this]
/-- Cells written one behind the other. -/
theorem sat_cellsT {g : Nat} {e : TypeId} {M : List HP} : ∀ (ys : List Value) (o : Nat) (cur : Array Value) (w : World), Sat (stars (pt g (.cells cur e (0, 0)) :: M)) w → o + ys.length ≤ cur.size →
  ∃ cur' : Array Value, Sat (stars (pt g (.cells cur' e (0, 0)) :: M)) (w.setCells g o ys) ∧ cur'.size = cur.size ∧ (∀ k, cur'[k]? = if o ≤ k ∧ k < o + ys.length then ys[k - o]? else cur[k]?) ∧ Ext w (w.setCells g o ys)
 | [], o, cur, w, h, _ => ⟨cur, h, rfl, fun k => by rw [if_neg (by simp only [List.length_nil]; omega)], Ext.refl w⟩
 | v :: r, o, cur, w, h, hl => by
  simp only [List.length_cons] at hl
  have hg := h.block (b := g) .here
  have h1 : Sat (stars (pt g (.cells (cur.setIfInBounds o v) e (0, 0)) :: M)) (w.setCell ⟨g, o, none⟩ v) :=
   Sat.setCell (A := stars M) h v
  obtain ⟨cur', a1, a2, a3, a4⟩ := sat_cellsT r (o + 1) (cur.setIfInBounds o v) (w.setCell ⟨g, o, none⟩ v) h1 (by simp; omega)
  refine ⟨cur', a1, by simpa using a2, fun k => ?_, ((Ext.refl w).setCell _ _).trans a4⟩
  rw [a3 k]
  by_cases q : k = o
  ·subst q
   rw [if_neg (by omega), if_pos (by simp), Array.getElem?_setIfInBounds_self_of_lt (by omega)]
   simp
  ·by_cases q2 : o + 1 ≤ k ∧ k < o + 1 + r.length
   ·rw [if_pos q2, if_pos (by simp; omega), show k - o = (k - (o + 1)) + 1 by omega]
    simp
   ·rw [if_neg q2, if_neg (by simp; omega), Array.getElem?_setIfInBounds_ne (Ne.symm q)]
/-- x put in at the i-th place. -/
def insL (xs : List Int) (i : Nat) (x : Int) : List Int := xs.take i ++ x :: xs.drop i
theorem insL_len {xs : List Int} {i : Nat} (h : i ≤ xs.length) (x : Int) : (insL xs i x).length = xs.length + 1 := by simp [insL]; omega
theorem insL_get {xs : List Int} {i : Nat} (h : i ≤ xs.length) (x : Int) (k : Nat) : (insL xs i x)[k]? = if k < i then xs[k]? else if k = i then some x else xs[k - 1]? := by
 unfold insL
 by_cases h1 : k < i
 ·rw [if_pos h1, List.getElem?_append_left (by simp; omega), List.getElem?_take, if_pos h1]
 ·rw [if_neg h1, List.getElem?_append_right (by simp; omega)]
  simp only [List.length_take, Nat.min_eq_left h]
  by_cases h2 : k = i
  ·rw [if_pos h2, h2, Nat.sub_self]; rfl
  ·rw [if_neg h2, show k - i = (k - 1 - i) + 1 by omega, List.getElem?_cons_succ, List.getElem?_drop]
   congr 1; omega
end Go.Proofs.YthkajgkagnenbaaGreatDoor.Eng
end
section
/- slices.Insert of one number, by the shelf's laws. -/
set_option linter.unusedVariables false
set_option linter.unusedSimpArgs false
set_option maxRecDepth 100000
namespace Go.Proofs.YthkajgkagnenbaaGreatDoor.Search
open Go.RowKit Go.Proofs Go.Shelf Go.Proofs.YthkajgkagnenbaaGreatDoor.Eng Go.Proofs.YthkajgkagnenbaaGreatDoor.Ty

/-- The shelf's numbers in this program. -/
def renI : Ren where
 f := fun n => match n with | 21 => 215 | 27 => 241 | 28 => 242 | 35 => 247 | 39 => 248 | _ => 0
 t := fun n => match n with | 3 => 3 | 4 => 4 | 22 => 22 | _ => 0
 g := fun _ => 0
theorem laysI : Lays2.n21 Tryz.prog renI where
 mixed := by kernel_rfl
 f21 := by kernel_rfl
 f27 := by kernel_rfl
 f28 := by kernel_rfl
 f35 := by kernel_rfl
 f39 := by kernel_rfl
 t0 := by kernel_rfl
 a0 := fun w => by kernel_rfl
 z0 := fun w => by kernel_rfl
 v0 := fun w => by kernel_rfl
 t3 := by kernel_rfl
 a3 := fun w => by kernel_rfl
 z3 := fun w => by kernel_rfl
 v3 := fun w => by kernel_rfl
 t4 := by kernel_rfl
 a4 := fun w => by kernel_rfl
 z4 := fun w => by kernel_rfl
 v4 := fun w => by kernel_rfl
 t22 := by kernel_rfl
 a22 := fun w => by kernel_rfl
 z22 := fun w => by kernel_rfl
 v22 := fun w => by kernel_rfl
 i3 := by kernel_rfl
theorem ints_get (xs : List Int) (k : Nat) : (ints xs)[k]? = xs[k]?.map fun x => .int .i64 x := by simp [ints]
theorem ints_one (xs : List Int) : ∀ v ∈ ints xs, v.oneCell' = true := fun v hv => by
 simp only [ints, List.mem_map] at hv
 obtain ⟨x, _, rfl⟩ := hv
 rfl
theorem Insert_ok (v : Value) (xs : List Int) (i : Nat) (x : Int) (vb : Nat) (hi : i ≤ xs.length) (hlen : xs.length ≤ 100000000) :
  FnOk Tryz.prog 215 #[v, .int .i64 (i : Nat), .slice (some ⟨vb, 0, none⟩) 1 1] [ownT 3 v (ints xs), pt vb (.cells #[.int .i64 x] 3 (0, 0))] (fun r L => L = [ownT 3 r (ints (insL xs i x))]) := by
 refine ⟨en215, fun Fr w0 w hs he => callsIn_wide.2 ?_⟩
 simp only [List.cons_append, List.nil_append] at hs
 obtain ⟨y, hy, hs1⟩ := sat_exP.1 hs
 have ht3 : renI.t 3 = 3 := rfl
 have hvs : ∀ j u, [Value.int .i64 x][j]? = some u → w.cell? ⟨vb, 0 + j, none⟩ = some u := fun j u hu => by
  have hb := (hs1.perm List.perm_append_comm).block (b := vb) .here
  simp only [World.cell?, hb, Nat.zero_add]
  simpa using hu
 have h1v : ∀ u ∈ [Value.int .i64 x], u.oneCell' = true := fun u hu => by rw [List.mem_singleton.1 hu]; rfl
 have hml : maxLen = 9223372036854775807 := rfl
 have hil : (insL xs i x).length = xs.length + 1 := insL_len hi x
 -- the pieces at the end
 have fin : ∀ (w' : World) (g o cap : Nat) (cur' : Array Value), Sat (stars (pt g (.cells cur' 3 (0, 0)) :: Fr)) w' → Ext w w' → xs.length + 1 ≤ cap → cap ≤ maxLen → o + cap ≤ cur'.size →
   (∀ k, k < xs.length + 1 → cur'[o + k]? = if k < i then xs[k]?.map fun x => Value.int .i64 x else if k = i then some (.int .i64 x) else xs[k - 1]?.map fun x => Value.int .i64 x) →
   ∃ r L', Ending.returned (.slice (some ⟨g, o, none⟩) (xs.length + 1) cap) = .returned r ∧ L' = [ownT 3 r (ints (insL xs i x))] ∧ Sat (stars (L' ++ Fr)) w' ∧ Ext w0 w' := fun w' g o cap cur' hsat hext h1 h2 h3 h4 =>
  ⟨_, _, rfl, rfl, sat_exP.2 ⟨some ⟨g, o, cap, cur'⟩, ⟨by rw [ints_len, hil], by rw [ints_len, hil]; exact h1, h2, h3, fun k u hu => by
   have hk : k < xs.length + 1 := by rw [← hil, ← ints_len]; exact (List.getElem?_eq_some_iff.1 hu).1
   dsimp only
   rw [h4 k hk, ← hu, ints_get, insL_get hi]
   split
   ·rfl
   ·split <;> rfl⟩, hsat⟩, he.trans hext⟩
 cases y with
 | none =>
  obtain ⟨rfl, hnil⟩ := hy
  have hx : xs = [] := by simpa [ints] using hnil
  subst hx
  obtain rfl : i = 0 := by simpa using hi
  refine (Any2.slices_Insert_int_end_grow laysI none 0 0 vb 0 1 1 [] [.int .i64 x] w (by decide) (by decide) (by decide) (by decide) rfl rfl (fun _ => rfl) (fun a h => by cases h) hvs h1v).mono fun e w' ⟨h1, h2⟩ => ?_
  rw [ht3] at h1 h2
  subst h1 h2
  have hF : Sat (stars Fr) w := (show Sat (stars (pt vb (.cells #[.int .i64 x] 3 (0, 0)) :: Fr)) w from hs1).tail
  have hge := grownCap_ge w 1 0 3
  have hle := grownCap_le_maxLen w 1 0 3 (by decide)
  refine fin _ w.heap.size 0 _ _ (Sat.alloc (A := stars Fr) hF.drew _) ((Ext.refl w).drew.alloc _) hge hle (by simp [size_zeroCells, Value.cells]; omega) fun k hk => ?_
  obtain rfl : k = 0 := by simpa using hk
  rw [Nat.zero_add, Array.getElem?_append_left (by simp)]
  rfl
 | some t =>
  obtain ⟨g, o, cap, cur⟩ := t
  obtain ⟨rfl, y1, y2, y3, y4⟩ := hy
  rw [ints_len] at y1 ⊢
  dsimp only at y1 y2 y3 y4 ⊢
  have hs2 : Sat (stars (pt g (.cells cur 3 (0, 0)) :: pt vb (.cells #[.int .i64 x] 3 (0, 0)) :: Fr)) w := hs1
  have hg := hs2.block (b := g) .here
  have hv := hs2.block (b := vb) (.there .here)
  have hne : vb ≠ g := by
   obtain ⟨_, _, f1, f2, rfl, ⟨f3, f4, rfl, _, _, rfl⟩, d, _⟩ := hs2
   rintro rfl
   rcases d vb with q | q
   ·simp [Part.one] at q
   ·rw [Part.join_eq_none] at q
    simp [Part.one] at q
  have hs3 : Sat (stars (pt g (.cells cur 3 (0, 0)) :: Fr)) w := (hs2.perm (.swap _ _ _)).tail
  have hF : Sat (stars Fr) w := hs3.tail
  have hcs : ∀ j v, (ints xs)[j]? = some v → w.cell? ⟨g, o + j, none⟩ = some v := fun j v hj => by
   simp only [World.cell?, hg]
   simpa using y4 j v hj
  have hsome : ∀ k, k < cur.size → (w.cell? ⟨g, k, none⟩).isSome = true := fun k hk => by
   simp only [World.cell?, hg]
   simp [hk]
  have hfz : ∀ k, w.frozen? ⟨g, k, none⟩ = false := fun k => by simp [World.frozen?, hg]
  have hfv : ∀ k, w.frozen? ⟨vb, k, none⟩ = false := fun k => by simp [World.frozen?, hv]
  have hold : ∀ k, k < xs.length → cur[o + k]? = xs[k]?.map fun x => Value.int .i64 x := fun k hk => by
   rw [← ints_get, y4 k _ (ints_at hk), ints_at hk]
  by_cases hroom : xs.length + 1 ≤ cap
  ·by_cases hin : i = xs.length
   ·subst hin
    refine (Any2.slices_Insert_int_end_room laysI g o xs.length cap vb 0 1 1 [.int .i64 x] w (by decide) hroom (by omega) rfl (fun j hj => hsome _ (by omega)) (fun j _ => hfz _) hvs h1v).mono fun e w' ⟨h1, h2⟩ => ?_
    subst h1 h2
    obtain ⟨cur', a1, a2, a3, a4⟩ := sat_cellsT [.int .i64 x] (o + xs.length) cur w hs3 (by simp only [List.length_cons, List.length_nil]; omega)
    refine fin _ g o cap cur' a1 a4 hroom y2 (by omega) fun k hk => ?_
    rw [a3]
    by_cases q : k < xs.length
    ·rw [if_neg (by simp only [List.length_cons, List.length_nil]; omega), if_pos q]; exact hold k q
    ·obtain rfl : k = xs.length := by omega
     rw [if_pos (by simp), if_neg q, if_pos rfl, Nat.sub_self]; rfl
   ·have hlt : i < xs.length := by omega
    refine (Any2.slices_Insert_int_shift laysI g o xs.length cap i vb 0 1 1 (ints xs) [.int .i64 x] w hlt (by decide) hroom (by omega) hne (ints_len xs) rfl hcs (fun j hj => hsome _ (by omega)) (fun j _ => hfz _) hvs (ints_one xs) h1v 3 3 1 cur.size (by simp [World.shape?, hv]) (by simp [World.shape?, hg]) (by omega) (hfv _) (hfv _)).mono fun e w' ⟨h1, h2⟩ => ?_
    subst h1 h2
    have hdl : ((ints xs).drop i).length = xs.length - i := by rw [List.length_drop, ints_len]
    obtain ⟨c1, a1, a2, a3, a4⟩ := sat_cellsT ((ints xs).drop i) (o + (i + 1)) cur w.drew hs3.drew (by rw [hdl]; omega)
    obtain ⟨c2, b1, b2, b3, b4⟩ := sat_cellsT [.int .i64 x] (o + i) c1 _ a1 (by simp only [List.length_cons, List.length_nil]; omega)
    refine fin _ g o cap c2 b1 (((Ext.refl w).drew.trans a4).trans b4) hroom y2 (by omega) fun k hk => ?_
    rw [b3, a3, hdl]
    simp only [List.length_cons, List.length_nil]
    by_cases q : k < i
    ·rw [if_neg (by omega), if_neg (by omega), if_pos q]; exact hold k (by omega)
    ·rw [if_neg q]
     by_cases q2 : k = i
     ·rw [if_pos (by omega), if_pos q2, show o + k - (o + i) = 0 by omega]; rfl
     ·rw [if_neg (by omega), if_pos (by omega), if_neg q2, List.getElem?_drop, ints_get]
      congr 2; omega
  ·have hge := grownCap_ge w (xs.length + 1) cap 3
   have hle := grownCap_le_maxLen w (xs.length + 1) cap 3 (by omega)
   by_cases hin : i = xs.length
   ·subst hin
    refine (Any2.slices_Insert_int_end_grow laysI (some ⟨g, o, none⟩) xs.length cap vb 0 1 1 (ints xs) [.int .i64 x] w (by decide) y1 (by omega) (by omega) (ints_len xs) rfl (fun h => by cases h) (fun a h j v hj => by cases h; rw [add_none]; exact hcs j v hj) hvs h1v).mono fun e w' ⟨h1, h2⟩ => ?_
    rw [ht3] at h1 h2
    subst h1 h2
    refine fin _ w.heap.size 0 _ _ (Sat.alloc (A := stars Fr) hF.drew _) ((Ext.refl w).drew.alloc _) hge hle (by simp [size_zeroCells, Value.cells, ints_len]; omega) fun k hk => ?_
    rw [Nat.zero_add]
    rw [Array.getElem?_append_left (by simp [ints_len]; omega)]
    rw [List.getElem?_toArray]
    by_cases q : k < xs.length
    ·rw [if_pos q, List.getElem?_append_left (by rw [ints_len]; exact q), ints_get]
    ·obtain rfl : k = xs.length := by omega
     rw [if_neg q, if_pos rfl, List.getElem?_append_right (by rw [ints_len]; omega), ints_len, Nat.sub_self]; rfl
   ·have hlt : i < xs.length := by omega
    refine (Any2.slices_Insert_int_grow laysI g o xs.length cap i vb 0 1 1 (ints xs) [.int .i64 x] w hlt (by decide) y1 (by omega) (by omega) (ints_len xs) rfl hcs hvs (ints_one xs) h1v).mono fun e w' ⟨h1, h2⟩ => ?_
    rw [ht3] at h1 h2
    subst h1 h2
    have hdl : ((ints xs).drop i).length = xs.length - i := by rw [List.length_drop, ints_len]
    have hA := (Sat.alloc (A := stars Fr) hF (.cells (((ints xs).take i).toArray ++ Builtin.zeroCells (Value.int .i64 0).cells (xs.length + 1 - i) ++ Builtin.zeroCells (Value.int .i64 0).cells (grownCap w (xs.length + 1) cap 3 - (xs.length + 1))) 3)).drew
    obtain ⟨cur0, hcur0⟩ : ∃ cur0, cur0 = ((ints xs).take i).toArray ++ Builtin.zeroCells (Value.int .i64 0).cells (xs.length + 1 - i) ++ Builtin.zeroCells (Value.int .i64 0).cells (grownCap w (xs.length + 1) cap 3 - (xs.length + 1)) := ⟨_, rfl⟩
    have hsz : cur0.size = grownCap w (xs.length + 1) cap 3 := by
     rw [hcur0]
     simp [size_zeroCells, Value.cells, ints_len]
     omega
    have hfst : ∀ k, k < i → cur0[k]? = xs[k]?.map fun x => Value.int .i64 x := fun k hk => by
     rw [hcur0, Array.append_assoc, Array.getElem?_append_left (by simp [ints_len]; omega), List.getElem?_toArray, List.getElem?_take, if_pos hk, ints_get]
    rw [← hcur0] at hA ⊢
    obtain ⟨c1, a1, a2, a3, a4⟩ := sat_cellsT [.int .i64 x] i cur0 _ hA (by simp only [List.length_cons, List.length_nil]; omega)
    obtain ⟨c2, b1, b2, b3, b4⟩ := sat_cellsT ((ints xs).drop i) (i + 1) c1 _ a1.drew (by rw [hdl]; omega)
    refine fin _ w.heap.size 0 _ c2 b1 ((((Ext.refl w).alloc _).drew.trans a4).drew.trans b4) hge hle (by omega) fun k hk => ?_
    rw [Nat.zero_add, b3, a3, hdl]
    simp only [List.length_cons, List.length_nil]
    by_cases q : k < i
    ·rw [if_neg (by omega), if_neg (by omega), if_pos q]; exact hfst k q
    ·rw [if_neg q]
     by_cases q2 : k = i
     ·rw [if_neg (by omega), if_pos (by omega), if_pos q2, show k - i = 0 by omega]; rfl
     ·rw [if_pos (by omega), if_neg q2, List.getElem?_drop, ints_get]
      congr 2; omega
end Go.Proofs.YthkajgkagnenbaaGreatDoor.Search
end
