/- The contracts of package table: one table of groups. -/
import Derived.Test.YthkajgkagnenbaaGreatDoorGroup
import Derived.Test.YthkajgkagnenbaaGreatDoorTableI
set_option linter.unusedVariables false
set_option linter.unusedSimpArgs false
set_option maxRecDepth 100000
namespace Go.Proofs.YthkajgkagnenbaaGreatDoor.Table
open Go.RowKit Go.Proofs Go.Proofs.YthkajgkagnenbaaGreatDoor.Eng Go.Proofs.YthkajgkagnenbaaGreatDoor.Ty Go.Proofs.YthkajgkagnenbaaGreatDoor.Bits Go.Proofs.YthkajgkagnenbaaGreatDoor.Mem Go.Proofs.YthkajgkagnenbaaGreatDoor.Search Go.Proofs.YthkajgkagnenbaaGreatDoor.Arena Go.Proofs.YthkajgkagnenbaaGreatDoor.CtrlB Go.Proofs.YthkajgkagnenbaaGreatDoor.Ctrl Go.Proofs.YthkajgkagnenbaaGreatDoor.Layout Go.Proofs.YthkajgkagnenbaaGreatDoor.GroupB Go.Proofs.YthkajgkagnenbaaGreatDoor.Group Go.Proofs.YthkajgkagnenbaaGreatDoor.Probe Go.Proofs.YthkajgkagnenbaaGreatDoor.TableB Go.Proofs.YthkajgkagnenbaaGreatDoor.TableI


/-- The header's words fit. -/
def HOk (T : Tb) (n go : Nat) : Prop := ∀ k, k < 8 → -9223372036854775808 ≤ headV T n go k ∧ headV T n go k ≤ 9223372036854775807
theorem wrap_back {v : Int} (h : -9223372036854775808 ≤ v ∧ v ≤ 9223372036854775807) : IntKind.i64.wrap (IntKind.u64.wrap v) = v := by
 rw [IntKind.wrap_u64, IntKind.wrap_i64]; omega
/-- The header's words read so far. -/
def wl (T : Tb) (n go k : Nat) : List Value := (List.range 8).map fun j => if j < k then .int .i64 (headV T n go j) else .int .i64 0
theorem wl_set (T : Tb) (n go k : Nat) (hk : k < 8) : (wl T n go k).set k (.int .i64 (headV T n go k)) = wl T n go (k + 1) := by
 apply List.ext_getElem?
 intro i
 rw [List.getElem?_set]
 simp only [wl, List.length_map, List.length_range, List.getElem?_map]
 by_cases h : i < 8
 ·rw [List.getElem?_range h]
  by_cases q : k = i
  ·subst q; simp [h]
  ·rw [if_neg q]
   simp only [Option.map_some, Option.some.injEq]
   by_cases q2 : i < k
   ·rw [if_pos q2, if_pos (by omega)]
   ·rw [if_neg q2, if_neg (by omega)]
 ·rw [List.getElem?_eq_none (by simpa using h)]
  simp; intro e; omega
theorem wl_len (T : Tb) (n go k : Nat) : (wl T n go k).length = 8 := by simp [wl]

theorem Stat_ok (pa off go n : Nat) (s : ArS) (l : Lay) (T : Tb) (hg : goodP s off 64) (hh : ∀ k, k < 8 → loadN s.m (off + 8 * k) 8 = IntKind.u64.wrap (headV T n go k)) (hr : HOk T n go) :
  FnOk Tryz.prog 65 #[.agg #[.pointer (some ⟨pa, 0, none⟩), .int .i64 l.key, .int .i64 l.elem, .int .i64 l.ka, .int .i64 l.ea, .int .i64 l.cap, .int .i64 l.eo, .int .i64 l.bo, .int .i64 l.slot, .int .i64 l.group, .int .i64 (off : Nat)]] [arenaH pa s] (fun v L => v = .tuple #[.agg #[.int .i64 T.used, .int .i64 (8 * (n : Int)), .int .i64 T.left, .int .i64 T.depth, .int .i64 T.pins, .int .i64 T.next, .bool (decide (T.kind = 4)), .int .i64 (go : Nat)], .int .i64 0] ∧ L = [arenaH pa s]) := by
 refine fn_intro en65 Tryz.func65 rfl rfl rfl fun Fr w0 => t_nm ?_
 refine t_pure (φ := s.ok) (fun w hw => arena_ok hw .here) fun hok0 => ?_
 have hge := goodP.end_le hok0 hg
 have hst0 := hok0.stop_eq
 refine sr<|o_boxA O O fun b1 => o_allocA O yZ147 fun b2 => asg O O<|lz<|o_allocA O yZ243 fun b4 => lc<|t_seq<|sr<|mv O O<|lc<|t_block ?_
 refine t_loop (fun k : Nat => k ≤ 8) (fun k => [(1, .pointer (some ⟨b1, 0, none⟩)), (2, .pointer (some ⟨b2, 0, none⟩)), (4, .pointer (some ⟨b4, 0, none⟩)), (8, .int .i64 k)]) (fun k => pt b4 (.cells (wl T n go k).toArray 243 (0, 0)) :: pt b1 (.cells #[.pointer (some ⟨pa, 0, none⟩), .int .i64 l.key, .int .i64 l.elem, .int .i64 l.ka, .int .i64 l.ea, .int .i64 l.cap, .int .i64 l.eo, .int .i64 l.bo, .int .i64 l.slot, .int .i64 l.group, .int .i64 (off : Nat)] 39 (0, 0)) :: pt b2 (.cells #[.int .i64 0, .int .i64 0, .int .i64 0, .int .i64 0, .int .i64 0, .int .i64 0, .bool false, .int .i64 0] 147 (0, 0)) :: arenaH pa s :: Fr) (fun k => 8 - k) 0 (by omega) ⟨rfl, rfl, rfl, rfl, trivial⟩ (by first | exact Ent.refl _ | (rw [show wl T n go 0 = [.int .i64 0, .int .i64 0, .int .i64 0, .int .i64 0, .int .i64 0, .int .i64 0, .int .i64 0, .int .i64 0] from rfl]; (exact en))) ?_
 intro k hk8
 refine sr<|l_q O (qi O O (b_lss ·))<|lc<|t_seq<|t_if O (fun h => ?_) fun h => ?_
 ·have hk : k < 8 := by omega
  refine t_skip<|n_code<|t_seq<|t_block<|sr<|mv O O<|asg O O<|lz<|l_q O (qfa 0 rfl yU39 O O yS31)<|l_q O (qld O yA31) ?_
  refine l_q O (qfa 10 rfl yU39 O O yS3)<|l_q O (qld O yA3) ?_
  refine mv O O<|l_q O (qmul O O) ?_
  refine l_q O (qadd O O) ?_
  refine lc1 O O O (Load_okI pa s _ 8 (off + 8 * k) 8 (by omega) rfl (by unfold wid; omega) (goodP.sub (off' := (off : Int) + 8 * (k : Int)) hg (by omega) (by omega) (by omega))) ?_
  refine mv O O<|l_q O (q_extractL O ga) ?_
  refine l_q O (q_extractL O ga) ?_
  refine asg O O<|asg O O<|lc<|t_seq<|sr<|mv O O<|l_q O (qi O O (b_neq ·))<|lc<|t_if O (fun z => ?_) fun z => ?_
  ·exact absurd rfl z
  ·refine t_skip<|n_code<|t_region<|mv O O<|mv O O<|l_q O (qcv O yU27 yU3) ?_
   refine l_q O (q_indexAddrA O O yU243 yS3 (by omega)) ?_
   apply o_store O O O yS3 O
   ·exact tk
   ·rw [Nat.zero_add, Int.toNat_natCast, Nat.mul_one]; exact Nat.ble_eq_true_of_le (by simp [wl_len]; omega)
   ·rw [Nat.zero_add, Int.toNat_natCast, Nat.mul_one, hh k hk, wrap_back (hr k hk), List.setIfInBounds_toArray, wl_set T n go k hk]
   refine l_nil<|n_blk<|n_code<|t_region<|l_q O (qadd O O) ?_
   refine mv O O<|l_nil ?_
   apply n_again ((k + 1))
   ·exact (show k + 1 ≤ 8 by omega)
   ·omega
   ·exact ⟨rfl, rfl, rfl, rfl, trivial⟩
   ·exact en
 ·obtain rfl : k = 8 := by omega
  refine t_ent (L' := pt b4 (.cells #[.int .i64 T.kind, .int .i64 T.pins, .int .i64 T.next, .int .i64 T.used, .int .i64 (8 * (n : Int)), .int .i64 T.left, .int .i64 T.depth, .int .i64 (go : Nat)] 243 (0, 0)) :: pt b2 (.cells #[.int .i64 0, .int .i64 0, .int .i64 0, .int .i64 0, .int .i64 0, .int .i64 0, .bool false, .int .i64 0] 147 (0, 0)) :: arenaH pa s :: Fr) ?_ ?_
  ·rw [show wl T n go 8 = [.int .i64 T.kind, .int .i64 T.pins, .int .i64 T.next, .int .i64 T.used, .int .i64 (8 * (n : Int)), .int .i64 T.left, .int .i64 T.depth, .int .i64 ((go : Nat) : Int)] from rfl]
   (exact en)
  refine xt O<|nz<|l_q O (q_indexAddrA O O yU243 yS3 (by omega)) ?_
  refine l_q O (qld O yA3) ?_
  refine l_q O (q_indexAddrA O O yU243 yS3 (by omega)) ?_
  refine l_q O (qld O yA3) ?_
  refine l_q O (q_indexAddrA O O yU243 yS3 (by omega)) ?_
  refine l_q O (qld O yA3) ?_
  refine l_q O (q_indexAddrA O O yU243 yS3 (by omega)) ?_
  refine l_q O (qld O yA3) ?_
  refine l_q O (q_indexAddrA O O yU243 yS3 (by omega)) ?_
  refine l_q O (qld O yA3) ?_
  refine l_q O (q_indexAddrA O O yU243 yS3 (by omega)) ?_
  refine l_q O (qld O yA3) ?_
  refine l_q O (q_indexAddrA O O yU243 yS3 (by omega)) ?_
  refine l_q O (qld O yA3) ?_
  refine l_q O (qi O O (b_eql ·))<|l_q O (q_indexAddrA O O yU243 yS3 (by omega)) ?_
  refine l_q O (qld O yA3) ?_
  apply l_q O
  ·apply q_buildS O yP147 yZ147
   ·apply FillR.one
    ·repeat (first | exact PlAt.here | apply PlAt.there)
    ·rfl
    ·exact sa
    apply FillR.one
    ·repeat (first | exact PlAt.here | apply PlAt.there)
    ·rfl
    ·exact sa
    apply FillR.one
    ·repeat (first | exact PlAt.here | apply PlAt.there)
    ·rfl
    ·exact sa
    apply FillR.one
    ·repeat (first | exact PlAt.here | apply PlAt.there)
    ·rfl
    ·exact sa
    apply FillR.one
    ·repeat (first | exact PlAt.here | apply PlAt.there)
    ·rfl
    ·exact sa
    apply FillR.one
    ·repeat (first | exact PlAt.here | apply PlAt.there)
    ·rfl
    ·exact sa
    apply FillR.one
    ·repeat (first | exact PlAt.here | apply PlAt.there)
    ·rfl
    ·exact sa
    apply FillR.one
    ·repeat (first | exact PlAt.here | apply PlAt.there)
    ·rfl
    ·exact sa
    exact FillR.nil
  refine sta O O O yS147 O O ?_
  refine asg O O<|lc<|rt ?_
  apply f_ret (.inl rfl) ([arenaH pa s])
  ·apply res2 O
   ·apply Rv.agg rfl
    ·exact tk
    ·exact run_loadAll yA147 yS147 O
   ·exact .tmp rfl
  ·exact ⟨rfl, rfl⟩
  ·exact en
theorem group_ok (pa off go g n : Nat) (l : Lay) (hl : l.err = 0) (T : Tb) (i : Int) (hi : i = (g : Nat)) (hb : go + g * gN l ≤ 1000000000) :
  FnOk Tryz.prog 136 #[.agg #[.pointer (some ⟨pa, 0, none⟩), .int .i64 l.key, .int .i64 l.elem, .int .i64 l.ka, .int .i64 l.ea, .int .i64 l.cap, .int .i64 l.eo, .int .i64 l.bo, .int .i64 l.slot, .int .i64 l.group, .int .i64 (off : Nat)], .agg #[.int .i64 T.used, .int .i64 (8 * (n : Int)), .int .i64 T.left, .int .i64 T.depth, .int .i64 T.pins, .int .i64 T.next, .bool (decide (T.kind = 4)), .int .i64 (go : Nat)], .int .i64 i] [] (fun v L => v = .agg #[.pointer (some ⟨pa, 0, none⟩), .int .i64 l.key, .int .i64 l.elem, .int .i64 l.ka, .int .i64 l.ea, .int .i64 l.cap, .int .i64 l.eo, .int .i64 l.bo, .int .i64 l.slot, .int .i64 l.group, .int .i64 ((go + g * gN l : Nat) : Int)] ∧ L = []) := by
 have hN := layN hl
 have hng := hN.g
 have hm : i * l.group = ((g * gN l : Nat) : Int) := by rw [hi, Int.natCast_mul, hng]
 refine fn_intro en136 Tryz.func136 rfl rfl rfl fun Fr w0 => t_nm ?_
 refine sr<|o_boxA O O fun b3 => o_boxA O O fun b4 => o_allocA O yZ182 fun b6 => lz<|l_q O (qfa 0 rfl yU39 O O yS31)<|l_q O (qld O yA31) ?_
 refine l_q O (qfa 1 rfl yU39 O O yS34)<|l_q O (qlda O yA34 yS34) ?_
 refine l_q O (qfa 7 rfl yU147 O O yS3)<|l_q O (qld O yA3) ?_
 refine mv O O<|l_q O (qfa 1 rfl yU39 O O yS34)<|l_q O (qfa 8 rfl yU34 O O yS3)<|l_q O (qld O yA3) ?_
 refine l_q O (qmul O O) ?_
 refine l_q O (qadd O O) ?_
 rw [hm, ← Int.natCast_add]
 refine lc1 O O O (At_ok pa (go + g * gN l) l) ?_
 refine sta O O O yS182 O O ?_
 refine lc<|rt ?_
 apply f_ret (.inl rfl) ([])
 ·apply res1 O
  ·apply Rv.agg rfl
   ·exact tk
   ·exact run_loadAll yA182 yS182 O
 ·exact ⟨rfl, rfl⟩
 ·exact en
theorem set_ok (pa off k : Nat) (s : ArS) (l : Lay) (at_ : Int) (v : Int) (hat : at_ = ((8 * k : Nat) : Int)) (hk : k < 8) (hg : goodP s off 64) :
  FnOk Tryz.prog 133 #[.agg #[.pointer (some ⟨pa, 0, none⟩), .int .i64 l.key, .int .i64 l.elem, .int .i64 l.ka, .int .i64 l.ea, .int .i64 l.cap, .int .i64 l.eo, .int .i64 l.bo, .int .i64 l.slot, .int .i64 l.group, .int .i64 (off : Nat)], .int .i64 at_, .int .i64 v] [arenaH pa s] (fun r L => L = [arenaH pa (s.put (off + 8 * k) 8 (byteN (IntKind.u64.wrap v)))]) := by
 subst hat
 refine fn_intro en133 Tryz.func133 rfl rfl rfl fun Fr w0 => t_nm ?_
 refine t_pure (φ := s.ok) (fun w hw => arena_ok hw .here) fun hok0 => ?_
 have hge := goodP.end_le hok0 hg
 have hst0 := hok0.stop_eq
 have hw : ∀ x, 0 ≤ IntKind.u64.wrap x ∧ IntKind.u64.wrap x < 18446744073709551616 := fun x => by rw [IntKind.wrap_u64]; omega
 have hc : ∀ w, (convert 3 27 (.int .i64 v)).run Tryz.prog w = .ok (.int .u64 (IntKind.u64.wrap v)) w := fun w => c_int w Tryz.underlying3 Tryz.underlying27
 refine sr<|o_boxA O O fun b3 => lr<|l_q O (qfa 0 rfl yU39 O O yS31)<|l_q O (qld O yA31) ?_
 refine l_q O (qfa 10 rfl yU39 O O yS3)<|l_q O (qld O yA3) ?_
 refine mv O O<|l_q O (qadd O O) ?_
 refine mv O O<|l_q O (q_conv O hc) ?_
 refine lcf O O O (Store_okI pa s _ 8 (off + 8 * k) 8 (IntKind.u64.wrap v) (by omega) rfl (hw v) (by unfold wid; omega) (goodP.sub (off' := (off : Int) + ((8 * k : Nat) : Int)) hg (by omega) (by omega) (by omega))) ?_
 rintro v' L' ⟨rfl, rfl⟩
 refine l_nm ?_
 refine l_nil ?_
 apply f_ret (.inr rfl) ([arenaH pa (s.put (off + 8 * k) 8 (byteN (IntKind.u64.wrap v)))])
 ·exact res0 O
 ·exact rfl
 ·exact en

/-! ### A search -/
def sS (cs : Nat → Cell) (t : Nat) : Nat → Bool := fun i => ctF cs i == t
section
variable {l : Lay} {cs : Nat → Cell} (hok : ∀ i, i < 8 → (cs i).ok l)
include hok
theorem sel_full {t : Nat} (ht : t < 128) {i : Nat} (hi : i < 8) : sS cs t i = true ↔ ∃ k e b, cs i = .full (t : Int) k e b := by
 have h1 := ct_cast hok hi
 unfold sS
 rw [beq_iff_eq]
 cases hc : cs i with
 | empty => rw [hc] at h1; simp only [Cell.ctrl] at h1; constructor; omega; rintro ⟨_, _, _, q⟩; cases q
 | deleted => rw [hc] at h1; simp only [Cell.ctrl] at h1; constructor; omega; rintro ⟨_, _, _, q⟩; cases q
 | full t' k e b =>
  rw [hc] at h1; simp only [Cell.ctrl] at h1
  constructor
  ·intro q; exact ⟨k, e, b, by congr 1; omega⟩
  ·rintro ⟨_, _, _, q⟩; cases q; omega
theorem emp_eq {i : Nat} (hi : i < 8) : (ctF cs i == 128) = empS cs i := by
 have h1 := ct_cast hok hi
 have h2 := hok i hi
 rw [Bool.eq_iff_iff, beq_iff_eq]
 unfold empS
 cases hc : cs i with
 | empty => rw [hc] at h1; simp only [Cell.ctrl] at h1; simp; omega
 | deleted => rw [hc] at h1; simp only [Cell.ctrl] at h1; simp; omega
 | full t' k e b => rw [hc] at h1 h2; simp only [Cell.ctrl] at h1; obtain ⟨h3, h4, _⟩ := h2; simp; omega
theorem vac_eq {i : Nat} (hi : i < 8) : (ctF cs i == 128 || ctF cs i == 254) = vacS cs i := by
 have h1 := ct_cast hok hi
 have h2 := hok i hi
 rw [Bool.eq_iff_iff, Bool.or_eq_true, beq_iff_eq, beq_iff_eq]
 unfold vacS
 cases hc : cs i with
 | empty => rw [hc] at h1; simp only [Cell.ctrl] at h1; simp; omega
 | deleted => rw [hc] at h1; simp only [Cell.ctrl] at h1; simp; omega
 | full t' k e b => rw [hc] at h1 h2; simp only [Cell.ctrl] at h1; obtain ⟨h3, h4, _⟩ := h2; simp; omega
theorem MatchE_ok : FnOk Tryz.prog 161 #[.int .u64 (wI (ctF cs))] [] (fun v L => v = bitsV (empS cs) ∧ L = []) :=
 (MatchEmpty_ok (ctF cs) (ok_ct hok)).mono fun v L ⟨h1, h2⟩ => ⟨by rw [h1]; unfold bitsV; rw [selW_congr fun i hi => emp_eq hok hi], h2⟩
theorem MatchV_ok : FnOk Tryz.prog 174 #[.int .u64 (wI (ctF cs))] [] (fun v L => v = bitsV (vacS cs) ∧ L = []) :=
 (MatchVacant_ok (ctF cs) (ok_ct hok)).mono fun v L ⟨h1, h2⟩ => ⟨by rw [h1]; unfold bitsV; rw [selW_congr fun i hi => vac_eq hok hi], h2⟩
theorem hit_none {t : Nat} (ht : t < 128) {key : ByteArray} (h : ∀ j (hj : j < (slotsF (sS cs t)).length), (cs (slotsF (sS cs t))[j]).keyS ≠ key) : firstF (hitS cs t key) = 8 := by
 rw [firstF_none]
 intro i hi
 cases q : hitS cs t key i with
 | false => rfl
 | true =>
  exfalso
  obtain ⟨e, b, hc⟩ := hit_cell q
  have hm : i ∈ slotsF (sS cs t) := slotsF_mem.2 ⟨hi, (sel_full hok ht hi).2 ⟨_, _, _, hc⟩⟩
  obtain ⟨j, hj, e2⟩ := List.getElem_of_mem hm
  exact h j hj (by rw [e2, hc]; rfl)
theorem hit_at {t : Nat} (ht : t < 128) {key : ByteArray} {j : Nat} (hj : j < (slotsF (sS cs t)).length) (hno : ∀ j' (hj' : j' < (slotsF (sS cs t)).length), j' < j → (cs (slotsF (sS cs t))[j']).keyS ≠ key) (hk : (cs (slotsF (sS cs t))[j]).keyS = key) :
  firstF (hitS cs t key) = (slotsF (sS cs t))[j] := by
 have hm := slotsF_mem.1 (List.getElem_mem hj)
 obtain ⟨k, e, b, hc⟩ := (sel_full hok ht hm.1).1 hm.2
 refine firstF_eq hm.1 (hit_of (e := e) (b := b) ?_) fun i hi => ?_
 ·rw [hc] at hk ⊢; simp only [Cell.keyS] at hk; rw [hk]
 ·cases q : hitS cs t key i with
  | false => rfl
  | true =>
   exfalso
   obtain ⟨e, b, hc⟩ := hit_cell q
   have hi8 : i < 8 := by omega
   have hm2 : i ∈ slotsF (sS cs t) := slotsF_mem.2 ⟨hi8, (sel_full hok ht hi8).2 ⟨_, _, _, hc⟩⟩
   obtain ⟨j', hj', e2⟩ := List.getElem_of_mem hm2
   refine hno j' hj' ?_ (by rw [e2, hc]; rfl)
   rcases Nat.lt_trichotomy j' j with q2 | q2 | q2
   ·exact q2
   ·subst q2; omega
   ·have hp : (slotsF (sS cs t)).Pairwise (· < ·) := (List.pairwise_lt_range (n := 8)).filter _
    have := List.pairwise_iff_getElem.1 hp j j' hj hj' q2
    omega
end
theorem slotsV_get {s : Nat → Bool} {j : Nat} {x : List Value} (h : (slotsV s)[j]? = some x) : ∃ hj : j < (slotsF s).length, x = [.int .i64 (((slotsF s)[j] : Nat) : Int)] := by
 simp only [slotsV, List.getElem?_map, Option.map_eq_some_iff] at h
 obtain ⟨a, h1, h2⟩ := h
 obtain ⟨hj, e⟩ := List.getElem?_eq_some_iff.1 h1
 exact ⟨hj, by rw [← h2, e]⟩
theorem slotsV_len (s : Nat → Bool) : (slotsV s).length = (slotsF s).length := by simp [slotsV]
theorem grp_n {n e : Nat} (he : e ≤ 13) (hn : n = 2 ^ e) : grp (n : Int) = n := by
 have : Probe.powB (n : Int) 1 8192 = true := (valid_powB _).2 ⟨e, he, by rw [hn, pow_cast]⟩
 have := (grp_yes this).1
 omega
theorem Order_n (home : Int) {n e : Nat} (he : e ≤ 13) (hn : n = 2 ^ e) :
  FnOk Tryz.prog 186 #[.int .u64 home, .int .i64 (n : Nat)] [] (fun v L => ∃ bh bg, v = .func (.func 224) #[] #[.pointer (some ⟨bh, 0, none⟩), .pointer (some ⟨bg, 0, none⟩)] ∧
   L = [pt bh (.cells #[.int .u64 home] 27 (0, 0)), pt bg (.cells #[.int .i64 (n : Nat)] 3 (0, 0))]) :=
 (Order_ok home n).mono fun v L ⟨bh, bg, h1, h2⟩ => ⟨bh, bg, h1, by rw [h2, grp_n he hn]⟩
theorem order_itn (bh bg : Nat) (home : Int) (hh : 0 ≤ home ∧ home < 18446744073709551616) {n e : Nat} (he : e ≤ 13) (hn : n = 2 ^ e) :
  IterOk Tryz.prog 224 #[.pointer (some ⟨bh, 0, none⟩), .pointer (some ⟨bg, 0, none⟩)] [pt bh (.cells #[.int .u64 home] 27 (0, 0)), pt bg (.cells #[.int .i64 (n : Nat)] 3 (0, 0))]
   (way home n) [pt bh (.cells #[.int .u64 home] 27 (0, 0)), pt bg (.cells #[.int .i64 (n : Nat)] 3 (0, 0))] := by
 have := order_it bh bg home hh n
 rw [grp_n he hn] at this
 exact this
theorem Tag_okN (h : Int) (hh : 0 ≤ h ∧ h < 18446744073709551616) (t : Nat) (ht : h % 128 = (t : Nat)) : FnOk Tryz.prog 139 #[.int .u64 h] [] (fun v L => v = .int .i64 (t : Nat) ∧ L = []) :=
 (Tag_ok h hh).mono fun v L ⟨h1, h2⟩ => ⟨by rw [h1, ht], h2⟩

set_option maxHeartbeats 1000000 in
theorem search_ok (G : HP) (hG : TabOk G) (pa off go n e : Nat) (s : ArS) (l : Lay) (T : Tb) (hl : l.err = 0) (he : e ≤ 13) (hn : n = 2 ^ e) (hT : TAt s.m off go l n T) (hgh : goodP s off 64) (hgg : goodP s go ((n * gN l : Nat) : Int)) (hr : HOk T n go)
  (h : Int) (hh : 0 ≤ h ∧ h < 18446744073709551616) (key : ByteArray) (hk : key.size = kN l) :
  FnOk Tryz.prog 135 #[.agg #[.pointer (some ⟨pa, 0, none⟩), .int .i64 l.key, .int .i64 l.elem, .int .i64 l.ka, .int .i64 l.ea, .int .i64 l.cap, .int .i64 l.eo, .int .i64 l.bo, .int .i64 l.slot, .int .i64 l.group, .int .i64 (off : Nat)], .int .u64 h, .string key] [G, arenaH pa s]
   (fun v L => v = .tuple #[.agg #[.int .i64 T.used, .int .i64 (8 * (n : Int)), .int .i64 T.left, .int .i64 T.depth, .int .i64 T.pins, .int .i64 T.next, .bool (decide (T.kind = 4)), .int .i64 (go : Nat)], .agg #[.int .i64 (searchR (h / 128) n T.cells (h % 128) key).slot, .int .i64 (searchR (h / 128) n T.cells (h % 128) key).vac, .bool (searchR (h / 128) n T.cells (h % 128) key).emp, .int .i64 (searchR (h / 128) n T.cells (h % 128) key).probes], .int .i64 0] ∧ L = [G, arenaH pa s]) := by
 have hN := layN hl
 have hks : (key.size : Int) = l.key := by rw [hk]; exact hN.k
 have hn0 : 0 < n := by rw [hn]; exact Nat.two_pow_pos e
 have hn8 : n ≤ 8192 := by rw [hn]; exact (Nat.pow_le_pow_right (by decide : 0 < 2) he : 2 ^ e ≤ 2 ^ 13)
 obtain ⟨t, htt, ht128⟩ : ∃ t : Nat, h % 128 = (t : Nat) ∧ t < 128 := ⟨(h % 128).toNat, by omega, by omega⟩
 rw [htt]
 refine fn_intro en135 Tryz.func135 rfl rfl rfl fun Fr w0 => t_nm ?_
 refine t_pure (φ := s.ok) (fun w hw => arena_ok hw (.there .here)) fun hok0 => ?_
 have hge := goodP.end_le hok0 hgh
 have hge2 := goodP.end_le hok0 hgg
 have hst0 := hok0.stop_eq
 refine sr<|o_boxA O O fun b3 => o_box1 O O O fun b4 => o_box1 O O O fun b5 => o_allocA O yZ147 fun b6 => o_allocA O yZ224 fun b7 => o_alloc1 O yZ77 O fun b8 => lc<|t_scope<|sr<|l_q O (qlda O yA39 yS39) ?_
 refine lc1 O O O (Stat_ok pa off go n s l T hgh hT.head hr) ?_
 refine mv O O<|l_q O (q_extractL O ga) ?_
 refine l_q O (q_extractL O ga) ?_
 refine o_allocA O yZ147 fun b9 => sta O O O yS147 O O ?_
 refine asg O O<|lc<|t_seq<|sr<|mv O O<|l_q O (qi O O (b_neq ·))<|lc<|t_if O (fun z => ?_) fun z => ?_
 ·exact absurd rfl z
 ·refine t_skip<|n_code<|t_seq<|sr<|l_q O (qld O yA9) ?_
  refine l_q O (qls O yU9)<|l_q O (qfa 1 rfl yU39 O O yS34)<|l_q O (qfa 0 rfl yU34 O O yS3)<|l_q O (qld O yA3) ?_
  refine l_q O (qi O O (b_neq ·))<|lc<|t_if O (fun y => ?_) fun y => ?_
  ·omega
  ·refine t_skip<|nz ?_
   apply l_q O
   ·apply q_buildS O yP224 yZ224
    ·apply FillR.one
     ·repeat (first | exact PlAt.here | apply PlAt.there)
     ·rfl
     ·exact sa
     apply FillR.one
     ·repeat (first | exact PlAt.here | apply PlAt.there)
     ·rfl
     ·exact sa
     exact FillR.nil
   refine o_allocA O yZ224 fun b11 => sta O O O yS224 O O ?_
   refine lc<|t_seq<|t_label<|n_code<|t_seq<|t_seq<|t_draw mixed ?_
   apply dq 0 rfl
   ·exact yq (qld O yA27)
   apply dq 2 rfl
   ·exact yq (qfa 1 rfl yU147 O O yS3)
   apply dq 3 rfl
   ·exact yq (qld O yA3)
   apply dq 4 rfl
   ·exact yq (qquo O O)
   refine d_eff1 [0] [4, 3, 2] 1 [(39, _)] gO ⟨rfl, trivial⟩ (by kernel_rfl) (by kernel_rfl) fun Ex => ?_
   refine lc1 O O O (Home_ok h hh) ?_
   refine l_nil ?_
   apply n_d
   ·refine ⟨?_, ?_, ?_, trivial⟩
    ·apply ya O O; exact yq (qquo O O)
    ·apply ya O O; exact yq (qld O yA3)
    ·apply ya O O; exact yq (qfa 1 rfl yU147 O O yS3)
   refine d_eff1 [4, 3, 2] [] 5 [(40, _), (43, _)] gO ⟨rfl, rfl, trivial⟩ (by kernel_rfl) (by kernel_rfl) fun Ex => ?_
   rw [show (8 * (n : Int)) / 8 = ((n : Nat) : Int) by omega]
   refine lcf O O O (Order_n (h / 128) he hn) ?_
   rintro v L' ⟨bh, bg, rfl, rfl⟩
   refine l_nm ?_
   refine l_nil ?_
   apply n_d
   ·exact trivial
   refine d_end (by kernel_rfl) ?_
   refine n_code<|t_block ?_
   rw [show pt b11 (.cells #[.int .i64 (-1), .int .i64 (-1), .bool false, .int .i64 0] 224 (0, 0)) = pt b11 (.cells #[.int .i64 (-1), .int .i64 (vacI (h / 128) n T.cells 0), .bool (vacE (h / 128) n T.cells 0), .int .i64 ((0 : Nat) : Int)] 224 (0, 0)) from rfl]
   apply t_range (p := (fun k (_ : Unit) => ∀ j, j < k → stopAt (h / 128) n T.cells t key j = false)) (J := (fun k _ => [pt b11 (.cells #[.int .i64 (-1), .int .i64 (vacI (h / 128) n T.cells k), .bool (vacE (h / 128) n T.cells k), .int .i64 ((k : Nat) : Int)] 224 (0, 0)), pt b3 (.cells #[.pointer (some ⟨pa, 0, none⟩), .int .i64 l.key, .int .i64 l.elem, .int .i64 l.ka, .int .i64 l.ea, .int .i64 l.cap, .int .i64 l.eo, .int .i64 l.bo, .int .i64 l.slot, .int .i64 l.group, .int .i64 (off : Nat)] 39 (0, 0)), pt b9 (.cells #[.int .i64 T.used, .int .i64 (8 * (n : Int)), .int .i64 T.left, .int .i64 T.depth, .int .i64 T.pins, .int .i64 T.next, .bool (decide (T.kind = 4)), .int .i64 (go : Nat)] 147 (0, 0)), pt b5 (.cells #[.string key] 9 (0, 0)), pt b4 (.cells #[.int .u64 h] 27 (0, 0)), G, arenaH pa s])) (q := (fun k (y : Code × Fnd) => y.1 = .exit 0 ∧ searchR (h / 128) n T.cells t key = y.2)) (Jx := (fun k y => [pt b11 (.cells #[.int .i64 y.2.slot, .int .i64 y.2.vac, .bool y.2.emp, .int .i64 y.2.probes] 224 (0, 0)), pt b9 (.cells #[.int .i64 T.used, .int .i64 (8 * (n : Int)), .int .i64 T.left, .int .i64 T.depth, .int .i64 T.pins, .int .i64 T.next, .bool (decide (T.kind = 4)), .int .i64 (go : Nat)] 147 (0, 0)), G, arenaH pa s])) (x0 := ()) (hc := order_itn _ _ (h / 128) ⟨by omega, by omega⟩ he hn) (hr := rfl) (hg := rfl)
   ·exact pk
   ·(intro j hj; omega)
   ·(try dsimp only); (try simp only [Int.natCast_zero, Nat.sub_zero]); exact pk
   ·rfl
   ·(intro x hx; simp only [way, List.mem_map] at hx; obtain ⟨_, _, rfl⟩ := hx; rfl)
   ·intro ll rc Fr' w1 k x jj hrd hpn hx hj
    obtain ⟨hk', rfl⟩ := way_get hx
    rw [← gk_cast hn0]
    have hgk := gk_lt (home := h / 128) (k := k) hn0
    have hgin : gk (h / 128) n k * gN l + gN l ≤ n * gN l := by have := Nat.mul_le_mul_right (gN l) (show gk (h / 128) n k + 1 ≤ n by omega); rw [Nat.add_mul] at this; omega
    have hgood : goodP s ((go + gk (h / 128) n k * gN l : Nat) : Int) l.group := by rw [← hN.g]; exact goodP.sub hgg (by omega) (by omega) (by omega)
    have hG' := hT.body _ hgk
    have hok' : ∀ i, i < 8 → (grpC T.cells (gk (h / 128) n k) i).ok l := fun i hi => hT.okc _ (by omega)
    refine t_nm ?_
    refine t_region<|o_alloc1 O yZ3 O fun b12 => st O O O yS3 O ?_
    refine l_nil ?_
    apply n_begin
    ·exact tk
    ·assumption
    refine t_block<|sr<|l_q O (qlda O yA39 yS39) ?_
    refine l_q O (qlda O yA147 yS147) ?_
    refine l_q O (qld O yA3) ?_
    refine lc1 O O O (group_ok pa off go (gk (h / 128) n k) n l hl T _ rfl (by omega)) ?_
    refine o_allocA O yZ182 fun b13 => sta O O O yS182 O O ?_
    refine lz<|l_q O (qlda O yA182 yS182) ?_
    refine lc1 O O O (Word_ok pa (go + gk (h / 128) n k * gN l) s l (grpC T.cells (gk (h / 128) n k)) hl hgood hG' hok') ?_
    refine mv O O<|l_q O (q_extractL O ga) ?_
    refine l_q O (q_extractL O ga) ?_
    refine asg O O<|asg O O<|lc<|t_seq<|sr<|mv O O<|l_q O (qi O O (b_neq ·))<|lc<|t_if O (fun z2 => ?_) fun z2 => ?_
    ·exact absurd rfl z2
    ·refine t_skip<|nz<|l_q O (qfa 3 rfl yU224 O O yS3)<|l_q O (qld O yA3) ?_
     refine l_q O (qadd O O) ?_
     refine l_q O (qfa 3 rfl yU224 O O yS3)<|st O O O yS3 O ?_
     refine lc<|t_seq<|sr<|mv O O<|l_q O (qld O yA27) ?_
     refine lc1 O O O (Tag_okN h hh t htt) ?_
     refine lc1 O O O (Match_ok _ (ok_ct hok') t ht128) ?_
     refine lcf O O O (All_ok _) ?_
     rintro v L' ⟨b68, rfl, rfl⟩
     refine l_nm ?_
     refine lc<|t_block ?_
     have hsel : ∀ j (hj : j < (slotsF (sS (grpC T.cells (gk (h / 128) n k)) t)).length), (slotsF (sS (grpC T.cells (gk (h / 128) n k)) t))[j] < 8 := fun j hj => (slotsF_mem.1 (List.getElem_mem hj)).1
     apply t_rangeN (p := (fun i (_ : Unit) => ∀ j (hj : j < (slotsF (sS (grpC T.cells (gk (h / 128) n k)) t)).length), j < i → (grpC T.cells (gk (h / 128) n k) (slotsF (sS (grpC T.cells (gk (h / 128) n k)) t))[j]).keyS ≠ key)) (J := (fun i _ => [pt b13 (.cells #[.pointer (some ⟨pa, 0, none⟩), .int .i64 l.key, .int .i64 l.elem, .int .i64 l.ka, .int .i64 l.ea, .int .i64 l.cap, .int .i64 l.eo, .int .i64 l.bo, .int .i64 l.slot, .int .i64 l.group, .int .i64 ((go + gk (h / 128) n k * gN l : Nat) : Int)] 182 (0, 0)), pt b12 (.cells #[.int .i64 ((gk (h / 128) n k : Nat) : Int)] 3 (0, 0)), pt b5 (.cells #[.string key] 9 (0, 0)), pt b11 (.cells #[.int .i64 (-1), .int .i64 (vacI (h / 128) n T.cells k), .bool (vacE (h / 128) n T.cells k), .int .i64 (((k : Nat) : Int) + 1)] 224 (0, 0)), arenaH pa s])) (q := (fun i (y : Code × Unit) => y.1 = .exit 0 ∧ hitAt (h / 128) n T.cells t key k < 8)) (Jx := (fun i y => [pt b11 (.cells #[.int .i64 (8 * ((gk (h / 128) n k : Nat) : Int) + ((hitAt (h / 128) n T.cells t key k : Nat) : Int)), .int .i64 (vacI (h / 128) n T.cells k), .bool (vacE (h / 128) n T.cells k), .int .i64 (((k : Nat) : Int) + 1)] 224 (0, 0)), arenaH pa s])) (x0 := ()) (hc := All_it G hG b68 _) (hr := rfl) (hg := rfl)
     ·exact tk
     ·exact pk
     ·(intro j hj; omega)
     ·(try dsimp only); (try simp only [Int.natCast_zero, Nat.sub_zero]); exact pk
     ·rfl
     ·(intro x hx; simp only [slotsV, List.mem_map] at hx; obtain ⟨_, _, rfl⟩ := hx; rfl)
     ·intro ll2 rc2 Fr2 w2 i x2 jj2 hrd2 hpn2 hx2 hj2
      obtain ⟨hi2, rfl⟩ := slotsV_get hx2
      have hs8 := hsel i hi2
      refine t_nm ?_
      refine t_region<|asg O O<|l_nil ?_
      apply n_begin
      ·exact tk
      ·assumption
      refine t_block<|sr<|l_q O (qlda O yA182 yS182) ?_
      refine mv O O<|lc1 O O O (Cell_ok pa (go + gk (h / 128) n k * gN l) s l (grpC T.cells (gk (h / 128) n k)) hl hgood hG' hok' _ hs8) ?_
      refine mv O O<|l_q O (q_extractL O ga) ?_
      refine l_q O (q_extractL O ga) ?_
      refine o_allocA O yZ142 fun b17 => sta O O O yS142 O O ?_
      refine asg O O<|lz<|l_q O (qfa 2 rfl yU142 O O yS9)<|l_q O (qld O yA9) ?_
      refine l_q O (qld O yA9) ?_
      refine l_q O (qs O O (b_eqlS ·))<|lc<|t_if O (fun q => ?_) fun q => ?_
      ·have hfi : hitAt (h / 128) n T.cells t key k = (slotsF (sS (grpC T.cells (gk (h / 128) n k)) t))[i] := hit_at hok' ht128 hi2 hj2 q
       rw [show (slotsF fun i => ctF (grpC T.cells (gk (h / 128) n k)) i == t)[i] = hitAt (h / 128) n T.cells t key k from hfi.symm]
       refine sr<|l_q O (qld O yA3) ?_
       refine l_q O (qmul O O) ?_
       refine mv O O<|l_q O (qadd O O) ?_
       refine l_q O (qfa 0 rfl yU224 O O yS3)<|st O O O yS3 O ?_
       refine lc<|xe O ?_
       apply r_left (.inr ⟨_, rfl, rfl⟩) (()) (⟨rfl, by rw [hfi]; exact hs8⟩)
       exact en
      ·refine t_skip<|n_blk ?_
       apply r_next (by assumption) (by assumption) (()) (fun j hj' hji => by by_cases e1 : j = i; (subst e1; exact q); exact hj2 j hj' (by omega))
       exact en
     ·intro jj2 hj2
      rw [slotsV_len] at hj2
      have hnh : ¬ hitAt (h / 128) n T.cells t key k < 8 := by have := hit_none hok' ht128 (key := key) (fun j hj => hj2 j hj hj); unfold hitAt; omega
      refine n_nm ?_
      refine n_blk<|n_code<|t_seq<|sr<|mv O O<|lc1 O O O (MatchV_ok hok') ?_
      refine lc1 O O O (First_ok G hG (vacS (grpC T.cells (gk (h / 128) n k)))) ?_
      refine asg O O<|lz<|mv O O<|l_q O (qi O O (b_lss ·))<|mv O O<|l_pt (t := 90) rfl (fun p1 => ?_) fun p1 => ?_
      ·refine l_on O O<|l_q O (qfa 1 rfl yU224 O O yS3)<|l_on O O<|l_q O (qld O yA3) ?_
       refine l_on O O<|l_q O (qi O O (b_lss ·))<|l_q O (q_pk O O)<|lc<|t_if O (fun p2 => ?_) fun p2 => ?_
       ·refine sr<|l_q O (qld O yA3) ?_
        refine l_q O (qmul O O) ?_
        refine mv O O<|l_q O (qadd O O) ?_
        refine l_q O (qfa 1 rfl yU224 O O yS3)<|st O O O yS3 O ?_
        refine lr<|mv O O ?_
        have hvt := vac_take (home := h / 128) (n := n) (cells := T.cells) (k := k) p2 (by unfold vacAt; omega)
        have hva : vacI (h / 128) n T.cells (k + 1) = 8 * ((gk (h / 128) n k : Nat) : Int) + ((firstF (vacS (grpC T.cells (gk (h / 128) n k))) : Nat) : Int) := hvt.1
        have hvb : vacE (h / 128) n T.cells (k + 1) = empS (grpC T.cells (gk (h / 128) n k)) (firstF (vacS (grpC T.cells (gk (h / 128) n k)))) := hvt.2
        refine lc1 O O O (MatchE_ok hok') ?_
        refine mv O O<|lc1 O O O (Has_ok (empS (grpC T.cells (gk (h / 128) n k))) (firstF (vacS (grpC T.cells (gk (h / 128) n k)))) (by omega)) ?_
        refine l_q O (qfa 2 rfl yU224 O O yS4)<|st O O O yS4 O ?_
        refine lz<|mv O O<|lc1 O O O (MatchE_ok hok') ?_
        refine lc1 O O O (First_ok G hG (empS (grpC T.cells (gk (h / 128) n k)))) ?_
        refine l_q O (qi O O (b_lss ·))<|lc ?_
        rw [← hva, ← hvb]
        refine t_if O (fun em => ?_) fun em => ?_
        ·refine xe O ?_
         apply r_left (.inr ⟨_, rfl, rfl⟩) (⟨-1, vacI (h / 128) n T.cells (k + 1), vacE (h / 128) n T.cells (k + 1), (k : Int) + 1⟩) (⟨rfl, search_emp hk' hj hnh (by unfold empAt; omega)⟩)
         exact en
        ·refine t_skip<|n_blk ?_
         apply r_next (by assumption) (by assumption) (()) (fun i hi => by by_cases q : i = k; (subst q; unfold stopAt; simp [hnh]; show 8 ≤ firstF _; omega); exact hj i (by omega))
         exact en
       ·refine t_skip<|nz<|mv O O ?_
        obtain ⟨hva, hvb⟩ := vac_keep (home := h / 128) (n := n) (cells := T.cells) (k := k) (.inl p2)
        refine lc1 O O O (MatchE_ok hok') ?_
        refine lc1 O O O (First_ok G hG (empS (grpC T.cells (gk (h / 128) n k)))) ?_
        refine l_q O (qi O O (b_lss ·))<|lc ?_
        rw [← hva, ← hvb]
        refine t_if O (fun em => ?_) fun em => ?_
        ·refine xe O ?_
         apply r_left (.inr ⟨_, rfl, rfl⟩) (⟨-1, vacI (h / 128) n T.cells (k + 1), vacE (h / 128) n T.cells (k + 1), (k : Int) + 1⟩) (⟨rfl, search_emp hk' hj hnh (by unfold empAt; omega)⟩)
         exact en
        ·refine t_skip<|n_blk ?_
         apply r_next (by assumption) (by assumption) (()) (fun i hi => by by_cases q : i = k; (subst q; unfold stopAt; simp [hnh]; show 8 ≤ firstF _; omega); exact hj i (by omega))
         exact en
      ·refine l_off O O O O<|l_off O O O O<|l_off O O O O<|l_q O (q_pk O O)<|lc<|t_cond_f O<|t_skip<|nz<|mv O O ?_
       obtain ⟨hva, hvb⟩ := vac_keep (home := h / 128) (n := n) (cells := T.cells) (k := k) (.inr (by unfold vacAt; omega))
       refine lc1 O O O (MatchE_ok hok') ?_
       refine lc1 O O O (First_ok G hG (empS (grpC T.cells (gk (h / 128) n k)))) ?_
       refine l_q O (qi O O (b_lss ·))<|lc ?_
       rw [← hva, ← hvb]
       refine t_if O (fun em => ?_) fun em => ?_
       ·refine xe O ?_
        apply r_left (.inr ⟨_, rfl, rfl⟩) (⟨-1, vacI (h / 128) n T.cells (k + 1), vacE (h / 128) n T.cells (k + 1), (k : Int) + 1⟩) (⟨rfl, search_emp hk' hj hnh (by unfold empAt; omega)⟩)
        exact en
       ·refine t_skip<|n_blk ?_
        apply r_next (by assumption) (by assumption) (()) (fun i hi => by by_cases q : i = k; (subst q; unfold stopAt; simp [hnh]; show 8 ≤ firstF _; omega); exact hj i (by omega))
        exact en
     ·rintro i ⟨jc, yy⟩ hi2 ⟨rfl, hhit⟩
      refine t_nm ?_
      refine xe O ?_
      apply r_left (.inr ⟨_, rfl, rfl⟩) (⟨8 * ((gk (h / 128) n k : Nat) : Int) + ((hitAt (h / 128) n T.cells t key k : Nat) : Int), vacI (h / 128) n T.cells k, vacE (h / 128) n T.cells k, (k : Int) + 1⟩) (⟨rfl, search_hit hk' hj hhit⟩)
      exact en
   ·intro b jj hj
    rw [way_length] at hj ⊢
    have hsr := search_none (home := h / 128) (n := n) (cells := T.cells) (tag := t) (key := key) hj
    refine n_nm ?_
    refine n_blk<|n_code<|t_seq<|t_draw mixed ?_
    apply dq 0 rfl
    ·exact yq (qlda O yA147 yS147)
    apply dq 1 rfl
    ·exact yq (qlda O yA224 yS224)
    refine d_eff1 [0] [1] 2 [(6, _), (109, _)] gO ⟨rfl, rfl, trivial⟩ (by kernel_rfl) (by kernel_rfl) fun Ex => ?_
    refine sta O O O yS147 O O ?_
    refine l_nil ?_
    apply n_d
    ·refine ⟨?_, trivial⟩
     ·apply ya O O; exact yq (qlda O yA224 yS224)
    refine d_eff1 [1] [] 3 [(7, _), (110, _)] gO ⟨rfl, rfl, trivial⟩ (by kernel_rfl) (by kernel_rfl) fun Ex => ?_
    refine sta O O O yS224 O O ?_
    refine l_nil ?_
    apply n_d
    ·exact trivial
    refine d_eff1 [] [] 4 [(8, _)] gO ⟨rfl, trivial⟩ (by kernel_rfl) (by kernel_rfl) fun Ex => ?_
    refine st O O O yS77 O ?_
    refine l_nil ?_
    apply n_d
    ·exact trivial
    refine d_end (by kernel_rfl) ?_
    refine n_code<|rt ?_
    rw [hsr]
    apply f_retm (.inl rfl) [b] ([G, arenaH pa s])
    ·repeat (first | with_reducible exact TakeM.nil | apply TakeM.cons | with_reducible exact Take.here | apply Take.there)
    ·apply res3 O
     ·apply Rv.agg rfl
      ·exact tk
      ·exact run_loadAll yA147 yS147 O
     ·apply Rv.agg rfl
      ·exact tk
      ·exact run_loadAll yA224 yS224 O
     ·apply Rv.cellL rfl
      ·exact tk
      ·exact ga
      ·exact yA77
    ·exact ⟨rfl, rfl⟩
    ·exact en
   ·rintro b k ⟨jc, F⟩ hk2 ⟨rfl, hsr⟩
    refine t_nm ?_
    refine xt O<|n_code<|t_seq<|t_draw mixed ?_
    apply dq 0 rfl
    ·exact yq (qlda O yA147 yS147)
    apply dq 1 rfl
    ·exact yq (qlda O yA224 yS224)
    refine d_eff1 [0] [1] 2 [(6, _), (109, _)] gO ⟨rfl, rfl, trivial⟩ (by kernel_rfl) (by kernel_rfl) fun Ex => ?_
    refine sta O O O yS147 O O ?_
    refine l_nil ?_
    apply n_d
    ·refine ⟨?_, trivial⟩
     ·apply ya O O; exact yq (qlda O yA224 yS224)
    refine d_eff1 [1] [] 3 [(7, _), (110, _)] gO ⟨rfl, rfl, trivial⟩ (by kernel_rfl) (by kernel_rfl) fun Ex => ?_
    refine sta O O O yS224 O O ?_
    refine l_nil ?_
    apply n_d
    ·exact trivial
    refine d_eff1 [] [] 4 [(8, _)] gO ⟨rfl, trivial⟩ (by kernel_rfl) (by kernel_rfl) fun Ex => ?_
    refine st O O O yS77 O ?_
    refine l_nil ?_
    apply n_d
    ·exact trivial
    refine d_end (by kernel_rfl) ?_
    refine n_code<|rt ?_
    rw [hsr]
    apply f_retm (.inl rfl) [b] ([G, arenaH pa s])
    ·repeat (first | with_reducible exact TakeM.nil | apply TakeM.cons | with_reducible exact Take.here | apply Take.there)
    ·apply res3 O
     ·apply Rv.agg rfl
      ·exact tk
      ·exact run_loadAll yA147 yS147 O
     ·apply Rv.agg rfl
      ·exact tk
      ·exact run_loadAll yA224 yS224 O
     ·apply Rv.cellL rfl
      ·exact tk
      ·exact ga
      ·exact yA77
    ·exact ⟨rfl, rfl⟩
    ·exact en
end Go.Proofs.YthkajgkagnenbaaGreatDoor.Table
