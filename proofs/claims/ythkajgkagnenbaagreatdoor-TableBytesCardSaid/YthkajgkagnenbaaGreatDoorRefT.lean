import Derived.Test.YthkajgkagnenbaaGreatDoorRefA
import Derived.Test.YthkajgkagnenbaaGreatDoorTableC
import Derived.Test.YthkajgkagnenbaaGreatDoorRefAB
import Derived.Test.YthkajgkagnenbaaGreatDoorExactP
import Derived.Test.YthkajgkagnenbaaGreatDoorRef03
/- The contracts of the document's own table (larderref08). -/
set_option linter.unusedVariables false
set_option linter.unusedSimpArgs false
set_option linter.unusedSectionVars false
set_option maxRecDepth 100000
namespace Go.Proofs.YthkajgkagnenbaaGreatDoor.RefT
open Go.RowKit Go.Proofs Go.Proofs.YthkajgkagnenbaaGreatDoor.Eng Go.Proofs.YthkajgkagnenbaaGreatDoor.Ty Go.Proofs.YthkajgkagnenbaaGreatDoor.Bits Go.Proofs.YthkajgkagnenbaaGreatDoor.Mem Go.Proofs.YthkajgkagnenbaaGreatDoor.Search Go.Proofs.YthkajgkagnenbaaGreatDoor.Arena Go.Proofs.YthkajgkagnenbaaGreatDoor.CtrlB Go.Proofs.YthkajgkagnenbaaGreatDoor.Layout Go.Proofs.YthkajgkagnenbaaGreatDoor.GroupB Go.Proofs.YthkajgkagnenbaaGreatDoor.Probe Go.Proofs.YthkajgkagnenbaaGreatDoor.TableB Go.Proofs.YthkajgkagnenbaaGreatDoor.TableI Go.Proofs.YthkajgkagnenbaaGreatDoor.Table Go.Proofs.YthkajgkagnenbaaGreatDoor.Cells Go.Proofs.YthkajgkagnenbaaGreatDoor.Refill Go.Proofs.YthkajgkagnenbaaGreatDoor.Exact Go.Proofs.YthkajgkagnenbaaGreatDoor.RefA Go.Proofs.YthkajgkagnenbaaGreatDoor.Ref03

@[reducible] def rtP (pr : Nat) (l : Lay) (x : PR) (v : Value) : List HP := [pt x.p (.cells #[.pointer (some ⟨pr, 0, none⟩), .int .i64 l.key, .int .i64 l.elem, .int .i64 l.ka, .int .i64 l.ea, .int .i64 l.cap, .int .i64 l.eo, .int .i64 l.bo, .int .i64 l.slot, .int .i64 l.group, .int .i64 (x.off : Nat), .int .i64 (x.go : Nat), .int .i64 x.T.used, .int .i64 x.T.left, .int .i64 x.T.depth, .int .i64 x.T.pins, .int .i64 x.T.next, .bool (decide (x.T.kind = 4)), .bool x.dead, v] 45 (0, 0)), ownS 142 5 v (8 * x.n) (rowOf cellV (firstL x.T.cells (8 * x.n)))]
def rtH (pr : Nat) (l : Lay) (x : PR) : HP := exP (fun _ : Value => True) (rtP pr l x)
theorem rt_open {c : Cx} {fin : Exit → Act → World → Prop} {ds : List Deferred} {E : Env} {ks : List KI} {pr : Nat} {l : Lay} {x : PR} {L M : List HP} {y : Code} (ht : Take (rtH pr l x) L M) (k : ∀ v, TC c fin ds E (pt x.p (.cells #[.pointer (some ⟨pr, 0, none⟩), .int .i64 l.key, .int .i64 l.elem, .int .i64 l.ka, .int .i64 l.ea, .int .i64 l.cap, .int .i64 l.eo, .int .i64 l.bo, .int .i64 l.slot, .int .i64 l.group, .int .i64 (x.off : Nat), .int .i64 (x.go : Nat), .int .i64 x.T.used, .int .i64 x.T.left, .int .i64 x.T.depth, .int .i64 x.T.pins, .int .i64 x.T.next, .bool (decide (x.T.kind = 4)), .bool x.dead, v] 45 (0, 0)) :: ownS 142 5 v (8 * x.n) (rowOf cellV (firstL x.T.cells (8 * x.n))) :: M) y ks) : TC c fin ds E L y ks :=
 t_turn (X := Value) (LL := fun v => rtP pr l x v ++ M) (fun w hs => let ⟨v, _, h⟩ := sat_exP.1 (hs.take ht); ⟨v, h⟩) k
theorem rt_openL {c : Cx} {fin : Exit → Act → World → Prop} {ds : List Deferred} {E : Env} {ks : List KI} {pr : Nat} {l : Lay} {x : PR} {L M : List HP} {ops : Array Oper} {y : List Oper} (ht : Take (rtH pr l x) L M) (k : ∀ v, TL c fin ds E (pt x.p (.cells #[.pointer (some ⟨pr, 0, none⟩), .int .i64 l.key, .int .i64 l.elem, .int .i64 l.ka, .int .i64 l.ea, .int .i64 l.cap, .int .i64 l.eo, .int .i64 l.bo, .int .i64 l.slot, .int .i64 l.group, .int .i64 (x.off : Nat), .int .i64 (x.go : Nat), .int .i64 x.T.used, .int .i64 x.T.left, .int .i64 x.T.depth, .int .i64 x.T.pins, .int .i64 x.T.next, .bool (decide (x.T.kind = 4)), .bool x.dead, v] 45 (0, 0)) :: ownS 142 5 v (8 * x.n) (rowOf cellV (firstL x.T.cells (8 * x.n))) :: M) ops y ks) : TL c fin ds E L ops y ks :=
 l_turn (X := Value) (LL := fun v => rtP pr l x v ++ M) (fun w hs => let ⟨v, _, h⟩ := sat_exP.1 (hs.take ht); ⟨v, h⟩) k
theorem rt_close {pr : Nat} {l : Lay} {x : PR} (v : Value) {L R : List HP} (he : Ent L (pt x.p (.cells #[.pointer (some ⟨pr, 0, none⟩), .int .i64 l.key, .int .i64 l.elem, .int .i64 l.ka, .int .i64 l.ea, .int .i64 l.cap, .int .i64 l.eo, .int .i64 l.bo, .int .i64 l.slot, .int .i64 l.group, .int .i64 (x.off : Nat), .int .i64 (x.go : Nat), .int .i64 x.T.used, .int .i64 x.T.left, .int .i64 x.T.depth, .int .i64 x.T.pins, .int .i64 x.T.next, .bool (decide (x.T.kind = 4)), .bool x.dead, v] 45 (0, 0)) :: ownS 142 5 v (8 * x.n) (rowOf cellV (firstL x.T.cells (8 * x.n))) :: R)) : Ent L (rtH pr l x :: R) := fun w h => sat_exP.2 ⟨v, trivial, he w h⟩
theorem cells_row (cs : Nat → Cell) {N i : Nat} (h : i < N) (j : Nat) (hj : j < 5) : (rowOf cellV (firstL cs N))[i * 5 + j]? = (cellV (cs i))[j]? := rowOf_get cellV5 (firstL cs N) i j (cs i) (firstL_get h) hj
theorem firstL_set (cs : Nat → Cell) {N i : Nat} (h : i < N) (c : Cell) : (firstL cs N).set i c = firstL (updC cs i c) N := by
 refine List.ext_getElem? fun j => ?_
 rw [List.getElem?_set]
 by_cases hj : j < N
 ·rw [firstL_get hj]
  split
  ·next q => subst q; simp only [firstL_len, h, if_true]; rw [firstL_get h, updC_same]
  ·next q => rw [firstL_get hj, updC_ne _ (Ne.symm q)]
 ·rw [List.getElem?_eq_none (by rw [firstL_len]; omega)]
  split
  ·next q => subst q; omega
  ·rw [List.getElem?_eq_none (by rw [firstL_len]; omega)]
section
variable (pr : Nat) (l : Lay) (x : PR) (hn : x.n ≤ 8192)
include hn
theorem hasEmpty_ok (g : Nat) (hg : g < x.n) : FnOk Tryz.prog 164 #[.pointer (some ⟨x.p, 0, none⟩), .int .i64 (g : Nat)] [rtH pr l x] (fun v L => v = .bool (decide (firstF (empS (grpC x.T.cells g)) < 8)) ∧ L = [rtH pr l x]) := by
 refine fn_intro en164 Tryz.func164 rfl rfl rfl fun Fr w0 => t_nm ?_
 refine rt_open .here fun vc => ?_
 refine t_shape (.there .here) fun _ hvc => ?_
 obtain ⟨a0, cap, rfl, ha, _, _⟩ := hvc
 obtain ⟨g0, rfl⟩ := ha (by omega)
 refine sr<|asg O O<|lc<|t_seq<|sr<|asg O O<|lc<|t_block ?_
 refine t_loop (fun i : Nat => i ≤ 8 ∧ ∀ j, j < i → empS (grpC x.T.cells g) j = false) (fun i => [(0, .pointer (some ⟨x.p, 0, none⟩)), (1, .int .i64 (g : Nat)), (5, .int .i64 (i : Nat))]) (fun _ => pt x.p (.cells #[.pointer (some ⟨pr, 0, none⟩), .int .i64 l.key, .int .i64 l.elem, .int .i64 l.ka, .int .i64 l.ea, .int .i64 l.cap, .int .i64 l.eo, .int .i64 l.bo, .int .i64 l.slot, .int .i64 l.group, .int .i64 (x.off : Nat), .int .i64 (x.go : Nat), .int .i64 x.T.used, .int .i64 x.T.left, .int .i64 x.T.depth, .int .i64 x.T.pins, .int .i64 x.T.next, .bool (decide (x.T.kind = 4)), .bool x.dead, (.slice (some ⟨g0, 0, none⟩) (8 * x.n) cap)] 45 (0, 0)) :: ownS 142 5 (.slice (some ⟨g0, 0, none⟩) (8 * x.n) cap) (8 * x.n) (rowOf cellV (firstL x.T.cells (8 * x.n))) :: Fr) (fun i => 8 - i) 0 ⟨Nat.zero_le _, fun j h => by omega⟩ ⟨rfl, rfl, rfl, trivial⟩ (by (exact en)) ?_
 rintro i ⟨hi, hno⟩
 refine t_seq<|sr<|mv O O<|l_q O (qi O O (b_lss ·))<|lc<|t_if O (fun h => ?_) fun h => ?_
 ·skip
  have hcell : (rowOf cellV (firstL x.T.cells (8 * x.n)))[0 + (8 * ((g : Nat) : Int) + ((i : Nat) : Int)).toNat * 5 + 0]? = some (.int .i64 (x.T.cells (8 * g + i)).kind) := by
   rw [show 0 + (8 * ((g : Nat) : Int) + ((i : Nat) : Int)).toNat * 5 + 0 = (8 * g + i) * 5 + 0 by omega, cells_row x.T.cells (by omega) 0 (by decide)]
   rfl
  refine t_skip<|n_code<|t_seq<|t_block<|sr<|mv O O<|l_q O (q_nilCheck O)<|l_q O (qfa 19 rfl yU45 O O yS43)<|l_q O (qld O yA43) ?_
  refine mv O O<|l_q O (qmul O O) ?_
  refine mv O O<|l_q O (qadd O O) ?_
  refine l_q O (q_indexAddr O O yU43 yS142 (by omega)) ?_
  refine l_q O (qfa 0 rfl yU142 O O yS3) ?_
  apply l_q O
  ·apply q_loadOwn O yA3
   ·exact tk
   ·exact hcell
  refine l_q O (qi O O (b_eql ·))<|lc<|t_if O (fun q => ?_) fun q => ?_
  ·skip
   have he : empS (grpC x.T.cells g) i = true := by rw [empS_iff]; exact kind_empty.1 q
   refine sr<|asg O O<|lc<|rt ?_
   apply f_ret (.inl rfl) ([rtH pr l x])
   ·apply res1 O
    ·exact .tmp rfl
   ·exact ⟨by rw [decide_eq_true (firstF_hit (by omega) he)], rfl⟩
   ·refine rt_close (.slice (some ⟨g0, 0, none⟩) (8 * x.n) cap) ?_; (exact en)
  ·refine t_skip<|n_blk<|n_code<|t_region<|mv O O<|l_q O (qadd O O) ?_
   refine asg O O<|l_nil ?_
   apply n_again ((i + 1))
   ·exact ⟨by omega, fun j hj => by rcases Nat.lt_or_ge j i with q2 | q2; exact hno j q2; (obtain rfl : j = i := by omega); rw [empS_iff]; cases he : isEmp (grpC x.T.cells g j) with | false => rfl | true => exact absurd (kind_empty.2 he) q⟩
   ·omega
   ·exact ⟨rfl, rfl, rfl, trivial⟩
   ·exact en
 ·skip
  obtain rfl : i = 8 := by omega
  refine xt O<|nz<|asg O O<|lc<|rt ?_
  apply f_ret (.inl rfl) ([rtH pr l x])
  ·apply res1 O
   ·exact .tmp rfl
  ·exact ⟨by rw [decide_eq_false (first_none hno)], rfl⟩
  ·refine rt_close (.slice (some ⟨g0, 0, none⟩) (8 * x.n) cap) ?_; (exact en)
theorem Way_ok (hn0 : 0 < x.n) (h : Int) (hh : 0 ≤ h ∧ h < 18446744073709551616) : FnOk Tryz.prog 160 #[.pointer (some ⟨x.p, 0, none⟩), .int .u64 h] [rtH pr l x] (fun v L => L = [ownS 3 1 v (wayN (h / 128) x.n x.T.cells) (ints (wayL (h / 128) x.n (wayN (h / 128) x.n x.T.cells))), rtH pr l x]) := by
 have hg0 := gk_zero (n := x.n) (h / 128) hn0 (by omega)
 have hm1 := Int.emod_nonneg (h / 128) (show (x.n : Int) ≠ 0 by omega)
 have hm2 := Int.emod_lt_of_pos (h / 128) (show (0 : Int) < (x.n : Int) by omega)
 have h5 : (((8 * x.n : Nat) : Int) / 8) = ((x.n : Nat) : Int) := by omega
 have h6 : IntKind.i64.wrap ((IntKind.u64.wrap (h.tdiv 128)).tmod (((8 * x.n : Nat) : Int) / 8)) = ((gk (h / 128) x.n 0 : Nat) : Int) := by
  rw [h5, Int.tdiv_eq_ediv_of_nonneg hh.1, IntKind.wrap_u64, show h / 128 % 18446744073709551616 = h / 128 by omega, Int.tmod_eq_emod_of_nonneg (by omega), hg0]
  exact wrap_i64 (by omega)
 refine fn_intro en160 Tryz.func160 rfl rfl rfl fun Fr w0 => t_nm ?_
 refine rt_open .here fun vc => ?_
 refine t_shape (.there .here) fun _ hvc => ?_
 obtain ⟨a0, cap, rfl, ha, _, _⟩ := hvc
 refine sr<|asg O O<|lz<|mv O O<|l_q O (q_nilCheck O)<|l_q O (qfa 19 rfl yU45 O O yS43)<|l_q O (qld O yA43) ?_
 refine l_q O (ql O yU43)<|l_q O (qquo O O) ?_
 refine asg O O<|lz<|mv O O<|l_q O (qquo O O) ?_
 refine mv O O<|l_q O (qcv O yU3 yU27) ?_
 refine l_q O (qrem O O) ?_
 refine l_q O (qcv O yU27 yU3) ?_
 refine asg O O<|lz<|asg O O<|lc<|t_seq<|sr<|asg O O<|lc<|t_block ?_
 refine t_loop (fun y : Nat × Value => y.1 ≤ x.n ∧ ∀ j, j < y.1 → ¬ empAt (h / 128) x.n x.T.cells j < 8) (fun y => [(0, .pointer (some ⟨x.p, 0, none⟩)), (5, .int .i64 (x.n : Nat)), (6, .int .i64 (gk (h / 128) x.n y.1 : Nat)), (7, y.2), (8, .int .i64 ((y.1 + 1 : Nat) : Int))]) (fun y => ownS 3 1 y.2 y.1 (ints (wayL (h / 128) x.n y.1)) :: rtH pr l x :: Fr) (fun y => x.n - y.1) (0, .slice none 0 0) ⟨Nat.zero_le _, fun j h => by omega⟩ ⟨rfl, congrArg (fun z => some (Value.int .i64 z)) h5, congrArg (fun z => some (Value.int .i64 z)) h6, rfl, rfl, trivial⟩ (fun w h => own_nil (rt_close (.slice a0 (8 * x.n) cap) (by (exact en)) w h)) ?_
 rintro ⟨k, vw⟩ ⟨hk, hno⟩
 dsimp only at hk hno ⊢
 refine t_seq<|sr<|mv O O<|mv O O<|l_q O (qi O O (b_leq ·))<|lc<|t_if O (fun h1 => ?_) fun h1 => ?_
 ·skip
  have hkl : k < x.n := by omega
  have hgl := gk_lt (home := h / 128) (k := k) hn0
  have hgn := gk_next (n := x.n) (h / 128) hn0 k
  have hro : ints (wayL (h / 128) x.n k) ++ #[Value.int .i64 (gk (h / 128) x.n k : Nat)].toList = ints (wayL (h / 128) x.n (k + 1)) := by rw [wayL_next]; simp [ints]
  refine t_skip<|n_code<|t_seq<|t_block<|sr<|mv O O<|mv O O ?_
  refine o_buildSlice1 [_] rfl rfl yU22 yS3 yZ3 O O O O (fun b28 => ?_)
  apply o_append (sz := 1) rfl rfl rfl yU22 yI3 O O
  ·exact tk
  ·exact tk
  ·rfl
  ·rfl
  ·simp only [maxLen]; omega
  ·omega
  intro v29
  refine asg O O<|lc<|t_seq<|sr<|mv O O<|mv O O<|lc1 O O O (hasEmpty_ok pr l x hn (gk (h / 128) x.n k) hgl) ?_
  refine lc<|t_if O (fun q => ?_) fun q => ?_
  ·skip
   have hw := wayN_emp hkl q hno
   rw [hro]
   refine sr<|mv O O<|asg O O<|lc<|rt ?_
   apply f_ret (.inl rfl) ([ownS 3 1 v29 (wayN (h / 128) x.n x.T.cells) (ints (wayL (h / 128) x.n (wayN (h / 128) x.n x.T.cells))), rtH pr l x])
   ·apply res1 O
    ·exact .tmp rfl
   ·rfl
   ·rw [hw]; (exact en)
  ·skip
   rw [hro]
   refine t_skip<|n_code<|t_region<|mv O O<|mv O O<|l_q O (qadd O O) ?_
   refine mv O O<|l_q O (qrem O O) ?_
   refine asg O O<|l_nil<|n_blk<|n_code<|t_region<|mv O O<|l_q O (qadd O O) ?_
   refine asg O O<|l_nil ?_
   apply n_again ((k + 1, v29))
   ·exact ⟨by dsimp only; omega, fun j hj => by rcases Nat.lt_or_ge j k with q2 | q2; exact hno j q2; (obtain rfl : j = k := by dsimp only at hj; omega); exact fun h2 => q h2⟩
   ·dsimp only; omega
   ·exact ⟨rfl, rfl, congrArg (fun z => some (Value.int .i64 z)) hgn.symm, rfl, rfl, trivial⟩
   ·exact en
 ·skip
  obtain rfl : k = x.n := by omega
  have hw := wayN_none hno
  refine xt O<|nz<|mv O O<|asg O O<|lc<|rt ?_
  apply f_ret (.inl rfl) ([ownS 3 1 vw (wayN (h / 128) x.n x.T.cells) (ints (wayL (h / 128) x.n (wayN (h / 128) x.n x.T.cells))), rtH pr l x])
  ·apply res1 O
   ·exact .tmp rfl
  ·rfl
  ·rw [hw]; (exact en)
def errX (l : Lay) (x : PR) (key : ByteArray) : Int := if x.dead then 24 else if (key.size : Int) ≠ l.key then 61 else 0
theorem errors_ok (key : ByteArray) : FnOk Tryz.prog 158 #[.pointer (some ⟨x.p, 0, none⟩), .string key] [rtH pr l x] (fun v L => v = .int .i64 (errX l x key) ∧ L = [rtH pr l x]) := by
 refine fn_intro en158 Tryz.func158 rfl rfl rfl fun Fr w0 => t_nm ?_
 refine rt_open .here fun vc => ?_
 refine sr<|asg O O<|lc<|t_seq<|sr<|mv O O<|l_q O (q_nilCheck O)<|l_q O (qfa 18 rfl yU45 O O yS4)<|l_q O (qld O yA4) ?_
 refine lc<|t_if O (fun z => ?_) fun z => ?_
 ·refine sr<|asg O O<|lc<|rt ?_
  apply f_ret (.inl rfl) ([rtH pr l x])
  ·apply res1 O
   ·exact .tmp rfl
  ·exact ⟨by unfold errX; rw [if_pos z], rfl⟩
  ·refine rt_close vc ?_; (exact en)
 ·refine t_skip<|n_code<|t_seq<|sr<|mv O O<|l_q O (qls O yU9)<|mv O O<|l_q O (q_nilCheck O)<|l_q O (qfa 1 rfl yU45 O O yS34)<|l_q O (qfa 0 rfl yU34 O O yS3)<|l_q O (qld O yA3) ?_
  refine l_q O (qi O O (b_neq ·))<|lc<|t_if O (fun y => ?_) fun y => ?_
  ·refine sr<|asg O O<|lc<|rt ?_
   apply f_ret (.inl rfl) ([rtH pr l x])
   ·apply res1 O
    ·exact .tmp rfl
   ·exact ⟨by unfold errX; rw [if_neg (by simp [z]), if_pos y], rfl⟩
   ·refine rt_close vc ?_; (exact en)
  ·refine t_skip<|nz<|asg O O<|lc<|rt ?_
   apply f_ret (.inl rfl) ([rtH pr l x])
   ·apply res1 O
    ·exact .tmp rfl
   ·exact ⟨by unfold errX; rw [if_neg (by simp [z]), if_neg y], rfl⟩
   ·refine rt_close vc ?_; (exact en)
theorem rfind_ok (hn0 : 0 < x.n) (h : Int) (hh : 0 ≤ h ∧ h < 18446744073709551616) (key : ByteArray) : FnOk Tryz.prog 159 #[.pointer (some ⟨x.p, 0, none⟩), .int .u64 h, .string key] [rtH pr l x] (fun v L => v = .tuple #[.int .i64 (searchR (h / 128) x.n x.T.cells (h % 128) key).slot, .int .i64 (searchR (h / 128) x.n x.T.cells (h % 128) key).probes] ∧ L = [rtH pr l x]) := by
 have hwle := wayN_le (h / 128) x.n x.T.cells
 refine fn_intro en159 Tryz.func159 rfl rfl rfl fun Fr w0 => t_nm ?_
 refine sr<|asg O O<|asg O O<|lz<|mv O O<|mv O O<|lcf O O O (Way_ok pr l x hn hn0 h hh) ?_
 rintro vw L' rfl
 refine l_nm ?_
 refine asg O O<|lz<|mv O O<|l_q O (qrem O O) ?_
 refine l_q O (qcv O yU27 yU3) ?_
 refine asg O O<|lc<|t_seq<|sr<|asg O O<|lc<|t_block ?_
 refine t_shape .here fun _ hvw => ?_
 obtain ⟨aw, capw, rfl, haw, _, _⟩ := hvw
 refine rt_open (.there .here) fun vc => ?_
 refine t_shape (.there .here) fun _ hvc => ?_
 obtain ⟨a0, cap, rfl, ha, _, _⟩ := hvc
 obtain ⟨g0, rfl⟩ := ha (by omega)
 refine t_loop (fun k : Nat => k ≤ wayN (h / 128) x.n x.T.cells ∧ ∀ j, j < k → ¬ hitAt (h / 128) x.n x.T.cells (h % 128) key j < 8) (fun k => [(0, .pointer (some ⟨x.p, 0, none⟩)), (2, .string key), (8, .slice aw (wayN (h / 128) x.n x.T.cells) capw), (9, .int .i64 (h % 128)), (10, .int .i64 (k : Nat))]) (fun _ => pt x.p (.cells #[.pointer (some ⟨pr, 0, none⟩), .int .i64 l.key, .int .i64 l.elem, .int .i64 l.ka, .int .i64 l.ea, .int .i64 l.cap, .int .i64 l.eo, .int .i64 l.bo, .int .i64 l.slot, .int .i64 l.group, .int .i64 (x.off : Nat), .int .i64 (x.go : Nat), .int .i64 x.T.used, .int .i64 x.T.left, .int .i64 x.T.depth, .int .i64 x.T.pins, .int .i64 x.T.next, .bool (decide (x.T.kind = 4)), .bool x.dead, (.slice (some ⟨g0, 0, none⟩) (8 * x.n) cap)] 45 (0, 0)) :: ownS 142 5 (.slice (some ⟨g0, 0, none⟩) (8 * x.n) cap) (8 * x.n) (rowOf cellV (firstL x.T.cells (8 * x.n))) :: ownS 3 1 (.slice aw (wayN (h / 128) x.n x.T.cells) capw) (wayN (h / 128) x.n x.T.cells) (ints (wayL (h / 128) x.n (wayN (h / 128) x.n x.T.cells))) :: Fr) (fun k => wayN (h / 128) x.n x.T.cells - k) 0 ⟨Nat.zero_le _, fun j h => by omega⟩ ⟨rfl, rfl, rfl, rfl, rfl, trivial⟩ (by (exact en)) ?_
 rintro k ⟨hk, hnok⟩
 refine t_seq<|sr<|mv O O<|mv O O<|l_q O (ql O yU22)<|l_q O (qi O O (b_lss ·))<|lc<|t_if O (fun h1 => ?_) fun h1 => ?_
 ·skip
  have hkl : k < wayN (h / 128) x.n x.T.cells := by omega
  obtain ⟨gw, rfl⟩ := haw (by omega)
  have hgl := gk_lt (home := h / 128) (k := k) hn0
  have hwk : (ints (wayL (h / 128) x.n (wayN (h / 128) x.n x.T.cells)))[0 + ((k : Nat) : Int).toNat]? = some (.int .i64 (gk (h / 128) x.n k : Nat)) := by
   rw [Nat.zero_add, Int.toNat_natCast]; unfold ints; rw [List.getElem?_map, wayL_get hkl]; rfl
  refine t_skip<|n_code<|t_seq<|t_block<|sr<|mv O O<|mv O O<|l_q O (q_indexAddr1 O O yU22 yS3 (by omega)) ?_
  apply l_q O
  ·apply q_loadOwn O yA3
   ·exact tk
   ·exact hwk
  refine l_q O (qmul O O) ?_
  refine asg O O<|lc<|t_block ?_
  refine t_loop (fun i : Nat => i ≤ 8 ∧ ∀ j, j < i → hitS (grpC x.T.cells (gk (h / 128) x.n k)) (h % 128) key j = false) (fun i => [(0, .pointer (some ⟨x.p, 0, none⟩)), (2, .string key), (8, .slice (some ⟨gw, 0, none⟩) (wayN (h / 128) x.n x.T.cells) capw), (9, .int .i64 (h % 128)), (10, .int .i64 (k : Nat)), (11, .int .i64 (8 * ((gk (h / 128) x.n k : Nat) : Int) + (i : Nat)))]) (fun _ => pt x.p (.cells #[.pointer (some ⟨pr, 0, none⟩), .int .i64 l.key, .int .i64 l.elem, .int .i64 l.ka, .int .i64 l.ea, .int .i64 l.cap, .int .i64 l.eo, .int .i64 l.bo, .int .i64 l.slot, .int .i64 l.group, .int .i64 (x.off : Nat), .int .i64 (x.go : Nat), .int .i64 x.T.used, .int .i64 x.T.left, .int .i64 x.T.depth, .int .i64 x.T.pins, .int .i64 x.T.next, .bool (decide (x.T.kind = 4)), .bool x.dead, (.slice (some ⟨g0, 0, none⟩) (8 * x.n) cap)] 45 (0, 0)) :: ownS 142 5 (.slice (some ⟨g0, 0, none⟩) (8 * x.n) cap) (8 * x.n) (rowOf cellV (firstL x.T.cells (8 * x.n))) :: ownS 3 1 (.slice (some ⟨gw, 0, none⟩) (wayN (h / 128) x.n x.T.cells) capw) (wayN (h / 128) x.n x.T.cells) (ints (wayL (h / 128) x.n (wayN (h / 128) x.n x.T.cells))) :: Fr) (fun i => 8 - i) 0 ⟨Nat.zero_le _, fun j h => by omega⟩ ⟨rfl, rfl, rfl, rfl, rfl, congrArg (fun z => some (Value.int .i64 z)) (by omega), trivial⟩ (by (exact en)) ?_
  rintro i ⟨hi, hnoi⟩
  refine t_seq<|sr<|mv O O<|mv O O<|mv O O<|l_q O (q_indexAddr1 O O yU22 yS3 (by omega)) ?_
  apply l_q O
  ·apply q_loadOwn O yA3
   ·exact tk
   ·exact hwk
  refine l_q O (qmul O O) ?_
  refine l_q O (qadd O O) ?_
  refine l_q O (qi O O (b_lss ·))<|lc<|t_if O (fun h2 => ?_) fun h2 => ?_
  ·skip
   have hcell : ∀ j v, [Value.int .i64 (x.T.cells (8 * gk (h / 128) x.n k + i)).kind, .int .i64 (x.T.cells (8 * gk (h / 128) x.n k + i)).tagI, .string (x.T.cells (8 * gk (h / 128) x.n k + i)).keyS, .string (x.T.cells (8 * gk (h / 128) x.n k + i)).elemS, .int .i64 (x.T.cells (8 * gk (h / 128) x.n k + i)).birthI][j]? = some v → CellAt (ownS 142 5 (.slice (some ⟨g0, 0, none⟩) (8 * x.n) cap) (8 * x.n) (rowOf cellV (firstL x.T.cells (8 * x.n)))) ((⟨g0, 0 + (8 * ((gk (h / 128) x.n k : Nat) : Int) + ((i : Nat) : Int)).toNat * 5, none⟩ : Addr).add j) v := fun j v hv => by
    have hj : j < 5 := by rcases Nat.lt_or_ge j 5 with q | q; exact q; rw [List.getElem?_eq_none (by simpa using q)] at hv; cases hv
    rw [add_none, show 0 + (8 * ((gk (h / 128) x.n k : Nat) : Int) + ((i : Nat) : Int)).toNat * 5 + j = (8 * gk (h / 128) x.n k + i) * 5 + j by omega]
    exact own_cell (by rw [cells_row x.T.cells (by omega) j hj]; exact hv)
   refine t_skip<|n_code<|t_seq<|t_block<|sr<|mv O O<|l_q O (q_nilCheck O)<|l_q O (qfa 19 rfl yU45 O O yS43)<|l_q O (qld O yA43) ?_
   refine mv O O<|l_q O (q_indexAddr O O yU43 yS142 (by omega)) ?_
   apply l_q O
   ·apply q_loadRA (A := ownS 142 5 (.slice (some ⟨g0, 0, none⟩) (8 * x.n) cap) (8 * x.n) (rowOf cellV (firstL x.T.cells (8 * x.n)))) (us := [.int .i64 (x.T.cells (8 * gk (h / 128) x.n k + i)).kind, .int .i64 (x.T.cells (8 * gk (h / 128) x.n k + i)).tagI, .string (x.T.cells (8 * gk (h / 128) x.n k + i)).keyS, .string (x.T.cells (8 * gk (h / 128) x.n k + i)).elemS, .int .i64 (x.T.cells (8 * gk (h / 128) x.n k + i)).birthI]) rfl yA142 yS142 O
    ·exact tk
    ·exact hcell
   refine o_allocA O yZ142 fun b12 => sta O O O yS142 O O ?_
   refine lz<|l_q O (qfa 0 rfl yU142 O O yS3)<|l_q O (qld O yA3) ?_
   refine l_q O (qi O O (b_eql ·))<|mv O O<|l_pt (t := 50) rfl (fun z1 => ?_) fun z1 => ?_
   ·refine l_on O O<|l_q O (qfa 1 rfl yU142 O O yS3)<|l_on O O<|l_q O (qld O yA3) ?_
    refine l_on O O<|mv O O<|l_on O O<|l_q O (qi O O (b_eql ·))<|l_q O (q_pk O O)<|mv O O<|l_pt (t := 56) rfl (fun z2 => ?_) fun z2 => ?_
    ·refine l_on O O<|l_q O (qfa 2 rfl yU142 O O yS9)<|l_on O O<|l_q O (qld O yA9) ?_
     refine l_on O O<|mv O O<|l_on O O<|l_q O (qs O O (b_eqlS ·))<|l_q O (q_pk O O)<|lc<|t_if O (fun z3 => ?_) fun z3 => ?_
     ·skip
      have hhs : hitS (grpC x.T.cells (gk (h / 128) x.n k)) (h % 128) key i = true := hitS_iff.2 ⟨z1, z2, z3⟩
      have hfe : hitAt (h / 128) x.n x.T.cells (h % 128) key k = i := firstF_eq (by omega) hhs hnoi
      have hsr := find_hit hkl (by rw [hfe]; omega) hnok
      rw [hfe] at hsr
      refine sr<|mv O O<|mv O O<|l_q O (qadd O O) ?_
      refine asg O O<|asg O O<|lc<|rt ?_
      apply f_ret (.inl rfl) ([rtH pr l x])
      ·apply res2 O
       ·exact .tmp rfl
       ·exact .tmp rfl
      ·exact ⟨by rw [hsr], rfl⟩
      ·refine rt_close (.slice (some ⟨g0, 0, none⟩) (8 * x.n) cap) ?_; (exact en)
     ·refine t_skip<|n_blk<|n_code<|t_region<|mv O O<|l_q O (qadd O O) ?_
      refine asg O O<|l_nil ?_
      apply n_again ((i + 1))
      ·exact ⟨by omega, fun j hj => by rcases Nat.lt_or_ge j i with q2 | q2; exact hnoi j q2; (obtain rfl : j = i := by omega); cases hs : hitS (grpC x.T.cells (gk (h / 128) x.n k)) (h % 128) key j with | false => rfl | true => (obtain ⟨a1, a2, a3⟩ := hitS_iff.1 hs; first | exact absurd a1 z1 | exact absurd a2 z2 | exact absurd a3 z3)⟩
      ·omega
      ·exact ⟨rfl, rfl, rfl, rfl, rfl, rfl, trivial⟩
      ·exact en
    ·refine l_off O O O O<|l_off O O O O<|l_off O O O O<|l_off O O O O<|l_q O (q_pk O O)<|lc<|t_cond_f O<|t_skip<|n_blk<|n_code<|t_region<|mv O O<|l_q O (qadd O O) ?_
     refine asg O O<|l_nil ?_
     apply n_again ((i + 1))
     ·exact ⟨by omega, fun j hj => by rcases Nat.lt_or_ge j i with q2 | q2; exact hnoi j q2; (obtain rfl : j = i := by omega); cases hs : hitS (grpC x.T.cells (gk (h / 128) x.n k)) (h % 128) key j with | false => rfl | true => (obtain ⟨a1, a2, a3⟩ := hitS_iff.1 hs; first | exact absurd a1 z1 | exact absurd a2 z2 | exact absurd a3 z3)⟩
     ·omega
     ·exact ⟨rfl, rfl, rfl, rfl, rfl, rfl, trivial⟩
     ·exact en
   ·refine l_off O O O O<|l_off O O O O<|l_off O O O O<|l_off O O O O<|l_q O (q_pk O O)<|mv O O<|l_off O O O O<|l_off O O O O<|l_off O O O O<|l_off O O O O<|l_q O (q_pk O O)<|lc<|t_cond_f O<|t_skip<|n_blk<|n_code<|t_region<|mv O O<|l_q O (qadd O O) ?_
    refine asg O O<|l_nil ?_
    apply n_again ((i + 1))
    ·exact ⟨by omega, fun j hj => by rcases Nat.lt_or_ge j i with q2 | q2; exact hnoi j q2; (obtain rfl : j = i := by omega); cases hs : hitS (grpC x.T.cells (gk (h / 128) x.n k)) (h % 128) key j with | false => rfl | true => (obtain ⟨a1, a2, a3⟩ := hitS_iff.1 hs; first | exact absurd a1 z1 | exact absurd a2 z2 | exact absurd a3 z3)⟩
    ·omega
    ·exact ⟨rfl, rfl, rfl, rfl, rfl, rfl, trivial⟩
    ·exact en
  ·skip
   obtain rfl : i = 8 := by omega
   refine xt O<|n_blk<|n_code<|t_region<|mv O O<|l_q O (qadd O O) ?_
   refine asg O O<|l_nil ?_
   apply n_again ((k + 1))
   ·exact ⟨by omega, fun j hj => by rcases Nat.lt_or_ge j k with q2 | q2; exact hnok j q2; (obtain rfl : j = k := by omega); exact first_none hnoi⟩
   ·omega
   ·exact ⟨rfl, rfl, rfl, rfl, rfl, trivial⟩
   ·exact en
 ·skip
  obtain rfl : k = wayN (h / 128) x.n x.T.cells := by omega
  have hsr := find_no hnok
  refine xt O<|nz<|mv O O<|l_q O (ql O yU22)<|asg O O<|asg O O<|lc<|rt ?_
  apply f_ret (.inl rfl) ([rtH pr l x])
  ·apply res2 O
   ·exact .tmp rfl
   ·exact .tmp rfl
  ·exact ⟨by rw [hsr], rfl⟩
  ·refine rt_close (.slice (some ⟨g0, 0, none⟩) (8 * x.n) cap) ?_; (exact en)
theorem errX_not (key : ByteArray) (he : ¬ errX l x key = 0) : (x.dead = true ∧ errX l x key = 24) ∨ (x.dead = false ∧ (key.size : Int) ≠ l.key ∧ errX l x key = 61) := by
 unfold errX at *
 cases hd : x.dead with
 | true => exact .inl ⟨rfl, by simp⟩
 | false =>
  by_cases hk : (key.size : Int) ≠ l.key
  ·exact .inr ⟨rfl, hk, by simp [hk]⟩
  ·rw [hd] at he
   simp [hk] at he
theorem errX_zero (key : ByteArray) (he : ¬ errX l x key ≠ 0) : x.dead = false ∧ ¬ (key.size : Int) ≠ l.key := by
 unfold errX at he
 cases hd : x.dead with
 | true => rw [hd] at he; simp at he
 | false =>
  rw [hd] at he
  by_cases hk : (key.size : Int) ≠ l.key
  ·rw [if_pos hk] at he; simp at he
  ·exact ⟨rfl, hk⟩
theorem RFind_ok (hn0 : 0 < x.n) (h : Int) (hh : 0 ≤ h ∧ h < 18446744073709551616) (key : ByteArray) : FnOk Tryz.prog 76 #[.pointer (some ⟨x.p, 0, none⟩), .int .u64 h, .string key] [rtH pr l x] (fun v L => v = .tuple #[.int .i64 (findX l x h key).1, .int .i64 (findX l x h key).2] ∧ L = [rtH pr l x]) := by
 refine fn_intro en76 Tryz.func76 rfl rfl rfl fun Fr w0 => t_nm ?_
 refine sr<|asg O O<|asg O O<|lz<|mv O O<|mv O O<|lc1 O O O (errors_ok pr l x hn key) ?_
 refine asg O O<|lc<|t_seq<|sr<|mv O O<|l_q O (qi O O (b_neq ·))<|lc<|t_if O (fun z => ?_) fun z => ?_
 ·refine sr<|mv O O<|asg O O<|asg O O<|lc<|rt<|fr2 O ([rtH pr l x]) (.tmp rfl) (.tmp rfl) ?_
  exact ⟨by rcases errX_not l x hn key z with ⟨a1, a2⟩ | ⟨a1, a2, a3⟩ <;> unfold findX <;> simp [*], rfl⟩
 ·refine t_skip<|nz<|mv O O<|mv O O<|mv O O<|lc1 O O O (rfind_ok pr l x hn hn0 h hh key) ?_
  refine mv O O<|l_q O (q_extractL O ga) ?_
  refine l_q O (q_extractL O ga) ?_
  refine asg O O<|asg O O<|lz<|mv O O<|asg O O<|asg O O<|lc<|rt<|fr2 O ([rtH pr l x]) (.tmp rfl) (.tmp rfl) ?_
  exact ⟨by obtain ⟨a1, a2⟩ := errX_zero l x hn key z; unfold findX; simp only [a1, if_neg a2, Bool.false_eq_true, if_false], rfl⟩
theorem RProbes_ok (hn0 : 0 < x.n) (h : Int) (hh : 0 ≤ h ∧ h < 18446744073709551616) (key : ByteArray) : FnOk Tryz.prog 80 #[.pointer (some ⟨x.p, 0, none⟩), .int .u64 h, .string key] [rtH pr l x] (fun v L => v = .tuple #[.int .i64 (probesX l x h key).1, .int .i64 (probesX l x h key).2] ∧ L = [rtH pr l x]) := by
 refine fn_intro en80 Tryz.func80 rfl rfl rfl fun Fr w0 => t_nm ?_
 refine sr<|asg O O<|asg O O<|lz<|mv O O<|mv O O<|lc1 O O O (errors_ok pr l x hn key) ?_
 refine asg O O<|lc<|t_seq<|sr<|mv O O<|l_q O (qi O O (b_neq ·))<|lc<|t_if O (fun z => ?_) fun z => ?_
 ·refine sr<|mv O O<|asg O O<|asg O O<|lc<|rt<|fr2 O ([rtH pr l x]) (.tmp rfl) (.tmp rfl) ?_
  exact ⟨by rcases errX_not l x hn key z with ⟨a1, a2⟩ | ⟨a1, a2, a3⟩ <;> unfold probesX <;> simp [*], rfl⟩
 ·refine t_skip<|nz<|mv O O<|mv O O<|mv O O<|lc1 O O O (rfind_ok pr l x hn hn0 h hh key) ?_
  refine mv O O<|l_q O (q_extractL O ga) ?_
  refine l_q O (q_extractL O ga) ?_
  refine asg O O<|asg O O<|lz<|mv O O<|asg O O<|asg O O<|lc<|rt<|fr2 O ([rtH pr l x]) (.tmp rfl) (.tmp rfl) ?_
  exact ⟨by obtain ⟨a1, a2⟩ := errX_zero l x hn key z; unfold probesX; simp only [a1, if_neg a2, Bool.false_eq_true, if_false], rfl⟩
theorem cell_at {g0 cap k : Nat} (hk : k < 8 * x.n) (o : Nat) (ho : o = k * 5) : ∀ j v, [.int .i64 (x.T.cells k).kind, .int .i64 (x.T.cells k).tagI, .string (x.T.cells k).keyS, .string (x.T.cells k).elemS, .int .i64 (x.T.cells k).birthI][j]? = some v → CellAt (ownS 142 5 (.slice (some ⟨g0, 0, none⟩) (8 * x.n) cap) (8 * x.n) (rowOf cellV (firstL x.T.cells (8 * x.n)))) ((⟨g0, o, none⟩ : Addr).add j) v := fun j v hv => by
 have hj : j < 5 := by rcases Nat.lt_or_ge j 5 with q | q; exact q; rw [List.getElem?_eq_none (by simpa using q)] at hv; cases hv
 rw [add_none, ho]
 exact own_cell (by rw [cells_row x.T.cells hk j hj]; exact hv)
theorem slot_bnd (h : Int) (key : ByteArray) (hn0 : 0 < x.n) (hs : 0 ≤ (searchR (h / 128) x.n x.T.cells (h % 128) key).slot) : ∃ k, k < 8 * x.n ∧ (searchR (h / 128) x.n x.T.cells (h % 128) key).slot = ((k : Nat) : Int) ∧ ∃ e b, x.T.cells k = .full (h % 128) key e b := by
 obtain ⟨g, i, hg, hi, h2, h3⟩ := search_slot (home := h / 128) (cells := x.T.cells) (tag := h % 128) (key := key) hn0 hs
 exact ⟨8 * g + i, by omega, h2, h3⟩
theorem RGet_ok (hn0 : 0 < x.n) (h : Int) (hh : 0 ≤ h ∧ h < 18446744073709551616) (key : ByteArray) : FnOk Tryz.prog 78 #[.pointer (some ⟨x.p, 0, none⟩), .int .u64 h, .string key] [rtH pr l x] (fun v L => v = .tuple #[.agg #[.int .i64 (getX l x h key).1.kind, .int .i64 (getX l x h key).1.tagI, .string (getX l x h key).1.keyS, .string (getX l x h key).1.elemS, .int .i64 (getX l x h key).1.birthI], .int .i64 (getX l x h key).2] ∧ L = [rtH pr l x]) := by
 refine fn_intro en78 Tryz.func78 rfl rfl rfl fun Fr w0 => t_nm ?_
 refine sr<|o_allocA O yZ142 fun b6 => asg O O<|lz<|mv O O<|mv O O<|mv O O<|lc1 O O O (RFind_ok pr l x hn hn0 h hh key) ?_
 refine mv O O<|l_q O (q_extractL O ga) ?_
 refine l_q O (q_extractL O ga) ?_
 refine asg O O<|asg O O<|lc<|t_seq<|sr<|mv O O<|l_q O (qi O O (b_neq ·))<|mv O O ?_
 have hfx : (findX l x h key).2 = 0 → x.dead = false ∧ ¬ (key.size : Int) ≠ l.key ∧ (findX l x h key).1 = (searchR (h / 128) x.n x.T.cells (h % 128) key).slot := fun e => by
  unfold findX at e ⊢
  cases hd : x.dead with
  | true => rw [hd] at e; simp at e
  | false =>
   rw [hd] at e
   by_cases hk : (key.size : Int) ≠ l.key
   ·simp [hk] at e
   ·exact ⟨rfl, hk, by simp [hk]⟩
 have hfy : ¬ (findX l x h key).2 = 0 → getX l x h key = (.empty, (findX l x h key).2) := fun e => by
  unfold findX getX at *
  cases hd : x.dead with
  | true => simp
  | false =>
   by_cases hk : (key.size : Int) ≠ l.key
   ·simp [hk]
   ·rw [hd] at e; simp [hk] at e
 refine l_pt (t := 19) rfl (fun z1 => ?_) fun z1 => ?_
 ·refine l_off O O O O<|l_off O O O O<|l_q O (q_pk O O)<|lc<|t_cond_t O<|sr ?_
  apply l_q O
  ·apply q_buildS O yP142 yZ142
   ·exact FillR.nil
  refine mv O O<|sta O O O yS142 O O ?_
  refine asg O O<|lc<|rt ?_
  apply f_ret (.inl rfl) ([rtH pr l x])
  ·apply res2 O
   ·apply Rv.agg rfl
    ·exact tk
    ·exact run_loadAll yA142 yS142 O
   ·exact .tmp rfl
  ·exact ⟨by rw [hfy z1]; rfl, rfl⟩
  ·exact en
 ·refine l_on O O<|mv O O<|l_on O O<|l_q O (qi O O (b_lss ·))<|l_q O (q_pk O O)<|lc<|t_if O (fun z2 => ?_) fun z2 => ?_
  ·skip
   obtain ⟨a1, a2, a3⟩ := hfx (by simpa using z1)
   have hg : getX l x h key = (.empty, (findX l x h key).2) := by
    rw [a3] at z2
    have e2 : (findX l x h key).2 = 0 := by simpa using z1
    unfold getX getC
    rw [e2]
    simp only [a1, if_neg a2, Bool.false_eq_true, if_false, if_neg (show ¬ 0 ≤ (searchR (h / 128) x.n x.T.cells (h % 128) key).slot by omega)]
   refine sr ?_
   apply l_q O
   ·apply q_buildS O yP142 yZ142
    ·exact FillR.nil
   refine mv O O<|sta O O O yS142 O O ?_
   refine asg O O<|lc<|rt ?_
   apply f_ret (.inl rfl) ([rtH pr l x])
   ·apply res2 O
    ·apply Rv.agg rfl
     ·exact tk
     ·exact run_loadAll yA142 yS142 O
    ·exact .tmp rfl
   ·exact ⟨by rw [hg]; rfl, rfl⟩
   ·exact en
  ·skip
   obtain ⟨a1, a2, a3⟩ := hfx (by simpa using z1)
   obtain ⟨k, hk, hks, _⟩ := slot_bnd x hn h key hn0 (by omega)
   have hg : getX l x h key = (x.T.cells k, 0) := by
    unfold getX getC
    simp only [a1, if_neg a2, Bool.false_eq_true, if_false, hks, if_pos (show (0 : Int) ≤ ((k : Nat) : Int) by omega), Int.toNat_natCast]
   have hko : (findX l x h key).1 = ((k : Nat) : Int) := a3.trans hks
   refine rt_open tk fun vc => ?_
   refine t_shape tk fun _ hvc => ?_
   obtain ⟨a0, cap, rfl, ha, _, _⟩ := hvc
   obtain ⟨g0, rfl⟩ := ha (by omega)
   rw [hko]
   refine t_skip<|nz<|mv O O<|l_q O (q_nilCheck O)<|l_q O (qfa 19 rfl yU45 O O yS43)<|l_q O (qld O yA43) ?_
   refine mv O O<|l_q O (q_indexAddr O O yU43 yS142 (by omega)) ?_
   apply l_q O
   ·apply q_loadRA (A := ownS 142 5 (.slice (some ⟨g0, 0, none⟩) (8 * x.n) cap) (8 * x.n) (rowOf cellV (firstL x.T.cells (8 * x.n)))) (us := [.int .i64 (x.T.cells k).kind, .int .i64 (x.T.cells k).tagI, .string (x.T.cells k).keyS, .string (x.T.cells k).elemS, .int .i64 (x.T.cells k).birthI]) rfl yA142 yS142 O
    ·exact tk
    ·exact cell_at x hn hk _ (by omega)
   refine sta O O O yS142 O O ?_
   refine asg O O<|lc<|rt ?_
   apply f_ret (.inl rfl) ([rtH pr l x])
   ·apply res2 O
    ·apply Rv.agg rfl
     ·exact tk
     ·exact run_loadAll yA142 yS142 O
    ·exact .tmp rfl
   ·exact ⟨by rw [hg], rfl⟩
   ·refine rt_close (.slice (some ⟨g0, 0, none⟩) (8 * x.n) cap) ?_; (exact en)
variable (hr : TRng x.n x.T)
include hr
theorem rt_put {g0 cap : Nat} {k : Nat} (hk : k < 8 * x.n) (c : Cell) : lay (rowOf cellV (firstL x.T.cells (8 * x.n))) (k * 5) (cellV c) = rowOf cellV (firstL (updC x.T.cells k c) (8 * x.n)) := by
 rw [rowOf_lay cellV5 (by rw [firstL_len]; exact hk), firstL_set _ hk]
theorem RPut_ok (hn0 : 0 < x.n) (h : Int) (hh : 0 ≤ h ∧ h < 18446744073709551616) (key elem : ByteArray) (birth : Int) : FnOk Tryz.prog 81 #[.pointer (some ⟨x.p, 0, none⟩), .int .u64 h, .string key, .string elem, .int .i64 birth] [rtH pr l x] (fun v L => v = .tuple #[.int .i64 (putX l x h key elem birth).1, .int .i64 (putX l x h key elem birth).2.1] ∧ L = [rtH pr l { x with T := (putX l x h key elem birth).2.2 }]) := by
 have hus := hr.used
 have hl0 := hr.left0
 have hl1 := hr.left1
 have hcle := cnt_le isFull x.T.cells (8 * x.n)
 have hwle := wayN_le (h / 128) x.n x.T.cells
 refine fn_intro en81 Tryz.func81 rfl rfl rfl fun Fr w0 => t_nm ?_
 refine sr<|asg O O<|asg O O<|lz<|mv O O<|mv O O<|lc1 O O O (errors_ok pr l x hn key) ?_
 refine asg O O<|lc<|t_seq<|sr<|mv O O<|l_q O (qi O O (b_neq ·))<|lc<|t_if O (fun z0 => ?_) fun z0 => ?_
 ·skip
  have hp : putX l x h key elem birth = (0, errX l x key, x.T) := by rcases errX_not l x hn key z0 with ⟨a1, a2⟩ | ⟨a1, a2, a3⟩ <;> unfold putX <;> simp [*]
  rw [hp]
  exact sr<|mv O O<|asg O O<|asg O O<|lc<|rt<|fr2 O ([rtH pr l x]) (.tmp rfl) (.tmp rfl) ⟨rfl, rfl⟩
 ·skip
  obtain ⟨hxd, hkey⟩ := errX_zero l x hn key z0
  refine rt_open .here fun vc => ?_
  refine t_skip<|n_code<|t_seq<|sr<|mv O O<|l_q O (qls O yU9)<|mv O O<|l_q O (q_nilCheck O)<|l_q O (qfa 1 rfl yU45 O O yS34)<|l_q O (qfa 1 rfl yU34 O O yS3)<|l_q O (qld O yA3) ?_
  refine l_q O (qi O O (b_neq ·))<|lc<|t_if O (fun z1 => ?_) fun z1 => ?_
  ·skip
   have hp : putX l x h key elem birth = (0, 62, x.T) := by unfold putX; simp only [hxd, if_neg hkey, Bool.false_eq_true, if_false, if_pos z1]
   rw [hp]
   refine sr<|asg O O<|asg O O<|lc<|rt ?_
   apply f_ret (.inl rfl) ([rtH pr l x])
   ·apply res2 O
    ·exact .tmp rfl
    ·exact .tmp rfl
   ·exact ⟨rfl, rfl⟩
   ·refine rt_close vc ?_; (exact en)
  ·refine t_skip<|n_code<|t_seq<|sr<|mv O O<|l_q O (qi O O (b_lss ·))<|lc<|t_if O (fun z2 => ?_) fun z2 => ?_
   ·skip
    have hp : putX l x h key elem birth = (0, 64, x.T) := by unfold putX; simp only [hxd, if_neg hkey, Bool.false_eq_true, if_false, if_neg z1, if_pos z2]
    rw [hp]
    refine sr<|asg O O<|asg O O<|lc<|rt ?_
    apply f_ret (.inl rfl) ([rtH pr l x])
    ·apply res2 O
     ·exact .tmp rfl
     ·exact .tmp rfl
    ·exact ⟨rfl, rfl⟩
    ·refine rt_close vc ?_; (exact en)
   ·skip
    have hp : putX l x h key elem birth = ((putT x.n x.T h key elem birth).1, 0, (putT x.n x.T h key elem birth).2) := by unfold putX; simp only [hxd, if_neg hkey, Bool.false_eq_true, if_false, if_neg z1, if_neg z2]
    rw [hp]
    refine t_ent (L' := rtH pr l x :: Fr) (rt_close vc (by (exact en))) ?_
    refine t_skip<|nz<|mv O O<|mv O O<|mv O O<|lc1 O O O (rfind_ok pr l x hn hn0 h hh key) ?_
    refine mv O O<|l_q O (q_extractL O ga) ?_
    refine l_q O (q_extractL O ga) ?_
    refine asg O O<|asg O O<|lc<|t_seq<|sr<|mv O O<|l_q O (qi O O (b_geq ·))<|lc<|t_if O (fun z3 => ?_) fun z3 => ?_
    ·skip
     obtain ⟨k, hk, hks, e0, b0, hcf⟩ := slot_bnd x hn h key hn0 z3
     have hput : putT x.n x.T h key elem birth = (1, { x.T with cells := updC x.T.cells k (.full (h % 128) key elem b0) }) := by
      unfold putT
      rw [if_pos z3, hks, Int.toNat_natCast, hcf]; rfl
     rw [hput, hks]
     refine rt_open .here fun vc => ?_
     refine t_shape (.there .here) fun _ hvc => ?_
     obtain ⟨a0, cap, rfl, ha, _, _⟩ := hvc
     obtain ⟨g0, rfl⟩ := ha (by omega)
     have hset : (rowOf cellV (firstL x.T.cells (8 * x.n))).set (0 + ((k : Nat) : Int).toNat * 5 + 3) (.string elem) = rowOf cellV (firstL (updC x.T.cells k (.full (h % 128) key elem b0)) (8 * x.n)) := by
      rw [Nat.zero_add, Int.toNat_natCast, rowOf_set cellV5 (by decide) (firstL x.T.cells (8 * x.n)) k (x.T.cells k) (firstL_get hk) (a' := .full (h % 128) key elem b0) (by rw [hcf]; rfl), firstL_set _ hk]
     refine sr<|mv O O<|l_q O (q_nilCheck O)<|l_q O (qfa 19 rfl yU45 O O yS43)<|l_q O (qld O yA43) ?_
     refine mv O O<|mv O O<|l_q O (q_indexAddr O O yU43 yS142 (by omega)) ?_
     refine l_q O (qfa 3 rfl yU142 O O yS9) ?_
     refine o_storeOwn O O O yS9 O tk (by omega) hset ?_
     refine lz<|asg O O<|asg O O<|lc<|rt ?_
     apply f_ret (.inl rfl) ([rtH pr l { x with T := { x.T with cells := updC x.T.cells k (.full (h % 128) key elem b0) } }])
     ·apply res2 O
      ·exact .tmp rfl
      ·exact .tmp rfl
     ·exact ⟨rfl, rfl⟩
     ·refine rt_close (.slice (some ⟨g0, 0, none⟩) (8 * x.n) cap) ?_; (exact en)
    ·skip
     have hneg := find_neg (home := h / 128) (n := x.n) (cells := x.T.cells) (tag := h % 128) (key := key) (by omega)
     refine t_skip<|nz<|mv O O<|mv O O<|lcf O O O (Way_ok pr l x hn hn0 h hh) ?_
     rintro vw L' rfl
     refine l_nm ?_
     refine asg O O<|lc<|t_seq<|sr<|asg O O<|lc<|t_block ?_
     refine t_shape .here fun _ hvw => ?_
     obtain ⟨aw, capw, rfl, haw, _, _⟩ := hvw
     refine rt_open (.there .here) fun vc => ?_
     refine t_shape (.there .here) fun _ hvc => ?_
     obtain ⟨a0, cap, rfl, ha, _, _⟩ := hvc
     obtain ⟨g0, rfl⟩ := ha (by omega)
     dsimp only
     refine t_loop (fun k : Nat => k ≤ wayN (h / 128) x.n x.T.cells ∧ ∀ j, j < k → ¬ vacAt (h / 128) x.n x.T.cells j < 8) (fun k => [(0, .pointer (some ⟨x.p, 0, none⟩)), (1, .int .u64 h), (2, .string key), (3, .string elem), (4, .int .i64 birth), (15, .slice aw (wayN (h / 128) x.n x.T.cells) capw), (16, .int .i64 (k : Nat))]) (fun _ => pt x.p (.cells #[.pointer (some ⟨pr, 0, none⟩), .int .i64 l.key, .int .i64 l.elem, .int .i64 l.ka, .int .i64 l.ea, .int .i64 l.cap, .int .i64 l.eo, .int .i64 l.bo, .int .i64 l.slot, .int .i64 l.group, .int .i64 (x.off : Nat), .int .i64 (x.go : Nat), .int .i64 x.T.used, .int .i64 x.T.left, .int .i64 x.T.depth, .int .i64 x.T.pins, .int .i64 x.T.next, .bool (decide (x.T.kind = 4)), .bool x.dead, (.slice (some ⟨g0, 0, none⟩) (8 * x.n) cap)] 45 (0, 0)) :: ownS 142 5 (.slice (some ⟨g0, 0, none⟩) (8 * x.n) cap) (8 * x.n) (rowOf cellV (firstL x.T.cells (8 * x.n))) :: ownS 3 1 (.slice aw (wayN (h / 128) x.n x.T.cells) capw) (wayN (h / 128) x.n x.T.cells) (ints (wayL (h / 128) x.n (wayN (h / 128) x.n x.T.cells))) :: Fr) (fun k => wayN (h / 128) x.n x.T.cells - k) 0 ⟨Nat.zero_le _, fun j h => by omega⟩ ⟨rfl, rfl, rfl, rfl, rfl, rfl, rfl, trivial⟩ (by (exact en)) ?_
     rintro k ⟨hk, hnok⟩
     refine t_seq<|sr<|mv O O<|mv O O<|l_q O (ql O yU22)<|l_q O (qi O O (b_lss ·))<|lc<|t_if O (fun h1 => ?_) fun h1 => ?_
     ·skip
      have hkl : k < wayN (h / 128) x.n x.T.cells := by omega
      obtain ⟨gw, rfl⟩ := haw (by omega)
      have hgl := gk_lt (home := h / 128) (k := k) hn0
      have hwk : (ints (wayL (h / 128) x.n (wayN (h / 128) x.n x.T.cells)))[0 + ((k : Nat) : Int).toNat]? = some (.int .i64 (gk (h / 128) x.n k : Nat)) := by
       rw [Nat.zero_add, Int.toNat_natCast]; unfold ints; rw [List.getElem?_map, wayL_get hkl]; rfl
      refine t_skip<|n_code<|t_seq<|t_block<|sr<|mv O O<|mv O O<|l_q O (q_indexAddr1 O O yU22 yS3 (by omega)) ?_
      apply l_q O
      ·apply q_loadOwn O yA3
       ·exact tk
       ·exact hwk
      refine l_q O (qmul O O) ?_
      refine asg O O<|lc<|t_block ?_
      refine t_loop (fun i : Nat => i ≤ 8 ∧ ∀ j, j < i → vacS (grpC x.T.cells (gk (h / 128) x.n k)) j = false) (fun i => [(0, .pointer (some ⟨x.p, 0, none⟩)), (1, .int .u64 h), (2, .string key), (3, .string elem), (4, .int .i64 birth), (15, .slice (some ⟨gw, 0, none⟩) (wayN (h / 128) x.n x.T.cells) capw), (16, .int .i64 (k : Nat)), (17, .int .i64 (8 * ((gk (h / 128) x.n k : Nat) : Int) + (i : Nat)))]) (fun _ => pt x.p (.cells #[.pointer (some ⟨pr, 0, none⟩), .int .i64 l.key, .int .i64 l.elem, .int .i64 l.ka, .int .i64 l.ea, .int .i64 l.cap, .int .i64 l.eo, .int .i64 l.bo, .int .i64 l.slot, .int .i64 l.group, .int .i64 (x.off : Nat), .int .i64 (x.go : Nat), .int .i64 x.T.used, .int .i64 x.T.left, .int .i64 x.T.depth, .int .i64 x.T.pins, .int .i64 x.T.next, .bool (decide (x.T.kind = 4)), .bool x.dead, (.slice (some ⟨g0, 0, none⟩) (8 * x.n) cap)] 45 (0, 0)) :: ownS 142 5 (.slice (some ⟨g0, 0, none⟩) (8 * x.n) cap) (8 * x.n) (rowOf cellV (firstL x.T.cells (8 * x.n))) :: ownS 3 1 (.slice (some ⟨gw, 0, none⟩) (wayN (h / 128) x.n x.T.cells) capw) (wayN (h / 128) x.n x.T.cells) (ints (wayL (h / 128) x.n (wayN (h / 128) x.n x.T.cells))) :: Fr) (fun i => 8 - i) 0 ⟨Nat.zero_le _, fun j h => by omega⟩ ⟨rfl, rfl, rfl, rfl, rfl, rfl, rfl, congrArg (fun z => some (Value.int .i64 z)) (by omega), trivial⟩ (by (exact en)) ?_
      rintro i ⟨hi, hnoi⟩
      refine t_seq<|sr<|mv O O<|mv O O<|mv O O<|l_q O (q_indexAddr1 O O yU22 yS3 (by omega)) ?_
      apply l_q O
      ·apply q_loadOwn O yA3
       ·exact tk
       ·exact hwk
      refine l_q O (qmul O O) ?_
      refine l_q O (qadd O O) ?_
      refine l_q O (qi O O (b_lss ·))<|lc<|t_if O (fun h2 => ?_) fun h2 => ?_
      ·skip
       obtain ⟨cc, hcc⟩ : ∃ cc, x.T.cells (8 * gk (h / 128) x.n k + i) = cc := ⟨_, rfl⟩
       have hkind : (rowOf cellV (firstL x.T.cells (8 * x.n)))[0 + (8 * ((gk (h / 128) x.n k : Nat) : Int) + ((i : Nat) : Int)).toNat * 5 + 0]? = some (.int .i64 cc.kind) := by
        rw [show 0 + (8 * ((gk (h / 128) x.n k : Nat) : Int) + ((i : Nat) : Int)).toNat * 5 + 0 = (8 * gk (h / 128) x.n k + i) * 5 + 0 by omega, cells_row x.T.cells (by omega) 0 (by decide), hcc]
        rfl
       have hlay : lay (rowOf cellV (firstL x.T.cells (8 * x.n))) (0 + (8 * ((gk (h / 128) x.n k : Nat) : Int) + ((i : Nat) : Int)).toNat * 5) (cellV (.full (h % 128) key elem birth)) = rowOf cellV (firstL (updC x.T.cells (8 * gk (h / 128) x.n k + i) (.full (h % 128) key elem birth)) (8 * x.n)) := by
        rw [show 0 + (8 * ((gk (h / 128) x.n k : Nat) : Int) + ((i : Nat) : Int)).toNat * 5 = (8 * gk (h / 128) x.n k + i) * 5 by omega]
        exact rt_put x hn hr (g0 := g0) (cap := cap) (by omega) _
       have hvi : vacS (grpC x.T.cells (gk (h / 128) x.n k)) i = true → vacI (h / 128) x.n x.T.cells (wayN (h / 128) x.n x.T.cells) = ((8 * gk (h / 128) x.n k + i : Nat) : Int) ∧ vacE (h / 128) x.n x.T.cells (wayN (h / 128) x.n x.T.cells) = isEmp cc := fun hv => by
        have hfe : vacAt (h / 128) x.n x.T.cells k = i := firstF_eq (by omega) hv hnoi
        obtain ⟨e1, e2⟩ := vac_hit hkl (by rw [hfe]; omega) hnok
        rw [hfe] at e1 e2
        exact ⟨by rw [e1]; omega, by rw [e2, empS_iff, ← hcc]; rfl⟩
       cases cc with
       | full t0 k0 e0 b0 =>
        have hfull : isFull (grpC x.T.cells (gk (h / 128) x.n k) i) = true := by show isFull (x.T.cells (8 * gk (h / 128) x.n k + i)) = true; rw [hcc]; rfl
        refine t_skip<|n_code<|t_seq<|t_block<|t_seq<|sr<|mv O O<|l_q O (q_nilCheck O)<|l_q O (qfa 19 rfl yU45 O O yS43)<|l_q O (qld O yA43) ?_
        refine mv O O<|l_q O (q_indexAddr O O yU43 yS142 (by omega)) ?_
        refine l_q O (qfa 0 rfl yU142 O O yS3) ?_
        apply l_q O
        ·apply q_loadOwn O yA3
         ·exact tk
         ·exact hkind
        refine l_q O (qi O O (b_eql ·))<|lc<|t_if O (fun q => ?_) fun q => ?_
        ·refine xt O<|n_code<|t_region<|mv O O<|l_q O (qadd O O) ?_
         refine asg O O<|l_nil ?_
         apply n_again ((i + 1))
         ·exact ⟨by omega, fun j hj => by rcases Nat.lt_or_ge j i with q2 | q2; exact hnoi j q2; (obtain rfl : j = i := by omega); rw [vacS_iff, hfull]; rfl⟩
         ·omega
         ·exact ⟨rfl, rfl, rfl, rfl, rfl, rfl, rfl, rfl, trivial⟩
         ·exact en
        ·exact absurd rfl q
       | empty =>
        obtain ⟨hv1, hv2⟩ := hvi (by rw [vacS_iff]; show (!isFull (x.T.cells (8 * gk (h / 128) x.n k + i))) = true; rw [hcc]; rfl)
        refine t_skip<|n_code<|t_seq<|t_block<|t_seq<|sr<|mv O O<|l_q O (q_nilCheck O)<|l_q O (qfa 19 rfl yU45 O O yS43)<|l_q O (qld O yA43) ?_
        refine mv O O<|l_q O (q_indexAddr O O yU43 yS142 (by omega)) ?_
        refine l_q O (qfa 0 rfl yU142 O O yS3) ?_
        apply l_q O
        ·apply q_loadOwn O yA3
         ·exact tk
         ·exact hkind
        refine l_q O (qi O O (b_eql ·))<|lc<|t_if O (fun q => ?_) fun q => ?_
        ·exact absurd q (by decide)
        ·refine t_skip<|n_code<|t_seq<|sr<|mv O O<|l_q O (q_nilCheck O)<|l_q O (qfa 19 rfl yU45 O O yS43)<|l_q O (qld O yA43) ?_
         refine mv O O<|l_q O (q_indexAddr O O yU43 yS142 (by omega)) ?_
         refine l_q O (qfa 0 rfl yU142 O O yS3) ?_
         apply l_q O
         ·apply q_loadOwn O yA3
          ·exact tk
          ·exact hkind
         refine l_q O (qi O O (b_eql ·))<|lc<|t_if O (fun q2 => ?_) fun q2 => ?_
         ·refine t_seq<|sr<|mv O O<|l_q O (q_nilCheck O)<|l_q O (qfa 13 rfl yU45 O O yS3)<|l_q O (qld O yA3) ?_
          refine l_q O (qi O O (b_eql ·))<|lc<|t_if O (fun q3 => ?_) fun q3 => ?_
          ·skip
           have hput : putT x.n x.T h key elem birth = (3, x.T) := by
            unfold putT
            rw [hneg]
            simp only [hv1, hv2, isEmp]
            rw [if_neg (by omega), if_pos (.inr ⟨trivial, q3⟩)]
           rw [hput]
           refine sr<|asg O O<|asg O O<|lc<|rt ?_
           apply f_ret (.inl rfl) ([rtH pr l x])
           ·apply res2 O
            ·exact .tmp rfl
            ·exact .tmp rfl
           ·exact ⟨rfl, rfl⟩
           ·refine rt_close (.slice (some ⟨g0, 0, none⟩) (8 * x.n) cap) ?_; (exact en)
          ·skip
           have hput : putT x.n x.T h key elem birth = (2, { x.T with used := x.T.used + 1, left := x.T.left - 1, cells := updC x.T.cells (8 * gk (h / 128) x.n k + i) (.full (h % 128) key elem birth) }) := by
            unfold putT
            rw [hneg]
            simp only [hv1, hv2, isEmp]
            rw [if_neg (by omega), if_neg (by omega)]
            simp only [Int.toNat_natCast, if_true]
           rw [hput]
           refine t_skip<|n_code<|t_region<|mv O O<|l_q O (q_nilCheck O)<|l_q O (qfa 13 rfl yU45 O O yS3)<|l_q O (qld O yA3) ?_
           refine l_q O (qsub O O) ?_
           refine l_q O (q_nilCheck O)<|l_q O (qfa 13 rfl yU45 O O yS3)<|st O O O yS3 O ?_
           refine lz<|mv O O<|l_q O (q_nilCheck O)<|l_q O (qfa 19 rfl yU45 O O yS43)<|l_q O (qld O yA43) ?_
           refine mv O O<|mv O O<|l_q O (qrem O O) ?_
           refine l_q O (qcv O yU27 yU3) ?_
           refine mv O O<|mv O O<|mv O O ?_
           apply l_q O
           ·apply q_buildS O yP142 yZ142
            ·apply FillR.one
             ·repeat (first | exact PlAt.here | apply PlAt.there)
             ·rfl
             ·exact sa
             apply FillR.one
             ·repeat (first | exact PlAt.here | apply PlAt.there)
             ·rfl
             ·exact sa
             apply FillR.one
             ·repeat (first | exact PlAt.here | apply PlAt.there)
             ·rfl
             ·exact sa
             apply FillR.one
             ·repeat (first | exact PlAt.here | apply PlAt.there)
             ·rfl
             ·exact sa
             apply FillR.one
             ·repeat (first | exact PlAt.here | apply PlAt.there)
             ·rfl
             ·exact sa
             exact FillR.nil
           refine l_q O (q_indexAddr O O yU43 yS142 (by omega)) ?_
           refine o_storeOwnA (us := cellV (.full (h % 128) key elem birth)) rfl rfl rfl yS142 O O tk (by omega) hlay ?_
           refine lz<|mv O O<|l_q O (q_nilCheck O)<|l_q O (qfa 12 rfl yU45 O O yS3)<|l_q O (qld O yA3) ?_
           refine l_q O (qadd O O) ?_
           refine l_q O (q_nilCheck O)<|l_q O (qfa 12 rfl yU45 O O yS3)<|st O O O yS3 O ?_
           refine lz<|asg O O<|asg O O<|lc<|rt ?_
           apply f_ret (.inl rfl) ([rtH pr l { x with T := { x.T with used := x.T.used + 1, left := x.T.left - 1, cells := updC x.T.cells (8 * gk (h / 128) x.n k + i) (.full (h % 128) key elem birth) } }])
           ·apply res2 O
            ·exact .tmp rfl
            ·exact .tmp rfl
           ·exact ⟨rfl, rfl⟩
           ·refine rt_close (.slice (some ⟨g0, 0, none⟩) (8 * x.n) cap) ?_; (exact en)
         ·exact absurd rfl q2
       | deleted =>
        obtain ⟨hv1, hv2⟩ := hvi (by rw [vacS_iff]; show (!isFull (x.T.cells (8 * gk (h / 128) x.n k + i))) = true; rw [hcc]; rfl)
        have hput : putT x.n x.T h key elem birth = (2, { x.T with used := x.T.used + 1, cells := updC x.T.cells (8 * gk (h / 128) x.n k + i) (.full (h % 128) key elem birth) }) := by
         unfold putT
         rw [hneg]
         simp only [hv1, hv2, isEmp]
         rw [if_neg (by omega), if_neg (by rintro (q9 | ⟨q9, _⟩); omega; cases q9)]
         simp only [Int.toNat_natCast, Bool.false_eq_true, if_false]
        rw [hput]
        refine t_skip<|n_code<|t_seq<|t_block<|t_seq<|sr<|mv O O<|l_q O (q_nilCheck O)<|l_q O (qfa 19 rfl yU45 O O yS43)<|l_q O (qld O yA43) ?_
        refine mv O O<|l_q O (q_indexAddr O O yU43 yS142 (by omega)) ?_
        refine l_q O (qfa 0 rfl yU142 O O yS3) ?_
        apply l_q O
        ·apply q_loadOwn O yA3
         ·exact tk
         ·exact hkind
        refine l_q O (qi O O (b_eql ·))<|lc<|t_if O (fun q => ?_) fun q => ?_
        ·exact absurd q (by decide)
        ·refine t_skip<|n_code<|t_seq<|sr<|mv O O<|l_q O (q_nilCheck O)<|l_q O (qfa 19 rfl yU45 O O yS43)<|l_q O (qld O yA43) ?_
         refine mv O O<|l_q O (q_indexAddr O O yU43 yS142 (by omega)) ?_
         refine l_q O (qfa 0 rfl yU142 O O yS3) ?_
         apply l_q O
         ·apply q_loadOwn O yA3
          ·exact tk
          ·exact hkind
         refine l_q O (qi O O (b_eql ·))<|lc<|t_if O (fun q2 => ?_) fun q2 => ?_
         ·exact absurd q2 (by decide)
         ·refine t_skip<|nz<|mv O O<|l_q O (q_nilCheck O)<|l_q O (qfa 19 rfl yU45 O O yS43)<|l_q O (qld O yA43) ?_
          refine mv O O<|mv O O<|l_q O (qrem O O) ?_
          refine l_q O (qcv O yU27 yU3) ?_
          refine mv O O<|mv O O<|mv O O ?_
          apply l_q O
          ·apply q_buildS O yP142 yZ142
           ·apply FillR.one
            ·repeat (first | exact PlAt.here | apply PlAt.there)
            ·rfl
            ·exact sa
            apply FillR.one
            ·repeat (first | exact PlAt.here | apply PlAt.there)
            ·rfl
            ·exact sa
            apply FillR.one
            ·repeat (first | exact PlAt.here | apply PlAt.there)
            ·rfl
            ·exact sa
            apply FillR.one
            ·repeat (first | exact PlAt.here | apply PlAt.there)
            ·rfl
            ·exact sa
            apply FillR.one
            ·repeat (first | exact PlAt.here | apply PlAt.there)
            ·rfl
            ·exact sa
            exact FillR.nil
          refine l_q O (q_indexAddr O O yU43 yS142 (by omega)) ?_
          refine o_storeOwnA (us := cellV (.full (h % 128) key elem birth)) rfl rfl rfl yS142 O O tk (by omega) hlay ?_
          refine lz<|mv O O<|l_q O (q_nilCheck O)<|l_q O (qfa 12 rfl yU45 O O yS3)<|l_q O (qld O yA3) ?_
          refine l_q O (qadd O O) ?_
          refine l_q O (q_nilCheck O)<|l_q O (qfa 12 rfl yU45 O O yS3)<|st O O O yS3 O ?_
          refine lz<|asg O O<|asg O O<|lc<|rt ?_
          apply f_ret (.inl rfl) ([rtH pr l { x with T := { x.T with used := x.T.used + 1, cells := updC x.T.cells (8 * gk (h / 128) x.n k + i) (.full (h % 128) key elem birth) } }])
          ·apply res2 O
           ·exact .tmp rfl
           ·exact .tmp rfl
          ·exact ⟨rfl, rfl⟩
          ·refine rt_close (.slice (some ⟨g0, 0, none⟩) (8 * x.n) cap) ?_; (exact en)
      ·skip
       obtain rfl : i = 8 := by omega
       refine xt O<|n_blk<|n_code<|t_region<|mv O O<|l_q O (qadd O O) ?_
       refine asg O O<|l_nil ?_
       apply n_again ((k + 1))
       ·exact ⟨by omega, fun j hj => by rcases Nat.lt_or_ge j k with q2 | q2; exact hnok j q2; (obtain rfl : j = k := by omega); exact first_none hnoi⟩
       ·omega
       ·exact ⟨rfl, rfl, rfl, rfl, rfl, rfl, rfl, trivial⟩
       ·exact en
     ·skip
      obtain rfl : k = wayN (h / 128) x.n x.T.cells := by omega
      have hvn := vac_no hnok
      have hput : putT x.n x.T h key elem birth = (3, x.T) := by
       unfold putT
       rw [hneg]
       simp only [hvn]
       rw [if_neg (by omega), if_pos (.inl (by omega))]
      rw [hput]
      refine xt O<|nz<|asg O O<|asg O O<|lc<|rt ?_
      apply f_ret (.inl rfl) ([rtH pr l x])
      ·apply res2 O
       ·exact .tmp rfl
       ·exact .tmp rfl
      ·exact ⟨rfl, rfl⟩
      ·refine rt_close (.slice (some ⟨g0, 0, none⟩) (8 * x.n) cap) ?_; (exact en)
end
end Go.Proofs.YthkajgkagnenbaaGreatDoor.RefT
