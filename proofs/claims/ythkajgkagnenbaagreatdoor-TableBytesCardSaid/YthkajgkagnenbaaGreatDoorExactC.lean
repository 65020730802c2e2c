/- One step of the laws over scripts, by the program's table and the document's: cells, tells. -/
import Derived.Test.YthkajgkagnenbaaGreatDoorExactW
set_option linter.unusedVariables false
set_option linter.unusedSimpArgs false
set_option linter.unusedSectionVars false
set_option maxRecDepth 100000
namespace Go.Proofs.YthkajgkagnenbaaGreatDoor.Exact
open Go.RowKit Go.Proofs Go.Proofs.YthkajgkagnenbaaGreatDoor.Eng Go.Proofs.YthkajgkagnenbaaGreatDoor.Ty Go.Proofs.YthkajgkagnenbaaGreatDoor.Bits Go.Proofs.YthkajgkagnenbaaGreatDoor.Mem Go.Proofs.YthkajgkagnenbaaGreatDoor.Search Go.Proofs.YthkajgkagnenbaaGreatDoor.Arena Go.Proofs.YthkajgkagnenbaaGreatDoor.CtrlB Go.Proofs.YthkajgkagnenbaaGreatDoor.Ctrl Go.Proofs.YthkajgkagnenbaaGreatDoor.Layout Go.Proofs.YthkajgkagnenbaaGreatDoor.GroupB Go.Proofs.YthkajgkagnenbaaGreatDoor.Group Go.Proofs.YthkajgkagnenbaaGreatDoor.Probe Go.Proofs.YthkajgkagnenbaaGreatDoor.TableB Go.Proofs.YthkajgkagnenbaaGreatDoor.TableI Go.Proofs.YthkajgkagnenbaaGreatDoor.Table Go.Proofs.YthkajgkagnenbaaGreatDoor.Bench Go.Proofs.YthkajgkagnenbaaGreatDoor.Cells Go.Proofs.YthkajgkagnenbaaGreatDoor.Refill Go.Proofs.YthkajgkagnenbaaGreatDoor.RefA Go.Proofs.YthkajgkagnenbaaGreatDoor.RefT Go.Proofs.YthkajgkagnenbaaGreatDoor.Ref03

/-- The places of the full cells. -/
def wantL (cs : Nat → Cell) (N : Nat) : List Int := ((List.range N).filter fun i => isFull (cs i)).map fun i => ((i : Nat) : Int)
theorem wantL_get {cs : Nat → Cell} {N i : Nat} (hi : i < N) (h : isFull (cs i) = true) : (wantL cs N)[cnt isFull cs i]? = some ((i : Nat) : Int) := by
 unfold wantL cnt
 rw [List.getElem?_map, filt_get (fun i => isFull (cs i)) hi h]; rfl
theorem wantL_full {cs : Nat → Cell} {i : Nat} (h : isFull (cs i) = true) : wantL cs (i + 1) = wantL cs i ++ [((i : Nat) : Int)] := by
 unfold wantL
 rw [List.range_succ, List.filter_append, List.map_append]
 simp [h]
theorem wantL_not {cs : Nat → Cell} {i : Nat} (h : isFull (cs i) = false) : wantL cs (i + 1) = wantL cs i := by
 unfold wantL
 rw [List.range_succ, List.filter_append, List.map_append]
 simp [h]
theorem rt_close2 {pr : Nat} {l : Lay} {x : PR} {A : HP} (v : Value) {L R : List HP} (he : Ent L (pt x.p (.cells #[.pointer (some ⟨pr, 0, none⟩), .int .i64 l.key, .int .i64 l.elem, .int .i64 l.ka, .int .i64 l.ea, .int .i64 l.cap, .int .i64 l.eo, .int .i64 l.bo, .int .i64 l.slot, .int .i64 l.group, .int .i64 (x.off : Nat), .int .i64 (x.go : Nat), .int .i64 x.T.used, .int .i64 x.T.left, .int .i64 x.T.depth, .int .i64 x.T.pins, .int .i64 x.T.next, .bool (decide (x.T.kind = 4)), .bool x.dead, v] 45 (0, 0)) :: ownS 142 5 v (8 * x.n) (rowOf cellV (firstL x.T.cells (8 * x.n))) :: A :: R)) : Ent L (A :: rtH pr l x :: R) := fun w h => (rt_close v he w h).perm (List.Perm.swap _ _ _)
theorem ofDec {p : Prop} {i : Decidable p} (h : decide p = true) : p := of_decide_eq_true h
section
variable (pa pr : Nat) (s : ArS) (hs : s.ok) (l : Lay) (hl : l.err = 0) (x : PR) (hO : One s l x) (hov : x.over = false)
include hs hl hO hov
theorem cells_live (most : Int) (hd : x.dead = false) : FnOk Tryz.prog 95 #[.agg #[.pointer (some ⟨pa, 0, none⟩), .int .i64 l.key, .int .i64 l.elem, .int .i64 l.ka, .int .i64 l.ea, .int .i64 l.cap, .int .i64 l.eo, .int .i64 l.bo, .int .i64 l.slot, .int .i64 l.group, .int .i64 (x.off : Nat)], .pointer (some ⟨x.p, 0, none⟩), .int .i64 most] [arenaH pa s, rtH pr l x] (fun v L => v = .bool true ∧ L = [arenaH pa s, rtH pr l x]) := by
 have hP := (hO.live hd).1
 have hn8 := hP.n0
 have hcle := cnt_le isFull x.T.cells (8 * x.n)
 refine fn_intro en95 Tryz.func95 rfl rfl rfl fun Fr w0 => t_nm ?_
 refine rt_open (.there .here) fun vc => ?_
 refine t_shape (.there .here) fun _ hvc => ?_
 obtain ⟨a0, cap, rfl, ha, _, _⟩ := hvc
 obtain ⟨g0, rfl⟩ := ha (by omega)
 rw [hd]
 refine sr<|o_boxA O O fun b3 => o_box1 O O O fun b4 => o_box1 O O O fun b5 => o_alloc1 O yZ4 O fun b6 => lz<|o_alloc1 O yZ22 O fun b7 => lc<|t_seq<|sr<|asg O O<|lc<|t_block ?_
 refine t_ent (L' := ownS 3 1 (.slice none 0 0) (cnt isFull x.T.cells 0) (ints (wantL x.T.cells 0)) :: pt b7 (.cells #[.slice none 0 0] 22 (0, 0)) :: pt b6 (.cells #[.bool false] 4 (0, 0)) :: pt b5 (.cells #[.int .i64 most] 3 (0, 0)) :: pt b4 (.cells #[.pointer (some ⟨x.p, 0, none⟩)] 40 (0, 0)) :: pt b3 (.cells #[.pointer (some ⟨pa, 0, none⟩), .int .i64 l.key, .int .i64 l.elem, .int .i64 l.ka, .int .i64 l.ea, .int .i64 l.cap, .int .i64 l.eo, .int .i64 l.bo, .int .i64 l.slot, .int .i64 l.group, .int .i64 (x.off : Nat)] 39 (0, 0)) :: pt x.p (.cells #[.pointer (some ⟨pr, 0, none⟩), .int .i64 l.key, .int .i64 l.elem, .int .i64 l.ka, .int .i64 l.ea, .int .i64 l.cap, .int .i64 l.eo, .int .i64 l.bo, .int .i64 l.slot, .int .i64 l.group, .int .i64 (x.off : Nat), .int .i64 (x.go : Nat), .int .i64 x.T.used, .int .i64 x.T.left, .int .i64 x.T.depth, .int .i64 x.T.pins, .int .i64 x.T.next, .bool (decide (x.T.kind = 4)), .bool false, (.slice (some ⟨g0, 0, none⟩) (8 * x.n) cap)] 45 (0, 0)) :: ownS 142 5 (.slice (some ⟨g0, 0, none⟩) (8 * x.n) cap) (8 * x.n) (rowOf cellV (firstL x.T.cells (8 * x.n))) :: arenaH pa s :: Fr) (fun w h => own_nil h) ?_
 refine t_loop (fun y : Nat × Value => y.1 ≤ 8 * x.n) (fun y => [(3, .pointer (some ⟨b3, 0, none⟩)), (4, .pointer (some ⟨b4, 0, none⟩)), (5, .pointer (some ⟨b5, 0, none⟩)), (6, .pointer (some ⟨b6, 0, none⟩)), (7, .pointer (some ⟨b7, 0, none⟩)), (8, .int .i64 (y.1 : Nat))]) (fun y => ownS 3 1 y.2 (cnt isFull x.T.cells y.1) (ints (wantL x.T.cells y.1)) :: pt b7 (.cells #[y.2] 22 (0, 0)) :: pt b6 (.cells #[.bool false] 4 (0, 0)) :: pt b5 (.cells #[.int .i64 most] 3 (0, 0)) :: pt b4 (.cells #[.pointer (some ⟨x.p, 0, none⟩)] 40 (0, 0)) :: pt b3 (.cells #[.pointer (some ⟨pa, 0, none⟩), .int .i64 l.key, .int .i64 l.elem, .int .i64 l.ka, .int .i64 l.ea, .int .i64 l.cap, .int .i64 l.eo, .int .i64 l.bo, .int .i64 l.slot, .int .i64 l.group, .int .i64 (x.off : Nat)] 39 (0, 0)) :: pt x.p (.cells #[.pointer (some ⟨pr, 0, none⟩), .int .i64 l.key, .int .i64 l.elem, .int .i64 l.ka, .int .i64 l.ea, .int .i64 l.cap, .int .i64 l.eo, .int .i64 l.bo, .int .i64 l.slot, .int .i64 l.group, .int .i64 (x.off : Nat), .int .i64 (x.go : Nat), .int .i64 x.T.used, .int .i64 x.T.left, .int .i64 x.T.depth, .int .i64 x.T.pins, .int .i64 x.T.next, .bool (decide (x.T.kind = 4)), .bool false, (.slice (some ⟨g0, 0, none⟩) (8 * x.n) cap)] 45 (0, 0)) :: ownS 142 5 (.slice (some ⟨g0, 0, none⟩) (8 * x.n) cap) (8 * x.n) (rowOf cellV (firstL x.T.cells (8 * x.n))) :: arenaH pa s :: Fr) (fun y => 8 * x.n - y.1) (0, .slice none 0 0) (Nat.zero_le _) ⟨rfl, rfl, rfl, rfl, rfl, rfl, trivial⟩ (by (exact en)) ?_
 rintro ⟨i, vw⟩ hi
 dsimp only at hi ⊢
 have hcli := cnt_le isFull x.T.cells i
 refine t_seq<|sr<|mv O O<|l_q O (qld O yA40) ?_
 refine l_q O (q_nilCheck O)<|l_q O (qfa 19 rfl yU45 O O yS43)<|l_q O (qld O yA43) ?_
 refine l_q O (ql O yU43)<|l_q O (qi O O (b_lss ·))<|lc<|t_if O (fun h1 => ?_) fun h1 => ?_
 ·skip
  have hkind : (rowOf cellV (firstL x.T.cells (8 * x.n)))[0 + ((i : Nat) : Int).toNat * 5 + 0]? = some (.int .i64 (x.T.cells i).kind) := by
   rw [show 0 + ((i : Nat) : Int).toNat * 5 + 0 = i * 5 + 0 by omega, cells_row x.T.cells (by omega) 0 (by decide)]
   rfl
  have hsu := cnt_succ isFull x.T.cells i
  refine t_skip<|n_code<|t_seq<|t_block<|sr<|l_q O (qld O yA40) ?_
  refine l_q O (q_nilCheck O)<|l_q O (qfa 18 rfl yU45 O O yS4)<|l_q O (qld O yA4) ?_
  refine l_q O (q_un O (u_not ·))<|mv O O<|l_pt (t := 27) rfl (fun q0 => ?_) fun q0 => ?_
  ·refine l_on O O<|l_q O (qld O yA40) ?_
   refine l_on O O<|l_q O (q_nilCheck O)<|l_on O O<|l_q O (qfa 19 rfl yU45 O O yS43)<|l_on O O<|l_q O (qld O yA43) ?_
   refine l_on O O<|mv O O<|l_on O O<|l_q O (q_indexAddr O O yU43 yS142 (by omega)) ?_
   refine l_on O O<|l_q O (qfa 0 rfl yU142 O O yS3)<|l_on O O ?_
   apply l_q O
   ·apply q_loadOwn O yA3
    ·exact tk
    ·exact hkind
   refine l_on O O<|l_q O (qi O O (b_eql ·))<|l_q O (q_pk O O)<|lc<|t_if O (fun q => ?_) fun q => ?_
   ·skip
    have hf : isFull (x.T.cells i) = true := kind_full.1 q
    rw [if_pos hf] at hsu
    have hro : ints (wantL x.T.cells i) ++ #[Value.int .i64 ((i : Nat) : Int)].toList = ints (wantL x.T.cells (i + 1)) := by rw [wantL_full hf]; simp [ints]
    refine t_region<|l_q O (qld O yA22) ?_
    refine mv O O ?_
    refine o_buildSlice1 [_] rfl rfl yU22 yS3 yZ3 O O O O (fun b40 => ?_)
    apply o_append (sz := 1) rfl rfl rfl Tryz.underlying22 yI3 O O
    ·exact tk
    ·exact tk
    ·rfl
    ·rfl
    ·simp only [maxLen]; omega
    ·omega
    intro v41
    refine l_shape (v := v41) tk fun _ hs41 => ?_
    obtain ⟨a41, cap41, rfl, _, _, _⟩ := hs41
    refine st O O O yS22 O ?_
    refine l_nil<|n_blk<|n_code<|t_region<|mv O O<|l_q O (qadd O O) ?_
    refine asg O O<|l_nil ?_
    rw [hro, ← hsu]
    apply n_again ((i + 1, .slice a41 (cnt isFull x.T.cells (i + 1)) cap41))
    ·exact (show i + 1 ≤ 8 * x.n by omega)
    ·dsimp only; omega
    ·exact ⟨rfl, rfl, rfl, rfl, rfl, rfl, trivial⟩
    ·exact en
   ·skip
    have hf : isFull (x.T.cells i) = false := by cases hc : isFull (x.T.cells i) with | false => rfl | true => exact absurd (kind_full.2 hc) q
    rw [hf] at hsu
    simp only [Bool.false_eq_true, if_false, Nat.add_zero] at hsu
    rw [← wantL_not hf, ← hsu]
    refine t_skip<|n_blk<|n_code<|t_region<|mv O O<|l_q O (qadd O O) ?_
    refine asg O O<|l_nil ?_
    apply n_again ((i + 1, vw))
    ·exact (show i + 1 ≤ 8 * x.n by omega)
    ·dsimp only; omega
    ·exact ⟨rfl, rfl, rfl, rfl, rfl, rfl, trivial⟩
    ·exact en
  ·cases q0
 ·skip
  obtain rfl : i = 8 * x.n := by omega
  refine t_shape .here fun _ hvw => ?_
  obtain ⟨aw, capw, rfl, haw, _, _⟩ := hvw
  refine xt O<|nz<|o_alloc1 O yZ3 O fun b9 => st O O O yS3 O ?_
  refine lz<|l_q O (qlda O yA39 yS39) ?_
  refine lcf O O O (TCells_ok pa x.off l) ?_
  rintro v L' ⟨bc, rfl, rfl⟩
  refine l_nm ?_
  refine asg O O<|lc<|t_seq<|sr<|mv O O<|l_q O (q_bin O O (g_func ·) (b_eqlF0 · yU233))<|lc<|t_cond_f O<|t_skip<|n_code<|t_seq<|sr<|mv O O<|lc<|t_block ?_
  apply t_rangeH (p := (fun k (_ : Unit) => True)) (J := (fun k _ => [pt b9 (.cells #[.int .i64 (k : Nat)] 3 (0, 0)), ownS 3 1 (.slice aw (cnt isFull x.T.cells (8 * x.n)) capw) (cnt isFull x.T.cells (8 * x.n)) (ints (wantL x.T.cells (8 * x.n))), pt b7 (.cells #[.slice aw (cnt isFull x.T.cells (8 * x.n)) capw] 22 (0, 0)), pt b6 (.cells #[.bool false] 4 (0, 0)), pt b5 (.cells #[.int .i64 most] 3 (0, 0)), pt b4 (.cells #[.pointer (some ⟨x.p, 0, none⟩)] 40 (0, 0)), pt x.p (.cells #[.pointer (some ⟨pr, 0, none⟩), .int .i64 l.key, .int .i64 l.elem, .int .i64 l.ka, .int .i64 l.ea, .int .i64 l.cap, .int .i64 l.eo, .int .i64 l.bo, .int .i64 l.slot, .int .i64 l.group, .int .i64 (x.off : Nat), .int .i64 (x.go : Nat), .int .i64 x.T.used, .int .i64 x.T.left, .int .i64 x.T.depth, .int .i64 x.T.pins, .int .i64 x.T.next, .bool (decide (x.T.kind = 4)), .bool false, (.slice (some ⟨g0, 0, none⟩) (8 * x.n) cap)] 45 (0, 0)), ownS 142 5 (.slice (some ⟨g0, 0, none⟩) (8 * x.n) cap) (8 * x.n) (rowOf cellV (firstL x.T.cells (8 * x.n))), arenaH pa s])) (q := (fun k (y : Code × Unit) => y.1 = .ret ∧ True)) (Jx := (fun k _ => [pt b6 (.cells #[.bool true] 4 (0, 0)), pt x.p (.cells #[.pointer (some ⟨pr, 0, none⟩), .int .i64 l.key, .int .i64 l.elem, .int .i64 l.ka, .int .i64 l.ea, .int .i64 l.cap, .int .i64 l.eo, .int .i64 l.bo, .int .i64 l.slot, .int .i64 l.group, .int .i64 (x.off : Nat), .int .i64 (x.go : Nat), .int .i64 x.T.used, .int .i64 x.T.left, .int .i64 x.T.depth, .int .i64 x.T.pins, .int .i64 x.T.next, .bool (decide (x.T.kind = 4)), .bool false, (.slice (some ⟨g0, 0, none⟩) (8 * x.n) cap)] 45 (0, 0)), ownS 142 5 (.slice (some ⟨g0, 0, none⟩) (8 * x.n) cap) (8 * x.n) (rowOf cellV (firstL x.T.cells (8 * x.n))), arenaH pa s])) (x0 := ()) (hc := TCells_it pa x.off x.go x.n x.e bc s l x.T hP) (hr := rfl) (hg := rfl)
  ·exact pk
  ·trivial
  ·(try dsimp only); (try simp only [Int.natCast_zero, Nat.sub_zero]); exact pk
  ·(try dsimp only); (try simp only [Int.natCast_zero, Nat.sub_zero]); exact pk
  ·rfl
  ·exact cellsV_two
  ·rintro l' rc Fr' w1 k xx _ hrd hpn hx _
   have hkl := (List.getElem?_eq_some_iff.1 hx).1
   rw [cellsV_len] at hkl
   obtain ⟨i1, hi8, hfi, hck, rfl⟩ := cellsV_at hx
   obtain ⟨gw, rfl⟩ := haw (by omega)
   have hwk : (ints (wantL x.T.cells (8 * x.n)))[0 + ((k : Nat) : Int).toNat]? = some (.int .i64 ((i1 : Nat) : Int)) := by
    rw [Nat.zero_add, Int.toNat_natCast]; unfold ints; rw [List.getElem?_map, ← hck, wantL_get hi8 hfi]; rfl
   refine t_nm ?_
   refine sr<|asg O O<|lr<|o_allocA O yZ142 fun b12 => sta O O O yS142 O O ?_
   refine l_nil ?_
   apply n_begin
   ·exact tk
   ·assumption
   refine t_block<|t_seq<|t_seq<|t_draw mixed ?_
   apply dq 0 rfl
   ·exact yq (qld O yA3)
   apply dq 1 rfl
   ·exact yq (qld O yA22)
   apply dq 2 rfl
   ·exact yq (ql O yU22)
   apply dq 3 rfl
   ·exact yq (qi O O (b_geq ·))
   apply dq 4 rfl
   ·exact yq (q_move O)
   refine d_pt (t := 53) rfl (fun p1 => ?_) fun p1 => ?_
   ·omega
   ·apply dq 5 rfl
    ·exact yq_on O O (q_move O)
    apply dq 6 rfl
    ·exact yq_on O O (qld O yA22)
    apply dq 7 rfl
    ·exact yq_on O O (qld O yA3)
    apply dq 8 rfl
    ·exact yq_on O O (q_indexAddr1 O O yU22 yS3 (by omega))
    apply dq 9 rfl
    ·apply yq_on O O
     apply q_loadOwn O yA3
     ·exact tk
     ·exact hwk
    apply dq 10 rfl
    ·exact yq_on O O (qi O O (b_neq ·))
    apply dq 11 rfl
    ·exact yq (q_pk O O)
    apply dq 12 rfl
    ·exact yq (q_move O)
    refine d_pt (t := 61) rfl (fun p2 => ?_) fun p2 => ?_
    ·exact absurd rfl p2
    ·apply dq 13 rfl
     ·exact yq_on O O (qlda O yA142 yS142)
     apply dq 14 rfl
     ·exact yq_on O O (qld O yA40)
     apply dq 15 rfl
     ·exact yq_on O O (q_nilCheck O)
     apply dq 16 rfl
     ·exact yq_on O O (qfa 19 rfl yU45 O O yS43)
     apply dq 17 rfl
     ·exact yq_on O O (qld O yA43)
     apply dq 18 rfl
     ·exact yq_on O O (q_move O)
     apply dq 19 rfl
     ·exact yq_on O O (q_indexAddr O O yU43 yS142 (by omega))
     apply dq 20 rfl
     ·apply yq_on O O
      apply q_loadRA (A := ownS 142 5 (.slice (some ⟨g0, 0, none⟩) (8 * x.n) cap) (8 * x.n) (rowOf cellV (firstL x.T.cells (8 * x.n)))) (us := [.int .i64 (x.T.cells i1).kind, .int .i64 (x.T.cells i1).tagI, .string (x.T.cells i1).keyS, .string (x.T.cells i1).elemS, .int .i64 (x.T.cells i1).birthI]) rfl yA142 yS142 O
      ·exact tk
      ·exact cell_at x hn8.2 hi8 _ (by omega)
     apply dq 21 rfl
     ·exact yq_on O O (q_bin O O (g_flat · yG142) fun w => b_neqFlat w yU142 yH142 (by kernel_rfl) (by kernel_rfl))
     apply dq 22 rfl
     ·exact yq (q_pk O O)
     refine d_end (by kernel_rfl) ?_
     refine n_code<|t_if O (fun p3 => ?_) fun p3 => ?_
     ·exact absurd rfl (ofDec p3)
     ·refine t_skip<|nz<|l_q O (qld O yA3) ?_
      refine l_q O (qadd O O) ?_
      refine st O O O yS3 O ?_
      refine lz<|l_q O (qld O yA3) ?_
      refine l_q O (qld O yA3) ?_
      refine l_q O (qi O O (b_eql ·))<|lc<|t_if O (fun p4 => ?_) fun p4 => ?_
      ·refine sr<|st O O O yS4 O ?_
       refine lc<|rt ?_
       apply r_left (.inl ⟨rfl, rfl⟩) (()) (⟨rfl, trivial⟩)
       exact en
      ·refine t_skip<|n_blk ?_
       apply r_next (by assumption) (by assumption) (()) (trivial)
       exact en
  ·rintro b1' _ _
   refine n_nm ?_
   refine n_blk<|nz<|l_q O (qld O yA3) ?_
   refine l_q O (qld O yA22) ?_
   refine l_q O (ql O yU22)<|l_q O (qi O O (b_eql ·))<|st O O O yS4 O ?_
   refine lc<|rt ?_
   apply f_retm (.inl rfl) [b1'] ([arenaH pa s, rtH pr l x])
   ·repeat (first | with_reducible exact TakeM.nil | apply TakeM.cons | with_reducible exact Take.here | apply Take.there)
   ·apply res1 O
    ·apply Rv.cellL rfl
     ·exact tk
     ·exact ga
     ·exact yA4
   ·exact ⟨by rw [decide_eq_true (by rw [cellsV_len])], rfl⟩
   ·refine rt_close2 (.slice (some ⟨g0, 0, none⟩) (8 * x.n) cap) ?_; rw [hd]; (exact en)
  ·rintro b1' k ⟨jc, y⟩ hk ⟨rfl, _⟩
   refine t_nm ?_
   refine rt ?_
   apply f_retm (.inl rfl) [b1'] ([arenaH pa s, rtH pr l x])
   ·repeat (first | with_reducible exact TakeM.nil | apply TakeM.cons | with_reducible exact Take.here | apply Take.there)
   ·apply res1 O
    ·apply Rv.cellL rfl
     ·exact tk
     ·exact ga
     ·exact yA4
   ·exact ⟨rfl, rfl⟩
   ·refine rt_close2 (.slice (some ⟨g0, 0, none⟩) (8 * x.n) cap) ?_; rw [hd]; (exact en)
theorem tcells_dead (bc : Nat) (hd : x.dead = true) : IterH Tryz.prog 200 #[.pointer (some ⟨bc, 0, none⟩)] [pt bc (.cells #[.pointer (some ⟨pa, 0, none⟩), .int .i64 l.key, .int .i64 l.elem, .int .i64 l.ka, .int .i64 l.ea, .int .i64 l.cap, .int .i64 l.eo, .int .i64 l.bo, .int .i64 l.slot, .int .i64 l.group, .int .i64 (x.off : Nat)] 39 (0, 0))] [arenaH pa s] [] [pt bc (.cells #[.pointer (some ⟨pa, 0, none⟩), .int .i64 l.key, .int .i64 l.elem, .int .i64 l.ka, .int .i64 l.ea, .int .i64 l.cap, .int .i64 l.eo, .int .i64 l.bo, .int .i64 l.slot, .int .i64 l.group, .int .i64 (x.off : Nat)] 39 (0, 0))] [pt bc (.cells #[.pointer (some ⟨pa, 0, none⟩), .int .i64 l.key, .int .i64 l.elem, .int .i64 l.ka, .int .i64 l.ea, .int .i64 l.cap, .int .i64 l.eo, .int .i64 l.bo, .int .i64 l.slot, .int .i64 l.group, .int .i64 (x.off : Nat)] 39 (0, 0))] := by
 obtain ⟨hng, hne⟩ := hO.not hs hd hov
 refine ⟨en200, fun l' B S' C hC hY => ?_⟩
 show FnOk _ _ #[.func (.yield l') #[] #[], .pointer (some ⟨bc, 0, none⟩)] _ _
 refine fn_intro en200 Tryz.func200 rfl rfl rfl fun Fr w0 => t_nm ?_
 refine sr<|l_q O (qlda O yA39 yS39) ?_
 refine lc1 O O O (Stat_dead pa x.off s l hng hne hO.place) ?_
 refine mv O O<|l_q O (q_extractL O ga) ?_
 refine l_q O (q_extractL O ga) ?_
 refine o_allocA O yZ147 fun b3 => sta O O O yS147 O O ?_
 refine asg O O<|lc<|t_seq<|sr<|mv O O<|l_q O (qi O O (b_neq ·))<|lc<|t_if O (fun z0 => ?_) fun z0 => ?_
 ·skip
  refine t_ent (L' := B (List.length ([] : List (List Value))) :: pt bc (.cells #[.pointer (some ⟨pa, 0, none⟩), .int .i64 l.key, .int .i64 l.elem, .int .i64 l.ka, .int .i64 l.ea, .int .i64 l.cap, .int .i64 l.eo, .int .i64 l.bo, .int .i64 l.slot, .int .i64 l.group, .int .i64 (x.off : Nat)] 39 (0, 0)) :: Fr) (fun w hw => ?_) ?_
  ·have h1 : Sat (stars (pt bc (.cells #[.pointer (some ⟨pa, 0, none⟩), .int .i64 l.key, .int .i64 l.elem, .int .i64 l.ka, .int .i64 l.ea, .int .i64 l.cap, .int .i64 l.eo, .int .i64 l.bo, .int .i64 l.slot, .int .i64 l.group, .int .i64 (x.off : Nat)] 39 (0, 0)) :: arenaH pa s :: (C ++ Fr))) w := (show Ent _ _ by (exact en)) w hw
   exact hC _ _ (h1.perm (List.perm_append_comm_assoc [pt bc (.cells #[.pointer (some ⟨pa, 0, none⟩), .int .i64 l.key, .int .i64 l.elem, .int .i64 l.ka, .int .i64 l.ea, .int .i64 l.cap, .int .i64 l.eo, .int .i64 l.bo, .int .i64 l.slot, .int .i64 l.group, .int .i64 (x.off : Nat)] 39 (0, 0))] (arenaH pa s :: C) Fr))
  refine rt ?_
  apply f_ret (.inl rfl) (_)
  ·exact res0 O
  ·exact .inl rfl
  ·exact en
 ·exact absurd z0 (by decide)
theorem cells_dead (most : Int) (hd : x.dead = true) : FnOk Tryz.prog 95 #[.agg #[.pointer (some ⟨pa, 0, none⟩), .int .i64 l.key, .int .i64 l.elem, .int .i64 l.ka, .int .i64 l.ea, .int .i64 l.cap, .int .i64 l.eo, .int .i64 l.bo, .int .i64 l.slot, .int .i64 l.group, .int .i64 (x.off : Nat)], .pointer (some ⟨x.p, 0, none⟩), .int .i64 most] [arenaH pa s, rtH pr l x] (fun v L => v = .bool true ∧ L = [arenaH pa s, rtH pr l x]) := by
 have hnb : x.n ≤ 8192 := by
  have h1 := hO.hn
  have h3 : 2 ^ x.e ≤ 2 ^ 13 := Nat.pow_le_pow_right (by decide) hO.he
  omega
 refine fn_intro en95 Tryz.func95 rfl rfl rfl fun Fr w0 => t_nm ?_
 refine rt_open (.there .here) fun vc => ?_
 refine t_shape (.there .here) fun _ hvc => ?_
 obtain ⟨a0, cap, rfl, ha, _, _⟩ := hvc
 rw [hd]
 refine sr<|o_boxA O O fun b3 => o_box1 O O O fun b4 => o_box1 O O O fun b5 => o_alloc1 O yZ4 O fun b6 => lz<|o_alloc1 O yZ22 O fun b7 => lc<|t_seq<|sr<|asg O O<|lc<|t_block ?_
 refine t_loop (fun i : Nat => i ≤ 8 * x.n) (fun i => [(3, .pointer (some ⟨b3, 0, none⟩)), (4, .pointer (some ⟨b4, 0, none⟩)), (5, .pointer (some ⟨b5, 0, none⟩)), (6, .pointer (some ⟨b6, 0, none⟩)), (7, .pointer (some ⟨b7, 0, none⟩)), (8, .int .i64 (i : Nat))]) (fun _ => pt b7 (.cells #[.slice none 0 0] 22 (0, 0)) :: pt b6 (.cells #[.bool false] 4 (0, 0)) :: pt b5 (.cells #[.int .i64 most] 3 (0, 0)) :: pt b4 (.cells #[.pointer (some ⟨x.p, 0, none⟩)] 40 (0, 0)) :: pt b3 (.cells #[.pointer (some ⟨pa, 0, none⟩), .int .i64 l.key, .int .i64 l.elem, .int .i64 l.ka, .int .i64 l.ea, .int .i64 l.cap, .int .i64 l.eo, .int .i64 l.bo, .int .i64 l.slot, .int .i64 l.group, .int .i64 (x.off : Nat)] 39 (0, 0)) :: pt x.p (.cells #[.pointer (some ⟨pr, 0, none⟩), .int .i64 l.key, .int .i64 l.elem, .int .i64 l.ka, .int .i64 l.ea, .int .i64 l.cap, .int .i64 l.eo, .int .i64 l.bo, .int .i64 l.slot, .int .i64 l.group, .int .i64 (x.off : Nat), .int .i64 (x.go : Nat), .int .i64 x.T.used, .int .i64 x.T.left, .int .i64 x.T.depth, .int .i64 x.T.pins, .int .i64 x.T.next, .bool (decide (x.T.kind = 4)), .bool true, (.slice a0 (8 * x.n) cap)] 45 (0, 0)) :: ownS 142 5 (.slice a0 (8 * x.n) cap) (8 * x.n) (rowOf cellV (firstL x.T.cells (8 * x.n))) :: arenaH pa s :: Fr) (fun i => 8 * x.n - i) 0 (Nat.zero_le _) ⟨rfl, rfl, rfl, rfl, rfl, rfl, trivial⟩ (by (exact en)) ?_
 intro i hi
 refine t_seq<|sr<|mv O O<|l_q O (qld O yA40) ?_
 refine l_q O (q_nilCheck O)<|l_q O (qfa 19 rfl yU45 O O yS43)<|l_q O (qld O yA43) ?_
 refine l_q O (ql O yU43)<|l_q O (qi O O (b_lss ·))<|lc<|t_if O (fun h1 => ?_) fun h1 => ?_
 ·refine t_skip<|n_code<|t_seq<|t_block<|sr<|l_q O (qld O yA40) ?_
  refine l_q O (q_nilCheck O)<|l_q O (qfa 18 rfl yU45 O O yS4)<|l_q O (qld O yA4) ?_
  refine l_q O (q_un O (u_not ·))<|mv O O<|l_pt (t := 27) rfl (fun q0 => ?_) fun q0 => ?_
  ·cases q0
  ·refine l_off O O O O<|l_off O O O O<|l_off O O O O<|l_off O O O O<|l_off O O O O<|l_off O O O O<|l_off O O O O<|l_off O O O O<|l_off O O O O<|l_q O (q_pk O O)<|lc<|t_cond_f O<|t_skip<|n_blk<|n_code<|t_region<|mv O O<|l_q O (qadd O O) ?_
   refine asg O O<|l_nil ?_
   apply n_again ((i + 1))
   ·exact by omega
   ·omega
   ·exact ⟨rfl, rfl, rfl, rfl, rfl, rfl, trivial⟩
   ·exact en
 ·refine xt O<|nz<|o_alloc1 O yZ3 O fun b9 => st O O O yS3 O ?_
  refine lz<|l_q O (qlda O yA39 yS39) ?_
  refine lcf O O O (TCells_ok pa x.off l) ?_
  rintro v L' ⟨bc, rfl, rfl⟩
  refine l_nm ?_
  refine asg O O<|lc<|t_seq<|sr<|mv O O<|l_q O (q_bin O O (g_func ·) (b_eqlF0 · yU233))<|lc<|t_cond_f O<|t_skip<|n_code<|t_seq<|sr<|mv O O<|lc<|t_block ?_
  apply t_rangeH (p := (fun k (_ : Unit) => True)) (J := (fun k _ => [pt b9 (.cells #[.int .i64 0] 3 (0, 0)), pt b7 (.cells #[.slice none 0 0] 22 (0, 0)), pt b6 (.cells #[.bool false] 4 (0, 0)), pt x.p (.cells #[.pointer (some ⟨pr, 0, none⟩), .int .i64 l.key, .int .i64 l.elem, .int .i64 l.ka, .int .i64 l.ea, .int .i64 l.cap, .int .i64 l.eo, .int .i64 l.bo, .int .i64 l.slot, .int .i64 l.group, .int .i64 (x.off : Nat), .int .i64 (x.go : Nat), .int .i64 x.T.used, .int .i64 x.T.left, .int .i64 x.T.depth, .int .i64 x.T.pins, .int .i64 x.T.next, .bool (decide (x.T.kind = 4)), .bool true, (.slice a0 (8 * x.n) cap)] 45 (0, 0)), ownS 142 5 (.slice a0 (8 * x.n) cap) (8 * x.n) (rowOf cellV (firstL x.T.cells (8 * x.n))), arenaH pa s])) (q := (fun k (y : Code × Unit) => False)) (Jx := (fun _ _ => [])) (x0 := ()) (hc := tcells_dead pa s hs l hl x hO hov bc hd) (hr := rfl) (hg := rfl)
  ·exact pk
  ·trivial
  ·(try dsimp only); (try simp only [Int.natCast_zero, Nat.sub_zero]); exact pk
  ·(try dsimp only); (try simp only [Int.natCast_zero, Nat.sub_zero]); exact pk
  ·rfl
  ·exact fun x hx => (by cases hx)
  ·rintro l' rc Fr' w1 k xx _ hrd hpn hx _
   simp at hx
  ·rintro b1' _ _
   refine n_nm ?_
   refine n_blk<|nz<|l_q O (qld O yA3) ?_
   refine l_q O (qld O yA22) ?_
   refine l_q O (ql O yU22)<|l_q O (qi O O (b_eql ·))<|st O O O yS4 O ?_
   refine lc<|rt ?_
   apply f_retm (.inl rfl) [b1'] ([arenaH pa s, rtH pr l x])
   ·repeat (first | with_reducible exact TakeM.nil | apply TakeM.cons | with_reducible exact Take.here | apply Take.there)
   ·apply res1 O
    ·apply Rv.cellL rfl
     ·exact tk
     ·exact ga
     ·exact yA4
   ·exact ⟨rfl, rfl⟩
   ·refine rt_close2 (.slice a0 (8 * x.n) cap) ?_; rw [hd]; (exact en)
  ·rintro b1' k ⟨jc, y⟩ hk hq
   exact hq.elim
theorem cells8_ok (most : Int) : FnOk Tryz.prog 95 #[.agg #[.pointer (some ⟨pa, 0, none⟩), .int .i64 l.key, .int .i64 l.elem, .int .i64 l.ka, .int .i64 l.ea, .int .i64 l.cap, .int .i64 l.eo, .int .i64 l.bo, .int .i64 l.slot, .int .i64 l.group, .int .i64 (x.off : Nat)], .pointer (some ⟨x.p, 0, none⟩), .int .i64 most] [arenaH pa s, rtH pr l x] (fun v L => v = .bool true ∧ L = [arenaH pa s, rtH pr l x]) := by
 cases hd : x.dead with
 | true => exact cells_dead pa pr s hs l hl x hO hov most hd
 | false => exact cells_live pa pr s hs l hl x hO hov most hd
end
end Go.Proofs.YthkajgkagnenbaaGreatDoor.Exact
