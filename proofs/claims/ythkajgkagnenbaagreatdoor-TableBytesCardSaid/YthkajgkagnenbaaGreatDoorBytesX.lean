/- The document's bytes of a table, and the law's look at both. -/
import Derived.Test.YthkajgkagnenbaaGreatDoorBytesW
import Derived.Test.YthkajgkagnenbaaGreatDoorRefT
import Derived.Test.YthkajgkagnenbaaGreatDoorExactS
set_option linter.unusedVariables false
set_option linter.unusedSimpArgs false
set_option linter.unusedSectionVars false
set_option maxRecDepth 100000
namespace Go.Proofs.YthkajgkagnenbaaGreatDoor.BytesP
open Go.RowKit Go.Proofs Go.Proofs.YthkajgkagnenbaaGreatDoor.Eng Go.Proofs.YthkajgkagnenbaaGreatDoor.Ty Go.Proofs.YthkajgkagnenbaaGreatDoor.Bits Go.Proofs.YthkajgkagnenbaaGreatDoor.Mem Go.Proofs.YthkajgkagnenbaaGreatDoor.Search Go.Proofs.YthkajgkagnenbaaGreatDoor.Arena Go.Proofs.YthkajgkagnenbaaGreatDoor.CtrlB Go.Proofs.YthkajgkagnenbaaGreatDoor.Ctrl Go.Proofs.YthkajgkagnenbaaGreatDoor.Layout Go.Proofs.YthkajgkagnenbaaGreatDoor.GroupB Go.Proofs.YthkajgkagnenbaaGreatDoor.Group Go.Proofs.YthkajgkagnenbaaGreatDoor.TableB Go.Proofs.YthkajgkagnenbaaGreatDoor.TableI Go.Proofs.YthkajgkagnenbaaGreatDoor.Table Go.Proofs.YthkajgkagnenbaaGreatDoor.Bench Go.Proofs.YthkajgkagnenbaaGreatDoor.Cells Go.Proofs.YthkajgkagnenbaaGreatDoor.Exact Go.Proofs.YthkajgkagnenbaaGreatDoor.RefA Go.Proofs.YthkajgkagnenbaaGreatDoor.RefT Go.Proofs.YthkajgkagnenbaaGreatDoor.Ref03

theorem pt_cell {b i : Nat} {cs : Array Value} {t : TypeId} {fr : Nat × Nat} {v : Value} (h : cs[i]? = some v) : CellAt (pt b (.cells cs t fr)) ⟨b, i, none⟩ v := fun w hw => by
 have hs : Sat (stars [pt b (.cells cs t fr)]) w := by
  obtain ⟨f, hf, k⟩ := hw
  exact ⟨f, hf, f, Part.none, k, rfl, Part.disj_none _, (Part.join_none _).symm⟩
 have hb := hs.block (b := b) (o := .cells cs t fr) .here
 simp [World.cell?, hb, h]
/-- A group's cells in the document's row. -/
theorem grp_cellsAt {x : PR} {g0 cap g : Nat} (hg : g < x.n) : CellsAt (ownS 142 5 (.slice (some ⟨g0, 0, none⟩) (8 * x.n) cap) (8 * x.n) (rowOf cellV (firstL x.T.cells (8 * x.n)))) g0 (8 * g * 5) (grpC x.T.cells g) := fun i hi j u hu => by
 have hj : j < 5 := by
  have := (List.getElem?_eq_some_iff.1 hu).1
  simpa [cellV] using this
 rw [add_none]
 refine own_cell ?_
 rw [show 8 * g * 5 + i * 5 + j = (8 * g + i) * 5 + j by omega, cells_row x.T.cells (by omega) j hj]
 exact hu
theorem hdr_ok (x : PR) (b : Nat) : FnOk Tryz.prog 47 #[.slice (some ⟨b, 0, none⟩) 8 8] [pt b (.cells #[.int .i64 x.T.kind, .int .i64 x.T.pins, .int .i64 x.T.next, .int .i64 x.T.used, .int .i64 ((8 * x.n : Nat) : Int), .int .i64 x.T.left, .int .i64 x.T.depth, .int .i64 (x.go : Nat)] 3 (0, 0))] (fun r L => r = .string (strM (hdF (headV x.T x.n x.go)) 0 64) ∧ L = [pt b (.cells #[.int .i64 x.T.kind, .int .i64 x.T.pins, .int .i64 x.T.next, .int .i64 x.T.used, .int .i64 ((8 * x.n : Nat) : Int), .int .i64 x.T.left, .int .i64 x.T.depth, .int .i64 (x.go : Nat)] 3 (0, 0))]) :=
 Header_ok (pt b (.cells #[.int .i64 x.T.kind, .int .i64 x.T.pins, .int .i64 x.T.next, .int .i64 x.T.used, .int .i64 ((8 * x.n : Nat) : Int), .int .i64 x.T.left, .int .i64 x.T.depth, .int .i64 (x.go : Nat)] 3 (0, 0))) b 0 8 8 (by decide) (by decide) (headV x.T x.n x.go) fun i hi => by
  refine pt_cell ?_
  rw [Nat.zero_add]
  have h4 : ((8 * x.n : Nat) : Int) = 8 * (x.n : Int) := by push_cast; rfl
  rw [h4]
  have : i = 0 ∨ i = 1 ∨ i = 2 ∨ i = 3 ∨ i = 4 ∨ i = 5 ∨ i = 6 ∨ i = 7 := by omega
  rcases this with rfl | rfl | rfl | rfl | rfl | rfl | rfl | rfl <;> rfl
section
variable (pr : Nat) (l : Lay) (hl : l.err = 0) (x : PR) (hn0 : 0 < x.n) (hn : x.n ≤ 8192) (hk : x.T.kind = 2 ∨ x.T.kind = 4) (hok : ∀ i, i < 8 * x.n → (x.T.cells i).ok l) (hsm : ((x.n * gN l : Nat) : Int) ≤ 1048576)
include hl hn0 hn hk hok hsm
theorem Bytes_ok : FnOk Tryz.prog 37 #[.pointer (some ⟨x.p, 0, none⟩)] [rtH pr l x] (fun v L => v = .tuple #[.string (strM (hdF (headV x.T x.n x.go)) 0 64), .string (strM (grF l x.T.cells x.n) 0 (classI ((x.n * gN l : Nat) : Int)).toNat)] ∧ L = [rtH pr l x]) := by
 have hN := layN hl
 have hg8 := hN.g_eq
 have hnl : 1 ≤ x.n * gN l := by have := Nat.mul_le_mul_right (gN l) hn0; omega
 have hcl := (classI_bnd (n := ((x.n * gN l : Nat) : Int)) (by omega)).2.2 hsm
 have hcu := (classI_bnd (n := ((x.n * gN l : Nat) : Int)) (by omega)).2.1
 have hwr : IntKind.i64.wrap (classI ((x.n * gN l : Nat) : Int) - ((x.n * gN l : Nat) : Int)) = classI ((x.n * gN l : Nat) : Int) - ((x.n * gN l : Nat) : Int) := wrap_i64 (by omega)
 refine fn_intro en37 Tryz.func37 rfl rfl rfl fun Fr w0 => t_nm ?_
 refine rt_open .here fun vc => ?_
 refine t_shape (.there .here) fun _ hvc => ?_
 obtain ⟨a0, cap, rfl, ha, hcap, _⟩ := hvc
 obtain ⟨g0, rfl⟩ := ha (by omega)
 refine sr<|asg O O<|asg O O<|lz<|asg O O<|lc<|t_seq<|sr<|mv O O<|l_q O (q_nilCheck O)<|l_q O (qfa 17 rfl yU45 O O yS4)<|l_q O (qld O yA4) ?_
 refine lc ?_
 apply t_cut (p := (fun _ : Unit => True)) (EE := (fun _ => [(0, .pointer (some ⟨x.p, 0, none⟩)), (4, .int .i64 x.T.kind)])) (LL := (fun _ => pt x.p (.cells #[.pointer (some ⟨pr, 0, none⟩), .int .i64 l.key, .int .i64 l.elem, .int .i64 l.ka, .int .i64 l.ea, .int .i64 l.cap, .int .i64 l.eo, .int .i64 l.bo, .int .i64 l.slot, .int .i64 l.group, .int .i64 (x.off : Nat), .int .i64 (x.go : Nat), .int .i64 x.T.used, .int .i64 x.T.left, .int .i64 x.T.depth, .int .i64 x.T.pins, .int .i64 x.T.next, .bool (decide (x.T.kind = 4)), .bool x.dead, (.slice (some ⟨g0, 0, none⟩) (8 * x.n) cap)] 45 (0, 0)) :: ownS 142 5 (.slice (some ⟨g0, 0, none⟩) (8 * x.n) cap) (8 * x.n) (rowOf cellV (firstL x.T.cells (8 * x.n))) :: Fr))
 refine t_if O (fun z => ?_) fun z => ?_
 ·refine t_region<|asg O O<|l_nil ?_
  apply n_join (())
  ·exact trivial
  ·exact ⟨rfl, congrArg (fun q => some (Value.int .i64 q)) z.symm, trivial⟩
  ·exact en
 ·refine t_skip ?_
  apply n_join (())
  ·exact trivial
  ·exact ⟨rfl, congrArg (fun q => some (Value.int .i64 q)) (hk.resolve_right z).symm, trivial⟩
  ·exact en
 rintro _ -
 try dsimp only
 refine n_nm ?_
 refine n_code<|t_seq<|t_draw mixed ?_
 apply dq 0 rfl
 ·exact yq (q_move O)
 apply dq 1 rfl
 ·exact yq (q_move O)
 apply dq 2 rfl
 ·exact yq (q_nilCheck O)
 apply dq 3 rfl
 ·exact yq (qfa 15 rfl yU45 O O yS3)
 apply dq 4 rfl
 ·exact yq (qld O yA3)
 apply dq 5 rfl
 ·exact yq (q_move O)
 apply dq 6 rfl
 ·exact yq (q_nilCheck O)
 apply dq 7 rfl
 ·exact yq (qfa 16 rfl yU45 O O yS3)
 apply dq 8 rfl
 ·exact yq (qld O yA3)
 apply dq 9 rfl
 ·exact yq (q_move O)
 apply dq 10 rfl
 ·exact yq (q_nilCheck O)
 apply dq 11 rfl
 ·exact yq (qfa 12 rfl yU45 O O yS3)
 apply dq 12 rfl
 ·exact yq (qld O yA3)
 apply dq 13 rfl
 ·exact yq (q_move O)
 apply dq 14 rfl
 ·exact yq (q_nilCheck O)
 apply dq 15 rfl
 ·exact yq (qfa 19 rfl yU45 O O yS43)
 apply dq 16 rfl
 ·exact yq (qld O yA43)
 apply dq 17 rfl
 ·exact yq (ql O yU43)
 apply dq 18 rfl
 ·exact yq (q_move O)
 apply dq 19 rfl
 ·exact yq (q_nilCheck O)
 apply dq 20 rfl
 ·exact yq (qfa 13 rfl yU45 O O yS3)
 apply dq 21 rfl
 ·exact yq (qld O yA3)
 apply dq 22 rfl
 ·exact yq (q_move O)
 apply dq 23 rfl
 ·exact yq (q_nilCheck O)
 apply dq 24 rfl
 ·exact yq (qfa 14 rfl yU45 O O yS3)
 apply dq 25 rfl
 ·exact yq (qld O yA3)
 apply dq 26 rfl
 ·exact yq (q_move O)
 apply dq 27 rfl
 ·exact yq (q_nilCheck O)
 apply dq 28 rfl
 ·exact yq (qfa 11 rfl yU45 O O yS3)
 apply dq 29 rfl
 ·exact yq (qld O yA3)
 refine d_eff1 [0, 4, 8, 12, 17, 21, 25, 29, 3, 7, 11, 16, 20, 24, 28, 2, 6, 10, 15, 19, 23, 27, 1, 5, 9, 14, 18, 22, 26, 13] [] 30 [(13, _), (17, _), (21, _), (25, _), (30, _), (34, _), (38, _), (42, _)] gO ⟨rfl, rfl, rfl, rfl, rfl, rfl, rfl, rfl, trivial⟩ (by kernel_rfl) (by kernel_rfl) fun Ex => ?_
 refine o_buildSlice1 [_, _, _, _, _, _, _, _] rfl rfl yU22 yS3 yZ3 O O O O (fun b43 => ?_)
 refine l_nil ?_
 apply n_d
 ·exact trivial
 refine d_eff1 [] [] 31 [(43, _)] gO ⟨rfl, trivial⟩ (by kernel_rfl) (by kernel_rfl) fun Ex => ?_
 refine lc1 O O O (hdr_ok x b43) ?_
 refine l_nil ?_
 apply n_d
 ·exact trivial
 refine d_eff1 [] [] 32 [(44, _)] gO ⟨rfl, trivial⟩ (by kernel_rfl) (by kernel_rfl) fun Ex => ?_
 refine asg O O<|l_nil ?_
 apply n_d
 ·exact trivial
 refine d_end (by kernel_rfl) ?_
 refine nz<|asg O O<|lc<|t_seq<|sr<|asg O O<|lc<|t_block ?_
 refine t_loop (fun y : Nat × Value => y.1 ≤ x.n) (fun y => [(0, .pointer (some ⟨x.p, 0, none⟩)), (5, .string (strM (hdF (headV x.T x.n x.go)) 0 64)), (6, y.2), (7, .int .i64 ((8 * y.1 : Nat) : Int))]) (fun y => ownS 5 1 (y.2) ((y.1 * gN l)) (memV (grF l x.T.cells x.n) ((y.1 * gN l))) :: pt x.p (.cells #[.pointer (some ⟨pr, 0, none⟩), .int .i64 l.key, .int .i64 l.elem, .int .i64 l.ka, .int .i64 l.ea, .int .i64 l.cap, .int .i64 l.eo, .int .i64 l.bo, .int .i64 l.slot, .int .i64 l.group, .int .i64 (x.off : Nat), .int .i64 (x.go : Nat), .int .i64 x.T.used, .int .i64 x.T.left, .int .i64 x.T.depth, .int .i64 x.T.pins, .int .i64 x.T.next, .bool (decide (x.T.kind = 4)), .bool x.dead, (.slice (some ⟨g0, 0, none⟩) (8 * x.n) cap)] 45 (0, 0)) :: ownS 142 5 (.slice (some ⟨g0, 0, none⟩) (8 * x.n) cap) (8 * x.n) (rowOf cellV (firstL x.T.cells (8 * x.n))) :: Fr) (fun y => x.n - y.1) (0, .slice none 0 0) (Nat.zero_le _) ⟨rfl, rfl, rfl, rfl, trivial⟩ (fun w h => (by rw [Nat.zero_mul]; exact own_nil ((show Ent _ (pt x.p (.cells #[.pointer (some ⟨pr, 0, none⟩), .int .i64 l.key, .int .i64 l.elem, .int .i64 l.ka, .int .i64 l.ea, .int .i64 l.cap, .int .i64 l.eo, .int .i64 l.bo, .int .i64 l.slot, .int .i64 l.group, .int .i64 (x.off : Nat), .int .i64 (x.go : Nat), .int .i64 x.T.used, .int .i64 x.T.left, .int .i64 x.T.depth, .int .i64 x.T.pins, .int .i64 x.T.next, .bool (decide (x.T.kind = 4)), .bool x.dead, (.slice (some ⟨g0, 0, none⟩) (8 * x.n) cap)] 45 (0, 0)) :: ownS 142 5 (.slice (some ⟨g0, 0, none⟩) (8 * x.n) cap) (8 * x.n) (rowOf cellV (firstL x.T.cells (8 * x.n))) :: Fr) by (exact en)) w h))) ?_
 rintro ⟨g, vb⟩ hg
 dsimp only at hg ⊢
 refine t_seq<|sr<|mv O O<|mv O O<|l_q O (q_nilCheck O)<|l_q O (qfa 19 rfl yU45 O O yS43)<|l_q O (qld O yA43) ?_
 refine l_q O (ql O yU43)<|l_q O (qi O O (b_lss ·))<|lc<|t_if O (fun h1 => ?_) fun h1 => ?_
 ·skip
  have hgn : g < x.n := by omega
  have hgl : g * gN l + gN l ≤ x.n * gN l := by have := Nat.mul_le_mul_right (gN l) (show g + 1 ≤ x.n by omega); rw [Nat.add_mul] at this; omega
  have hgb : ∀ a, 0 ≤ encG l (grpC x.T.cells g) a ∧ encG l (grpC x.T.cells g) a < 256 := encG_bnd (l := l) (cs := grpC x.T.cells g) (fun i hi => hok (8 * g + i) (by omega))
  have htl : tailN 5 0 (((8 * g : Nat) : Int)).toNat cap = 8 * g * 5 := by rw [Int.toNat_natCast]; unfold tailN; rw [if_neg (by omega), Nat.zero_add]
  have h8 : (((8 * g : Nat) : Int) + 8).toNat - (((8 * g : Nat) : Int)).toNat = 8 := by omega
  refine t_skip<|n_code<|t_seq<|t_block<|t_draw mixed ?_
  apply dq 0 rfl
  ·exact yq (q_move O)
  apply dq 1 rfl
  ·exact yq (q_move O)
  apply dq 2 rfl
  ·exact yq (q_nilCheck O)
  apply dq 3 rfl
  ·exact yq (qfa 1 rfl yU45 O O yS34)
  apply dq 4 rfl
  ·exact yq (qlda O yA34 yS34)
  apply dq 5 rfl
  ·exact yq (q_move O)
  apply dq 6 rfl
  ·exact yq (q_nilCheck O)
  apply dq 7 rfl
  ·exact yq (qfa 19 rfl yU45 O O yS43)
  apply dq 8 rfl
  ·exact yq (qld O yA43)
  apply dq 9 rfl
  ·exact yq (q_move O)
  apply dq 10 rfl
  ·exact yq (q_move O)
  apply dq 11 rfl
  ·exact yq (qadd O O)
  apply dq 12 rfl
  ·apply yq
   apply q_sliceN_lh (b := g0) (o := 0) (len := 8 * x.n) (cap := cap) (l := ((8 * g : Nat) : Int)) (h := ((8 * g : Nat) : Int) + 8) rfl rfl rfl Tryz.underlying43 yS142
   ·omega
  refine d_eff1 [4, 12, 3, 8, 9, 11, 2, 7, 10, 1, 6, 5] [0] 13 [(58, _), (66, _)] gO ⟨rfl, rfl, trivial⟩ (by kernel_rfl) (by kernel_rfl) fun Ex => ?_
  rw [htl, h8]
  refine lc1 O O O (GroupBytes_ok (ownS 142 5 (.slice (some ⟨g0, 0, none⟩) (8 * x.n) cap) (8 * x.n) (rowOf cellV (firstL x.T.cells (8 * x.n)))) g0 (8 * g * 5) (cap - (((8 * g : Nat) : Int)).toNat) l hl (grpC x.T.cells g) (fun i hi => hok (8 * g + i) (by omega)) (grp_cellsAt hgn)) ?_
  refine l_nil ?_
  apply n_d
  ·refine ⟨?_, trivial⟩
   ·apply ya O O; exact yq (q_move O)
  refine d_eff1 [0] [] 14 [(54, _), (67, _)] gO ⟨rfl, rfl, trivial⟩ (by kernel_rfl) (by kernel_rfl) fun Ex => ?_
  apply o_appendStr (n := g * gN l) (v := vb) (xs := memV (grF l x.T.cells x.n) (g * gN l)) rfl rfl rfl Tryz.underlying117 Tryz.underlying9 yI5
  ·exact tk
  ·rw [strM_size]; simp only [maxLen]; omega
  ·rw [strM_size]; omega
  intro v68
  rw [strM_size, strM_bytes0 hgb, grF_app hN x.T.cells hgn, show g * gN l + gN l = (g + 1) * gN l by rw [Nat.add_mul, Nat.one_mul]]
  refine l_nil ?_
  apply n_d
  ·exact trivial
  refine d_eff1 [] [] 15 [(68, _)] gO ⟨rfl, trivial⟩ (by kernel_rfl) (by kernel_rfl) fun Ex => ?_
  refine asg O O<|l_nil ?_
  apply n_d
  ·exact trivial
  refine d_end (by kernel_rfl) ?_
  refine n_blk<|n_code<|t_region<|mv O O<|l_q O (qadd O O) ?_
  refine asg O O<|l_nil ?_
  apply n_again ((g + 1, v68))
  ·exact (show g + 1 ≤ x.n by omega)
  ·dsimp only; omega
  ·exact ⟨rfl, rfl, rfl, congrArg (fun q => some (Value.int .i64 q)) (show ((8 * g : Nat) : Int) + 8 = ((8 * (g + 1) : Nat) : Int) by omega), trivial⟩
  ·exact en
 ·skip
  have hgx : g = x.n := by omega
  rw [hgx]
  refine t_shape .here fun _ hvb => ?_
  obtain ⟨ab, cb, rfl, hab, _, _⟩ := hvb
  obtain ⟨gb, rfl⟩ := hab (by omega)
  refine xt O<|nz<|mv O O<|l_q O (ql O yU117)<|lc1 O O O (Class_ok ((x.n * gN l : Nat) : Int)) ?_
  refine asg O O<|lz<|mv O O<|mv O O<|mv O O<|l_q O (ql O yU117)<|l_q O (qsub O O) ?_
  apply o_appendZ (n := x.n * gN l) (xs := memV (grF l x.T.cells x.n) (x.n * gN l)) ((classI ((x.n * gN l : Nat) : Int)).toNat - x.n * gN l) rfl rfl rfl ?hq Tryz.underlying117 Tryz.underlying3 yI5
  case hq => omega
  ·exact tk
  ·simp only [maxLen]; omega
  ·omega
  intro v77
  rw [grF_tail, show x.n * gN l + ((classI ((x.n * gN l : Nat) : Int)).toNat - x.n * gN l) = (classI ((x.n * gN l : Nat) : Int)).toNat by omega]
  refine l_shape (v := v77) tk fun _ hv77 => ?_
  obtain ⟨a77, c77, rfl, ha77, _, _⟩ := hv77
  obtain ⟨g77, rfl⟩ := ha77 (by omega)
  refine asg O O<|lc<|t_seq<|t_draw mixed ?_
  apply dq 0 rfl
  ·exact yq (q_move O)
  apply dq 1 rfl
  ·exact yq (q_move O)
  apply dq 2 rfl
  ·apply yq
   apply q_bytesStr (strM (grF l x.T.cells x.n) 0 (classI ((x.n * gN l : Nat) : Int)).toNat) rfl Tryz.underlying117 Tryz.underlying5 Tryz.underlying9
   ·rw [strM_size]
   ·rw [strM_bytes0 (grF_bnd hN hok)]; exact reads_mem0 (by exact tk)
  refine d_eff1 [0] [2, 1] 3 [(78, _)] gO ⟨rfl, trivial⟩ (by kernel_rfl) (by kernel_rfl) fun Ex => ?_
  refine asg O O<|l_nil ?_
  apply n_d
  ·refine ⟨?_, ?_, trivial⟩
   ·apply ya O O
    apply yq
    apply q_bytesStr (strM (grF l x.T.cells x.n) 0 (classI ((x.n * gN l : Nat) : Int)).toNat) rfl Tryz.underlying117 Tryz.underlying5 Tryz.underlying9
    ·rw [strM_size]
    ·rw [strM_bytes0 (grF_bnd hN hok)]; exact reads_mem0 (by exact tk)
   ·apply ya O O; exact yq (q_move O)
  refine d_eff1 [2, 1] [] 4 [(80, _)] gO ⟨rfl, trivial⟩ (by kernel_rfl) (by kernel_rfl) fun Ex => ?_
  refine asg O O<|l_nil ?_
  apply n_d
  ·exact trivial
  refine d_end (by kernel_rfl) ?_
  refine n_code<|rt ?_
  apply f_ret (.inl rfl) ([rtH pr l x])
  ·apply res2 O
   ·exact .tmp rfl
   ·exact .tmp rfl
  ·exact ⟨rfl, rfl⟩
  ·refine rt_close (.slice (some ⟨g0, 0, none⟩) (8 * x.n) cap) ?_; (exact en)
end
/-- A live table's two blocks hold just the document's bytes. -/
theorem bytes_ok (pb pa pr : Nat) (s : ArS) (hs : s.ok) (l : Lay) (hl : l.err = 0) (x : PR) (hO : One s l x) (hd : x.dead = false) (vP : Value) :
  FnOk Tryz.prog 10 #[.pointer (some ⟨pb, 0, none⟩), .pointer (some ⟨x.p, 0, none⟩)] [pt pb (.cells #[.pointer (some ⟨pa, 0, none⟩), .pointer (some ⟨pr, 0, none⟩), .int .i64 l.key, .int .i64 l.elem, .int .i64 l.ka, .int .i64 l.ea, .int .i64 l.cap, .int .i64 l.eo, .int .i64 l.bo, .int .i64 l.slot, .int .i64 l.group, vP] 37 (0, 0)), rtH pr l x, arenaH pa s] (fun v L => v = .bool true ∧ L = [pt pb (.cells #[.pointer (some ⟨pa, 0, none⟩), .pointer (some ⟨pr, 0, none⟩), .int .i64 l.key, .int .i64 l.elem, .int .i64 l.ka, .int .i64 l.ea, .int .i64 l.cap, .int .i64 l.eo, .int .i64 l.bo, .int .i64 l.slot, .int .i64 l.group, vP] 37 (0, 0)), rtH pr l x, arenaH pa s]) := by
 obtain ⟨hP, hb1, hb2, hsm⟩ := hO.live hd
 have hn8 := hP.n0
 have hN := layN hl
 have hg8 := hN.g_eq
 have hnl : 1 ≤ x.n * gN l := by have := Nat.mul_le_mul_right (gN l) hn8.1; omega
 have hcl := (classI_bnd (n := ((x.n * gN l : Nat) : Int)) (by omega)).2.2 hsm
 obtain ⟨C, hC⟩ : ∃ C : Nat, classI ((x.n * gN l : Nat) : Int) = (C : Int) := ⟨(classI ((x.n * gN l : Nat) : Int)).toNat, by omega⟩
 have hB := Bytes_ok pr l hl x hn8.1 hn8.2 hO.rng.kind hP.hT.okc hsm
 have hz := hO.tail hd
 rw [hC] at hB hz hb2 hcl
 rw [Int.toNat_natCast] at hB
 have e1 := head_bytes hs.bytes hP
 have e2 : strM s.m x.go C = strM (grF l x.T.cells x.n) 0 C := by
  obtain ⟨k, hk⟩ : ∃ k, C = x.n * gN l + k := ⟨C - x.n * gN l, by omega⟩
  rw [hk] at hz ⊢
  exact grp_bytes hP hz
 rw [← e1, ← e2] at hB
 refine fn_intro en10 Tryz.func10 rfl rfl rfl fun Fr w0 => t_nm ?_
 refine sr<|asg O O<|lz<|mv O O<|lc1 O O O (hB) ?_
 refine rt_openL (x := x) tk fun vc => ?_
 refine mv O O<|l_q O (q_extractL O ga) ?_
 refine l_q O (q_extractL O ga) ?_
 refine asg O O<|asg O O<|lc<|t_seq<|t_draw mixed ?_
 apply dq 0 rfl
 ·exact yq (q_move O)
 apply dq 1 rfl
 ·exact yq (q_nilCheck O)
 apply dq 2 rfl
 ·exact yq (qfa 0 rfl yU37 O O yS31)
 apply dq 3 rfl
 ·exact yq (qld O yA31)
 apply dq 4 rfl
 ·exact yq (q_move O)
 apply dq 5 rfl
 ·exact yq (q_nilCheck O)
 apply dq 6 rfl
 ·exact yq (qfa 10 rfl yU45 O O yS3)
 apply dq 7 rfl
 ·exact yq (qld O yA3)
 refine d_eff1 [3, 7, 2, 6, 1, 5, 0, 4] [] 8 [(20, _), (24, _)] gO ⟨rfl, rfl, trivial⟩ (by kernel_rfl) (by kernel_rfl) fun Ex => ?_
 refine lc1 O O O (Read_ok pa s x.off 64 hP.gh) ?_
 refine l_nil ?_
 apply n_d
 ·exact trivial
 apply dq 9 rfl
 ·exact yq (q_move O)
 apply dq 10 rfl
 ·exact yq (q_extractL O ga)
 apply dq 11 rfl
 ·exact yq (q_extractL O ga)
 refine d_eff1 [10, 9] [11] 12 [(26, _)] gO ⟨rfl, trivial⟩ (by kernel_rfl) (by kernel_rfl) fun Ex => ?_
 refine asg O O<|l_nil ?_
 apply n_d
 ·refine ⟨?_, trivial⟩
  ·apply ya O O; exact yq (q_extractL O ga)
 refine d_eff1 [11] [] 13 [(27, _)] gO ⟨rfl, trivial⟩ (by kernel_rfl) (by kernel_rfl) fun Ex => ?_
 refine asg O O<|l_nil ?_
 apply n_d
 ·exact trivial
 refine d_end (by kernel_rfl) ?_
 refine n_code<|t_seq<|t_draw mixed ?_
 apply dq 0 rfl
 ·exact yq (q_move O)
 apply dq 1 rfl
 ·exact yq (q_nilCheck O)
 apply dq 2 rfl
 ·exact yq (qfa 0 rfl yU37 O O yS31)
 apply dq 3 rfl
 ·exact yq (qld O yA31)
 apply dq 4 rfl
 ·exact yq (q_move O)
 apply dq 5 rfl
 ·exact yq (q_nilCheck O)
 apply dq 6 rfl
 ·exact yq (qfa 11 rfl yU45 O O yS3)
 apply dq 7 rfl
 ·exact yq (qld O yA3)
 apply dq 8 rfl
 ·exact yq (q_move O)
 apply dq 9 rfl
 ·exact yq (qls O yU9)
 refine d_eff1 [3, 7, 9, 2, 6, 8, 1, 5, 0, 4] [] 10 [(32, _), (36, _), (38, _)] gO ⟨rfl, rfl, rfl, trivial⟩ (by kernel_rfl) (by kernel_rfl) fun Ex => ?_
 rw [strM_size]
 refine lc1 O O O (Read_ok pa s x.go C (bl_good hb2 (by omega) (Int.le_refl _))) ?_
 refine l_nil ?_
 apply n_d
 ·exact trivial
 apply dq 11 rfl
 ·exact yq (q_move O)
 apply dq 12 rfl
 ·exact yq (q_extractL O ga)
 apply dq 13 rfl
 ·exact yq (q_extractL O ga)
 refine d_eff1 [12, 11] [13] 14 [(40, _)] gO ⟨rfl, trivial⟩ (by kernel_rfl) (by kernel_rfl) fun Ex => ?_
 refine asg O O<|l_nil ?_
 apply n_d
 ·refine ⟨?_, trivial⟩
  ·apply ya O O; exact yq (q_extractL O ga)
 refine d_eff1 [13] [] 15 [(41, _)] gO ⟨rfl, trivial⟩ (by kernel_rfl) (by kernel_rfl) fun Ex => ?_
 refine asg O O<|l_nil ?_
 apply n_d
 ·exact trivial
 refine d_end (by kernel_rfl) ?_
 refine nz<|mv O O<|lc1 O O O (num8_ok _) ?_
 refine l_q O (qi O O (b_eql ·))<|mv O O<|l_pt (t := 45) rfl (fun z1 => ?_) fun z1 => ?_
 ·refine l_on O O<|mv O O<|l_on O O<|lc1 O O O (num8_ok _) ?_
  refine l_on O O<|l_q O (qi O O (b_eql ·))<|l_q O (q_pk O O)<|mv O O<|l_pt (t := 50) rfl (fun z2 => ?_) fun z2 => ?_
  ·refine l_on O O<|mv O O<|l_on O O<|mv O O<|l_on O O<|l_q O (qs O O (b_eqlS ·))<|l_q O (q_pk O O)<|mv O O<|l_pt (t := 55) rfl (fun z3 => ?_) fun z3 => ?_
   ·refine l_on O O<|mv O O<|l_on O O<|mv O O<|l_on O O<|l_q O (qs O O (b_eqlS ·))<|l_q O (q_pk O O)<|asg O O<|lc<|rt ?_
    apply f_ret (.inl rfl) ([pt pb (.cells #[.pointer (some ⟨pa, 0, none⟩), .pointer (some ⟨pr, 0, none⟩), .int .i64 l.key, .int .i64 l.elem, .int .i64 l.ka, .int .i64 l.ea, .int .i64 l.cap, .int .i64 l.eo, .int .i64 l.bo, .int .i64 l.slot, .int .i64 l.group, vP] 37 (0, 0)), rtH pr l x, arenaH pa s])
    ·apply res1 O
     ·exact .tmp rfl
    ·exact ⟨by rw [decT rfl], rfl⟩
    ·refine (fun w h => (show Ent (rtH pr l x :: pt pb (.cells #[.pointer (some ⟨pa, 0, none⟩), .pointer (some ⟨pr, 0, none⟩), .int .i64 l.key, .int .i64 l.elem, .int .i64 l.ka, .int .i64 l.ea, .int .i64 l.cap, .int .i64 l.eo, .int .i64 l.bo, .int .i64 l.slot, .int .i64 l.group, vP] 37 (0, 0)) :: arenaH pa s :: Fr) _ by (exact en)) w (rt_close (R := pt pb (.cells #[.pointer (some ⟨pa, 0, none⟩), .pointer (some ⟨pr, 0, none⟩), .int .i64 l.key, .int .i64 l.elem, .int .i64 l.ka, .int .i64 l.ea, .int .i64 l.cap, .int .i64 l.eo, .int .i64 l.bo, .int .i64 l.slot, .int .i64 l.group, vP] 37 (0, 0)) :: arenaH pa s :: Fr) vc (by (exact en)) w h))
   ·exact absurd rfl z3
  ·exact absurd rfl z2
 ·exact absurd rfl z1
end Go.Proofs.YthkajgkagnenbaaGreatDoor.BytesP
