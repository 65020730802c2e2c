/- The contracts of what lays a table's bytes: larderref08.word, Header, GroupBytes. -/
import Derived.Test.YthkajgkagnenbaaGreatDoorBytesP
import Derived.Test.YthkajgkagnenbaaGreatDoorExact
import Derived.Test.YthkajgkagnenbaaGreatDoorRef03
set_option linter.unusedVariables false
set_option linter.unusedSimpArgs false
set_option linter.unusedSectionVars false
set_option maxRecDepth 100000
namespace Go.Proofs.YthkajgkagnenbaaGreatDoor.BytesP
open Go.RowKit Go.Proofs Go.Proofs.YthkajgkagnenbaaGreatDoor.Eng Go.Proofs.YthkajgkagnenbaaGreatDoor.Ty Go.Proofs.YthkajgkagnenbaaGreatDoor.Bits Go.Proofs.YthkajgkagnenbaaGreatDoor.Mem Go.Proofs.YthkajgkagnenbaaGreatDoor.Search Go.Proofs.YthkajgkagnenbaaGreatDoor.Arena Go.Proofs.YthkajgkagnenbaaGreatDoor.CtrlB Go.Proofs.YthkajgkagnenbaaGreatDoor.Layout Go.Proofs.YthkajgkagnenbaaGreatDoor.GroupB Go.Proofs.YthkajgkagnenbaaGreatDoor.Group Go.Proofs.YthkajgkagnenbaaGreatDoor.TableB Go.Proofs.YthkajgkagnenbaaGreatDoor.TableI Go.Proofs.YthkajgkagnenbaaGreatDoor.Table Go.Proofs.YthkajgkagnenbaaGreatDoor.Cells Go.Proofs.YthkajgkagnenbaaGreatDoor.Exact Go.Proofs.YthkajgkagnenbaaGreatDoor.Ref03

theorem word_ok (v : Int) : FnOk Tryz.prog 126 #[.int .i64 v] [] (fun r L => L = [ownS 5 1 (r) (8) (memV (byteN (IntKind.u64.wrap v)) (8))]) := by
 obtain ⟨U, hU⟩ : ∃ U, U = IntKind.u64.wrap v := ⟨_, rfl⟩
 have hUb : 0 ≤ U ∧ U < 18446744073709551616 := by rw [hU, IntKind.wrap_u64]; omega
 have hU0 : IntKind.u64.wrap v = U / 2 ^ (8 * 0) := by rw [← hU]; simp
 rw [← hU]
 refine fn_intro en126 Tryz.func126 rfl rfl rfl fun Fr w0 => t_nm ?_
 refine sr<|asg O O<|lz<|mv O O<|l_q O (qcv O yU3 yU27) ?_
 refine asg O O<|lz<|asg O O<|lc<|t_seq<|sr<|asg O O<|lc<|t_block ?_
 refine t_loop (fun y : Nat × Value => y.1 ≤ 8) (fun y => [(3, .int .u64 (U / 2 ^ (8 * y.1))), (4, y.2), (5, .int .i64 (y.1 : Nat))]) (fun y => ownS 5 1 (y.2) (y.1) (memV (byteN U) (y.1)) :: Fr) (fun y => 8 - y.1) (0, .slice none 0 0) (Nat.zero_le _) ⟨congrArg (fun z => some (Value.int .u64 z)) hU0, rfl, rfl, trivial⟩ (fun w h => own_nil h) ?_
 rintro ⟨i, vb⟩ hi
 dsimp only at hi ⊢
 have hd0 : 0 ≤ U / 2 ^ (8 * i) := Int.ediv_nonneg hUb.1 (Int.le_of_lt (Int.pow_pos (by decide)))
 have hd1 : U / 2 ^ (8 * i) < 18446744073709551616 := Int.lt_of_le_of_lt (Int.ediv_le_self _ hUb.1) hUb.2
 obtain ⟨D, hD⟩ : ∃ D, D = U / 2 ^ (8 * i) := ⟨_, rfl⟩
 rw [← hD] at hd0 hd1 ⊢
 refine t_seq<|sr<|mv O O<|l_q O (qi O O (b_lss ·))<|lc<|t_if O (fun h1 => ?_) fun h1 => ?_
 ·skip
  have hrow : memV (byteN U) i ++ #[Value.int .u8 (D % 256)].toList = memV (byteN U) (i + 1) := memV_snoc (by rw [hD]; rfl)
  have hnx : IntKind.u64.wrap (D.tdiv 256) = U / 2 ^ (8 * (i + 1)) := by
   rw [byteN_div, ← hD, Int.tdiv_eq_ediv_of_nonneg hd0, IntKind.wrap_u64]; omega
  refine t_skip<|n_code<|t_seq<|t_block<|sr<|mv O O<|mv O O<|l_q O (qrem O O) ?_
  refine l_q O (qcv O yU27 yU5) ?_
  refine o_buildSlice1 [_] rfl rfl yU117 yS5 yZ5 O O O O (fun b16 => ?_)
  apply o_append (sz := 1) rfl rfl rfl yU117 yI5 O O
  ·exact tk
  ·exact tk
  ·rfl
  ·rfl
  ·simp only [maxLen]; omega
  ·omega
  intro v17
  refine asg O O<|lr<|mv O O<|l_q O (qquo O O) ?_
  refine asg O O<|l_nil<|n_blk<|n_code<|t_region<|mv O O<|l_q O (qadd O O) ?_
  refine asg O O<|l_nil ?_
  rw [hrow]
  apply n_again ((i + 1, v17))
  ·exact (show i + 1 ≤ 8 by omega)
  ·dsimp only; omega
  ·exact ⟨congrArg (fun z => some (Value.int .u64 z)) hnx, rfl, rfl, trivial⟩
  ·exact en
 ·skip
  obtain rfl : i = 8 := by omega
  refine xt O<|nz<|mv O O<|asg O O<|lc<|rt<|fr1 O ([ownS 5 1 (vb) (8) (memV (byteN U) (8))]) (.tmp rfl) ?_
  rfl
theorem Header_ok (A : HP) (b o k cap : Nat) (hk0 : 0 < k) (hk : k ≤ 1000) (W : Nat → Int) (hA : ∀ i, i < k → CellAt A ⟨b, o + i, none⟩ (.int .i64 (W i))) :
  FnOk Tryz.prog 47 #[.slice (some ⟨b, o, none⟩) k cap] [A] (fun r L => r = .string (strM (hdF W) 0 (8 * k)) ∧ L = [A]) := by
 refine fn_intro en47 Tryz.func47 rfl rfl rfl fun Fr w0 => t_nm ?_
 refine sr<|asg O O<|lz<|asg O O<|lc<|t_seq<|sr<|asg O O<|lc<|t_block ?_
 refine t_loop (fun y : Nat × Value => y.1 ≤ k) (fun y => [(0, .slice (some ⟨b, o, none⟩) k cap), (3, y.2), (4, .int .i64 (y.1 : Nat))]) (fun y => ownS 5 1 (y.2) (8 * y.1) (memV (hdF W) (8 * y.1)) :: A :: Fr) (fun y => k - y.1) (0, .slice none 0 0) (Nat.zero_le _) ⟨rfl, rfl, rfl, trivial⟩ (fun w h => own_nil h) ?_
 rintro ⟨i, vb⟩ hi
 dsimp only at hi ⊢
 refine t_seq<|sr<|mv O O<|mv O O<|l_q O (ql O yU22)<|l_q O (qi O O (b_lss ·))<|lc<|t_if O (fun h1 => ?_) fun h1 => ?_
 ·skip
  have hik : i < k := by omega
  have hcell : CellAt A ⟨b, o + ((i : Nat) : Int).toNat, none⟩ (.int .i64 (W i)) := by rw [Int.toNat_natCast]; exact hA i hik
  refine t_skip<|n_code<|t_seq<|t_block<|t_region<|mv O O<|mv O O<|mv O O<|l_q O (q_indexAddr1 O O yU22 yS3 (by omega)) ?_
  apply l_q O
  ·apply q_loadR (A := A) rfl yA3
   ·exact tk
   ·exact hcell
  refine lcf O O O (word_ok (W i)) ?_
  rintro v L' rfl
  refine l_nm ?_
  refine l_shape .here fun _ hs16 => ?_
  obtain ⟨a16, c16, rfl, ha16, _, _⟩ := hs16
  obtain ⟨gw, rfl⟩ := ha16 (by decide)
  refine o_appendR (sz := 1) (n := 8 * i) (m := 8) (a0 := ⟨gw, 0, none⟩) (v := vb) (xs := memV (hdF W) (8 * i)) (memV (byteN (IntKind.u64.wrap (W i))) 8) rfl rfl rfl Tryz.underlying117 yI5 O O tk (reads_mem0 (by exact tk)) (by rw [memV_len]) (List.all_eq_true.2 (memV_one _ _)) (by simp only [maxLen]; omega) (by omega) fun v17 => ?_
  refine asg O O<|l_nil<|n_blk<|n_code<|t_region<|mv O O<|l_q O (qadd O O) ?_
  refine asg O O<|l_nil ?_
  rw [hdF_app, show 8 * i + 8 = 8 * (i + 1) by omega]
  apply n_again ((i + 1, v17))
  ·exact (show i + 1 ≤ k by omega)
  ·dsimp only; omega
  ·exact ⟨rfl, rfl, rfl, trivial⟩
  ·exact en
 ·skip
  obtain rfl : i = k := by omega
  refine t_shape .here fun _ hvb => ?_
  obtain ⟨ab, cb, rfl, hab, _, _⟩ := hvb
  obtain ⟨gb, rfl⟩ := hab (by omega)
  refine xt O<|nz<|mv O O ?_
  apply l_q O
  ·apply q_bytesStr (strM (hdF W) 0 (8 * i)) rfl Tryz.underlying117 Tryz.underlying5 Tryz.underlying9
   ·rw [strM_size]
   ·rw [strM_bytes0 (hdF_bnd W)]; exact reads_mem0 (by exact tk)
  exact asg O O<|lc<|rt<|fr1 O ([A]) (.tmp rfl) ⟨rfl, rfl⟩
/-- The eight cells from an address on. -/
def CellsAt (A : HP) (b o : Nat) (cs : Nat → Cell) : Prop := ∀ i, i < 8 → ∀ j u, (cellV (cs i))[j]? = some u → CellAt A ((⟨b, o + i * 5, none⟩ : Addr).add j) u
theorem GroupBytes_ok (A : HP) (b o cap : Nat) (l : Lay) (hl : l.err = 0) (cs : Nat → Cell) (hok : ∀ i, i < 8 → (cs i).ok l) (hA : CellsAt A b o cs) :
  FnOk Tryz.prog 48 #[.agg #[.int .i64 l.key, .int .i64 l.elem, .int .i64 l.ka, .int .i64 l.ea, .int .i64 l.cap, .int .i64 l.eo, .int .i64 l.bo, .int .i64 l.slot, .int .i64 l.group], .slice (some ⟨b, o, none⟩) 8 cap] [A] (fun r L => r = .string (strM (encG l cs) 0 (gN l)) ∧ L = [A]) := by
 have hN := layN hl
 have hg := hN.g_eq; have hs := hN.s_eq; have hk1 := hN.k1; have he1 := hN.e1; have ho1 := hN.eo1; have hb1 := hN.bo1
 have hgl := hN.g; have hsl := hN.s; have hel := hN.eo; have hbl := hN.bo
 refine fn_intro en48 Tryz.func48 rfl rfl rfl fun Fr w0 => t_nm ?_
 refine sr<|o_boxA O O fun b2 => asg O O<|lz<|l_q O (qfa 8 rfl yU34 O O yS3)<|l_q O (qld O yA3) ?_
 apply o_makeSlice1 O O O yU117 yI5 O (by omega) (by omega)
 intro b11
 refine asg O O<|lc<|t_seq<|sr<|asg O O<|lc<|t_block ?_
 rw [show l.group.toNat = gN l from rfl, rep_memV, encP_zero l cs]
 refine t_loop (fun i : Nat => i ≤ 8) (fun i => [(1, .slice (some ⟨b, o, none⟩) 8 cap), (2, .pointer (some ⟨b2, 0, none⟩)), (5, .slice (some ⟨b11, 0, none⟩) (gN l) (gN l)), (6, .int .i64 (i : Nat))]) (fun i => ownS 5 1 (.slice (some ⟨b11, 0, none⟩) (gN l) (gN l)) (gN l) (memV (encP l cs i) (gN l)) :: pt b2 (.cells #[.int .i64 l.key, .int .i64 l.elem, .int .i64 l.ka, .int .i64 l.ea, .int .i64 l.cap, .int .i64 l.eo, .int .i64 l.bo, .int .i64 l.slot, .int .i64 l.group] 34 (0, 0)) :: A :: Fr) (fun i => 8 - i) 0 (Nat.zero_le _) ⟨rfl, rfl, rfl, rfl, trivial⟩ (by (exact en)) ?_
 intro i hi
 refine t_seq<|sr<|mv O O<|l_q O (qi O O (b_lss ·))<|lc<|t_if O (fun h1 => ?_) fun h1 => ?_
 ·skip
  have hi8 : i < 8 := by omega
  have hcell : ∀ j u, ([.int .i64 (cs i).kind, .int .i64 (cs i).tagI, .string (cs i).keyS, .string (cs i).elemS, .int .i64 (cs i).birthI])[j]? = some u → CellAt A ((⟨b, o + ((i : Nat) : Int).toNat * 5, none⟩ : Addr).add j) u := by rw [Int.toNat_natCast]; exact hA i hi8
  have hset : ∀ z, (memV (encP l cs i) (gN l)).set i (.int .u8 z) = memV (fun j => if j = i then z else encP l cs i j) (gN l) := fun z => set_memV (by omega)
  have him : ((i : Nat) : Int) * l.slot = ((i * sN l : Nat) : Int) := by rw [← hsl]; push_cast; rfl
  have hisn : i * sN l + sN l ≤ 8 * sN l := by have := Nat.mul_le_mul_right (sN l) (show i + 1 ≤ 8 by omega); rw [Nat.add_mul] at this; omega
  refine t_skip<|n_code<|t_seq<|t_block<|sr<|mv O O<|mv O O<|l_q O (q_indexAddr O O yU43 yS142 (by omega)) ?_
  apply l_q O
  ·apply q_loadRA (A := A) (us := [.int .i64 (cs i).kind, .int .i64 (cs i).tagI, .string (cs i).keyS, .string (cs i).elemS, .int .i64 (cs i).birthI]) rfl yA142 yS142 O
   ·exact tk
   ·exact hcell
  refine o_allocA O yZ142 fun b7 => sta O O O yS142 O O ?_
  refine lz<|l_q O (qfa 0 rfl yU142 O O yS3)<|l_q O (qld O yA3) ?_
  refine lc<|t_block<|sr<|l_q O (qi O O (b_eql ·))<|asg O O<|lc<|t_if O (fun p1 => ?_) fun p1 => ?_
  ·skip
   have hb : (cs i).ctrl = 128 ∧ isFull (cs i) = false := by cases hh : cs i <;> rw [hh] at p1 <;> simp [Cell.kind] at p1 <;> exact ⟨rfl, rfl⟩
   refine t_region<|mv O O<|mv O O<|l_q O (q_indexAddr1 O O yU117 yS5 (by omega)) ?_
   apply o_storeOwn (xs' := memV (fun j => if j = i then 128 else encP l cs i j) (gN l)) rfl rfl rfl yS5 O
   ·exact tk
   ·omega
   ·rw [Int.toNat_natCast, Nat.zero_add]; exact hset 128
   refine l_nil<|n_blk<|n_blk<|n_code<|t_region<|mv O O<|l_q O (qadd O O) ?_
   refine asg O O<|l_nil ?_
   rw [encP_none hN cs hi8 hb.1 hb.2]
   apply n_again ((i + 1))
   ·exact (show i + 1 ≤ 8 by omega)
   ·omega
   ·exact ⟨rfl, rfl, rfl, rfl, trivial⟩
   ·exact en
  ·refine sr<|l_q O (qi O O (b_eql ·))<|asg O O<|lc<|t_if O (fun p2 => ?_) fun p2 => ?_
   ·skip
    have hb : (cs i).ctrl = 254 ∧ isFull (cs i) = false := by cases hh : cs i <;> rw [hh] at p2 <;> simp [Cell.kind] at p2 <;> exact ⟨rfl, rfl⟩
    refine t_region<|mv O O<|mv O O<|l_q O (q_indexAddr1 O O yU117 yS5 (by omega)) ?_
    apply o_storeOwn (xs' := memV (fun j => if j = i then 254 else encP l cs i j) (gN l)) rfl rfl rfl yS5 O
    ·exact tk
    ·omega
    ·rw [Int.toNat_natCast, Nat.zero_add]; exact hset 254
    refine l_nil<|n_blk<|n_blk<|n_code<|t_region<|mv O O<|l_q O (qadd O O) ?_
    refine asg O O<|l_nil ?_
    rw [encP_none hN cs hi8 hb.1 hb.2]
    apply n_again ((i + 1))
    ·exact (show i + 1 ≤ 8 by omega)
    ·omega
    ·exact ⟨rfl, rfl, rfl, rfl, trivial⟩
    ·exact en
   ·skip
    obtain ⟨t, k, e, bi, hc⟩ : ∃ t k e bi, cs i = .full t k e bi := by cases hh : cs i with | empty => (rw [hh] at p1; exact absurd rfl p1) | deleted => (rw [hh] at p2; exact absurd rfl p2) | full t k e bi => exact ⟨t, k, e, bi, rfl⟩
    have hck := hok i hi8
    rw [hc] at hck
    obtain ⟨ht0, ht1, hks, hes, hbi0, hbi1⟩ := hck
    rw [show (cs i).tagI = t by rw [hc]; rfl, show (cs i).keyS = k by rw [hc]; rfl, show (cs i).elemS = e by rw [hc]; rfl, show (cs i).birthI = bi by rw [hc]; rfl]
    have ht8 : IntKind.u8.wrap t = t := wrap_u8 (by omega)
    have hat0 : (8 + ((i : Nat) : Int) * l.slot).toNat = 8 + i * sN l := by rw [him]; omega
    have hat1 : (8 + ((i : Nat) : Int) * l.slot + l.eo).toNat = 8 + i * sN l + eoN l := by rw [him]; omega
    have hat2 : (8 + ((i : Nat) : Int) * l.slot + l.bo).toNat = 8 + i * sN l + boN l := by rw [him]; omega
    have hw := word_ok bi
    rw [show IntKind.u64.wrap bi = bi by rw [IntKind.wrap_u64]; omega] at hw
    refine sr<|mv O O<|mv O O<|l_q O (qfa 1 rfl yU142 O O yS3)<|l_q O (qld O yA3) ?_
    refine l_q O (qcv O yU3 yU5) ?_
    refine l_q O (q_indexAddr1 O O yU117 yS5 (by omega)) ?_
    apply o_storeOwn (xs' := memV (fun j => if j = i then t else encP l cs i j) (gN l)) rfl rfl rfl yS5 O
    ·exact tk
    ·omega
    ·rw [Int.toNat_natCast, Nat.zero_add]; exact hset t
    refine lz<|mv O O<|l_q O (qfa 7 rfl yU34 O O yS3)<|l_q O (qld O yA3) ?_
    refine l_q O (qmul O O) ?_
    refine l_q O (qadd O O) ?_
    refine asg O O<|lc<|t_seq<|t_draw mixed ?_
    apply dq 0 rfl
    ·exact yq (q_move O)
    apply dq 1 rfl
    ·exact yq (q_move O)
    apply dq 2 rfl
    ·exact yq (q_slice_l O O  yU117 yS5 (by omega))
    apply dq 3 rfl
    ·exact yq (qfa 2 rfl yU142 O O yS9)
    apply dq 4 rfl
    ·exact yq (qld O yA9)
    refine d_eff1 [2, 4, 0, 1, 3] [] 5 [(35, _), (37, _)] gO ⟨rfl, rfl, trivial⟩ (by kernel_rfl) (by kernel_rfl) fun Ex => ?_
    apply o_copyStr (s := k) (xs' := memV (layM (fun j => if j = i then t else encP l cs i j) (8 + i * sN l) k.size (byteAt k)) (gN l)) rfl rfl rfl Tryz.underlying117 (by obtain ⟨i, h1, _, h2, _⟩ := yI5; exact ⟨i, h1, h2⟩)
    ·exact tk
    ·omega
    ·rw [hat0]; exact tail_le (by omega) (Nat.le_refl _)
    ·rw [hat0, bytesV_memV]; exact lay_tail (by omega) (Nat.le_refl _)
    refine l_nil ?_
    apply n_d
    ·exact trivial
    refine d_end (by kernel_rfl) ?_
    refine n_code<|t_seq<|t_draw mixed ?_
    apply dq 0 rfl
    ·exact yq (q_move O)
    apply dq 1 rfl
    ·exact yq (q_move O)
    apply dq 2 rfl
    ·exact yq (qfa 5 rfl yU34 O O yS3)
    apply dq 3 rfl
    ·exact yq (qld O yA3)
    apply dq 4 rfl
    ·exact yq (qadd O O)
    apply dq 5 rfl
    ·exact yq (q_slice_l O O  yU117 yS5 (by omega))
    apply dq 6 rfl
    ·exact yq (qfa 3 rfl yU142 O O yS9)
    apply dq 7 rfl
    ·exact yq (qld O yA9)
    refine d_eff1 [5, 7, 0, 4, 6, 1, 3, 2] [] 8 [(44, _), (46, _)] gO ⟨rfl, rfl, trivial⟩ (by kernel_rfl) (by kernel_rfl) fun Ex => ?_
    apply o_copyStr (s := e) (xs' := memV (layM (layM (fun j => if j = i then t else encP l cs i j) (8 + i * sN l) k.size (byteAt k)) (8 + i * sN l + eoN l) e.size (byteAt e)) (gN l)) rfl rfl rfl Tryz.underlying117 (by obtain ⟨i, h1, _, h2, _⟩ := yI5; exact ⟨i, h1, h2⟩)
    ·exact tk
    ·omega
    ·rw [hat1]; exact tail_le (by omega) (Nat.le_refl _)
    ·rw [hat1, bytesV_memV]; exact lay_tail (by omega) (Nat.le_refl _)
    refine l_nil ?_
    apply n_d
    ·exact trivial
    refine d_end (by kernel_rfl) ?_
    refine n_code<|t_draw mixed ?_
    apply dq 0 rfl
    ·exact yq (q_move O)
    apply dq 1 rfl
    ·exact yq (q_move O)
    apply dq 2 rfl
    ·exact yq (qfa 6 rfl yU34 O O yS3)
    apply dq 3 rfl
    ·exact yq (qld O yA3)
    apply dq 4 rfl
    ·exact yq (qadd O O)
    apply dq 5 rfl
    ·exact yq (q_slice_l O O  yU117 yS5 (by omega))
    apply dq 6 rfl
    ·exact yq (qfa 4 rfl yU142 O O yS3)
    apply dq 7 rfl
    ·exact yq (qld O yA3)
    refine d_eff1 [7, 6] [5, 4, 3, 2, 1, 0] 8 [(55, _)] gO ⟨rfl, trivial⟩ (by kernel_rfl) (by kernel_rfl) fun Ex => ?_
    refine lcf O O O (hw) ?_
    rintro v56 L' rfl
    refine l_nm ?_
    refine l_nil ?_
    apply n_d
    ·refine ⟨?_, ?_, ?_, ?_, ?_, ?_, trivial⟩
     ·apply ya O O; exact yq (q_slice_l O O  yU117 yS5 (by omega))
     ·apply ya O O; exact yq (qadd O O)
     ·apply ya O O; exact yq (qld O yA3)
     ·apply ya O O; exact yq (qfa 6 rfl yU34 O O yS3)
     ·apply ya O O; exact yq (q_move O)
     ·apply ya O O; exact yq (q_move O)
    refine d_eff1 [5, 0, 4, 1, 3, 2] [] 9 [(53, _), (56, _)] gO ⟨rfl, rfl, trivial⟩ (by kernel_rfl) (by kernel_rfl) fun Ex => ?_
    refine l_shape (v := v56) tk fun _ hs56 => ?_
    obtain ⟨a56, c56, rfl, ha56, _, _⟩ := hs56
    obtain ⟨g56, rfl⟩ := ha56 (by decide)
    apply o_copy (memV (byteN bi) 8) rfl rfl rfl Tryz.underlying117 (by obtain ⟨i, h1, _, h2, _⟩ := yI5; exact ⟨i, h1, h2⟩)
    ·exact tk
    ·rw [memV_len, hat2]; exact (Nat.min_eq_left (by omega)).symm
    ·exact reads_mem0 (by exact tk)
    ·rw [memV_len, hat2]; exact tail_le (by omega) (Nat.le_refl _)
    ·exact memV_one _ _
    rw [hat2, lay_tail (by omega) (Nat.le_refl _)]
    refine l_nil ?_
    apply n_d
    ·exact trivial
    refine d_end (by kernel_rfl) ?_
    refine n_blk<|n_blk<|n_code<|t_region<|mv O O<|l_q O (qadd O O) ?_
    refine asg O O<|l_nil ?_
    -- again 
    rw [encP_some hN cs hi8 hc hks hes]
    apply n_again ((i + 1))
    ·exact (show i + 1 ≤ 8 by omega)
    ·omega
    ·exact ⟨rfl, rfl, rfl, rfl, trivial⟩
    ·exact en
 ·skip
  obtain rfl : i = 8 := by omega
  rw [encP_full hN cs]
  refine xt O<|nz<|mv O O ?_
  apply l_q O
  ·apply q_bytesStr (strM (encG l cs) 0 (gN l)) rfl Tryz.underlying117 Tryz.underlying5 Tryz.underlying9
   ·rw [strM_size]
   ·rw [strM_bytes0 (encG_bnd hok)]; exact reads_mem0 (by exact tk)
  exact asg O O<|lc<|rt<|fr1 O ([A]) (.tmp rfl) ⟨rfl, rfl⟩
end Go.Proofs.YthkajgkagnenbaaGreatDoor.BytesP
