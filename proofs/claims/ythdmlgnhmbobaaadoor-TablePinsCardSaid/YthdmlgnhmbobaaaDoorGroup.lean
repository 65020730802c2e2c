/- The contracts of package group: eight slots in an arena. -/
import Derived.Test.YthdmlgnhmbobaaaDoorArenaW
import Derived.Test.YthdmlgnhmbobaaaDoorGroupB
import Derived.Test.YthdmlgnhmbobaaaDoorCtrl
import Derived.Test.YthdmlgnhmbobaaaDoorLayout
set_option linter.unusedVariables false
set_option linter.unusedSimpArgs false
set_option maxRecDepth 100000
namespace Go.Proofs.YthdmlgnhmbobaaaDoor.Group
open Go.RowKit Go.Proofs Go.Proofs.YthdmlgnhmbobaaaDoor.Eng Go.Proofs.YthdmlgnhmbobaaaDoor.Ty Go.Proofs.YthdmlgnhmbobaaaDoor.Bits Go.Proofs.YthdmlgnhmbobaaaDoor.Mem Go.Proofs.YthdmlgnhmbobaaaDoor.Search Go.Proofs.YthdmlgnhmbobaaaDoor.Arena Go.Proofs.YthdmlgnhmbobaaaDoor.CtrlB Go.Proofs.YthdmlgnhmbobaaaDoor.Ctrl Go.Proofs.YthdmlgnhmbobaaaDoor.Layout Go.Proofs.YthdmlgnhmbobaaaDoor.GroupB

/-- What a slot holds, as a value's parts. -/
def _root_.Go.Proofs.YthdmlgnhmbobaaaDoor.GroupB.Cell.kind : Cell → Int | .empty => 0 | .deleted => 1 | .full _ _ _ _ => 2
def _root_.Go.Proofs.YthdmlgnhmbobaaaDoor.GroupB.Cell.tagI : Cell → Int | .full t _ _ _ => t | _ => 0
def _root_.Go.Proofs.YthdmlgnhmbobaaaDoor.GroupB.Cell.keyS : Cell → ByteArray | .full _ k _ _ => k | _ => ⟨#[]⟩
def _root_.Go.Proofs.YthdmlgnhmbobaaaDoor.GroupB.Cell.elemS : Cell → ByteArray | .full _ _ e _ => e | _ => ⟨#[]⟩
def _root_.Go.Proofs.YthdmlgnhmbobaaaDoor.GroupB.Cell.birthI : Cell → Int | .full _ _ _ b => b | _ => 0

/-! ### The control word -/
def ctF (cs : Nat → Cell) : Byt := fun i => (cs i).ctrl.toNat
theorem ct_cast {l : Lay} {cs : Nat → Cell} (h : ∀ i, i < 8 → (cs i).ok l) {i : Nat} (hi : i < 8) : ((ctF cs i : Nat) : Int) = (cs i).ctrl := by
  have := Cell.ctrl_bnd (h i hi); unfold ctF; omega
theorem ok_ct {l : Lay} {cs : Nat → Cell} (h : ∀ i, i < 8 → (cs i).ok l) : okB (ctF cs) := fun i hi => by
  have := Cell.ctrl_bnd (h i hi); have := ct_cast h hi; omega
theorem wI_bnd {f : Byt} (hf : okB f) : 0 ≤ wI f ∧ wI f < 18446744073709551616 := by
  have := wd_lt hf
  show 0 ≤ ((wd f : Nat) : Int) ∧ ((wd f : Nat) : Int) < _
  omega
def isF : Cell → Bool | .full _ _ _ _ => true | _ => false
theorem load_wd {m : Nat → Int} {o : Nat} {f : Byt} (h : ∀ i, i < 8 → m (o + i) = ((f i : Nat) : Int)) : loadN m o 8 = wI f := by
  have h0 := h 0 (by decide); have h1 := h 1 (by decide); have h2 := h 2 (by decide); have h3 := h 3 (by decide)
  have h4 := h 4 (by decide); have h5 := h 5 (by decide); have h6 := h 6 (by decide); have h7 := h 7 (by decide)
  simp only [loadN, wI, wd, lst, ofB]
  rw [h0, h1, h2, h3, h4, h5, h6, h7]
  simp only [show (2 : Int) ^ (8 * 0) = 1 from rfl, show (2 : Int) ^ (8 * 1) = 256 from rfl, show (2 : Int) ^ (8 * 2) = 65536 from rfl, show (2 : Int) ^ (8 * 3) = 16777216 from rfl, show (2 : Int) ^ (8 * 4) = 4294967296 from rfl, show (2 : Int) ^ (8 * 5) = 1099511627776 from rfl, show (2 : Int) ^ (8 * 6) = 281474976710656 from rfl, show (2 : Int) ^ (8 * 7) = 72057594037927936 from rfl]
  push_cast
  omega
theorem load_ctrl {m : Nat → Int} {off : Nat} {l : Lay} {cs : Nat → Cell} (hG : GAt m off l cs) (hN : LayN l) (h : ∀ i, i < 8 → (cs i).ok l) : loadN m off 8 = wI (ctF cs) :=
  load_wd fun i hi => by rw [hG.ctrl hN hi, ct_cast h hi]
theorem byte_wd {f : Byt} (hf : okB f) {j : Nat} (hj : j < 8) : byteN (wI f) j = ((f j : Nat) : Int) := by
  have := wd_div f hf j hj
  unfold byteN
  rw [← pow_cast, ← Int.natCast_ediv, ← this]
  exact (Int.natCast_emod _ 256).symm
theorem put_put {s : ArS} {a b c d o k : Nat} {f g h : Nat → Int} (e : layM (layM s.m a b f) c d g = layM s.m o k h) : (s.put a b f).put c d g = s.put o k h := by
  unfold ArS.put; simp only [e]

/-! ### Errors -/
def firstE : List Int → Int
  | [] => 0
  | e :: r => if e = 0 then firstE r else e
theorem first_ok (p k : Nat) (es : List Int) (hk : es.length = k) (hkb : k ≤ 1000) : FnOk Tryd.prog 80 #[.slice (some ⟨p, 0, none⟩) k k] [pt p (.cells (ints es).toArray 31 (0, 0))] (fun v L => v = .int .i64 (firstE es) ∧ L = []) := by
  subst hk
  refine fn_intro en80 Tryd.func80 rfl rfl rfl ?_
  intro Fr w0
  refine t_nm ?_
  refine t_seq ?_
  refine t_region ?_
  refine l_q rfl (q_assign rfl) ?_
  refine l_nil ?_
  refine n_code ?_
  refine t_seq ?_
  refine t_seq ?_
  refine t_region ?_
  refine l_q rfl (q_move rfl) ?_
  refine l_q rfl (q_len rfl (fun w => len_slice Tryd.underlying194 w)) ?_
  refine l_q rfl (q_move rfl) ?_
  refine l_nil ?_
  refine n_code ?_
  refine t_block ?_
  refine t_loop (fun j : Nat => j ≤ es.length ∧ firstE (es.drop j) = firstE es) (fun j => [(5, .slice (some ⟨p, 0, none⟩) es.length es.length), (6, .int .i64 es.length), (7, .int .i64 j)]) (fun j => pt p (.cells (ints es).toArray 31 (0, 0)) :: Fr) (fun j => es.length - j) 0 ⟨by omega, by simp⟩ ⟨rfl, rfl, rfl, trivial⟩ (Ent.refl _) ?_
  rintro j ⟨hj, hd⟩
  refine t_seq ?_
  refine t_region ?_
  apply l_q rfl
  · apply q_bin rfl rfl (fun w => g_int w); exact fun w => b_lss w
  refine l_nil ?_
  refine n_code ?_
  refine t_seq ?_
  first | refine t_cond_d rfl (fun h => ?_) (fun h => ?_) | refine t_cond_n rfl (fun h => ?_) (fun h => ?_) | refine t_cond rfl (fun h => ?_) (fun h => ?_)
  · have hjl : j < es.length := by omega
    rw [List.drop_eq_getElem_cons hjl] at hd
    simp only [firstE] at hd
    refine t_skip ?_
    refine n_code ?_
    refine t_seq ?_
    refine t_block ?_
    refine t_seq ?_
    refine t_region ?_
    refine l_q rfl (q_indexAddr1 rfl rfl Tryd.underlying194 ty_size31 (by omega)) ?_
    apply l_q rfl
    · apply q_load rfl ty_agg31
      · exact tk
      · rw [Nat.zero_add, Int.toNat_natCast]; simp [ints, hjl]; rfl
    refine l_q rfl (q_assign rfl) ?_
    refine l_nil ?_
    refine n_code ?_
    refine t_seq ?_
    refine t_region ?_
    refine l_q rfl (q_move rfl) ?_
    apply l_q rfl
    · apply q_bin rfl rfl (fun w => g_int w); exact fun w => b_neq w
    refine l_nil ?_
    refine n_code ?_
    first | refine t_cond_d rfl (fun q => ?_) (fun q => ?_) | refine t_cond_n rfl (fun q => ?_) (fun q => ?_) | refine t_cond rfl (fun q => ?_) (fun q => ?_)
    · refine t_seq ?_
      refine t_region ?_
      refine l_q rfl (q_move rfl) ?_
      refine l_q rfl (q_assign rfl) ?_
      refine l_nil ?_
      refine n_code ?_
      refine t_ret ?_
      refine r_blk ?_
      refine r_code ?_
      refine r_lp ?_
      refine r_blk ?_
      refine r_code ?_
      apply f_ret (.inl rfl) ([])
      · apply res1 rfl
        · exact .tmp rfl
      · exact ⟨by rw [if_neg q] at hd; rw [hd], rfl⟩
      · exact en
    · refine t_skip ?_
      refine n_blk ?_
      refine n_code ?_
      refine t_region ?_
      apply l_q rfl
      · apply q_bin rfl rfl (fun w => g_int w); first | exact fun w => b_add_i w (by omega) | exact fun w => b_add w
      refine l_q rfl (q_move rfl) ?_
      refine l_nil ?_
      apply n_again ((j + 1))
      · exact ⟨by omega, by rw [if_pos (Classical.not_not.1 q)] at hd; exact hd⟩
      · omega
      · exact ⟨rfl, rfl, rfl, trivial⟩
      · exact en
  · refine t_exit ?_
    refine x_code ?_
    refine x_lp ?_
    refine x_hit ?_
    refine n_code ?_
    refine t_seq ?_
    refine t_region ?_
    refine l_q rfl (q_assign rfl) ?_
    refine l_nil ?_
    refine n_code ?_
    refine t_ret ?_
    have hz : es.drop j = [] := List.drop_eq_nil_of_le (by omega)
    rw [hz] at hd
    apply f_ret (.inl rfl) ([])
    · apply res1 rfl
      · exact .tmp rfl
    · exact ⟨by rw [← hd]; rfl, rfl⟩
    · exact en
theorem first2_ok (p : Nat) (a b : Int) : FnOk Tryd.prog 80 #[.slice (some ⟨p, 0, none⟩) 2 2] [pt p (.cells #[.int .i64 a, .int .i64 b] 31 (0, 0))] (fun v L => v = .int .i64 (firstE [a, b]) ∧ L = []) := first_ok p 2 [a, b] rfl (by decide)
theorem first3_ok (p : Nat) (a b c : Int) : FnOk Tryd.prog 80 #[.slice (some ⟨p, 0, none⟩) 3 3] [pt p (.cells #[.int .i64 a, .int .i64 b, .int .i64 c] 31 (0, 0))] (fun v L => v = .int .i64 (firstE [a, b, c]) ∧ L = []) := first_ok p 3 [a, b, c] rfl (by decide)
theorem first6_ok (p : Nat) (a b c d e f : Int) : FnOk Tryd.prog 80 #[.slice (some ⟨p, 0, none⟩) 6 6] [pt p (.cells #[.int .i64 a, .int .i64 b, .int .i64 c, .int .i64 d, .int .i64 e, .int .i64 f] 31 (0, 0))] (fun v L => v = .int .i64 (firstE [a, b, c, d, e, f]) ∧ L = []) := first_ok p 6 [a, b, c, d, e, f] rfl (by decide)
theorem when_ok (b : Bool) (e : Int) : FnOk Tryd.prog 82 #[.bool b, .int .i64 e] [] (fun v L => v = .int .i64 (if b then e else 0) ∧ L = []) := by
  refine fn_intro en82 Tryd.func82 rfl rfl rfl ?_
  intro Fr w0
  refine t_nm ?_
  refine t_seq ?_
  refine t_region ?_
  refine l_q rfl (q_assign rfl) ?_
  refine l_nil ?_
  refine n_code ?_
  refine t_seq ?_
  refine t_seq ?_
  refine t_region ?_
  refine l_q rfl (q_move rfl) ?_
  refine l_nil ?_
  refine n_code ?_
  first | refine t_cond_d rfl (fun h => ?_) (fun h => ?_) | refine t_cond_n rfl (fun h => ?_) (fun h => ?_) | refine t_cond rfl (fun h => ?_) (fun h => ?_)
  · refine t_seq ?_
    refine t_region ?_
    refine l_q rfl (q_move rfl) ?_
    refine l_q rfl (q_assign rfl) ?_
    refine l_nil ?_
    refine n_code ?_
    refine t_ret ?_
    refine r_code ?_
    apply f_ret (.inl rfl) ([])
    · apply res1 rfl
      · exact .tmp rfl
    · exact ⟨by rw [h]; rfl, rfl⟩
    · exact en
  · refine t_skip ?_
    refine n_code ?_
    refine t_seq ?_
    refine t_region ?_
    refine l_q rfl (q_assign rfl) ?_
    refine l_nil ?_
    refine n_code ?_
    refine t_ret ?_
    apply f_ret (.inl rfl) ([])
    · apply res1 rfl
      · exact .tmp rfl
    · exact ⟨by rw [h]; rfl, rfl⟩
    · exact en
theorem slot_ok (i : Int) (h0 : 0 ≤ i) (h1 : i < 8) : FnOk Tryd.prog 81 #[.int .i64 i] [] (fun v L => v = .int .i64 0 ∧ L = []) := by
  refine fn_intro en81 Tryd.func81 rfl rfl rfl ?_
  intro Fr w0
  refine t_nm ?_
  refine t_seq ?_
  refine t_region ?_
  refine l_q rfl (q_assign rfl) ?_
  refine l_nil ?_
  refine n_code ?_
  refine t_seq ?_
  refine t_seq ?_
  refine t_region ?_
  refine l_q rfl (q_move rfl) ?_
  apply l_q rfl
  · apply q_bin rfl rfl (fun w => g_int w); exact fun w => b_lss w
  refine l_q rfl (q_move rfl) ?_
  first | refine l_part_d (t := 5) rfl (fun h => ?_) (fun h => ?_) | refine l_part_n (t := 5) rfl (fun h => ?_) (fun h => ?_) | refine l_part (t := 5) rfl (fun h => ?_) (fun h => ?_)
  · omega
  · refine l_on rfl rfl ?_
    refine l_q rfl (q_move rfl) ?_
    refine l_on rfl rfl ?_
    apply l_q rfl
    · apply q_bin rfl rfl (fun w => g_int w); exact fun w => b_geq w
    first | refine l_q rfl (q_pick_t rfl rfl) ?_ | refine l_q rfl (q_pick_f rfl rfl) ?_
    refine l_nil ?_
    refine n_code ?_
    first | refine t_cond_d rfl (fun h2 => ?_) (fun h2 => ?_) | refine t_cond_n rfl (fun h2 => ?_) (fun h2 => ?_) | refine t_cond rfl (fun h2 => ?_) (fun h2 => ?_)
    · omega
    · refine t_skip ?_
      refine n_code ?_
      refine t_seq ?_
      refine t_region ?_
      refine l_q rfl (q_assign rfl) ?_
      refine l_nil ?_
      refine n_code ?_
      refine t_ret ?_
      apply f_ret (.inl rfl) ([])
      · apply res1 rfl
        · exact .tmp rfl
      · exact ⟨rfl, rfl⟩
      · exact en

/-! ### The group -/
theorem At_ok (pa off : Nat) (l : Lay) : FnOk Tryd.prog 33 #[.pointer (some ⟨pa, 0, none⟩), .agg l.cells, .int .i64 off] [] (fun v L => v = .agg #[.pointer (some ⟨pa, 0, none⟩), .int .i64 l.key, .int .i64 l.elem, .int .i64 l.ka, .int .i64 l.ea, .int .i64 l.cap, .int .i64 l.eo, .int .i64 l.bo, .int .i64 l.slot, .int .i64 l.group, .int .i64 off] ∧ L = []) := by
  refine fn_intro en33 Tryd.func33 rfl rfl rfl ?_
  intro Fr w0
  refine t_nm ?_
  refine t_seq ?_
  refine t_region ?_
  refine o_boxA rfl rfl (fun b4 => ?_)
  refine o_allocA rfl ty_zero96 (fun b6 => ?_)
  refine l_nil ?_
  refine n_code ?_
  refine t_seq ?_
  refine t_region ?_
  refine l_q rfl (q_move rfl) ?_
  refine l_q rfl (q_loadAggL rfl ty_agg27 ty_size27 tk sb) ?_
  refine l_q rfl (q_move rfl) ?_
  apply l_q rfl
  · apply q_buildS rfl ty_pl96 ty_zero96
    · apply FillR.one
      · repeat (first | exact PlAt.here | apply PlAt.there)
      · rfl
      · exact sa
      apply FillR.all
      · repeat (first | exact PlAt.here | apply PlAt.there)
      · rfl
      · simp
      · exact sal
      apply FillR.one
      · repeat (first | exact PlAt.here | apply PlAt.there)
      · rfl
      · exact sa
      exact FillR.nil
  apply o_storeAggL rfl rfl rfl ty_size96 rfl rfl (by simp)
  · exact tk
  · exact sal
  refine l_nil ?_
  refine n_code ?_
  refine t_ret ?_
  apply f_ret (.inl rfl) ([])
  · apply res1 rfl
    · apply Rv.agg rfl
      · exact tk
      · exact run_loadAll ty_agg96 ty_size96 rfl
  · exact ⟨rfl, rfl⟩
  · exact en
section
variable (pa off : Nat) (s : ArS) (l : Lay) (hl : l.err = 0) (hg : goodP s off l.group)
include hl hg
theorem there_ok : FnOk Tryd.prog 66 #[.agg #[.pointer (some ⟨pa, 0, none⟩), .int .i64 l.key, .int .i64 l.elem, .int .i64 l.ka, .int .i64 l.ea, .int .i64 l.cap, .int .i64 l.eo, .int .i64 l.bo, .int .i64 l.slot, .int .i64 l.group, .int .i64 off]] [arenaH pa s] (fun v L => v = .int .i64 0 ∧ L = [arenaH pa s]) := by
  have hN := layN hl
  refine fn_intro en66 Tryd.func66 rfl rfl rfl ?_
  intro Fr w0
  refine t_nm ?_
  refine t_seq ?_
  refine t_region ?_
  refine o_boxA rfl rfl (fun b1 => ?_)
  refine l_q rfl (q_assign rfl) ?_
  refine l_nil ?_
  refine n_code ?_
  refine t_seq ?_
  refine t_seq ?_
  refine t_region ?_
  first | refine l_q rfl (q_fieldAddr0 1 rfl Tryd.underlying96 rfl rfl ty_size27) ?_ | refine l_q rfl (q_fieldAddrK 1 rfl Tryd.underlying96 rfl rfl ty_size27) ?_
  refine l_q rfl (q_loadAggL rfl ty_agg27 ty_size27 tk sb) ?_
  apply l_callf rfl rfl rfl (Valid_yes l hl)
  · exact pk
  rintro v L' ⟨rfl, rfl⟩
  refine l_nm ?_
  refine l_q rfl (q_un rfl (fun w => u_not w)) ?_
  refine l_nil ?_
  refine n_code ?_
  first | refine t_cond_d rfl (fun z => ?_) (fun z => ?_) | refine t_cond_n rfl (fun z => ?_) (fun z => ?_) | refine t_cond rfl (fun z => ?_) (fun z => ?_)
  · exact absurd z (by simp)
  · refine t_skip ?_
    refine n_code ?_
    refine t_seq ?_
    refine t_region ?_
    first | refine l_q rfl (q_fieldAddr0 0 rfl Tryd.underlying96 rfl rfl ty_size30) ?_ | refine l_q rfl (q_fieldAddrK 0 rfl Tryd.underlying96 rfl rfl ty_size30) ?_
    refine l_q rfl (q_loadL rfl ty_agg30 tk ga) ?_
    first | refine l_q rfl (q_fieldAddr0 10 rfl Tryd.underlying96 rfl rfl ty_size3) ?_ | refine l_q rfl (q_fieldAddrK 10 rfl Tryd.underlying96 rfl rfl ty_size3) ?_
    refine l_q rfl (q_loadL rfl ty_agg3 tk ga) ?_
    first | refine l_q rfl (q_fieldAddr0 10 rfl Tryd.underlying96 rfl rfl ty_size3) ?_ | refine l_q rfl (q_fieldAddrK 10 rfl Tryd.underlying96 rfl rfl ty_size3) ?_
    refine l_q rfl (q_loadL rfl ty_agg3 tk ga) ?_
    first | refine l_q rfl (q_fieldAddr0 1 rfl Tryd.underlying96 rfl rfl ty_size27) ?_ | refine l_q rfl (q_fieldAddrK 1 rfl Tryd.underlying96 rfl rfl ty_size27) ?_
    first | refine l_q rfl (q_fieldAddr0 8 rfl Tryd.underlying27 rfl rfl ty_size3) ?_ | refine l_q rfl (q_fieldAddrK 8 rfl Tryd.underlying27 rfl rfl ty_size3) ?_
    refine l_q rfl (q_loadL rfl ty_agg3 tk ga) ?_
    apply l_callf rfl rfl rfl (Equal_okI pa s _ _ _ off off (gN l) rfl rfl hN.g.symm hg hg)
    · exact pk
    rintro v L' ⟨⟨q, rfl, _⟩, rfl⟩
    refine l_nm ?_
    refine l_q rfl (q_move rfl) ?_
    refine l_q rfl (q_extractL rfl ga) ?_
    refine l_q rfl (q_extractL rfl ga) ?_
    refine l_q rfl (q_assign rfl) ?_
    refine l_q rfl (q_assign rfl) ?_
    refine l_nil ?_
    refine n_code ?_
    refine t_seq ?_
    refine t_region ?_
    refine l_q rfl (q_move rfl) ?_
    refine l_q rfl (q_assign rfl) ?_
    refine l_nil ?_
    refine n_code ?_
    refine t_ret ?_
    apply f_ret (.inl rfl) ([arenaH pa s])
    · apply res1 rfl
      · exact .tmp rfl
    · exact ⟨rfl, rfl⟩
    · exact en
theorem Reset_ok : FnOk Tryd.prog 34 #[.agg #[.pointer (some ⟨pa, 0, none⟩), .int .i64 l.key, .int .i64 l.elem, .int .i64 l.ka, .int .i64 l.ea, .int .i64 l.cap, .int .i64 l.eo, .int .i64 l.bo, .int .i64 l.slot, .int .i64 l.group, .int .i64 off]] [arenaH pa s] (fun v L => v = .int .i64 0 ∧ L = [arenaH pa (s.put off (gN l) (encG l fun _ => .empty))]) := by
  have hN := layN hl
  have hn8 := hN.g_eq
  have hng := hN.g
  refine fn_intro en34 Tryd.func34 rfl rfl rfl ?_
  intro Fr w0
  refine t_nm ?_
  refine t_seq ?_
  refine t_region ?_
  refine o_boxA rfl rfl (fun b1 => ?_)
  refine l_q rfl (q_assign rfl) ?_
  refine l_nil ?_
  refine n_code ?_
  refine t_seq ?_
  refine t_seq ?_
  refine t_region ?_
  refine l_q rfl (q_loadAggL rfl ty_agg96 ty_size96 tk sb) ?_
  apply l_callf rfl rfl rfl (there_ok pa off s l hl hg)
  · exact pk
  rintro v L' ⟨rfl, rfl⟩
  refine l_nm ?_
  refine l_q rfl (q_assign rfl) ?_
  refine l_nil ?_
  refine n_code ?_
  refine t_seq ?_
  refine t_region ?_
  refine l_q rfl (q_move rfl) ?_
  apply l_q rfl
  · apply q_bin rfl rfl (fun w => g_int w); exact fun w => b_neq w
  refine l_nil ?_
  refine n_code ?_
  first | refine t_cond_d rfl (fun z => ?_) (fun z => ?_) | refine t_cond_n rfl (fun z => ?_) (fun z => ?_) | refine t_cond rfl (fun z => ?_) (fun z => ?_)
  · exact absurd rfl z
  · refine t_skip ?_
    refine n_code ?_
    refine t_seq ?_
    refine t_region ?_
    first | refine l_q rfl (q_fieldAddr0 0 rfl Tryd.underlying96 rfl rfl ty_size30) ?_ | refine l_q rfl (q_fieldAddrK 0 rfl Tryd.underlying96 rfl rfl ty_size30) ?_
    refine l_q rfl (q_loadL rfl ty_agg30 tk ga) ?_
    first | refine l_q rfl (q_fieldAddr0 10 rfl Tryd.underlying96 rfl rfl ty_size3) ?_ | refine l_q rfl (q_fieldAddrK 10 rfl Tryd.underlying96 rfl rfl ty_size3) ?_
    refine l_q rfl (q_loadL rfl ty_agg3 tk ga) ?_
    first | refine l_q rfl (q_fieldAddr0 1 rfl Tryd.underlying96 rfl rfl ty_size27) ?_ | refine l_q rfl (q_fieldAddrK 1 rfl Tryd.underlying96 rfl rfl ty_size27) ?_
    first | refine l_q rfl (q_fieldAddr0 8 rfl Tryd.underlying27 rfl rfl ty_size3) ?_ | refine l_q rfl (q_fieldAddrK 8 rfl Tryd.underlying27 rfl rfl ty_size3) ?_
    refine l_q rfl (q_loadL rfl ty_agg3 tk ga) ?_
    apply l_callf rfl rfl rfl (Fill_okI pa s _ _ off (gN l) 0 rfl hN.g.symm (by omega) hg)
    · exact pk
    rintro v L' ⟨rfl, rfl⟩
    refine l_nm ?_
    refine l_nil ?_
    refine n_code ?_
    refine t_seq ?_
    refine t_draw mixed ?_
    apply d_q 0 gO rfl rfl rfl rfl
    · apply yq
      first | exact q_fieldAddr0 0 rfl Tryd.underlying96 rfl rfl ty_size30 | exact q_fieldAddrK 0 rfl Tryd.underlying96 rfl rfl ty_size30
    refine d_q 1 gO rfl rfl rfl rfl (yq (q_loadL rfl ty_agg30 tk ga)) ?_
    apply d_q 2 gO rfl rfl rfl rfl
    · apply yq
      first | exact q_fieldAddr0 10 rfl Tryd.underlying96 rfl rfl ty_size3 | exact q_fieldAddrK 10 rfl Tryd.underlying96 rfl rfl ty_size3
    refine d_q 3 gO rfl rfl rfl rfl (yq (q_loadL rfl ty_agg3 tk ga)) ?_
    apply d_eff1 [] [3, 2, 1, 0] 4 []
    · exact gO
    · exact trivial
    · kernel_rfl
    · kernel_rfl
    intro Ex
    apply l_callf rfl rfl rfl (Empty_ok)
    · exact pk
    rintro v L' ⟨rfl, rfl⟩
    refine l_nm ?_
    refine l_nil ?_
    apply n_d
    · refine ⟨?_, ?_, ?_, ?_, trivial⟩
      · exact yat gO rfl rfl rfl (yq (q_loadL rfl ty_agg3 tk ga))
      · refine yat gO rfl rfl rfl ?_
        apply yq
        first | exact q_fieldAddr0 10 rfl Tryd.underlying96 rfl rfl ty_size3 | exact q_fieldAddrK 10 rfl Tryd.underlying96 rfl rfl ty_size3
      · exact yat gO rfl rfl rfl (yq (q_loadL rfl ty_agg30 tk ga))
      · refine yat gO rfl rfl rfl ?_
        apply yq
        first | exact q_fieldAddr0 0 rfl Tryd.underlying96 rfl rfl ty_size30 | exact q_fieldAddrK 0 rfl Tryd.underlying96 rfl rfl ty_size30
    apply d_eff1 [1, 3, 0, 2] [] 5 [(18, _), (20, _), (21, _)]
    · exact gO
    · exact ⟨rfl, rfl, rfl, trivial⟩
    · kernel_rfl
    · kernel_rfl
    intro Ex
    apply l_callf rfl rfl rfl (Store_okI pa (s.put off (gN l) fun _ => 0) _ _ off 8 _ rfl rfl (wI_bnd (f := fun _ => 128) (ok_const (by decide))) (by unfold wid; omega) (goodP.sub (goodP.put hg) (by omega) (by omega) (by omega)))
    · exact pk
    rintro v L' ⟨rfl, rfl⟩
    refine l_nm ?_
    refine l_nil ?_
    apply n_d
    · exact trivial
    apply d_eff1 [] [] 6 [(22, _)]
    · exact gO
    · exact ⟨rfl, trivial⟩
    · kernel_rfl
    · kernel_rfl
    intro Ex
    refine l_q rfl (q_assign rfl) ?_
    refine l_nil ?_
    apply n_d
    · exact trivial
    refine d_end (by kernel_rfl) ?_
    refine n_code ?_
    refine t_ret ?_
    apply f_ret (.inl rfl) ([arenaH pa (s.put off (gN l) (encG l fun _ => .empty))])
    · apply res1 rfl
      · exact .tmp rfl
    · exact ⟨rfl, rfl⟩
    · rw [put_put (put_reset hN fun j hj => (byte_wd (f := fun _ => 128) (ok_const (by decide)) hj))]; (exact en)
end

/-- Slot i written: its bytes, its control byte. -/
theorem put_full {off : Nat} {s : ArS} {l : Lay} {cs : Nat → Cell} (hl : l.err = 0) (hG : GAt s.m off l cs) (hok : ∀ i, i < 8 → (cs i).ok l) {i : Nat} (hi : i < 8) {t : Nat} (ht : t < 128) {k e : ByteArray} {b : Int} (hk : k.size = kN l) (he : e.size = eN l) :
    ((s.put (off + (8 + i * sN l)) (sN l) (catM (parts l k e b))).put off 8 (byteN (wI (setF (ctF cs) i t)))) = s.put off (gN l) (encG l (updC cs i (.full t k e b))) := by
  have hN := layN hl
  refine put_put (put_slot hN hG hi (.full t k e b) (fun r _ => rfl) fun j hj => ?_)
  have hsf : okB (setF (ctF cs) i t) := fun j hj => by unfold setF; split; omega; exact ok_ct hok j hj
  rw [byte_wd hsf hj]
  unfold setF
  by_cases q : j = i
  · rw [if_pos q, if_pos q]; rfl
  · rw [if_neg q, if_neg q, ct_cast hok hj]
theorem put_gone {off : Nat} {s : ArS} {l : Lay} {cs : Nat → Cell} (hl : l.err = 0) (hG : GAt s.m off l cs) (hok : ∀ i, i < 8 → (cs i).ok l) {i : Nat} (hi : i < 8) {c : Nat} {cell : Cell} (hc : cell.ctrl = (c : Int)) (hc2 : c < 256) (hn : isF cell = false) :
    ((s.put (off + (8 + i * sN l)) (sN l) (fun _ => 0)).put off 8 (byteN (wI (setF (ctF cs) i c)))) = s.put off (gN l) (encG l (updC cs i cell)) := by
  have hN := layN hl
  refine put_put (put_slot hN hG hi cell (fun r _ => by cases cell <;> first | rfl | cases hn) fun j hj => ?_)
  have hsf : okB (setF (ctF cs) i c) := fun j hj => by unfold setF; split; exact hc2; exact ok_ct hok j hj
  rw [byte_wd hsf hj]
  unfold setF
  by_cases q : j = i
  · rw [if_pos q, if_pos q, hc]
  · rw [if_neg q, if_neg q, ct_cast hok hj]
theorem load_behind {m f : Nat → Int} {off x k : Nat} : loadN (layM m (off + (8 + x)) k f) off 8 = loadN m off 8 := loadN_congr fun i hi => by rw [lay_out (by omega)]
theorem cat_one (s : ByteArray) : catM [s] = byteAt s := by
  funext i
  simp only [catM]
  split
  · rfl
  · next h => unfold byteAt; rw [dif_neg h]
theorem gap_sub : ∀ n, n ≤ 8 → (⟨#[0, 0, 0, 0, 0, 0, 0, 0]⟩ : ByteArray).extract 0 n = zeroS n := by
  intro n hn
  have : n = 0 ∨ n = 1 ∨ n = 2 ∨ n = 3 ∨ n = 4 ∨ n = 5 ∨ n = 6 ∨ n = 7 ∨ n = 8 := by omega
  rcases this with rfl | rfl | rfl | rfl | rfl | rfl | rfl | rfl | rfl <;> rfl
theorem when_no (b : Bool) (e : Int) (h : b = false) : FnOk Tryd.prog 82 #[.bool b, .int .i64 e] [] (fun v L => v = .int .i64 0 ∧ L = []) :=
  (when_ok b e).mono fun v L ⟨h1, h2⟩ => ⟨by rw [h1, h]; rfl, h2⟩
/-! ### A number's bytes -/
theorem lay_full0 (f : Nat → Int) : memV (layM (fun _ => 0) 0 8 f) 8 = memV f 8 := by
  apply List.ext_getElem?
  intro i
  by_cases h : i < 8
  · rw [memV_at h, memV_at h]; unfold layM; rw [if_pos (by omega)]; simp
  · rw [List.getElem?_eq_none (by rw [memV_len]; omega), List.getElem?_eq_none (by rw [memV_len]; omega)]
theorem numS_bytes (b : Int) : bytesV (numS b) = memV (byteN b) 8 := by
  unfold numS
  rw [strM_bytes (byteN_bnd b)]
  congr 1
  funext i; congr 1; omega
theorem number_ok (b : Int) (hb : 0 ≤ b ∧ b < 9223372036854775808) : FnOk Tryd.prog 87 #[.int .i64 b] [] (fun v L => v = .string (numS b) ∧ L = []) := by
  refine fn_intro en87 Tryd.func87 rfl rfl rfl ?_
  intro Fr w0
  refine t_nm ?_
  refine t_seq ?_
  refine t_region ?_
  refine l_q rfl (q_assign rfl) ?_
  refine l_nil ?_
  refine n_code ?_
  refine t_seq ?_
  refine t_region ?_
  apply o_makeSlice1 rfl rfl rfl Tryd.underlying105 ty_info5 rfl (by omega) (by omega)
  intro b5
  refine l_q rfl (q_assign rfl) ?_
  refine l_nil ?_
  refine n_code ?_
  refine t_seq ?_
  refine t_seq ?_
  refine t_region ?_
  refine l_q rfl (q_move rfl) ?_
  refine l_q rfl (q_len rfl (fun w => len_slice Tryd.underlying105 w)) ?_
  refine l_q rfl (q_move rfl) ?_
  refine l_nil ?_
  refine n_code ?_
  refine t_block ?_
  refine t_ent (L' := ownS 5 1 (.slice (some ⟨b5, 0, none⟩) 8 8) 8 (memV (layM (fun _ => 0) 0 0 (byteN b)) 8) :: Fr) (by rw [lay_zero]; exact Ent.refl _) ?_
  refine t_loop (fun j : Nat => j ≤ 8) (fun j => [(0, .int .i64 b), (3, .slice (some ⟨b5, 0, none⟩) 8 8), (7, .int .i64 8), (8, .int .i64 j)]) (fun j => ownS 5 1 (.slice (some ⟨b5, 0, none⟩) 8 8) 8 (memV (layM (fun _ => 0) 0 j (byteN b)) 8) :: Fr) (fun j => 8 - j) 0 (by omega) ⟨rfl, rfl, rfl, rfl, trivial⟩ (Ent.refl _) ?_
  intro j hj
  refine t_seq ?_
  refine t_region ?_
  apply l_q rfl
  · apply q_bin rfl rfl (fun w => g_int w); exact fun w => b_lss w
  refine l_nil ?_
  refine n_code ?_
  refine t_seq ?_
  first | refine t_cond_d rfl (fun h => ?_) (fun h => ?_) | refine t_cond_n rfl (fun h => ?_) (fun h => ?_) | refine t_cond rfl (fun h => ?_) (fun h => ?_)
  · refine t_skip ?_
    refine n_code ?_
    refine t_seq ?_
    refine t_block ?_
    refine t_seq ?_
    refine t_region ?_
    refine l_q rfl (q_move rfl) ?_
    refine l_q rfl (q_assign rfl) ?_
    refine l_nil ?_
    refine n_code ?_
    refine t_region ?_
    refine l_q rfl (q_move rfl) ?_
    refine l_q rfl (q_move rfl) ?_
    refine l_q rfl (q_move rfl) ?_
    apply l_q rfl
    · apply q_conv rfl; first | exact fun w => c_int_u w Tryd.underlying3 Tryd.underlying23 (by omega) | exact fun w => c_int w Tryd.underlying3 Tryd.underlying23
    refine l_q rfl (q_move rfl) ?_
    apply l_q rfl
    · apply q_bin rfl rfl (fun w => g_int w); first | exact fun w => b_mul_i w (by omega) | exact fun w => b_mul w
    apply l_q rfl
    · apply q_bin rfl rfl (fun w => g_int w); exact fun w => b_shr w (by omega)
    apply l_q rfl
    · apply q_conv rfl; first | exact fun w => c_int_b w Tryd.underlying23 Tryd.underlying5 (by omega) | exact fun w => c_int w Tryd.underlying23 Tryd.underlying5
    refine l_q rfl (q_indexAddr1 rfl rfl Tryd.underlying105 ty_size5 (by omega)) ?_
    apply o_storeOwn rfl rfl rfl ty_size5 rfl
    · exact tk
    · rw [Nat.zero_add, Int.toNat_natCast]; omega
    · refine Eq.trans ?_ (lay_next (m := fun _ => 0) (f := byteN b) (n := 8) (o := 0) (j := j) (by omega) (shr_byte b j hb.1 (by omega))); rw [Nat.zero_add, Int.toNat_natCast, Nat.zero_add]
    refine l_nil ?_
    refine n_blk ?_
    refine n_code ?_
    refine t_region ?_
    apply l_q rfl
    · apply q_bin rfl rfl (fun w => g_int w); first | exact fun w => b_add_i w (by omega) | exact fun w => b_add w
    refine l_q rfl (q_move rfl) ?_
    refine l_nil ?_
    apply n_again ((j + 1))
    · exact (show j + 1 ≤ 8 by omega)
    · omega
    · exact ⟨rfl, rfl, rfl, rfl, trivial⟩
    · exact en
  · obtain rfl : j = 8 := by omega
    rw [lay_full0]
    refine t_exit ?_
    refine x_code ?_
    refine x_lp ?_
    refine x_hit ?_
    refine n_code ?_
    refine t_seq ?_
    refine t_region ?_
    refine l_q rfl (q_move rfl) ?_
    apply l_q rfl
    · apply q_bytesStr (numS b) rfl Tryd.underlying105 Tryd.underlying5 Tryd.underlying9
      · rw [numS_size]
      · rw [numS_bytes]; exact reads_mem0 (by exact tk)
    refine l_q rfl (q_assign rfl) ?_
    refine l_nil ?_
    refine n_code ?_
    refine t_ret ?_
    apply f_ret (.inl rfl) ([])
    · apply res1 rfl
      · exact .tmp rfl
    · exact ⟨rfl, rfl⟩
    · exact en

/-- A slot's control byte turned. -/
theorem mark_ok (pa off i c : Nat) (s : ArS) (l : Lay) (hl : l.err = 0) (hg : goodP s off l.group) (f : Byt) (hf : okB f) (hw : loadN s.m off 8 = wI f) (hi : i < 8) (hc : c < 256) :
    FnOk Tryd.prog 88 #[.agg #[.pointer (some ⟨pa, 0, none⟩), .int .i64 l.key, .int .i64 l.elem, .int .i64 l.ka, .int .i64 l.ea, .int .i64 l.cap, .int .i64 l.eo, .int .i64 l.bo, .int .i64 l.slot, .int .i64 l.group, .int .i64 off], .int .i64 i, .int .i64 c] [arenaH pa s] (fun v L => v = .int .i64 0 ∧ L = [arenaH pa (s.put off 8 (byteN (wI (setF f i c))))]) := by
  have hN := layN hl
  have hn8 := hN.g_eq
  have hng := hN.g
  have hg8 : goodP s off 8 := goodP.sub hg (by omega) (by omega) (by omega)
  have hsf : okB (setF f i c) := fun j hj => by unfold setF; split; exact hc; exact hf j hj
  refine fn_intro en88 Tryd.func88 rfl rfl rfl ?_
  intro Fr w0
  refine t_nm ?_
  refine t_seq ?_
  refine t_region ?_
  refine o_boxA rfl rfl (fun b3 => ?_)
  refine l_q rfl (q_assign rfl) ?_
  refine l_nil ?_
  refine n_code ?_
  refine t_seq ?_
  refine t_region ?_
  first | refine l_q rfl (q_fieldAddr0 0 rfl Tryd.underlying96 rfl rfl ty_size30) ?_ | refine l_q rfl (q_fieldAddrK 0 rfl Tryd.underlying96 rfl rfl ty_size30) ?_
  refine l_q rfl (q_loadL rfl ty_agg30 tk ga) ?_
  first | refine l_q rfl (q_fieldAddr0 10 rfl Tryd.underlying96 rfl rfl ty_size3) ?_ | refine l_q rfl (q_fieldAddrK 10 rfl Tryd.underlying96 rfl rfl ty_size3) ?_
  refine l_q rfl (q_loadL rfl ty_agg3 tk ga) ?_
  apply l_callf rfl rfl rfl (Load_okI pa s _ _ off 8 rfl rfl (by unfold wid; omega) hg8)
  · exact pk
  rintro v L' ⟨rfl, rfl⟩
  refine l_nm ?_
  rw [hw]
  refine l_q rfl (q_move rfl) ?_
  refine l_q rfl (q_extractL rfl ga) ?_
  refine l_q rfl (q_extractL rfl ga) ?_
  refine l_q rfl (q_assign rfl) ?_
  refine l_q rfl (q_assign rfl) ?_
  refine l_nil ?_
  refine n_code ?_
  refine t_seq ?_
  refine t_draw mixed ?_
  apply d_q 0 gO rfl rfl rfl rfl
  · apply yq
    first | exact q_fieldAddr0 0 rfl Tryd.underlying96 rfl rfl ty_size30 | exact q_fieldAddrK 0 rfl Tryd.underlying96 rfl rfl ty_size30
  refine d_q 1 gO rfl rfl rfl rfl (yq (q_loadL rfl ty_agg30 tk ga)) ?_
  apply d_q 2 gO rfl rfl rfl rfl
  · apply yq
    first | exact q_fieldAddr0 10 rfl Tryd.underlying96 rfl rfl ty_size3 | exact q_fieldAddrK 10 rfl Tryd.underlying96 rfl rfl ty_size3
  refine d_q 3 gO rfl rfl rfl rfl (yq (q_loadL rfl ty_agg3 tk ga)) ?_
  refine d_q 4 gO rfl rfl rfl rfl (yq (q_move rfl)) ?_
  refine d_q 5 gO rfl rfl rfl rfl (yq (q_move rfl)) ?_
  refine d_q 6 gO rfl rfl rfl rfl (yq (q_move rfl)) ?_
  apply d_eff1 [4, 5, 6] [3, 2, 1, 0] 7 [(21, _), (22, _), (23, _)]
  · exact gO
  · exact ⟨rfl, rfl, rfl, trivial⟩
  · kernel_rfl
  · kernel_rfl
  intro Ex
  apply l_callf rfl rfl rfl (Set_ok f hf i c hi hc)
  · exact pk
  rintro v L' ⟨rfl, rfl⟩
  refine l_nm ?_
  refine l_nil ?_
  apply n_d
  · refine ⟨?_, ?_, ?_, ?_, trivial⟩
    · exact yat gO rfl rfl rfl (yq (q_loadL rfl ty_agg3 tk ga))
    · refine yat gO rfl rfl rfl ?_
      apply yq
      first | exact q_fieldAddr0 10 rfl Tryd.underlying96 rfl rfl ty_size3 | exact q_fieldAddrK 10 rfl Tryd.underlying96 rfl rfl ty_size3
    · exact yat gO rfl rfl rfl (yq (q_loadL rfl ty_agg30 tk ga))
    · refine yat gO rfl rfl rfl ?_
      apply yq
      first | exact q_fieldAddr0 0 rfl Tryd.underlying96 rfl rfl ty_size30 | exact q_fieldAddrK 0 rfl Tryd.underlying96 rfl rfl ty_size30
  apply d_eff1 [1, 3, 0, 2] [] 8 [(18, _), (20, _), (24, _)]
  · exact gO
  · exact ⟨rfl, rfl, rfl, trivial⟩
  · kernel_rfl
  · kernel_rfl
  intro Ex
  apply l_callf rfl rfl rfl (Store_okI pa s _ _ off 8 _ rfl rfl (wI_bnd hsf) (by unfold wid; omega) hg8)
  · exact pk
  rintro v L' ⟨rfl, rfl⟩
  refine l_nm ?_
  refine l_nil ?_
  apply n_d
  · exact trivial
  apply d_eff1 [] [] 9 [(25, _)]
  · exact gO
  · exact ⟨rfl, trivial⟩
  · kernel_rfl
  · kernel_rfl
  intro Ex
  refine l_q rfl (q_assign rfl) ?_
  refine l_nil ?_
  apply n_d
  · exact trivial
  refine d_end (by kernel_rfl) ?_
  refine n_code ?_
  refine t_ret ?_
  apply f_ret (.inl rfl) ([arenaH pa (s.put off 8 (byteN (wI (setF f i c))))])
  · apply res1 rfl
    · exact .tmp rfl
  · exact ⟨rfl, rfl⟩
  · exact en
section
variable (pa off : Nat) (s : ArS) (l : Lay) (cs : Nat → Cell) (hl : l.err = 0) (hg : goodP s off l.group) (hG : GAt s.m off l cs) (hok : ∀ i, i < 8 → (cs i).ok l)
include hl hg hG hok
theorem Word_ok : FnOk Tryd.prog 72 #[.agg #[.pointer (some ⟨pa, 0, none⟩), .int .i64 l.key, .int .i64 l.elem, .int .i64 l.ka, .int .i64 l.ea, .int .i64 l.cap, .int .i64 l.eo, .int .i64 l.bo, .int .i64 l.slot, .int .i64 l.group, .int .i64 off]] [arenaH pa s] (fun v L => v = .tuple #[.int .u64 (wI (ctF cs)), .int .i64 0] ∧ L = [arenaH pa s]) := by
  have hN := layN hl
  have hn8 := hN.g_eq
  have hng := hN.g
  have hg8 : goodP s off 8 := goodP.sub hg (by omega) (by omega) (by omega)
  refine fn_intro en72 Tryd.func72 rfl rfl rfl ?_
  intro Fr w0
  refine t_nm ?_
  refine t_seq ?_
  refine t_region ?_
  refine o_boxA rfl rfl (fun b1 => ?_)
  refine l_q rfl (q_assign rfl) ?_
  refine l_q rfl (q_assign rfl) ?_
  refine l_nil ?_
  refine n_code ?_
  refine t_seq ?_
  refine t_seq ?_
  refine t_region ?_
  refine l_q rfl (q_loadAggL rfl ty_agg96 ty_size96 tk sb) ?_
  apply l_callf rfl rfl rfl (there_ok pa off s l hl hg)
  · exact pk
  rintro v L' ⟨rfl, rfl⟩
  refine l_nm ?_
  refine l_q rfl (q_assign rfl) ?_
  refine l_nil ?_
  refine n_code ?_
  refine t_seq ?_
  refine t_region ?_
  refine l_q rfl (q_move rfl) ?_
  apply l_q rfl
  · apply q_bin rfl rfl (fun w => g_int w); exact fun w => b_neq w
  refine l_nil ?_
  refine n_code ?_
  first | refine t_cond_d rfl (fun z => ?_) (fun z => ?_) | refine t_cond_n rfl (fun z => ?_) (fun z => ?_) | refine t_cond rfl (fun z => ?_) (fun z => ?_)
  · exact absurd rfl z
  · refine t_skip ?_
    refine n_code ?_
    refine t_seq ?_
    refine t_region ?_
    first | refine l_q rfl (q_fieldAddr0 0 rfl Tryd.underlying96 rfl rfl ty_size30) ?_ | refine l_q rfl (q_fieldAddrK 0 rfl Tryd.underlying96 rfl rfl ty_size30) ?_
    refine l_q rfl (q_loadL rfl ty_agg30 tk ga) ?_
    first | refine l_q rfl (q_fieldAddr0 10 rfl Tryd.underlying96 rfl rfl ty_size3) ?_ | refine l_q rfl (q_fieldAddrK 10 rfl Tryd.underlying96 rfl rfl ty_size3) ?_
    refine l_q rfl (q_loadL rfl ty_agg3 tk ga) ?_
    apply l_callf rfl rfl rfl (Load_okI pa s _ _ off 8 rfl rfl (by unfold wid; omega) hg8)
    · exact pk
    rintro v L' ⟨rfl, rfl⟩
    refine l_nm ?_
    refine l_q rfl (q_extractL rfl ga) ?_
    refine l_q rfl (q_extractL rfl ga) ?_
    refine l_q rfl (q_assign rfl) ?_
    refine l_q rfl (q_assign rfl) ?_
    refine l_nil ?_
    refine n_code ?_
    refine t_ret ?_
    apply f_ret (.inl rfl) ([arenaH pa s])
    · apply res2 rfl
      · exact .tmp rfl
      · exact .tmp rfl
    · exact ⟨by rw [load_ctrl hG hN hok], rfl⟩
    · exact en
theorem full_ok (i : Nat) (hi : i < 8) (t : Int) (k e : ByteArray) (b : Int) (hc : cs i = .full t k e b) : FnOk Tryd.prog 109 #[.agg #[.pointer (some ⟨pa, 0, none⟩), .int .i64 l.key, .int .i64 l.elem, .int .i64 l.ka, .int .i64 l.ea, .int .i64 l.cap, .int .i64 l.eo, .int .i64 l.bo, .int .i64 l.slot, .int .i64 l.group, .int .i64 off], .int .i64 i, .int .i64 t] [arenaH pa s]
    (fun v L => v = .agg #[.int .i64 2, .int .i64 t, .string k, .string e, .int .i64 b] ∧ L = [arenaH pa s]) := by
  have hN := layN hl
  have hn8 := hN.g_eq; have hns := hN.s_eq
  have h1 := hN.g; have h2 := hN.k; have h3 := hN.e; have h4 := hN.eo; have h5 := hN.bo; have h6 := hN.s
  have h7 := hN.eo1; have h8 := hN.bo1
  have hcok := hok i hi
  rw [hc] at hcok
  obtain ⟨_, _, hk, he, hb0, hb1⟩ := hcok
  have hst : (i : Int) * l.slot = ((i * sN l : Nat) : Int) := by rw [Int.natCast_mul, h6]
  have hit := slot_in hN hi (r := sN l - 1) (by omega)
  have hpl : ∀ x : Int, placeI l i x = 8 + ((i * sN l : Nat) : Int) + x := fun x => by unfold placeI; rw [if_neg (by omega), hst]
  have inb : ∀ o n : Int, 0 ≤ n → 0 ≤ o → o + n ≤ l.slot → goodP s ((off : Int) + (8 + ((i * sN l : Nat) : Int) + o)) n := fun o n h0 h1 h2 => goodP.sub hg h0 (by omega) (by omega)
  refine FnOk.mono (Post := fun v L => s.ok ∧ v = .agg #[.int .i64 2, .int .i64 t, .string (strM s.m (off + (8 + i * sN l)) (kN l)), .string (strM s.m (off + (8 + i * sN l + eoN l)) (eN l)), .int .i64 (IntKind.i64.wrap (loadN s.m (off + (8 + i * sN l + boN l)) 8))] ∧ L = [arenaH pa s]) ?_ ?_
  · refine fn_intro en109 Tryd.func109 rfl rfl rfl ?_
    intro Fr w0
    refine t_nm ?_
    refine t_pure (φ := s.ok) (fun w hw => arena_ok hw .here) fun hok0 => ?_
    have hge := goodP.end_le hok0 hg
    have hst0 := hok0.stop_eq
    refine t_seq ?_
    refine t_region ?_
    refine o_boxA rfl rfl (fun b3 => ?_)
    refine o_allocA rfl ty_zero122 (fun b6 => ?_)
    refine l_nil ?_
    refine n_code ?_
    refine t_seq ?_
    refine t_region ?_
    refine l_q rfl (q_move rfl) ?_
    apply l_q rfl
    · apply q_buildS rfl ty_pl122 ty_zero122
      · apply FillR.one
        · repeat (first | exact PlAt.here | apply PlAt.there)
        · rfl
        · exact sa
        apply FillR.one
        · repeat (first | exact PlAt.here | apply PlAt.there)
        · rfl
        · exact sa
        exact FillR.nil
    refine o_allocA rfl ty_zero122 (fun b7 => ?_)
    apply o_storeAggL rfl rfl rfl ty_size122 rfl rfl (by simp)
    · exact tk
    · exact sal
    refine l_nil ?_
    refine n_code ?_
    refine t_seq ?_
    refine t_draw mixed ?_
    apply d_q 0 gO rfl rfl rfl rfl
    · apply yq
      first | exact q_fieldAddr0 0 rfl Tryd.underlying96 rfl rfl ty_size30 | exact q_fieldAddrK 0 rfl Tryd.underlying96 rfl rfl ty_size30
    refine d_q 1 gO rfl rfl rfl rfl (yq (q_loadL rfl ty_agg30 tk ga)) ?_
    apply d_q 2 gO rfl rfl rfl rfl
    · apply yq
      first | exact q_fieldAddr0 10 rfl Tryd.underlying96 rfl rfl ty_size3 | exact q_fieldAddrK 10 rfl Tryd.underlying96 rfl rfl ty_size3
    refine d_q 3 gO rfl rfl rfl rfl (yq (q_loadL rfl ty_agg3 tk ga)) ?_
    apply d_q 4 gO rfl rfl rfl rfl
    · apply yq
      first | exact q_fieldAddr0 1 rfl Tryd.underlying96 rfl rfl ty_size27 | exact q_fieldAddrK 1 rfl Tryd.underlying96 rfl rfl ty_size27
    refine d_q 5 gO rfl rfl rfl rfl (yq (q_loadAggL rfl ty_agg27 ty_size27 tk sb)) ?_
    refine d_q 6 gO rfl rfl rfl rfl (yq (q_move rfl)) ?_
    apply d_q 9 gO rfl rfl rfl rfl
    · apply yq
      first | exact q_fieldAddr0 1 rfl Tryd.underlying96 rfl rfl ty_size27 | exact q_fieldAddrK 1 rfl Tryd.underlying96 rfl rfl ty_size27
    apply d_q 10 gO rfl rfl rfl rfl
    · apply yq
      first | exact q_fieldAddr0 0 rfl Tryd.underlying27 rfl rfl ty_size3 | exact q_fieldAddrK 0 rfl Tryd.underlying27 rfl rfl ty_size3
    refine d_q 11 gO rfl rfl rfl rfl (yq (q_loadL rfl ty_agg3 tk ga)) ?_
    apply d_eff1 [5, 6, 4] [11, 10, 9, 3, 2, 1, 0] 7 [(18, _), (19, _)]
    · exact gO
    · exact ⟨rfl, rfl, trivial⟩
    · kernel_rfl
    · kernel_rfl
    intro Ex
    apply l_callf rfl rfl rfl (KeyAt_ok l hl i)
    · exact pk
    rintro v L' ⟨rfl, rfl⟩
    refine l_nm ?_
    rw [hpl]
    refine l_nil ?_
    apply n_d
    · refine ⟨?_, ?_, ?_, ?_, ?_, ?_, ?_, trivial⟩
      · exact yat gO rfl rfl rfl (yq (q_loadL rfl ty_agg3 tk ga))
      · refine yat gO rfl rfl rfl ?_
        apply yq
        first | exact q_fieldAddr0 0 rfl Tryd.underlying27 rfl rfl ty_size3 | exact q_fieldAddrK 0 rfl Tryd.underlying27 rfl rfl ty_size3
      · refine yat gO rfl rfl rfl ?_
        apply yq
        first | exact q_fieldAddr0 1 rfl Tryd.underlying96 rfl rfl ty_size27 | exact q_fieldAddrK 1 rfl Tryd.underlying96 rfl rfl ty_size27
      · exact yat gO rfl rfl rfl (yq (q_loadL rfl ty_agg3 tk ga))
      · refine yat gO rfl rfl rfl ?_
        apply yq
        first | exact q_fieldAddr0 10 rfl Tryd.underlying96 rfl rfl ty_size3 | exact q_fieldAddrK 10 rfl Tryd.underlying96 rfl rfl ty_size3
      · exact yat gO rfl rfl rfl (yq (q_loadL rfl ty_agg30 tk ga))
      · refine yat gO rfl rfl rfl ?_
        apply yq
        first | exact q_fieldAddr0 0 rfl Tryd.underlying96 rfl rfl ty_size30 | exact q_fieldAddrK 0 rfl Tryd.underlying96 rfl rfl ty_size30
    apply d_q 8 gO rfl rfl rfl rfl
    · apply yq
      apply q_bin rfl rfl (fun w => g_int w); first | exact fun w => b_add_i w (by omega) | exact fun w => b_add w
    apply d_eff1 [1, 8, 11, 0, 3, 10, 2, 9] [] 12 [(14, _), (21, _), (24, _)]
    · exact gO
    · exact ⟨rfl, rfl, rfl, trivial⟩
    · kernel_rfl
    · kernel_rfl
    intro Ex
    apply l_callf rfl rfl rfl (Read_okI pa s _ l.key (off + (8 + i * sN l)) (kN l) (by omega) (by omega) (inb 0 l.key (by omega) (by omega) (by omega)))
    · exact pk
    rintro v L' ⟨rfl, rfl⟩
    refine l_nm ?_
    refine l_nil ?_
    apply n_d
    · exact trivial
    refine d_q 13 gO rfl rfl rfl rfl (yq (q_move rfl)) ?_
    refine d_q 14 gO rfl rfl rfl rfl (yq (q_extractL rfl ga)) ?_
    refine d_q 15 gO rfl rfl rfl rfl (yq (q_extractL rfl ga)) ?_
    apply d_q 16 gO rfl rfl rfl rfl
    · apply yq
      first | exact q_fieldAddr0 2 rfl Tryd.underlying122 rfl rfl ty_size9 | exact q_fieldAddrK 2 rfl Tryd.underlying122 rfl rfl ty_size9
    apply d_eff1 [16, 14, 13] [15] 17 [(28, _), (26, _)]
    · exact gO
    · exact ⟨rfl, rfl, trivial⟩
    · kernel_rfl
    · kernel_rfl
    intro Ex
    apply o_storeL rfl rfl rfl ty_size9 rfl
    · exact tk
    · exact sa
    refine l_nil ?_
    apply n_d
    · refine ⟨?_, trivial⟩
      · exact yat gO rfl rfl rfl (yq (q_extractL rfl ga))
    refine d_end (by kernel_rfl) ?_
    refine n_code ?_
    refine t_seq ?_
    refine t_draw mixed ?_
    apply d_q 0 gO rfl rfl rfl rfl
    · apply yq
      first | exact q_fieldAddr0 0 rfl Tryd.underlying96 rfl rfl ty_size30 | exact q_fieldAddrK 0 rfl Tryd.underlying96 rfl rfl ty_size30
    refine d_q 1 gO rfl rfl rfl rfl (yq (q_loadL rfl ty_agg30 tk ga)) ?_
    apply d_q 2 gO rfl rfl rfl rfl
    · apply yq
      first | exact q_fieldAddr0 10 rfl Tryd.underlying96 rfl rfl ty_size3 | exact q_fieldAddrK 10 rfl Tryd.underlying96 rfl rfl ty_size3
    refine d_q 3 gO rfl rfl rfl rfl (yq (q_loadL rfl ty_agg3 tk ga)) ?_
    apply d_q 4 gO rfl rfl rfl rfl
    · apply yq
      first | exact q_fieldAddr0 1 rfl Tryd.underlying96 rfl rfl ty_size27 | exact q_fieldAddrK 1 rfl Tryd.underlying96 rfl rfl ty_size27
    refine d_q 5 gO rfl rfl rfl rfl (yq (q_loadAggL rfl ty_agg27 ty_size27 tk sb)) ?_
    refine d_q 6 gO rfl rfl rfl rfl (yq (q_move rfl)) ?_
    apply d_q 9 gO rfl rfl rfl rfl
    · apply yq
      first | exact q_fieldAddr0 1 rfl Tryd.underlying96 rfl rfl ty_size27 | exact q_fieldAddrK 1 rfl Tryd.underlying96 rfl rfl ty_size27
    apply d_q 10 gO rfl rfl rfl rfl
    · apply yq
      first | exact q_fieldAddr0 1 rfl Tryd.underlying27 rfl rfl ty_size3 | exact q_fieldAddrK 1 rfl Tryd.underlying27 rfl rfl ty_size3
    refine d_q 11 gO rfl rfl rfl rfl (yq (q_loadL rfl ty_agg3 tk ga)) ?_
    apply d_eff1 [5, 6, 4] [11, 10, 9, 3, 2, 1, 0] 7 [(35, _), (36, _)]
    · exact gO
    · exact ⟨rfl, rfl, trivial⟩
    · kernel_rfl
    · kernel_rfl
    intro Ex
    apply l_callf rfl rfl rfl (ElemAt_ok l hl i)
    · exact pk
    rintro v L' ⟨rfl, rfl⟩
    refine l_nm ?_
    rw [hpl]
    refine l_nil ?_
    apply n_d
    · refine ⟨?_, ?_, ?_, ?_, ?_, ?_, ?_, trivial⟩
      · exact yat gO rfl rfl rfl (yq (q_loadL rfl ty_agg3 tk ga))
      · refine yat gO rfl rfl rfl ?_
        apply yq
        first | exact q_fieldAddr0 1 rfl Tryd.underlying27 rfl rfl ty_size3 | exact q_fieldAddrK 1 rfl Tryd.underlying27 rfl rfl ty_size3
      · refine yat gO rfl rfl rfl ?_
        apply yq
        first | exact q_fieldAddr0 1 rfl Tryd.underlying96 rfl rfl ty_size27 | exact q_fieldAddrK 1 rfl Tryd.underlying96 rfl rfl ty_size27
      · exact yat gO rfl rfl rfl (yq (q_loadL rfl ty_agg3 tk ga))
      · refine yat gO rfl rfl rfl ?_
        apply yq
        first | exact q_fieldAddr0 10 rfl Tryd.underlying96 rfl rfl ty_size3 | exact q_fieldAddrK 10 rfl Tryd.underlying96 rfl rfl ty_size3
      · exact yat gO rfl rfl rfl (yq (q_loadL rfl ty_agg30 tk ga))
      · refine yat gO rfl rfl rfl ?_
        apply yq
        first | exact q_fieldAddr0 0 rfl Tryd.underlying96 rfl rfl ty_size30 | exact q_fieldAddrK 0 rfl Tryd.underlying96 rfl rfl ty_size30
    apply d_q 8 gO rfl rfl rfl rfl
    · apply yq
      apply q_bin rfl rfl (fun w => g_int w); first | exact fun w => b_add_i w (by omega) | exact fun w => b_add w
    apply d_eff1 [1, 8, 11, 0, 3, 10, 2, 9] [] 12 [(31, _), (38, _), (41, _)]
    · exact gO
    · exact ⟨rfl, rfl, rfl, trivial⟩
    · kernel_rfl
    · kernel_rfl
    intro Ex
    apply l_callf rfl rfl rfl (Read_okI pa s _ l.elem (off + (8 + i * sN l + eoN l)) (eN l) (by omega) (by omega) (inb l.eo l.elem (by omega) (by omega) (by omega)))
    · exact pk
    rintro v L' ⟨rfl, rfl⟩
    refine l_nm ?_
    refine l_nil ?_
    apply n_d
    · exact trivial
    refine d_q 13 gO rfl rfl rfl rfl (yq (q_move rfl)) ?_
    refine d_q 14 gO rfl rfl rfl rfl (yq (q_extractL rfl ga)) ?_
    refine d_q 15 gO rfl rfl rfl rfl (yq (q_extractL rfl ga)) ?_
    apply d_q 16 gO rfl rfl rfl rfl
    · apply yq
      first | exact q_fieldAddr0 3 rfl Tryd.underlying122 rfl rfl ty_size9 | exact q_fieldAddrK 3 rfl Tryd.underlying122 rfl rfl ty_size9
    apply d_eff1 [16, 14, 13] [15] 17 [(45, _), (43, _)]
    · exact gO
    · exact ⟨rfl, rfl, trivial⟩
    · kernel_rfl
    · kernel_rfl
    intro Ex
    apply o_storeL rfl rfl rfl ty_size9 rfl
    · exact tk
    · exact sa
    refine l_nil ?_
    apply n_d
    · refine ⟨?_, trivial⟩
      · exact yat gO rfl rfl rfl (yq (q_extractL rfl ga))
    refine d_end (by kernel_rfl) ?_
    refine n_code ?_
    refine t_seq ?_
    refine t_draw mixed ?_
    apply d_q 0 gO rfl rfl rfl rfl
    · apply yq
      first | exact q_fieldAddr0 0 rfl Tryd.underlying96 rfl rfl ty_size30 | exact q_fieldAddrK 0 rfl Tryd.underlying96 rfl rfl ty_size30
    refine d_q 1 gO rfl rfl rfl rfl (yq (q_loadL rfl ty_agg30 tk ga)) ?_
    apply d_q 2 gO rfl rfl rfl rfl
    · apply yq
      first | exact q_fieldAddr0 10 rfl Tryd.underlying96 rfl rfl ty_size3 | exact q_fieldAddrK 10 rfl Tryd.underlying96 rfl rfl ty_size3
    refine d_q 3 gO rfl rfl rfl rfl (yq (q_loadL rfl ty_agg3 tk ga)) ?_
    apply d_q 4 gO rfl rfl rfl rfl
    · apply yq
      first | exact q_fieldAddr0 1 rfl Tryd.underlying96 rfl rfl ty_size27 | exact q_fieldAddrK 1 rfl Tryd.underlying96 rfl rfl ty_size27
    refine d_q 5 gO rfl rfl rfl rfl (yq (q_loadAggL rfl ty_agg27 ty_size27 tk sb)) ?_
    refine d_q 6 gO rfl rfl rfl rfl (yq (q_move rfl)) ?_
    apply d_eff1 [5, 6, 4] [3, 2, 1, 0] 7 [(52, _), (53, _)]
    · exact gO
    · exact ⟨rfl, rfl, trivial⟩
    · kernel_rfl
    · kernel_rfl
    intro Ex
    apply l_callf rfl rfl rfl (BirthAt_ok l hl i)
    · exact pk
    rintro v L' ⟨rfl, rfl⟩
    refine l_nm ?_
    rw [hpl]
    refine l_nil ?_
    apply n_d
    · refine ⟨?_, ?_, ?_, ?_, trivial⟩
      · exact yat gO rfl rfl rfl (yq (q_loadL rfl ty_agg3 tk ga))
      · refine yat gO rfl rfl rfl ?_
        apply yq
        first | exact q_fieldAddr0 10 rfl Tryd.underlying96 rfl rfl ty_size3 | exact q_fieldAddrK 10 rfl Tryd.underlying96 rfl rfl ty_size3
      · exact yat gO rfl rfl rfl (yq (q_loadL rfl ty_agg30 tk ga))
      · refine yat gO rfl rfl rfl ?_
        apply yq
        first | exact q_fieldAddr0 0 rfl Tryd.underlying96 rfl rfl ty_size30 | exact q_fieldAddrK 0 rfl Tryd.underlying96 rfl rfl ty_size30
    apply d_q 8 gO rfl rfl rfl rfl
    · apply yq
      apply q_bin rfl rfl (fun w => g_int w); first | exact fun w => b_add_i w (by omega) | exact fun w => b_add w
    apply d_eff1 [1, 8, 0, 3, 2] [] 9 [(48, _), (55, _)]
    · exact gO
    · exact ⟨rfl, rfl, trivial⟩
    · kernel_rfl
    · kernel_rfl
    intro Ex
    apply l_callf rfl rfl rfl (Load_okI pa s _ 8 (off + (8 + i * sN l + boN l)) 8 (by omega) rfl (by unfold wid; omega) (inb l.bo 8 (by omega) (by omega) (by omega)))
    · exact pk
    rintro v L' ⟨rfl, rfl⟩
    refine l_nm ?_
    refine l_nil ?_
    apply n_d
    · exact trivial
    refine d_q 10 gO rfl rfl rfl rfl (yq (q_move rfl)) ?_
    refine d_q 11 gO rfl rfl rfl rfl (yq (q_extractL rfl ga)) ?_
    refine d_q 12 gO rfl rfl rfl rfl (yq (q_extractL rfl ga)) ?_
    apply d_eff1 [11, 10] [12] 13 [(57, _)]
    · exact gO
    · exact ⟨rfl, trivial⟩
    · kernel_rfl
    · kernel_rfl
    intro Ex
    refine l_q rfl (q_assign rfl) ?_
    refine l_nil ?_
    apply n_d
    · refine ⟨?_, trivial⟩
      · exact yat gO rfl rfl rfl (yq (q_extractL rfl ga))
    apply d_eff1 [12] [] 14 [(58, _)]
    · exact gO
    · exact ⟨rfl, trivial⟩
    · kernel_rfl
    · kernel_rfl
    intro Ex
    refine l_q rfl (q_assign rfl) ?_
    refine l_nil ?_
    apply n_d
    · exact trivial
    refine d_end (by kernel_rfl) ?_
    refine n_code ?_
    refine t_seq ?_
    refine t_region ?_
    refine l_q rfl (q_move rfl) ?_
    apply l_q rfl
    · apply q_conv rfl; first | exact fun w => c_int_i w Tryd.underlying23 Tryd.underlying3 (by omega) | exact fun w => c_int w Tryd.underlying23 Tryd.underlying3
    first | refine l_q rfl (q_fieldAddr0 4 rfl Tryd.underlying122 rfl rfl ty_size3) ?_ | refine l_q rfl (q_fieldAddrK 4 rfl Tryd.underlying122 rfl rfl ty_size3) ?_
    apply o_storeL rfl rfl rfl ty_size3 rfl
    · exact tk
    · exact sa
    refine l_nil ?_
    refine n_code ?_
    refine t_seq ?_
    refine t_region ?_
    refine l_q rfl (q_loadAggL rfl ty_agg122 ty_size122 tk sb) ?_
    apply o_storeAggL rfl rfl rfl ty_size122 rfl rfl (by simp)
    · exact tk
    · exact sal
    refine l_nil ?_
    refine n_code ?_
    refine t_ret ?_
    apply f_ret (.inl rfl) ([arenaH pa s])
    · apply res1 rfl
      · apply Rv.agg rfl
        · exact tk
        · exact run_loadAll ty_agg122 ty_size122 rfl
    · exact ⟨hok0, rfl, rfl⟩
    · exact en
  · rintro v L ⟨hok0, rfl, rfl⟩
    refine ⟨?_, rfl⟩
    have e1 : strM s.m (off + (8 + i * sN l)) (kN l) = k := by
      rw [← hk]
      refine strM_eq hok0.bytes fun j hj => ?_
      rw [← encS_key hN (t := t) (e := e) (b := b) hk hj, ← hc, ← hG.slot hN hi (by omega)]
      congr 1; omega
    have e2 : strM s.m (off + (8 + i * sN l + eoN l)) (eN l) = e := by
      rw [← he]
      refine strM_eq hok0.bytes fun j hj => ?_
      rw [← encS_elem hN (t := t) (k := k) (b := b) hk hj, ← hc, ← hG.slot hN hi (by omega)]
      congr 1; omega
    have e3 : loadN s.m (off + (8 + i * sN l + boN l)) 8 = b := by
      rw [loadN_congr (m' := byteN b) (o' := 0) fun j hj => by rw [Nat.zero_add, ← encS_birth hN (t := t) (k := k) (e := e) hk he hj, ← hc, ← hG.slot hN hi (by omega)]; congr 1; omega, loadN_byteN]
      omega
    rw [e1, e2, e3, wrap_i64 (by omega)]
theorem Cell_ok (i : Nat) (hi : i < 8) : FnOk Tryd.prog 75 #[.agg #[.pointer (some ⟨pa, 0, none⟩), .int .i64 l.key, .int .i64 l.elem, .int .i64 l.ka, .int .i64 l.ea, .int .i64 l.cap, .int .i64 l.eo, .int .i64 l.bo, .int .i64 l.slot, .int .i64 l.group, .int .i64 off], .int .i64 i] [arenaH pa s]
    (fun v L => v = .tuple #[.agg #[.int .i64 (cs i).kind, .int .i64 (cs i).tagI, .string (cs i).keyS, .string (cs i).elemS, .int .i64 (cs i).birthI], .int .i64 0] ∧ L = [arenaH pa s]) := by
  have hN := layN hl
  have hn8 := hN.g_eq
  have hng := hN.g
  have hg8 : goodP s off 8 := goodP.sub hg (by omega) (by omega) (by omega)
  have hct := ct_cast hok hi
  refine fn_intro en75 Tryd.func75 rfl rfl rfl ?_
  intro Fr w0
  refine t_nm ?_
  refine t_seq ?_
  refine t_region ?_
  refine o_boxA rfl rfl (fun b2 => ?_)
  refine o_allocA rfl ty_zero122 (fun b4 => ?_)
  refine l_q rfl (q_assign rfl) ?_
  refine l_nil ?_
  refine n_code ?_
  refine t_seq ?_
  refine t_seq ?_
  refine t_draw mixed ?_
  refine d_q 0 gO rfl rfl rfl rfl (yq (q_move rfl)) ?_
  refine d_q 2 gO rfl rfl rfl rfl (yq (q_loadAggL rfl ty_agg96 ty_size96 tk sb)) ?_
  apply d_eff1 [0] [2] 1 [(10, _)]
  · exact gO
  · exact ⟨rfl, trivial⟩
  · kernel_rfl
  · kernel_rfl
  intro Ex
  apply l_callf rfl rfl rfl (slot_ok i (by omega) (by omega))
  · exact pk
  rintro v L' ⟨rfl, rfl⟩
  refine l_nm ?_
  refine l_nil ?_
  apply n_d
  · refine ⟨?_, trivial⟩
    · exact yat gO rfl rfl rfl (yq (q_loadAggL rfl ty_agg96 ty_size96 tk sb))
  apply d_eff1 [2] [] 3 [(12, _)]
  · exact gO
  · exact ⟨rfl, trivial⟩
  · kernel_rfl
  · kernel_rfl
  intro Ex
  apply l_callf rfl rfl rfl (there_ok pa off s l hl hg)
  · exact pk
  rintro v L' ⟨rfl, rfl⟩
  refine l_nm ?_
  refine l_nil ?_
  apply n_d
  · exact trivial
  apply d_eff1 [] [] 4 [(11, _), (13, _)]
  · exact gO
  · exact ⟨rfl, rfl, trivial⟩
  · kernel_rfl
  · kernel_rfl
  intro Ex
  refine o_buildSlice1 [_, _] rfl rfl Tryd.underlying194 ty_size31 ty_zero31 rfl rfl rfl rfl (fun b14 => ?_)
  refine l_nil ?_
  apply n_d
  · exact trivial
  apply d_eff1 [] [] 5 [(14, _)]
  · exact gO
  · exact ⟨rfl, trivial⟩
  · kernel_rfl
  · kernel_rfl
  intro Ex
  apply l_callf rfl rfl rfl (first2_ok b14 0 0)
  · exact pk
  rintro v L' ⟨rfl, rfl⟩
  refine l_nm ?_
  refine l_nil ?_
  apply n_d
  · exact trivial
  apply d_eff1 [] [] 6 [(15, _)]
  · exact gO
  · exact ⟨rfl, trivial⟩
  · kernel_rfl
  · kernel_rfl
  intro Ex
  refine l_q rfl (q_assign rfl) ?_
  refine l_nil ?_
  apply n_d
  · exact trivial
  refine d_end (by kernel_rfl) ?_
  refine n_code ?_
  refine t_seq ?_
  refine t_region ?_
  refine l_q rfl (q_move rfl) ?_
  apply l_q rfl
  · apply q_bin rfl rfl (fun w => g_int w); exact fun w => b_neq w
  refine l_nil ?_
  refine n_code ?_
  first | refine t_cond_d rfl (fun z => ?_) (fun z => ?_) | refine t_cond_n rfl (fun z => ?_) (fun z => ?_) | refine t_cond rfl (fun z => ?_) (fun z => ?_)
  · exact absurd rfl z
  · refine t_skip ?_
    refine n_code ?_
    refine t_seq ?_
    refine t_region ?_
    first | refine l_q rfl (q_fieldAddr0 0 rfl Tryd.underlying96 rfl rfl ty_size30) ?_ | refine l_q rfl (q_fieldAddrK 0 rfl Tryd.underlying96 rfl rfl ty_size30) ?_
    refine l_q rfl (q_loadL rfl ty_agg30 tk ga) ?_
    first | refine l_q rfl (q_fieldAddr0 10 rfl Tryd.underlying96 rfl rfl ty_size3) ?_ | refine l_q rfl (q_fieldAddrK 10 rfl Tryd.underlying96 rfl rfl ty_size3) ?_
    refine l_q rfl (q_loadL rfl ty_agg3 tk ga) ?_
    apply l_callf rfl rfl rfl (Load_okI pa s _ _ off 8 rfl rfl (by unfold wid; omega) hg8)
    · exact pk
    rintro v L' ⟨rfl, rfl⟩
    refine l_nm ?_
    rw [load_ctrl hG hN hok]
    refine l_q rfl (q_move rfl) ?_
    refine l_q rfl (q_extractL rfl ga) ?_
    refine l_q rfl (q_extractL rfl ga) ?_
    refine l_q rfl (q_assign rfl) ?_
    refine l_q rfl (q_assign rfl) ?_
    refine l_nil ?_
    refine n_code ?_
    refine t_seq ?_
    refine t_seq ?_
    refine t_region ?_
    refine l_q rfl (q_move rfl) ?_
    refine l_q rfl (q_move rfl) ?_
    apply l_callf rfl rfl rfl (Get_ok (ctF cs) (ok_ct hok) i hi)
    · exact pk
    rintro v L' ⟨rfl, rfl⟩
    refine l_nm ?_
    rw [hct]
    refine l_q rfl (q_assign rfl) ?_
    refine l_nil ?_
    refine n_code ?_
    refine t_block ?_
    refine t_seq ?_
    refine t_region ?_
    refine l_q rfl (q_move rfl) ?_
    apply l_q rfl
    · apply q_bin rfl rfl (fun w => g_int w); exact fun w => b_leq w
    refine l_q rfl (q_assign rfl) ?_
    refine l_nil ?_
    refine n_code ?_
    cases hc : cs i with
    | full t k e b =>
      have hcok := hok i hi
      rw [hc] at hcok
      have ht : (Cell.full t k e b).ctrl = t := rfl
      rw [ht]
      obtain ⟨ht0, ht1, _⟩ := hcok
      first | refine t_cond_d rfl (fun q => ?_) (fun q => ?_) | refine t_cond_n rfl (fun q => ?_) (fun q => ?_) | refine t_cond rfl (fun q => ?_) (fun q => ?_)
      · refine t_seq ?_
        refine t_region ?_
        refine l_q rfl (q_loadAggL rfl ty_agg96 ty_size96 tk sb) ?_
        refine l_q rfl (q_move rfl) ?_
        refine l_q rfl (q_move rfl) ?_
        apply l_callf rfl rfl rfl (full_ok pa off s l cs hl hg hG hok i hi t k e b hc)
        · exact pk
        rintro v L' ⟨rfl, rfl⟩
        refine l_nm ?_
        apply o_storeAggL rfl rfl rfl ty_size122 rfl rfl (by simp)
        · exact tk
        · exact sal
        refine l_q rfl (q_assign rfl) ?_
        refine l_nil ?_
        refine n_code ?_
        refine t_ret ?_
        refine r_blk ?_
        refine r_code ?_
        apply f_ret (.inl rfl) ([arenaH pa s])
        · apply res2 rfl
          · apply Rv.agg rfl
            · exact tk
            · exact run_loadAll ty_agg122 ty_size122 rfl
          · exact .tmp rfl
        · exact ⟨rfl, rfl⟩
        · exact en
      · omega
    | deleted =>
      first | refine t_cond_d rfl (fun q => ?_) (fun q => ?_) | refine t_cond_n rfl (fun q => ?_) (fun q => ?_) | refine t_cond rfl (fun q => ?_) (fun q => ?_)
      · exact absurd q (by decide)
      · refine t_seq ?_
        refine t_region ?_
        refine l_q rfl (q_move rfl) ?_
        apply l_q rfl
        · apply q_bin rfl rfl (fun w => g_int w); exact fun w => b_eql w
        refine l_q rfl (q_assign rfl) ?_
        refine l_nil ?_
        refine n_code ?_
        first | refine t_cond_d rfl (fun q2 => ?_) (fun q2 => ?_) | refine t_cond_n rfl (fun q2 => ?_) (fun q2 => ?_) | refine t_cond rfl (fun q2 => ?_) (fun q2 => ?_)
        · refine t_seq ?_
          refine t_region ?_
          apply l_q rfl
          · apply q_buildS rfl ty_pl122 ty_zero122
            · apply FillR.one
              · repeat (first | exact PlAt.here | apply PlAt.there)
              · rfl
              · exact sa
              exact FillR.nil
          apply o_storeAggL rfl rfl rfl ty_size122 rfl rfl (by simp)
          · exact tk
          · exact sal
          refine l_q rfl (q_assign rfl) ?_
          refine l_nil ?_
          refine n_code ?_
          refine t_ret ?_
          refine r_blk ?_
          refine r_code ?_
          apply f_ret (.inl rfl) ([arenaH pa s])
          · apply res2 rfl
            · apply Rv.agg rfl
              · exact tk
              · exact run_loadAll ty_agg122 ty_size122 rfl
            · exact .tmp rfl
          · exact ⟨rfl, rfl⟩
          · exact en
        · exact absurd rfl q2
    | empty =>
      first | refine t_cond_d rfl (fun q => ?_) (fun q => ?_) | refine t_cond_n rfl (fun q => ?_) (fun q => ?_) | refine t_cond rfl (fun q => ?_) (fun q => ?_)
      · exact absurd q (by decide)
      · refine t_seq ?_
        refine t_region ?_
        refine l_q rfl (q_move rfl) ?_
        apply l_q rfl
        · apply q_bin rfl rfl (fun w => g_int w); exact fun w => b_eql w
        refine l_q rfl (q_assign rfl) ?_
        refine l_nil ?_
        refine n_code ?_
        first | refine t_cond_d rfl (fun q2 => ?_) (fun q2 => ?_) | refine t_cond_n rfl (fun q2 => ?_) (fun q2 => ?_) | refine t_cond rfl (fun q2 => ?_) (fun q2 => ?_)
        · exact absurd q2 (by decide)
        · refine t_skip ?_
          refine n_blk ?_
          refine n_code ?_
          refine t_seq ?_
          refine t_region ?_
          apply l_q rfl
          · apply q_buildS rfl ty_pl122 ty_zero122
            · exact FillR.nil
          apply o_storeAggL rfl rfl rfl ty_size122 rfl rfl (by simp)
          · exact tk
          · exact sal
          refine l_q rfl (q_assign rfl) ?_
          refine l_nil ?_
          refine n_code ?_
          refine t_ret ?_
          apply f_ret (.inl rfl) ([arenaH pa s])
          · apply res2 rfl
            · apply Rv.agg rfl
              · exact tk
              · exact run_loadAll ty_agg122 ty_size122 rfl
            · exact .tmp rfl
          · exact ⟨rfl, rfl⟩
          · exact en
theorem Fill_ok (i t : Nat) (k e : ByteArray) (b : Int) (hi : i < 8) (ht : t < 128) (hk : k.size = kN l) (he : e.size = eN l) (hb : 0 ≤ b ∧ b < 9223372036854775808) :
    FnOk Tryd.prog 40 #[.agg #[.pointer (some ⟨pa, 0, none⟩), .int .i64 l.key, .int .i64 l.elem, .int .i64 l.ka, .int .i64 l.ea, .int .i64 l.cap, .int .i64 l.eo, .int .i64 l.bo, .int .i64 l.slot, .int .i64 l.group, .int .i64 off], .int .i64 i, .int .i64 t, .string k, .string e, .int .i64 b] [arenaH pa s] (fun v L => v = .int .i64 0 ∧ L = [arenaH pa (s.put off (gN l) (encG l (updC cs i (.full t k e b))))]) := by
  have hN := layN hl
  have hn8 := hN.g_eq; have hns := hN.s_eq
  have h1 := hN.g; have h2 := hN.k; have h3 := hN.e; have h4 := hN.eo; have h5 := hN.bo; have h6 := hN.s
  have h7 := hN.eo1; have h8 := hN.bo1
  have hst : (i : Int) * l.slot = ((i * sN l : Nat) : Int) := by rw [Int.natCast_mul, h6]
  have hit := slot_in hN hi (r := sN l - 1) (by omega)
  have hpl : ∀ x : Int, placeI l i x = 8 + ((i * sN l : Nat) : Int) + x := fun x => by unfold placeI; rw [if_neg (by omega), hst]
  have hks : (k.size : Int) = l.key := by omega
  have hes : (e.size : Int) = l.elem := by omega
  have htot := tot_parts hN hk he b
  refine fn_intro en40 Tryd.func40 rfl rfl rfl ?_
  intro Fr w0
  refine t_nm ?_
  have hgs : ((⟨#[0, 0, 0, 0, 0, 0, 0, 0]⟩ : ByteArray).size : Int) = 8 := rfl
  have hz1 : l.eo - l.key ≤ ((⟨#[0, 0, 0, 0, 0, 0, 0, 0]⟩ : ByteArray).size : Int) := by rw [hgs]; omega
  have hz2 : l.bo - l.eo - l.elem ≤ ((⟨#[0, 0, 0, 0, 0, 0, 0, 0]⟩ : ByteArray).size : Int) := by rw [hgs]; omega
  refine t_pure (φ := s.ok) (fun w hw => arena_ok hw .here) fun hok0 => ?_
  have hge := goodP.end_le hok0 hg
  have hst0 := hok0.stop_eq
  refine t_seq ?_
  refine t_region ?_
  refine o_boxA rfl rfl (fun b6 => ?_)
  refine l_q rfl (q_assign rfl) ?_
  refine l_nil ?_
  refine n_code ?_
  refine t_seq ?_
  refine t_draw mixed ?_
  refine d_q 0 gO rfl rfl rfl rfl (yq (q_move rfl)) ?_
  refine d_q 2 gO rfl rfl rfl rfl (yq (q_move rfl)) ?_
  apply d_q 3 gO rfl rfl rfl rfl
  · apply yq
    apply q_bin rfl rfl (fun w => g_int w); exact fun w => b_lss w
  refine d_q 9 gO rfl rfl rfl rfl (yq (q_move rfl)) ?_
  refine d_q 10 gO rfl rfl rfl rfl (yq (q_len rfl (fun w => len_string Tryd.underlying9 w))) ?_
  apply d_q 11 gO rfl rfl rfl rfl
  · apply yq
    first | exact q_fieldAddr0 1 rfl Tryd.underlying96 rfl rfl ty_size27 | exact q_fieldAddrK 1 rfl Tryd.underlying96 rfl rfl ty_size27
  apply d_q 12 gO rfl rfl rfl rfl
  · apply yq
    first | exact q_fieldAddr0 0 rfl Tryd.underlying27 rfl rfl ty_size3 | exact q_fieldAddrK 0 rfl Tryd.underlying27 rfl rfl ty_size3
  refine d_q 13 gO rfl rfl rfl rfl (yq (q_loadL rfl ty_agg3 tk ga)) ?_
  apply d_q 14 gO rfl rfl rfl rfl
  · apply yq
    apply q_bin rfl rfl (fun w => g_int w); exact fun w => b_neq w
  refine d_q 16 gO rfl rfl rfl rfl (yq (q_move rfl)) ?_
  refine d_q 17 gO rfl rfl rfl rfl (yq (q_len rfl (fun w => len_string Tryd.underlying9 w))) ?_
  apply d_q 18 gO rfl rfl rfl rfl
  · apply yq
    first | exact q_fieldAddr0 1 rfl Tryd.underlying96 rfl rfl ty_size27 | exact q_fieldAddrK 1 rfl Tryd.underlying96 rfl rfl ty_size27
  apply d_q 19 gO rfl rfl rfl rfl
  · apply yq
    first | exact q_fieldAddr0 1 rfl Tryd.underlying27 rfl rfl ty_size3 | exact q_fieldAddrK 1 rfl Tryd.underlying27 rfl rfl ty_size3
  refine d_q 20 gO rfl rfl rfl rfl (yq (q_loadL rfl ty_agg3 tk ga)) ?_
  apply d_q 21 gO rfl rfl rfl rfl
  · apply yq
    apply q_bin rfl rfl (fun w => g_int w); exact fun w => b_neq w
  refine d_q 23 gO rfl rfl rfl rfl (yq (q_move rfl)) ?_
  apply d_q 24 gO rfl rfl rfl rfl
  · apply yq
    apply q_bin rfl rfl (fun w => g_int w); exact fun w => b_lss w
  refine d_q 26 gO rfl rfl rfl rfl (yq (q_loadAggL rfl ty_agg96 ty_size96 tk sb)) ?_
  apply d_eff1 [0] [26, 24, 23, 21, 20, 19, 18, 17, 16, 14, 13, 12, 11, 10, 9, 3, 2] 1 [(14, _)]
  · exact gO
  · exact ⟨rfl, trivial⟩
  · kernel_rfl
  · kernel_rfl
  intro Ex
  apply l_callf rfl rfl rfl (slot_ok i (by omega) (by omega))
  · exact pk
  rintro v L' ⟨rfl, rfl⟩
  refine l_nm ?_
  refine l_nil ?_
  apply n_d
  · refine ⟨?_, ?_, ?_, ?_, ?_, ?_, ?_, ?_, ?_, ?_, ?_, ?_, ?_, ?_, ?_, ?_, ?_, trivial⟩
    · exact yat gO rfl rfl rfl (yq (q_loadAggL rfl ty_agg96 ty_size96 tk sb))
    · refine yat gO rfl rfl rfl ?_
      apply yq
      apply q_bin rfl rfl (fun w => g_int w); exact fun w => b_lss w
    · exact yat gO rfl rfl rfl (yq (q_move rfl))
    · refine yat gO rfl rfl rfl ?_
      apply yq
      apply q_bin rfl rfl (fun w => g_int w); exact fun w => b_neq w
    · exact yat gO rfl rfl rfl (yq (q_loadL rfl ty_agg3 tk ga))
    · refine yat gO rfl rfl rfl ?_
      apply yq
      first | exact q_fieldAddr0 1 rfl Tryd.underlying27 rfl rfl ty_size3 | exact q_fieldAddrK 1 rfl Tryd.underlying27 rfl rfl ty_size3
    · refine yat gO rfl rfl rfl ?_
      apply yq
      first | exact q_fieldAddr0 1 rfl Tryd.underlying96 rfl rfl ty_size27 | exact q_fieldAddrK 1 rfl Tryd.underlying96 rfl rfl ty_size27
    · exact yat gO rfl rfl rfl (yq (q_len rfl (fun w => len_string Tryd.underlying9 w)))
    · exact yat gO rfl rfl rfl (yq (q_move rfl))
    · refine yat gO rfl rfl rfl ?_
      apply yq
      apply q_bin rfl rfl (fun w => g_int w); exact fun w => b_neq w
    · exact yat gO rfl rfl rfl (yq (q_loadL rfl ty_agg3 tk ga))
    · refine yat gO rfl rfl rfl ?_
      apply yq
      first | exact q_fieldAddr0 0 rfl Tryd.underlying27 rfl rfl ty_size3 | exact q_fieldAddrK 0 rfl Tryd.underlying27 rfl rfl ty_size3
    · refine yat gO rfl rfl rfl ?_
      apply yq
      first | exact q_fieldAddr0 1 rfl Tryd.underlying96 rfl rfl ty_size27 | exact q_fieldAddrK 1 rfl Tryd.underlying96 rfl rfl ty_size27
    · exact yat gO rfl rfl rfl (yq (q_len rfl (fun w => len_string Tryd.underlying9 w)))
    · exact yat gO rfl rfl rfl (yq (q_move rfl))
    · refine yat gO rfl rfl rfl ?_
      apply yq
      apply q_bin rfl rfl (fun w => g_int w); exact fun w => b_lss w
    · exact yat gO rfl rfl rfl (yq (q_move rfl))
  refine d_q 4 gO rfl rfl rfl rfl (yq (q_move rfl)) ?_
  first | refine d_part_d (t := 18) rfl (fun p1 => ?_) (fun p1 => ?_) | refine d_part_n (t := 18) rfl (fun p1 => ?_) (fun p1 => ?_) | refine d_part (t := 18) rfl (fun p1 => ?_) (fun p1 => ?_)
  · omega
  · refine d_q 5 gO rfl rfl rfl rfl (yq_on rfl rfl (q_move rfl)) ?_
    apply d_q 6 gO rfl rfl rfl rfl
    · apply yq_on rfl rfl
      apply q_bin rfl rfl (fun w => g_int w); exact fun w => b_gtr w
    apply d_q 7 gO rfl rfl rfl rfl
    · apply yq
      first | exact q_pick_t rfl rfl | exact q_pick_f rfl rfl
    apply d_eff1 [7, 4, 6, 3, 5, 2] [26, 24, 23, 21, 20, 19, 18, 17, 16, 14, 13, 12, 11, 10, 9] 8 [(21, _)]
    · exact gO
    · exact ⟨rfl, trivial⟩
    · kernel_rfl
    · kernel_rfl
    intro Ex
    apply l_callf rfl rfl rfl (when_no _ _ (by simp; omega))
    · exact pk
    rintro v L' ⟨rfl, rfl⟩
    refine l_nm ?_
    refine l_nil ?_
    apply n_d
    · refine ⟨?_, ?_, ?_, ?_, ?_, ?_, ?_, ?_, ?_, ?_, ?_, ?_, ?_, ?_, ?_, trivial⟩
      · exact yat gO rfl rfl rfl (yq (q_loadAggL rfl ty_agg96 ty_size96 tk sb))
      · refine yat gO rfl rfl rfl ?_
        apply yq
        apply q_bin rfl rfl (fun w => g_int w); exact fun w => b_lss w
      · exact yat gO rfl rfl rfl (yq (q_move rfl))
      · refine yat gO rfl rfl rfl ?_
        apply yq
        apply q_bin rfl rfl (fun w => g_int w); exact fun w => b_neq w
      · exact yat gO rfl rfl rfl (yq (q_loadL rfl ty_agg3 tk ga))
      · refine yat gO rfl rfl rfl ?_
        apply yq
        first | exact q_fieldAddr0 1 rfl Tryd.underlying27 rfl rfl ty_size3 | exact q_fieldAddrK 1 rfl Tryd.underlying27 rfl rfl ty_size3
      · refine yat gO rfl rfl rfl ?_
        apply yq
        first | exact q_fieldAddr0 1 rfl Tryd.underlying96 rfl rfl ty_size27 | exact q_fieldAddrK 1 rfl Tryd.underlying96 rfl rfl ty_size27
      · exact yat gO rfl rfl rfl (yq (q_len rfl (fun w => len_string Tryd.underlying9 w)))
      · exact yat gO rfl rfl rfl (yq (q_move rfl))
      · refine yat gO rfl rfl rfl ?_
        apply yq
        apply q_bin rfl rfl (fun w => g_int w); exact fun w => b_neq w
      · exact yat gO rfl rfl rfl (yq (q_loadL rfl ty_agg3 tk ga))
      · refine yat gO rfl rfl rfl ?_
        apply yq
        first | exact q_fieldAddr0 0 rfl Tryd.underlying27 rfl rfl ty_size3 | exact q_fieldAddrK 0 rfl Tryd.underlying27 rfl rfl ty_size3
      · refine yat gO rfl rfl rfl ?_
        apply yq
        first | exact q_fieldAddr0 1 rfl Tryd.underlying96 rfl rfl ty_size27 | exact q_fieldAddrK 1 rfl Tryd.underlying96 rfl rfl ty_size27
      · exact yat gO rfl rfl rfl (yq (q_len rfl (fun w => len_string Tryd.underlying9 w)))
      · exact yat gO rfl rfl rfl (yq (q_move rfl))
    apply d_eff1 [14, 10, 13, 9, 12, 11] [26, 24, 23, 21, 20, 19, 18, 17, 16] 15 [(28, _)]
    · exact gO
    · exact ⟨rfl, trivial⟩
    · kernel_rfl
    · kernel_rfl
    intro Ex
    apply l_callf rfl rfl rfl (when_no _ _ (by simp; omega))
    · exact pk
    rintro v L' ⟨rfl, rfl⟩
    refine l_nm ?_
    refine l_nil ?_
    apply n_d
    · refine ⟨?_, ?_, ?_, ?_, ?_, ?_, ?_, ?_, ?_, trivial⟩
      · exact yat gO rfl rfl rfl (yq (q_loadAggL rfl ty_agg96 ty_size96 tk sb))
      · refine yat gO rfl rfl rfl ?_
        apply yq
        apply q_bin rfl rfl (fun w => g_int w); exact fun w => b_lss w
      · exact yat gO rfl rfl rfl (yq (q_move rfl))
      · refine yat gO rfl rfl rfl ?_
        apply yq
        apply q_bin rfl rfl (fun w => g_int w); exact fun w => b_neq w
      · exact yat gO rfl rfl rfl (yq (q_loadL rfl ty_agg3 tk ga))
      · refine yat gO rfl rfl rfl ?_
        apply yq
        first | exact q_fieldAddr0 1 rfl Tryd.underlying27 rfl rfl ty_size3 | exact q_fieldAddrK 1 rfl Tryd.underlying27 rfl rfl ty_size3
      · refine yat gO rfl rfl rfl ?_
        apply yq
        first | exact q_fieldAddr0 1 rfl Tryd.underlying96 rfl rfl ty_size27 | exact q_fieldAddrK 1 rfl Tryd.underlying96 rfl rfl ty_size27
      · exact yat gO rfl rfl rfl (yq (q_len rfl (fun w => len_string Tryd.underlying9 w)))
      · exact yat gO rfl rfl rfl (yq (q_move rfl))
    apply d_eff1 [21, 17, 20, 16, 19, 18] [26, 24, 23] 22 [(35, _)]
    · exact gO
    · exact ⟨rfl, trivial⟩
    · kernel_rfl
    · kernel_rfl
    intro Ex
    apply l_callf rfl rfl rfl (when_no _ _ (by simp; omega))
    · exact pk
    rintro v L' ⟨rfl, rfl⟩
    refine l_nm ?_
    refine l_nil ?_
    apply n_d
    · refine ⟨?_, ?_, ?_, trivial⟩
      · exact yat gO rfl rfl rfl (yq (q_loadAggL rfl ty_agg96 ty_size96 tk sb))
      · refine yat gO rfl rfl rfl ?_
        apply yq
        apply q_bin rfl rfl (fun w => g_int w); exact fun w => b_lss w
      · exact yat gO rfl rfl rfl (yq (q_move rfl))
    apply d_eff1 [24, 23] [26] 25 [(38, _)]
    · exact gO
    · exact ⟨rfl, trivial⟩
    · kernel_rfl
    · kernel_rfl
    intro Ex
    apply l_callf rfl rfl rfl (when_no _ _ (by simp; omega))
    · exact pk
    rintro v L' ⟨rfl, rfl⟩
    refine l_nm ?_
    refine l_nil ?_
    apply n_d
    · refine ⟨?_, trivial⟩
      · exact yat gO rfl rfl rfl (yq (q_loadAggL rfl ty_agg96 ty_size96 tk sb))
    apply d_eff1 [26] [] 27 [(40, _)]
    · exact gO
    · exact ⟨rfl, trivial⟩
    · kernel_rfl
    · kernel_rfl
    intro Ex
    apply l_callf rfl rfl rfl (there_ok pa off s l hl hg)
    · exact pk
    rintro v L' ⟨rfl, rfl⟩
    refine l_nm ?_
    refine l_nil ?_
    apply n_d
    · exact trivial
    apply d_eff1 [] [] 28 [(15, _), (22, _), (29, _), (36, _), (39, _), (41, _)]
    · exact gO
    · exact ⟨rfl, rfl, rfl, rfl, rfl, rfl, trivial⟩
    · kernel_rfl
    · kernel_rfl
    intro Ex
    refine o_buildSlice1 [_, _, _, _, _, _] rfl rfl Tryd.underlying194 ty_size31 ty_zero31 rfl rfl rfl rfl (fun b42 => ?_)
    refine l_nil ?_
    apply n_d
    · exact trivial
    apply d_eff1 [] [] 29 [(42, _)]
    · exact gO
    · exact ⟨rfl, trivial⟩
    · kernel_rfl
    · kernel_rfl
    intro Ex
    apply l_callf rfl rfl rfl (first6_ok b42 0 0 0 0 0 0)
    · exact pk
    rintro v L' ⟨rfl, rfl⟩
    refine l_nm ?_
    refine l_nil ?_
    apply n_d
    · exact trivial
    apply d_eff1 [] [] 30 [(43, _)]
    · exact gO
    · exact ⟨rfl, trivial⟩
    · kernel_rfl
    · kernel_rfl
    intro Ex
    refine l_q rfl (q_assign rfl) ?_
    refine l_nil ?_
    apply n_d
    · exact trivial
    refine d_end (by kernel_rfl) ?_
    refine n_code ?_
    refine t_seq ?_
    refine t_seq ?_
    refine t_region ?_
    refine l_q rfl (q_move rfl) ?_
    apply l_q rfl
    · apply q_bin rfl rfl (fun w => g_int w); exact fun w => b_neq w
    refine l_nil ?_
    refine n_code ?_
    first | refine t_cond_d rfl (fun z => ?_) (fun z => ?_) | refine t_cond_n rfl (fun z => ?_) (fun z => ?_) | refine t_cond rfl (fun z => ?_) (fun z => ?_)
    · exact absurd rfl z
    · refine t_skip ?_
      refine n_code ?_
      refine t_seq ?_
      refine t_draw mixed ?_
      apply d_q 0 gO rfl rfl rfl rfl
      · apply yq
        first | exact q_fieldAddr0 0 rfl Tryd.underlying96 rfl rfl ty_size30 | exact q_fieldAddrK 0 rfl Tryd.underlying96 rfl rfl ty_size30
      refine d_q 1 gO rfl rfl rfl rfl (yq (q_loadL rfl ty_agg30 tk ga)) ?_
      apply d_q 2 gO rfl rfl rfl rfl
      · apply yq
        first | exact q_fieldAddr0 10 rfl Tryd.underlying96 rfl rfl ty_size3 | exact q_fieldAddrK 10 rfl Tryd.underlying96 rfl rfl ty_size3
      refine d_q 3 gO rfl rfl rfl rfl (yq (q_loadL rfl ty_agg3 tk ga)) ?_
      apply d_q 4 gO rfl rfl rfl rfl
      · apply yq
        first | exact q_fieldAddr0 1 rfl Tryd.underlying96 rfl rfl ty_size27 | exact q_fieldAddrK 1 rfl Tryd.underlying96 rfl rfl ty_size27
      refine d_q 5 gO rfl rfl rfl rfl (yq (q_loadAggL rfl ty_agg27 ty_size27 tk sb)) ?_
      refine d_q 6 gO rfl rfl rfl rfl (yq (q_move rfl)) ?_
      refine d_q 9 gO rfl rfl rfl rfl (yq (q_move rfl)) ?_
      apply d_q 10 gO rfl rfl rfl rfl
      · apply yq
        first | exact q_fieldAddr0 1 rfl Tryd.underlying96 rfl rfl ty_size27 | exact q_fieldAddrK 1 rfl Tryd.underlying96 rfl rfl ty_size27
      apply d_q 11 gO rfl rfl rfl rfl
      · apply yq
        first | exact q_fieldAddr0 5 rfl Tryd.underlying27 rfl rfl ty_size3 | exact q_fieldAddrK 5 rfl Tryd.underlying27 rfl rfl ty_size3
      refine d_q 12 gO rfl rfl rfl rfl (yq (q_loadL rfl ty_agg3 tk ga)) ?_
      apply d_q 13 gO rfl rfl rfl rfl
      · apply yq
        first | exact q_fieldAddr0 1 rfl Tryd.underlying96 rfl rfl ty_size27 | exact q_fieldAddrK 1 rfl Tryd.underlying96 rfl rfl ty_size27
      apply d_q 14 gO rfl rfl rfl rfl
      · apply yq
        first | exact q_fieldAddr0 0 rfl Tryd.underlying27 rfl rfl ty_size3 | exact q_fieldAddrK 0 rfl Tryd.underlying27 rfl rfl ty_size3
      refine d_q 15 gO rfl rfl rfl rfl (yq (q_loadL rfl ty_agg3 tk ga)) ?_
      apply d_q 16 gO rfl rfl rfl rfl
      · apply yq
        apply q_bin rfl rfl (fun w => g_int w); first | exact fun w => b_sub_i w (by omega) | exact fun w => b_sub w
      apply d_q 17 gO rfl rfl rfl rfl
      · apply yq
        refine QV.to (v' := .string (zeroS (eoN l - kN l))) (q_sliceS_h rfl rfl Tryd.underlying9 ⟨by omega, hz1⟩) (by rw [show (l.eo - l.key).toNat = eoN l - kN l by omega, gap_sub _ (by omega)])
      refine d_q 18 gO rfl rfl rfl rfl (yq (q_move rfl)) ?_
      apply d_q 19 gO rfl rfl rfl rfl
      · apply yq
        first | exact q_fieldAddr0 1 rfl Tryd.underlying96 rfl rfl ty_size27 | exact q_fieldAddrK 1 rfl Tryd.underlying96 rfl rfl ty_size27
      apply d_q 20 gO rfl rfl rfl rfl
      · apply yq
        first | exact q_fieldAddr0 6 rfl Tryd.underlying27 rfl rfl ty_size3 | exact q_fieldAddrK 6 rfl Tryd.underlying27 rfl rfl ty_size3
      refine d_q 21 gO rfl rfl rfl rfl (yq (q_loadL rfl ty_agg3 tk ga)) ?_
      apply d_q 22 gO rfl rfl rfl rfl
      · apply yq
        first | exact q_fieldAddr0 1 rfl Tryd.underlying96 rfl rfl ty_size27 | exact q_fieldAddrK 1 rfl Tryd.underlying96 rfl rfl ty_size27
      apply d_q 23 gO rfl rfl rfl rfl
      · apply yq
        first | exact q_fieldAddr0 5 rfl Tryd.underlying27 rfl rfl ty_size3 | exact q_fieldAddrK 5 rfl Tryd.underlying27 rfl rfl ty_size3
      refine d_q 24 gO rfl rfl rfl rfl (yq (q_loadL rfl ty_agg3 tk ga)) ?_
      apply d_q 25 gO rfl rfl rfl rfl
      · apply yq
        apply q_bin rfl rfl (fun w => g_int w); first | exact fun w => b_sub_i w (by omega) | exact fun w => b_sub w
      apply d_q 26 gO rfl rfl rfl rfl
      · apply yq
        first | exact q_fieldAddr0 1 rfl Tryd.underlying96 rfl rfl ty_size27 | exact q_fieldAddrK 1 rfl Tryd.underlying96 rfl rfl ty_size27
      apply d_q 27 gO rfl rfl rfl rfl
      · apply yq
        first | exact q_fieldAddr0 1 rfl Tryd.underlying27 rfl rfl ty_size3 | exact q_fieldAddrK 1 rfl Tryd.underlying27 rfl rfl ty_size3
      refine d_q 28 gO rfl rfl rfl rfl (yq (q_loadL rfl ty_agg3 tk ga)) ?_
      apply d_q 29 gO rfl rfl rfl rfl
      · apply yq
        apply q_bin rfl rfl (fun w => g_int w); first | exact fun w => b_sub_i w (by omega) | exact fun w => b_sub w
      apply d_q 30 gO rfl rfl rfl rfl
      · apply yq
        refine QV.to (v' := .string (zeroS (boN l - eoN l - eN l))) (q_sliceS_h rfl rfl Tryd.underlying9 ⟨by omega, hz2⟩) (by rw [show (l.bo - l.eo - l.elem).toNat = boN l - eoN l - eN l by omega, gap_sub _ (by omega)])
      refine d_q 31 gO rfl rfl rfl rfl (yq (q_move rfl)) ?_
      apply d_eff1 [5, 6, 4] [31, 30, 29, 28, 27, 26, 25, 24, 23, 22, 21, 20, 19, 18, 17, 16, 15, 14, 13, 12, 11, 10, 9, 3, 2, 1, 0] 7 [(52, _), (53, _)]
      · exact gO
      · exact ⟨rfl, rfl, trivial⟩
      · kernel_rfl
      · kernel_rfl
      intro Ex
      apply l_callf rfl rfl rfl (KeyAt_ok l hl i)
      · exact pk
      rintro v L' ⟨rfl, rfl⟩
      refine l_nm ?_
      rw [hpl]
      refine l_nil ?_
      apply n_d
      · refine ⟨?_, ?_, ?_, ?_, ?_, ?_, ?_, ?_, ?_, ?_, ?_, ?_, ?_, ?_, ?_, ?_, ?_, ?_, ?_, ?_, ?_, ?_, ?_, ?_, ?_, ?_, ?_, trivial⟩
        · exact yat gO rfl rfl rfl (yq (q_move rfl))
        · refine yat gO rfl rfl rfl ?_
          apply yq
          refine QV.to (v' := .string (zeroS (boN l - eoN l - eN l))) (q_sliceS_h rfl rfl Tryd.underlying9 ⟨by omega, hz2⟩) (by rw [show (l.bo - l.eo - l.elem).toNat = boN l - eoN l - eN l by omega, gap_sub _ (by omega)])
        · refine yat gO rfl rfl rfl ?_
          apply yq
          apply q_bin rfl rfl (fun w => g_int w); first | exact fun w => b_sub_i w (by omega) | exact fun w => b_sub w
        · exact yat gO rfl rfl rfl (yq (q_loadL rfl ty_agg3 tk ga))
        · refine yat gO rfl rfl rfl ?_
          apply yq
          first | exact q_fieldAddr0 1 rfl Tryd.underlying27 rfl rfl ty_size3 | exact q_fieldAddrK 1 rfl Tryd.underlying27 rfl rfl ty_size3
        · refine yat gO rfl rfl rfl ?_
          apply yq
          first | exact q_fieldAddr0 1 rfl Tryd.underlying96 rfl rfl ty_size27 | exact q_fieldAddrK 1 rfl Tryd.underlying96 rfl rfl ty_size27
        · refine yat gO rfl rfl rfl ?_
          apply yq
          apply q_bin rfl rfl (fun w => g_int w); first | exact fun w => b_sub_i w (by omega) | exact fun w => b_sub w
        · exact yat gO rfl rfl rfl (yq (q_loadL rfl ty_agg3 tk ga))
        · refine yat gO rfl rfl rfl ?_
          apply yq
          first | exact q_fieldAddr0 5 rfl Tryd.underlying27 rfl rfl ty_size3 | exact q_fieldAddrK 5 rfl Tryd.underlying27 rfl rfl ty_size3
        · refine yat gO rfl rfl rfl ?_
          apply yq
          first | exact q_fieldAddr0 1 rfl Tryd.underlying96 rfl rfl ty_size27 | exact q_fieldAddrK 1 rfl Tryd.underlying96 rfl rfl ty_size27
        · exact yat gO rfl rfl rfl (yq (q_loadL rfl ty_agg3 tk ga))
        · refine yat gO rfl rfl rfl ?_
          apply yq
          first | exact q_fieldAddr0 6 rfl Tryd.underlying27 rfl rfl ty_size3 | exact q_fieldAddrK 6 rfl Tryd.underlying27 rfl rfl ty_size3
        · refine yat gO rfl rfl rfl ?_
          apply yq
          first | exact q_fieldAddr0 1 rfl Tryd.underlying96 rfl rfl ty_size27 | exact q_fieldAddrK 1 rfl Tryd.underlying96 rfl rfl ty_size27
        · exact yat gO rfl rfl rfl (yq (q_move rfl))
        · refine yat gO rfl rfl rfl ?_
          apply yq
          refine QV.to (v' := .string (zeroS (eoN l - kN l))) (q_sliceS_h rfl rfl Tryd.underlying9 ⟨by omega, hz1⟩) (by rw [show (l.eo - l.key).toNat = eoN l - kN l by omega, gap_sub _ (by omega)])
        · refine yat gO rfl rfl rfl ?_
          apply yq
          apply q_bin rfl rfl (fun w => g_int w); first | exact fun w => b_sub_i w (by omega) | exact fun w => b_sub w
        · exact yat gO rfl rfl rfl (yq (q_loadL rfl ty_agg3 tk ga))
        · refine yat gO rfl rfl rfl ?_
          apply yq
          first | exact q_fieldAddr0 0 rfl Tryd.underlying27 rfl rfl ty_size3 | exact q_fieldAddrK 0 rfl Tryd.underlying27 rfl rfl ty_size3
        · refine yat gO rfl rfl rfl ?_
          apply yq
          first | exact q_fieldAddr0 1 rfl Tryd.underlying96 rfl rfl ty_size27 | exact q_fieldAddrK 1 rfl Tryd.underlying96 rfl rfl ty_size27
        · exact yat gO rfl rfl rfl (yq (q_loadL rfl ty_agg3 tk ga))
        · refine yat gO rfl rfl rfl ?_
          apply yq
          first | exact q_fieldAddr0 5 rfl Tryd.underlying27 rfl rfl ty_size3 | exact q_fieldAddrK 5 rfl Tryd.underlying27 rfl rfl ty_size3
        · refine yat gO rfl rfl rfl ?_
          apply yq
          first | exact q_fieldAddr0 1 rfl Tryd.underlying96 rfl rfl ty_size27 | exact q_fieldAddrK 1 rfl Tryd.underlying96 rfl rfl ty_size27
        · exact yat gO rfl rfl rfl (yq (q_move rfl))
        · exact yat gO rfl rfl rfl (yq (q_loadL rfl ty_agg3 tk ga))
        · refine yat gO rfl rfl rfl ?_
          apply yq
          first | exact q_fieldAddr0 10 rfl Tryd.underlying96 rfl rfl ty_size3 | exact q_fieldAddrK 10 rfl Tryd.underlying96 rfl rfl ty_size3
        · exact yat gO rfl rfl rfl (yq (q_loadL rfl ty_agg30 tk ga))
        · refine yat gO rfl rfl rfl ?_
          apply yq
          first | exact q_fieldAddr0 0 rfl Tryd.underlying96 rfl rfl ty_size30 | exact q_fieldAddrK 0 rfl Tryd.underlying96 rfl rfl ty_size30
      apply d_q 8 gO rfl rfl rfl rfl
      · apply yq
        apply q_bin rfl rfl (fun w => g_int w); first | exact fun w => b_add_i w (by omega) | exact fun w => b_add w
      apply d_eff1 [31] [8, 30, 29, 28, 27, 26, 25, 24, 23, 22, 21, 20, 19, 18, 17, 16, 15, 14, 13, 12, 11, 10, 9, 3, 2, 1, 0] 32 [(78, _)]
      · exact gO
      · exact ⟨rfl, trivial⟩
      · kernel_rfl
      · kernel_rfl
      intro Ex
      apply l_callf rfl rfl rfl (number_ok b hb)
      · exact pk
      rintro v L' ⟨rfl, rfl⟩
      refine l_nm ?_
      refine l_nil ?_
      apply n_d
      · refine ⟨?_, ?_, ?_, ?_, ?_, ?_, ?_, ?_, ?_, ?_, ?_, ?_, ?_, ?_, ?_, ?_, ?_, ?_, ?_, ?_, ?_, ?_, ?_, ?_, ?_, ?_, ?_, trivial⟩
        · refine yat gO rfl rfl rfl ?_
          apply yq
          apply q_bin rfl rfl (fun w => g_int w); first | exact fun w => b_add_i w (by omega) | exact fun w => b_add w
        · refine yat gO rfl rfl rfl ?_
          apply yq
          refine QV.to (v' := .string (zeroS (boN l - eoN l - eN l))) (q_sliceS_h rfl rfl Tryd.underlying9 ⟨by omega, hz2⟩) (by rw [show (l.bo - l.eo - l.elem).toNat = boN l - eoN l - eN l by omega, gap_sub _ (by omega)])
        · refine yat gO rfl rfl rfl ?_
          apply yq
          apply q_bin rfl rfl (fun w => g_int w); first | exact fun w => b_sub_i w (by omega) | exact fun w => b_sub w
        · exact yat gO rfl rfl rfl (yq (q_loadL rfl ty_agg3 tk ga))
        · refine yat gO rfl rfl rfl ?_
          apply yq
          first | exact q_fieldAddr0 1 rfl Tryd.underlying27 rfl rfl ty_size3 | exact q_fieldAddrK 1 rfl Tryd.underlying27 rfl rfl ty_size3
        · refine yat gO rfl rfl rfl ?_
          apply yq
          first | exact q_fieldAddr0 1 rfl Tryd.underlying96 rfl rfl ty_size27 | exact q_fieldAddrK 1 rfl Tryd.underlying96 rfl rfl ty_size27
        · refine yat gO rfl rfl rfl ?_
          apply yq
          apply q_bin rfl rfl (fun w => g_int w); first | exact fun w => b_sub_i w (by omega) | exact fun w => b_sub w
        · exact yat gO rfl rfl rfl (yq (q_loadL rfl ty_agg3 tk ga))
        · refine yat gO rfl rfl rfl ?_
          apply yq
          first | exact q_fieldAddr0 5 rfl Tryd.underlying27 rfl rfl ty_size3 | exact q_fieldAddrK 5 rfl Tryd.underlying27 rfl rfl ty_size3
        · refine yat gO rfl rfl rfl ?_
          apply yq
          first | exact q_fieldAddr0 1 rfl Tryd.underlying96 rfl rfl ty_size27 | exact q_fieldAddrK 1 rfl Tryd.underlying96 rfl rfl ty_size27
        · exact yat gO rfl rfl rfl (yq (q_loadL rfl ty_agg3 tk ga))
        · refine yat gO rfl rfl rfl ?_
          apply yq
          first | exact q_fieldAddr0 6 rfl Tryd.underlying27 rfl rfl ty_size3 | exact q_fieldAddrK 6 rfl Tryd.underlying27 rfl rfl ty_size3
        · refine yat gO rfl rfl rfl ?_
          apply yq
          first | exact q_fieldAddr0 1 rfl Tryd.underlying96 rfl rfl ty_size27 | exact q_fieldAddrK 1 rfl Tryd.underlying96 rfl rfl ty_size27
        · exact yat gO rfl rfl rfl (yq (q_move rfl))
        · refine yat gO rfl rfl rfl ?_
          apply yq
          refine QV.to (v' := .string (zeroS (eoN l - kN l))) (q_sliceS_h rfl rfl Tryd.underlying9 ⟨by omega, hz1⟩) (by rw [show (l.eo - l.key).toNat = eoN l - kN l by omega, gap_sub _ (by omega)])
        · refine yat gO rfl rfl rfl ?_
          apply yq
          apply q_bin rfl rfl (fun w => g_int w); first | exact fun w => b_sub_i w (by omega) | exact fun w => b_sub w
        · exact yat gO rfl rfl rfl (yq (q_loadL rfl ty_agg3 tk ga))
        · refine yat gO rfl rfl rfl ?_
          apply yq
          first | exact q_fieldAddr0 0 rfl Tryd.underlying27 rfl rfl ty_size3 | exact q_fieldAddrK 0 rfl Tryd.underlying27 rfl rfl ty_size3
        · refine yat gO rfl rfl rfl ?_
          apply yq
          first | exact q_fieldAddr0 1 rfl Tryd.underlying96 rfl rfl ty_size27 | exact q_fieldAddrK 1 rfl Tryd.underlying96 rfl rfl ty_size27
        · exact yat gO rfl rfl rfl (yq (q_loadL rfl ty_agg3 tk ga))
        · refine yat gO rfl rfl rfl ?_
          apply yq
          first | exact q_fieldAddr0 5 rfl Tryd.underlying27 rfl rfl ty_size3 | exact q_fieldAddrK 5 rfl Tryd.underlying27 rfl rfl ty_size3
        · refine yat gO rfl rfl rfl ?_
          apply yq
          first | exact q_fieldAddr0 1 rfl Tryd.underlying96 rfl rfl ty_size27 | exact q_fieldAddrK 1 rfl Tryd.underlying96 rfl rfl ty_size27
        · exact yat gO rfl rfl rfl (yq (q_move rfl))
        · exact yat gO rfl rfl rfl (yq (q_loadL rfl ty_agg3 tk ga))
        · refine yat gO rfl rfl rfl ?_
          apply yq
          first | exact q_fieldAddr0 10 rfl Tryd.underlying96 rfl rfl ty_size3 | exact q_fieldAddrK 10 rfl Tryd.underlying96 rfl rfl ty_size3
        · exact yat gO rfl rfl rfl (yq (q_loadL rfl ty_agg30 tk ga))
        · refine yat gO rfl rfl rfl ?_
          apply yq
          first | exact q_fieldAddr0 0 rfl Tryd.underlying96 rfl rfl ty_size30 | exact q_fieldAddrK 0 rfl Tryd.underlying96 rfl rfl ty_size30
      apply d_eff1 [9, 17, 18, 30, 16, 29, 12, 15, 25, 28, 11, 14, 21, 24, 27, 10, 13, 20, 23, 26, 19, 22] [8, 3, 2, 1, 0] 33 [(56, _), (64, _), (65, _), (77, _), (79, _)]
      · exact gO
      · exact ⟨rfl, rfl, rfl, rfl, rfl, trivial⟩
      · kernel_rfl
      · kernel_rfl
      intro Ex
      refine o_buildSlice1 [_, _, _, _, _] rfl rfl Tryd.underlying195 ty_size9 ty_zero9 rfl rfl rfl rfl (fun b80 => ?_)
      refine l_nil ?_
      apply n_d
      · refine ⟨?_, ?_, ?_, ?_, ?_, trivial⟩
        · refine yat gO rfl rfl rfl ?_
          apply yq
          apply q_bin rfl rfl (fun w => g_int w); first | exact fun w => b_add_i w (by omega) | exact fun w => b_add w
        · exact yat gO rfl rfl rfl (yq (q_loadL rfl ty_agg3 tk ga))
        · refine yat gO rfl rfl rfl ?_
          apply yq
          first | exact q_fieldAddr0 10 rfl Tryd.underlying96 rfl rfl ty_size3 | exact q_fieldAddrK 10 rfl Tryd.underlying96 rfl rfl ty_size3
        · exact yat gO rfl rfl rfl (yq (q_loadL rfl ty_agg30 tk ga))
        · refine yat gO rfl rfl rfl ?_
          apply yq
          first | exact q_fieldAddr0 0 rfl Tryd.underlying96 rfl rfl ty_size30 | exact q_fieldAddrK 0 rfl Tryd.underlying96 rfl rfl ty_size30
      apply d_eff1 [1, 8, 0, 3, 2] [] 34 [(48, _), (55, _), (80, _)]
      · exact gO
      · exact ⟨rfl, rfl, rfl, trivial⟩
      · kernel_rfl
      · kernel_rfl
      intro Ex
      apply l_callf rfl rfl rfl (Write5_ok pa s b80 (off + (8 + i * sN l)) _ k (zeroS (eoN l - kN l)) e (zeroS (boN l - eoN l - eN l)) (numS b) (by omega) (by show goodP s _ ((totS (parts l k e b) : Nat) : Int); rw [htot]; exact goodP.sub hg (by omega) (by omega) (by omega)))
      · exact pk
      rintro v L' ⟨rfl, rfl⟩
      refine l_nm ?_
      rw [show [k, zeroS (eoN l - kN l), e, zeroS (boN l - eoN l - eN l), numS b] = parts l k e b from rfl, htot]
      refine l_nil ?_
      apply n_d
      · exact trivial
      refine d_end (by kernel_rfl) ?_
      refine n_code ?_
      refine t_seq ?_
      refine t_region ?_
      refine l_q rfl (q_loadAggL rfl ty_agg96 ty_size96 tk sb) ?_
      refine l_q rfl (q_move rfl) ?_
      refine l_q rfl (q_move rfl) ?_
      apply l_callf rfl rfl rfl (mark_ok pa off i t (s.put (off + (8 + i * sN l)) (sN l) (catM (parts l k e b))) l hl (goodP.put hg) (ctF cs) (ok_ct hok) (by rw [ArS.put_m, load_behind, load_ctrl hG hN hok]) hi (by omega))
      · exact pk
      rintro v L' ⟨rfl, rfl⟩
      refine l_nm ?_
      rw [put_full hl hG hok hi ht hk he]
      refine l_q rfl (q_assign rfl) ?_
      refine l_nil ?_
      refine n_code ?_
      refine t_ret ?_
      apply f_ret (.inl rfl) ([arenaH pa (s.put off (gN l) (encG l (updC cs i (.full t k e b))))])
      · apply res1 rfl
        · exact .tmp rfl
      · exact ⟨rfl, rfl⟩
      · exact en
theorem SetElem_ok (i : Nat) (t : Int) (k e e' : ByteArray) (b : Int) (hi : i < 8) (hc : cs i = .full t k e b) (he' : e'.size = eN l) :
    FnOk Tryd.prog 39 #[.agg #[.pointer (some ⟨pa, 0, none⟩), .int .i64 l.key, .int .i64 l.elem, .int .i64 l.ka, .int .i64 l.ea, .int .i64 l.cap, .int .i64 l.eo, .int .i64 l.bo, .int .i64 l.slot, .int .i64 l.group, .int .i64 off], .int .i64 i, .string e'] [arenaH pa s] (fun v L => v = .int .i64 0 ∧ L = [arenaH pa (s.put off (gN l) (encG l (updC cs i (.full t k e' b))))]) := by
  have hN := layN hl
  have hn8 := hN.g_eq; have hns := hN.s_eq
  have h1 := hN.g; have h2 := hN.k; have h3 := hN.e; have h4 := hN.eo; have h5 := hN.bo; have h6 := hN.s
  have h7 := hN.eo1; have h8 := hN.bo1
  have hcok := hok i hi
  have hcti := ct_cast hok hi
  rw [hc] at hcok hcti
  obtain ⟨ht0, ht1, hk, he, _⟩ := hcok
  have hct2 : ctF cs i < 128 := by have : (Cell.full t k e b).ctrl = t := rfl; omega
  have hst : (i : Int) * l.slot = ((i * sN l : Nat) : Int) := by rw [Int.natCast_mul, h6]
  have hit := slot_in hN hi (r := sN l - 1) (by omega)
  have hpl : ∀ x : Int, placeI l i x = 8 + ((i * sN l : Nat) : Int) + x := fun x => by unfold placeI; rw [if_neg (by omega), hst]
  have hes : (e'.size : Int) = l.elem := by omega
  have hg8 : goodP s off 8 := goodP.sub hg (by omega) (by omega) (by omega)
  refine fn_intro en39 Tryd.func39 rfl rfl rfl ?_
  intro Fr w0
  refine t_nm ?_
  refine t_pure (φ := s.ok) (fun w hw => arena_ok hw .here) fun hok0 => ?_
  have hge := goodP.end_le hok0 hg
  have hst0 := hok0.stop_eq
  refine t_seq ?_
  refine t_region ?_
  refine o_boxA rfl rfl (fun b3 => ?_)
  refine l_q rfl (q_assign rfl) ?_
  refine l_nil ?_
  refine n_code ?_
  refine t_seq ?_
  refine t_seq ?_
  refine t_draw mixed ?_
  refine d_q 0 gO rfl rfl rfl rfl (yq (q_move rfl)) ?_
  refine d_q 2 gO rfl rfl rfl rfl (yq (q_move rfl)) ?_
  refine d_q 3 gO rfl rfl rfl rfl (yq (q_len rfl (fun w => len_string Tryd.underlying9 w))) ?_
  apply d_q 4 gO rfl rfl rfl rfl
  · apply yq
    first | exact q_fieldAddr0 1 rfl Tryd.underlying96 rfl rfl ty_size27 | exact q_fieldAddrK 1 rfl Tryd.underlying96 rfl rfl ty_size27
  apply d_q 5 gO rfl rfl rfl rfl
  · apply yq
    first | exact q_fieldAddr0 1 rfl Tryd.underlying27 rfl rfl ty_size3 | exact q_fieldAddrK 1 rfl Tryd.underlying27 rfl rfl ty_size3
  refine d_q 6 gO rfl rfl rfl rfl (yq (q_loadL rfl ty_agg3 tk ga)) ?_
  apply d_q 7 gO rfl rfl rfl rfl
  · apply yq
    apply q_bin rfl rfl (fun w => g_int w); exact fun w => b_neq w
  refine d_q 9 gO rfl rfl rfl rfl (yq (q_loadAggL rfl ty_agg96 ty_size96 tk sb)) ?_
  apply d_eff1 [0] [9, 7, 6, 5, 4, 3, 2] 1 [(10, _)]
  · exact gO
  · exact ⟨rfl, trivial⟩
  · kernel_rfl
  · kernel_rfl
  intro Ex
  apply l_callf rfl rfl rfl (slot_ok i (by omega) (by omega))
  · exact pk
  rintro v L' ⟨rfl, rfl⟩
  refine l_nm ?_
  refine l_nil ?_
  apply n_d
  · refine ⟨?_, ?_, ?_, ?_, ?_, ?_, ?_, trivial⟩
    · exact yat gO rfl rfl rfl (yq (q_loadAggL rfl ty_agg96 ty_size96 tk sb))
    · refine yat gO rfl rfl rfl ?_
      apply yq
      apply q_bin rfl rfl (fun w => g_int w); exact fun w => b_neq w
    · exact yat gO rfl rfl rfl (yq (q_loadL rfl ty_agg3 tk ga))
    · refine yat gO rfl rfl rfl ?_
      apply yq
      first | exact q_fieldAddr0 1 rfl Tryd.underlying27 rfl rfl ty_size3 | exact q_fieldAddrK 1 rfl Tryd.underlying27 rfl rfl ty_size3
    · refine yat gO rfl rfl rfl ?_
      apply yq
      first | exact q_fieldAddr0 1 rfl Tryd.underlying96 rfl rfl ty_size27 | exact q_fieldAddrK 1 rfl Tryd.underlying96 rfl rfl ty_size27
    · exact yat gO rfl rfl rfl (yq (q_len rfl (fun w => len_string Tryd.underlying9 w)))
    · exact yat gO rfl rfl rfl (yq (q_move rfl))
  apply d_eff1 [7, 3, 6, 2, 5, 4] [9] 8 [(17, _)]
  · exact gO
  · exact ⟨rfl, trivial⟩
  · kernel_rfl
  · kernel_rfl
  intro Ex
  apply l_callf rfl rfl rfl (when_no _ _ (by simp; omega))
  · exact pk
  rintro v L' ⟨rfl, rfl⟩
  refine l_nm ?_
  refine l_nil ?_
  apply n_d
  · refine ⟨?_, trivial⟩
    · exact yat gO rfl rfl rfl (yq (q_loadAggL rfl ty_agg96 ty_size96 tk sb))
  apply d_eff1 [9] [] 10 [(19, _)]
  · exact gO
  · exact ⟨rfl, trivial⟩
  · kernel_rfl
  · kernel_rfl
  intro Ex
  apply l_callf rfl rfl rfl (there_ok pa off s l hl hg)
  · exact pk
  rintro v L' ⟨rfl, rfl⟩
  refine l_nm ?_
  refine l_nil ?_
  apply n_d
  · exact trivial
  apply d_eff1 [] [] 11 [(11, _), (18, _), (20, _)]
  · exact gO
  · exact ⟨rfl, rfl, rfl, trivial⟩
  · kernel_rfl
  · kernel_rfl
  intro Ex
  refine o_buildSlice1 [_, _, _] rfl rfl Tryd.underlying194 ty_size31 ty_zero31 rfl rfl rfl rfl (fun b21 => ?_)
  refine l_nil ?_
  apply n_d
  · exact trivial
  apply d_eff1 [] [] 12 [(21, _)]
  · exact gO
  · exact ⟨rfl, trivial⟩
  · kernel_rfl
  · kernel_rfl
  intro Ex
  apply l_callf rfl rfl rfl (first3_ok b21 0 0 0)
  · exact pk
  rintro v L' ⟨rfl, rfl⟩
  refine l_nm ?_
  refine l_nil ?_
  apply n_d
  · exact trivial
  apply d_eff1 [] [] 13 [(22, _)]
  · exact gO
  · exact ⟨rfl, trivial⟩
  · kernel_rfl
  · kernel_rfl
  intro Ex
  refine l_q rfl (q_assign rfl) ?_
  refine l_nil ?_
  apply n_d
  · exact trivial
  refine d_end (by kernel_rfl) ?_
  refine n_code ?_
  refine t_seq ?_
  refine t_region ?_
  refine l_q rfl (q_move rfl) ?_
  apply l_q rfl
  · apply q_bin rfl rfl (fun w => g_int w); exact fun w => b_neq w
  refine l_nil ?_
  refine n_code ?_
  first | refine t_cond_d rfl (fun z => ?_) (fun z => ?_) | refine t_cond_n rfl (fun z => ?_) (fun z => ?_) | refine t_cond rfl (fun z => ?_) (fun z => ?_)
  · exact absurd rfl z
  · refine t_skip ?_
    refine n_code ?_
    refine t_seq ?_
    refine t_region ?_
    first | refine l_q rfl (q_fieldAddr0 0 rfl Tryd.underlying96 rfl rfl ty_size30) ?_ | refine l_q rfl (q_fieldAddrK 0 rfl Tryd.underlying96 rfl rfl ty_size30) ?_
    refine l_q rfl (q_loadL rfl ty_agg30 tk ga) ?_
    first | refine l_q rfl (q_fieldAddr0 10 rfl Tryd.underlying96 rfl rfl ty_size3) ?_ | refine l_q rfl (q_fieldAddrK 10 rfl Tryd.underlying96 rfl rfl ty_size3) ?_
    refine l_q rfl (q_loadL rfl ty_agg3 tk ga) ?_
    apply l_callf rfl rfl rfl (Load_okI pa s _ _ off 8 rfl rfl (by unfold wid; omega) hg8)
    · exact pk
    rintro v L' ⟨rfl, rfl⟩
    refine l_nm ?_
    rw [load_ctrl hG hN hok]
    refine l_q rfl (q_move rfl) ?_
    refine l_q rfl (q_extractL rfl ga) ?_
    refine l_q rfl (q_extractL rfl ga) ?_
    refine l_q rfl (q_assign rfl) ?_
    refine l_q rfl (q_assign rfl) ?_
    refine l_nil ?_
    refine n_code ?_
    refine t_seq ?_
    refine t_seq ?_
    refine t_region ?_
    refine l_q rfl (q_move rfl) ?_
    apply l_callf rfl rfl rfl (MatchFull_ok (ctF cs) (ok_ct hok))
    · exact pk
    rintro v L' ⟨rfl, rfl⟩
    refine l_nm ?_
    refine l_q rfl (q_move rfl) ?_
    apply l_callf rfl rfl rfl (Has_ok _ i hi)
    · exact pk
    rintro v L' ⟨rfl, rfl⟩
    refine l_nm ?_
    refine l_q rfl (q_un rfl (fun w => u_not w)) ?_
    refine l_nil ?_
    refine n_code ?_
    first | refine t_cond_d rfl (fun y => ?_) (fun y => ?_) | refine t_cond_n rfl (fun y => ?_) (fun y => ?_) | refine t_cond rfl (fun y => ?_) (fun y => ?_)
    · simp [hct2] at y
    · refine t_skip ?_
      refine n_code ?_
      refine t_seq ?_
      refine t_draw mixed ?_
      apply d_q 0 gO rfl rfl rfl rfl
      · apply yq
        first | exact q_fieldAddr0 0 rfl Tryd.underlying96 rfl rfl ty_size30 | exact q_fieldAddrK 0 rfl Tryd.underlying96 rfl rfl ty_size30
      refine d_q 1 gO rfl rfl rfl rfl (yq (q_loadL rfl ty_agg30 tk ga)) ?_
      apply d_q 2 gO rfl rfl rfl rfl
      · apply yq
        first | exact q_fieldAddr0 10 rfl Tryd.underlying96 rfl rfl ty_size3 | exact q_fieldAddrK 10 rfl Tryd.underlying96 rfl rfl ty_size3
      refine d_q 3 gO rfl rfl rfl rfl (yq (q_loadL rfl ty_agg3 tk ga)) ?_
      apply d_q 4 gO rfl rfl rfl rfl
      · apply yq
        first | exact q_fieldAddr0 1 rfl Tryd.underlying96 rfl rfl ty_size27 | exact q_fieldAddrK 1 rfl Tryd.underlying96 rfl rfl ty_size27
      refine d_q 5 gO rfl rfl rfl rfl (yq (q_loadAggL rfl ty_agg27 ty_size27 tk sb)) ?_
      refine d_q 6 gO rfl rfl rfl rfl (yq (q_move rfl)) ?_
      refine d_q 9 gO rfl rfl rfl rfl (yq (q_move rfl)) ?_
      apply d_eff2 7 10
      · kernel_rfl
      · apply effAt (q1 := [5, 6, 4]) (q2 := [9, 3, 2, 1, 0]) [(44, _), (45, _)]
        · exact gO
        · exact ⟨rfl, rfl, trivial⟩
        · kernel_rfl
        intro Ex
        apply l_callf rfl rfl rfl (ElemAt_ok l hl i)
        · exact pk
        rintro v L' ⟨rfl, rfl⟩
        refine l_nm ?_
        rw [hpl]
        refine l_nil ?_
        apply n_d
        · refine ⟨?_, ?_, ?_, ?_, ?_, trivial⟩
          · exact yat gO rfl rfl rfl (yq (q_move rfl))
          · exact yat gO rfl rfl rfl (yq (q_loadL rfl ty_agg3 tk ga))
          · refine yat gO rfl rfl rfl ?_
            apply yq
            first | exact q_fieldAddr0 10 rfl Tryd.underlying96 rfl rfl ty_size3 | exact q_fieldAddrK 10 rfl Tryd.underlying96 rfl rfl ty_size3
          · exact yat gO rfl rfl rfl (yq (q_loadL rfl ty_agg30 tk ga))
          · refine yat gO rfl rfl rfl ?_
            apply yq
            first | exact q_fieldAddr0 0 rfl Tryd.underlying96 rfl rfl ty_size30 | exact q_fieldAddrK 0 rfl Tryd.underlying96 rfl rfl ty_size30
        apply d_q 8 gO rfl rfl rfl rfl
        · apply yq
          apply q_bin rfl rfl (fun w => g_int w); first | exact fun w => b_add_i w (by omega) | exact fun w => b_add w
        apply d_eff1 [9] [8, 3, 2, 1, 0] 10 [(48, _)]
        · exact gO
        · exact ⟨rfl, trivial⟩
        · kernel_rfl
        · kernel_rfl
        intro Ex
        refine o_buildSlice1 [_] rfl rfl Tryd.underlying195 ty_size9 ty_zero9 rfl rfl rfl rfl (fun b49 => ?_)
        refine l_nil ?_
        apply n_d
        · refine ⟨?_, ?_, ?_, ?_, ?_, trivial⟩
          · refine yat gO rfl rfl rfl ?_
            apply yq
            apply q_bin rfl rfl (fun w => g_int w); first | exact fun w => b_add_i w (by omega) | exact fun w => b_add w
          · exact yat gO rfl rfl rfl (yq (q_loadL rfl ty_agg3 tk ga))
          · refine yat gO rfl rfl rfl ?_
            apply yq
            first | exact q_fieldAddr0 10 rfl Tryd.underlying96 rfl rfl ty_size3 | exact q_fieldAddrK 10 rfl Tryd.underlying96 rfl rfl ty_size3
          · exact yat gO rfl rfl rfl (yq (q_loadL rfl ty_agg30 tk ga))
          · refine yat gO rfl rfl rfl ?_
            apply yq
            first | exact q_fieldAddr0 0 rfl Tryd.underlying96 rfl rfl ty_size30 | exact q_fieldAddrK 0 rfl Tryd.underlying96 rfl rfl ty_size30
        apply d_eff1 [1, 8, 0, 3, 2] [] 11 [(40, _), (47, _), (49, _)]
        · exact gO
        · exact ⟨rfl, rfl, rfl, trivial⟩
        · kernel_rfl
        · kernel_rfl
        intro Ex
        apply l_callf rfl rfl rfl (Write1_ok pa s b49 (off + (8 + i * sN l + eoN l)) _ e' (by omega) (goodP.sub hg (by omega) (by omega) (by simp only [totS]; omega)))
        · exact pk
        rintro v L' ⟨rfl, rfl⟩
        refine l_nm ?_
        rw [show s.put (off + (8 + i * sN l + eoN l)) (totS [e']) (catM [e']) = s.put off (gN l) (encG l (updC cs i (.full t k e' b))) by unfold ArS.put; rw [show totS [e'] = eN l by simp only [totS]; omega, cat_one, put_elem hN hG hi hc hk he he']]
        refine l_nil ?_
        apply n_d
        · exact trivial
        apply d_eff1 [] [] 12 [(50, _)]
        · exact gO
        · exact ⟨rfl, trivial⟩
        · kernel_rfl
        · kernel_rfl
        intro Ex
        refine l_q rfl (q_assign rfl) ?_
        refine l_nil ?_
        apply n_d
        · exact trivial
        refine d_end (by kernel_rfl) ?_
        refine n_code ?_
        refine t_ret ?_
        apply f_ret (.inl rfl) ([arenaH pa (s.put off (gN l) (encG l (updC cs i (.full t k e' b))))])
        · apply res1 rfl
          · exact .tmp rfl
        · exact ⟨rfl, rfl⟩
        · exact en

      · apply effAt (q1 := [9]) (q2 := [6, 5, 4, 3, 2, 1, 0]) [(48, _)]
        · exact gO
        · exact ⟨rfl, trivial⟩
        · kernel_rfl
        intro Ex
        refine o_buildSlice1 [_] rfl rfl Tryd.underlying195 ty_size9 ty_zero9 rfl rfl rfl rfl (fun b49 => ?_)
        refine l_nil ?_
        apply n_d
        · refine ⟨?_, ?_, ?_, ?_, ?_, ?_, ?_, trivial⟩
          · exact yat gO rfl rfl rfl (yq (q_move rfl))
          · exact yat gO rfl rfl rfl (yq (q_loadAggL rfl ty_agg27 ty_size27 tk sb))
          · refine yat gO rfl rfl rfl ?_
            apply yq
            first | exact q_fieldAddr0 1 rfl Tryd.underlying96 rfl rfl ty_size27 | exact q_fieldAddrK 1 rfl Tryd.underlying96 rfl rfl ty_size27
          · exact yat gO rfl rfl rfl (yq (q_loadL rfl ty_agg3 tk ga))
          · refine yat gO rfl rfl rfl ?_
            apply yq
            first | exact q_fieldAddr0 10 rfl Tryd.underlying96 rfl rfl ty_size3 | exact q_fieldAddrK 10 rfl Tryd.underlying96 rfl rfl ty_size3
          · exact yat gO rfl rfl rfl (yq (q_loadL rfl ty_agg30 tk ga))
          · refine yat gO rfl rfl rfl ?_
            apply yq
            first | exact q_fieldAddr0 0 rfl Tryd.underlying96 rfl rfl ty_size30 | exact q_fieldAddrK 0 rfl Tryd.underlying96 rfl rfl ty_size30
        apply d_eff1 [5, 6, 4] [3, 2, 1, 0] 7 [(44, _), (45, _)]
        · exact gO
        · exact ⟨rfl, rfl, trivial⟩
        · kernel_rfl
        · kernel_rfl
        intro Ex
        apply l_callf rfl rfl rfl (ElemAt_ok l hl i)
        · exact pk
        rintro v L' ⟨rfl, rfl⟩
        refine l_nm ?_
        rw [hpl]
        refine l_nil ?_
        apply n_d
        · refine ⟨?_, ?_, ?_, ?_, trivial⟩
          · exact yat gO rfl rfl rfl (yq (q_loadL rfl ty_agg3 tk ga))
          · refine yat gO rfl rfl rfl ?_
            apply yq
            first | exact q_fieldAddr0 10 rfl Tryd.underlying96 rfl rfl ty_size3 | exact q_fieldAddrK 10 rfl Tryd.underlying96 rfl rfl ty_size3
          · exact yat gO rfl rfl rfl (yq (q_loadL rfl ty_agg30 tk ga))
          · refine yat gO rfl rfl rfl ?_
            apply yq
            first | exact q_fieldAddr0 0 rfl Tryd.underlying96 rfl rfl ty_size30 | exact q_fieldAddrK 0 rfl Tryd.underlying96 rfl rfl ty_size30
        apply d_q 8 gO rfl rfl rfl rfl
        · apply yq
          apply q_bin rfl rfl (fun w => g_int w); first | exact fun w => b_add_i w (by omega) | exact fun w => b_add w
        apply d_eff1 [1, 8, 0, 3, 2] [] 11 [(40, _), (47, _), (49, _)]
        · exact gO
        · exact ⟨rfl, rfl, rfl, trivial⟩
        · kernel_rfl
        · kernel_rfl
        intro Ex
        apply l_callf rfl rfl rfl (Write1_ok pa s b49 (off + (8 + i * sN l + eoN l)) _ e' (by omega) (goodP.sub hg (by omega) (by omega) (by simp only [totS]; omega)))
        · exact pk
        rintro v L' ⟨rfl, rfl⟩
        refine l_nm ?_
        rw [show s.put (off + (8 + i * sN l + eoN l)) (totS [e']) (catM [e']) = s.put off (gN l) (encG l (updC cs i (.full t k e' b))) by unfold ArS.put; rw [show totS [e'] = eN l by simp only [totS]; omega, cat_one, put_elem hN hG hi hc hk he he']]
        refine l_nil ?_
        apply n_d
        · exact trivial
        apply d_eff1 [] [] 12 [(50, _)]
        · exact gO
        · exact ⟨rfl, trivial⟩
        · kernel_rfl
        · kernel_rfl
        intro Ex
        refine l_q rfl (q_assign rfl) ?_
        refine l_nil ?_
        apply n_d
        · exact trivial
        refine d_end (by kernel_rfl) ?_
        refine n_code ?_
        refine t_ret ?_
        apply f_ret (.inl rfl) ([arenaH pa (s.put off (gN l) (encG l (updC cs i (.full t k e' b))))])
        · apply res1 rfl
          · exact .tmp rfl
        · exact ⟨rfl, rfl⟩
        · exact en
theorem Erase_ok (i : Nat) (gone : Bool) (hi : i < 8) :
    FnOk Tryd.prog 95 #[.agg #[.pointer (some ⟨pa, 0, none⟩), .int .i64 l.key, .int .i64 l.elem, .int .i64 l.ka, .int .i64 l.ea, .int .i64 l.cap, .int .i64 l.eo, .int .i64 l.bo, .int .i64 l.slot, .int .i64 l.group, .int .i64 off], .int .i64 i, .bool gone] [arenaH pa s] (fun v L => v = .int .i64 0 ∧ L = [arenaH pa (s.put off (gN l) (encG l (updC cs i (if gone then .deleted else .empty))))]) := by
  have hN := layN hl
  have hn8 := hN.g_eq; have hns := hN.s_eq
  have h1 := hN.g; have h2 := hN.k; have h3 := hN.e; have h4 := hN.eo; have h5 := hN.bo; have h6 := hN.s
  have h7 := hN.eo1; have h8 := hN.bo1
  have hst : (i : Int) * l.slot = ((i * sN l : Nat) : Int) := by rw [Int.natCast_mul, h6]
  have hit := slot_in hN hi (r := sN l - 1) (by omega)
  have hpl : ∀ x : Int, placeI l i x = 8 + ((i * sN l : Nat) : Int) + x := fun x => by unfold placeI; rw [if_neg (by omega), hst]
  refine fn_intro en95 Tryd.func95 rfl rfl rfl ?_
  intro Fr w0
  refine t_nm ?_
  refine t_pure (φ := s.ok) (fun w hw => arena_ok hw .here) fun hok0 => ?_
  have hge := goodP.end_le hok0 hg
  have hst0 := hok0.stop_eq
  refine t_seq ?_
  refine t_region ?_
  refine o_boxA rfl rfl (fun b3 => ?_)
  refine l_q rfl (q_assign rfl) ?_
  refine l_nil ?_
  refine n_code ?_
  refine t_seq ?_
  refine t_seq ?_
  refine t_draw mixed ?_
  refine d_q 0 gO rfl rfl rfl rfl (yq (q_move rfl)) ?_
  refine d_q 2 gO rfl rfl rfl rfl (yq (q_loadAggL rfl ty_agg96 ty_size96 tk sb)) ?_
  apply d_eff1 [0] [2] 1 [(8, _)]
  · exact gO
  · exact ⟨rfl, trivial⟩
  · kernel_rfl
  · kernel_rfl
  intro Ex
  apply l_callf rfl rfl rfl (slot_ok i (by omega) (by omega))
  · exact pk
  rintro v L' ⟨rfl, rfl⟩
  refine l_nm ?_
  refine l_nil ?_
  apply n_d
  · refine ⟨?_, trivial⟩
    · exact yat gO rfl rfl rfl (yq (q_loadAggL rfl ty_agg96 ty_size96 tk sb))
  apply d_eff1 [2] [] 3 [(10, _)]
  · exact gO
  · exact ⟨rfl, trivial⟩
  · kernel_rfl
  · kernel_rfl
  intro Ex
  apply l_callf rfl rfl rfl (there_ok pa off s l hl hg)
  · exact pk
  rintro v L' ⟨rfl, rfl⟩
  refine l_nm ?_
  refine l_nil ?_
  apply n_d
  · exact trivial
  apply d_eff1 [] [] 4 [(9, _), (11, _)]
  · exact gO
  · exact ⟨rfl, rfl, trivial⟩
  · kernel_rfl
  · kernel_rfl
  intro Ex
  refine o_buildSlice1 [_, _] rfl rfl Tryd.underlying194 ty_size31 ty_zero31 rfl rfl rfl rfl (fun b12 => ?_)
  refine l_nil ?_
  apply n_d
  · exact trivial
  apply d_eff1 [] [] 5 [(12, _)]
  · exact gO
  · exact ⟨rfl, trivial⟩
  · kernel_rfl
  · kernel_rfl
  intro Ex
  apply l_callf rfl rfl rfl (first2_ok b12 0 0)
  · exact pk
  rintro v L' ⟨rfl, rfl⟩
  refine l_nm ?_
  refine l_nil ?_
  apply n_d
  · exact trivial
  apply d_eff1 [] [] 6 [(13, _)]
  · exact gO
  · exact ⟨rfl, trivial⟩
  · kernel_rfl
  · kernel_rfl
  intro Ex
  refine l_q rfl (q_assign rfl) ?_
  refine l_nil ?_
  apply n_d
  · exact trivial
  refine d_end (by kernel_rfl) ?_
  refine n_code ?_
  refine t_seq ?_
  refine t_region ?_
  refine l_q rfl (q_move rfl) ?_
  apply l_q rfl
  · apply q_bin rfl rfl (fun w => g_int w); exact fun w => b_neq w
  refine l_nil ?_
  refine n_code ?_
  first | refine t_cond_d rfl (fun z => ?_) (fun z => ?_) | refine t_cond_n rfl (fun z => ?_) (fun z => ?_) | refine t_cond rfl (fun z => ?_) (fun z => ?_)
  · exact absurd rfl z
  · refine t_skip ?_
    refine n_code ?_
    refine t_seq ?_
    refine t_draw mixed ?_
    apply d_q 0 gO rfl rfl rfl rfl
    · apply yq
      first | exact q_fieldAddr0 0 rfl Tryd.underlying96 rfl rfl ty_size30 | exact q_fieldAddrK 0 rfl Tryd.underlying96 rfl rfl ty_size30
    refine d_q 1 gO rfl rfl rfl rfl (yq (q_loadL rfl ty_agg30 tk ga)) ?_
    apply d_q 2 gO rfl rfl rfl rfl
    · apply yq
      first | exact q_fieldAddr0 10 rfl Tryd.underlying96 rfl rfl ty_size3 | exact q_fieldAddrK 10 rfl Tryd.underlying96 rfl rfl ty_size3
    refine d_q 3 gO rfl rfl rfl rfl (yq (q_loadL rfl ty_agg3 tk ga)) ?_
    apply d_q 4 gO rfl rfl rfl rfl
    · apply yq
      first | exact q_fieldAddr0 1 rfl Tryd.underlying96 rfl rfl ty_size27 | exact q_fieldAddrK 1 rfl Tryd.underlying96 rfl rfl ty_size27
    refine d_q 5 gO rfl rfl rfl rfl (yq (q_loadAggL rfl ty_agg27 ty_size27 tk sb)) ?_
    refine d_q 6 gO rfl rfl rfl rfl (yq (q_move rfl)) ?_
    apply d_q 9 gO rfl rfl rfl rfl
    · apply yq
      first | exact q_fieldAddr0 1 rfl Tryd.underlying96 rfl rfl ty_size27 | exact q_fieldAddrK 1 rfl Tryd.underlying96 rfl rfl ty_size27
    apply d_q 10 gO rfl rfl rfl rfl
    · apply yq
      first | exact q_fieldAddr0 7 rfl Tryd.underlying27 rfl rfl ty_size3 | exact q_fieldAddrK 7 rfl Tryd.underlying27 rfl rfl ty_size3
    refine d_q 11 gO rfl rfl rfl rfl (yq (q_loadL rfl ty_agg3 tk ga)) ?_
    apply d_eff1 [5, 6, 4] [11, 10, 9, 3, 2, 1, 0] 7 [(22, _), (23, _)]
    · exact gO
    · exact ⟨rfl, rfl, trivial⟩
    · kernel_rfl
    · kernel_rfl
    intro Ex
    apply l_callf rfl rfl rfl (KeyAt_ok l hl i)
    · exact pk
    rintro v L' ⟨rfl, rfl⟩
    refine l_nm ?_
    rw [hpl]
    refine l_nil ?_
    apply n_d
    · refine ⟨?_, ?_, ?_, ?_, ?_, ?_, ?_, trivial⟩
      · exact yat gO rfl rfl rfl (yq (q_loadL rfl ty_agg3 tk ga))
      · refine yat gO rfl rfl rfl ?_
        apply yq
        first | exact q_fieldAddr0 7 rfl Tryd.underlying27 rfl rfl ty_size3 | exact q_fieldAddrK 7 rfl Tryd.underlying27 rfl rfl ty_size3
      · refine yat gO rfl rfl rfl ?_
        apply yq
        first | exact q_fieldAddr0 1 rfl Tryd.underlying96 rfl rfl ty_size27 | exact q_fieldAddrK 1 rfl Tryd.underlying96 rfl rfl ty_size27
      · exact yat gO rfl rfl rfl (yq (q_loadL rfl ty_agg3 tk ga))
      · refine yat gO rfl rfl rfl ?_
        apply yq
        first | exact q_fieldAddr0 10 rfl Tryd.underlying96 rfl rfl ty_size3 | exact q_fieldAddrK 10 rfl Tryd.underlying96 rfl rfl ty_size3
      · exact yat gO rfl rfl rfl (yq (q_loadL rfl ty_agg30 tk ga))
      · refine yat gO rfl rfl rfl ?_
        apply yq
        first | exact q_fieldAddr0 0 rfl Tryd.underlying96 rfl rfl ty_size30 | exact q_fieldAddrK 0 rfl Tryd.underlying96 rfl rfl ty_size30
    apply d_q 8 gO rfl rfl rfl rfl
    · apply yq
      apply q_bin rfl rfl (fun w => g_int w); first | exact fun w => b_add_i w (by omega) | exact fun w => b_add w
    apply d_eff1 [1, 8, 11, 0, 3, 10, 2, 9] [] 12 [(18, _), (25, _), (28, _)]
    · exact gO
    · exact ⟨rfl, rfl, rfl, trivial⟩
    · kernel_rfl
    · kernel_rfl
    intro Ex
    apply l_callf rfl rfl rfl (Fill_okI pa s _ l.slot (off + (8 + i * sN l)) (sN l) 0 (by omega) (by omega) (by omega) (goodP.sub hg (by omega) (by omega) (by omega)))
    · exact pk
    rintro v L' ⟨rfl, rfl⟩
    refine l_nm ?_
    refine l_nil ?_
    apply n_d
    · exact trivial
    refine d_end (by kernel_rfl) ?_
    refine n_code ?_
    refine t_seq ?_
    refine t_seq ?_
    refine t_region ?_
    refine l_q rfl (q_move rfl) ?_
    refine l_nil ?_
    refine n_code ?_
    first | refine t_cond_d rfl (fun y => ?_) (fun y => ?_) | refine t_cond_n rfl (fun y => ?_) (fun y => ?_) | refine t_cond rfl (fun y => ?_) (fun y => ?_)
    · refine t_seq ?_
      refine t_region ?_
      refine l_q rfl (q_loadAggL rfl ty_agg96 ty_size96 tk sb) ?_
      refine l_q rfl (q_move rfl) ?_
      apply l_callf rfl rfl rfl (mark_ok pa off i 254 (s.put (off + (8 + i * sN l)) (sN l) (fun _ => 0)) l hl (goodP.put hg) (ctF cs) (ok_ct hok) (by rw [ArS.put_m, load_behind, load_ctrl hG hN hok]) hi (by omega))
      · exact pk
      rintro v L' ⟨rfl, rfl⟩
      refine l_nm ?_
      rw [put_gone hl hG hok hi (c := 254) (cell := .deleted) rfl (by decide) rfl]
      refine l_q rfl (q_assign rfl) ?_
      refine l_nil ?_
      refine n_code ?_
      refine t_ret ?_
      refine r_code ?_
      apply f_ret (.inl rfl) ([arenaH pa (s.put off (gN l) (encG l (updC cs i .deleted)))])
      · apply res1 rfl
        · exact .tmp rfl
      · exact ⟨rfl, by rw [y]; rfl⟩
      · exact en
    · refine t_skip ?_
      refine n_code ?_
      refine t_seq ?_
      refine t_region ?_
      refine l_q rfl (q_loadAggL rfl ty_agg96 ty_size96 tk sb) ?_
      refine l_q rfl (q_move rfl) ?_
      apply l_callf rfl rfl rfl (mark_ok pa off i 128 (s.put (off + (8 + i * sN l)) (sN l) (fun _ => 0)) l hl (goodP.put hg) (ctF cs) (ok_ct hok) (by rw [ArS.put_m, load_behind, load_ctrl hG hN hok]) hi (by omega))
      · exact pk
      rintro v L' ⟨rfl, rfl⟩
      refine l_nm ?_
      rw [put_gone hl hG hok hi (c := 128) (cell := .empty) rfl (by decide) rfl]
      refine l_q rfl (q_assign rfl) ?_
      refine l_nil ?_
      refine n_code ?_
      refine t_ret ?_
      apply f_ret (.inl rfl) ([arenaH pa (s.put off (gN l) (encG l (updC cs i .empty)))])
      · apply res1 rfl
        · exact .tmp rfl
      · exact ⟨rfl, by rw [y]; rfl⟩
      · exact en
end
end Go.Proofs.YthdmlgnhmbobaaaDoor.Group
