/- The contracts of package group: eight slots in an arena. -/
import Derived.Test.YthkajgkagnenbaaGreatDoorArenaW
import Derived.Test.YthkajgkagnenbaaGreatDoorGroupB
import Derived.Test.YthkajgkagnenbaaGreatDoorCtrl
import Derived.Test.YthkajgkagnenbaaGreatDoorLayout
set_option linter.unusedVariables false
set_option linter.unusedSimpArgs false
set_option maxRecDepth 100000
namespace Go.Proofs.YthkajgkagnenbaaGreatDoor.Group
open Go.RowKit Go.Proofs Go.Proofs.YthkajgkagnenbaaGreatDoor.Eng Go.Proofs.YthkajgkagnenbaaGreatDoor.Ty Go.Proofs.YthkajgkagnenbaaGreatDoor.Bits Go.Proofs.YthkajgkagnenbaaGreatDoor.Mem Go.Proofs.YthkajgkagnenbaaGreatDoor.Search Go.Proofs.YthkajgkagnenbaaGreatDoor.Arena Go.Proofs.YthkajgkagnenbaaGreatDoor.CtrlB Go.Proofs.YthkajgkagnenbaaGreatDoor.Ctrl Go.Proofs.YthkajgkagnenbaaGreatDoor.Layout Go.Proofs.YthkajgkagnenbaaGreatDoor.GroupB

/-- What a slot holds, as a value's parts. -/
def _root_.Go.Proofs.YthkajgkagnenbaaGreatDoor.GroupB.Cell.kind : Cell → Int | .empty => 0 | .deleted => 1 | .full _ _ _ _ => 2
def _root_.Go.Proofs.YthkajgkagnenbaaGreatDoor.GroupB.Cell.tagI : Cell → Int | .full t _ _ _ => t | _ => 0
def _root_.Go.Proofs.YthkajgkagnenbaaGreatDoor.GroupB.Cell.keyS : Cell → ByteArray | .full _ k _ _ => k | _ => ⟨#[]⟩
def _root_.Go.Proofs.YthkajgkagnenbaaGreatDoor.GroupB.Cell.elemS : Cell → ByteArray | .full _ _ e _ => e | _ => ⟨#[]⟩
def _root_.Go.Proofs.YthkajgkagnenbaaGreatDoor.GroupB.Cell.birthI : Cell → Int | .full _ _ _ b => b | _ => 0

/-! ### The control word -/
def ctF (cs : Nat → Cell) : Byt := fun i => (cs i).ctrl.toNat
theorem ct_cast {l : Lay} {cs : Nat → Cell} (h : ∀ i, i < 8 → (cs i).ok l) {i : Nat} (hi : i < 8) : ((ctF cs i : Nat) : Int) = (cs i).ctrl := by
 have := Cell.ctrl_bnd (h i hi); unfold ctF; omega
theorem ok_ct {l : Lay} {cs : Nat → Cell} (h : ∀ i, i < 8 → (cs i).ok l) : okB (ctF cs) := fun i hi => by
 have := Cell.ctrl_bnd (h i hi); have := ct_cast h hi; omega
theorem wI_bnd {f : Byt} (hf : okB f) : 0 ≤ wI f ∧ wI f < 18446744073709551616 := by
 have := wd_lt hf
 show 0 ≤ ((wd f : Nat) : Int) ∧ ((wd f : Nat) : Int) < _
 omega
def isF : Cell → Bool | .full _ _ _ _ => true | _ => false
theorem load_wd {m : Nat → Int} {o : Nat} {f : Byt} (h : ∀ i, i < 8 → m (o + i) = ((f i : Nat) : Int)) : loadN m o 8 = wI f := by
 have h0 := h 0 (by decide); have h1 := h 1 (by decide); have h2 := h 2 (by decide); have h3 := h 3 (by decide)
 have h4 := h 4 (by decide); have h5 := h 5 (by decide); have h6 := h 6 (by decide); have h7 := h 7 (by decide)
 simp only [loadN, wI, wd, lst, ofB]
 rw [h0, h1, h2, h3, h4, h5, h6, h7]
 simp only [show (2 : Int) ^ (8 * 0) = 1 from rfl, show (2 : Int) ^ (8 * 1) = 256 from rfl, show (2 : Int) ^ (8 * 2) = 65536 from rfl, show (2 : Int) ^ (8 * 3) = 16777216 from rfl, show (2 : Int) ^ (8 * 4) = 4294967296 from rfl, show (2 : Int) ^ (8 * 5) = 1099511627776 from rfl, show (2 : Int) ^ (8 * 6) = 281474976710656 from rfl, show (2 : Int) ^ (8 * 7) = 72057594037927936 from rfl]
 push_cast
 omega
theorem load_ctrl {m : Nat → Int} {off : Nat} {l : Lay} {cs : Nat → Cell} (hG : GAt m off l cs) (hN : LayN l) (h : ∀ i, i < 8 → (cs i).ok l) : loadN m off 8 = wI (ctF cs) :=
 load_wd fun i hi => by rw [hG.ctrl hN hi, ct_cast h hi]
theorem byte_wd {f : Byt} (hf : okB f) {j : Nat} (hj : j < 8) : byteN (wI f) j = ((f j : Nat) : Int) := by
 have := wd_div f hf j hj
 unfold byteN
 rw [← pow_cast, ← Int.natCast_ediv, ← this]
 exact (Int.natCast_emod _ 256).symm
theorem put_put {s : ArS} {a b c d o k : Nat} {f g h : Nat → Int} (e : layM (layM s.m a b f) c d g = layM s.m o k h) : (s.put a b f).put c d g = s.put o k h := by
 unfold ArS.put; simp only [e]

/-! ### Errors -/
def firstE : List Int → Int
 | [] => 0
 | e :: r => if e = 0 then firstE r else e
theorem first_ok (p k : Nat) (es : List Int) (hk : es.length = k) (hkb : k ≤ 1000) : FnOk Tryz.prog 191 #[.slice (some ⟨p, 0, none⟩) k k] [pt p (.cells (ints es).toArray 77 (0, 0))] (fun v L => v = .int .i64 (firstE es) ∧ L = []) := by
 subst hk
 refine fn_intro en191 Tryz.func191 rfl rfl rfl fun Fr w0 => t_nm ?_
 refine sr<|asg O O<|lc<|t_seq<|sr<|mv O O<|l_q O (ql O yU288)<|mv O O<|lc<|t_block ?_
 refine t_loop (fun j : Nat => j ≤ es.length ∧ firstE (es.drop j) = firstE es) (fun j => [(5, .slice (some ⟨p, 0, none⟩) es.length es.length), (6, .int .i64 es.length), (7, .int .i64 j)]) (fun j => pt p (.cells (ints es).toArray 77 (0, 0)) :: Fr) (fun j => es.length - j) 0 ⟨by omega, by simp⟩ ⟨rfl, rfl, rfl, trivial⟩ (Ent.refl _) ?_
 rintro j ⟨hj, hd⟩
 refine sr<|l_q O (qi O O (b_lss ·))<|lc<|t_seq<|t_if O (fun h => ?_) fun h => ?_
 ·have hjl : j < es.length := by omega
  rw [List.drop_eq_getElem_cons hjl] at hd
  simp only [firstE] at hd
  refine t_skip<|n_code<|t_seq<|t_block<|sr<|l_q O (q_indexAddr1 O O yU288 yS77 (by omega)) ?_
  apply l_q O
  ·apply q_load O yA77
   ·exact tk
   ·rw [Nat.zero_add, Int.toNat_natCast]; simp [ints, hjl]; rfl
  refine asg O O<|lz<|mv O O<|l_q O (qi O O (b_neq ·))<|lc<|t_if O (fun q => ?_) fun q => ?_
  ·refine sr<|mv O O<|asg O O<|lc<|rt<|fr1 O ([]) (.tmp rfl) ?_
   exact ⟨by rw [if_neg q] at hd; rw [hd], rfl⟩
  ·refine t_skip<|n_blk<|n_code<|t_region<|l_q O (qadd O O) ?_
   refine mv O O<|l_nil ?_
   apply n_again ((j + 1))
   ·exact ⟨by omega, by rw [if_pos (Classical.not_not.1 q)] at hd; exact hd⟩
   ·omega
   ·exact ⟨rfl, rfl, rfl, trivial⟩
   ·exact en
 ·refine xt O<|nz<|asg O O<|lc<|rt ?_
  have hz : es.drop j = [] := List.drop_eq_nil_of_le (by omega)
  rw [hz] at hd
  refine fr1 O ([]) (.tmp rfl) ?_
  exact ⟨by rw [← hd]; rfl, rfl⟩
theorem first2_ok (p : Nat) (a b : Int) : FnOk Tryz.prog 191 #[.slice (some ⟨p, 0, none⟩) 2 2] [pt p (.cells #[.int .i64 a, .int .i64 b] 77 (0, 0))] (fun v L => v = .int .i64 (firstE [a, b]) ∧ L = []) := first_ok p 2 [a, b] rfl (by decide)
theorem first3_ok (p : Nat) (a b c : Int) : FnOk Tryz.prog 191 #[.slice (some ⟨p, 0, none⟩) 3 3] [pt p (.cells #[.int .i64 a, .int .i64 b, .int .i64 c] 77 (0, 0))] (fun v L => v = .int .i64 (firstE [a, b, c]) ∧ L = []) := first_ok p 3 [a, b, c] rfl (by decide)
theorem first6_ok (p : Nat) (a b c d e f : Int) : FnOk Tryz.prog 191 #[.slice (some ⟨p, 0, none⟩) 6 6] [pt p (.cells #[.int .i64 a, .int .i64 b, .int .i64 c, .int .i64 d, .int .i64 e, .int .i64 f] 77 (0, 0))] (fun v L => v = .int .i64 (firstE [a, b, c, d, e, f]) ∧ L = []) := first_ok p 6 [a, b, c, d, e, f] rfl (by decide)
theorem when_ok (b : Bool) (e : Int) : FnOk Tryz.prog 193 #[.bool b, .int .i64 e] [] (fun v L => v = .int .i64 (if b then e else 0) ∧ L = []) := by
 refine fn_intro en193 Tryz.func193 rfl rfl rfl fun Fr w0 => t_nm ?_
 refine sr<|asg O O<|lc<|t_seq<|sr<|mv O O<|lc<|t_if O (fun h => ?_) fun h => ?_
 ·refine sr<|mv O O<|asg O O<|lc<|rt<|fr1 O ([]) (.tmp rfl) ?_
  exact ⟨by rw [h]; rfl, rfl⟩
 ·refine t_skip<|nz<|asg O O<|lc<|rt<|fr1 O ([]) (.tmp rfl) ?_
  exact ⟨by rw [h]; rfl, rfl⟩
theorem slot_ok (i : Int) (h0 : 0 ≤ i) (h1 : i < 8) : FnOk Tryz.prog 192 #[.int .i64 i] [] (fun v L => v = .int .i64 0 ∧ L = []) := by
 refine fn_intro en192 Tryz.func192 rfl rfl rfl fun Fr w0 => t_nm ?_
 refine sr<|asg O O<|lc<|t_seq<|sr<|mv O O<|l_q O (qi O O (b_lss ·))<|mv O O<|l_pt (t := 5) rfl (fun h => ?_) fun h => ?_
 ·omega
 ·refine l_on O O<|mv O O<|l_on O O<|l_q O (qi O O (b_geq ·))<|l_q O (q_pk O O)<|lc<|t_if O (fun h2 => ?_) fun h2 => ?_
  ·omega
  ·exact t_skip<|nz<|asg O O<|lc<|rt<|fr1 O ([]) (.tmp rfl) ⟨rfl, rfl⟩

/-! ### The group -/
theorem At_ok (pa off : Nat) (l : Lay) : FnOk Tryz.prog 131 #[.pointer (some ⟨pa, 0, none⟩), .agg l.cells, .int .i64 off] [] (fun v L => v = .agg #[.pointer (some ⟨pa, 0, none⟩), .int .i64 l.key, .int .i64 l.elem, .int .i64 l.ka, .int .i64 l.ea, .int .i64 l.cap, .int .i64 l.eo, .int .i64 l.bo, .int .i64 l.slot, .int .i64 l.group, .int .i64 off] ∧ L = []) := by
 refine fn_intro en131 Tryz.func131 rfl rfl rfl fun Fr w0 => t_nm ?_
 refine sr<|o_boxA O O fun b4 => o_allocA O yZ182 fun b6 => lz<|mv O O<|l_q O (qlda O yA34 yS34) ?_
 refine mv O O ?_
 apply l_q O
 ·apply q_buildS O yP182 yZ182
  ·apply FillR.one
   ·repeat (first | exact PlAt.here | apply PlAt.there)
   ·rfl
   ·exact sa
   apply FillR.all
   ·repeat (first | exact PlAt.here | apply PlAt.there)
   ·rfl
   ·simp
   ·exact sal
   apply FillR.one
   ·repeat (first | exact PlAt.here | apply PlAt.there)
   ·rfl
   ·exact sa
   exact FillR.nil
 refine sta O O O yS182 O O ?_
 refine lc<|rt ?_
 apply f_ret (.inl rfl) ([])
 ·apply res1 O
  ·apply Rv.agg rfl
   ·exact tk
   ·exact run_loadAll yA182 yS182 O
 ·exact ⟨rfl, rfl⟩
 ·exact en
section
variable (pa off : Nat) (s : ArS) (l : Lay) (hl : l.err = 0) (hg : goodP s off l.group)
include hl hg
theorem there_ok : FnOk Tryz.prog 167 #[.agg #[.pointer (some ⟨pa, 0, none⟩), .int .i64 l.key, .int .i64 l.elem, .int .i64 l.ka, .int .i64 l.ea, .int .i64 l.cap, .int .i64 l.eo, .int .i64 l.bo, .int .i64 l.slot, .int .i64 l.group, .int .i64 off]] [arenaH pa s] (fun v L => v = .int .i64 0 ∧ L = [arenaH pa s]) := by
 have hN := layN hl
 refine fn_intro en167 Tryz.func167 rfl rfl rfl fun Fr w0 => t_nm ?_
 refine sr<|o_boxA O O fun b1 => asg O O<|lc<|t_seq<|sr<|l_q O (qfa 1 rfl yU182 O O yS34)<|l_q O (qlda O yA34 yS34) ?_
 refine lc1 O O O (Valid_yes l hl) ?_
 refine l_q O (q_un O (u_not ·))<|lc<|t_if O (fun z => ?_) fun z => ?_
 ·exact absurd z (by simp)
 ·refine t_skip<|nz<|l_q O (qfa 0 rfl yU182 O O yS31)<|l_q O (qld O yA31) ?_
  refine l_q O (qfa 10 rfl yU182 O O yS3)<|l_q O (qld O yA3) ?_
  refine l_q O (qfa 10 rfl yU182 O O yS3)<|l_q O (qld O yA3) ?_
  refine l_q O (qfa 1 rfl yU182 O O yS34)<|l_q O (qfa 8 rfl yU34 O O yS3)<|l_q O (qld O yA3) ?_
  refine lcf O O O (Equal_okI pa s _ _ _ off off (gN l) rfl rfl hN.g.symm hg hg) ?_
  rintro v L' ⟨⟨q, rfl, _⟩, rfl⟩
  refine l_nm ?_
  refine mv O O<|l_q O (q_extractL O ga) ?_
  refine l_q O (q_extractL O ga) ?_
  exact asg O O<|asg O O<|lz<|mv O O<|asg O O<|lc<|rt<|fr1 O ([arenaH pa s]) (.tmp rfl) ⟨rfl, rfl⟩
theorem Reset_ok : FnOk Tryz.prog 132 #[.agg #[.pointer (some ⟨pa, 0, none⟩), .int .i64 l.key, .int .i64 l.elem, .int .i64 l.ka, .int .i64 l.ea, .int .i64 l.cap, .int .i64 l.eo, .int .i64 l.bo, .int .i64 l.slot, .int .i64 l.group, .int .i64 off]] [arenaH pa s] (fun v L => v = .int .i64 0 ∧ L = [arenaH pa (s.put off (gN l) (encG l fun _ => .empty))]) := by
 have hN := layN hl
 have hn8 := hN.g_eq
 have hng := hN.g
 refine fn_intro en132 Tryz.func132 rfl rfl rfl fun Fr w0 => t_nm ?_
 refine sr<|o_boxA O O fun b1 => asg O O<|lc<|t_seq<|sr<|l_q O (qlda O yA182 yS182) ?_
 refine lc1 O O O (there_ok pa off s l hl hg) ?_
 refine asg O O<|lz<|mv O O<|l_q O (qi O O (b_neq ·))<|lc<|t_if O (fun z => ?_) fun z => ?_
 ·exact absurd rfl z
 ·refine t_skip<|nz<|l_q O (qfa 0 rfl yU182 O O yS31)<|l_q O (qld O yA31) ?_
  refine l_q O (qfa 10 rfl yU182 O O yS3)<|l_q O (qld O yA3) ?_
  refine l_q O (qfa 1 rfl yU182 O O yS34)<|l_q O (qfa 8 rfl yU34 O O yS3)<|l_q O (qld O yA3) ?_
  refine lc1 O O O (Fill_okI pa s _ _ off (gN l) 0 rfl hN.g.symm (by omega) hg) ?_
  refine lc<|t_seq<|t_draw mixed ?_
  apply dq 0 rfl
  ·exact yq (qfa 0 rfl yU182 O O yS31)
  apply dq 1 rfl
  ·exact yq (qld O yA31)
  apply dq 2 rfl
  ·exact yq (qfa 10 rfl yU182 O O yS3)
  apply dq 3 rfl
  ·exact yq (qld O yA3)
  refine d_eff1 [] [3, 2, 1, 0] 4 [] gO trivial (by kernel_rfl) (by kernel_rfl) fun Ex => ?_
  refine lc1 O O O (Empty_ok) ?_
  refine l_nil ?_
  apply n_d
  ·refine ⟨?_, ?_, ?_, ?_, trivial⟩
   ·apply ya O O; exact yq (qld O yA3)
   ·apply ya O O; exact yq (qfa 10 rfl yU182 O O yS3)
   ·apply ya O O; exact yq (qld O yA31)
   ·apply ya O O; exact yq (qfa 0 rfl yU182 O O yS31)
  refine d_eff1 [1, 3, 0, 2] [] 5 [(18, _), (20, _), (21, _)] gO ⟨rfl, rfl, rfl, trivial⟩ (by kernel_rfl) (by kernel_rfl) fun Ex => ?_
  refine lc1 O O O (Store_okI pa (s.put off (gN l) fun _ => 0) _ _ off 8 _ rfl rfl (wI_bnd (f := fun _ => 128) (ok_const (by decide))) (by unfold wid; omega) (goodP.sub (goodP.put hg) (by omega) (by omega) (by omega))) ?_
  refine l_nil ?_
  apply n_d
  ·exact trivial
  refine d_eff1 [] [] 6 [(22, _)] gO ⟨rfl, trivial⟩ (by kernel_rfl) (by kernel_rfl) fun Ex => ?_
  refine asg O O<|l_nil ?_
  apply n_d
  ·exact trivial
  refine d_end (by kernel_rfl) ?_
  refine n_code<|rt ?_
  apply f_ret (.inl rfl) ([arenaH pa (s.put off (gN l) (encG l fun _ => .empty))])
  ·apply res1 O
   ·exact .tmp rfl
  ·exact ⟨rfl, rfl⟩
  ·rw [put_put (put_reset hN fun j hj => (byte_wd (f := fun _ => 128) (ok_const (by decide)) hj))]; (exact en)
end

/-- Slot i written: its bytes, its control byte. -/
theorem put_full {off : Nat} {s : ArS} {l : Lay} {cs : Nat → Cell} (hl : l.err = 0) (hG : GAt s.m off l cs) (hok : ∀ i, i < 8 → (cs i).ok l) {i : Nat} (hi : i < 8) {t : Nat} (ht : t < 128) {k e : ByteArray} {b : Int} (hk : k.size = kN l) (he : e.size = eN l) :
  ((s.put (off + (8 + i * sN l)) (sN l) (catM (parts l k e b))).put off 8 (byteN (wI (setF (ctF cs) i t)))) = s.put off (gN l) (encG l (updC cs i (.full t k e b))) := by
 have hN := layN hl
 refine put_put (put_slot hN hG hi (.full t k e b) (fun r _ => rfl) fun j hj => ?_)
 have hsf : okB (setF (ctF cs) i t) := fun j hj => by unfold setF; split; omega; exact ok_ct hok j hj
 rw [byte_wd hsf hj]
 unfold setF
 by_cases q : j = i
 ·rw [if_pos q, if_pos q]; rfl
 ·rw [if_neg q, if_neg q, ct_cast hok hj]
theorem put_gone {off : Nat} {s : ArS} {l : Lay} {cs : Nat → Cell} (hl : l.err = 0) (hG : GAt s.m off l cs) (hok : ∀ i, i < 8 → (cs i).ok l) {i : Nat} (hi : i < 8) {c : Nat} {cell : Cell} (hc : cell.ctrl = (c : Int)) (hc2 : c < 256) (hn : isF cell = false) :
  ((s.put (off + (8 + i * sN l)) (sN l) (fun _ => 0)).put off 8 (byteN (wI (setF (ctF cs) i c)))) = s.put off (gN l) (encG l (updC cs i cell)) := by
 have hN := layN hl
 refine put_put (put_slot hN hG hi cell (fun r _ => by cases cell <;> first | rfl | cases hn) fun j hj => ?_)
 have hsf : okB (setF (ctF cs) i c) := fun j hj => by unfold setF; split; exact hc2; exact ok_ct hok j hj
 rw [byte_wd hsf hj]
 unfold setF
 by_cases q : j = i
 ·rw [if_pos q, if_pos q, hc]
 ·rw [if_neg q, if_neg q, ct_cast hok hj]
theorem load_behind {m f : Nat → Int} {off x k : Nat} : loadN (layM m (off + (8 + x)) k f) off 8 = loadN m off 8 := loadN_congr fun i hi => by rw [lay_out (by omega)]
theorem cat_one (s : ByteArray) : catM [s] = byteAt s := by
 funext i
 simp only [catM]
 split
 ·rfl
 ·next h => unfold byteAt; rw [dif_neg h]
theorem gap_sub : ∀ n, n ≤ 8 → (⟨#[0, 0, 0, 0, 0, 0, 0, 0]⟩ : ByteArray).extract 0 n = zeroS n := by
 intro n hn
 have : n = 0 ∨ n = 1 ∨ n = 2 ∨ n = 3 ∨ n = 4 ∨ n = 5 ∨ n = 6 ∨ n = 7 ∨ n = 8 := by omega
 rcases this with rfl | rfl | rfl | rfl | rfl | rfl | rfl | rfl | rfl <;> rfl
theorem when_no (b : Bool) (e : Int) (h : b = false) : FnOk Tryz.prog 193 #[.bool b, .int .i64 e] [] (fun v L => v = .int .i64 0 ∧ L = []) :=
 (when_ok b e).mono fun v L ⟨h1, h2⟩ => ⟨by rw [h1, h]; rfl, h2⟩
/-! ### A number's bytes -/
theorem lay_full0 (f : Nat → Int) : memV (layM (fun _ => 0) 0 8 f) 8 = memV f 8 := by
 apply List.ext_getElem?
 intro i
 by_cases h : i < 8
 ·rw [memV_at h, memV_at h]; unfold layM; rw [if_pos (by omega)]; simp
 ·rw [List.getElem?_eq_none (by rw [memV_len]; omega), List.getElem?_eq_none (by rw [memV_len]; omega)]
theorem numS_bytes (b : Int) : bytesV (numS b) = memV (byteN b) 8 := by
 unfold numS
 rw [strM_bytes (byteN_bnd b)]
 congr 1
 funext i; congr 1; omega
theorem number_ok (b : Int) (hb : 0 ≤ b ∧ b < 9223372036854775808) : FnOk Tryz.prog 198 #[.int .i64 b] [] (fun v L => v = .string (numS b) ∧ L = []) := by
 refine fn_intro en198 Tryz.func198 rfl rfl rfl fun Fr w0 => t_nm ?_
 refine sr<|asg O O<|lz ?_
 apply o_makeSlice1 O O O yU117 yI5 O (by omega) (by omega)
 intro b5
 refine asg O O<|lc<|t_seq<|sr<|mv O O<|l_q O (ql O yU117)<|mv O O<|lc<|t_block ?_
 refine t_ent (L' := ownS 5 1 (.slice (some ⟨b5, 0, none⟩) 8 8) 8 (memV (layM (fun _ => 0) 0 0 (byteN b)) 8) :: Fr) (by rw [lay_zero]; exact Ent.refl _) ?_
 refine t_loop (fun j : Nat => j ≤ 8) (fun j => [(0, .int .i64 b), (3, .slice (some ⟨b5, 0, none⟩) 8 8), (7, .int .i64 8), (8, .int .i64 j)]) (fun j => ownS 5 1 (.slice (some ⟨b5, 0, none⟩) 8 8) 8 (memV (layM (fun _ => 0) 0 j (byteN b)) 8) :: Fr) (fun j => 8 - j) 0 (by omega) ⟨rfl, rfl, rfl, rfl, trivial⟩ (Ent.refl _) ?_
 intro j hj
 refine sr<|l_q O (qi O O (b_lss ·))<|lc<|t_seq<|t_if O (fun h => ?_) fun h => ?_
 ·refine t_skip<|n_code<|t_seq<|t_block<|sr<|mv O O<|asg O O<|lr<|mv O O<|mv O O<|mv O O<|l_q O (qcv O yU3 yU27) ?_
  refine mv O O<|l_q O (qmul O O) ?_
  apply l_q O
  ·apply qi O O; exact fun w => b_shr w (by omega)
  refine l_q O (qcv O yU27 yU5) ?_
  refine l_q O (q_indexAddr1 O O yU117 yS5 (by omega)) ?_
  apply o_storeOwn O O O yS5 O
  ·exact tk
  ·rw [Nat.zero_add, Int.toNat_natCast]; omega
  ·refine Eq.trans ?_ (lay_next (m := fun _ => 0) (f := byteN b) (n := 8) (o := 0) (j := j) (by omega) (shr_byte b j hb.1 (by omega))); rw [Nat.zero_add, Int.toNat_natCast, Nat.zero_add]
  refine l_nil<|n_blk<|n_code<|t_region<|l_q O (qadd O O) ?_
  refine mv O O<|l_nil ?_
  apply n_again ((j + 1))
  ·exact (show j + 1 ≤ 8 by omega)
  ·omega
  ·exact ⟨rfl, rfl, rfl, rfl, trivial⟩
  ·exact en
 ·obtain rfl : j = 8 := by omega
  rw [lay_full0]
  refine xt O<|nz<|mv O O ?_
  apply l_q O
  ·apply q_bytesStr (numS b) rfl Tryz.underlying117 Tryz.underlying5 Tryz.underlying9
   ·rw [numS_size]
   ·rw [numS_bytes]; exact reads_mem0 (by exact tk)
  exact asg O O<|lc<|rt<|fr1 O ([]) (.tmp rfl) ⟨rfl, rfl⟩

/-- A slot's control byte turned. -/
theorem mark_ok (pa off i c : Nat) (s : ArS) (l : Lay) (hl : l.err = 0) (hg : goodP s off l.group) (f : Byt) (hf : okB f) (hw : loadN s.m off 8 = wI f) (hi : i < 8) (hc : c < 256) :
  FnOk Tryz.prog 199 #[.agg #[.pointer (some ⟨pa, 0, none⟩), .int .i64 l.key, .int .i64 l.elem, .int .i64 l.ka, .int .i64 l.ea, .int .i64 l.cap, .int .i64 l.eo, .int .i64 l.bo, .int .i64 l.slot, .int .i64 l.group, .int .i64 off], .int .i64 i, .int .i64 c] [arenaH pa s] (fun v L => v = .int .i64 0 ∧ L = [arenaH pa (s.put off 8 (byteN (wI (setF f i c))))]) := by
 have hN := layN hl
 have hn8 := hN.g_eq
 have hng := hN.g
 have hg8 : goodP s off 8 := goodP.sub hg (by omega) (by omega) (by omega)
 have hsf : okB (setF f i c) := fun j hj => by unfold setF; split; exact hc; exact hf j hj
 refine fn_intro en199 Tryz.func199 rfl rfl rfl fun Fr w0 => t_nm ?_
 refine sr<|o_boxA O O fun b3 => asg O O<|lz<|l_q O (qfa 0 rfl yU182 O O yS31)<|l_q O (qld O yA31) ?_
 refine l_q O (qfa 10 rfl yU182 O O yS3)<|l_q O (qld O yA3) ?_
 refine lc1 O O O (Load_okI pa s _ _ off 8 rfl rfl (by unfold wid; omega) hg8) ?_
 rw [hw]
 refine mv O O<|l_q O (q_extractL O ga) ?_
 refine l_q O (q_extractL O ga) ?_
 refine asg O O<|asg O O<|lc<|t_seq<|t_draw mixed ?_
 apply dq 0 rfl
 ·exact yq (qfa 0 rfl yU182 O O yS31)
 apply dq 1 rfl
 ·exact yq (qld O yA31)
 apply dq 2 rfl
 ·exact yq (qfa 10 rfl yU182 O O yS3)
 apply dq 3 rfl
 ·exact yq (qld O yA3)
 apply dq 4 rfl
 ·exact yq (q_move O)
 apply dq 5 rfl
 ·exact yq (q_move O)
 apply dq 6 rfl
 ·exact yq (q_move O)
 refine d_eff1 [4, 5, 6] [3, 2, 1, 0] 7 [(21, _), (22, _), (23, _)] gO ⟨rfl, rfl, rfl, trivial⟩ (by kernel_rfl) (by kernel_rfl) fun Ex => ?_
 refine lc1 O O O (Set_ok f hf i c hi hc) ?_
 refine l_nil ?_
 apply n_d
 ·refine ⟨?_, ?_, ?_, ?_, trivial⟩
  ·apply ya O O; exact yq (qld O yA3)
  ·apply ya O O; exact yq (qfa 10 rfl yU182 O O yS3)
  ·apply ya O O; exact yq (qld O yA31)
  ·apply ya O O; exact yq (qfa 0 rfl yU182 O O yS31)
 refine d_eff1 [1, 3, 0, 2] [] 8 [(18, _), (20, _), (24, _)] gO ⟨rfl, rfl, rfl, trivial⟩ (by kernel_rfl) (by kernel_rfl) fun Ex => ?_
 refine lc1 O O O (Store_okI pa s _ _ off 8 _ rfl rfl (wI_bnd hsf) (by unfold wid; omega) hg8) ?_
 refine l_nil ?_
 apply n_d
 ·exact trivial
 refine d_eff1 [] [] 9 [(25, _)] gO ⟨rfl, trivial⟩ (by kernel_rfl) (by kernel_rfl) fun Ex => ?_
 refine asg O O<|l_nil ?_
 apply n_d
 ·exact trivial
 refine d_end (by kernel_rfl) ?_
 exact n_code<|rt<|fr1 O ([arenaH pa (s.put off 8 (byteN (wI (setF f i c))))]) (.tmp rfl) ⟨rfl, rfl⟩
section
variable (pa off : Nat) (s : ArS) (l : Lay) (cs : Nat → Cell) (hl : l.err = 0) (hg : goodP s off l.group) (hG : GAt s.m off l cs) (hok : ∀ i, i < 8 → (cs i).ok l)
include hl hg hG hok
theorem Word_ok : FnOk Tryz.prog 98 #[.agg #[.pointer (some ⟨pa, 0, none⟩), .int .i64 l.key, .int .i64 l.elem, .int .i64 l.ka, .int .i64 l.ea, .int .i64 l.cap, .int .i64 l.eo, .int .i64 l.bo, .int .i64 l.slot, .int .i64 l.group, .int .i64 off]] [arenaH pa s] (fun v L => v = .tuple #[.int .u64 (wI (ctF cs)), .int .i64 0] ∧ L = [arenaH pa s]) := by
 have hN := layN hl
 have hn8 := hN.g_eq
 have hng := hN.g
 have hg8 : goodP s off 8 := goodP.sub hg (by omega) (by omega) (by omega)
 refine fn_intro en98 Tryz.func98 rfl rfl rfl fun Fr w0 => t_nm ?_
 refine sr<|o_boxA O O fun b1 => asg O O<|asg O O<|lc<|t_seq<|sr<|l_q O (qlda O yA182 yS182) ?_
 refine lc1 O O O (there_ok pa off s l hl hg) ?_
 refine asg O O<|lz<|mv O O<|l_q O (qi O O (b_neq ·))<|lc<|t_if O (fun z => ?_) fun z => ?_
 ·exact absurd rfl z
 ·refine t_skip<|nz<|l_q O (qfa 0 rfl yU182 O O yS31)<|l_q O (qld O yA31) ?_
  refine l_q O (qfa 10 rfl yU182 O O yS3)<|l_q O (qld O yA3) ?_
  refine lc1 O O O (Load_okI pa s _ _ off 8 rfl rfl (by unfold wid; omega) hg8) ?_
  refine l_q O (q_extractL O ga) ?_
  refine l_q O (q_extractL O ga) ?_
  refine asg O O<|asg O O<|lc<|rt<|fr2 O ([arenaH pa s]) (.tmp rfl) (.tmp rfl) ?_
  exact ⟨by rw [load_ctrl hG hN hok], rfl⟩
set_option maxHeartbeats 1000000 in
theorem full_ok (i : Nat) (hi : i < 8) (t : Int) (k e : ByteArray) (b : Int) (hc : cs i = .full t k e b) : FnOk Tryz.prog 203 #[.agg #[.pointer (some ⟨pa, 0, none⟩), .int .i64 l.key, .int .i64 l.elem, .int .i64 l.ka, .int .i64 l.ea, .int .i64 l.cap, .int .i64 l.eo, .int .i64 l.bo, .int .i64 l.slot, .int .i64 l.group, .int .i64 off], .int .i64 i, .int .i64 t] [arenaH pa s]
  (fun v L => v = .agg #[.int .i64 2, .int .i64 t, .string k, .string e, .int .i64 b] ∧ L = [arenaH pa s]) := by
 have hN := layN hl
 have hn8 := hN.g_eq; have hns := hN.s_eq
 have h1 := hN.g; have h2 := hN.k; have h3 := hN.e; have h4 := hN.eo; have h5 := hN.bo; have h6 := hN.s
 have h7 := hN.eo1; have h8 := hN.bo1
 have hcok := hok i hi
 rw [hc] at hcok
 obtain ⟨_, _, hk, he, hb0, hb1⟩ := hcok
 have hst : (i : Int) * l.slot = ((i * sN l : Nat) : Int) := by rw [Int.natCast_mul, h6]
 have hit := slot_in hN hi (r := sN l - 1) (by omega)
 have hpl : ∀ x : Int, placeI l i x = 8 + ((i * sN l : Nat) : Int) + x := fun x => by unfold placeI; rw [if_neg (by omega), hst]
 have inb : ∀ o n : Int, 0 ≤ n → 0 ≤ o → o + n ≤ l.slot → goodP s ((off : Int) + (8 + ((i * sN l : Nat) : Int) + o)) n := fun o n h0 h1 h2 => goodP.sub hg h0 (by omega) (by omega)
 refine FnOk.mono (Post := fun v L => s.ok ∧ v = .agg #[.int .i64 2, .int .i64 t, .string (strM s.m (off + (8 + i * sN l)) (kN l)), .string (strM s.m (off + (8 + i * sN l + eoN l)) (eN l)), .int .i64 (IntKind.i64.wrap (loadN s.m (off + (8 + i * sN l + boN l)) 8))] ∧ L = [arenaH pa s]) ?_ ?_
 ·refine fn_intro en203 Tryz.func203 rfl rfl rfl fun Fr w0 => t_nm ?_
  refine t_pure (φ := s.ok) (fun w hw => arena_ok hw .here) fun hok0 => ?_
  have hge := goodP.end_le hok0 hg
  have hst0 := hok0.stop_eq
  refine sr<|o_boxA O O fun b3 => o_allocA O yZ142 fun b6 => lz<|mv O O ?_
  apply l_q O
  ·apply q_buildS O yP142 yZ142
   ·apply FillR.one
    ·repeat (first | exact PlAt.here | apply PlAt.there)
    ·rfl
    ·exact sa
    apply FillR.one
    ·repeat (first | exact PlAt.here | apply PlAt.there)
    ·rfl
    ·exact sa
    exact FillR.nil
  refine o_allocA O yZ142 fun b7 => sta O O O yS142 O O ?_
  refine lc<|t_seq<|t_draw mixed ?_
  apply dq 0 rfl
  ·exact yq (qfa 0 rfl yU182 O O yS31)
  apply dq 1 rfl
  ·exact yq (qld O yA31)
  apply dq 2 rfl
  ·exact yq (qfa 10 rfl yU182 O O yS3)
  apply dq 3 rfl
  ·exact yq (qld O yA3)
  apply dq 4 rfl
  ·exact yq (qfa 1 rfl yU182 O O yS34)
  apply dq 5 rfl
  ·exact yq (qlda O yA34 yS34)
  apply dq 6 rfl
  ·exact yq (q_move O)
  apply dq 9 rfl
  ·exact yq (qfa 1 rfl yU182 O O yS34)
  apply dq 10 rfl
  ·exact yq (qfa 0 rfl yU34 O O yS3)
  apply dq 11 rfl
  ·exact yq (qld O yA3)
  refine d_eff1 [5, 6, 4] [11, 10, 9, 3, 2, 1, 0] 7 [(18, _), (19, _)] gO ⟨rfl, rfl, trivial⟩ (by kernel_rfl) (by kernel_rfl) fun Ex => ?_
  refine lc1 O O O (KeyAt_ok l hl i) ?_
  rw [hpl]
  refine l_nil ?_
  apply n_d
  ·refine ⟨?_, ?_, ?_, ?_, ?_, ?_, ?_, trivial⟩
   ·apply ya O O; exact yq (qld O yA3)
   ·apply ya O O; exact yq (qfa 0 rfl yU34 O O yS3)
   ·apply ya O O; exact yq (qfa 1 rfl yU182 O O yS34)
   ·apply ya O O; exact yq (qld O yA3)
   ·apply ya O O; exact yq (qfa 10 rfl yU182 O O yS3)
   ·apply ya O O; exact yq (qld O yA31)
   ·apply ya O O; exact yq (qfa 0 rfl yU182 O O yS31)
  apply dq 8 rfl
  ·exact yq (qadd O O)
  refine d_eff1 [1, 8, 11, 0, 3, 10, 2, 9] [] 12 [(14, _), (21, _), (24, _)] gO ⟨rfl, rfl, rfl, trivial⟩ (by kernel_rfl) (by kernel_rfl) fun Ex => ?_
  refine lc1 O O O (Read_okI pa s _ l.key (off + (8 + i * sN l)) (kN l) (by omega) (by omega) (inb 0 l.key (by omega) (by omega) (by omega))) ?_
  refine l_nil ?_
  apply n_d
  ·exact trivial
  apply dq 13 rfl
  ·exact yq (q_move O)
  apply dq 14 rfl
  ·exact yq (q_extractL O ga)
  apply dq 15 rfl
  ·exact yq (q_extractL O ga)
  apply dq 16 rfl
  ·exact yq (qfa 2 rfl yU142 O O yS9)
  refine d_eff1 [16, 14, 13] [15] 17 [(28, _), (26, _)] gO ⟨rfl, rfl, trivial⟩ (by kernel_rfl) (by kernel_rfl) fun Ex => ?_
  refine st O O O yS9 O ?_
  refine l_nil ?_
  apply n_d
  ·refine ⟨?_, trivial⟩
   ·apply ya O O; exact yq (q_extractL O ga)
  refine d_end (by kernel_rfl) ?_
  refine n_code<|t_seq<|t_draw mixed ?_
  apply dq 0 rfl
  ·exact yq (qfa 0 rfl yU182 O O yS31)
  apply dq 1 rfl
  ·exact yq (qld O yA31)
  apply dq 2 rfl
  ·exact yq (qfa 10 rfl yU182 O O yS3)
  apply dq 3 rfl
  ·exact yq (qld O yA3)
  apply dq 4 rfl
  ·exact yq (qfa 1 rfl yU182 O O yS34)
  apply dq 5 rfl
  ·exact yq (qlda O yA34 yS34)
  apply dq 6 rfl
  ·exact yq (q_move O)
  apply dq 9 rfl
  ·exact yq (qfa 1 rfl yU182 O O yS34)
  apply dq 10 rfl
  ·exact yq (qfa 1 rfl yU34 O O yS3)
  apply dq 11 rfl
  ·exact yq (qld O yA3)
  refine d_eff1 [5, 6, 4] [11, 10, 9, 3, 2, 1, 0] 7 [(35, _), (36, _)] gO ⟨rfl, rfl, trivial⟩ (by kernel_rfl) (by kernel_rfl) fun Ex => ?_
  refine lc1 O O O (ElemAt_ok l hl i) ?_
  rw [hpl]
  refine l_nil ?_
  apply n_d
  ·refine ⟨?_, ?_, ?_, ?_, ?_, ?_, ?_, trivial⟩
   ·apply ya O O; exact yq (qld O yA3)
   ·apply ya O O; exact yq (qfa 1 rfl yU34 O O yS3)
   ·apply ya O O; exact yq (qfa 1 rfl yU182 O O yS34)
   ·apply ya O O; exact yq (qld O yA3)
   ·apply ya O O; exact yq (qfa 10 rfl yU182 O O yS3)
   ·apply ya O O; exact yq (qld O yA31)
   ·apply ya O O; exact yq (qfa 0 rfl yU182 O O yS31)
  apply dq 8 rfl
  ·exact yq (qadd O O)
  refine d_eff1 [1, 8, 11, 0, 3, 10, 2, 9] [] 12 [(31, _), (38, _), (41, _)] gO ⟨rfl, rfl, rfl, trivial⟩ (by kernel_rfl) (by kernel_rfl) fun Ex => ?_
  refine lc1 O O O (Read_okI pa s _ l.elem (off + (8 + i * sN l + eoN l)) (eN l) (by omega) (by omega) (inb l.eo l.elem (by omega) (by omega) (by omega))) ?_
  refine l_nil ?_
  apply n_d
  ·exact trivial
  apply dq 13 rfl
  ·exact yq (q_move O)
  apply dq 14 rfl
  ·exact yq (q_extractL O ga)
  apply dq 15 rfl
  ·exact yq (q_extractL O ga)
  apply dq 16 rfl
  ·exact yq (qfa 3 rfl yU142 O O yS9)
  refine d_eff1 [16, 14, 13] [15] 17 [(45, _), (43, _)] gO ⟨rfl, rfl, trivial⟩ (by kernel_rfl) (by kernel_rfl) fun Ex => ?_
  refine st O O O yS9 O ?_
  refine l_nil ?_
  apply n_d
  ·refine ⟨?_, trivial⟩
   ·apply ya O O; exact yq (q_extractL O ga)
  refine d_end (by kernel_rfl) ?_
  refine n_code<|t_seq<|t_draw mixed ?_
  apply dq 0 rfl
  ·exact yq (qfa 0 rfl yU182 O O yS31)
  apply dq 1 rfl
  ·exact yq (qld O yA31)
  apply dq 2 rfl
  ·exact yq (qfa 10 rfl yU182 O O yS3)
  apply dq 3 rfl
  ·exact yq (qld O yA3)
  apply dq 4 rfl
  ·exact yq (qfa 1 rfl yU182 O O yS34)
  apply dq 5 rfl
  ·exact yq (qlda O yA34 yS34)
  apply dq 6 rfl
  ·exact yq (q_move O)
  refine d_eff1 [5, 6, 4] [3, 2, 1, 0] 7 [(52, _), (53, _)] gO ⟨rfl, rfl, trivial⟩ (by kernel_rfl) (by kernel_rfl) fun Ex => ?_
  refine lc1 O O O (BirthAt_ok l hl i) ?_
  rw [hpl]
  refine l_nil ?_
  apply n_d
  ·refine ⟨?_, ?_, ?_, ?_, trivial⟩
   ·apply ya O O; exact yq (qld O yA3)
   ·apply ya O O; exact yq (qfa 10 rfl yU182 O O yS3)
   ·apply ya O O; exact yq (qld O yA31)
   ·apply ya O O; exact yq (qfa 0 rfl yU182 O O yS31)
  apply dq 8 rfl
  ·exact yq (qadd O O)
  refine d_eff1 [1, 8, 0, 3, 2] [] 9 [(48, _), (55, _)] gO ⟨rfl, rfl, trivial⟩ (by kernel_rfl) (by kernel_rfl) fun Ex => ?_
  refine lc1 O O O (Load_okI pa s _ 8 (off + (8 + i * sN l + boN l)) 8 (by omega) rfl (by unfold wid; omega) (inb l.bo 8 (by omega) (by omega) (by omega))) ?_
  refine l_nil ?_
  apply n_d
  ·exact trivial
  apply dq 10 rfl
  ·exact yq (q_move O)
  apply dq 11 rfl
  ·exact yq (q_extractL O ga)
  apply dq 12 rfl
  ·exact yq (q_extractL O ga)
  refine d_eff1 [11, 10] [12] 13 [(57, _)] gO ⟨rfl, trivial⟩ (by kernel_rfl) (by kernel_rfl) fun Ex => ?_
  refine asg O O<|l_nil ?_
  apply n_d
  ·refine ⟨?_, trivial⟩
   ·apply ya O O; exact yq (q_extractL O ga)
  refine d_eff1 [12] [] 14 [(58, _)] gO ⟨rfl, trivial⟩ (by kernel_rfl) (by kernel_rfl) fun Ex => ?_
  refine asg O O<|l_nil ?_
  apply n_d
  ·exact trivial
  refine d_end (by kernel_rfl) ?_
  refine nz<|mv O O<|l_q O (qcv O yU27 yU3) ?_
  refine l_q O (qfa 4 rfl yU142 O O yS3)<|st O O O yS3 O ?_
  refine lz<|l_q O (qlda O yA142 yS142) ?_
  refine sta O O O yS142 O O ?_
  refine lc<|rt ?_
  apply f_ret (.inl rfl) ([arenaH pa s])
  ·apply res1 O
   ·apply Rv.agg rfl
    ·exact tk
    ·exact run_loadAll yA142 yS142 O
  ·exact ⟨hok0, rfl, rfl⟩
  ·exact en
 ·rintro v L ⟨hok0, rfl, rfl⟩
  refine ⟨?_, rfl⟩
  have e1 : strM s.m (off + (8 + i * sN l)) (kN l) = k := by
   rw [← hk]
   refine strM_eq hok0.bytes fun j hj => ?_
   rw [← encS_key hN (t := t) (e := e) (b := b) hk hj, ← hc, ← hG.slot hN hi (by omega)]
   congr 1; omega
  have e2 : strM s.m (off + (8 + i * sN l + eoN l)) (eN l) = e := by
   rw [← he]
   refine strM_eq hok0.bytes fun j hj => ?_
   rw [← encS_elem hN (t := t) (k := k) (b := b) hk hj, ← hc, ← hG.slot hN hi (by omega)]
   congr 1; omega
  have e3 : loadN s.m (off + (8 + i * sN l + boN l)) 8 = b := by
   rw [loadN_congr (m' := byteN b) (o' := 0) fun j hj => by rw [Nat.zero_add, ← encS_birth hN (t := t) (k := k) (e := e) hk he hj, ← hc, ← hG.slot hN hi (by omega)]; congr 1; omega, loadN_byteN]
   omega
  rw [e1, e2, e3, wrap_i64 (by omega)]
theorem Cell_ok (i : Nat) (hi : i < 8) : FnOk Tryz.prog 144 #[.agg #[.pointer (some ⟨pa, 0, none⟩), .int .i64 l.key, .int .i64 l.elem, .int .i64 l.ka, .int .i64 l.ea, .int .i64 l.cap, .int .i64 l.eo, .int .i64 l.bo, .int .i64 l.slot, .int .i64 l.group, .int .i64 off], .int .i64 i] [arenaH pa s]
  (fun v L => v = .tuple #[.agg #[.int .i64 (cs i).kind, .int .i64 (cs i).tagI, .string (cs i).keyS, .string (cs i).elemS, .int .i64 (cs i).birthI], .int .i64 0] ∧ L = [arenaH pa s]) := by
 have hN := layN hl
 have hn8 := hN.g_eq
 have hng := hN.g
 have hg8 : goodP s off 8 := goodP.sub hg (by omega) (by omega) (by omega)
 have hct := ct_cast hok hi
 refine fn_intro en144 Tryz.func144 rfl rfl rfl fun Fr w0 => t_nm ?_
 refine sr<|o_boxA O O fun b2 => o_allocA O yZ142 fun b4 => asg O O<|lc<|t_seq<|t_seq<|t_draw mixed ?_
 apply dq 0 rfl
 ·exact yq (q_move O)
 apply dq 2 rfl
 ·exact yq (qlda O yA182 yS182)
 refine d_eff1 [0] [2] 1 [(10, _)] gO ⟨rfl, trivial⟩ (by kernel_rfl) (by kernel_rfl) fun Ex => ?_
 refine lc1 O O O (slot_ok i (by omega) (by omega)) ?_
 refine l_nil ?_
 apply n_d
 ·refine ⟨?_, trivial⟩
  ·apply ya O O; exact yq (qlda O yA182 yS182)
 refine d_eff1 [2] [] 3 [(12, _)] gO ⟨rfl, trivial⟩ (by kernel_rfl) (by kernel_rfl) fun Ex => ?_
 refine lc1 O O O (there_ok pa off s l hl hg) ?_
 refine l_nil ?_
 apply n_d
 ·exact trivial
 refine d_eff1 [] [] 4 [(11, _), (13, _)] gO ⟨rfl, rfl, trivial⟩ (by kernel_rfl) (by kernel_rfl) fun Ex => ?_
 refine o_buildSlice1 [_, _] rfl rfl yU288 yS77 yZ77 O O O O (fun b14 => ?_)
 refine l_nil ?_
 apply n_d
 ·exact trivial
 refine d_eff1 [] [] 5 [(14, _)] gO ⟨rfl, trivial⟩ (by kernel_rfl) (by kernel_rfl) fun Ex => ?_
 refine lc1 O O O (first2_ok b14 0 0) ?_
 refine l_nil ?_
 apply n_d
 ·exact trivial
 refine d_eff1 [] [] 6 [(15, _)] gO ⟨rfl, trivial⟩ (by kernel_rfl) (by kernel_rfl) fun Ex => ?_
 refine asg O O<|l_nil ?_
 apply n_d
 ·exact trivial
 refine d_end (by kernel_rfl) ?_
 refine nz<|mv O O<|l_q O (qi O O (b_neq ·))<|lc<|t_if O (fun z => ?_) fun z => ?_
 ·exact absurd rfl z
 ·refine t_skip<|nz<|l_q O (qfa 0 rfl yU182 O O yS31)<|l_q O (qld O yA31) ?_
  refine l_q O (qfa 10 rfl yU182 O O yS3)<|l_q O (qld O yA3) ?_
  refine lc1 O O O (Load_okI pa s _ _ off 8 rfl rfl (by unfold wid; omega) hg8) ?_
  rw [load_ctrl hG hN hok]
  refine mv O O<|l_q O (q_extractL O ga) ?_
  refine l_q O (q_extractL O ga) ?_
  refine asg O O<|asg O O<|lc<|t_seq<|sr<|mv O O<|mv O O<|lc1 O O O (Get_ok (ctF cs) (ok_ct hok) i hi) ?_
  rw [hct]
  refine asg O O<|lc<|t_block<|sr<|mv O O<|l_q O (qi O O (b_leq ·))<|asg O O<|lc ?_
  cases hc : cs i with
  | full t k e b =>
   have hcok := hok i hi
   rw [hc] at hcok
   have ht : (Cell.full t k e b).ctrl = t := rfl
   rw [ht]
   obtain ⟨ht0, ht1, _⟩ := hcok
   refine t_if O (fun q => ?_) fun q => ?_
   ·refine sr<|l_q O (qlda O yA182 yS182) ?_
    refine mv O O<|mv O O<|lc1 O O O (full_ok pa off s l cs hl hg hG hok i hi t k e b hc) ?_
    refine sta O O O yS142 O O ?_
    refine asg O O<|lc<|rt ?_
    apply f_ret (.inl rfl) ([arenaH pa s])
    ·apply res2 O
     ·apply Rv.agg rfl
      ·exact tk
      ·exact run_loadAll yA142 yS142 O
     ·exact .tmp rfl
    ·exact ⟨rfl, rfl⟩
    ·exact en
   ·omega
  | deleted =>
   refine t_if O (fun q => ?_) fun q => ?_
   ·exact absurd q (by decide)
   ·refine sr<|mv O O<|l_q O (qi O O (b_eql ·))<|asg O O<|lc<|t_if O (fun q2 => ?_) fun q2 => ?_
    ·refine sr ?_
     apply l_q O
     ·apply q_buildS O yP142 yZ142
      ·apply FillR.one
       ·repeat (first | exact PlAt.here | apply PlAt.there)
       ·rfl
       ·exact sa
       exact FillR.nil
     refine sta O O O yS142 O O ?_
     refine asg O O<|lc<|rt ?_
     apply f_ret (.inl rfl) ([arenaH pa s])
     ·apply res2 O
      ·apply Rv.agg rfl
       ·exact tk
       ·exact run_loadAll yA142 yS142 O
      ·exact .tmp rfl
     ·exact ⟨rfl, rfl⟩
     ·exact en
    ·exact absurd rfl q2
  | empty =>
   refine t_if O (fun q => ?_) fun q => ?_
   ·exact absurd q (by decide)
   ·refine sr<|mv O O<|l_q O (qi O O (b_eql ·))<|asg O O<|lc<|t_if O (fun q2 => ?_) fun q2 => ?_
    ·exact absurd q2 (by decide)
    ·refine t_skip<|n_blk<|nz ?_
     apply l_q O
     ·apply q_buildS O yP142 yZ142
      ·exact FillR.nil
     refine sta O O O yS142 O O ?_
     refine asg O O<|lc<|rt ?_
     apply f_ret (.inl rfl) ([arenaH pa s])
     ·apply res2 O
      ·apply Rv.agg rfl
       ·exact tk
       ·exact run_loadAll yA142 yS142 O
      ·exact .tmp rfl
     ·exact ⟨rfl, rfl⟩
     ·exact en
theorem Fill_ok (i t : Nat) (k e : ByteArray) (b : Int) (hi : i < 8) (ht : t < 128) (hk : k.size = kN l) (he : e.size = eN l) (hb : 0 ≤ b ∧ b < 9223372036854775808) :
  FnOk Tryz.prog 138 #[.agg #[.pointer (some ⟨pa, 0, none⟩), .int .i64 l.key, .int .i64 l.elem, .int .i64 l.ka, .int .i64 l.ea, .int .i64 l.cap, .int .i64 l.eo, .int .i64 l.bo, .int .i64 l.slot, .int .i64 l.group, .int .i64 off], .int .i64 i, .int .i64 t, .string k, .string e, .int .i64 b] [arenaH pa s] (fun v L => v = .int .i64 0 ∧ L = [arenaH pa (s.put off (gN l) (encG l (updC cs i (.full t k e b))))]) := by
 have hN := layN hl
 have hn8 := hN.g_eq; have hns := hN.s_eq
 have h1 := hN.g; have h2 := hN.k; have h3 := hN.e; have h4 := hN.eo; have h5 := hN.bo; have h6 := hN.s
 have h7 := hN.eo1; have h8 := hN.bo1
 have hst : (i : Int) * l.slot = ((i * sN l : Nat) : Int) := by rw [Int.natCast_mul, h6]
 have hit := slot_in hN hi (r := sN l - 1) (by omega)
 have hpl : ∀ x : Int, placeI l i x = 8 + ((i * sN l : Nat) : Int) + x := fun x => by unfold placeI; rw [if_neg (by omega), hst]
 have hks : (k.size : Int) = l.key := by omega
 have hes : (e.size : Int) = l.elem := by omega
 have htot := tot_parts hN hk he b
 refine fn_intro en138 Tryz.func138 rfl rfl rfl fun Fr w0 => t_nm ?_
 have hgs : ((⟨#[0, 0, 0, 0, 0, 0, 0, 0]⟩ : ByteArray).size : Int) = 8 := rfl
 have hz1 : l.eo - l.key ≤ ((⟨#[0, 0, 0, 0, 0, 0, 0, 0]⟩ : ByteArray).size : Int) := by rw [hgs]; omega
 have hz2 : l.bo - l.eo - l.elem ≤ ((⟨#[0, 0, 0, 0, 0, 0, 0, 0]⟩ : ByteArray).size : Int) := by rw [hgs]; omega
 refine t_pure (φ := s.ok) (fun w hw => arena_ok hw .here) fun hok0 => ?_
 have hge := goodP.end_le hok0 hg
 have hst0 := hok0.stop_eq
 refine sr<|o_boxA O O fun b6 => asg O O<|lc<|t_seq<|t_draw mixed ?_
 apply dq 0 rfl
 ·exact yq (q_move O)
 apply dq 2 rfl
 ·exact yq (q_move O)
 apply dq 3 rfl
 ·exact yq (qi O O (b_lss ·))
 apply dq 9 rfl
 ·exact yq (q_move O)
 apply dq 10 rfl
 ·exact yq (qls O yU9)
 apply dq 11 rfl
 ·exact yq (qfa 1 rfl yU182 O O yS34)
 apply dq 12 rfl
 ·exact yq (qfa 0 rfl yU34 O O yS3)
 apply dq 13 rfl
 ·exact yq (qld O yA3)
 apply dq 14 rfl
 ·exact yq (qi O O (b_neq ·))
 apply dq 16 rfl
 ·exact yq (q_move O)
 apply dq 17 rfl
 ·exact yq (qls O yU9)
 apply dq 18 rfl
 ·exact yq (qfa 1 rfl yU182 O O yS34)
 apply dq 19 rfl
 ·exact yq (qfa 1 rfl yU34 O O yS3)
 apply dq 20 rfl
 ·exact yq (qld O yA3)
 apply dq 21 rfl
 ·exact yq (qi O O (b_neq ·))
 apply dq 23 rfl
 ·exact yq (q_move O)
 apply dq 24 rfl
 ·exact yq (qi O O (b_lss ·))
 apply dq 26 rfl
 ·exact yq (qlda O yA182 yS182)
 refine d_eff1 [0] [26, 24, 23, 21, 20, 19, 18, 17, 16, 14, 13, 12, 11, 10, 9, 3, 2] 1 [(14, _)] gO ⟨rfl, trivial⟩ (by kernel_rfl) (by kernel_rfl) fun Ex => ?_
 refine lc1 O O O (slot_ok i (by omega) (by omega)) ?_
 refine l_nil ?_
 apply n_d
 ·refine ⟨?_, ?_, ?_, ?_, ?_, ?_, ?_, ?_, ?_, ?_, ?_, ?_, ?_, ?_, ?_, ?_, ?_, trivial⟩
  ·apply ya O O; exact yq (qlda O yA182 yS182)
  ·apply ya O O; exact yq (qi O O (b_lss ·))
  ·apply ya O O; exact yq (q_move O)
  ·apply ya O O; exact yq (qi O O (b_neq ·))
  ·apply ya O O; exact yq (qld O yA3)
  ·apply ya O O; exact yq (qfa 1 rfl yU34 O O yS3)
  ·apply ya O O; exact yq (qfa 1 rfl yU182 O O yS34)
  ·apply ya O O; exact yq (qls O yU9)
  ·apply ya O O; exact yq (q_move O)
  ·apply ya O O; exact yq (qi O O (b_neq ·))
  ·apply ya O O; exact yq (qld O yA3)
  ·apply ya O O; exact yq (qfa 0 rfl yU34 O O yS3)
  ·apply ya O O; exact yq (qfa 1 rfl yU182 O O yS34)
  ·apply ya O O; exact yq (qls O yU9)
  ·apply ya O O; exact yq (q_move O)
  ·apply ya O O; exact yq (qi O O (b_lss ·))
  ·apply ya O O; exact yq (q_move O)
 apply dq 4 rfl
 ·exact yq (q_move O)
 refine d_pt (t := 18) rfl (fun p1 => ?_) fun p1 => ?_
 ·omega
 ·apply dq 5 rfl
  ·exact yq_on O O (q_move O)
  apply dq 6 rfl
  ·exact yq_on O O (qi O O (b_gtr ·))
  apply dq 7 rfl
  ·exact yq (q_pk O O)
  refine d_eff1 [7, 4, 6, 3, 5, 2] [26, 24, 23, 21, 20, 19, 18, 17, 16, 14, 13, 12, 11, 10, 9] 8 [(21, _)] gO ⟨rfl, trivial⟩ (by kernel_rfl) (by kernel_rfl) fun Ex => ?_
  refine lc1 O O O (when_no _ _ (by simp; omega)) ?_
  refine l_nil ?_
  apply n_d
  ·refine ⟨?_, ?_, ?_, ?_, ?_, ?_, ?_, ?_, ?_, ?_, ?_, ?_, ?_, ?_, ?_, trivial⟩
   ·apply ya O O; exact yq (qlda O yA182 yS182)
   ·apply ya O O; exact yq (qi O O (b_lss ·))
   ·apply ya O O; exact yq (q_move O)
   ·apply ya O O; exact yq (qi O O (b_neq ·))
   ·apply ya O O; exact yq (qld O yA3)
   ·apply ya O O; exact yq (qfa 1 rfl yU34 O O yS3)
   ·apply ya O O; exact yq (qfa 1 rfl yU182 O O yS34)
   ·apply ya O O; exact yq (qls O yU9)
   ·apply ya O O; exact yq (q_move O)
   ·apply ya O O; exact yq (qi O O (b_neq ·))
   ·apply ya O O; exact yq (qld O yA3)
   ·apply ya O O; exact yq (qfa 0 rfl yU34 O O yS3)
   ·apply ya O O; exact yq (qfa 1 rfl yU182 O O yS34)
   ·apply ya O O; exact yq (qls O yU9)
   ·apply ya O O; exact yq (q_move O)
  refine d_eff1 [14, 10, 13, 9, 12, 11] [26, 24, 23, 21, 20, 19, 18, 17, 16] 15 [(28, _)] gO ⟨rfl, trivial⟩ (by kernel_rfl) (by kernel_rfl) fun Ex => ?_
  refine lc1 O O O (when_no _ _ (by simp; omega)) ?_
  refine l_nil ?_
  apply n_d
  ·refine ⟨?_, ?_, ?_, ?_, ?_, ?_, ?_, ?_, ?_, trivial⟩
   ·apply ya O O; exact yq (qlda O yA182 yS182)
   ·apply ya O O; exact yq (qi O O (b_lss ·))
   ·apply ya O O; exact yq (q_move O)
   ·apply ya O O; exact yq (qi O O (b_neq ·))
   ·apply ya O O; exact yq (qld O yA3)
   ·apply ya O O; exact yq (qfa 1 rfl yU34 O O yS3)
   ·apply ya O O; exact yq (qfa 1 rfl yU182 O O yS34)
   ·apply ya O O; exact yq (qls O yU9)
   ·apply ya O O; exact yq (q_move O)
  refine d_eff1 [21, 17, 20, 16, 19, 18] [26, 24, 23] 22 [(35, _)] gO ⟨rfl, trivial⟩ (by kernel_rfl) (by kernel_rfl) fun Ex => ?_
  refine lc1 O O O (when_no _ _ (by simp; omega)) ?_
  refine l_nil ?_
  apply n_d
  ·refine ⟨?_, ?_, ?_, trivial⟩
   ·apply ya O O; exact yq (qlda O yA182 yS182)
   ·apply ya O O; exact yq (qi O O (b_lss ·))
   ·apply ya O O; exact yq (q_move O)
  refine d_eff1 [24, 23] [26] 25 [(38, _)] gO ⟨rfl, trivial⟩ (by kernel_rfl) (by kernel_rfl) fun Ex => ?_
  refine lc1 O O O (when_no _ _ (by simp; omega)) ?_
  refine l_nil ?_
  apply n_d
  ·refine ⟨?_, trivial⟩
   ·apply ya O O; exact yq (qlda O yA182 yS182)
  refine d_eff1 [26] [] 27 [(40, _)] gO ⟨rfl, trivial⟩ (by kernel_rfl) (by kernel_rfl) fun Ex => ?_
  refine lc1 O O O (there_ok pa off s l hl hg) ?_
  refine l_nil ?_
  apply n_d
  ·exact trivial
  refine d_eff1 [] [] 28 [(15, _), (22, _), (29, _), (36, _), (39, _), (41, _)] gO ⟨rfl, rfl, rfl, rfl, rfl, rfl, trivial⟩ (by kernel_rfl) (by kernel_rfl) fun Ex => ?_
  refine o_buildSlice1 [_, _, _, _, _, _] rfl rfl yU288 yS77 yZ77 O O O O (fun b42 => ?_)
  refine l_nil ?_
  apply n_d
  ·exact trivial
  refine d_eff1 [] [] 29 [(42, _)] gO ⟨rfl, trivial⟩ (by kernel_rfl) (by kernel_rfl) fun Ex => ?_
  refine lc1 O O O (first6_ok b42 0 0 0 0 0 0) ?_
  refine l_nil ?_
  apply n_d
  ·exact trivial
  refine d_eff1 [] [] 30 [(43, _)] gO ⟨rfl, trivial⟩ (by kernel_rfl) (by kernel_rfl) fun Ex => ?_
  refine asg O O<|l_nil ?_
  apply n_d
  ·exact trivial
  refine d_end (by kernel_rfl) ?_
  refine n_code<|t_seq<|sr<|mv O O<|l_q O (qi O O (b_neq ·))<|lc<|t_if O (fun z => ?_) fun z => ?_
  ·exact absurd rfl z
  ·refine t_skip<|n_code<|t_seq<|t_draw mixed ?_
   apply dq 0 rfl
   ·exact yq (qfa 0 rfl yU182 O O yS31)
   apply dq 1 rfl
   ·exact yq (qld O yA31)
   apply dq 2 rfl
   ·exact yq (qfa 10 rfl yU182 O O yS3)
   apply dq 3 rfl
   ·exact yq (qld O yA3)
   apply dq 4 rfl
   ·exact yq (qfa 1 rfl yU182 O O yS34)
   apply dq 5 rfl
   ·exact yq (qlda O yA34 yS34)
   apply dq 6 rfl
   ·exact yq (q_move O)
   apply dq 9 rfl
   ·exact yq (q_move O)
   apply dq 10 rfl
   ·exact yq (qfa 1 rfl yU182 O O yS34)
   apply dq 11 rfl
   ·exact yq (qfa 5 rfl yU34 O O yS3)
   apply dq 12 rfl
   ·exact yq (qld O yA3)
   apply dq 13 rfl
   ·exact yq (qfa 1 rfl yU182 O O yS34)
   apply dq 14 rfl
   ·exact yq (qfa 0 rfl yU34 O O yS3)
   apply dq 15 rfl
   ·exact yq (qld O yA3)
   apply dq 16 rfl
   ·exact yq (qsub O O)
   apply dq 17 rfl
   ·apply yq
    refine QV.to (v' := .string (zeroS (eoN l - kN l))) (q_sliceS_h O O Tryz.underlying9 ⟨by omega, hz1⟩) (by rw [show (l.eo - l.key).toNat = eoN l - kN l by omega, gap_sub _ (by omega)])
   apply dq 18 rfl
   ·exact yq (q_move O)
   apply dq 19 rfl
   ·exact yq (qfa 1 rfl yU182 O O yS34)
   apply dq 20 rfl
   ·exact yq (qfa 6 rfl yU34 O O yS3)
   apply dq 21 rfl
   ·exact yq (qld O yA3)
   apply dq 22 rfl
   ·exact yq (qfa 1 rfl yU182 O O yS34)
   apply dq 23 rfl
   ·exact yq (qfa 5 rfl yU34 O O yS3)
   apply dq 24 rfl
   ·exact yq (qld O yA3)
   apply dq 25 rfl
   ·exact yq (qsub O O)
   apply dq 26 rfl
   ·exact yq (qfa 1 rfl yU182 O O yS34)
   apply dq 27 rfl
   ·exact yq (qfa 1 rfl yU34 O O yS3)
   apply dq 28 rfl
   ·exact yq (qld O yA3)
   apply dq 29 rfl
   ·exact yq (qsub O O)
   apply dq 30 rfl
   ·apply yq
    refine QV.to (v' := .string (zeroS (boN l - eoN l - eN l))) (q_sliceS_h O O Tryz.underlying9 ⟨by omega, hz2⟩) (by rw [show (l.bo - l.eo - l.elem).toNat = boN l - eoN l - eN l by omega, gap_sub _ (by omega)])
   apply dq 31 rfl
   ·exact yq (q_move O)
   refine d_eff1 [5, 6, 4] [31, 30, 29, 28, 27, 26, 25, 24, 23, 22, 21, 20, 19, 18, 17, 16, 15, 14, 13, 12, 11, 10, 9, 3, 2, 1, 0] 7 [(52, _), (53, _)] gO ⟨rfl, rfl, trivial⟩ (by kernel_rfl) (by kernel_rfl) fun Ex => ?_
   refine lc1 O O O (KeyAt_ok l hl i) ?_
   rw [hpl]
   refine l_nil ?_
   apply n_d
   ·refine ⟨?_, ?_, ?_, ?_, ?_, ?_, ?_, ?_, ?_, ?_, ?_, ?_, ?_, ?_, ?_, ?_, ?_, ?_, ?_, ?_, ?_, ?_, ?_, ?_, ?_, ?_, ?_, trivial⟩
    ·apply ya O O; exact yq (q_move O)
    ·apply ya O O
     apply yq
     refine QV.to (v' := .string (zeroS (boN l - eoN l - eN l))) (q_sliceS_h O O Tryz.underlying9 ⟨by omega, hz2⟩) (by rw [show (l.bo - l.eo - l.elem).toNat = boN l - eoN l - eN l by omega, gap_sub _ (by omega)])
    ·apply ya O O; exact yq (qsub O O)
    ·apply ya O O; exact yq (qld O yA3)
    ·apply ya O O; exact yq (qfa 1 rfl yU34 O O yS3)
    ·apply ya O O; exact yq (qfa 1 rfl yU182 O O yS34)
    ·apply ya O O; exact yq (qsub O O)
    ·apply ya O O; exact yq (qld O yA3)
    ·apply ya O O; exact yq (qfa 5 rfl yU34 O O yS3)
    ·apply ya O O; exact yq (qfa 1 rfl yU182 O O yS34)
    ·apply ya O O; exact yq (qld O yA3)
    ·apply ya O O; exact yq (qfa 6 rfl yU34 O O yS3)
    ·apply ya O O; exact yq (qfa 1 rfl yU182 O O yS34)
    ·apply ya O O; exact yq (q_move O)
    ·apply ya O O
     apply yq
     refine QV.to (v' := .string (zeroS (eoN l - kN l))) (q_sliceS_h O O Tryz.underlying9 ⟨by omega, hz1⟩) (by rw [show (l.eo - l.key).toNat = eoN l - kN l by omega, gap_sub _ (by omega)])
    ·apply ya O O; exact yq (qsub O O)
    ·apply ya O O; exact yq (qld O yA3)
    ·apply ya O O; exact yq (qfa 0 rfl yU34 O O yS3)
    ·apply ya O O; exact yq (qfa 1 rfl yU182 O O yS34)
    ·apply ya O O; exact yq (qld O yA3)
    ·apply ya O O; exact yq (qfa 5 rfl yU34 O O yS3)
    ·apply ya O O; exact yq (qfa 1 rfl yU182 O O yS34)
    ·apply ya O O; exact yq (q_move O)
    ·apply ya O O; exact yq (qld O yA3)
    ·apply ya O O; exact yq (qfa 10 rfl yU182 O O yS3)
    ·apply ya O O; exact yq (qld O yA31)
    ·apply ya O O; exact yq (qfa 0 rfl yU182 O O yS31)
   apply dq 8 rfl
   ·exact yq (qadd O O)
   refine d_eff1 [31] [8, 30, 29, 28, 27, 26, 25, 24, 23, 22, 21, 20, 19, 18, 17, 16, 15, 14, 13, 12, 11, 10, 9, 3, 2, 1, 0] 32 [(78, _)] gO ⟨rfl, trivial⟩ (by kernel_rfl) (by kernel_rfl) fun Ex => ?_
   refine lc1 O O O (number_ok b hb) ?_
   refine l_nil ?_
   apply n_d
   ·refine ⟨?_, ?_, ?_, ?_, ?_, ?_, ?_, ?_, ?_, ?_, ?_, ?_, ?_, ?_, ?_, ?_, ?_, ?_, ?_, ?_, ?_, ?_, ?_, ?_, ?_, ?_, ?_, trivial⟩
    ·apply ya O O; exact yq (qadd O O)
    ·apply ya O O
     apply yq
     refine QV.to (v' := .string (zeroS (boN l - eoN l - eN l))) (q_sliceS_h O O Tryz.underlying9 ⟨by omega, hz2⟩) (by rw [show (l.bo - l.eo - l.elem).toNat = boN l - eoN l - eN l by omega, gap_sub _ (by omega)])
    ·apply ya O O; exact yq (qsub O O)
    ·apply ya O O; exact yq (qld O yA3)
    ·apply ya O O; exact yq (qfa 1 rfl yU34 O O yS3)
    ·apply ya O O; exact yq (qfa 1 rfl yU182 O O yS34)
    ·apply ya O O; exact yq (qsub O O)
    ·apply ya O O; exact yq (qld O yA3)
    ·apply ya O O; exact yq (qfa 5 rfl yU34 O O yS3)
    ·apply ya O O; exact yq (qfa 1 rfl yU182 O O yS34)
    ·apply ya O O; exact yq (qld O yA3)
    ·apply ya O O; exact yq (qfa 6 rfl yU34 O O yS3)
    ·apply ya O O; exact yq (qfa 1 rfl yU182 O O yS34)
    ·apply ya O O; exact yq (q_move O)
    ·apply ya O O
     apply yq
     refine QV.to (v' := .string (zeroS (eoN l - kN l))) (q_sliceS_h O O Tryz.underlying9 ⟨by omega, hz1⟩) (by rw [show (l.eo - l.key).toNat = eoN l - kN l by omega, gap_sub _ (by omega)])
    ·apply ya O O; exact yq (qsub O O)
    ·apply ya O O; exact yq (qld O yA3)
    ·apply ya O O; exact yq (qfa 0 rfl yU34 O O yS3)
    ·apply ya O O; exact yq (qfa 1 rfl yU182 O O yS34)
    ·apply ya O O; exact yq (qld O yA3)
    ·apply ya O O; exact yq (qfa 5 rfl yU34 O O yS3)
    ·apply ya O O; exact yq (qfa 1 rfl yU182 O O yS34)
    ·apply ya O O; exact yq (q_move O)
    ·apply ya O O; exact yq (qld O yA3)
    ·apply ya O O; exact yq (qfa 10 rfl yU182 O O yS3)
    ·apply ya O O; exact yq (qld O yA31)
    ·apply ya O O; exact yq (qfa 0 rfl yU182 O O yS31)
   refine d_eff1 [9, 17, 18, 30, 16, 29, 12, 15, 25, 28, 11, 14, 21, 24, 27, 10, 13, 20, 23, 26, 19, 22] [8, 3, 2, 1, 0] 33 [(56, _), (64, _), (65, _), (77, _), (79, _)] gO ⟨rfl, rfl, rfl, rfl, rfl, trivial⟩ (by kernel_rfl) (by kernel_rfl) fun Ex => ?_
   refine o_buildSlice1 [_, _, _, _, _] rfl rfl yU289 yS9 yZ9 O O O O (fun b80 => ?_)
   refine l_nil ?_
   apply n_d
   ·refine ⟨?_, ?_, ?_, ?_, ?_, trivial⟩
    ·apply ya O O; exact yq (qadd O O)
    ·apply ya O O; exact yq (qld O yA3)
    ·apply ya O O; exact yq (qfa 10 rfl yU182 O O yS3)
    ·apply ya O O; exact yq (qld O yA31)
    ·apply ya O O; exact yq (qfa 0 rfl yU182 O O yS31)
   refine d_eff1 [1, 8, 0, 3, 2] [] 34 [(48, _), (55, _), (80, _)] gO ⟨rfl, rfl, rfl, trivial⟩ (by kernel_rfl) (by kernel_rfl) fun Ex => ?_
   refine lc1 O O O (Write5_ok pa s b80 (off + (8 + i * sN l)) _ k (zeroS (eoN l - kN l)) e (zeroS (boN l - eoN l - eN l)) (numS b) (by omega) (by show goodP s _ ((totS (parts l k e b) : Nat) : Int); rw [htot]; exact goodP.sub hg (by omega) (by omega) (by omega))) ?_
   rw [show [k, zeroS (eoN l - kN l), e, zeroS (boN l - eoN l - eN l), numS b] = parts l k e b from rfl, htot]
   refine l_nil ?_
   apply n_d
   ·exact trivial
   refine d_end (by kernel_rfl) ?_
   refine nz<|l_q O (qlda O yA182 yS182) ?_
   refine mv O O<|mv O O<|lc1 O O O (mark_ok pa off i t (s.put (off + (8 + i * sN l)) (sN l) (catM (parts l k e b))) l hl (goodP.put hg) (ctF cs) (ok_ct hok) (by rw [ArS.put_m, load_behind, load_ctrl hG hN hok]) hi (by omega)) ?_
   rw [put_full hl hG hok hi ht hk he]
   exact asg O O<|lc<|rt<|fr1 O ([arenaH pa (s.put off (gN l) (encG l (updC cs i (.full t k e b))))]) (.tmp rfl) ⟨rfl, rfl⟩
theorem SetElem_ok (i : Nat) (t : Int) (k e e' : ByteArray) (b : Int) (hi : i < 8) (hc : cs i = .full t k e b) (he' : e'.size = eN l) :
  FnOk Tryz.prog 137 #[.agg #[.pointer (some ⟨pa, 0, none⟩), .int .i64 l.key, .int .i64 l.elem, .int .i64 l.ka, .int .i64 l.ea, .int .i64 l.cap, .int .i64 l.eo, .int .i64 l.bo, .int .i64 l.slot, .int .i64 l.group, .int .i64 off], .int .i64 i, .string e'] [arenaH pa s] (fun v L => v = .int .i64 0 ∧ L = [arenaH pa (s.put off (gN l) (encG l (updC cs i (.full t k e' b))))]) := by
 have hN := layN hl
 have hn8 := hN.g_eq; have hns := hN.s_eq
 have h1 := hN.g; have h2 := hN.k; have h3 := hN.e; have h4 := hN.eo; have h5 := hN.bo; have h6 := hN.s
 have h7 := hN.eo1; have h8 := hN.bo1
 have hcok := hok i hi
 have hcti := ct_cast hok hi
 rw [hc] at hcok hcti
 obtain ⟨ht0, ht1, hk, he, _⟩ := hcok
 have hct2 : ctF cs i < 128 := by have : (Cell.full t k e b).ctrl = t := rfl; omega
 have hst : (i : Int) * l.slot = ((i * sN l : Nat) : Int) := by rw [Int.natCast_mul, h6]
 have hit := slot_in hN hi (r := sN l - 1) (by omega)
 have hpl : ∀ x : Int, placeI l i x = 8 + ((i * sN l : Nat) : Int) + x := fun x => by unfold placeI; rw [if_neg (by omega), hst]
 have hes : (e'.size : Int) = l.elem := by omega
 have hg8 : goodP s off 8 := goodP.sub hg (by omega) (by omega) (by omega)
 refine fn_intro en137 Tryz.func137 rfl rfl rfl fun Fr w0 => t_nm ?_
 refine t_pure (φ := s.ok) (fun w hw => arena_ok hw .here) fun hok0 => ?_
 have hge := goodP.end_le hok0 hg
 have hst0 := hok0.stop_eq
 refine sr<|o_boxA O O fun b3 => asg O O<|lc<|t_seq<|t_seq<|t_draw mixed ?_
 apply dq 0 rfl
 ·exact yq (q_move O)
 apply dq 2 rfl
 ·exact yq (q_move O)
 apply dq 3 rfl
 ·exact yq (qls O yU9)
 apply dq 4 rfl
 ·exact yq (qfa 1 rfl yU182 O O yS34)
 apply dq 5 rfl
 ·exact yq (qfa 1 rfl yU34 O O yS3)
 apply dq 6 rfl
 ·exact yq (qld O yA3)
 apply dq 7 rfl
 ·exact yq (qi O O (b_neq ·))
 apply dq 9 rfl
 ·exact yq (qlda O yA182 yS182)
 refine d_eff1 [0] [9, 7, 6, 5, 4, 3, 2] 1 [(10, _)] gO ⟨rfl, trivial⟩ (by kernel_rfl) (by kernel_rfl) fun Ex => ?_
 refine lc1 O O O (slot_ok i (by omega) (by omega)) ?_
 refine l_nil ?_
 apply n_d
 ·refine ⟨?_, ?_, ?_, ?_, ?_, ?_, ?_, trivial⟩
  ·apply ya O O; exact yq (qlda O yA182 yS182)
  ·apply ya O O; exact yq (qi O O (b_neq ·))
  ·apply ya O O; exact yq (qld O yA3)
  ·apply ya O O; exact yq (qfa 1 rfl yU34 O O yS3)
  ·apply ya O O; exact yq (qfa 1 rfl yU182 O O yS34)
  ·apply ya O O; exact yq (qls O yU9)
  ·apply ya O O; exact yq (q_move O)
 refine d_eff1 [7, 3, 6, 2, 5, 4] [9] 8 [(17, _)] gO ⟨rfl, trivial⟩ (by kernel_rfl) (by kernel_rfl) fun Ex => ?_
 refine lc1 O O O (when_no _ _ (by simp; omega)) ?_
 refine l_nil ?_
 apply n_d
 ·refine ⟨?_, trivial⟩
  ·apply ya O O; exact yq (qlda O yA182 yS182)
 refine d_eff1 [9] [] 10 [(19, _)] gO ⟨rfl, trivial⟩ (by kernel_rfl) (by kernel_rfl) fun Ex => ?_
 refine lc1 O O O (there_ok pa off s l hl hg) ?_
 refine l_nil ?_
 apply n_d
 ·exact trivial
 refine d_eff1 [] [] 11 [(11, _), (18, _), (20, _)] gO ⟨rfl, rfl, rfl, trivial⟩ (by kernel_rfl) (by kernel_rfl) fun Ex => ?_
 refine o_buildSlice1 [_, _, _] rfl rfl yU288 yS77 yZ77 O O O O (fun b21 => ?_)
 refine l_nil ?_
 apply n_d
 ·exact trivial
 refine d_eff1 [] [] 12 [(21, _)] gO ⟨rfl, trivial⟩ (by kernel_rfl) (by kernel_rfl) fun Ex => ?_
 refine lc1 O O O (first3_ok b21 0 0 0) ?_
 refine l_nil ?_
 apply n_d
 ·exact trivial
 refine d_eff1 [] [] 13 [(22, _)] gO ⟨rfl, trivial⟩ (by kernel_rfl) (by kernel_rfl) fun Ex => ?_
 refine asg O O<|l_nil ?_
 apply n_d
 ·exact trivial
 refine d_end (by kernel_rfl) ?_
 refine nz<|mv O O<|l_q O (qi O O (b_neq ·))<|lc<|t_if O (fun z => ?_) fun z => ?_
 ·exact absurd rfl z
 ·refine t_skip<|nz<|l_q O (qfa 0 rfl yU182 O O yS31)<|l_q O (qld O yA31) ?_
  refine l_q O (qfa 10 rfl yU182 O O yS3)<|l_q O (qld O yA3) ?_
  refine lc1 O O O (Load_okI pa s _ _ off 8 rfl rfl (by unfold wid; omega) hg8) ?_
  rw [load_ctrl hG hN hok]
  refine mv O O<|l_q O (q_extractL O ga) ?_
  refine l_q O (q_extractL O ga) ?_
  refine asg O O<|asg O O<|lc<|t_seq<|sr<|mv O O<|lc1 O O O (MatchFull_ok (ctF cs) (ok_ct hok)) ?_
  refine mv O O<|lc1 O O O (Has_ok _ i hi) ?_
  refine l_q O (q_un O (u_not ·))<|lc<|t_if O (fun y => ?_) fun y => ?_
  ·simp [hct2] at y
  ·refine t_skip<|n_code<|t_seq<|t_draw mixed ?_
   apply dq 0 rfl
   ·exact yq (qfa 0 rfl yU182 O O yS31)
   apply dq 1 rfl
   ·exact yq (qld O yA31)
   apply dq 2 rfl
   ·exact yq (qfa 10 rfl yU182 O O yS3)
   apply dq 3 rfl
   ·exact yq (qld O yA3)
   apply dq 4 rfl
   ·exact yq (qfa 1 rfl yU182 O O yS34)
   apply dq 5 rfl
   ·exact yq (qlda O yA34 yS34)
   apply dq 6 rfl
   ·exact yq (q_move O)
   apply dq 9 rfl
   ·exact yq (q_move O)
   apply d_eff2 7 10
   ·kernel_rfl
   ·apply effAt (q1 := [5, 6, 4]) (q2 := [9, 3, 2, 1, 0]) [(44, _), (45, _)]
    ·exact gO
    ·exact ⟨rfl, rfl, trivial⟩
    ·kernel_rfl
    intro Ex
    refine lc1 O O O (ElemAt_ok l hl i) ?_
    rw [hpl]
    refine l_nil ?_
    apply n_d
    ·refine ⟨?_, ?_, ?_, ?_, ?_, trivial⟩
     ·apply ya O O; exact yq (q_move O)
     ·apply ya O O; exact yq (qld O yA3)
     ·apply ya O O; exact yq (qfa 10 rfl yU182 O O yS3)
     ·apply ya O O; exact yq (qld O yA31)
     ·apply ya O O; exact yq (qfa 0 rfl yU182 O O yS31)
    apply dq 8 rfl
    ·exact yq (qadd O O)
    refine d_eff1 [9] [8, 3, 2, 1, 0] 10 [(48, _)] gO ⟨rfl, trivial⟩ (by kernel_rfl) (by kernel_rfl) fun Ex => ?_
    refine o_buildSlice1 [_] rfl rfl yU289 yS9 yZ9 O O O O (fun b49 => ?_)
    refine l_nil ?_
    apply n_d
    ·refine ⟨?_, ?_, ?_, ?_, ?_, trivial⟩
     ·apply ya O O; exact yq (qadd O O)
     ·apply ya O O; exact yq (qld O yA3)
     ·apply ya O O; exact yq (qfa 10 rfl yU182 O O yS3)
     ·apply ya O O; exact yq (qld O yA31)
     ·apply ya O O; exact yq (qfa 0 rfl yU182 O O yS31)
    refine d_eff1 [1, 8, 0, 3, 2] [] 11 [(40, _), (47, _), (49, _)] gO ⟨rfl, rfl, rfl, trivial⟩ (by kernel_rfl) (by kernel_rfl) fun Ex => ?_
    refine lc1 O O O (Write1_ok pa s b49 (off + (8 + i * sN l + eoN l)) _ e' (by omega) (goodP.sub hg (by omega) (by omega) (by simp only [totS]; omega))) ?_
    rw [show s.put (off + (8 + i * sN l + eoN l)) (totS [e']) (catM [e']) = s.put off (gN l) (encG l (updC cs i (.full t k e' b))) by unfold ArS.put; rw [show totS [e'] = eN l by simp only [totS]; omega, cat_one, put_elem hN hG hi hc hk he he']]
    refine l_nil ?_
    apply n_d
    ·exact trivial
    refine d_eff1 [] [] 12 [(50, _)] gO ⟨rfl, trivial⟩ (by kernel_rfl) (by kernel_rfl) fun Ex => ?_
    refine asg O O<|l_nil ?_
    apply n_d
    ·exact trivial
    refine d_end (by kernel_rfl) ?_
    exact n_code<|rt<|fr1 O ([arenaH pa (s.put off (gN l) (encG l (updC cs i (.full t k e' b))))]) (.tmp rfl) ⟨rfl, rfl⟩

   ·apply effAt (q1 := [9]) (q2 := [6, 5, 4, 3, 2, 1, 0]) [(48, _)]
    ·exact gO
    ·exact ⟨rfl, trivial⟩
    ·kernel_rfl
    intro Ex
    refine o_buildSlice1 [_] rfl rfl yU289 yS9 yZ9 O O O O (fun b49 => ?_)
    refine l_nil ?_
    apply n_d
    ·refine ⟨?_, ?_, ?_, ?_, ?_, ?_, ?_, trivial⟩
     ·apply ya O O; exact yq (q_move O)
     ·apply ya O O; exact yq (qlda O yA34 yS34)
     ·apply ya O O; exact yq (qfa 1 rfl yU182 O O yS34)
     ·apply ya O O; exact yq (qld O yA3)
     ·apply ya O O; exact yq (qfa 10 rfl yU182 O O yS3)
     ·apply ya O O; exact yq (qld O yA31)
     ·apply ya O O; exact yq (qfa 0 rfl yU182 O O yS31)
    refine d_eff1 [5, 6, 4] [3, 2, 1, 0] 7 [(44, _), (45, _)] gO ⟨rfl, rfl, trivial⟩ (by kernel_rfl) (by kernel_rfl) fun Ex => ?_
    refine lc1 O O O (ElemAt_ok l hl i) ?_
    rw [hpl]
    refine l_nil ?_
    apply n_d
    ·refine ⟨?_, ?_, ?_, ?_, trivial⟩
     ·apply ya O O; exact yq (qld O yA3)
     ·apply ya O O; exact yq (qfa 10 rfl yU182 O O yS3)
     ·apply ya O O; exact yq (qld O yA31)
     ·apply ya O O; exact yq (qfa 0 rfl yU182 O O yS31)
    apply dq 8 rfl
    ·exact yq (qadd O O)
    refine d_eff1 [1, 8, 0, 3, 2] [] 11 [(40, _), (47, _), (49, _)] gO ⟨rfl, rfl, rfl, trivial⟩ (by kernel_rfl) (by kernel_rfl) fun Ex => ?_
    refine lc1 O O O (Write1_ok pa s b49 (off + (8 + i * sN l + eoN l)) _ e' (by omega) (goodP.sub hg (by omega) (by omega) (by simp only [totS]; omega))) ?_
    rw [show s.put (off + (8 + i * sN l + eoN l)) (totS [e']) (catM [e']) = s.put off (gN l) (encG l (updC cs i (.full t k e' b))) by unfold ArS.put; rw [show totS [e'] = eN l by simp only [totS]; omega, cat_one, put_elem hN hG hi hc hk he he']]
    refine l_nil ?_
    apply n_d
    ·exact trivial
    refine d_eff1 [] [] 12 [(50, _)] gO ⟨rfl, trivial⟩ (by kernel_rfl) (by kernel_rfl) fun Ex => ?_
    refine asg O O<|l_nil ?_
    apply n_d
    ·exact trivial
    refine d_end (by kernel_rfl) ?_
    exact n_code<|rt<|fr1 O ([arenaH pa (s.put off (gN l) (encG l (updC cs i (.full t k e' b))))]) (.tmp rfl) ⟨rfl, rfl⟩
theorem Erase_ok (i : Nat) (gone : Bool) (hi : i < 8) :
  FnOk Tryz.prog 163 #[.agg #[.pointer (some ⟨pa, 0, none⟩), .int .i64 l.key, .int .i64 l.elem, .int .i64 l.ka, .int .i64 l.ea, .int .i64 l.cap, .int .i64 l.eo, .int .i64 l.bo, .int .i64 l.slot, .int .i64 l.group, .int .i64 off], .int .i64 i, .bool gone] [arenaH pa s] (fun v L => v = .int .i64 0 ∧ L = [arenaH pa (s.put off (gN l) (encG l (updC cs i (if gone then .deleted else .empty))))]) := by
 have hN := layN hl
 have hn8 := hN.g_eq; have hns := hN.s_eq
 have h1 := hN.g; have h2 := hN.k; have h3 := hN.e; have h4 := hN.eo; have h5 := hN.bo; have h6 := hN.s
 have h7 := hN.eo1; have h8 := hN.bo1
 have hst : (i : Int) * l.slot = ((i * sN l : Nat) : Int) := by rw [Int.natCast_mul, h6]
 have hit := slot_in hN hi (r := sN l - 1) (by omega)
 have hpl : ∀ x : Int, placeI l i x = 8 + ((i * sN l : Nat) : Int) + x := fun x => by unfold placeI; rw [if_neg (by omega), hst]
 refine fn_intro en163 Tryz.func163 rfl rfl rfl fun Fr w0 => t_nm ?_
 refine t_pure (φ := s.ok) (fun w hw => arena_ok hw .here) fun hok0 => ?_
 have hge := goodP.end_le hok0 hg
 have hst0 := hok0.stop_eq
 refine sr<|o_boxA O O fun b3 => asg O O<|lc<|t_seq<|t_seq<|t_draw mixed ?_
 apply dq 0 rfl
 ·exact yq (q_move O)
 apply dq 2 rfl
 ·exact yq (qlda O yA182 yS182)
 refine d_eff1 [0] [2] 1 [(8, _)] gO ⟨rfl, trivial⟩ (by kernel_rfl) (by kernel_rfl) fun Ex => ?_
 refine lc1 O O O (slot_ok i (by omega) (by omega)) ?_
 refine l_nil ?_
 apply n_d
 ·refine ⟨?_, trivial⟩
  ·apply ya O O; exact yq (qlda O yA182 yS182)
 refine d_eff1 [2] [] 3 [(10, _)] gO ⟨rfl, trivial⟩ (by kernel_rfl) (by kernel_rfl) fun Ex => ?_
 refine lc1 O O O (there_ok pa off s l hl hg) ?_
 refine l_nil ?_
 apply n_d
 ·exact trivial
 refine d_eff1 [] [] 4 [(9, _), (11, _)] gO ⟨rfl, rfl, trivial⟩ (by kernel_rfl) (by kernel_rfl) fun Ex => ?_
 refine o_buildSlice1 [_, _] rfl rfl yU288 yS77 yZ77 O O O O (fun b12 => ?_)
 refine l_nil ?_
 apply n_d
 ·exact trivial
 refine d_eff1 [] [] 5 [(12, _)] gO ⟨rfl, trivial⟩ (by kernel_rfl) (by kernel_rfl) fun Ex => ?_
 refine lc1 O O O (first2_ok b12 0 0) ?_
 refine l_nil ?_
 apply n_d
 ·exact trivial
 refine d_eff1 [] [] 6 [(13, _)] gO ⟨rfl, trivial⟩ (by kernel_rfl) (by kernel_rfl) fun Ex => ?_
 refine asg O O<|l_nil ?_
 apply n_d
 ·exact trivial
 refine d_end (by kernel_rfl) ?_
 refine nz<|mv O O<|l_q O (qi O O (b_neq ·))<|lc<|t_if O (fun z => ?_) fun z => ?_
 ·exact absurd rfl z
 ·refine t_skip<|n_code<|t_seq<|t_draw mixed ?_
  apply dq 0 rfl
  ·exact yq (qfa 0 rfl yU182 O O yS31)
  apply dq 1 rfl
  ·exact yq (qld O yA31)
  apply dq 2 rfl
  ·exact yq (qfa 10 rfl yU182 O O yS3)
  apply dq 3 rfl
  ·exact yq (qld O yA3)
  apply dq 4 rfl
  ·exact yq (qfa 1 rfl yU182 O O yS34)
  apply dq 5 rfl
  ·exact yq (qlda O yA34 yS34)
  apply dq 6 rfl
  ·exact yq (q_move O)
  apply dq 9 rfl
  ·exact yq (qfa 1 rfl yU182 O O yS34)
  apply dq 10 rfl
  ·exact yq (qfa 7 rfl yU34 O O yS3)
  apply dq 11 rfl
  ·exact yq (qld O yA3)
  refine d_eff1 [5, 6, 4] [11, 10, 9, 3, 2, 1, 0] 7 [(22, _), (23, _)] gO ⟨rfl, rfl, trivial⟩ (by kernel_rfl) (by kernel_rfl) fun Ex => ?_
  refine lc1 O O O (KeyAt_ok l hl i) ?_
  rw [hpl]
  refine l_nil ?_
  apply n_d
  ·refine ⟨?_, ?_, ?_, ?_, ?_, ?_, ?_, trivial⟩
   ·apply ya O O; exact yq (qld O yA3)
   ·apply ya O O; exact yq (qfa 7 rfl yU34 O O yS3)
   ·apply ya O O; exact yq (qfa 1 rfl yU182 O O yS34)
   ·apply ya O O; exact yq (qld O yA3)
   ·apply ya O O; exact yq (qfa 10 rfl yU182 O O yS3)
   ·apply ya O O; exact yq (qld O yA31)
   ·apply ya O O; exact yq (qfa 0 rfl yU182 O O yS31)
  apply dq 8 rfl
  ·exact yq (qadd O O)
  refine d_eff1 [1, 8, 11, 0, 3, 10, 2, 9] [] 12 [(18, _), (25, _), (28, _)] gO ⟨rfl, rfl, rfl, trivial⟩ (by kernel_rfl) (by kernel_rfl) fun Ex => ?_
  refine lc1 O O O (Fill_okI pa s _ l.slot (off + (8 + i * sN l)) (sN l) 0 (by omega) (by omega) (by omega) (goodP.sub hg (by omega) (by omega) (by omega))) ?_
  refine l_nil ?_
  apply n_d
  ·exact trivial
  refine d_end (by kernel_rfl) ?_
  refine n_code<|t_seq<|sr<|mv O O<|lc<|t_if O (fun y => ?_) fun y => ?_
  ·refine sr<|l_q O (qlda O yA182 yS182) ?_
   refine mv O O<|lc1 O O O (mark_ok pa off i 254 (s.put (off + (8 + i * sN l)) (sN l) (fun _ => 0)) l hl (goodP.put hg) (ctF cs) (ok_ct hok) (by rw [ArS.put_m, load_behind, load_ctrl hG hN hok]) hi (by omega)) ?_
   rw [put_gone hl hG hok hi (c := 254) (cell := .deleted) rfl (by decide) rfl]
   refine asg O O<|lc<|rt<|fr1 O ([arenaH pa (s.put off (gN l) (encG l (updC cs i .deleted)))]) (.tmp rfl) ?_
   exact ⟨rfl, by rw [y]; rfl⟩
  ·refine t_skip<|nz<|l_q O (qlda O yA182 yS182) ?_
   refine mv O O<|lc1 O O O (mark_ok pa off i 128 (s.put (off + (8 + i * sN l)) (sN l) (fun _ => 0)) l hl (goodP.put hg) (ctF cs) (ok_ct hok) (by rw [ArS.put_m, load_behind, load_ctrl hG hN hok]) hi (by omega)) ?_
   rw [put_gone hl hG hok hi (c := 128) (cell := .empty) rfl (by decide) rfl]
   refine asg O O<|lc<|rt<|fr1 O ([arenaH pa (s.put off (gN l) (encG l (updC cs i .empty)))]) (.tmp rfl) ?_
   exact ⟨rfl, by rw [y]; rfl⟩
end
end Go.Proofs.YthkajgkagnenbaaGreatDoor.Group
