import Derived.Test.YtjekhcojebgpnaaBtV
import Derived.Test.YtjekhcojebgpnaaBtR
import Derived.Test.YtjekhcojebgpnaaBtJ
/- Contracts of package order: a node with too few pairs is filled. -/
set_option linter.unusedVariables false
set_option linter.unusedSimpArgs false
set_option maxRecDepth 100000
namespace Go.Proofs.Ytjekhcojebgpnaa.Bt
open Go.RowKit Go.Proofs Go.Proofs.Ytjekhcojebgpnaa.Eng Go.Proofs.Ytjekhcojebgpnaa.Ty Go.Proofs.Ytjekhcojebgpnaa.Bits Go.Proofs.Ytjekhcojebgpnaa.Mem Go.Proofs.Ytjekhcojebgpnaa.Search Go.Proofs.Ytjekhcojebgpnaa.Layout Go.Proofs.Ytjekhcojebgpnaa.Arena Go.Proofs.Ytjekhcojebgpnaa.GroupB
section
variable (pa : Nat) (offI : Int) (s : ArS) {l : Lay} (hl : l.err = 0)
include hl

theorem fromLeft_ok (hs : s.ok) (gn gb gc h j : Nat) (t b c : BT) (i : Nat) (E : NdP l s h t i) (hj : j < t.ps.length) (hbe : b = kid t j) (hce : c = kid t (j + 1)) (hb : ok h 3 b) (hb3 : 3 < b.ps.length) (hc : ok h 2 c) (hc3 : c.ps.length < 3) :
  FnOk Try.prog 59 #[.agg #[.pointer (some ⟨pa, 0, none⟩), .int .i64 l.key, .int .i64 l.elem, .int .i64 l.ka, .int .i64 l.ea, .int .i64 l.cap, .int .i64 l.eo, .int .i64 l.bo, .int .i64 l.slot, .int .i64 l.group, .int .i64 offI], .pointer (some ⟨gn, 0, none⟩), .pointer (some ⟨gb, 0, none⟩), .pointer (some ⟨gc, 0, none⟩), .int .i64 (((j : Nat) : Int) + 1)] [pt gn (.cells (nodeT (h + 1) (t)).toArray 73 (0, 0)), pt gb (.cells (nodeT (h) (b)).toArray 73 (0, 0)), pt gc (.cells (nodeT (h) (c)).toArray 73 (0, 0)), arenaH pa s]
   (fun v L => ∃ m', v = .tuple #[] ∧ L = [arenaH pa (wm s m')] ∧ TreeM l m' (h + 1) (turnAt t j (rotR b c (pr t j))) ∧ ∀ a, Away l (offs (h + 1) t) a → m' a = s.m a) := by
 have hnb := nb_bnd hl
 have hb7 := (ok_len hb).2
 have hc7 := (ok_len hc).2
 have hbk := ks_len hb
 have hck := ks_len hc
 have htk : (t.ks.map BT.o).length ≤ 8 := by have := E.h3; have := E.h2; rw [List.length_map]; omega
 have h2 := E.h2
 have SB : SubT l s (some (h, b)) := hbe ▸ E.kidT (Nat.le_of_lt hj)
 have SC : SubT l s (some (h, c)) := hce ▸ E.kidT (show j + 1 ≤ t.ps.length by omega)
 obtain ⟨b1, b2, b3, b4, bz, b6⟩ := SB _ _ rfl
 obtain ⟨c1, c2, c3, c4, c5, c6⟩ := SC _ _ rfl
 obtain ⟨w1, w2⟩ := rotR_tot (s := pr t j) hb hb3 hc hc3
 have hM : (nxt h b b.ps.length).L.length ≤ 1000000000 := by have := w2; unfold tot at this; omega
 obtain ⟨M, hMe⟩ : ∃ M, M = 1 + (nxt h b b.ps.length).L.length := ⟨_, rfl⟩
 rw [← hMe] at w1 w2
 have hbt : tot h b ≤ 1000000000 := b6
 have hct : tot h c ≤ 1000000000 := c6
 have htt : tot (h + 1) t ≤ 1000000000 := E.len
 have hp := pr_at hj
 have hfst : (pad 0 8 (c.ks.map BT.o))[0]? = some (TX.root (nxt h c 0)) := nxt_root c1 (Nat.zero_le _)
 refine fn_intro en59 Try.func59 rfl rfl rfl fun Fr w0 => t_nm ?_
 have hcp : (pad p0 7 (pr t j :: c.ps)).length = 7 := pad_len (by simp; omega)
 obtain ⟨K1, hK1e⟩ : ∃ K1, K1 = (layA (pad 0 8 (c.ks.map BT.o)) (0 + 2) (((pad 0 8 (c.ks.map BT.o)).drop (0 + 1)).take (c.ps.length - 0))).set (0 + 1) 0 := ⟨_, rfl⟩
 have hK1 : K1.length = 8 := by rw [hK1e, List.length_set, layA_len (by rw [List.length_take, List.length_drop, pad_len hck]; omega), pad_len hck]
 obtain ⟨up, hupe⟩ : ∃ up, up = b.ps.getLastD default := ⟨_, rfl⟩
 have hup : b.ps[b.ps.length - 1]? = some up := by
  rw [← List.getLast?_eq_getElem?, hupe, List.getLastD_eq_getLast?]
  cases e : b.ps with
  | nil => rw [e] at hb3; simp at hb3
  | cons a r => rw [List.getLast?_cons]; rfl
 have hcd : c.ks = [] ∧ h = 0 ∨ c.ks.length = c.ps.length + 1 := by
  cases h with
  | zero => exact .inl ⟨hc.2.2, rfl⟩
  | succ g => exact .inr hc.2.2.1
 have hr1 : (rotR b c (pr t j)).1.ks = b.ks.dropLast := rfl
 have hr2 : (rotR b c (pr t j)).2.2.ks = b.ks.getLast?.toList ++ c.ks := rfl
 have hRk := rotR_law (pr t j) hb hb3 hc hc3
 have hcd8 : ((rotR b c (pr t j)).2.2.ks.map BT.o).length ≤ 8 := ks_len hRk.ok2
 have hbd8 : ((rotR b c (pr t j)).1.ks.map BT.o).length ≤ 8 := ks_len hRk.ok1
 have hbd7 : b.ps.dropLast.length ≤ 7 := by rw [List.length_dropLast]; omega
 have hKc : (K1.set 0 (TX.root (nxt h b b.ps.length))).set 1 (TX.root (nxt h c 0)) = pad 0 8 ((rotR b c (pr t j)).2.2.ks.map BT.o) := by
  rw [hK1e, hr2]
  cases h with
  | zero =>
   rw [hb.2.2, hc.2.2]
   exact kids_left0 (by omega)
  | succ g =>
   obtain ⟨x, hx, _⟩ := getLast_opt (l := b.ks) (fun e => by have := hb.2.2.1; rw [e] at this; simp at this)
   have hkd : kid b b.ps.length = x := by
    unfold kid
    rw [show b.ps.length = b.ks.length - 1 by have := hb.2.2.1; omega, ← List.getLast?_eq_getElem?, hx]; rfl
   rw [hx]
   show _ = pad 0 8 (x.o :: c.ks.map BT.o)
   rw [kids_left (by rw [List.length_map]; exact hc.2.2.1) (by omega) hfst]
   show pad 0 8 ((kid b b.ps.length).o :: _) = _
   rw [hkd]
 have hKb : (layA (pad 0 8 (b.ks.map BT.o)) (b.ps.length - 1 + 1) (((pad 0 8 (b.ks.map BT.o)).drop (b.ps.length - 1 + 2)).take (b.ps.length - (b.ps.length - 1 + 1)))).set b.ps.length 0 = pad 0 8 ((rotR b c (pr t j)).1.ks.map BT.o) := by
  rw [hr1]
  cases h with
  | zero => rw [hb.2.2]; exact kids_drop0 (by omega) (by omega)
  | succ g =>
   rw [kids_drop (by rw [List.length_map]; exact hb.2.2.1) (by omega) (by omega), show b.ps.length - 1 + 1 = b.ps.length by omega, erase_last (by rw [List.length_map]; exact hb.2.2.1), List.map_dropLast]
 have wb : ((tot h b : Nat) : Int) - ((M : Nat) : Int) = ((tot h (rotR b c (pr t j)).1 : Nat) : Int) := by omega
 have wc : ((tot h c : Nat) : Int) + ((M : Nat) : Int) = ((tot h (rotR b c (pr t j)).2.2 : Nat) : Int) := by omega
 refine sr<|o_boxA O O fun b5 => lc<|t_seq<|t_draw mixed ?_
 apply dq 0 O
 ·exact yq (q_move O)
 apply dq 1 O
 ·exact yq (q_move O)
 apply dq 2 O
 ·exact yq (q_nilCheck O)
 apply dq 3 O
 ·exact yq (qfa 1 O yU73 O O yS3)
 apply dq 4 O
 ·exact yq (qld O yA3)
 apply dq 5 O
 ·exact yq (q_nilCheck O)
 apply dq 6 O
 ·exact yq (qfa 18 O yU73 O O yS71)
 apply dq 7 O
 ·exact yq (q_indexAddrA O O yU71 yS3 (by omega))
 apply dq 8 O
 ·apply yq
  apply q_loadP1 (v := .int .i64 ((TX.root (nxt h b b.ps.length) : Nat) : Int)) rfl yA3
  ·exact tk
  ·rw [Int.toNat_natCast, Nat.mul_one]; exact pkV_kid _ _ _ _ (pad_len hb7) (nxt_root b1 (Nat.le_refl _))
 refine d_eff1 [8, 0, 1, 2, 3, 4, 5, 6, 7] [] 9 [(21, _)] gO ⟨rfl, trivial⟩ (by kernel_rfl) (by kernel_rfl) fun Ex => ?_
 refine asg O O<|l_nil ?_
 apply n_d
 ·exact trivial
 refine d_end (by kernel_rfl) ?_
 refine nz<|asg O O<|lc<|t_seq<|sr<|mv O O<|l_q O (q_nilCheck O)<|l_q O (qfa 3 O yU73 O O yS4)<|l_q O (qld O yA4) ?_
 refine l_q O (q_un O (u_not ·))<|lc ?_
 apply t_cut (p := (fun _ : Unit => True)) (EE := (fun _ => [(1, .pointer (some ⟨gn, 0, none⟩)), (2, .pointer (some ⟨gb, 0, none⟩)), (3, .pointer (some ⟨gc, 0, none⟩)), (4, .int .i64 (((j : Nat) : Int) + 1)), (5, .pointer (some ⟨b5, 0, none⟩)), (10, .int .i64 ((TX.root (nxt h b b.ps.length) : Nat) : Int)), (11, .int .i64 ((M : Nat) : Int))])) (LL := (fun _ => pt b5 (.cells #[.pointer (some ⟨pa, 0, none⟩), .int .i64 l.key, .int .i64 l.elem, .int .i64 l.ka, .int .i64 l.ea, .int .i64 l.cap, .int .i64 l.eo, .int .i64 l.bo, .int .i64 l.slot, .int .i64 l.group, .int .i64 offI] 27 (0, 0)) :: pt gn (.cells (nodeT (h + 1) (t)).toArray 73 (0, 0)) :: pt gb (.cells (nodeT (h) (b)).toArray 73 (0, 0)) :: pt gc (.cells (nodeT (h) (c)).toArray 73 (0, 0)) :: arenaH pa s :: Fr))
 refine t_if O (fun c0 => ?_) fun c0 => ?_
 ·have hh : h ≠ 0 := by simpa using c0
  refine t_region<|mv O O<|l_q O (qlda O yA27 yS27) ?_
  refine mv O O ?_
  obtain ⟨g, rfl⟩ : ∃ g, h = g + 1 := ⟨h - 1, by omega⟩
  have htk2 : tot g (kid b b.ps.length) ≤ 1000000000 := hM
  refine lc1 O O O (totalK_ok pa s offI hl hs SB (j := b.ps.length) (by have := hb.2.2.1; omega)) ?_
  refine l_q O (qadd O O) ?_
  refine asg O O<|l_nil ?_
  rw [show (1 : Int) + ((tot g (kid b b.ps.length) : Nat) : Int) = ((M : Nat) : Int) by rw [hMe]; show (1 : Int) + (((lst g (kid b b.ps.length)).length : Nat) : Int) = ((1 + (lst g (kid b b.ps.length)).length : Nat) : Int); omega]
  apply n_join (())
  ·exact trivial
  ·exact ⟨O, O, O, O, O, O, O, trivial⟩
  ·exact en
 ·have hh : h = 0 := by simpa using c0
  refine t_skip ?_
  obtain rfl : M = 1 := by rw [hMe, hh]; rfl
  apply n_join (())
  ·exact trivial
  ·exact ⟨O, O, O, O, O, O, O, trivial⟩
  ·exact en
 rintro _ -
 try dsimp only
 refine n_nm ?_
 refine nz<|mv O O<|l_q O (q_nilCheck O)<|l_q O (qfa 18 O yU73 O O yS71)<|l_q O (q_indexAddrA O O yU71 yS3 (by omega)) ?_
 apply l_q O
 ·apply q_loadP1 (v := .int .i64 ((TX.root (nxt h c 0) : Nat) : Int)) rfl yA3
  ·exact tk
  ·exact pkV_kid _ _ _ _ (pad_len hc7) hfst
 refine asg O O<|lz<|mv O O<|mv O O<|mv O O<|l_q O (qsub O O) ?_
 refine l_q O (q_nilCheck O)<|l_q O (qfa 4 O yU73 O O yS70)<|l_q O (q_indexAddrA O O yU70 yS69 (by omega)) ?_
 apply l_q O
 ·apply q_loadP (us := [.string (pr t j).1, .string (pr t j).2]) rfl yA69 yS69
  ·exact tk
  ·rw [nodeC_len (pad_len h2) (pad_len htk)]; omega
  ·rw [show (((j : Nat) : Int) + 1 - 1).toNat = j by omega]; exact pkV_pair _ _ _ _ (by rw [pad_at h2 hj]; exact hp)
 refine lc1 O O O (NPut_ok gc c.ps.length 0 (.int .i64 ((c.o : Nat) : Int)) (.int .i64 ((tot h c : Nat) : Int)) (.bool (decide (h = 0))) c.ps (c.ks.map BT.o) (pr t j) 0 rfl (by omega) hck (Nat.zero_le _)) ?_
 rw [ins_hd, ← hK1e]
 refine lc<|t_seq<|t_draw mixed ?_
 apply dq 0 O
 ·exact yq (q_move O)
 apply dq 1 O
 ·exact yq (q_move O)
 apply dq 2 O
 ·exact yq (q_move O)
 apply dq 3 O
 ·exact yq (q_move O)
 apply dq 4 O
 ·exact yq (q_nilCheck O)
 apply dq 5 O
 ·exact yq (qfa 18 O yU73 O O yS71)
 apply dq 6 O
 ·exact yq (q_indexAddrA O O yU71 yS3 (by omega))
 apply dq 8 O
 ·exact yq (q_nilCheck O)
 apply dq 9 O
 ·exact yq (qfa 18 O yU73 O O yS71)
 refine d_eff1 [6, 2, 0, 5, 4] [9, 8, 3, 1] 7 [(52, _), (48, _)] gO ⟨rfl, rfl, trivial⟩ (by kernel_rfl) (by kernel_rfl) fun Ex => ?_
 apply o_storeP1 (v := kV (TX.root (nxt h b b.ps.length))) (xs' := nodeC ((c.o : Nat) : Int) ((c.ps.length + 1 : Nat) : Int) ((tot h c : Nat) : Int) (decide (h = 0)) (pad p0 7 (pr t j :: c.ps)) (K1.set 0 (TX.root (nxt h b b.ps.length)))) rfl rfl rfl yS3 rfl
 ·exact tk
 ·rw [nodeC_len hcp hK1]; decide
 ·exact set_kid _ _ _ _ hcp
 refine l_nil ?_
 apply n_d
 ·refine ⟨?_, ?_, ?_, ?_, trivial⟩
  ·apply ya O O; exact yq (qfa 18 O yU73 O O yS71)
  ·apply ya O O; exact yq (q_nilCheck O)
  ·apply ya O O; exact yq (q_move O)
  ·apply ya O O; exact yq (q_move O)
 apply dq 10 O
 ·exact yq (q_indexAddrA O O yU71 yS3 (by omega))
 refine d_eff1 [10, 3, 1, 9, 8] [] 11 [(55, _), (49, _)] gO ⟨rfl, rfl, trivial⟩ (by kernel_rfl) (by kernel_rfl) fun Ex => ?_
 apply o_storeP1 (v := kV (TX.root (nxt h c 0))) (xs' := nodeC ((c.o : Nat) : Int) ((c.ps.length + 1 : Nat) : Int) ((tot h c : Nat) : Int) (decide (h = 0)) (pad p0 7 (pr t j :: c.ps)) (pad 0 8 ((rotR b c (pr t j)).2.2.ks.map BT.o))) rfl rfl rfl yS3 rfl
 ·exact tk
 ·rw [nodeC_len hcp (by rw [List.length_set]; exact hK1)]; decide
 ·rw [← hKc]; exact set_kid _ _ _ _ hcp
 refine l_nil ?_
 apply n_d
 ·exact trivial
 refine d_end (by kernel_rfl) ?_
 refine n_code<|t_seq<|t_draw mixed ?_
 apply dq 0 O
 ·exact yq (q_move O)
 apply dq 1 O
 ·exact yq (q_move O)
 apply dq 2 O
 ·exact yq (qsub O O)
 apply dq 3 O
 ·exact yq (q_move O)
 apply dq 4 O
 ·exact yq (q_move O)
 apply dq 5 O
 ·exact yq (q_nilCheck O)
 apply dq 6 O
 ·exact yq (qfa 1 O yU73 O O yS3)
 apply dq 7 O
 ·exact yq (qld O yA3)
 apply dq 8 O
 ·exact yq (qsub O O)
 apply dq 9 O
 ·exact yq (q_nilCheck O)
 apply dq 10 O
 ·exact yq (qfa 4 O yU73 O O yS70)
 apply dq 11 O
 ·exact yq (q_indexAddrA O O yU70 yS69 (by omega))
 apply dq 12 O
 ·apply yq
  apply q_loadP (us := [.string (up).1, .string (up).2]) rfl yA69 yS69
  ·exact tk
  ·rw [nodeT_len hb]; omega
  ·rw [show (((b.ps.length : Nat) : Int) - 1).toNat = b.ps.length - 1 by omega]; exact pkV_pair _ _ _ _ (by rw [pad_at hb7 (by omega)]; exact hup)
 apply dq 13 O
 ·exact yq (q_nilCheck O)
 apply dq 14 O
 ·exact yq (qfa 4 O yU73 O O yS70)
 apply dq 15 O
 ·exact yq (q_indexAddrA O O yU70 yS69 (by omega))
 refine d_eff1 [15, 12, 0, 1, 2, 3, 4, 5, 6, 7, 8, 9, 10, 11, 14, 13] [] 16 [(71, _), (68, _)] gO ⟨rfl, rfl, trivial⟩ (by kernel_rfl) (by kernel_rfl) fun Ex => ?_
 apply o_storeP (us := prV up) (xs' := nodeC ((t.o : Nat) : Int) ((t.ps.length : Nat) : Int) ((tot (h + 1) t : Nat) : Int) (decide (h + 1 = 0)) (pad p0 7 (t.ps.set j up)) (pad 0 8 (t.ks.map BT.o))) rfl rfl rfl yS69 rfl rfl
 ·exact tk
 ·rw [show (((j : Nat) : Int) + 1 - 1).toNat = j by omega, nodeC_len (pad_len h2) (pad_len htk), prV_len]; omega
 ·rw [show (((j : Nat) : Int) + 1 - 1).toNat = j by omega, lay_pair _ _ _ _ (by rw [pad_len h2]; omega), pad_set h2 hj]
 refine l_nil ?_
 apply n_d
 ·exact trivial
 refine d_end (by kernel_rfl) ?_
 refine nz<|mv O O<|mv O O<|l_q O (q_nilCheck O)<|l_q O (qfa 1 O yU73 O O yS3)<|l_q O (qld O yA3) ?_
 refine l_q O (qsub O O) ?_
 rw [show ((b.ps.length : Nat) : Int) - 1 = ((b.ps.length - 1 : Nat) : Int) by omega]
 refine lc1 O O O (NDrop_ok gb b.ps.length (b.ps.length - 1) (.int .i64 ((b.o : Nat) : Int)) (.int .i64 ((tot h b : Nat) : Int)) (.bool (decide (h = 0))) b.ps (b.ks.map BT.o) rfl hb7 hbk (by omega)) ?_
 rw [erase_last (show b.ps.length = b.ps.length - 1 + 1 by omega), hKb]
 have hto := E.own_bl
 have hbo : blkN l b.o ∈ s.bl := by rw [hbe]; exact E.kid_bl (Nat.le_of_lt hj)
 have hco : blkN l c.o ∈ s.bl := by rw [hce]; exact E.kid_bl (show j + 1 ≤ t.ps.length by omega)
 have hkb : ∀ k, k ∈ b.ks ∨ k ∈ c.ks → k.o < 9223372036854775808 := fun k hk => by
  rcases hk with w | w
  ·exact kids_o hs SB _ (List.mem_map.2 ⟨k, w, rfl⟩)
  ·exact kids_o hs SC _ (List.mem_map.2 ⟨k, w, rfl⟩)
 have hzb : ∀ p ∈ b.ps, szs l p := fun p hp => bz p (ps_mem b1 p hp)
 have hzc : ∀ p ∈ c.ps, szs l p := fun p hp => c5 p (ps_mem c1 p hp)
 have hzt : ∀ p ∈ t.ps, szs l p := fun p hp => E.sz p (E.ps_mem p hp)
 obtain ⟨d1, d2⟩ := E.dj
 have dtb : Dj l t.o b.o := by rw [hbe]; exact d1 j (Nat.le_of_lt hj)
 have dtc : Dj l t.o c.o := by rw [hce]; exact d1 (j + 1) hj
 have dbc : Dj l b.o c.o := by rw [hbe, hce]; exact d2 j (j + 1) (Nat.le_of_lt hj) hj (by omega)
 refine lz<|mv O O<|l_q O (q_nilCheck O)<|l_q O (qfa 2 O yU73 O O yS3)<|l_q O (qld O yA3) ?_
 refine mv O O<|l_q O (qsub O O) ?_
 refine l_q O (q_nilCheck O)<|l_q O (qfa 2 O yU73 O O yS3)<|st O O O yS3 O ?_
 refine lz<|mv O O<|l_q O (q_nilCheck O)<|l_q O (qfa 2 O yU73 O O yS3)<|l_q O (qld O yA3) ?_
 refine mv O O<|l_q O (qadd O O) ?_
 refine l_q O (q_nilCheck O)<|l_q O (qfa 2 O yU73 O O yS3)<|st O O O yS3 O ?_
 refine lc<|t_seq<|t_draw mixed ?_
 apply dq 0 O
 ·exact yq (qlda O yA27 yS27)
 apply dq 1 O
 ·exact yq (q_move O)
 apply dq 2 O
 ·exact yq (q_nilCheck O)
 apply dq 3 O
 ·apply yq
  apply q_loadP (us := nodeC ((t.o : Nat) : Int) ((t.ps.length : Nat) : Int) ((tot (h + 1) t : Nat) : Int) (decide (h + 1 = 0)) (pad p0 7 (t.ps.set j up)) (pad 0 8 (t.ks.map BT.o))) rfl yA73 yS73
  ·exact tk
  ·exact Nat.le_of_eq (nodeC_len (pad_len (by rw [List.length_set]; exact h2)) (pad_len htk)).symm
  ·exact List.take_of_length_le (Nat.le_of_eq (nodeC_len (pad_len (by rw [List.length_set]; exact h2)) (pad_len htk)))
 refine d_eff1 [0, 3, 2, 1] [] 4 [(95, _), (98, _)] gO ⟨rfl, rfl, trivial⟩ (by kernel_rfl) (by kernel_rfl) fun Ex => ?_
 refine lcf O O O (writeN_ok pa offI s hl t.o t.ps.length (t.ps.set j up) (decide (h + 1 = 0)) (t.ks.map BT.o) (tot (h + 1) t) (List.length_set ..) (bl_bnd hs hto).2 hto h2 htk (fun k hk => by have := E.kid_o hs k hk; omega) (by omega) (fun p hp => by rcases set_mem hp with rfl | ⟨_, _, w⟩; exact hzb _ (List.mem_of_getElem? hup); exact hzt p (List.mem_of_getElem? w))) ?_
 rintro v L' ⟨m1, rfl, rfl, hN1, hO1⟩
 refine l_nm ?_
 refine l_nil ?_
 apply n_d
 ·exact trivial
 refine d_end (by kernel_rfl) ?_
 refine n_code<|t_seq<|t_draw mixed ?_
 apply dq 0 O
 ·exact yq (qlda O yA27 yS27)
 apply dq 1 O
 ·exact yq (q_move O)
 apply dq 2 O
 ·exact yq (q_nilCheck O)
 apply dq 3 O
 ·apply yq
  apply q_loadP (us := nodeC ((b.o : Nat) : Int) ((b.ps.length - 1 : Nat) : Int) ((tot h (rotR b c (pr t j)).1 : Nat) : Int) (decide (h = 0)) (pad p0 7 b.ps.dropLast) (pad 0 8 ((rotR b c (pr t j)).1.ks.map BT.o))) rfl yA73 yS73
  ·exact tk
  ·exact Nat.le_of_eq (nodeC_len (pad_len hbd7) (pad_len hbd8)).symm
  ·rw [← wb]; exact List.take_of_length_le (Nat.le_of_eq (nodeC_len (pad_len hbd7) (pad_len hbd8)))
 refine d_eff1 [0, 3, 2, 1] [] 4 [(100, _), (103, _)] gO ⟨rfl, rfl, trivial⟩ (by kernel_rfl) (by kernel_rfl) fun Ex => ?_
 refine lcf O O O (writeN_ok pa offI (wm s m1) hl b.o (b.ps.length - 1) b.ps.dropLast (decide (h = 0)) ((rotR b c (pr t j)).1.ks.map BT.o) (tot h (rotR b c (pr t j)).1) List.length_dropLast (bl_bnd hs hbo).2 hbo (by omega) hbd8 (fun k hk => by obtain ⟨x, hx, rfl⟩ := List.mem_map.1 hk; exact hkb x (rotR_sub x (.inl hx))) (by omega) (fun p hp => hzb p ((List.dropLast_sublist _).subset hp))) ?_
 rintro v L' ⟨m2, rfl, rfl, hN2, hO2⟩
 refine l_nm ?_
 refine l_nil ?_
 apply n_d
 ·exact trivial
 refine d_end (by kernel_rfl) ?_
 refine n_code<|t_draw mixed ?_
 apply dq 0 O
 ·exact yq (qlda O yA27 yS27)
 apply dq 1 O
 ·exact yq (q_move O)
 apply dq 2 O
 ·exact yq (q_nilCheck O)
 apply dq 3 O
 ·apply yq
  apply q_loadP (us := nodeC ((c.o : Nat) : Int) ((c.ps.length + 1 : Nat) : Int) ((tot h (rotR b c (pr t j)).2.2 : Nat) : Int) (decide (h = 0)) (pad p0 7 (pr t j :: c.ps)) (pad 0 8 ((rotR b c (pr t j)).2.2.ks.map BT.o))) rfl yA73 yS73
  ·exact tk
  ·exact Nat.le_of_eq (nodeC_len hcp (pad_len hcd8)).symm
  ·rw [← wc]; exact List.take_of_length_le (Nat.le_of_eq (nodeC_len hcp (pad_len hcd8)))
 refine d_eff1 [0, 3, 2, 1] [] 4 [(105, _), (108, _)] gO ⟨rfl, rfl, trivial⟩ (by kernel_rfl) (by kernel_rfl) fun Ex => ?_
 rw [wm_wm]
 refine lcf O O O (writeN_ok pa offI (wm s m2) hl c.o (c.ps.length + 1) (pr t j :: c.ps) (decide (h = 0)) ((rotR b c (pr t j)).2.2.ks.map BT.o) (tot h (rotR b c (pr t j)).2.2) List.length_cons (bl_bnd hs hco).2 hco (by omega) hcd8 (fun k hk => by obtain ⟨x, hx, rfl⟩ := List.mem_map.1 hk; exact hkb x (rotR_sub x (.inr hx))) (by omega) (fun p hp' => by rcases List.mem_cons.1 hp' with rfl | w; exact hzt _ (List.mem_of_getElem? hp); exact hzc p w)) ?_
 rintro v L' ⟨m3, rfl, rfl, hN3, hO3⟩
 refine l_nm ?_
 refine l_nil ?_
 apply n_d
 ·exact trivial
 refine d_end (by kernel_rfl) ?_
 rw [wm_wm]
 have hO3' : ∀ a, a < c.o ∨ c.o + nbN l ≤ a → m3 a = m2 a := hO3
 have hO2' : ∀ a, a < b.o ∨ b.o + nbN l ≤ a → m2 a = m1 a := hO2
 have hN1' : NodeM l m3 t.o (t.ps.set j up) false (t.ks.map BT.o) (tot (h + 1) t) := by
  rw [show decide (h + 1 = 0) = false from decide_eq_false (by omega)] at hN1
  exact hN1.same (by rw [List.length_set]; exact h2) htk fun a a1 a2 => by rw [hO3' a (by rcases dtc with w | w <;> omega), hO2' a (by rcases dtb with w | w <;> omega)]
 have hN2' := hN2.same hbd7 hbd8 fun a a1 a2 => (hO3 a (by rcases dbc with w | w <;> omega) : m3 a = m2 a)
 have hfin := turn_mem E hj (r := rotR b c (pr t j)) (by rw [← hbe]; rfl) (by rw [← hce]; rfl) (fun k hk => by rw [← hbe, ← hce]; exact rotR_sub k hk) (turn_lst E.h3 hj (by rw [← hbe, ← hce]; exact hRk)) (by rw [show (rotR b c (pr t j)).2.1 = up from hupe.symm]; exact hN1') (by rw [← hbe]; exact hN2') (by rw [← hce]; exact hN3) (fun a ha => by
  rw [← hbe, ← hce] at ha
  rw [hO3' a (ha _ (by simp)), hO2' a (ha _ (by simp)), hO1 a (ha _ (by simp))])
 apply f_ret (.inr rfl) ([arenaH pa (wm s m3)])
 ·exact res0 O
 ·exact ⟨m3, rfl, rfl, hfin⟩
 ·exact en
theorem fromRight_ok (hs : s.ok) (gn gc gd h j : Nat) (t c d : BT) (i : Nat) (E : NdP l s h t i) (hj : j < t.ps.length) (hce : c = kid t j) (hde : d = kid t (j + 1)) (hc : ok h 2 c) (hc3 : c.ps.length < 3) (hd : ok h 3 d) (hd3 : 3 < d.ps.length) :
  FnOk Try.prog 60 #[.agg #[.pointer (some ⟨pa, 0, none⟩), .int .i64 l.key, .int .i64 l.elem, .int .i64 l.ka, .int .i64 l.ea, .int .i64 l.cap, .int .i64 l.eo, .int .i64 l.bo, .int .i64 l.slot, .int .i64 l.group, .int .i64 offI], .pointer (some ⟨gn, 0, none⟩), .pointer (some ⟨gc, 0, none⟩), .pointer (some ⟨gd, 0, none⟩), .int .i64 ((j : Nat) : Int)] [pt gn (.cells (nodeT (h + 1) (t)).toArray 73 (0, 0)), pt gc (.cells (nodeT (h) (c)).toArray 73 (0, 0)), pt gd (.cells (nodeT (h) (d)).toArray 73 (0, 0)), arenaH pa s]
   (fun v L => ∃ m', v = .tuple #[] ∧ L = [arenaH pa (wm s m')] ∧ TreeM l m' (h + 1) (turnAt t j (rotL c d (pr t j))) ∧ ∀ a, Away l (offs (h + 1) t) a → m' a = s.m a) := by
 have hpi : ∃ i', Try.prog.info? 69 = some i' ∧ i'.size = 2 := by obtain ⟨i', z1, _, z2, _⟩ := yI69; exact ⟨i', z1, z2⟩
 have hii : ∃ i', Try.prog.info? 3 = some i' ∧ i'.size = 1 := by obtain ⟨i', z1, _, z2, _⟩ := yI3; exact ⟨i', z1, z2⟩
 have hnb := nb_bnd hl
 have hd7 := (ok_len hd).2
 have hc7 := (ok_len hc).2
 have hdk := ks_len hd
 have hck := ks_len hc
 have htk : (t.ks.map BT.o).length ≤ 8 := by have := E.h3; have := E.h2; rw [List.length_map]; omega
 have h2 := E.h2
 have SC : SubT l s (some (h, c)) := hce ▸ E.kidT (Nat.le_of_lt hj)
 have SD : SubT l s (some (h, d)) := hde ▸ E.kidT (show j + 1 ≤ t.ps.length by omega)
 obtain ⟨c1, c2, c3, c4, cz, c6⟩ := SC _ _ rfl
 obtain ⟨d1, d2, d3, d4, dz, d6⟩ := SD _ _ rfl
 obtain ⟨w1, w2⟩ := rotL_tot (s := pr t j) hc hc3 hd hd3
 have hM : (nxt h d 0).L.length ≤ 1000000000 := by have := w2; unfold tot at this; omega
 obtain ⟨M, hMe⟩ : ∃ M, M = 1 + (nxt h d 0).L.length := ⟨_, rfl⟩
 rw [← hMe] at w1 w2
 have hdt : tot h d ≤ 1000000000 := d6
 have hct : tot h c ≤ 1000000000 := c6
 have htt : tot (h + 1) t ≤ 1000000000 := E.len
 have hp := pr_at hj
 obtain ⟨up, q, hdp⟩ : ∃ up q, d.ps = up :: q := by
  cases e : d.ps with
  | nil => rw [e] at hd3; simp at hd3
  | cons a r => exact ⟨a, r, rfl⟩
 have hql : d.ps.length = q.length + 1 := by rw [hdp]; rfl
 have hup : d.ps[0]? = some up := by rw [hdp]; rfl
 have hRk := rotL_law (pr t j) hc hc3 hd hd3
 have hr1 : (rotL c d (pr t j)).1.ks = c.ks ++ d.ks.head?.toList := rfl
 have hr2 : (rotL c d (pr t j)).2.2.ks = d.ks.tail := rfl
 have hcd8 : ((rotL c d (pr t j)).1.ks.map BT.o).length ≤ 8 := ks_len hRk.ok1
 have hdd8 : ((rotL c d (pr t j)).2.2.ks.map BT.o).length ≤ 8 := ks_len hRk.ok2
 have hKc : (layA (pad 0 8 (c.ks.map BT.o)) (c.ps.length + 2) (((pad 0 8 (c.ks.map BT.o)).drop (c.ps.length + 1)).take (c.ps.length - c.ps.length))).set (c.ps.length + 1) (TX.root (nxt h d 0)) = pad 0 8 ((rotL c d (pr t j)).1.ks.map BT.o) := by
  rw [hr1]
  cases h with
  | zero =>
   rw [hc.2.2, hd.2.2]
   exact kids_put0 (by omega) (Nat.le_refl _)
  | succ g =>
   have hne : 0 < d.ks.length := by have := hd.2.2.1; omega
   rw [show d.ks.head? = some (kid d 0) by rw [List.head?_eq_getElem?, kid_at hne], kids_put (by rw [List.length_map]; exact hc.2.2.1) (by omega) (Nat.le_refl _), ins_end (by rw [List.length_map]; exact hc.2.2.1), List.map_append]
   rfl
 have hKd : (layA (pad 0 8 (d.ks.map BT.o)) 0 ((pad 0 8 (d.ks.map BT.o)).drop 1)).set q.length.succ 0 = pad 0 8 ((rotL c d (pr t j)).2.2.ks.map BT.o) := by
  rw [hr2]
  cases h with
  | zero => rw [hd.2.2]; exact tail_zero
  | succ g =>
   have hkl := hd.2.2.1
   cases e : d.ks with
   | nil => rw [e] at hkl; simp at hkl
   | cons x r =>
    rw [e] at hkl
    simp only [List.length_cons] at hkl
    rw [show q.length.succ = (r.map BT.o).length by rw [List.length_map]; omega]
    exact tail_pad (by rw [List.length_map]; omega)
 have hPd : (layA (pad p0 7 d.ps) 0 ((pad p0 7 d.ps).drop 1)).set q.length p0 = pad p0 7 q := by
  rw [hdp]
  exact tail_pad (by omega)
 have hP7 := pad_len (a := p0) hd7
 have hK8 := pad_len (a := 0) hdk
 have hLK : (layA (pad 0 8 (d.ks.map BT.o)) 0 ((pad 0 8 (d.ks.map BT.o)).drop 1)).length = 8 := by rw [layA_len (by rw [List.length_drop]; omega)]; exact hK8
 have hLP : (layA (pad p0 7 d.ps) 0 ((pad p0 7 d.ps).drop 1)).length = 7 := by rw [layA_len (by rw [List.length_drop]; omega)]; exact hP7
 have hcp7 : (pad p0 7 (c.ps ++ [pr t j])).length = 7 := pad_len (by simp; omega)
 have wd : ((tot h d : Nat) : Int) - ((M : Nat) : Int) = ((tot h (rotL c d (pr t j)).2.2 : Nat) : Int) := by omega
 have wc : ((tot h c : Nat) : Int) + ((M : Nat) : Int) = ((tot h (rotL c d (pr t j)).1 : Nat) : Int) := by omega
 have hq7 : (pad p0 7 q).length = 7 := pad_len (by omega)
 have wq : ((d.ps.length : Nat) : Int) - 1 = ((q.length : Nat) : Int) := by omega
 have eq1 : (((q.length : Nat) : Int)).toNat = q.length := Int.toNat_natCast _
 have eq2 : (((q.length : Nat) : Int) + 1).toNat = q.length.succ := by omega
 refine fn_intro en60 Try.func60 rfl rfl rfl fun Fr w0 => t_nm ?_
 refine sr<|o_boxA O O fun b5 => lz<|mv O O<|l_q O (q_nilCheck O)<|l_q O (qfa 18 O yU73 O O yS71)<|l_q O (q_indexAddrA O O yU71 yS3 (by omega)) ?_
 apply l_q O
 ·apply q_loadP1 (v := .int .i64 ((TX.root (nxt h d 0) : Nat) : Int)) rfl yA3
  ·exact tk
  ·exact pkV_kid _ _ _ _ (pad_len hd7) (nxt_root d1 (Nat.zero_le _))
 refine asg O O<|lz<|asg O O<|lc<|t_seq<|sr<|mv O O<|l_q O (q_nilCheck O)<|l_q O (qfa 3 O yU73 O O yS4)<|l_q O (qld O yA4) ?_
 refine l_q O (q_un O (u_not ·))<|lc ?_
 apply t_cut (p := (fun _ : Unit => True)) (EE := (fun _ => [(1, .pointer (some ⟨gn, 0, none⟩)), (2, .pointer (some ⟨gc, 0, none⟩)), (3, .pointer (some ⟨gd, 0, none⟩)), (4, .int .i64 ((j : Nat) : Int)), (5, .pointer (some ⟨b5, 0, none⟩)), (10, .int .i64 ((TX.root (nxt h d 0) : Nat) : Int)), (11, .int .i64 ((M : Nat) : Int))])) (LL := (fun _ => pt b5 (.cells #[.pointer (some ⟨pa, 0, none⟩), .int .i64 l.key, .int .i64 l.elem, .int .i64 l.ka, .int .i64 l.ea, .int .i64 l.cap, .int .i64 l.eo, .int .i64 l.bo, .int .i64 l.slot, .int .i64 l.group, .int .i64 offI] 27 (0, 0)) :: pt gn (.cells (nodeT (h + 1) (t)).toArray 73 (0, 0)) :: pt gc (.cells (nodeT (h) (c)).toArray 73 (0, 0)) :: pt gd (.cells (nodeT (h) (d)).toArray 73 (0, 0)) :: arenaH pa s :: Fr))
 refine t_if O (fun c0 => ?_) fun c0 => ?_
 ·have hh : h ≠ 0 := by simpa using c0
  refine t_region<|mv O O<|l_q O (qlda O yA27 yS27) ?_
  refine mv O O ?_
  obtain ⟨g, rfl⟩ : ∃ g, h = g + 1 := ⟨h - 1, by omega⟩
  have htk2 : tot g (kid d 0) ≤ 1000000000 := hM
  refine lc1 O O O (totalK_ok pa s offI hl hs SD (j := 0) (by have := hd.2.2.1; omega)) ?_
  refine l_q O (qadd O O) ?_
  refine asg O O<|l_nil ?_
  rw [show (1 : Int) + ((tot g (kid d 0) : Nat) : Int) = ((M : Nat) : Int) by rw [hMe]; show (1 : Int) + (((lst g (kid d 0)).length : Nat) : Int) = ((1 + (lst g (kid d 0)).length : Nat) : Int); omega]
  apply n_join (())
  ·exact trivial
  ·exact ⟨O, O, O, O, O, O, O, trivial⟩
  ·exact en
 ·have hh : h = 0 := by simpa using c0
  refine t_skip ?_
  obtain rfl : M = 1 := by rw [hMe, hh]; rfl
  apply n_join (())
  ·exact trivial
  ·exact ⟨O, O, O, O, O, O, O, trivial⟩
  ·exact en
 rintro _ -
 try dsimp only
 refine n_nm ?_
 refine n_code<|t_seq<|t_draw mixed ?_
 apply dq 0 O
 ·exact yq (q_move O)
 apply dq 1 O
 ·exact yq (q_move O)
 apply dq 2 O
 ·exact yq (q_nilCheck O)
 apply dq 3 O
 ·exact yq (qfa 1 O yU73 O O yS3)
 apply dq 4 O
 ·exact yq (qld O yA3)
 apply dq 5 O
 ·exact yq (q_move O)
 apply dq 6 O
 ·exact yq (q_move O)
 apply dq 7 O
 ·exact yq (q_nilCheck O)
 apply dq 8 O
 ·exact yq (qfa 4 O yU73 O O yS70)
 apply dq 9 O
 ·exact yq (q_indexAddrA O O yU70 yS69 (by omega))
 apply dq 10 O
 ·apply yq
  apply q_loadP (us := [.string (pr t j).1, .string (pr t j).2]) rfl yA69 yS69
  ·exact tk
  ·rw [nodeC_len (pad_len h2) (pad_len htk)]; omega
  ·rw [Int.toNat_natCast]; exact pkV_pair _ _ _ _ (by rw [pad_at h2 hj]; exact hp)
 apply dq 11 O
 ·exact yq (q_move O)
 refine d_eff1 [0, 4, 10, 11, 3, 9, 2, 8, 6, 1, 7, 5] [] 12 [(27, _), (31, _), (37, _), (38, _)] gO ⟨rfl, rfl, rfl, rfl, trivial⟩ (by kernel_rfl) (by kernel_rfl) fun Ex => ?_
 refine lc1 O O O (NPut_ok gc c.ps.length c.ps.length (.int .i64 ((c.o : Nat) : Int)) (.int .i64 ((tot h c : Nat) : Int)) (.bool (decide (h = 0))) c.ps (c.ks.map BT.o) (pr t j) (TX.root (nxt h d 0)) rfl (by omega) hck (Nat.le_refl _)) ?_
 rw [ins_end rfl, hKc]
 refine l_nil ?_
 apply n_d
 ·exact trivial
 refine d_end (by kernel_rfl) ?_
 refine n_code<|t_seq<|t_draw mixed ?_
 apply dq 0 O
 ·exact yq (q_move O)
 apply dq 1 O
 ·exact yq (q_move O)
 apply dq 2 O
 ·exact yq (q_move O)
 apply dq 3 O
 ·exact yq (q_nilCheck O)
 apply dq 4 O
 ·exact yq (qfa 4 O yU73 O O yS70)
 apply dq 5 O
 ·exact yq (q_indexAddrA O O yU70 yS69 (by omega))
 apply dq 6 O
 ·apply yq
  apply q_loadP (us := [.string (up).1, .string (up).2]) rfl yA69 yS69
  ·exact tk
  ·rw [nodeT_len hd]; decide
  ·exact pkV_pair _ _ _ _ (i := 0) (by rw [pad_at hd7 (by omega)]; exact hup)
 apply dq 7 O
 ·exact yq (q_nilCheck O)
 apply dq 8 O
 ·exact yq (qfa 4 O yU73 O O yS70)
 apply dq 9 O
 ·exact yq (q_indexAddrA O O yU70 yS69 (by omega))
 refine d_eff1 [9, 6, 0, 1, 2, 3, 4, 5, 8, 7] [] 10 [(49, _), (46, _)] gO ⟨rfl, rfl, trivial⟩ (by kernel_rfl) (by kernel_rfl) fun Ex => ?_
 apply o_storeP (us := prV up) (xs' := nodeC ((t.o : Nat) : Int) ((t.ps.length : Nat) : Int) ((tot (h + 1) t : Nat) : Int) (decide (h + 1 = 0)) (pad p0 7 (t.ps.set j up)) (pad 0 8 (t.ks.map BT.o))) rfl rfl rfl yS69 rfl rfl
 ·exact tk
 ·rw [Int.toNat_natCast, nodeC_len (pad_len h2) (pad_len htk), prV_len]; omega
 ·rw [Int.toNat_natCast, lay_pair _ _ _ _ (by rw [pad_len h2]; omega), pad_set h2 hj]
 refine l_nil ?_
 apply n_d
 ·exact trivial
 refine d_end (by kernel_rfl) ?_
 refine n_code<|t_seq<|t_draw mixed ?_
 apply dq 0 O
 ·exact yq (q_move O)
 apply dq 1 O
 ·exact yq (q_nilCheck O)
 apply dq 2 O
 ·exact yq (qfa 18 O yU73 O O yS71)
 apply dq 3 O
 ·exact yq (q_sliceA rfl yU71 yS3)
 apply dq 4 O
 ·exact yq (q_move O)
 apply dq 5 O
 ·exact yq (q_nilCheck O)
 apply dq 6 O
 ·exact yq (qfa 18 O yU73 O O yS71)
 apply dq 7 O
 ·exact yq (q_sliceA_l rfl rfl yU71 yS3 (by omega))
 refine d_eff1 [3, 7, 2, 6, 1, 5, 0, 4] [] 8 [(53, _), (57, _)] gO ⟨rfl, rfl, trivial⟩ (by kernel_rfl) (by kernel_rfl) fun Ex => ?_
 apply o_copyP (((pad 0 8 (d.ks.map BT.o)).drop 1).map kV) (xs' := nodeC ((d.o : Nat) : Int) ((d.ps.length : Nat) : Int) ((tot h d : Nat) : Int) (decide (h = 0)) (pad p0 7 d.ps) (layA (pad 0 8 (d.ks.map BT.o)) 0 ((pad 0 8 (d.ks.map BT.o)).drop 1))) rfl rfl rfl Try.underlying28 hii
 ·exact tk
 ·rw [List.length_map, List.length_drop, hK8]; rfl
 ·rw [show (pad 0 8 (d.ks.map BT.o)).drop 1 = ((pad 0 8 (d.ks.map BT.o)).drop 1).take 7 by rw [List.take_of_length_le (by rw [List.length_drop]; omega)]]; exact (show Reads _ ⟨gd, tailN 1 18 1 8, none⟩ _ from reads_kidsT _ _ _ _ hP7 hK8 (by omega) tk)
 ·exact (show tailN 1 18 0 8 + _ ≤ _ from fit_kids _ _ _ _ hP7 hK8 (by rw [List.length_drop]; omega))
 ·exact kidV_one _
 ·exact (show lay _ (tailN 1 18 0 8) _ = _ from lay_kidsT _ _ _ _ hP7 hK8 (by rw [List.length_drop]; omega))
 refine l_nil ?_
 apply n_d
 ·exact trivial
 refine d_end (by kernel_rfl) ?_
 refine n_code<|t_seq<|t_draw mixed ?_
 apply dq 0 O
 ·exact yq (q_move O)
 apply dq 1 O
 ·exact yq (q_nilCheck O)
 apply dq 2 O
 ·exact yq (qfa 4 O yU73 O O yS70)
 apply dq 3 O
 ·exact yq (q_sliceA rfl yU70 yS69)
 apply dq 4 O
 ·exact yq (q_move O)
 apply dq 5 O
 ·exact yq (q_nilCheck O)
 apply dq 6 O
 ·exact yq (qfa 4 O yU73 O O yS70)
 apply dq 7 O
 ·exact yq (q_sliceA_l rfl rfl yU70 yS69 (by omega))
 refine d_eff1 [3, 7, 2, 6, 1, 5, 0, 4] [] 8 [(62, _), (66, _)] gO ⟨rfl, rfl, trivial⟩ (by kernel_rfl) (by kernel_rfl) fun Ex => ?_
 apply o_copyP (rowOf prV ((pad p0 7 d.ps).drop 1)) (xs' := nodeC ((d.o : Nat) : Int) ((d.ps.length : Nat) : Int) ((tot h d : Nat) : Int) (decide (h = 0)) (layA (pad p0 7 d.ps) 0 ((pad p0 7 d.ps).drop 1)) (layA (pad 0 8 (d.ks.map BT.o)) 0 ((pad 0 8 (d.ks.map BT.o)).drop 1))) rfl rfl rfl Try.underlying120 hpi
 ·exact tk
 ·rw [row_len, List.length_drop, hP7]; rfl
 ·rw [show (pad p0 7 d.ps).drop 1 = ((pad p0 7 d.ps).drop 1).take 6 by rw [List.take_of_length_le (by rw [List.length_drop]; omega)]]; exact (show Reads _ ⟨gd, tailN 2 4 1 7, none⟩ _ from reads_pairsT _ _ _ _ hP7 (by omega) tk)
 ·exact (show tailN 2 4 0 7 + _ ≤ _ from fit_pairs _ _ _ _ hP7 (by rw [List.length_drop]; omega))
 ·exact rowV_one _
 ·exact (show lay _ (tailN 2 4 0 7) _ = _ from lay_pairsT _ _ _ _ hP7 (by rw [List.length_drop]; omega))
 refine l_nil ?_
 apply n_d
 ·exact trivial
 refine d_end (by kernel_rfl) ?_
 refine nz<|mv O O<|l_q O (q_nilCheck O)<|l_q O (qfa 1 O yU73 O O yS3)<|l_q O (qld O yA3) ?_
 refine l_q O (qsub O O) ?_
 refine l_q O (q_nilCheck O)<|l_q O (qfa 1 O yU73 O O yS3)<|st O O O yS3 O ?_
 refine lc<|t_seq<|t_draw mixed ?_
 apply dq 0 O
 ·exact yq (q_move O)
 apply dq 1 O
 ·exact yq (q_move O)
 apply dq 2 O
 ·exact yq (q_nilCheck O)
 apply dq 3 O
 ·exact yq (qfa 1 O yU73 O O yS3)
 apply dq 4 O
 ·exact yq (qld O yA3)
 apply dq 5 O
 ·apply yq
  apply q_buildS O yP69 yZ69
  ·exact FillR.nil
 apply dq 6 O
 ·exact yq (q_nilCheck O)
 apply dq 7 O
 ·exact yq (qfa 4 O yU73 O O yS70)
 apply dq 8 O
 ·exact yq (q_indexAddrA O O yU70 yS69 (by omega))
 refine d_eff1 [8, 5, 0, 1, 2, 3, 4, 7, 6] [] 9 [(83, _), (80, _)] gO ⟨rfl, rfl, trivial⟩ (by kernel_rfl) (by kernel_rfl) fun Ex => ?_
 apply o_storeP (us := prV p0) (xs' := nodeC ((d.o : Nat) : Int) ((q.length : Nat) : Int) ((tot h d : Nat) : Int) (decide (h = 0)) (pad p0 7 q) (layA (pad 0 8 (d.ks.map BT.o)) 0 ((pad 0 8 (d.ks.map BT.o)).drop 1))) rfl rfl rfl yS69 rfl rfl
 ·exact tk
 ·rw [nodeC_len hLP hLK, prV_len, wq, eq1]; omega
 ·rw [wq, eq1, lay_pair _ _ _ _ (by omega), hPd]
 refine l_nil ?_
 apply n_d
 ·exact trivial
 refine d_end (by kernel_rfl) ?_
 refine n_code<|t_seq<|t_draw mixed ?_
 apply dq 0 O
 ·exact yq (q_move O)
 apply dq 1 O
 ·exact yq (q_move O)
 apply dq 2 O
 ·exact yq (q_nilCheck O)
 apply dq 3 O
 ·exact yq (qfa 1 O yU73 O O yS3)
 apply dq 4 O
 ·exact yq (qld O yA3)
 apply dq 5 O
 ·exact yq (qadd O O)
 apply dq 6 O
 ·exact yq (q_nilCheck O)
 apply dq 7 O
 ·exact yq (qfa 18 O yU73 O O yS71)
 apply dq 8 O
 ·exact yq (q_indexAddrA O O yU71 yS3 (by omega))
 refine d_eff1 [8, 0, 1, 2, 3, 4, 5, 7, 6] [] 9 [(92, _)] gO ⟨rfl, trivial⟩ (by kernel_rfl) (by kernel_rfl) fun Ex => ?_
 apply o_storeP1 (v := kV 0) (xs' := nodeC ((d.o : Nat) : Int) ((q.length : Nat) : Int) ((tot h d : Nat) : Int) (decide (h = 0)) (pad p0 7 q) (pad 0 8 ((rotL c d (pr t j)).2.2.ks.map BT.o))) rfl rfl rfl yS3 rfl
 ·exact tk
 ·rw [nodeC_len hq7 hLK, eq2]; omega
 ·rw [eq2, Nat.mul_one, set_kid _ _ _ _ hq7, hKd]
 refine l_nil ?_
 apply n_d
 ·exact trivial
 refine d_end (by kernel_rfl) ?_
 refine nz<|mv O O<|l_q O (q_nilCheck O)<|l_q O (qfa 2 O yU73 O O yS3)<|l_q O (qld O yA3) ?_
 refine mv O O<|l_q O (qsub O O) ?_
 refine l_q O (q_nilCheck O)<|l_q O (qfa 2 O yU73 O O yS3)<|st O O O yS3 O ?_
 refine lz<|mv O O<|l_q O (q_nilCheck O)<|l_q O (qfa 2 O yU73 O O yS3)<|l_q O (qld O yA3) ?_
 refine mv O O<|l_q O (qadd O O) ?_
 refine l_q O (q_nilCheck O)<|l_q O (qfa 2 O yU73 O O yS3)<|st O O O yS3 O ?_
 refine lc<|t_seq<|t_draw mixed ?_
 apply dq 0 O
 ·exact yq (qlda O yA27 yS27)
 apply dq 1 O
 ·exact yq (q_move O)
 apply dq 2 O
 ·exact yq (q_nilCheck O)
 apply dq 3 O
 ·apply yq
  apply q_loadP (us := nodeC ((t.o : Nat) : Int) ((t.ps.length : Nat) : Int) ((tot (h + 1) t : Nat) : Int) (decide (h + 1 = 0)) (pad p0 7 (t.ps.set j up)) (pad 0 8 (t.ks.map BT.o))) rfl yA73 yS73
  ·exact tk
  ·exact Nat.le_of_eq (nodeC_len (pad_len (by rw [List.length_set]; exact h2)) (pad_len htk)).symm
  ·exact List.take_of_length_le (Nat.le_of_eq (nodeC_len (pad_len (by rw [List.length_set]; exact h2)) (pad_len htk)))
 refine d_eff1 [0, 3, 2, 1] [] 4 [(109, _), (112, _)] gO ⟨rfl, rfl, trivial⟩ (by kernel_rfl) (by kernel_rfl) fun Ex => ?_
 have hto := E.own_bl
 have hco : blkN l c.o ∈ s.bl := by rw [hce]; exact E.kid_bl (Nat.le_of_lt hj)
 have hdo : blkN l d.o ∈ s.bl := by rw [hde]; exact E.kid_bl (show j + 1 ≤ t.ps.length by omega)
 have hkb : ∀ k, k ∈ c.ks ∨ k ∈ d.ks → k.o < 9223372036854775808 := fun k hk => by
  rcases hk with w | w
  ·exact kids_o hs SC _ (List.mem_map.2 ⟨k, w, rfl⟩)
  ·exact kids_o hs SD _ (List.mem_map.2 ⟨k, w, rfl⟩)
 have hzd : ∀ p ∈ d.ps, szs l p := fun p hp => dz p (ps_mem d1 p hp)
 have hzc : ∀ p ∈ c.ps, szs l p := fun p hp => cz p (ps_mem c1 p hp)
 have hzt : ∀ p ∈ t.ps, szs l p := fun p hp => E.sz p (E.ps_mem p hp)
 obtain ⟨e1, e2⟩ := E.dj
 have dtc : Dj l t.o c.o := by rw [hce]; exact e1 j (Nat.le_of_lt hj)
 have dtd : Dj l t.o d.o := by rw [hde]; exact e1 (j + 1) hj
 have dcd : Dj l c.o d.o := by rw [hce, hde]; exact e2 j (j + 1) (Nat.le_of_lt hj) hj (by omega)
 have hcl : (c.ps ++ [pr t j]).length = c.ps.length + 1 := by simp
 refine lcf O O O (writeN_ok pa offI s hl t.o t.ps.length (t.ps.set j up) (decide (h + 1 = 0)) (t.ks.map BT.o) (tot (h + 1) t) (List.length_set ..) (bl_bnd hs hto).2 hto h2 htk (fun k hk => by have := E.kid_o hs k hk; omega) (by omega) (fun p hp => by rcases set_mem hp with rfl | ⟨_, _, w⟩; exact hzd _ (List.mem_of_getElem? hup); exact hzt p (List.mem_of_getElem? w))) ?_
 rintro v L' ⟨m1, rfl, rfl, hN1, hO1⟩
 refine l_nm ?_
 refine l_nil ?_
 apply n_d
 ·exact trivial
 refine d_end (by kernel_rfl) ?_
 refine n_code<|t_seq<|t_draw mixed ?_
 apply dq 0 O
 ·exact yq (qlda O yA27 yS27)
 apply dq 1 O
 ·exact yq (q_move O)
 apply dq 2 O
 ·exact yq (q_nilCheck O)
 apply dq 3 O
 ·apply yq
  apply q_loadP (us := nodeC ((c.o : Nat) : Int) ((c.ps.length + 1 : Nat) : Int) ((tot h (rotL c d (pr t j)).1 : Nat) : Int) (decide (h = 0)) (pad p0 7 (c.ps ++ [pr t j])) (pad 0 8 ((rotL c d (pr t j)).1.ks.map BT.o))) rfl yA73 yS73
  ·exact tk
  ·exact Nat.le_of_eq (nodeC_len hcp7 (pad_len hcd8)).symm
  ·rw [← wc]; exact List.take_of_length_le (Nat.le_of_eq (nodeC_len hcp7 (pad_len hcd8)))
 refine d_eff1 [0, 3, 2, 1] [] 4 [(114, _), (117, _)] gO ⟨rfl, rfl, trivial⟩ (by kernel_rfl) (by kernel_rfl) fun Ex => ?_
 refine lcf O O O (writeN_ok pa offI (wm s m1) hl c.o (c.ps.length + 1) (c.ps ++ [pr t j]) (decide (h = 0)) ((rotL c d (pr t j)).1.ks.map BT.o) (tot h (rotL c d (pr t j)).1) hcl (bl_bnd hs hco).2 hco (by omega) hcd8 (fun k hk => by obtain ⟨x, hx, rfl⟩ := List.mem_map.1 hk; exact hkb x (rotL_sub x (.inl hx))) (by omega) (fun p hp' => by rcases List.mem_append.1 hp' with w | w; exact hzc p w; rw [List.mem_singleton.1 w]; exact hzt _ (List.mem_of_getElem? hp))) ?_
 rintro v L' ⟨m2, rfl, rfl, hN2, hO2⟩
 refine l_nm ?_
 refine l_nil ?_
 apply n_d
 ·exact trivial
 refine d_end (by kernel_rfl) ?_
 refine n_code<|t_draw mixed ?_
 apply dq 0 O
 ·exact yq (qlda O yA27 yS27)
 apply dq 1 O
 ·exact yq (q_move O)
 apply dq 2 O
 ·exact yq (q_nilCheck O)
 apply dq 3 O
 ·apply yq
  apply q_loadP (us := nodeC ((d.o : Nat) : Int) ((q.length : Nat) : Int) ((tot h (rotL c d (pr t j)).2.2 : Nat) : Int) (decide (h = 0)) (pad p0 7 q) (pad 0 8 ((rotL c d (pr t j)).2.2.ks.map BT.o))) rfl yA73 yS73
  ·exact tk
  ·exact Nat.le_of_eq (nodeC_len hq7 (pad_len hdd8)).symm
  ·rw [← wd]; exact List.take_of_length_le (Nat.le_of_eq (nodeC_len hq7 (pad_len hdd8)))
 refine d_eff1 [0, 3, 2, 1] [] 4 [(119, _), (122, _)] gO ⟨rfl, rfl, trivial⟩ (by kernel_rfl) (by kernel_rfl) fun Ex => ?_
 rw [wm_wm]
 refine lcf O O O (writeN_ok pa offI (wm s m2) hl d.o q.length q (decide (h = 0)) ((rotL c d (pr t j)).2.2.ks.map BT.o) (tot h (rotL c d (pr t j)).2.2) rfl (bl_bnd hs hdo).2 hdo (by omega) hdd8 (fun k hk => by obtain ⟨x, hx, rfl⟩ := List.mem_map.1 hk; exact hkb x (rotL_sub x (.inr hx))) (by omega) (fun p hp => hzd p (by rw [hdp]; exact List.mem_cons_of_mem _ hp))) ?_
 rintro v L' ⟨m3, rfl, rfl, hN3, hO3⟩
 refine l_nm ?_
 refine l_nil ?_
 apply n_d
 ·exact trivial
 refine d_end (by kernel_rfl) ?_
 rw [wm_wm]
 have hO3' : ∀ a, a < d.o ∨ d.o + nbN l ≤ a → m3 a = m2 a := hO3
 have hO2' : ∀ a, a < c.o ∨ c.o + nbN l ≤ a → m2 a = m1 a := hO2
 have hN1' : NodeM l m3 t.o (t.ps.set j up) false (t.ks.map BT.o) (tot (h + 1) t) := by
  rw [show decide (h + 1 = 0) = false from decide_eq_false (by omega)] at hN1
  exact hN1.same (by rw [List.length_set]; exact h2) htk fun a a1 a2 => by rw [hO3' a (by rcases dtd with w | w <;> omega), hO2' a (by rcases dtc with w | w <;> omega)]
 have hN2' := hN2.same (by rw [hcl]; omega) hcd8 fun a a1 a2 => (hO3 a (by rcases dcd with w | w <;> omega) : m3 a = m2 a)
 have hup' : d.ps.headD default = up := by rw [hdp]; rfl
 have hq' : (rotL c d (pr t j)).2.2.ps = q := by show d.ps.tail = q; rw [hdp]; rfl
 have hfin := turn_mem E hj (r := rotL c d (pr t j)) (by rw [← hce]; rfl) (by rw [← hde]; rfl) (fun k hk => by rw [← hce, ← hde]; exact rotL_sub k hk) (turn_lst E.h3 hj (by rw [← hce, ← hde]; exact hRk)) (by rw [show (rotL c d (pr t j)).2.1 = up from hup']; exact hN1') (by rw [← hce]; exact hN2') (by rw [← hde, hq']; exact hN3) (fun a ha => by
  rw [← hce, ← hde] at ha
  rw [hO3' a (ha _ (by simp)), hO2' a (ha _ (by simp)), hO1 a (ha _ (by simp))])
 apply f_ret (.inr rfl) ([arenaH pa (wm s m3)])
 ·exact res0 O
 ·exact ⟨m3, rfl, rfl, hfin⟩
 ·exact en
theorem join_ok (hs : s.ok) (ph h j : Nat) (t c d : BT) (i : Nat) (u0 u1 u2 : Int) (nn : Nat) (hnn : 1 ≤ nn) (hnb1 : nn ≤ 1000000000) (E : NdP l s h t i) (hj : j < t.ps.length) (hce : c = kid t j) (hde : d = kid t (j + 1)) (hc : ok h 2 c) (hd : ok h 2 d) (hcd : c.ps.length + d.ps.length ≤ 6) :
  FnOk Try.prog 61 #[.agg #[.pointer (some ⟨pa, 0, none⟩), .int .i64 l.key, .int .i64 l.elem, .int .i64 l.ka, .int .i64 l.ea, .int .i64 l.cap, .int .i64 l.eo, .int .i64 l.bo, .int .i64 l.slot, .int .i64 l.group, .int .i64 offI], .pointer (some ⟨ph, 0, none⟩), .agg (nodeT (h + 1) t).toArray, .agg (nodeT h c).toArray, .agg (nodeT h d).toArray, .int .i64 ((j : Nat) : Int)] [pt ph (.cells #[.int .i64 u0, .int .i64 u1, .int .i64 u2, .int .i64 (((nn : Nat) : Int))] 57 (0, 0)), arenaH pa s]
   (fun v L => ∃ m', v = .tuple #[] ∧ L = [pt ph (.cells #[.int .i64 u0, .int .i64 u1, .int .i64 u2, .int .i64 (((nn - 1 : Nat) : Int))] 57 (0, 0)), arenaH pa (wm (s.gives [((d.o : Nat) : Int)]) m')] ∧ TreeM l m' (h + 1) (joinAt t j) ∧ ∀ a, Away l (offs (h + 1) t) a → m' a = s.m a) := by
 have hnb := nb_bnd hl
 have hd7 := (ok_len hd).2
 have hc7 := (ok_len hc).2
 have hdk := ks_len hd
 have hck := ks_len hc
 have htk : (t.ks.map BT.o).length ≤ 8 := by have := E.h3; have := E.h2; rw [List.length_map]; omega
 have htk9 : (t.ks.map BT.o).length = t.ps.length + 1 := by rw [List.length_map]; exact E.h3
 have h2 := E.h2
 have SC : SubT l s (some (h, c)) := hce ▸ E.kidT (Nat.le_of_lt hj)
 have SD : SubT l s (some (h, d)) := hde ▸ E.kidT (show j + 1 ≤ t.ps.length by omega)
 obtain ⟨c1, c2, c3, c4, cz, c6⟩ := SC _ _ rfl
 obtain ⟨d1, d2, d3, d4, dz, d6⟩ := SD _ _ rfl
 have hdt : tot h d ≤ 1000000000 := d6
 have hct : tot h c ≤ 1000000000 := c6
 have htt : tot (h + 1) t ≤ 1000000000 := E.len
 have hp := pr_at hj
 obtain ⟨jl, jok, _⟩ := join_law (pr t j) hc hd hcd
 have hjt : tot h (joinB c d (pr t j)) = tot h c + (1 + tot h d) := by unfold tot; rw [jl]; simp; omega
 have hjb : tot h c + (1 + tot h d) ≤ 1000000000 := by
  have := two_le (h := h) E.h3 hj
  rw [← hce, ← hde] at this
  omega
 have hjl : (joinB c d (pr t j)).ps.length = c.ps.length + d.ps.length + 1 := by show (c.ps ++ pr t j :: d.ps).length = _; simp; omega
 have hj7 := (ok_len jok).2
 have hj8 : ((joinB c d (pr t j)).ks.map BT.o).length ≤ 8 := ks_len jok
 have ht7 : (t.ps.eraseIdx j).length = t.ps.length - 1 := List.length_eraseIdx_of_lt hj
 have ht8 : ((t.ks.map BT.o).eraseIdx (j + 1)).length ≤ 8 := by rw [List.length_eraseIdx_of_lt (by omega)]; omega
 have wj : ((tot h c : Nat) : Int) + (1 + ((tot h d : Nat) : Int)) = ((tot h (joinB c d (pr t j)) : Nat) : Int) := by rw [hjt]; omega
 refine fn_intro en61 Try.func61 rfl rfl rfl fun Fr w0 => t_nm ?_
 refine sr<|o_boxA O O fun b6 => o_boxA O O fun b8 => o_boxA O O fun b9 => o_boxA O O fun b10 => lc<|t_seq<|t_draw mixed ?_
 apply dq 0 O
 ·exact yq (qfa 1 O yU73 O O yS3)
 apply dq 1 O
 ·exact yq (qld O yA3)
 apply dq 2 O
 ·exact yq (q_move O)
 apply dq 3 O
 ·exact yq (qfa 4 O yU73 O O yS70)
 apply dq 4 O
 ·exact yq (q_indexAddrA O O yU70 yS69 (by omega))
 apply dq 5 O
 ·apply yq
  apply q_loadP (us := [.string (pr t j).1, .string (pr t j).2]) rfl yA69 yS69
  ·exact tk
  ·rw [nodeC_len (pad_len h2) (pad_len htk)]; omega
  ·rw [Int.toNat_natCast]; exact pkV_pair _ _ _ _ (by rw [pad_at h2 hj]; exact hp)
 apply dq 6 O
 ·exact yq (qfa 18 O yU73 O O yS71)
 apply dq 7 O
 ·exact yq (q_indexAddrA O O yU71 yS3 (by omega))
 apply dq 8 O
 ·apply yq
  apply q_loadP1 (v := .int .i64 ((TX.root (nxt h d 0) : Nat) : Int)) rfl yA3
  ·exact tk
  ·exact pkV_kid _ _ _ _ (pad_len hd7) (nxt_root d1 (Nat.zero_le _))
 refine d_eff1 [1, 5, 8, 0, 4, 7, 3, 2, 6] [] 9 [(9, _), (14, _), (18, _), (21, _)] gO ⟨rfl, rfl, rfl, rfl, trivial⟩ (by kernel_rfl) (by kernel_rfl) fun Ex => ?_
 refine lc1 O O O (NPut_ok b9 c.ps.length c.ps.length (.int .i64 ((c.o : Nat) : Int)) (.int .i64 ((tot h c : Nat) : Int)) (.bool (decide (h = 0))) c.ps (c.ks.map BT.o) (pr t j) (TX.root (nxt h d 0)) rfl (by omega) hck (Nat.le_refl _)) ?_
 rw [ins_end rfl, jk_zero (d := d) hc, kids_end (h := h) (by omega) ((jk_len hc hd (Nat.zero_le _)).imp id fun w => ⟨w.1, w.2, by rw [w.2]; rfl⟩), jk_step hd (Nat.zero_le _)]
 refine l_nil ?_
 apply n_d
 ·exact trivial
 refine d_end (by kernel_rfl) ?_
 refine n_code<|t_seq<|sr<|l_q O (qfa 1 O yU73 O O yS3)<|l_q O (qld O yA3) ?_
 refine mv O O<|lc<|t_block ?_
 rw [show c.ps ++ [pr t j] = c.ps ++ pr t j :: d.ps.take 0 by rw [List.take_zero]]
 refine t_loop (fun y : Nat × Nat => y.1 ≤ d.ps.length ∧ y.2 = c.ps.length + 1 + y.1) (fun y => [(1, .pointer (some ⟨ph, 0, none⟩)), (5, .int .i64 ((j : Nat) : Int)), (6, .pointer (some ⟨b6, 0, none⟩)), (8, .pointer (some ⟨b8, 0, none⟩)), (9, .pointer (some ⟨b9, 0, none⟩)), (10, .pointer (some ⟨b10, 0, none⟩)), (24, .int .i64 ((d.ps.length : Nat) : Int)), (25, .int .i64 ((y.1 : Nat) : Int))]) (fun y => pt b9 (.cells (nodeC (((c.o : Nat) : Int)) (((y.2 : Nat) : Int)) (((tot h c : Nat) : Int)) (decide (h = 0)) (pad p0 7 (c.ps ++ pr t j :: d.ps.take y.1)) (pad 0 8 (jk h c d (y.1 + 1)))).toArray 73 (0, 0)) :: pt b8 (.cells (nodeT (h + 1) (t)).toArray 73 (0, 0)) :: pt b10 (.cells (nodeT (h) (d)).toArray 73 (0, 0)) :: pt b6 (.cells #[.pointer (some ⟨pa, 0, none⟩), .int .i64 l.key, .int .i64 l.elem, .int .i64 l.ka, .int .i64 l.ea, .int .i64 l.cap, .int .i64 l.eo, .int .i64 l.bo, .int .i64 l.slot, .int .i64 l.group, .int .i64 offI] 27 (0, 0)) :: pt ph (.cells #[.int .i64 u0, .int .i64 u1, .int .i64 u2, .int .i64 (((nn : Nat) : Int))] 57 (0, 0)) :: arenaH pa s :: Fr) (fun y => d.ps.length - y.1) (0, c.ps.length + 1) ⟨Nat.zero_le _, rfl⟩ ⟨rfl, rfl, rfl, rfl, rfl, rfl, rfl, rfl, trivial⟩ (by (exact en)) ?_
 rintro ⟨k, n⟩ ⟨hkl, hn⟩
 (try dsimp only at hkl hn ⊢)
 refine sr<|l_q O (qi O O (b_lss ·))<|lc<|t_seq<|t_if O (fun c2 => ?_) fun c2 => ?_
 ·have hk : k < d.ps.length := by omega
  have hcl : (c.ps ++ pr t j :: d.ps.take k).length = n := by simp; omega
  have hjl8 : (jk h c d (k + 1)).length ≤ 8 := by
   rcases jk_len (n := k + 1) hc hd (by omega) with w | w
   ·rw [w.1]; omega
   ·rw [w.1]; simp
  refine t_skip<|n_code<|t_seq<|t_block<|sr<|mv O O<|asg O O<|lc<|t_draw mixed ?_
  apply dq 0 O
  ·exact yq (qfa 1 O yU73 O O yS3)
  apply dq 1 O
  ·exact yq (qld O yA3)
  apply dq 2 O
  ·exact yq (q_move O)
  apply dq 3 O
  ·exact yq (qfa 4 O yU73 O O yS70)
  apply dq 4 O
  ·exact yq (q_indexAddrA O O yU70 yS69 (by omega))
  apply dq 5 O
  ·apply yq
   apply q_loadP (us := [.string (pr d k).1, .string (pr d k).2]) rfl yA69 yS69
   ·exact tk
   ·rw [nodeC_len (pad_len hd7) (pad_len hdk)]; omega
   ·rw [Int.toNat_natCast]; exact pkV_pair _ _ _ _ (by rw [pad_at hd7 hk]; exact pr_at hk)
  apply dq 6 O
  ·exact yq (q_move O)
  apply dq 7 O
  ·exact yq (qadd O O)
  apply dq 8 O
  ·exact yq (qfa 18 O yU73 O O yS71)
  apply dq 9 O
  ·exact yq (q_indexAddrA O O yU71 yS3 (by omega))
  apply dq 10 O
  ·apply yq
   apply q_loadP1 (v := .int .i64 ((TX.root (nxt h d (k + 1)) : Nat) : Int)) rfl yA3
   ·exact tk
   ·rw [show (((k : Nat) : Int) + 1).toNat = k + 1 by omega, Nat.mul_one]; exact pkV_kid _ _ _ _ (pad_len hd7) (nxt_root d1 hk)
  refine d_eff1 [1, 5, 10, 0, 4, 9, 3, 2, 8, 7, 6] [] 11 [(9, _), (29, _), (33, _), (38, _)] gO ⟨rfl, rfl, rfl, rfl, trivial⟩ (by kernel_rfl) (by kernel_rfl) fun Ex => ?_
  refine lc1 O O O (NPut_ok b9 n n (.int .i64 ((c.o : Nat) : Int)) (.int .i64 ((tot h c : Nat) : Int)) (.bool (decide (h = 0))) (c.ps ++ pr t j :: d.ps.take k) (jk h c d (k + 1)) (pr d k) (TX.root (nxt h d (k + 1))) hcl (by omega) hjl8 (Nat.le_refl _)) ?_
  rw [ins_end hcl, kids_end (h := h) (by omega) ((jk_len (n := k + 1) hc hd (by omega)).imp (fun w => ⟨by rw [w.1]; omega, w.2⟩) fun w => ⟨w.1, w.2, by rw [w.2]; rfl⟩), jk_step hd hk, show (c.ps ++ pr t j :: d.ps.take k) ++ [pr d k] = c.ps ++ pr t j :: d.ps.take (k + 1) by rw [List.append_assoc, List.take_add_one, pr_at hk]; rfl]
  refine l_nil ?_
  apply n_d
  ·exact trivial
  refine d_end (by kernel_rfl) ?_
  refine n_blk<|n_code<|t_region<|l_q O (qadd O O) ?_
  refine mv O O<|l_nil ?_
  apply n_again ((k + 1, n + 1))
  ·exact ⟨(show k + 1 ≤ d.ps.length by omega), (show n + 1 = c.ps.length + 1 + (k + 1) by omega)⟩
  ·(try dsimp only); omega
  ·exact ⟨O, O, O, O, O, O, O, O, trivial⟩
  ·exact en
 ·obtain rfl : k = d.ps.length := by omega
  rw [jk_all (s := pr t j) hc hd, List.take_length, show c.ps ++ pr t j :: d.ps = (joinB c d (pr t j)).ps from rfl]
  refine xt O<|nz<|l_q O (qfa 2 O yU73 O O yS3)<|l_q O (qld O yA3) ?_
  refine l_q O (qfa 2 O yU73 O O yS3)<|l_q O (qld O yA3) ?_
  refine l_q O (qadd O O) ?_
  refine l_q O (qadd O O) ?_
  refine l_q O (qfa 2 O yU73 O O yS3)<|st O O O yS3 O ?_
  refine lz<|mv O O<|lc1 O O O (NDrop_ok b8 t.ps.length j (.int .i64 ((t.o : Nat) : Int)) (.int .i64 ((tot (h + 1) t : Nat) : Int)) (.bool (decide (h + 1 = 0))) t.ps (t.ks.map BT.o) rfl h2 htk hj) ?_
  rw [kids_drop htk9 h2 hj]
  have hto := E.own_bl
  have hco : blkN l c.o ∈ s.bl := by rw [hce]; exact E.kid_bl (Nat.le_of_lt hj)
  have hdo : blkN l d.o ∈ s.bl := by rw [hde]; exact E.kid_bl (show j + 1 ≤ t.ps.length by omega)
  have hzd : ∀ p ∈ d.ps, szs l p := fun p hp => dz p (ps_mem d1 p hp)
  have hzc : ∀ p ∈ c.ps, szs l p := fun p hp => cz p (ps_mem c1 p hp)
  have hzt : ∀ p ∈ t.ps, szs l p := fun p hp => E.sz p (E.ps_mem p hp)
  obtain ⟨e1, e2⟩ := E.dj
  have dtc : Dj l t.o c.o := by rw [hce]; exact e1 j (Nat.le_of_lt hj)
  refine lz<|l_q O (qlda O yA27 yS27) ?_
  apply l_q O
  ·apply q_loadP (us := nodeC ((t.o : Nat) : Int) ((t.ps.length - 1 : Nat) : Int) ((tot (h + 1) t : Nat) : Int) (decide (h + 1 = 0)) (pad p0 7 (t.ps.eraseIdx j)) (pad 0 8 ((t.ks.map BT.o).eraseIdx (j + 1)))) rfl yA73 yS73
   ·exact tk
   ·exact Nat.le_of_eq (nodeC_len (pad_len (by omega)) (pad_len ht8)).symm
   ·exact List.take_of_length_le (Nat.le_of_eq (nodeC_len (pad_len (by omega)) (pad_len ht8)))
  refine lcf O O O (writeN_ok pa offI s hl t.o (t.ps.length - 1) (t.ps.eraseIdx j) (decide (h + 1 = 0)) ((t.ks.map BT.o).eraseIdx (j + 1)) (tot (h + 1) t) ht7 (bl_bnd hs hto).2 hto (by omega) ht8 (fun k hk => by have := E.kid_o hs k ((List.eraseIdx_sublist _ _).subset hk); omega) (by omega) (fun p hp => hzt p ((List.eraseIdx_sublist _ _).subset hp))) ?_
  rintro v L' ⟨m1, rfl, rfl, hN1, hO1⟩
  refine l_nm ?_
  refine lz<|l_q O (qlda O yA27 yS27) ?_
  apply l_q O
  ·apply q_loadP (us := nodeC ((c.o : Nat) : Int) ((n : Nat) : Int) ((tot h (joinB c d (pr t j)) : Nat) : Int) (decide (h = 0)) (pad p0 7 (joinB c d (pr t j)).ps) (pad 0 8 ((joinB c d (pr t j)).ks.map BT.o))) rfl yA73 yS73
   ·exact tk
   ·exact Nat.le_of_eq (nodeC_len (pad_len hj7) (pad_len hj8)).symm
   ·rw [← wj]; exact List.take_of_length_le (Nat.le_of_eq (nodeC_len (pad_len hj7) (pad_len hj8)))
  refine lcf O O O (writeN_ok pa offI (wm s m1) hl c.o n (joinB c d (pr t j)).ps (decide (h = 0)) ((joinB c d (pr t j)).ks.map BT.o) (tot h (joinB c d (pr t j))) (by omega) (bl_bnd hs hco).2 hco (by omega) hj8 (fun k hk => by obtain ⟨x, hx, rfl⟩ := List.mem_map.1 hk; rcases List.mem_append.1 (show x ∈ c.ks ++ d.ks from hx) with w | w; exact kids_o hs SC _ (List.mem_map.2 ⟨x, w, rfl⟩); exact kids_o hs SD _ (List.mem_map.2 ⟨x, w, rfl⟩)) (by omega) (fun p hp' => by rcases List.mem_append.1 (show p ∈ c.ps ++ pr t j :: d.ps from hp') with w | w; exact hzc p w; rcases List.mem_cons.1 w with rfl | w; exact hzt _ (List.mem_of_getElem? hp); exact hzd p w)) ?_
  rintro v L' ⟨m2, rfl, rfl, hN2, hO2⟩
  refine l_nm ?_
  refine lz<|l_q O (qfa 0 O yU27 O O yS23)<|l_q O (qld O yA23) ?_
  refine l_q O (qfa 0 O yU73 O O yS3)<|l_q O (qld O yA3) ?_
  refine o_buildSlice1 [_] rfl rfl yU28 yS3 yZ3 rfl rfl rfl rfl (fun b60 => ?_)
  rw [wm_wm]
  refine lc1 O O O (Free1_ok pa (wm s m2) b60 ((d.o : Nat) : Int) ⟨nC l, hdo⟩) ?_
  refine lr<|mv O O<|l_q O (q_nilCheck O)<|l_q O (qfa 3 O yU57 O O yS3)<|l_q O (qld O yA3) ?_
  refine l_q O (qsub O O) ?_
  refine l_q O (q_nilCheck O)<|l_q O (qfa 3 O yU57 O O yS3)<|st O O O yS3 O ?_
  refine l_nil ?_
  rw [gives_wm]
  have hO2' : ∀ a, a < c.o ∨ c.o + nbN l ≤ a → m2 a = m1 a := hO2
  have hN1' : NodeM l m2 t.o (t.ps.eraseIdx j) false ((t.ks.map BT.o).eraseIdx (j + 1)) (tot (h + 1) t) := by
   rw [show decide (h + 1 = 0) = false from decide_eq_false (by omega)] at hN1
   exact hN1.same (by omega) ht8 fun a a1 a2 => by rw [hO2' a (by rcases dtc with w | w <;> omega)]
  have hfin := join_mem E hj (join_lst E.h3 hj (by rw [← hce, ← hde]; exact jl)) hN1' (by rw [← hce, ← hde]; exact hN2) (fun a ha => by
   rw [← hce] at ha
   rw [hO2' a (ha _ (by simp)), hO1 a (ha _ (by simp))])
  rw [show ((nn : Nat) : Int) - 1 = ((nn - 1 : Nat) : Int) by omega]
  apply f_ret (.inr rfl) ([pt ph (.cells #[.int .i64 u0, .int .i64 u1, .int .i64 u2, .int .i64 (((nn - 1 : Nat) : Int))] 57 (0, 0)), arenaH pa (wm (s.gives [((d.o : Nat) : Int)]) m2)])
  ·exact res0 O
  ·exact ⟨m2, rfl, rfl, hfin⟩
  ·exact en
end
end Go.Proofs.Ytjekhcojebgpnaa.Bt
