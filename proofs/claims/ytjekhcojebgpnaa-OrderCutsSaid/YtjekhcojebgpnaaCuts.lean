import Derived.Test.YtjekhcojebgpnaaRowOr
/- OrderCuts answers true. -/
set_option linter.unusedVariables false
set_option linter.unusedSimpArgs false
set_option maxRecDepth 100000
namespace Go.Proofs.Ytjekhcojebgpnaa.Ord
open Go.RowKit Go.Proofs Go.Proofs.Ytjekhcojebgpnaa.Eng Go.Proofs.Ytjekhcojebgpnaa.Ty Go.Proofs.Ytjekhcojebgpnaa.Bits Go.Proofs.Ytjekhcojebgpnaa.Mem Go.Proofs.Ytjekhcojebgpnaa.Search Go.Proofs.Ytjekhcojebgpnaa.Layout Go.Proofs.Ytjekhcojebgpnaa.Arena Go.Proofs.Ytjekhcojebgpnaa.GroupB Go.Proofs.Ytjekhcojebgpnaa.Bt
def inK (frm upt : ByteArray) (i : Nat) : Bool := !Op.bytesLess (nameK i).toList frm.toList && Op.bytesLess (nameK i).toList upt.toList
/-- The keys in the range, as far as number k, are gone. -/
def cutF (frm upt : ByteArray) (f : Nat → Nat) (k : Nat) : Nat → Nat := fun i => if i < k ∧ inK frm upt i = true then 0 else f i
theorem cutF_zero (frm upt : ByteArray) (f : Nat → Nat) : cutF frm upt f 0 = f := by
 funext i
 unfold cutF
 rw [if_neg (by omega)]
theorem cutF_in {frm upt : ByteArray} {f : Nat → Nat} {k : Nat} (h : inK frm upt k = true) : cutF frm upt f (k + 1) = upd (cutF frm upt f k) k 0 := by
 funext i
 unfold cutF upd
 dsimp only
 by_cases q : i = k
 ·subst q; rw [if_pos rfl, if_pos ⟨by omega, h⟩]
 ·rw [if_neg q]
  by_cases w : i < k ∧ inK frm upt i = true
  ·rw [if_pos w, if_pos ⟨by omega, w.2⟩]
  ·rw [if_neg w, if_neg (fun z => w ⟨by omega, z.2⟩)]
theorem cutF_out {frm upt : ByteArray} {f : Nat → Nat} {k : Nat} (h : inK frm upt k = false ∨ f k = 0) : cutF frm upt f (k + 1) = cutF frm upt f k := by
 funext i
 unfold cutF
 by_cases q : i = k
 ·subst q
  rw [if_neg (show ¬ (i < i ∧ _) by omega)]
  rcases h with h | h
  ·rw [if_neg (by rw [h]; simp)]
  ·split
   ·exact h.symm
   ·rfl
 ·by_cases w : i < k ∧ inK frm upt i = true
  ·rw [if_pos w, if_pos ⟨by omega, w.2⟩]
  ·rw [if_neg w, if_neg (fun z => w ⟨by omega, z.2⟩)]
theorem cutF_at {frm upt : ByteArray} {f : Nat → Nat} {k : Nat} : cutF frm upt f k k = f k := by
 unfold cutF
 rw [if_neg (by omega)]
theorem prs_cutF (frm upt : ByteArray) (f : Nat → Nat) : prs (cutF frm upt f 1000) = cutL frm upt (prs f) := by
 unfold cutL
 refine prs_filter (fun i hi h => ?_) fun i hi h => ?_
 ·have e : inB frm upt (nameK i, elemK (f i - 1)) = inK frm upt i := rfl
  rw [e] at h
  have : inK frm upt i = false := by simpa using h
  unfold cutF; rw [if_neg (by rw [this]; simp)]
 ·have e : inB frm upt (nameK i, elemK (f i - 1)) = inK frm upt i := rfl
  rw [e] at h
  have : inK frm upt i = true := by simpa using h
  unfold cutF; rw [if_pos ⟨hi, this⟩]
theorem cutF_bnd {frm upt : ByteArray} {f : Nat → Nat} (hf : ∀ i, f i ≤ 256) (k : Nat) : ∀ i, cutF frm upt f k i ≤ 256 := fun i => by unfold cutF; split; exact Nat.zero_le _; exact hf i
attribute [local irreducible] ids prs flatN heldV nameK elemK cntF
theorem OrderCuts_ok (G : HP) (vt : Value) (ts : List (Int × Int × Int)) (hT : StepsAt G vt ts) (hmt : ts.length ≤ maxLen) (frm upt : ByteArray) :
  FnOk Try.prog 3 #[vt, .string frm, .string upt] [G] (fun v L => v = .bool true ∧ L = [G]) := by
 have hpl : ∀ g, (prs g).length ≤ 1000 := fun g => by rw [prs_ids, List.length_map]; exact ids_len g
 refine fn_intro en3 Try.func3 rfl rfl rfl fun Fr w0 => t_nm ?_
 refine sr<|asg O O<|lz<|mv O O<|lcf O O O (planted_ok G vt ts hT hmt 2097152 (by decide) (by decide) (.inr rfl)) ?_
 rintro v L' ⟨pa, gh, s, off, x, rfl, rfl, hs, H, hlim, hf, hx⟩
 refine l_nm ?_
 refine mv O O<|l_q O (q_extractL O ga) ?_
 refine l_q O (q_extractL O ga) ?_
 refine l_q O (q_extractL O ga) ?_
 refine l_q O (q_extractL O ga) ?_
 refine o_allocA O yZ27 fun b8 => asg O O<|sta O O O yS27 O O ?_
 refine asg O O<|asg O O<|lz<|mv O O<|lcf O O O (planted_ok G vt ts hT hmt 2097152 (by decide) (by decide) (.inr rfl)) ?_
 rintro v L' ⟨pb, gk, s2, off2, x2, rfl, rfl, hs2, H2, hlim2, _, hx2⟩
 refine l_nm ?_
 refine mv O O<|l_q O (q_extractL O ga) ?_
 refine l_q O (q_extractL O ga) ?_
 refine l_q O (q_extractL O ga) ?_
 refine l_q O (q_extractL O ga) ?_
 refine o_allocA O yZ27 fun b12 => asg O O<|sta O O O yS27 O O ?_
 refine asg O O<|asg O O<|lc<|t_seq<|sr<|mv O O<|l_q O (q_un O (u_not ·))<|mv O O<|l_pt (t := 38) rfl (fun c1 => ?_) fun c1 => ?_
 ·exact absurd c1 (by decide)
 ·refine l_on O O<|mv O O<|l_on O O<|l_q O (q_un O (u_not ·))<|l_q O (q_pk O O)<|lc<|t_if O (fun c2 => ?_) fun c2 => ?_
  ·exact absurd c2 (by decide)
  ·refine t_skip<|nz<|l_q O (qlda O yA27 yS27) ?_
   refine mv O O<|mv O O<|lcf O O O (CutT_ok pa off s l5_err hs H frm upt) ?_
   rintro v L' ⟨s1, x1, rfl, rfl, g0, g1, g2, g3, g4⟩
   refine l_nm ?_
   obtain ⟨f, hfe⟩ : ∃ f, f = runF ts := ⟨_, rfl⟩
   rw [← hfe] at hf hx hx2 ⊢
   have hx1 : x1.L = prs (cutF frm upt f 1000) := by rw [g4, hx]; exact (prs_cutF frm upt f).symm
   refine mv O O<|l_q O (q_extractL O ga) ?_
   refine l_q O (q_extractL O ga) ?_
   refine asg O O<|asg O O<|lc<|t_seq<|sr<|mv O O<|l_q O (qi O O (b_neq ·))<|lc<|t_if O (fun c3 => ?_) fun c3 => ?_
   ·exact absurd rfl c3
   ·refine t_skip<|nz<|asg O O<|lc<|t_seq<|sr<|mv O O<|l_q O (ql O yU28)<|mv O O<|lc<|t_block ?_
    rw [show heldV f = heldV (cutF frm upt f 0) by rw [cutF_zero]]
    refine t_loop (fun y : Nat × ArS × Bt.TX × Int => y.1 ≤ 1000 ∧ y.2.1.ok ∧ TrOk l5 y.2.1 off2 y.2.2.1 [] ∧ y.2.2.1.L = prs (cutF frm upt f y.1) ∧ 0 ≤ y.2.2.2 ∧ y.2.2.2 + (((prs (cutF frm upt f y.1)).length : Nat) : Int) = (((prs f).length : Nat) : Int)) (fun y => [(1, .string frm), (2, .string upt), (8, .pointer (some ⟨b8, 0, none⟩)), (9, .slice (some ⟨gh, 0, none⟩) 1000 1000), (12, .pointer (some ⟨b12, 0, none⟩)), (15, .int .i64 ((x.L.length - x1.L.length : Nat) : Int)), (17, .int .i64 y.2.2.2), (51, .slice (some ⟨gh, 0, none⟩) 1000 1000), (52, .int .i64 1000), (53, .int .i64 ((y.1 : Nat) : Int))]) (fun y => ownS 3 1 (.slice (some ⟨gh, 0, none⟩) 1000 1000) 1000 (heldV (cutF frm upt f y.1)) :: pt b12 (.cells #[.pointer (some ⟨pb, 0, none⟩), .int .i64 l5.key, .int .i64 l5.elem, .int .i64 l5.ka, .int .i64 l5.ea, .int .i64 l5.cap, .int .i64 l5.eo, .int .i64 l5.bo, .int .i64 l5.slot, .int .i64 l5.group, .int .i64 ((off2 : Nat) : Int)] 27 (0, 0)) :: pt b8 (.cells #[.pointer (some ⟨pa, 0, none⟩), .int .i64 l5.key, .int .i64 l5.elem, .int .i64 l5.ka, .int .i64 l5.ea, .int .i64 l5.cap, .int .i64 l5.eo, .int .i64 l5.bo, .int .i64 l5.slot, .int .i64 l5.group, .int .i64 ((off : Nat) : Int)] 27 (0, 0)) :: arenaH pb y.2.1 :: arenaH pa s1 :: G :: Fr) (fun y => 1000 - y.1) (0, s2, x2, 0) ⟨Nat.zero_le _, hs2, H2, by dsimp only; rw [cutF_zero]; exact hx2, Int.le_refl _, by dsimp only; rw [cutF_zero, Int.zero_add]⟩ ⟨rfl, rfl, rfl, rfl, rfl, rfl, rfl, rfl, rfl, rfl, trivial⟩ (by (exact en)) ?_
    rintro ⟨k, s3, y, w⟩ ⟨hk, hs3, H3, hy, hw0, hw⟩
    dsimp only at hk hs3 H3 hy hw0 hw ⊢
    have hlk := hpl f
    refine sr<|l_q O (qi O O (b_lss ·))<|lc<|t_seq<|t_if O (fun c4 => ?_) fun c4 => ?_
    ·have hk9 : k < 1000 := by omega
     refine t_skip<|n_code<|t_seq<|t_block<|sr<|mv O O<|l_q O (q_indexAddr1 O O yU28 yS3 (by omega)) ?_
     apply l_q O
     ·apply q_loadOwn (v := .int .i64 ((f k : Nat) : Int)) rfl yA3
      ·exact tk
      ·rw [Nat.zero_add, Int.toNat_natCast, ← cutF_at (frm := frm) (upt := upt) (f := f)]; exact held_get hk9
     refine asg O O<|asg O O<|lz<|mv O O<|l_q O (qi O O (b_neq ·))<|mv O O<|l_pt (t := 60) rfl (fun c5 => ?_) fun c5 => ?_
     ·refine l_on O O<|mv O O<|l_on O O<|lc1 O O O (name_ok k hk9) ?_
      refine l_on O O<|mv O O<|l_on O O ?_
      apply l_q O
      ·apply qs O O; first | exact fun w => b_geqS w | exact fun w => b_geqS w (by omega)
      refine l_q O (q_pk O O)<|mv O O<|l_pt (t := 66) rfl (fun c6 => ?_) fun c6 => ?_
      ·refine l_on O O<|mv O O<|l_on O O<|lc1 O O O (name_ok k hk9) ?_
       refine l_on O O<|mv O O<|l_on O O ?_
       apply l_q O
       ·apply qs O O; first | exact fun w => b_lssS w | exact fun w => b_lssS w (by omega)
       refine l_q O (q_pk O O)<|lc<|t_if O (fun c7 => ?_) fun c7 => ?_
       ·have hin : inK frm upt k = true := by unfold inK; rw [Bool.and_eq_true]; exact ⟨by simpa using c6, c7⟩
        have hfk : f k ≠ 0 := by omega
        have hp : ∃ p ∈ y.L, p.1 = nameK k := by rw [hy]; exact (prs_has hk9).2 (by rw [cutF_at]; exact hfk)
        refine t_seq<|t_draw mixed ?_
        apply dq 0 O
        ·exact yq (qlda O yA27 yS27)
        apply dq 1 O
        ·exact yq (q_move O)
        refine d_eff1 [1] [0] 2 [(74, _)] gO ⟨rfl, trivial⟩ (by kernel_rfl) (by kernel_rfl) fun Ex => ?_
        refine lc1 O O O (name_ok k hk9) ?_
        refine l_nil ?_
        apply n_d
        ·refine ⟨?_, trivial⟩
         ·apply ya O O; exact yq (qlda O yA27 yS27)
        refine d_eff1 [0] [] 3 [(73, _), (75, _)] gO ⟨rfl, rfl, trivial⟩ (by kernel_rfl) (by kernel_rfl) fun Ex => ?_
        refine lcf O O O (okA (pa := pb) (Del_yes pb off2 s3 l5_err hs3 H3 (nameK k) (by rw [l5_k]; exact name_size k))) ?_
        rintro v L' ⟨⟨s', x', rfl, t1, t2, t3, hL, hout⟩, hA⟩
        refine l_nm ?_
        obtain ⟨rfl, _⟩ := hout.resolve_left (fun z => by obtain ⟨p, hp1, hp2⟩ := hp; exact z.2.1 p hp1 hp2)
        have hL2 : x'.L = prs (cutF frm upt f (k + 1)) := by rw [hL, hy, cutF_in hin]; exact (prs_del hk9).symm
        have hlen : (prs (cutF frm upt f (k + 1))).length + 1 = (prs (cutF frm upt f k)).length := by rw [cutF_in hin, prs_del hk9]; exact delL_len (sl_prs _) (by rw [← hy]; exact hp)
        refine l_nil ?_
        apply n_d
        ·exact trivial
        apply dq 4 O
        ·exact yq (q_move O)
        apply dq 5 O
        ·exact yq (q_extractL O ga)
        apply dq 6 O
        ·exact yq (q_extractL O ga)
        refine d_eff1 [5, 4] [6] 7 [(77, _)] gO ⟨rfl, trivial⟩ (by kernel_rfl) (by kernel_rfl) fun Ex => ?_
        refine asg O O<|l_nil ?_
        apply n_d
        ·refine ⟨?_, trivial⟩
         ·apply ya O O; exact yq (q_extractL O ga)
        refine d_eff1 [6] [] 8 [(78, _)] gO ⟨rfl, trivial⟩ (by kernel_rfl) (by kernel_rfl) fun Ex => ?_
        refine asg O O<|l_nil ?_
        apply n_d
        ·exact trivial
        refine d_end (by kernel_rfl) ?_
        refine n_code<|t_seq<|sr<|mv O O<|l_q O (qi O O (b_neq ·))<|mv O O<|l_pt (t := 81) rfl (fun c8 => ?_) fun c8 => ?_
        ·exact absurd rfl c8
        ·refine l_on O O<|mv O O<|l_on O O<|l_q O (q_un O (u_not ·))<|l_q O (q_pk O O)<|lc<|t_if O (fun c9 => ?_) fun c9 => ?_
         ·exact absurd c9 (by decide)
         ·refine t_skip<|nz<|mv O O<|mv O O<|l_q O (q_indexAddr1 O O yU28 yS3 (by omega)) ?_
          apply o_storeOwn (xs' := heldV (upd (cutF frm upt f k) k 0)) rfl rfl rfl yS3 rfl
          ·exact tk
          ·rw [Int.toNat_natCast]; omega
          ·rw [Int.toNat_natCast, Nat.zero_add]; exact held_set (v := 0) hk9
          refine lr<|mv O O<|l_q O (qadd O O) ?_
          refine asg O O<|l_nil<|n_blk<|n_code<|t_region<|l_q O (qadd O O) ?_
          refine mv O O<|l_nil ?_
          rw [← cutF_in hin]
          apply n_again ((k + 1, s', x', w + 1))
          ·exact ⟨hk9, hA _ (.head _), t1, hL2, by dsimp only; omega, by dsimp only; omega⟩
          ·(try dsimp only); omega
          ·exact ⟨O, O, O, O, O, O, O, O, O, O, trivial⟩
          ·exact en
       ·have hin : inK frm upt k = false := by unfold inK; rw [Bool.and_eq_false_iff]; exact .inr (by simpa using c7)
        have hco := cutF_out (frm := frm) (upt := upt) (f := f) (k := k) (.inl hin)
        rw [← hco] at hy hw ⊢
        refine t_skip<|n_blk<|n_code<|t_region<|l_q O (qadd O O) ?_
        refine mv O O<|l_nil ?_
        apply n_again ((k + 1, s3, y, w))
        ·exact ⟨hk9, hs3, H3, hy, hw0, hw⟩
        ·(try dsimp only); omega
        ·exact ⟨O, O, O, O, O, O, O, O, O, O, trivial⟩
        ·exact en
      ·have hin : inK frm upt k = false := by unfold inK; rw [Bool.and_eq_false_iff]; exact .inl (by simpa using c6)
       have hco := cutF_out (frm := frm) (upt := upt) (f := f) (k := k) (.inl hin)
       rw [← hco] at hy hw ⊢
       refine l_off O O O O<|l_off O O O O<|l_off O O O O<|l_off O O O O<|l_q O (q_pk O O)<|lc<|t_cond_f O<|t_skip<|n_blk<|n_code<|t_region<|l_q O (qadd O O) ?_
       refine mv O O<|l_nil ?_
       apply n_again ((k + 1, s3, y, w))
       ·exact ⟨hk9, hs3, H3, hy, hw0, hw⟩
       ·(try dsimp only); omega
       ·exact ⟨O, O, O, O, O, O, O, O, O, O, trivial⟩
       ·exact en
     ·have hco := cutF_out (frm := frm) (upt := upt) (f := f) (k := k) (.inr (by omega))
      rw [← hco] at hy hw ⊢
      refine l_off O O O O<|l_off O O O O<|l_off O O O O<|l_off O O O O<|l_q O (q_pk O O)<|mv O O<|l_off O O O O<|l_off O O O O<|l_off O O O O<|l_off O O O O<|l_q O (q_pk O O)<|lc<|t_cond_f O<|t_skip<|n_blk<|n_code<|t_region<|l_q O (qadd O O) ?_
      refine mv O O<|l_nil ?_
      apply n_again ((k + 1, s3, y, w))
      ·exact ⟨hk9, hs3, H3, hy, hw0, hw⟩
      ·(try dsimp only); omega
      ·exact ⟨O, O, O, O, O, O, O, O, O, O, trivial⟩
      ·exact en
    ·obtain rfl : k = 1000 := by omega
     have hnw : ((x.L.length - x1.L.length : Nat) : Int) = w := by rw [hx1, hx]; omega
     refine xt O<|nz<|mv O O<|mv O O<|l_q O (qi O O (b_eql ·))<|mv O O<|l_pt (t := 94) rfl (fun c10 => ?_) fun c10 => ?_
     ·refine l_on O O<|l_q O (qlda O yA27 yS27) ?_
      refine l_on O O<|mv O O<|l_on O O<|lc1 O O O (holds_ok pa off s1 l5_err g0 g1 (cutF frm upt f 1000) (cutF_bnd hf 1000) hx1 gh) ?_
      refine l_q O (q_pk O O)<|mv O O<|l_pt (t := 99) rfl (fun c11 => ?_) fun c11 => ?_
      ·refine l_on O O<|l_q O (qlda O yA27 yS27) ?_
       refine l_on O O<|mv O O<|l_on O O<|lc1 O O O (holds_ok pb off2 s3 l5_err hs3 H3 (cutF frm upt f 1000) (cutF_bnd hf 1000) hy gh) ?_
       exact l_q O (q_pk O O)<|asg O O<|lc<|rt<|fr1 O ([G]) (.tmp rfl) ⟨rfl, rfl⟩
      ·exact absurd c11 (by decide)
     ·exact absurd hnw c10
end Go.Proofs.Ytjekhcojebgpnaa.Ord
