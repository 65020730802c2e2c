import Derived.Test.YtjekhcojebgpnaaRowOr
/- OrderRefused answers true. -/
set_option linter.unusedVariables false
set_option linter.unusedSimpArgs false
set_option maxRecDepth 100000
namespace Go.Proofs.Ytjekhcojebgpnaa.Ord
open Go.RowKit Go.Proofs Go.Proofs.Ytjekhcojebgpnaa.Eng Go.Proofs.Ytjekhcojebgpnaa.Ty Go.Proofs.Ytjekhcojebgpnaa.Bits Go.Proofs.Ytjekhcojebgpnaa.Mem Go.Proofs.Ytjekhcojebgpnaa.Search Go.Proofs.Ytjekhcojebgpnaa.Layout Go.Proofs.Ytjekhcojebgpnaa.Arena Go.Proofs.Ytjekhcojebgpnaa.GroupB Go.Proofs.Ytjekhcojebgpnaa.Bt
theorem LiveO_ok (pa : Nat) (s : ArS) : FnOk Try.prog 12 #[.pointer (some ⟨pa, 0, none⟩)] [arenaH pa s] (fun v L => v = .int .i64 s.live ∧ L = [arenaH pa s]) := by
 refine fn_intro en12 Try.func12 rfl rfl rfl fun Fr w0 => t_nm ?_
 refine arena_open fun x hx => ?_
 refine t_norm fun M hM => ?_
 simp only [List.cons_append, List.nil_append] at hM
 subst M
 refine sr<|asg O O<|lz<|mv O O<|l_q O (q_nilCheck O)<|l_q O (qfa 1 O yU83 O O yS3)<|l_q O (qld O yA3) ?_
 refine asg O O<|lc<|rt ?_
 apply f_ret (.inl rfl) ([arenaH pa s])
 ·apply res1 O
  ·exact .tmp rfl
 ·exact ⟨rfl, rfl⟩
 ·refine arena_close hx ?_; (exact en)
theorem bl_nil (z : List UInt8) : Op.bytesLess z [] = false := by cases z <;> first | rfl | simp [Op.bytesLess]
theorem cut_all (f : Nat → Nat) : cutL ⟨#[]⟩ topK (prs f) = [] := by
 unfold cutL
 rw [List.filter_eq_nil_iff]
 intro p hp
 obtain ⟨i, hi, _, rfl⟩ := mem_prs.1 hp
 have h1 : Op.bytesLess (nameK i).toList (⟨#[]⟩ : ByteArray).toList = false := by
  rw [show (⟨#[]⟩ : ByteArray).toList = [] by rw [ByteArray.toList_eq]]
  exact bl_nil _
 have h2 : Op.bytesLess (nameK i).toList topK.toList = true := name_top hi
 unfold inB
 dsimp only
 rw [h1, h2]
 simp
theorem tree_none {l : Lay} {s : ArS} {off : Nat} {x : Bt.TX} {R : List (Int × Int)} (H : TrOk l s off x R) (h : x.L = []) : x = none := by
 cases x with
 | none => rfl
 | some y =>
  obtain ⟨g, t⟩ := y
  have := offs_few (H.tree g t O).1
  have e : (TX.L (some (g, t))).length = (lst g t).length := rfl
  rw [h] at e
  simp at e
  omega
theorem nC5 : nC l5 = 128 := by decide +kernel
theorem cls320 : classI 320 = 384 := by decide +kernel
attribute [local irreducible] ids prs flatN heldV nameK elemK cntF
theorem OrderRefused_ok (G : HP) (lim0 : Int) (vt : Value) (ts : List (Int × Int × Int)) (hT : StepsAt G vt ts) (hmt : ts.length ≤ maxLen) :
  FnOk Try.prog 4 #[.int .i64 lim0, vt] [G] (fun v L => v = .bool true ∧ L = [G]) := by
 have hpl : ∀ g, (prs g).length ≤ 1000 := fun g => by rw [prs_ids, List.length_map]; exact ids_len g
 have hcle : ∀ {f : Nat → Nat} (k : Nat), k ≤ 1000 → cntF f k ≤ 1000 := fun k hk => by
  unfold cntF
  exact Nat.le_trans (List.length_filter_le _ _) (by simpa using hk)
 simp only [maxLen] at hmt
 obtain ⟨ta, tcap, rfl, hT0⟩ := hT
 refine fn_intro en4 Try.func4 rfl rfl rfl fun Fr w0 => t_nm ?_
 refine sr<|asg O O<|lc<|t_seq<|sr<|mv O O<|l_q O (qi O O (b_lss ·))<|mv O O<|l_pt (t := 26) rfl (fun c1 => ?_) fun c1 => ?_
 ·refine l_off O O O O<|l_off O O O O<|l_q O (q_pk O O)<|lc<|t_cond_t O<|t_region<|asg O O<|lz<|mv O O<|lcf O O O (planted_ok G (.slice none 0 0) [] ⟨none, 0, rfl, fun h => absurd h (by decide)⟩ (Nat.zero_le _) (64) (by omega) (by omega) (.inl rfl)) ?_
  rintro v L' ⟨pa, gh, s0, off, x0, rfl, rfl, hs0, H0, hlim0, hf0, hx0⟩
  refine l_nm ?_
  refine mv O O<|l_q O (q_extractL O ga) ?_
  refine l_q O (q_extractL O ga) ?_
  refine l_q O (q_extractL O ga) ?_
  refine l_q O (q_extractL O ga) ?_
  refine o_allocA O yZ27 fun b6 => asg O O<|sta O O O yS27 O O ?_
  refine asg O O<|asg O O<|lc<|t_seq<|sr<|mv O O<|l_q O (q_un O (u_not ·))<|lc<|t_if O (fun z1 => ?_) fun z1 => ?_
  ·exact absurd z1 (by decide)
  ·refine t_skip<|nz<|lc1 O O O (Class_ok 320) ?_
   rw [cls320]
   refine asg O O<|lc<|t_seq<|sr<|mv O O<|l_q O (ql O yU22)<|mv O O<|lc<|t_block ?_
   refine t_loop (fun y : Nat × ArS × Bt.TX × (Nat → Nat) => y.1 ≤ ts.length ∧ y.2.1.ok ∧ TrOk l5 y.2.1 off y.2.2.1 [] ∧ y.2.1.limit = (64) ∧ (∀ i, y.2.2.2 i ≤ 256) ∧ y.2.2.1.L = prs y.2.2.2) (fun y => [(0, .int .i64 (64)), (5, .pointer (some ⟨pa, 0, none⟩)), (6, .pointer (some ⟨b6, 0, none⟩)), (7, .slice (some ⟨gh, 0, none⟩) 1000 1000), (9, .int .i64 384), (40, .slice ta ts.length tcap), (41, .int .i64 ((ts.length : Nat) : Int)), (42, .int .i64 ((y.1 : Nat) : Int))]) (fun y => ownS 3 1 (.slice (some ⟨gh, 0, none⟩) 1000 1000) 1000 (heldV (y.2.2.2)) :: pt b6 (.cells #[.pointer (some ⟨pa, 0, none⟩), .int .i64 l5.key, .int .i64 l5.elem, .int .i64 l5.ka, .int .i64 l5.ea, .int .i64 l5.cap, .int .i64 l5.eo, .int .i64 l5.bo, .int .i64 l5.slot, .int .i64 l5.group, .int .i64 ((off : Nat) : Int)] 27 (0, 0)) :: arenaH pa y.2.1 :: G :: Fr) (fun y => ts.length - y.1) (0, s0, x0, runF []) ⟨Nat.zero_le _, hs0, H0, hlim0, hf0, hx0⟩ ⟨rfl, rfl, rfl, rfl, rfl, rfl, rfl, rfl, trivial⟩ (by (exact en)) ?_
   rintro ⟨i, s, x, f⟩ ⟨hi, hs, H, hlim, hf, hx⟩
   dsimp only at hi hs H hlim hf hx ⊢
   obtain ⟨n1, n2⟩ := need_le hs H ⟨#[]⟩
   have hlr := hs.room
   have hlv : 64 ≤ s.live := by rw [live_eq H, nC5]; show (64 : Int) ≤ 64 + _ * 128 + 0; omega
   refine sr<|l_q O (qi O O (b_lss ·))<|lc<|t_seq<|t_if O (fun c5 => ?_) fun c5 => ?_
   ·have hil : i < ts.length := by omega
    obtain ⟨tb, to9, rfl, hT1⟩ := hT0 (by omega)
    obtain ⟨t, ht⟩ : ∃ t, ts[i]? = some t := ⟨ts[i], List.getElem?_eq_getElem hil⟩
    have hcell := cell_step hT1 ht
    have hxl : x.L.length ≤ 1000 := by rw [hx]; exact hpl f
    have hnn := need_le hs H (nameK (keyN t.2.1))
    have hkn0 : 0 ≤ t.2.1 % 1000 := Int.emod_nonneg _ (by decide)
    have hkn1 : t.2.1 % 1000 < 1000 := Int.emod_lt_of_pos _ (by decide)
    have hkN : (t.2.1 % ((1000 : Nat) : Int)).toNat = keyN t.2.1 := rfl
    have hk9 : keyN t.2.1 < 1000 := by unfold keyN; omega
    refine t_skip<|n_code<|t_seq<|t_block<|sr<|l_q O (q_indexAddr O O yU22 yS41 (by omega)) ?_
    apply l_q O
    ·apply q_loadRA (A := G) (us := [.int .i64 t.1, .int .i64 t.2.1, .int .i64 t.2.2]) rfl yA41 yS41 rfl
     ·exact tk
     ·exact hcell
    refine o_allocA O yZ41 fun b11 => sta O O O yS41 O O ?_
    refine lz<|l_q O (qlda O yA27 yS27) ?_
    refine lc1 O O O (StatT_ok pa off s hs H) ?_
    refine mv O O<|l_q O (q_extractL O ga) ?_
    refine l_q O (q_extractL O ga) ?_
    refine o_allocA O yZ43 fun b12 => sta O O O yS43 O O ?_
    refine asg O O<|lc<|t_seq<|sr<|mv O O<|l_q O (qi O O (b_neq ·))<|mv O O<|l_pt (t := 53) rfl (fun c6 => ?_) fun c6 => ?_
    ·exact absurd rfl c6
    ·refine l_on O O<|mv O O<|l_on O O<|l_q O (qi O O (b_lss ·))<|l_q O (q_pk O O)<|lc<|t_if O (fun c7 => ?_) fun c7 => ?_
     ·exact absurd c7 (by decide)
     ·refine t_skip<|n_code<|t_seq<|t_draw mixed ?_
      apply dq 0 O
      ·exact yq (q_move O)
      apply dq 2 O
      ·exact yq (qfa 1 O yU43 O O yS3)
      apply dq 3 O
      ·exact yq (qld O yA3)
      apply dq 4 O
      ·exact yq (qadd O O)
      apply dq 5 O
      ·exact yq (q_move O)
      apply dq 6 O
      ·exact yq (qmul O O)
      apply dq 8 O
      ·exact yq (q_move O)
      refine d_eff1 [0] [8, 6, 5, 4, 3, 2] 1 [(57, _)] gO ⟨rfl, trivial⟩ (by kernel_rfl) (by kernel_rfl) fun Ex => ?_
      refine lc1 O O O (LiveO_ok pa s) ?_
      refine l_nil ?_
      apply n_d
      ·refine ⟨?_, ?_, ?_, ?_, ?_, ?_, trivial⟩
       ·apply ya O O; exact yq (q_move O)
       ·apply ya O O; exact yq (qmul O O)
       ·apply ya O O; exact yq (q_move O)
       ·apply ya O O; exact yq (qadd O O)
       ·apply ya O O; exact yq (qld O yA3)
       ·apply ya O O; exact yq (qfa 1 O yU43 O O yS3)
      apply dq 7 O
      ·exact yq (qadd O O)
      apply dq 9 O
      ·exact yq (qi O O (b_gtr ·))
      refine d_eff1 [9, 2, 3, 4, 5, 6, 7, 8] [] 10 [(66, _)] gO ⟨rfl, trivial⟩ (by kernel_rfl) (by kernel_rfl) fun Ex => ?_
      refine asg O O<|l_nil ?_
      apply n_d
      ·exact trivial
      refine d_end (by kernel_rfl) ?_
      refine nz<|mv O O<|lc1 O O O (LiveO_ok pa s) ?_
      refine asg O O<|lc<|t_seq<|sr<|l_q O (qlda O yA27 yS27) ?_
      refine l_q O (qlda O yA41 yS41) ?_
      refine mv O O<|mv O O<|lcf O O O (grow_ok pa off s l5_err l5_k l5_e hs H gh f hf hx t.1 t.2.1 t.2.2 _) ?_
      rintro v L' ⟨s', x', f', rfl, g1, g2, g3, g4, g5, g6, hout⟩
      refine l_nm ?_
      have key : v = .bool true ∧ (t.1 = 0 → f' (keyN t.2.1) = 0 → s'.live = s.live) := by
       rcases hout with ⟨hv, hf'⟩ | ⟨hv, h0, hf', hs', hx', hm⟩
       ·refine ⟨hv, fun h0 hz => ?_⟩
        rw [hf'] at hz
        unfold stepF at hz
        rw [if_pos h0] at hz
        simp [upd] at hz
       ·refine ⟨?_, fun _ _ => by rw [hs']⟩
        rw [hv]
        congr 1
        refine decide_eq_true ?_
        rw [nC5] at hm
        omega
      obtain ⟨rfl, hlive⟩ := key
      have hlr2 := g1.room
      refine l_q O (q_un O (u_not ·))<|lc<|t_if O (fun c8 => ?_) fun c8 => ?_
      ·exact absurd c8 (by decide)
      ·refine t_skip<|nz<|l_q O (qfa 0 O yU41 O O yS3)<|l_q O (qld O yA3) ?_
       refine l_q O (qi O O (b_eql ·))<|mv O O<|l_pt (t := 78) rfl (fun c9 => ?_) fun c9 => ?_
       ·refine l_on O O<|mv O O<|l_on O O<|l_q O (qfa 1 O yU41 O O yS3)<|l_on O O<|l_q O (qld O yA3) ?_
        refine l_on O O<|lc1 O O O (within_ok t.2.1 1000 (by decide) (by decide)) ?_
        refine l_on O O<|l_q O (q_indexAddr1 O O yU28 yS3 (by omega)) ?_
        refine l_on O O ?_
        apply l_q O
        ·apply q_loadOwn (v := .int .i64 ((f' (keyN t.2.1) : Nat) : Int)) rfl yA3
         ·exact tk
         ·rw [Nat.zero_add, hkN]; exact held_get hk9
        refine l_on O O<|l_q O (qi O O (b_eql ·))<|l_q O (q_pk O O)<|asg O O<|lz<|mv O O<|mv O O<|l_pt (t := 88) rfl (fun c10 => ?_) fun c10 => ?_
        ·refine l_on O O<|mv O O<|l_on O O<|lc1 O O O (LiveO_ok pa s') ?_
         refine l_on O O<|mv O O<|l_on O O<|l_q O (qi O O (b_neq ·))<|l_q O (q_pk O O)<|mv O O<|l_pt (t := 94) rfl (fun c11 => ?_) fun c11 => ?_
         ·exact absurd (hlive c9 (by omega)) c11
         ·refine l_on O O<|mv O O<|l_on O O<|lc1 O O O (LiveO_ok pa s') ?_
          refine l_on O O<|mv O O<|l_on O O<|l_q O (qi O O (b_gtr ·))<|l_q O (q_pk O O)<|lc<|t_if O (fun c12 => ?_) fun c12 => ?_
          ·omega
          ·refine t_skip<|n_blk<|n_code<|t_region<|l_q O (qadd O O) ?_
           refine mv O O<|l_nil ?_
           apply n_again ((i + 1, s', x', f'))
           ·exact ⟨hil, g1, g2, g4.trans hlim, g5, g6⟩
           ·(try dsimp only); omega
           ·exact ⟨O, O, O, O, O, O, O, O, trivial⟩
           ·exact en
        ·refine l_off O O O O<|l_off O O O O<|l_off O O O O<|l_off O O O O<|l_q O (q_pk O O)<|mv O O<|l_on O O<|mv O O<|l_on O O<|lc1 O O O (LiveO_ok pa s') ?_
         refine l_on O O<|mv O O<|l_on O O<|l_q O (qi O O (b_gtr ·))<|l_q O (q_pk O O)<|lc<|t_if O (fun c12 => ?_) fun c12 => ?_
         ·omega
         ·refine t_skip<|n_blk<|n_code<|t_region<|l_q O (qadd O O) ?_
          refine mv O O<|l_nil ?_
          apply n_again ((i + 1, s', x', f'))
          ·exact ⟨hil, g1, g2, g4.trans hlim, g5, g6⟩
          ·(try dsimp only); omega
          ·exact ⟨O, O, O, O, O, O, O, O, trivial⟩
          ·exact en
       ·refine l_off O O O O<|l_off O O O O<|l_off O O O O<|l_off O O O O<|l_off O O O O<|l_off O O O O<|l_off O O O O<|l_q O (q_pk O O)<|asg O O<|lz<|mv O O<|mv O O<|l_off O O O O<|l_off O O O O<|l_off O O O O<|l_off O O O O<|l_q O (q_pk O O)<|mv O O<|l_on O O<|mv O O<|l_on O O<|lc1 O O O (LiveO_ok pa s') ?_
        refine l_on O O<|mv O O<|l_on O O<|l_q O (qi O O (b_gtr ·))<|l_q O (q_pk O O)<|lc<|t_if O (fun c12 => ?_) fun c12 => ?_
        ·omega
        ·refine t_skip<|n_blk<|n_code<|t_region<|l_q O (qadd O O) ?_
         refine mv O O<|l_nil ?_
         apply n_again ((i + 1, s', x', f'))
         ·exact ⟨hil, g1, g2, g4.trans hlim, g5, g6⟩
         ·(try dsimp only); omega
         ·exact ⟨O, O, O, O, O, O, O, O, trivial⟩
         ·exact en
   ·skip
    refine xt O<|n_code<|t_seq<|sr<|l_q O (qlda O yA27 yS27) ?_
    refine mv O O<|lc1 O O O (holds_ok pa off s l5_err hs H f hf hx gh) ?_
    refine l_q O (q_un O (u_not ·))<|lc<|t_if O (fun c13 => ?_) fun c13 => ?_
    ·exact absurd c13 (by decide)
    ·refine t_skip<|nz<|asg O O<|lc<|t_seq<|sr<|mv O O<|l_q O (ql O yU28)<|mv O O<|lc<|t_block ?_
     refine t_loop (fun y : Nat × Int => y.1 ≤ 1000 ∧ y.2 = -((cntF f y.1 : Nat) : Int)) (fun y => [(5, .pointer (some ⟨pa, 0, none⟩)), (6, .pointer (some ⟨b6, 0, none⟩)), (17, .int .i64 y.2), (105, .slice (some ⟨gh, 0, none⟩) 1000 1000), (106, .int .i64 1000), (107, .int .i64 ((y.1 : Nat) : Int))]) (fun y => ownS 3 1 (.slice (some ⟨gh, 0, none⟩) 1000 1000) 1000 (heldV (f)) :: pt b6 (.cells #[.pointer (some ⟨pa, 0, none⟩), .int .i64 l5.key, .int .i64 l5.elem, .int .i64 l5.ka, .int .i64 l5.ea, .int .i64 l5.cap, .int .i64 l5.eo, .int .i64 l5.bo, .int .i64 l5.slot, .int .i64 l5.group, .int .i64 ((off : Nat) : Int)] 27 (0, 0)) :: arenaH pa s :: G :: Fr) (fun y => 1000 - y.1) (0, 0) ⟨Nat.zero_le _, by dsimp only; rw [cntF_zero]; rfl⟩ ⟨rfl, rfl, rfl, rfl, rfl, rfl, trivial⟩ (by (exact en)) ?_
     rintro ⟨k, w⟩ ⟨hk, hw⟩
     dsimp only at hk hw ⊢
     have hcs := cntF_succ f k
     have hcb : cntF f k ≤ 1000 := hcle k hk
     refine sr<|l_q O (qi O O (b_lss ·))<|lc<|t_seq<|t_if O (fun c14 => ?_) fun c14 => ?_
     ·have hk9 : k < 1000 := by omega
      refine t_skip<|n_code<|t_seq<|t_block<|sr<|l_q O (q_indexAddr1 O O yU28 yS3 (by omega)) ?_
      apply l_q O
      ·apply q_loadOwn (v := .int .i64 ((f k : Nat) : Int)) rfl yA3
       ·exact tk
       ·rw [Nat.zero_add, Int.toNat_natCast]; exact held_get hk9
      refine asg O O<|lz<|mv O O<|l_q O (qi O O (b_neq ·))<|lc<|t_if O (fun c15 => ?_) fun c15 => ?_
      ·rw [if_neg (show ¬ f k = 0 by omega)] at hcs
       refine t_region<|mv O O<|l_q O (qsub O O) ?_
       refine asg O O<|l_nil<|n_blk<|n_code<|t_region<|l_q O (qadd O O) ?_
       refine mv O O<|l_nil ?_
       apply n_again ((k + 1, w - 1))
       ·exact ⟨hk9, by dsimp only; omega⟩
       ·(try dsimp only); omega
       ·exact ⟨O, O, O, O, O, O, trivial⟩
       ·exact en
      ·rw [if_pos (show f k = 0 by omega)] at hcs
       refine t_skip<|n_blk<|n_code<|t_region<|l_q O (qadd O O) ?_
       refine mv O O<|l_nil ?_
       apply n_again ((k + 1, w))
       ·exact ⟨hk9, by dsimp only; omega⟩
       ·(try dsimp only); omega
       ·exact ⟨O, O, O, O, O, O, trivial⟩
       ·exact en
     ·obtain rfl : k = 1000 := by omega
      have hxl9 : x.L.length = cntF f 1000 := by rw [hx, prs_ids, List.length_map, cntF_all]
      refine xt O<|nz<|l_q O (qlda O yA27 yS27) ?_
      refine lcf O O O (CutT_ok pa off s l5_err hs H ⟨#[]⟩ topK) ?_
      rintro v L' ⟨s9, x9, rfl, rfl, e0, e1, e2, e3, e4⟩
      refine l_nm ?_
      obtain rfl : x9 = none := tree_none e1 (by rw [e4, hx]; exact cut_all f)
      have hl9 : s9.live = 64 := by rw [live_eq e1, nC5]; rfl
      refine mv O O<|l_q O (q_extractL O ga) ?_
      refine l_q O (q_extractL O ga) ?_
      refine asg O O<|asg O O<|lz<|l_q O (qlda O yA27 yS27) ?_
      refine lc1 O O O (StatT_ok pa off s9 e0 e1) ?_
      refine mv O O<|l_q O (q_extractL O ga) ?_
      refine l_q O (q_extractL O ga) ?_
      refine o_allocA O yZ43 fun b22 => sta O O O yS43 O O ?_
      refine asg O O<|lz<|mv O O<|l_q O (qi O O (b_eql ·))<|mv O O<|l_pt (t := 128) rfl (fun c20 => ?_) fun c20 => ?_
      ·refine l_on O O<|mv O O<|l_on O O<|l_q O (qi O O (b_eql ·))<|l_q O (q_pk O O)<|mv O O<|l_pt (t := 132) rfl (fun c21 => ?_) fun c21 => ?_
       ·refine l_on O O<|mv O O<|l_on O O<|mv O O<|l_on O O<|l_q O (qadd O O) ?_
        refine l_on O O<|l_q O (qi O O (b_eql ·))<|l_q O (q_pk O O)<|mv O O<|l_pt (t := 138) rfl (fun c22 => ?_) fun c22 => ?_
        ·refine l_on O O<|l_q O (qlda O yA43 yS43) ?_
         refine l_on O O ?_
         apply l_q O
         ·apply q_buildS O yP43 yZ43
          ·exact FillR.nil
         refine l_on O O<|l_q O (q_bin O O (g_flat · yG43) fun w => b_eqlFlat w yU43 yH43 (by kernel_rfl) (by kernel_rfl)) ?_
         refine l_q O (q_pk O O)<|mv O O<|l_pt (t := 143) rfl (fun c23 => ?_) fun c23 => ?_
         ·refine l_on O O<|mv O O<|l_on O O<|lc1 O O O (LiveO_ok pa s9) ?_
          refine l_on O O<|l_q O (qi O O (b_eql ·))<|l_q O (q_pk O O)<|asg O O<|lc<|rt<|fr1 O ([G]) (.tmp rfl) ?_
          exact ⟨by rw [hl9]; rfl, rfl⟩
         ·exact absurd c23 (by simp [TX.L, TX.height, TX.offs])
        ·exact absurd (show ((x.L.length - (TX.L none).length : Nat) : Int) + w = 0 by rw [show (TX.L none).length = 0 from rfl]; omega) c22
       ·exact absurd rfl c21
      ·exact absurd rfl c20
 ·refine l_on O O<|mv O O<|l_on O O<|l_q O (qi O O (b_gtr ·))<|l_q O (q_pk O O)<|lc<|t_if O (fun c2 => ?_) fun c2 => ?_
  ·refine t_region<|asg O O<|lz<|mv O O<|lcf O O O (planted_ok G (.slice none 0 0) [] ⟨none, 0, rfl, fun h => absurd h (by decide)⟩ (Nat.zero_le _) (64) (by omega) (by omega) (.inl rfl)) ?_
   rintro v L' ⟨pa, gh, s0, off, x0, rfl, rfl, hs0, H0, hlim0, hf0, hx0⟩
   refine l_nm ?_
   refine mv O O<|l_q O (q_extractL O ga) ?_
   refine l_q O (q_extractL O ga) ?_
   refine l_q O (q_extractL O ga) ?_
   refine l_q O (q_extractL O ga) ?_
   refine o_allocA O yZ27 fun b6 => asg O O<|sta O O O yS27 O O ?_
   refine asg O O<|asg O O<|lc<|t_seq<|sr<|mv O O<|l_q O (q_un O (u_not ·))<|lc<|t_if O (fun z1 => ?_) fun z1 => ?_
   ·exact absurd z1 (by decide)
   ·refine t_skip<|nz<|lc1 O O O (Class_ok 320) ?_
    rw [cls320]
    refine asg O O<|lc<|t_seq<|sr<|mv O O<|l_q O (ql O yU22)<|mv O O<|lc<|t_block ?_
    refine t_loop (fun y : Nat × ArS × Bt.TX × (Nat → Nat) => y.1 ≤ ts.length ∧ y.2.1.ok ∧ TrOk l5 y.2.1 off y.2.2.1 [] ∧ y.2.1.limit = (64) ∧ (∀ i, y.2.2.2 i ≤ 256) ∧ y.2.2.1.L = prs y.2.2.2) (fun y => [(0, .int .i64 (64)), (5, .pointer (some ⟨pa, 0, none⟩)), (6, .pointer (some ⟨b6, 0, none⟩)), (7, .slice (some ⟨gh, 0, none⟩) 1000 1000), (9, .int .i64 384), (40, .slice ta ts.length tcap), (41, .int .i64 ((ts.length : Nat) : Int)), (42, .int .i64 ((y.1 : Nat) : Int))]) (fun y => ownS 3 1 (.slice (some ⟨gh, 0, none⟩) 1000 1000) 1000 (heldV (y.2.2.2)) :: pt b6 (.cells #[.pointer (some ⟨pa, 0, none⟩), .int .i64 l5.key, .int .i64 l5.elem, .int .i64 l5.ka, .int .i64 l5.ea, .int .i64 l5.cap, .int .i64 l5.eo, .int .i64 l5.bo, .int .i64 l5.slot, .int .i64 l5.group, .int .i64 ((off : Nat) : Int)] 27 (0, 0)) :: arenaH pa y.2.1 :: G :: Fr) (fun y => ts.length - y.1) (0, s0, x0, runF []) ⟨Nat.zero_le _, hs0, H0, hlim0, hf0, hx0⟩ ⟨rfl, rfl, rfl, rfl, rfl, rfl, rfl, rfl, trivial⟩ (by (exact en)) ?_
    rintro ⟨i, s, x, f⟩ ⟨hi, hs, H, hlim, hf, hx⟩
    dsimp only at hi hs H hlim hf hx ⊢
    obtain ⟨n1, n2⟩ := need_le hs H ⟨#[]⟩
    have hlr := hs.room
    have hlv : 64 ≤ s.live := by rw [live_eq H, nC5]; show (64 : Int) ≤ 64 + _ * 128 + 0; omega
    refine sr<|l_q O (qi O O (b_lss ·))<|lc<|t_seq<|t_if O (fun c5 => ?_) fun c5 => ?_
    ·have hil : i < ts.length := by omega
     obtain ⟨tb, to9, rfl, hT1⟩ := hT0 (by omega)
     obtain ⟨t, ht⟩ : ∃ t, ts[i]? = some t := ⟨ts[i], List.getElem?_eq_getElem hil⟩
     have hcell := cell_step hT1 ht
     have hxl : x.L.length ≤ 1000 := by rw [hx]; exact hpl f
     have hnn := need_le hs H (nameK (keyN t.2.1))
     have hkn0 : 0 ≤ t.2.1 % 1000 := Int.emod_nonneg _ (by decide)
     have hkn1 : t.2.1 % 1000 < 1000 := Int.emod_lt_of_pos _ (by decide)
     have hkN : (t.2.1 % ((1000 : Nat) : Int)).toNat = keyN t.2.1 := rfl
     have hk9 : keyN t.2.1 < 1000 := by unfold keyN; omega
     refine t_skip<|n_code<|t_seq<|t_block<|sr<|l_q O (q_indexAddr O O yU22 yS41 (by omega)) ?_
     apply l_q O
     ·apply q_loadRA (A := G) (us := [.int .i64 t.1, .int .i64 t.2.1, .int .i64 t.2.2]) rfl yA41 yS41 rfl
      ·exact tk
      ·exact hcell
     refine o_allocA O yZ41 fun b11 => sta O O O yS41 O O ?_
     refine lz<|l_q O (qlda O yA27 yS27) ?_
     refine lc1 O O O (StatT_ok pa off s hs H) ?_
     refine mv O O<|l_q O (q_extractL O ga) ?_
     refine l_q O (q_extractL O ga) ?_
     refine o_allocA O yZ43 fun b12 => sta O O O yS43 O O ?_
     refine asg O O<|lc<|t_seq<|sr<|mv O O<|l_q O (qi O O (b_neq ·))<|mv O O<|l_pt (t := 53) rfl (fun c6 => ?_) fun c6 => ?_
     ·exact absurd rfl c6
     ·refine l_on O O<|mv O O<|l_on O O<|l_q O (qi O O (b_lss ·))<|l_q O (q_pk O O)<|lc<|t_if O (fun c7 => ?_) fun c7 => ?_
      ·exact absurd c7 (by decide)
      ·refine t_skip<|n_code<|t_seq<|t_draw mixed ?_
       apply dq 0 O
       ·exact yq (q_move O)
       apply dq 2 O
       ·exact yq (qfa 1 O yU43 O O yS3)
       apply dq 3 O
       ·exact yq (qld O yA3)
       apply dq 4 O
       ·exact yq (qadd O O)
       apply dq 5 O
       ·exact yq (q_move O)
       apply dq 6 O
       ·exact yq (qmul O O)
       apply dq 8 O
       ·exact yq (q_move O)
       refine d_eff1 [0] [8, 6, 5, 4, 3, 2] 1 [(57, _)] gO ⟨rfl, trivial⟩ (by kernel_rfl) (by kernel_rfl) fun Ex => ?_
       refine lc1 O O O (LiveO_ok pa s) ?_
       refine l_nil ?_
       apply n_d
       ·refine ⟨?_, ?_, ?_, ?_, ?_, ?_, trivial⟩
        ·apply ya O O; exact yq (q_move O)
        ·apply ya O O; exact yq (qmul O O)
        ·apply ya O O; exact yq (q_move O)
        ·apply ya O O; exact yq (qadd O O)
        ·apply ya O O; exact yq (qld O yA3)
        ·apply ya O O; exact yq (qfa 1 O yU43 O O yS3)
       apply dq 7 O
       ·exact yq (qadd O O)
       apply dq 9 O
       ·exact yq (qi O O (b_gtr ·))
       refine d_eff1 [9, 2, 3, 4, 5, 6, 7, 8] [] 10 [(66, _)] gO ⟨rfl, trivial⟩ (by kernel_rfl) (by kernel_rfl) fun Ex => ?_
       refine asg O O<|l_nil ?_
       apply n_d
       ·exact trivial
       refine d_end (by kernel_rfl) ?_
       refine nz<|mv O O<|lc1 O O O (LiveO_ok pa s) ?_
       refine asg O O<|lc<|t_seq<|sr<|l_q O (qlda O yA27 yS27) ?_
       refine l_q O (qlda O yA41 yS41) ?_
       refine mv O O<|mv O O<|lcf O O O (grow_ok pa off s l5_err l5_k l5_e hs H gh f hf hx t.1 t.2.1 t.2.2 _) ?_
       rintro v L' ⟨s', x', f', rfl, g1, g2, g3, g4, g5, g6, hout⟩
       refine l_nm ?_
       have key : v = .bool true ∧ (t.1 = 0 → f' (keyN t.2.1) = 0 → s'.live = s.live) := by
        rcases hout with ⟨hv, hf'⟩ | ⟨hv, h0, hf', hs', hx', hm⟩
        ·refine ⟨hv, fun h0 hz => ?_⟩
         rw [hf'] at hz
         unfold stepF at hz
         rw [if_pos h0] at hz
         simp [upd] at hz
        ·refine ⟨?_, fun _ _ => by rw [hs']⟩
         rw [hv]
         congr 1
         refine decide_eq_true ?_
         rw [nC5] at hm
         omega
       obtain ⟨rfl, hlive⟩ := key
       have hlr2 := g1.room
       refine l_q O (q_un O (u_not ·))<|lc<|t_if O (fun c8 => ?_) fun c8 => ?_
       ·exact absurd c8 (by decide)
       ·refine t_skip<|nz<|l_q O (qfa 0 O yU41 O O yS3)<|l_q O (qld O yA3) ?_
        refine l_q O (qi O O (b_eql ·))<|mv O O<|l_pt (t := 78) rfl (fun c9 => ?_) fun c9 => ?_
        ·refine l_on O O<|mv O O<|l_on O O<|l_q O (qfa 1 O yU41 O O yS3)<|l_on O O<|l_q O (qld O yA3) ?_
         refine l_on O O<|lc1 O O O (within_ok t.2.1 1000 (by decide) (by decide)) ?_
         refine l_on O O<|l_q O (q_indexAddr1 O O yU28 yS3 (by omega)) ?_
         refine l_on O O ?_
         apply l_q O
         ·apply q_loadOwn (v := .int .i64 ((f' (keyN t.2.1) : Nat) : Int)) rfl yA3
          ·exact tk
          ·rw [Nat.zero_add, hkN]; exact held_get hk9
         refine l_on O O<|l_q O (qi O O (b_eql ·))<|l_q O (q_pk O O)<|asg O O<|lz<|mv O O<|mv O O<|l_pt (t := 88) rfl (fun c10 => ?_) fun c10 => ?_
         ·refine l_on O O<|mv O O<|l_on O O<|lc1 O O O (LiveO_ok pa s') ?_
          refine l_on O O<|mv O O<|l_on O O<|l_q O (qi O O (b_neq ·))<|l_q O (q_pk O O)<|mv O O<|l_pt (t := 94) rfl (fun c11 => ?_) fun c11 => ?_
          ·exact absurd (hlive c9 (by omega)) c11
          ·refine l_on O O<|mv O O<|l_on O O<|lc1 O O O (LiveO_ok pa s') ?_
           refine l_on O O<|mv O O<|l_on O O<|l_q O (qi O O (b_gtr ·))<|l_q O (q_pk O O)<|lc<|t_if O (fun c12 => ?_) fun c12 => ?_
           ·omega
           ·refine t_skip<|n_blk<|n_code<|t_region<|l_q O (qadd O O) ?_
            refine mv O O<|l_nil ?_
            apply n_again ((i + 1, s', x', f'))
            ·exact ⟨hil, g1, g2, g4.trans hlim, g5, g6⟩
            ·(try dsimp only); omega
            ·exact ⟨O, O, O, O, O, O, O, O, trivial⟩
            ·exact en
         ·refine l_off O O O O<|l_off O O O O<|l_off O O O O<|l_off O O O O<|l_q O (q_pk O O)<|mv O O<|l_on O O<|mv O O<|l_on O O<|lc1 O O O (LiveO_ok pa s') ?_
          refine l_on O O<|mv O O<|l_on O O<|l_q O (qi O O (b_gtr ·))<|l_q O (q_pk O O)<|lc<|t_if O (fun c12 => ?_) fun c12 => ?_
          ·omega
          ·refine t_skip<|n_blk<|n_code<|t_region<|l_q O (qadd O O) ?_
           refine mv O O<|l_nil ?_
           apply n_again ((i + 1, s', x', f'))
           ·exact ⟨hil, g1, g2, g4.trans hlim, g5, g6⟩
           ·(try dsimp only); omega
           ·exact ⟨O, O, O, O, O, O, O, O, trivial⟩
           ·exact en
        ·refine l_off O O O O<|l_off O O O O<|l_off O O O O<|l_off O O O O<|l_off O O O O<|l_off O O O O<|l_off O O O O<|l_q O (q_pk O O)<|asg O O<|lz<|mv O O<|mv O O<|l_off O O O O<|l_off O O O O<|l_off O O O O<|l_off O O O O<|l_q O (q_pk O O)<|mv O O<|l_on O O<|mv O O<|l_on O O<|lc1 O O O (LiveO_ok pa s') ?_
         refine l_on O O<|mv O O<|l_on O O<|l_q O (qi O O (b_gtr ·))<|l_q O (q_pk O O)<|lc<|t_if O (fun c12 => ?_) fun c12 => ?_
         ·omega
         ·refine t_skip<|n_blk<|n_code<|t_region<|l_q O (qadd O O) ?_
          refine mv O O<|l_nil ?_
          apply n_again ((i + 1, s', x', f'))
          ·exact ⟨hil, g1, g2, g4.trans hlim, g5, g6⟩
          ·(try dsimp only); omega
          ·exact ⟨O, O, O, O, O, O, O, O, trivial⟩
          ·exact en
    ·skip
     refine xt O<|n_code<|t_seq<|sr<|l_q O (qlda O yA27 yS27) ?_
     refine mv O O<|lc1 O O O (holds_ok pa off s l5_err hs H f hf hx gh) ?_
     refine l_q O (q_un O (u_not ·))<|lc<|t_if O (fun c13 => ?_) fun c13 => ?_
     ·exact absurd c13 (by decide)
     ·refine t_skip<|nz<|asg O O<|lc<|t_seq<|sr<|mv O O<|l_q O (ql O yU28)<|mv O O<|lc<|t_block ?_
      refine t_loop (fun y : Nat × Int => y.1 ≤ 1000 ∧ y.2 = -((cntF f y.1 : Nat) : Int)) (fun y => [(5, .pointer (some ⟨pa, 0, none⟩)), (6, .pointer (some ⟨b6, 0, none⟩)), (17, .int .i64 y.2), (105, .slice (some ⟨gh, 0, none⟩) 1000 1000), (106, .int .i64 1000), (107, .int .i64 ((y.1 : Nat) : Int))]) (fun y => ownS 3 1 (.slice (some ⟨gh, 0, none⟩) 1000 1000) 1000 (heldV (f)) :: pt b6 (.cells #[.pointer (some ⟨pa, 0, none⟩), .int .i64 l5.key, .int .i64 l5.elem, .int .i64 l5.ka, .int .i64 l5.ea, .int .i64 l5.cap, .int .i64 l5.eo, .int .i64 l5.bo, .int .i64 l5.slot, .int .i64 l5.group, .int .i64 ((off : Nat) : Int)] 27 (0, 0)) :: arenaH pa s :: G :: Fr) (fun y => 1000 - y.1) (0, 0) ⟨Nat.zero_le _, by dsimp only; rw [cntF_zero]; rfl⟩ ⟨rfl, rfl, rfl, rfl, rfl, rfl, trivial⟩ (by (exact en)) ?_
      rintro ⟨k, w⟩ ⟨hk, hw⟩
      dsimp only at hk hw ⊢
      have hcs := cntF_succ f k
      have hcb : cntF f k ≤ 1000 := hcle k hk
      refine sr<|l_q O (qi O O (b_lss ·))<|lc<|t_seq<|t_if O (fun c14 => ?_) fun c14 => ?_
      ·have hk9 : k < 1000 := by omega
       refine t_skip<|n_code<|t_seq<|t_block<|sr<|l_q O (q_indexAddr1 O O yU28 yS3 (by omega)) ?_
       apply l_q O
       ·apply q_loadOwn (v := .int .i64 ((f k : Nat) : Int)) rfl yA3
        ·exact tk
        ·rw [Nat.zero_add, Int.toNat_natCast]; exact held_get hk9
       refine asg O O<|lz<|mv O O<|l_q O (qi O O (b_neq ·))<|lc<|t_if O (fun c15 => ?_) fun c15 => ?_
       ·rw [if_neg (show ¬ f k = 0 by omega)] at hcs
        refine t_region<|mv O O<|l_q O (qsub O O) ?_
        refine asg O O<|l_nil<|n_blk<|n_code<|t_region<|l_q O (qadd O O) ?_
        refine mv O O<|l_nil ?_
        apply n_again ((k + 1, w - 1))
        ·exact ⟨hk9, by dsimp only; omega⟩
        ·(try dsimp only); omega
        ·exact ⟨O, O, O, O, O, O, trivial⟩
        ·exact en
       ·rw [if_pos (show f k = 0 by omega)] at hcs
        refine t_skip<|n_blk<|n_code<|t_region<|l_q O (qadd O O) ?_
        refine mv O O<|l_nil ?_
        apply n_again ((k + 1, w))
        ·exact ⟨hk9, by dsimp only; omega⟩
        ·(try dsimp only); omega
        ·exact ⟨O, O, O, O, O, O, trivial⟩
        ·exact en
      ·obtain rfl : k = 1000 := by omega
       have hxl9 : x.L.length = cntF f 1000 := by rw [hx, prs_ids, List.length_map, cntF_all]
       refine xt O<|nz<|l_q O (qlda O yA27 yS27) ?_
       refine lcf O O O (CutT_ok pa off s l5_err hs H ⟨#[]⟩ topK) ?_
       rintro v L' ⟨s9, x9, rfl, rfl, e0, e1, e2, e3, e4⟩
       refine l_nm ?_
       obtain rfl : x9 = none := tree_none e1 (by rw [e4, hx]; exact cut_all f)
       have hl9 : s9.live = 64 := by rw [live_eq e1, nC5]; rfl
       refine mv O O<|l_q O (q_extractL O ga) ?_
       refine l_q O (q_extractL O ga) ?_
       refine asg O O<|asg O O<|lz<|l_q O (qlda O yA27 yS27) ?_
       refine lc1 O O O (StatT_ok pa off s9 e0 e1) ?_
       refine mv O O<|l_q O (q_extractL O ga) ?_
       refine l_q O (q_extractL O ga) ?_
       refine o_allocA O yZ43 fun b22 => sta O O O yS43 O O ?_
       refine asg O O<|lz<|mv O O<|l_q O (qi O O (b_eql ·))<|mv O O<|l_pt (t := 128) rfl (fun c20 => ?_) fun c20 => ?_
       ·refine l_on O O<|mv O O<|l_on O O<|l_q O (qi O O (b_eql ·))<|l_q O (q_pk O O)<|mv O O<|l_pt (t := 132) rfl (fun c21 => ?_) fun c21 => ?_
        ·refine l_on O O<|mv O O<|l_on O O<|mv O O<|l_on O O<|l_q O (qadd O O) ?_
         refine l_on O O<|l_q O (qi O O (b_eql ·))<|l_q O (q_pk O O)<|mv O O<|l_pt (t := 138) rfl (fun c22 => ?_) fun c22 => ?_
         ·refine l_on O O<|l_q O (qlda O yA43 yS43) ?_
          refine l_on O O ?_
          apply l_q O
          ·apply q_buildS O yP43 yZ43
           ·exact FillR.nil
          refine l_on O O<|l_q O (q_bin O O (g_flat · yG43) fun w => b_eqlFlat w yU43 yH43 (by kernel_rfl) (by kernel_rfl)) ?_
          refine l_q O (q_pk O O)<|mv O O<|l_pt (t := 143) rfl (fun c23 => ?_) fun c23 => ?_
          ·refine l_on O O<|mv O O<|l_on O O<|lc1 O O O (LiveO_ok pa s9) ?_
           refine l_on O O<|l_q O (qi O O (b_eql ·))<|l_q O (q_pk O O)<|asg O O<|lc<|rt<|fr1 O ([G]) (.tmp rfl) ?_
           exact ⟨by rw [hl9]; rfl, rfl⟩
          ·exact absurd c23 (by simp [TX.L, TX.height, TX.offs])
         ·exact absurd (show ((x.L.length - (TX.L none).length : Nat) : Int) + w = 0 by rw [show (TX.L none).length = 0 from rfl]; omega) c22
        ·exact absurd rfl c21
       ·exact absurd rfl c20
  ·refine t_skip<|nz<|mv O O<|lcf O O O (planted_ok G (.slice none 0 0) [] ⟨none, 0, rfl, fun h => absurd h (by decide)⟩ (Nat.zero_le _) (lim0) (by omega) (by omega) (.inl rfl)) ?_
   rintro v L' ⟨pa, gh, s0, off, x0, rfl, rfl, hs0, H0, hlim0, hf0, hx0⟩
   refine l_nm ?_
   refine mv O O<|l_q O (q_extractL O ga) ?_
   refine l_q O (q_extractL O ga) ?_
   refine l_q O (q_extractL O ga) ?_
   refine l_q O (q_extractL O ga) ?_
   refine o_allocA O yZ27 fun b6 => asg O O<|sta O O O yS27 O O ?_
   refine asg O O<|asg O O<|lc<|t_seq<|sr<|mv O O<|l_q O (q_un O (u_not ·))<|lc<|t_if O (fun z1 => ?_) fun z1 => ?_
   ·exact absurd z1 (by decide)
   ·refine t_skip<|nz<|lc1 O O O (Class_ok 320) ?_
    rw [cls320]
    refine asg O O<|lc<|t_seq<|sr<|mv O O<|l_q O (ql O yU22)<|mv O O<|lc<|t_block ?_
    refine t_loop (fun y : Nat × ArS × Bt.TX × (Nat → Nat) => y.1 ≤ ts.length ∧ y.2.1.ok ∧ TrOk l5 y.2.1 off y.2.2.1 [] ∧ y.2.1.limit = (lim0) ∧ (∀ i, y.2.2.2 i ≤ 256) ∧ y.2.2.1.L = prs y.2.2.2) (fun y => [(0, .int .i64 (lim0)), (5, .pointer (some ⟨pa, 0, none⟩)), (6, .pointer (some ⟨b6, 0, none⟩)), (7, .slice (some ⟨gh, 0, none⟩) 1000 1000), (9, .int .i64 384), (40, .slice ta ts.length tcap), (41, .int .i64 ((ts.length : Nat) : Int)), (42, .int .i64 ((y.1 : Nat) : Int))]) (fun y => ownS 3 1 (.slice (some ⟨gh, 0, none⟩) 1000 1000) 1000 (heldV (y.2.2.2)) :: pt b6 (.cells #[.pointer (some ⟨pa, 0, none⟩), .int .i64 l5.key, .int .i64 l5.elem, .int .i64 l5.ka, .int .i64 l5.ea, .int .i64 l5.cap, .int .i64 l5.eo, .int .i64 l5.bo, .int .i64 l5.slot, .int .i64 l5.group, .int .i64 ((off : Nat) : Int)] 27 (0, 0)) :: arenaH pa y.2.1 :: G :: Fr) (fun y => ts.length - y.1) (0, s0, x0, runF []) ⟨Nat.zero_le _, hs0, H0, hlim0, hf0, hx0⟩ ⟨rfl, rfl, rfl, rfl, rfl, rfl, rfl, rfl, trivial⟩ (by (exact en)) ?_
    rintro ⟨i, s, x, f⟩ ⟨hi, hs, H, hlim, hf, hx⟩
    dsimp only at hi hs H hlim hf hx ⊢
    obtain ⟨n1, n2⟩ := need_le hs H ⟨#[]⟩
    have hlr := hs.room
    have hlv : 64 ≤ s.live := by rw [live_eq H, nC5]; show (64 : Int) ≤ 64 + _ * 128 + 0; omega
    refine sr<|l_q O (qi O O (b_lss ·))<|lc<|t_seq<|t_if O (fun c5 => ?_) fun c5 => ?_
    ·have hil : i < ts.length := by omega
     obtain ⟨tb, to9, rfl, hT1⟩ := hT0 (by omega)
     obtain ⟨t, ht⟩ : ∃ t, ts[i]? = some t := ⟨ts[i], List.getElem?_eq_getElem hil⟩
     have hcell := cell_step hT1 ht
     have hxl : x.L.length ≤ 1000 := by rw [hx]; exact hpl f
     have hnn := need_le hs H (nameK (keyN t.2.1))
     have hkn0 : 0 ≤ t.2.1 % 1000 := Int.emod_nonneg _ (by decide)
     have hkn1 : t.2.1 % 1000 < 1000 := Int.emod_lt_of_pos _ (by decide)
     have hkN : (t.2.1 % ((1000 : Nat) : Int)).toNat = keyN t.2.1 := rfl
     have hk9 : keyN t.2.1 < 1000 := by unfold keyN; omega
     refine t_skip<|n_code<|t_seq<|t_block<|sr<|l_q O (q_indexAddr O O yU22 yS41 (by omega)) ?_
     apply l_q O
     ·apply q_loadRA (A := G) (us := [.int .i64 t.1, .int .i64 t.2.1, .int .i64 t.2.2]) rfl yA41 yS41 rfl
      ·exact tk
      ·exact hcell
     refine o_allocA O yZ41 fun b11 => sta O O O yS41 O O ?_
     refine lz<|l_q O (qlda O yA27 yS27) ?_
     refine lc1 O O O (StatT_ok pa off s hs H) ?_
     refine mv O O<|l_q O (q_extractL O ga) ?_
     refine l_q O (q_extractL O ga) ?_
     refine o_allocA O yZ43 fun b12 => sta O O O yS43 O O ?_
     refine asg O O<|lc<|t_seq<|sr<|mv O O<|l_q O (qi O O (b_neq ·))<|mv O O<|l_pt (t := 53) rfl (fun c6 => ?_) fun c6 => ?_
     ·exact absurd rfl c6
     ·refine l_on O O<|mv O O<|l_on O O<|l_q O (qi O O (b_lss ·))<|l_q O (q_pk O O)<|lc<|t_if O (fun c7 => ?_) fun c7 => ?_
      ·exact absurd c7 (by decide)
      ·refine t_skip<|n_code<|t_seq<|t_draw mixed ?_
       apply dq 0 O
       ·exact yq (q_move O)
       apply dq 2 O
       ·exact yq (qfa 1 O yU43 O O yS3)
       apply dq 3 O
       ·exact yq (qld O yA3)
       apply dq 4 O
       ·exact yq (qadd O O)
       apply dq 5 O
       ·exact yq (q_move O)
       apply dq 6 O
       ·exact yq (qmul O O)
       apply dq 8 O
       ·exact yq (q_move O)
       refine d_eff1 [0] [8, 6, 5, 4, 3, 2] 1 [(57, _)] gO ⟨rfl, trivial⟩ (by kernel_rfl) (by kernel_rfl) fun Ex => ?_
       refine lc1 O O O (LiveO_ok pa s) ?_
       refine l_nil ?_
       apply n_d
       ·refine ⟨?_, ?_, ?_, ?_, ?_, ?_, trivial⟩
        ·apply ya O O; exact yq (q_move O)
        ·apply ya O O; exact yq (qmul O O)
        ·apply ya O O; exact yq (q_move O)
        ·apply ya O O; exact yq (qadd O O)
        ·apply ya O O; exact yq (qld O yA3)
        ·apply ya O O; exact yq (qfa 1 O yU43 O O yS3)
       apply dq 7 O
       ·exact yq (qadd O O)
       apply dq 9 O
       ·exact yq (qi O O (b_gtr ·))
       refine d_eff1 [9, 2, 3, 4, 5, 6, 7, 8] [] 10 [(66, _)] gO ⟨rfl, trivial⟩ (by kernel_rfl) (by kernel_rfl) fun Ex => ?_
       refine asg O O<|l_nil ?_
       apply n_d
       ·exact trivial
       refine d_end (by kernel_rfl) ?_
       refine nz<|mv O O<|lc1 O O O (LiveO_ok pa s) ?_
       refine asg O O<|lc<|t_seq<|sr<|l_q O (qlda O yA27 yS27) ?_
       refine l_q O (qlda O yA41 yS41) ?_
       refine mv O O<|mv O O<|lcf O O O (grow_ok pa off s l5_err l5_k l5_e hs H gh f hf hx t.1 t.2.1 t.2.2 _) ?_
       rintro v L' ⟨s', x', f', rfl, g1, g2, g3, g4, g5, g6, hout⟩
       refine l_nm ?_
       have key : v = .bool true ∧ (t.1 = 0 → f' (keyN t.2.1) = 0 → s'.live = s.live) := by
        rcases hout with ⟨hv, hf'⟩ | ⟨hv, h0, hf', hs', hx', hm⟩
        ·refine ⟨hv, fun h0 hz => ?_⟩
         rw [hf'] at hz
         unfold stepF at hz
         rw [if_pos h0] at hz
         simp [upd] at hz
        ·refine ⟨?_, fun _ _ => by rw [hs']⟩
         rw [hv]
         congr 1
         refine decide_eq_true ?_
         rw [nC5] at hm
         omega
       obtain ⟨rfl, hlive⟩ := key
       have hlr2 := g1.room
       refine l_q O (q_un O (u_not ·))<|lc<|t_if O (fun c8 => ?_) fun c8 => ?_
       ·exact absurd c8 (by decide)
       ·refine t_skip<|nz<|l_q O (qfa 0 O yU41 O O yS3)<|l_q O (qld O yA3) ?_
        refine l_q O (qi O O (b_eql ·))<|mv O O<|l_pt (t := 78) rfl (fun c9 => ?_) fun c9 => ?_
        ·refine l_on O O<|mv O O<|l_on O O<|l_q O (qfa 1 O yU41 O O yS3)<|l_on O O<|l_q O (qld O yA3) ?_
         refine l_on O O<|lc1 O O O (within_ok t.2.1 1000 (by decide) (by decide)) ?_
         refine l_on O O<|l_q O (q_indexAddr1 O O yU28 yS3 (by omega)) ?_
         refine l_on O O ?_
         apply l_q O
         ·apply q_loadOwn (v := .int .i64 ((f' (keyN t.2.1) : Nat) : Int)) rfl yA3
          ·exact tk
          ·rw [Nat.zero_add, hkN]; exact held_get hk9
         refine l_on O O<|l_q O (qi O O (b_eql ·))<|l_q O (q_pk O O)<|asg O O<|lz<|mv O O<|mv O O<|l_pt (t := 88) rfl (fun c10 => ?_) fun c10 => ?_
         ·refine l_on O O<|mv O O<|l_on O O<|lc1 O O O (LiveO_ok pa s') ?_
          refine l_on O O<|mv O O<|l_on O O<|l_q O (qi O O (b_neq ·))<|l_q O (q_pk O O)<|mv O O<|l_pt (t := 94) rfl (fun c11 => ?_) fun c11 => ?_
          ·exact absurd (hlive c9 (by omega)) c11
          ·refine l_on O O<|mv O O<|l_on O O<|lc1 O O O (LiveO_ok pa s') ?_
           refine l_on O O<|mv O O<|l_on O O<|l_q O (qi O O (b_gtr ·))<|l_q O (q_pk O O)<|lc<|t_if O (fun c12 => ?_) fun c12 => ?_
           ·omega
           ·refine t_skip<|n_blk<|n_code<|t_region<|l_q O (qadd O O) ?_
            refine mv O O<|l_nil ?_
            apply n_again ((i + 1, s', x', f'))
            ·exact ⟨hil, g1, g2, g4.trans hlim, g5, g6⟩
            ·(try dsimp only); omega
            ·exact ⟨O, O, O, O, O, O, O, O, trivial⟩
            ·exact en
         ·refine l_off O O O O<|l_off O O O O<|l_off O O O O<|l_off O O O O<|l_q O (q_pk O O)<|mv O O<|l_on O O<|mv O O<|l_on O O<|lc1 O O O (LiveO_ok pa s') ?_
          refine l_on O O<|mv O O<|l_on O O<|l_q O (qi O O (b_gtr ·))<|l_q O (q_pk O O)<|lc<|t_if O (fun c12 => ?_) fun c12 => ?_
          ·omega
          ·refine t_skip<|n_blk<|n_code<|t_region<|l_q O (qadd O O) ?_
           refine mv O O<|l_nil ?_
           apply n_again ((i + 1, s', x', f'))
           ·exact ⟨hil, g1, g2, g4.trans hlim, g5, g6⟩
           ·(try dsimp only); omega
           ·exact ⟨O, O, O, O, O, O, O, O, trivial⟩
           ·exact en
        ·refine l_off O O O O<|l_off O O O O<|l_off O O O O<|l_off O O O O<|l_off O O O O<|l_off O O O O<|l_off O O O O<|l_q O (q_pk O O)<|asg O O<|lz<|mv O O<|mv O O<|l_off O O O O<|l_off O O O O<|l_off O O O O<|l_off O O O O<|l_q O (q_pk O O)<|mv O O<|l_on O O<|mv O O<|l_on O O<|lc1 O O O (LiveO_ok pa s') ?_
         refine l_on O O<|mv O O<|l_on O O<|l_q O (qi O O (b_gtr ·))<|l_q O (q_pk O O)<|lc<|t_if O (fun c12 => ?_) fun c12 => ?_
         ·omega
         ·refine t_skip<|n_blk<|n_code<|t_region<|l_q O (qadd O O) ?_
          refine mv O O<|l_nil ?_
          apply n_again ((i + 1, s', x', f'))
          ·exact ⟨hil, g1, g2, g4.trans hlim, g5, g6⟩
          ·(try dsimp only); omega
          ·exact ⟨O, O, O, O, O, O, O, O, trivial⟩
          ·exact en
    ·skip
     refine xt O<|n_code<|t_seq<|sr<|l_q O (qlda O yA27 yS27) ?_
     refine mv O O<|lc1 O O O (holds_ok pa off s l5_err hs H f hf hx gh) ?_
     refine l_q O (q_un O (u_not ·))<|lc<|t_if O (fun c13 => ?_) fun c13 => ?_
     ·exact absurd c13 (by decide)
     ·refine t_skip<|nz<|asg O O<|lc<|t_seq<|sr<|mv O O<|l_q O (ql O yU28)<|mv O O<|lc<|t_block ?_
      refine t_loop (fun y : Nat × Int => y.1 ≤ 1000 ∧ y.2 = -((cntF f y.1 : Nat) : Int)) (fun y => [(5, .pointer (some ⟨pa, 0, none⟩)), (6, .pointer (some ⟨b6, 0, none⟩)), (17, .int .i64 y.2), (105, .slice (some ⟨gh, 0, none⟩) 1000 1000), (106, .int .i64 1000), (107, .int .i64 ((y.1 : Nat) : Int))]) (fun y => ownS 3 1 (.slice (some ⟨gh, 0, none⟩) 1000 1000) 1000 (heldV (f)) :: pt b6 (.cells #[.pointer (some ⟨pa, 0, none⟩), .int .i64 l5.key, .int .i64 l5.elem, .int .i64 l5.ka, .int .i64 l5.ea, .int .i64 l5.cap, .int .i64 l5.eo, .int .i64 l5.bo, .int .i64 l5.slot, .int .i64 l5.group, .int .i64 ((off : Nat) : Int)] 27 (0, 0)) :: arenaH pa s :: G :: Fr) (fun y => 1000 - y.1) (0, 0) ⟨Nat.zero_le _, by dsimp only; rw [cntF_zero]; rfl⟩ ⟨rfl, rfl, rfl, rfl, rfl, rfl, trivial⟩ (by (exact en)) ?_
      rintro ⟨k, w⟩ ⟨hk, hw⟩
      dsimp only at hk hw ⊢
      have hcs := cntF_succ f k
      have hcb : cntF f k ≤ 1000 := hcle k hk
      refine sr<|l_q O (qi O O (b_lss ·))<|lc<|t_seq<|t_if O (fun c14 => ?_) fun c14 => ?_
      ·have hk9 : k < 1000 := by omega
       refine t_skip<|n_code<|t_seq<|t_block<|sr<|l_q O (q_indexAddr1 O O yU28 yS3 (by omega)) ?_
       apply l_q O
       ·apply q_loadOwn (v := .int .i64 ((f k : Nat) : Int)) rfl yA3
        ·exact tk
        ·rw [Nat.zero_add, Int.toNat_natCast]; exact held_get hk9
       refine asg O O<|lz<|mv O O<|l_q O (qi O O (b_neq ·))<|lc<|t_if O (fun c15 => ?_) fun c15 => ?_
       ·rw [if_neg (show ¬ f k = 0 by omega)] at hcs
        refine t_region<|mv O O<|l_q O (qsub O O) ?_
        refine asg O O<|l_nil<|n_blk<|n_code<|t_region<|l_q O (qadd O O) ?_
        refine mv O O<|l_nil ?_
        apply n_again ((k + 1, w - 1))
        ·exact ⟨hk9, by dsimp only; omega⟩
        ·(try dsimp only); omega
        ·exact ⟨O, O, O, O, O, O, trivial⟩
        ·exact en
       ·rw [if_pos (show f k = 0 by omega)] at hcs
        refine t_skip<|n_blk<|n_code<|t_region<|l_q O (qadd O O) ?_
        refine mv O O<|l_nil ?_
        apply n_again ((k + 1, w))
        ·exact ⟨hk9, by dsimp only; omega⟩
        ·(try dsimp only); omega
        ·exact ⟨O, O, O, O, O, O, trivial⟩
        ·exact en
      ·obtain rfl : k = 1000 := by omega
       have hxl9 : x.L.length = cntF f 1000 := by rw [hx, prs_ids, List.length_map, cntF_all]
       refine xt O<|nz<|l_q O (qlda O yA27 yS27) ?_
       refine lcf O O O (CutT_ok pa off s l5_err hs H ⟨#[]⟩ topK) ?_
       rintro v L' ⟨s9, x9, rfl, rfl, e0, e1, e2, e3, e4⟩
       refine l_nm ?_
       obtain rfl : x9 = none := tree_none e1 (by rw [e4, hx]; exact cut_all f)
       have hl9 : s9.live = 64 := by rw [live_eq e1, nC5]; rfl
       refine mv O O<|l_q O (q_extractL O ga) ?_
       refine l_q O (q_extractL O ga) ?_
       refine asg O O<|asg O O<|lz<|l_q O (qlda O yA27 yS27) ?_
       refine lc1 O O O (StatT_ok pa off s9 e0 e1) ?_
       refine mv O O<|l_q O (q_extractL O ga) ?_
       refine l_q O (q_extractL O ga) ?_
       refine o_allocA O yZ43 fun b22 => sta O O O yS43 O O ?_
       refine asg O O<|lz<|mv O O<|l_q O (qi O O (b_eql ·))<|mv O O<|l_pt (t := 128) rfl (fun c20 => ?_) fun c20 => ?_
       ·refine l_on O O<|mv O O<|l_on O O<|l_q O (qi O O (b_eql ·))<|l_q O (q_pk O O)<|mv O O<|l_pt (t := 132) rfl (fun c21 => ?_) fun c21 => ?_
        ·refine l_on O O<|mv O O<|l_on O O<|mv O O<|l_on O O<|l_q O (qadd O O) ?_
         refine l_on O O<|l_q O (qi O O (b_eql ·))<|l_q O (q_pk O O)<|mv O O<|l_pt (t := 138) rfl (fun c22 => ?_) fun c22 => ?_
         ·refine l_on O O<|l_q O (qlda O yA43 yS43) ?_
          refine l_on O O ?_
          apply l_q O
          ·apply q_buildS O yP43 yZ43
           ·exact FillR.nil
          refine l_on O O<|l_q O (q_bin O O (g_flat · yG43) fun w => b_eqlFlat w yU43 yH43 (by kernel_rfl) (by kernel_rfl)) ?_
          refine l_q O (q_pk O O)<|mv O O<|l_pt (t := 143) rfl (fun c23 => ?_) fun c23 => ?_
          ·refine l_on O O<|mv O O<|l_on O O<|lc1 O O O (LiveO_ok pa s9) ?_
           refine l_on O O<|l_q O (qi O O (b_eql ·))<|l_q O (q_pk O O)<|asg O O<|lc<|rt<|fr1 O ([G]) (.tmp rfl) ?_
           exact ⟨by rw [hl9]; rfl, rfl⟩
          ·exact absurd c23 (by simp [TX.L, TX.height, TX.offs])
         ·exact absurd (show ((x.L.length - (TX.L none).length : Nat) : Int) + w = 0 by rw [show (TX.L none).length = 0 from rfl]; omega) c22
        ·exact absurd rfl c21
       ·exact absurd rfl c20
end Go.Proofs.Ytjekhcojebgpnaa.Ord
