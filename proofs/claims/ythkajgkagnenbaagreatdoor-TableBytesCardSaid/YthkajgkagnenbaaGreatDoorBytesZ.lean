import Derived.Test.YthkajgkagnenbaaGreatDoorRow08
import Derived.Test.YthkajgkagnenbaaGreatDoorBytesX
/- TableBytes answers true. -/
set_option linter.unusedVariables false
set_option linter.unusedSimpArgs false
set_option linter.unusedSectionVars false
set_option maxRecDepth 100000
namespace Go.Proofs.YthkajgkagnenbaaGreatDoor.BytesP
open Go.RowKit Go.Proofs Go.Proofs.YthkajgkagnenbaaGreatDoor.Eng Go.Proofs.YthkajgkagnenbaaGreatDoor.Ty Go.Proofs.YthkajgkagnenbaaGreatDoor.Bits Go.Proofs.YthkajgkagnenbaaGreatDoor.Mem Go.Proofs.YthkajgkagnenbaaGreatDoor.Search Go.Proofs.YthkajgkagnenbaaGreatDoor.Arena Go.Proofs.YthkajgkagnenbaaGreatDoor.CtrlB Go.Proofs.YthkajgkagnenbaaGreatDoor.Ctrl Go.Proofs.YthkajgkagnenbaaGreatDoor.Layout Go.Proofs.YthkajgkagnenbaaGreatDoor.GroupB Go.Proofs.YthkajgkagnenbaaGreatDoor.Group Go.Proofs.YthkajgkagnenbaaGreatDoor.Probe Go.Proofs.YthkajgkagnenbaaGreatDoor.TableB Go.Proofs.YthkajgkagnenbaaGreatDoor.TableI Go.Proofs.YthkajgkagnenbaaGreatDoor.Table Go.Proofs.YthkajgkagnenbaaGreatDoor.Bench Go.Proofs.YthkajgkagnenbaaGreatDoor.Cells Go.Proofs.YthkajgkagnenbaaGreatDoor.Refill Go.Proofs.YthkajgkagnenbaaGreatDoor.RefA Go.Proofs.YthkajgkagnenbaaGreatDoor.RefT Go.Proofs.YthkajgkagnenbaaGreatDoor.Ref03 Go.Proofs.YthkajgkagnenbaaGreatDoor.Exact

theorem TableBytes_ok (G : HP) (hG : TabOk G) (vf vs : Value) (xs : List Int) (os : List Op8) (hA : IntsAt G vf xs) (hS : OpsAt G vs os) (hmx : os.length * 72 ≤ 140737488351232) (how : ∀ o ∈ os, o.wf) (limit : Int) :
  FnOk Tryz.prog 3 #[vf, .int .i64 limit, vs] [G] (fun v L => v = .bool true ∧ L = [G]) := by
 obtain ⟨ta, tcap, rfl, hT0⟩ := hS
 refine fn_intro en3 Tryz.func3 rfl rfl rfl fun Fr w0 => t_nm ?_
 refine sr<|asg O O<|lz<|mv O O<|mv O O<|lcf O O O (begin_ok G vf xs hA limit) ?_
 rintro v L' ⟨pb, b, rfl, (⟨rfl, rfl⟩ | ⟨rfl, pa, pr, l, hl, hlim, rfl⟩)⟩
 refine l_nm ?_
 ·skip
  refine l_nm ?_
  refine mv O O<|l_q O (q_extractL O ga) ?_
  refine l_q O (q_extractL O ga) ?_
  refine l_q O (q_extractL O ga) ?_
  refine asg O O<|asg O O<|asg O O<|lc<|t_seq<|sr<|mv O O<|l_q O (q_un O (u_not ·))<|lc<|t_if O (fun p1 => ?_) fun p1 => ?_
  ·cases p1
  ·refine t_skip<|n_code<|t_seq<|sr<|mv O O<|l_q O (q_un O (u_not ·))<|lc<|t_if O (fun p2 => ?_) fun p2 => ?_
   ·exact sr<|asg O O<|lc<|rt<|fr1 O ([G]) (.tmp rfl) ⟨rfl, rfl⟩
   ·cases p2
 ·skip
  refine l_nm ?_
  refine mv O O<|l_q O (q_extractL O ga) ?_
  refine l_q O (q_extractL O ga) ?_
  refine l_q O (q_extractL O ga) ?_
  refine asg O O<|asg O O<|asg O O<|lc<|t_seq<|sr<|mv O O<|l_q O (q_un O (u_not ·))<|lc<|t_if O (fun p1 => ?_) fun p1 => ?_
  ·cases p1
  ·refine t_skip<|n_code<|t_seq<|sr<|mv O O<|l_q O (q_un O (u_not ·))<|lc<|t_if O (fun p2 => ?_) fun p2 => ?_
   ·cases p2
   ·refine t_skip<|n_code<|t_seq<|sr<|mv O O<|l_q O (ql O yU23)<|mv O O<|lc<|t_block ?_
    refine t_ent (show Ent _ (ownS 42 13 (.slice none 0 0) ([] : List PR).length (rowOf (pairC pa l) []) :: rtsH pr l [] :: _) from fun w h => own_nil (rts_nil w h)) ?_
    refine t_loop (fun x : Nat × ArS × List PR × Value => x.1 ≤ os.length ∧ All x.2.1 l x.2.2.1 ∧ x.2.2.1.length + deadN x.2.2.1 ≤ x.1) (fun x => [(7, .pointer (some ⟨pb, 0, none⟩)), (25, (.slice ta os.length tcap)), (26, .int .i64 (os.length : Nat)), (27, .int .i64 (x.1 : Nat))]) (fun x => G :: pt pb (.cells #[.pointer (some ⟨pa, 0, none⟩), .pointer (some ⟨pr, 0, none⟩), .int .i64 l.key, .int .i64 l.elem, .int .i64 l.ka, .int .i64 l.ea, .int .i64 l.cap, .int .i64 l.eo, .int .i64 l.bo, .int .i64 l.slot, .int .i64 l.group, x.2.2.2] 37 (0, 0)) :: ownS 42 13 x.2.2.2 x.2.2.1.length (rowOf (pairC pa l) x.2.2.1) :: rtsH pr l x.2.2.1 :: rarH pr x.2.1 :: arenaH pa x.2.1 :: Fr) (fun x => os.length - x.1) (0, ArS.new limit, [], _) ⟨by omega, All.nil _ _, by simp [deadN]⟩ ⟨rfl, rfl, rfl, rfl, trivial⟩ (by first | exact Ent.refl _ | (exact en)) ?_
    rintro ⟨i, s, ps, vP⟩ ⟨hi, hAll, hn⟩
    dsimp only at hi hAll hn ⊢
    refine t_pure (φ := s.ok) (fun w hw => arena_ok (pa := pa) hw tk) fun hok => ?_
    have hfew := hAll.few hok
    refine sr<|l_q O (qi O O (b_lss ·))<|lc<|t_seq<|t_if O (fun g1 => ?_) fun g1 => ?_
    ·skip
     have hil : i < os.length := by omega
     obtain ⟨tb, tof, rfl, hT1⟩ := hT0 (by omega)
     obtain ⟨o, ho⟩ : ∃ o, os[i]? = some o := ⟨os[i], List.getElem?_eq_getElem hil⟩
     have hcell := cell_op hT1 ho
     refine t_skip<|n_code<|t_seq<|t_block<|sr<|mv O O<|l_q O (q_indexAddr O O yU23 yS29 (by omega)) ?_
     apply l_q O
     ·apply q_loadRA (A := G) (us := [.int .i64 o.kind, .int .i64 o.t, .int .i64 o.n, .int .i64 o.m, .int .u64 o.h, .string o.k, .string o.e]) rfl yA29 yS29 O
      ·exact tk
      ·exact hcell
     refine o_allocA O yZ29 fun b11 => asg O O<|sta O O O yS29 O O ?_
     refine lc<|t_seq<|sr<|mv O O<|mv O O<|l_q O (qlda O yA29 yS29) ?_
     refine lcf O O O (plays_ok G hG pb pa pr l hl s hok ps vP (by omega) hAll (i : Nat) o (how o (List.mem_of_getElem? ho))) ?_
     rintro v L' ⟨s', ps', vP', rfl, rfl, hA2, hn2⟩
     refine l_nm ?_
     refine l_q O (q_un O (u_not ·))<|lc<|t_if O (fun g2 => ?_) fun g2 => ?_
     ·cases g2
     ·skip
      refine t_shape (e := 42) (sz := 13) (n := ps'.length) (v := vP') (xs := rowOf (pairC pa l) ps') tk fun _ hvp => ?_
      obtain ⟨a0, cap0, rfl, ha0, hcap0, _⟩ := hvp
      refine t_skip<|n_code<|t_seq<|sr<|l_q O (qfa 0 rfl yU29 O O yS3)<|l_q O (qld O yA3) ?_
      refine l_q O (qi O O (b_geq ·))<|mv O O<|l_pt (t := 40) rfl (fun c1 => ?_) fun c1 => ?_
      ·refine l_on O O<|l_q O (qfa 0 rfl yU29 O O yS3)<|l_on O O<|l_q O (qld O yA3) ?_
       refine l_on O O<|l_q O (qi O O (b_leq ·))<|l_q O (q_pk O O)<|lc<|t_if O (fun c2 => ?_) fun c2 => ?_
       ·refine xt O<|n_code<|t_region<|l_q O (qadd O O) ?_
        refine mv O O<|l_nil ?_
        apply n_again ((i + 1, s', ps', (.slice a0 ps'.length cap0)))
        ·exact ⟨by dsimp only; omega, hA2, by dsimp only; omega⟩
        ·dsimp only; omega
        ·exact ⟨rfl, rfl, rfl, rfl, trivial⟩
        ·exact en
       ·refine t_skip<|nz<|mv O O<|l_q O (q_nilCheck O)<|l_q O (qfa 11 rfl yU37 O O yS35)<|l_q O (qld O yA35) ?_
        refine l_q O (ql O yU35)<|mv O O<|lc<|t_block ?_
        refine t_pure (φ := s'.ok) (fun w hw => arena_ok (pa := pa) hw tk) fun hok2 => ?_
        refine t_loop (fun j : Nat => j ≤ ps'.length) (fun j => [(7, .pointer (some ⟨pb, 0, none⟩)), (25, (.slice (some ⟨tb, tof, none⟩) os.length tcap)), (26, .int .i64 (os.length : Nat)), (27, .int .i64 (i : Nat)), (48, (.slice a0 ps'.length cap0)), (49, .int .i64 (ps'.length : Nat)), (50, .int .i64 (j : Nat))]) (fun _ => G :: pt pb (.cells #[.pointer (some ⟨pa, 0, none⟩), .pointer (some ⟨pr, 0, none⟩), .int .i64 l.key, .int .i64 l.elem, .int .i64 l.ka, .int .i64 l.ea, .int .i64 l.cap, .int .i64 l.eo, .int .i64 l.bo, .int .i64 l.slot, .int .i64 l.group, (.slice a0 ps'.length cap0)] 37 (0, 0)) :: ownS 42 13 (.slice a0 ps'.length cap0) ps'.length (rowOf (pairC pa l) ps') :: rtsH pr l ps' :: rarH pr s' :: arenaH pa s' :: Fr) (fun j => ps'.length - j) 0 (Nat.zero_le _) ⟨rfl, rfl, rfl, rfl, rfl, rfl, rfl, trivial⟩ (by (exact en)) ?_
        intro k hkl
        refine sr<|l_q O (qi O O (b_lss ·))<|lc<|t_seq<|t_if O (fun m1 => ?_) fun m1 => ?_
        ·skip
         have hk : k < ps'.length := by omega
         obtain ⟨x, hx⟩ : ∃ x, ps'[k]? = some x := ⟨ps'[k], List.getElem?_eq_getElem hk⟩
         obtain ⟨g0, rfl⟩ := ha0 (by omega)
         refine t_ent (L' := rtH pr l x :: rtsH pr l (ps'.eraseIdx k) :: G :: pt pb (.cells #[.pointer (some ⟨pa, 0, none⟩), .pointer (some ⟨pr, 0, none⟩), .int .i64 l.key, .int .i64 l.elem, .int .i64 l.ka, .int .i64 l.ea, .int .i64 l.cap, .int .i64 l.eo, .int .i64 l.bo, .int .i64 l.slot, .int .i64 l.group, (.slice (some ⟨g0, 0, none⟩) ps'.length cap0)] 37 (0, 0)) :: ownS 42 13 (.slice (some ⟨g0, 0, none⟩) ps'.length cap0) ps'.length (rowOf (pairC pa l) ps') :: rarH pr s' :: arenaH pa s' :: Fr) (fun w h => rts_open hx w ((show Ent _ (rtsH pr l ps' :: G :: pt pb (.cells #[.pointer (some ⟨pa, 0, none⟩), .pointer (some ⟨pr, 0, none⟩), .int .i64 l.key, .int .i64 l.elem, .int .i64 l.ka, .int .i64 l.ea, .int .i64 l.cap, .int .i64 l.eo, .int .i64 l.bo, .int .i64 l.slot, .int .i64 l.group, (.slice (some ⟨g0, 0, none⟩) ps'.length cap0)] 37 (0, 0)) :: ownS 42 13 (.slice (some ⟨g0, 0, none⟩) ps'.length cap0) ps'.length (rowOf (pairC pa l) ps') :: rarH pr s' :: arenaH pa s' :: Fr) by (exact en)) w h)) ?_
         refine rt_open .here fun vc => ?_
         refine t_skip<|n_code<|t_seq<|t_block<|sr<|l_q O (q_indexAddr O O yU35 yS42 (by omega)) ?_
         apply l_q O
         ·apply q_loadRA (A := ownS 42 13 (.slice (some ⟨g0, 0, none⟩) ps'.length cap0) ps'.length (rowOf (pairC pa l) ps')) (us := [.pointer (some ⟨pa, 0, none⟩), .int .i64 l.key, .int .i64 l.elem, .int .i64 l.ka, .int .i64 l.ea, .int .i64 l.cap, .int .i64 l.eo, .int .i64 l.bo, .int .i64 l.slot, .int .i64 l.group, .int .i64 (x.off : Nat), .pointer (some ⟨x.p, 0, none⟩), .bool x.over]) rfl yA42 yS42 O
          ·exact tk
          ·exact pair_cell hx _ _ _
         refine o_allocA O yZ42 fun b13 => sta O O O yS42 O O ?_
         refine lz<|l_q O (qfa 11 rfl yU42 O O yS40)<|l_q O (qld O yA40) ?_
         refine l_q O (q_nilCheck O)<|l_q O (qfa 18 rfl yU45 O O yS4)<|l_q O (qld O yA4) ?_
         refine l_q O (q_un O (u_not ·))<|mv O O<|l_pt (t := 60) rfl (fun d1 => ?_) fun d1 => ?_
         ·skip
          have hd : x.dead = false := by simpa using d1
          refine l_ent (L' := rtH pr l x :: rtsH pr l (ps'.eraseIdx k) :: pt b13 (.cells #[.pointer (some ⟨pa, 0, none⟩), .int .i64 l.key, .int .i64 l.elem, .int .i64 l.ka, .int .i64 l.ea, .int .i64 l.cap, .int .i64 l.eo, .int .i64 l.bo, .int .i64 l.slot, .int .i64 l.group, .int .i64 (x.off : Nat), .pointer (some ⟨x.p, 0, none⟩), .bool x.over] 42 (0, 0)) :: G :: pt pb (.cells #[.pointer (some ⟨pa, 0, none⟩), .pointer (some ⟨pr, 0, none⟩), .int .i64 l.key, .int .i64 l.elem, .int .i64 l.ka, .int .i64 l.ea, .int .i64 l.cap, .int .i64 l.eo, .int .i64 l.bo, .int .i64 l.slot, .int .i64 l.group, (.slice (some ⟨g0, 0, none⟩) ps'.length cap0)] 37 (0, 0)) :: ownS 42 13 (.slice (some ⟨g0, 0, none⟩) ps'.length cap0) ps'.length (rowOf (pairC pa l) ps') :: rarH pr s' :: arenaH pa s' :: Fr) (rt_close (R := rtsH pr l (ps'.eraseIdx k) :: pt b13 (.cells #[.pointer (some ⟨pa, 0, none⟩), .int .i64 l.key, .int .i64 l.elem, .int .i64 l.ka, .int .i64 l.ea, .int .i64 l.cap, .int .i64 l.eo, .int .i64 l.bo, .int .i64 l.slot, .int .i64 l.group, .int .i64 (x.off : Nat), .pointer (some ⟨x.p, 0, none⟩), .bool x.over] 42 (0, 0)) :: G :: pt pb (.cells #[.pointer (some ⟨pa, 0, none⟩), .pointer (some ⟨pr, 0, none⟩), .int .i64 l.key, .int .i64 l.elem, .int .i64 l.ka, .int .i64 l.ea, .int .i64 l.cap, .int .i64 l.eo, .int .i64 l.bo, .int .i64 l.slot, .int .i64 l.group, (.slice (some ⟨g0, 0, none⟩) ps'.length cap0)] 37 (0, 0)) :: ownS 42 13 (.slice (some ⟨g0, 0, none⟩) ps'.length cap0) ps'.length (rowOf (pairC pa l) ps') :: rarH pr s' :: arenaH pa s' :: Fr) vc (by (exact en))) ?_
          refine l_on O O<|mv O O<|l_on O O<|l_q O (qfa 11 rfl yU42 O O yS40)<|l_on O O<|l_q O (qld O yA40) ?_
          refine l_on O O<|lc1 O O O (bytes_ok pb pa pr s' hok2 l hl x (hA2.at hx) hd (.slice (some ⟨g0, 0, none⟩) ps'.length cap0)) ?_
          refine l_on O O<|l_q O (q_un O (u_not ·))<|l_q O (q_pk O O)<|lc<|t_if O (fun d2 => ?_) fun d2 => ?_
          ·cases d2
          ·skip
           refine t_ent (L' := G :: pt pb (.cells #[.pointer (some ⟨pa, 0, none⟩), .pointer (some ⟨pr, 0, none⟩), .int .i64 l.key, .int .i64 l.elem, .int .i64 l.ka, .int .i64 l.ea, .int .i64 l.cap, .int .i64 l.eo, .int .i64 l.bo, .int .i64 l.slot, .int .i64 l.group, (.slice (some ⟨g0, 0, none⟩) ps'.length cap0)] 37 (0, 0)) :: ownS 42 13 (.slice (some ⟨g0, 0, none⟩) ps'.length cap0) ps'.length (rowOf (pairC pa l) ps') :: rtsH pr l ps' :: rarH pr s' :: arenaH pa s' :: Fr) (fun w h => ?_) ?_
           ·have h2 := rts_close hk w ((show Ent _ (rtH pr l x :: rtsH pr l (ps'.eraseIdx k) :: G :: pt pb (.cells #[.pointer (some ⟨pa, 0, none⟩), .pointer (some ⟨pr, 0, none⟩), .int .i64 l.key, .int .i64 l.elem, .int .i64 l.ka, .int .i64 l.ea, .int .i64 l.cap, .int .i64 l.eo, .int .i64 l.bo, .int .i64 l.slot, .int .i64 l.group, (.slice (some ⟨g0, 0, none⟩) ps'.length cap0)] 37 (0, 0)) :: ownS 42 13 (.slice (some ⟨g0, 0, none⟩) ps'.length cap0) ps'.length (rowOf (pairC pa l) ps') :: rarH pr s' :: arenaH pa s' :: Fr) by (exact en)) w h)
            rw [set_same hx] at h2
            exact (show Ent (rtsH pr l ps' :: G :: pt pb (.cells #[.pointer (some ⟨pa, 0, none⟩), .pointer (some ⟨pr, 0, none⟩), .int .i64 l.key, .int .i64 l.elem, .int .i64 l.ka, .int .i64 l.ea, .int .i64 l.cap, .int .i64 l.eo, .int .i64 l.bo, .int .i64 l.slot, .int .i64 l.group, (.slice (some ⟨g0, 0, none⟩) ps'.length cap0)] 37 (0, 0)) :: ownS 42 13 (.slice (some ⟨g0, 0, none⟩) ps'.length cap0) ps'.length (rowOf (pairC pa l) ps') :: rarH pr s' :: arenaH pa s' :: Fr) _ by (exact en)) w h2
           refine t_skip<|n_blk<|n_code<|t_region<|l_q O (qadd O O) ?_
           refine mv O O<|l_nil ?_
           apply n_again ((k + 1))
           ·exact (show k + 1 ≤ ps'.length by omega)
           ·omega
           ·exact ⟨rfl, rfl, rfl, rfl, rfl, rfl, rfl, trivial⟩
           ·exact en
         ·refine l_off O O O O<|l_off O O O O<|l_off O O O O<|l_off O O O O<|l_off O O O O<|l_q O (q_pk O O)<|lc<|t_cond_f O<|t_skip<|n_blk<|n_code<|t_region<|l_q O (qadd O O) ?_
          refine mv O O<|l_nil ?_
          refine n_ent (L' := G :: pt pb (.cells #[.pointer (some ⟨pa, 0, none⟩), .pointer (some ⟨pr, 0, none⟩), .int .i64 l.key, .int .i64 l.elem, .int .i64 l.ka, .int .i64 l.ea, .int .i64 l.cap, .int .i64 l.eo, .int .i64 l.bo, .int .i64 l.slot, .int .i64 l.group, (.slice (some ⟨g0, 0, none⟩) ps'.length cap0)] 37 (0, 0)) :: ownS 42 13 (.slice (some ⟨g0, 0, none⟩) ps'.length cap0) ps'.length (rowOf (pairC pa l) ps') :: rtsH pr l ps' :: rarH pr s' :: arenaH pa s' :: Fr) (fun w h => ?_) ?_
          ·have h2 := rts_close hk w (rt_close (R := rtsH pr l (ps'.eraseIdx k) :: G :: pt pb (.cells #[.pointer (some ⟨pa, 0, none⟩), .pointer (some ⟨pr, 0, none⟩), .int .i64 l.key, .int .i64 l.elem, .int .i64 l.ka, .int .i64 l.ea, .int .i64 l.cap, .int .i64 l.eo, .int .i64 l.bo, .int .i64 l.slot, .int .i64 l.group, (.slice (some ⟨g0, 0, none⟩) ps'.length cap0)] 37 (0, 0)) :: ownS 42 13 (.slice (some ⟨g0, 0, none⟩) ps'.length cap0) ps'.length (rowOf (pairC pa l) ps') :: rarH pr s' :: arenaH pa s' :: Fr) vc (by (exact en)) w h)
           rw [set_same hx] at h2
           exact (show Ent (rtsH pr l ps' :: G :: pt pb (.cells #[.pointer (some ⟨pa, 0, none⟩), .pointer (some ⟨pr, 0, none⟩), .int .i64 l.key, .int .i64 l.elem, .int .i64 l.ka, .int .i64 l.ea, .int .i64 l.cap, .int .i64 l.eo, .int .i64 l.bo, .int .i64 l.slot, .int .i64 l.group, (.slice (some ⟨g0, 0, none⟩) ps'.length cap0)] 37 (0, 0)) :: ownS 42 13 (.slice (some ⟨g0, 0, none⟩) ps'.length cap0) ps'.length (rowOf (pairC pa l) ps') :: rarH pr s' :: arenaH pa s' :: Fr) _ by (exact en)) w h2
          apply n_again ((k + 1))
          ·exact (show k + 1 ≤ ps'.length by omega)
          ·omega
          ·exact ⟨rfl, rfl, rfl, rfl, rfl, rfl, rfl, trivial⟩
          ·exact en
        ·skip
         refine xt O<|n_blk<|n_code<|t_region<|l_q O (qadd O O) ?_
         refine mv O O<|l_nil ?_
         apply n_again ((i + 1, s', ps', (.slice a0 ps'.length cap0)))
         ·exact ⟨by dsimp only; omega, hA2, by dsimp only; omega⟩
         ·dsimp only; omega
         ·exact ⟨rfl, rfl, rfl, rfl, trivial⟩
         ·exact en
      ·refine l_off O O O O<|l_off O O O O<|l_off O O O O<|l_q O (q_pk O O)<|lc<|t_cond_f O<|t_skip<|nz<|mv O O<|l_q O (q_nilCheck O)<|l_q O (qfa 11 rfl yU37 O O yS35)<|l_q O (qld O yA35) ?_
       refine l_q O (ql O yU35)<|mv O O<|lc<|t_block ?_
       refine t_pure (φ := s'.ok) (fun w hw => arena_ok (pa := pa) hw tk) fun hok2 => ?_
       refine t_loop (fun j : Nat => j ≤ ps'.length) (fun j => [(7, .pointer (some ⟨pb, 0, none⟩)), (25, (.slice (some ⟨tb, tof, none⟩) os.length tcap)), (26, .int .i64 (os.length : Nat)), (27, .int .i64 (i : Nat)), (48, (.slice a0 ps'.length cap0)), (49, .int .i64 (ps'.length : Nat)), (50, .int .i64 (j : Nat))]) (fun _ => G :: pt pb (.cells #[.pointer (some ⟨pa, 0, none⟩), .pointer (some ⟨pr, 0, none⟩), .int .i64 l.key, .int .i64 l.elem, .int .i64 l.ka, .int .i64 l.ea, .int .i64 l.cap, .int .i64 l.eo, .int .i64 l.bo, .int .i64 l.slot, .int .i64 l.group, (.slice a0 ps'.length cap0)] 37 (0, 0)) :: ownS 42 13 (.slice a0 ps'.length cap0) ps'.length (rowOf (pairC pa l) ps') :: rtsH pr l ps' :: rarH pr s' :: arenaH pa s' :: Fr) (fun j => ps'.length - j) 0 (Nat.zero_le _) ⟨rfl, rfl, rfl, rfl, rfl, rfl, rfl, trivial⟩ (by (exact en)) ?_
       intro k hkl
       refine sr<|l_q O (qi O O (b_lss ·))<|lc<|t_seq<|t_if O (fun m1 => ?_) fun m1 => ?_
       ·skip
        have hk : k < ps'.length := by omega
        obtain ⟨x, hx⟩ : ∃ x, ps'[k]? = some x := ⟨ps'[k], List.getElem?_eq_getElem hk⟩
        obtain ⟨g0, rfl⟩ := ha0 (by omega)
        refine t_ent (L' := rtH pr l x :: rtsH pr l (ps'.eraseIdx k) :: G :: pt pb (.cells #[.pointer (some ⟨pa, 0, none⟩), .pointer (some ⟨pr, 0, none⟩), .int .i64 l.key, .int .i64 l.elem, .int .i64 l.ka, .int .i64 l.ea, .int .i64 l.cap, .int .i64 l.eo, .int .i64 l.bo, .int .i64 l.slot, .int .i64 l.group, (.slice (some ⟨g0, 0, none⟩) ps'.length cap0)] 37 (0, 0)) :: ownS 42 13 (.slice (some ⟨g0, 0, none⟩) ps'.length cap0) ps'.length (rowOf (pairC pa l) ps') :: rarH pr s' :: arenaH pa s' :: Fr) (fun w h => rts_open hx w ((show Ent _ (rtsH pr l ps' :: G :: pt pb (.cells #[.pointer (some ⟨pa, 0, none⟩), .pointer (some ⟨pr, 0, none⟩), .int .i64 l.key, .int .i64 l.elem, .int .i64 l.ka, .int .i64 l.ea, .int .i64 l.cap, .int .i64 l.eo, .int .i64 l.bo, .int .i64 l.slot, .int .i64 l.group, (.slice (some ⟨g0, 0, none⟩) ps'.length cap0)] 37 (0, 0)) :: ownS 42 13 (.slice (some ⟨g0, 0, none⟩) ps'.length cap0) ps'.length (rowOf (pairC pa l) ps') :: rarH pr s' :: arenaH pa s' :: Fr) by (exact en)) w h)) ?_
        refine rt_open .here fun vc => ?_
        refine t_skip<|n_code<|t_seq<|t_block<|sr<|l_q O (q_indexAddr O O yU35 yS42 (by omega)) ?_
        apply l_q O
        ·apply q_loadRA (A := ownS 42 13 (.slice (some ⟨g0, 0, none⟩) ps'.length cap0) ps'.length (rowOf (pairC pa l) ps')) (us := [.pointer (some ⟨pa, 0, none⟩), .int .i64 l.key, .int .i64 l.elem, .int .i64 l.ka, .int .i64 l.ea, .int .i64 l.cap, .int .i64 l.eo, .int .i64 l.bo, .int .i64 l.slot, .int .i64 l.group, .int .i64 (x.off : Nat), .pointer (some ⟨x.p, 0, none⟩), .bool x.over]) rfl yA42 yS42 O
         ·exact tk
         ·exact pair_cell hx _ _ _
        refine o_allocA O yZ42 fun b13 => sta O O O yS42 O O ?_
        refine lz<|l_q O (qfa 11 rfl yU42 O O yS40)<|l_q O (qld O yA40) ?_
        refine l_q O (q_nilCheck O)<|l_q O (qfa 18 rfl yU45 O O yS4)<|l_q O (qld O yA4) ?_
        refine l_q O (q_un O (u_not ·))<|mv O O<|l_pt (t := 60) rfl (fun d1 => ?_) fun d1 => ?_
        ·skip
         have hd : x.dead = false := by simpa using d1
         refine l_ent (L' := rtH pr l x :: rtsH pr l (ps'.eraseIdx k) :: pt b13 (.cells #[.pointer (some ⟨pa, 0, none⟩), .int .i64 l.key, .int .i64 l.elem, .int .i64 l.ka, .int .i64 l.ea, .int .i64 l.cap, .int .i64 l.eo, .int .i64 l.bo, .int .i64 l.slot, .int .i64 l.group, .int .i64 (x.off : Nat), .pointer (some ⟨x.p, 0, none⟩), .bool x.over] 42 (0, 0)) :: G :: pt pb (.cells #[.pointer (some ⟨pa, 0, none⟩), .pointer (some ⟨pr, 0, none⟩), .int .i64 l.key, .int .i64 l.elem, .int .i64 l.ka, .int .i64 l.ea, .int .i64 l.cap, .int .i64 l.eo, .int .i64 l.bo, .int .i64 l.slot, .int .i64 l.group, (.slice (some ⟨g0, 0, none⟩) ps'.length cap0)] 37 (0, 0)) :: ownS 42 13 (.slice (some ⟨g0, 0, none⟩) ps'.length cap0) ps'.length (rowOf (pairC pa l) ps') :: rarH pr s' :: arenaH pa s' :: Fr) (rt_close (R := rtsH pr l (ps'.eraseIdx k) :: pt b13 (.cells #[.pointer (some ⟨pa, 0, none⟩), .int .i64 l.key, .int .i64 l.elem, .int .i64 l.ka, .int .i64 l.ea, .int .i64 l.cap, .int .i64 l.eo, .int .i64 l.bo, .int .i64 l.slot, .int .i64 l.group, .int .i64 (x.off : Nat), .pointer (some ⟨x.p, 0, none⟩), .bool x.over] 42 (0, 0)) :: G :: pt pb (.cells #[.pointer (some ⟨pa, 0, none⟩), .pointer (some ⟨pr, 0, none⟩), .int .i64 l.key, .int .i64 l.elem, .int .i64 l.ka, .int .i64 l.ea, .int .i64 l.cap, .int .i64 l.eo, .int .i64 l.bo, .int .i64 l.slot, .int .i64 l.group, (.slice (some ⟨g0, 0, none⟩) ps'.length cap0)] 37 (0, 0)) :: ownS 42 13 (.slice (some ⟨g0, 0, none⟩) ps'.length cap0) ps'.length (rowOf (pairC pa l) ps') :: rarH pr s' :: arenaH pa s' :: Fr) vc (by (exact en))) ?_
         refine l_on O O<|mv O O<|l_on O O<|l_q O (qfa 11 rfl yU42 O O yS40)<|l_on O O<|l_q O (qld O yA40) ?_
         refine l_on O O<|lc1 O O O (bytes_ok pb pa pr s' hok2 l hl x (hA2.at hx) hd (.slice (some ⟨g0, 0, none⟩) ps'.length cap0)) ?_
         refine l_on O O<|l_q O (q_un O (u_not ·))<|l_q O (q_pk O O)<|lc<|t_if O (fun d2 => ?_) fun d2 => ?_
         ·cases d2
         ·skip
          refine t_ent (L' := G :: pt pb (.cells #[.pointer (some ⟨pa, 0, none⟩), .pointer (some ⟨pr, 0, none⟩), .int .i64 l.key, .int .i64 l.elem, .int .i64 l.ka, .int .i64 l.ea, .int .i64 l.cap, .int .i64 l.eo, .int .i64 l.bo, .int .i64 l.slot, .int .i64 l.group, (.slice (some ⟨g0, 0, none⟩) ps'.length cap0)] 37 (0, 0)) :: ownS 42 13 (.slice (some ⟨g0, 0, none⟩) ps'.length cap0) ps'.length (rowOf (pairC pa l) ps') :: rtsH pr l ps' :: rarH pr s' :: arenaH pa s' :: Fr) (fun w h => ?_) ?_
          ·have h2 := rts_close hk w ((show Ent _ (rtH pr l x :: rtsH pr l (ps'.eraseIdx k) :: G :: pt pb (.cells #[.pointer (some ⟨pa, 0, none⟩), .pointer (some ⟨pr, 0, none⟩), .int .i64 l.key, .int .i64 l.elem, .int .i64 l.ka, .int .i64 l.ea, .int .i64 l.cap, .int .i64 l.eo, .int .i64 l.bo, .int .i64 l.slot, .int .i64 l.group, (.slice (some ⟨g0, 0, none⟩) ps'.length cap0)] 37 (0, 0)) :: ownS 42 13 (.slice (some ⟨g0, 0, none⟩) ps'.length cap0) ps'.length (rowOf (pairC pa l) ps') :: rarH pr s' :: arenaH pa s' :: Fr) by (exact en)) w h)
           rw [set_same hx] at h2
           exact (show Ent (rtsH pr l ps' :: G :: pt pb (.cells #[.pointer (some ⟨pa, 0, none⟩), .pointer (some ⟨pr, 0, none⟩), .int .i64 l.key, .int .i64 l.elem, .int .i64 l.ka, .int .i64 l.ea, .int .i64 l.cap, .int .i64 l.eo, .int .i64 l.bo, .int .i64 l.slot, .int .i64 l.group, (.slice (some ⟨g0, 0, none⟩) ps'.length cap0)] 37 (0, 0)) :: ownS 42 13 (.slice (some ⟨g0, 0, none⟩) ps'.length cap0) ps'.length (rowOf (pairC pa l) ps') :: rarH pr s' :: arenaH pa s' :: Fr) _ by (exact en)) w h2
          refine t_skip<|n_blk<|n_code<|t_region<|l_q O (qadd O O) ?_
          refine mv O O<|l_nil ?_
          apply n_again ((k + 1))
          ·exact (show k + 1 ≤ ps'.length by omega)
          ·omega
          ·exact ⟨rfl, rfl, rfl, rfl, rfl, rfl, rfl, trivial⟩
          ·exact en
        ·refine l_off O O O O<|l_off O O O O<|l_off O O O O<|l_off O O O O<|l_off O O O O<|l_q O (q_pk O O)<|lc<|t_cond_f O<|t_skip<|n_blk<|n_code<|t_region<|l_q O (qadd O O) ?_
         refine mv O O<|l_nil ?_
         refine n_ent (L' := G :: pt pb (.cells #[.pointer (some ⟨pa, 0, none⟩), .pointer (some ⟨pr, 0, none⟩), .int .i64 l.key, .int .i64 l.elem, .int .i64 l.ka, .int .i64 l.ea, .int .i64 l.cap, .int .i64 l.eo, .int .i64 l.bo, .int .i64 l.slot, .int .i64 l.group, (.slice (some ⟨g0, 0, none⟩) ps'.length cap0)] 37 (0, 0)) :: ownS 42 13 (.slice (some ⟨g0, 0, none⟩) ps'.length cap0) ps'.length (rowOf (pairC pa l) ps') :: rtsH pr l ps' :: rarH pr s' :: arenaH pa s' :: Fr) (fun w h => ?_) ?_
         ·have h2 := rts_close hk w (rt_close (R := rtsH pr l (ps'.eraseIdx k) :: G :: pt pb (.cells #[.pointer (some ⟨pa, 0, none⟩), .pointer (some ⟨pr, 0, none⟩), .int .i64 l.key, .int .i64 l.elem, .int .i64 l.ka, .int .i64 l.ea, .int .i64 l.cap, .int .i64 l.eo, .int .i64 l.bo, .int .i64 l.slot, .int .i64 l.group, (.slice (some ⟨g0, 0, none⟩) ps'.length cap0)] 37 (0, 0)) :: ownS 42 13 (.slice (some ⟨g0, 0, none⟩) ps'.length cap0) ps'.length (rowOf (pairC pa l) ps') :: rarH pr s' :: arenaH pa s' :: Fr) vc (by (exact en)) w h)
          rw [set_same hx] at h2
          exact (show Ent (rtsH pr l ps' :: G :: pt pb (.cells #[.pointer (some ⟨pa, 0, none⟩), .pointer (some ⟨pr, 0, none⟩), .int .i64 l.key, .int .i64 l.elem, .int .i64 l.ka, .int .i64 l.ea, .int .i64 l.cap, .int .i64 l.eo, .int .i64 l.bo, .int .i64 l.slot, .int .i64 l.group, (.slice (some ⟨g0, 0, none⟩) ps'.length cap0)] 37 (0, 0)) :: ownS 42 13 (.slice (some ⟨g0, 0, none⟩) ps'.length cap0) ps'.length (rowOf (pairC pa l) ps') :: rarH pr s' :: arenaH pa s' :: Fr) _ by (exact en)) w h2
         apply n_again ((k + 1))
         ·exact (show k + 1 ≤ ps'.length by omega)
         ·omega
         ·exact ⟨rfl, rfl, rfl, rfl, rfl, rfl, rfl, trivial⟩
         ·exact en
       ·skip
        refine xt O<|n_blk<|n_code<|t_region<|l_q O (qadd O O) ?_
        refine mv O O<|l_nil ?_
        apply n_again ((i + 1, s', ps', (.slice a0 ps'.length cap0)))
        ·exact ⟨by dsimp only; omega, hA2, by dsimp only; omega⟩
        ·dsimp only; omega
        ·exact ⟨rfl, rfl, rfl, rfl, trivial⟩
        ·exact en
    ·skip
     exact xt O<|nz<|asg O O<|lc<|rt<|fr1 O ([G]) (.tmp rfl) ⟨rfl, rfl⟩
end Go.Proofs.YthkajgkagnenbaaGreatDoor.BytesP
