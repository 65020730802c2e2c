/- Contracts of package small: a new one. -/
import Derived.Test.YtepkcjfmdenkcaaGreatDoorSmallW
set_option linter.unusedVariables false
set_option linter.unusedSimpArgs false
set_option maxRecDepth 100000
namespace Go.Proofs.YtepkcjfmdenkcaaGreatDoor.Small
open Go.RowKit Go.Proofs Go.Proofs.YtepkcjfmdenkcaaGreatDoor.Eng Go.Proofs.YtepkcjfmdenkcaaGreatDoor.Ty Go.Proofs.YtepkcjfmdenkcaaGreatDoor.Bits Go.Proofs.YtepkcjfmdenkcaaGreatDoor.Mem Go.Proofs.YtepkcjfmdenkcaaGreatDoor.Search Go.Proofs.YtepkcjfmdenkcaaGreatDoor.Arena Go.Proofs.YtepkcjfmdenkcaaGreatDoor.CtrlB Go.Proofs.YtepkcjfmdenkcaaGreatDoor.Ctrl Go.Proofs.YtepkcjfmdenkcaaGreatDoor.Layout Go.Proofs.YtepkcjfmdenkcaaGreatDoor.GroupB Go.Proofs.YtepkcjfmdenkcaaGreatDoor.Group Go.Proofs.YtepkcjfmdenkcaaGreatDoor.TableB Go.Proofs.YtepkcjfmdenkcaaGreatDoor.Table


def newS : Sm := ⟨1, 0, 0, 0, fun _ => .empty⟩
theorem loadN_none {m : Nat → Int} {o : Nat} (h : ∀ i, i < 8 → m (o + i) = 0) : loadN m o 8 = 0 := by
  rw [loadN_congr (m' := byteN 0) (o' := 0) fun i hi => by rw [h i hi]; simp [byteN], loadN_byteN]; rfl
theorem smAt_ok (pa : Nat) (l : Lay) (off : Int) : FnOk Tryz.prog 56 #[.pointer (some ⟨pa, 0, none⟩), .agg l.cells, .int .i64 off] [] (fun v L => v = .agg #[.pointer (some ⟨pa, 0, none⟩), .int .i64 l.key, .int .i64 l.elem, .int .i64 l.ka, .int .i64 l.ea, .int .i64 l.cap, .int .i64 l.eo, .int .i64 l.bo, .int .i64 l.slot, .int .i64 l.group, .int .i64 off] ∧ L = []) := by
  refine fn_intro en56 Tryz.func56 rfl rfl rfl fun Fr w0 => t_nm ?_
  refine sr <| o_boxA rfl rfl fun b4 => o_allocA rfl yZ39 fun b6 => lz <| mv rfl rfl <| l_q rfl (qlda rfl yA36 yS36) ?_
  refine mv rfl rfl ?_
  apply l_q rfl
  · apply q_buildS rfl yP39 yZ39
    · apply FillR.one
      · repeat (first | exact PlAt.here | apply PlAt.there)
      · rfl
      · exact sa
      apply FillR.all
      · repeat (first | exact PlAt.here | apply PlAt.there)
      · rfl
      · simp
      · exact sal
      apply FillR.one
      · repeat (first | exact PlAt.here | apply PlAt.there)
      · rfl
      · exact sa
      exact FillR.nil
  refine sta rfl rfl rfl yS39 rfl rfl ?_
  refine lc <| rt ?_
  apply f_ret (.inl rfl) ([])
  · apply res1 rfl
    · apply Rv.agg rfl
      · exact tk
      · exact run_loadAll yA39 yS39 rfl
  · exact ⟨rfl, rfl⟩
  · exact en
theorem sgroupR_ok (pa off : Nat) (l : Lay) (hb : off ≤ 1000000000) : FnOk Tryz.prog 57 #[.agg #[.pointer (some ⟨pa, 0, none⟩), .int .i64 l.key, .int .i64 l.elem, .int .i64 l.ka, .int .i64 l.ea, .int .i64 l.cap, .int .i64 l.eo, .int .i64 l.bo, .int .i64 l.slot, .int .i64 l.group, .int .i64 (off : Nat)]] [] (fun v L => v = .agg #[.pointer (some ⟨pa, 0, none⟩), .int .i64 l.key, .int .i64 l.elem, .int .i64 l.ka, .int .i64 l.ea, .int .i64 l.cap, .int .i64 l.eo, .int .i64 l.bo, .int .i64 l.slot, .int .i64 l.group, .int .i64 ((off + 32 : Nat) : Int)] ∧ L = []) := by
  refine fn_intro en57 Tryz.func57 rfl rfl rfl fun Fr w0 => t_nm ?_
  refine sr <| o_boxA rfl rfl fun b1 => o_allocA rfl yZ112 fun b2 => lz <| l_q rfl (qfa 0 rfl yU39 rfl rfl yS34) <| l_q rfl (qld rfl yA34) ?_
  refine l_q rfl (qfa 1 rfl yU39 rfl rfl yS36) <| l_q rfl (qlda rfl yA36 yS36) ?_
  refine l_q rfl (qfa 10 rfl yU39 rfl rfl yS3) <| l_q rfl (qld rfl yA3) ?_
  refine l_q rfl (qadd rfl rfl) ?_
  rw [show ((off : Nat) : Int) + 32 = ((off + 32 : Nat) : Int) by omega]
  refine lc1 rfl rfl rfl (Group.At_ok pa _ l) ?_
  refine sta rfl rfl rfl yS112 rfl rfl ?_
  refine lc <| rt ?_
  apply f_ret (.inl rfl) ([])
  · apply res1 rfl
    · apply Rv.agg rfl
      · exact tk
      · exact run_loadAll yA112 yS112 rfl
  · exact ⟨rfl, rfl⟩
  · exact en
/-- The block taken, its group laid: a small map of kind 0. -/
theorem sm_laid {s : ArS} {l : Lay} (hl : l.err = 0) (hn : 32 + l.group ≤ classI (32 + l.group)) : SmP ((s.take (classI (32 + l.group))).put (s.stop + 32) (gN l) (encG l fun _ => .empty)) s.stop l ⟨0, 0, 0, 0, fun _ => .empty⟩ := by
  have hbd := Lay.bnd hl
  refine ⟨hl, goodP.put (goodP.new s (by omega) hn), fun k hk => ?_, fun k hk => ?_, ?_, fun i _ => trivial⟩
  · have e0 : smV ⟨0, 0, 0, 0, fun _ => .empty⟩ k = 0 := by
      have : k = 0 ∨ k = 1 ∨ k = 2 ∨ k = 3 := by omega
      rcases this with rfl | rfl | rfl | rfl <;> rfl
    rw [e0, loadN_none fun i hi => by
      rw [ArS.put_m, lay_out (by omega)]
      show growM s.m s.stop _ = 0
      unfold growM; rw [if_neg (by omega)]]
    rfl
  · have : k = 0 ∨ k = 1 ∨ k = 2 ∨ k = 3 := by omega
    rcases this with rfl | rfl | rfl | rfl <;> simp [smV]
  · rw [ArS.put_m]; exact GAt.lay _
theorem SNew_ok (pa : Nat) (s : ArS) (l : Lay) (hl : l.err = 0) :
    FnOk Tryz.prog 24 #[.pointer (some ⟨pa, 0, none⟩), .agg l.cells] [arenaH pa s]
      (fun v L => (s.limit - s.live < classI (32 + l.group) ∧ v = .tuple #[.agg #[.pointer none, .int .i64 0, .int .i64 0, .int .i64 0, .int .i64 0, .int .i64 0, .int .i64 0, .int .i64 0, .int .i64 0, .int .i64 0, .int .i64 0], .int .i64 22] ∧ L = [arenaH pa s]) ∨
        (s.live + classI (32 + l.group) ≤ s.limit ∧ ∃ s', v = .tuple #[.agg #[.pointer (some ⟨pa, 0, none⟩), .int .i64 l.key, .int .i64 l.elem, .int .i64 l.ka, .int .i64 l.ea, .int .i64 l.cap, .int .i64 l.eo, .int .i64 l.bo, .int .i64 l.slot, .int .i64 l.group, .int .i64 ((s.stop : Nat) : Int)], .int .i64 0] ∧ L = [arenaH pa s'] ∧ SmP s' s.stop l newS)) := by
  have hbd := Lay.bnd hl
  have hcb := classI_bnd (n := 32 + l.group) (by omega)
  have hcb2 := hcb.2.2 (by omega)
  have hP0 := sm_laid (s := s) hl hcb2.1
  have hP1 := hP0.word (S' := newS) (k := 0) (v := 1) (by decide) (by omega) rfl (fun j hj hne => by
    have : j = 1 ∨ j = 2 ∨ j = 3 := by omega
    rcases this with rfl | rfl | rfl <;> rfl) rfl
  refine fn_intro en24 Tryz.func24 rfl rfl rfl fun Fr w0 => t_nm ?_
  refine t_pure (φ := s.ok) (fun w hw => arena_ok hw .here) fun hok0 => ?_
  have hst := hok0.stop_eq
  refine sr <| o_boxA rfl rfl fun b3 => o_allocA rfl yZ39 fun b4 => asg rfl rfl <| lz <| mv rfl rfl <| l_q rfl (qfa 8 rfl yU36 rfl rfl yS3) <| l_q rfl (qld rfl yA3) ?_
  refine l_q rfl (qadd rfl rfl) ?_
  refine lcf rfl rfl rfl (Alloc_ok pa s (32 + l.group) (by omega)) ?_
  rintro v L' (⟨hb, rfl, rfl⟩ | ⟨_, hfit, rfl, rfl⟩)
  refine l_nm ?_
  · skip
    refine l_nm ?_
    refine mv rfl rfl <| l_q rfl (q_extractL rfl ga) ?_
    refine l_q rfl (q_extractL rfl ga) ?_
    refine asg rfl rfl <| asg rfl rfl <| lc <| t_seq <| sr <| mv rfl rfl <| l_q rfl (qi rfl rfl (b_neq ·)) <| lc <| t_if rfl (fun p1 => ?_) fun p1 => ?_
    · refine sr ?_
      apply l_q rfl
      · apply q_buildS rfl yP39 yZ39
        · exact FillR.nil
      refine mv rfl rfl <| sta rfl rfl rfl yS39 rfl rfl ?_
      refine asg rfl rfl <| lc <| rt ?_
      apply f_ret (.inl rfl) ([arenaH pa s])
      · apply res2 rfl
        · apply Rv.agg rfl
          · exact tk
          · exact run_loadAll yA39 yS39 rfl
        · exact .tmp rfl
      · exact .inl ⟨by omega, rfl, rfl⟩
      · exact en
    · omega
  · skip
    refine l_nm ?_
    refine mv rfl rfl <| l_q rfl (q_extractL rfl ga) ?_
    refine l_q rfl (q_extractL rfl ga) ?_
    refine asg rfl rfl <| asg rfl rfl <| lc <| t_seq <| sr <| mv rfl rfl <| l_q rfl (qi rfl rfl (b_neq ·)) <| lc <| t_if rfl (fun p1 => ?_) fun p1 => ?_
    · exact absurd rfl p1
    · refine t_skip <| nz <| mv rfl rfl <| l_q rfl (qlda rfl yA36 yS36) ?_
      refine mv rfl rfl ?_
      have hst9 : s.stop ≤ 1000000000 := by omega
      have hg1 : goodP (s.take (classI (32 + l.group))) ((s.stop + 32 : Nat) : Int) l.group := goodP.sub (goodP.new s (c := classI (32 + l.group)) (n := 32 + l.group) (by omega) hcb2.1) (by omega) (by omega) (by omega)
      refine lc1 rfl rfl rfl (smAt_ok pa l _) ?_
      refine o_allocA rfl yZ39 fun b8 => sta rfl rfl rfl yS39 rfl rfl ?_
      refine lc <| t_seq <| sr <| l_q rfl (qlda rfl yA39 yS39) ?_
      refine lc1 rfl rfl rfl (sgroupR_ok pa s.stop l hst9) ?_
      refine lc1 rfl rfl rfl (Reset_ok pa (s.stop + 32) (s.take (classI (32 + l.group))) l hl hg1) ?_
      refine asg rfl rfl <| lz <| mv rfl rfl <| l_q rfl (qi rfl rfl (b_neq ·)) <| lc <| t_if rfl (fun p2 => ?_) fun p2 => ?_
      · exact absurd rfl p2
      · refine t_skip <| nz <| l_q rfl (qlda rfl yA39 yS39) ?_
        refine lcf rfl rfl rfl (sset_ok pa s.stop _ l hP0.gh (by omega) 0 0 1 rfl (by decide)) ?_
        rintro v L' rfl
        refine l_nm ?_
        refine lz <| l_q rfl (qlda rfl yA39 yS39) ?_
        refine sta rfl rfl rfl yS39 rfl rfl ?_
        refine asg rfl rfl <| lc <| rt ?_
        apply f_ret (.inl rfl) ([arenaH pa (((s.take (classI (32 + l.group))).put (s.stop + 32) (gN l) (encG l fun _ => .empty)).put (s.stop + 8 * 0) 8 (byteN (IntKind.u64.wrap 1)))])
        · apply res2 rfl
          · apply Rv.agg rfl
            · exact tk
            · exact run_loadAll yA39 yS39 rfl
          · exact .tmp rfl
        · exact .inr ⟨by omega, _, rfl, rfl, hP1⟩
        · exact en
end Go.Proofs.YtepkcjfmdenkcaaGreatDoor.Small
