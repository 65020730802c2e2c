/- GrowRefused answers true. -/
import Derived.Test.YtgijnebgchkenaaGreatDoorGrowP
import Derived.Test.YtgijnebgchkenaaGreatDoorGrowF
import Derived.Test.YtgijnebgchkenaaGreatDoorRef02
set_option linter.unusedVariables false
set_option linter.unusedSimpArgs false
set_option maxRecDepth 100000
namespace Go.Proofs.YtgijnebgchkenaaGreatDoor.Grow
open Go.RowKit Go.Proofs Go.Proofs.YtgijnebgchkenaaGreatDoor.Eng Go.Proofs.YtgijnebgchkenaaGreatDoor.Ty Go.Proofs.YtgijnebgchkenaaGreatDoor.Bits Go.Proofs.YtgijnebgchkenaaGreatDoor.Mem Go.Proofs.YtgijnebgchkenaaGreatDoor.Search Go.Proofs.YtgijnebgchkenaaGreatDoor.Arena Go.Proofs.YtgijnebgchkenaaGreatDoor.CtrlB Go.Proofs.YtgijnebgchkenaaGreatDoor.Ctrl Go.Proofs.YtgijnebgchkenaaGreatDoor.Layout Go.Proofs.YtgijnebgchkenaaGreatDoor.GroupB Go.Proofs.YtgijnebgchkenaaGreatDoor.Group Go.Proofs.YtgijnebgchkenaaGreatDoor.Probe Go.Proofs.YtgijnebgchkenaaGreatDoor.TableB Go.Proofs.YtgijnebgchkenaaGreatDoor.TableI Go.Proofs.YtgijnebgchkenaaGreatDoor.Table Go.Proofs.YtgijnebgchkenaaGreatDoor.Bench Go.Proofs.YtgijnebgchkenaaGreatDoor.Cells Go.Proofs.YtgijnebgchkenaaGreatDoor.Refill Go.Proofs.YtgijnebgchkenaaGreatDoor.Oracle Go.Proofs.YtgijnebgchkenaaGreatDoor.Ref03

theorem KeepA.refl (s : ArS) : KeepA s s := ⟨rfl, fun _ h => h, fun _ _ _ _ _ => rfl⟩
section
variable {pa off go po bm n e N E : Nat} {s : ArS} {l : Lay} {T : Tb} {m : List (ByteArray × Value)} {sd : Int} {G : HP} {v : Value} {L : List HP} (h : Anew pa off go po bm n e N E s l T m sd G v L)
include h
theorem Anew.no (hno : s.limit < s.live + (64 + classI ((N * gN l : Nat) : Int))) : ∃ s2, v = .tuple #[.agg #[.pointer none, .int .i64 0, .int .i64 0, .int .i64 0, .int .i64 0, .int .i64 0, .int .i64 0, .int .i64 0, .int .i64 0, .int .i64 0, .int .i64 0], .int .i64 22] ∧ L = [pt po (.cells #[.map (some bm)] 191 (0, 0)), mapH (fun k : ByteArray => Value.string k) bm m, G, arenaH pa s2] ∧ KeepA s s2 ∧ s2.live = s.live := by
  rcases h with ⟨_, h1, h2⟩ | ⟨_, hf, _⟩
  · exact ⟨s, h1, h2, KeepA.refl s, rfl⟩
  · omega
theorem Anew.yes (h1 : ((N * gN l : Nat) : Int) ≤ 1048576) (hfit : s.live + (64 + classI ((N * gN l : Nat) : Int)) ≤ s.limit) : ∃ s2, v = .tuple #[.agg #[.pointer (some ⟨pa, 0, none⟩), .int .i64 l.key, .int .i64 l.elem, .int .i64 l.ka, .int .i64 l.ea, .int .i64 l.cap, .int .i64 l.eo, .int .i64 l.bo, .int .i64 l.slot, .int .i64 l.group, .int .i64 ((s.at 64 : Nat) : Int)], .int .i64 0] ∧ L = [pt po (.cells #[.map (some bm)] 191 (0, 0)), mapH (fun k : ByteArray => Value.string k) bm m, G, arenaH pa s2] ∧ KeepA s s2 ∧ s2.live = s.live + (64 + classI ((N * gN l : Nat) : Int)) := by
  rcases h with ⟨hb, _⟩ | ⟨_, _, s', U, lives, e1, e2, _, _, h5, _⟩
  · omega
  · exact ⟨s', e1, e2, KeepA.new h5, h5.live⟩
end
theorem Groups_n (k n e : Nat) (he : e ≤ 13) (hn : k = 2 ^ e) (x : Int) (hx : x = 8 * (k : Int)) : FnOk Tryz.prog 33 #[.agg l64.cells, .int .i64 x] [] (fun v L => v = .int .i64 ((k * gN l64 : Nat) : Int) ∧ L = []) := by
  subst hx
  refine FnOk.mono (Layout.Groups_ok l64 l64_ok (8 * (k : Int)) (powB_8n he hn)) fun v L h => ?_
  obtain ⟨rfl, rfl⟩ := h
  refine ⟨?_, rfl⟩
  have := (layN l64_ok).g
  rw [Int.natCast_mul, this]
  congr 2
  omega
theorem GrowRefused_ok (G : HP) (hGT : TabOk G) (hGO : OddOk G) (seed size depth : Int) (vh vs : Value) (hs : List Int) (ts : List (Int × Int × Bool)) (hL : LifeAt G seed size depth vh vs hs ts) (lim way : Int) (hlim : -9223372036854775808 ≤ lim ∧ lim ≤ 9223372036854775807) (hway : -9223372036854775808 ≤ way ∧ way ≤ 9223372036854775807) :
    FnOk Tryz.prog 4 #[.agg #[.int .u64 seed, .int .i64 size, .int .i64 depth, vh, vs], .int .i64 lim, .int .i64 way] [G] (fun v L => v = .bool true ∧ L = [G]) := by
  have hn2 := nOf_le size
  have hm := osOf_ok hL.hashWf
  have hd1 := Int.emod_nonneg depth (show (6 : Int) ≠ 0 by decide)
  have hd2 := Int.emod_lt_of_pos depth (show (0 : Int) < 6 by decide)
  have hr1 := Int.emod_nonneg lim (show (8192 : Int) ≠ 0 by decide)
  have hr2 := Int.emod_lt_of_pos lim (show (0 : Int) < 8192 by decide)
  have hsm1 : ((nOf size * gN l64 : Nat) : Int) ≤ 1048576 := by rw [gN64]; omega
  have hsm2 : ((2 * nOf size * gN l64 : Nat) : Int) ≤ 1048576 := by rw [gN64]; omega
  have hc1 := classI_bnd (n := ((nOf size * gN l64 : Nat) : Int)) (by rw [gN64]; omega)
  have hc2 := classI_bnd (n := ((2 * nOf size * gN l64 : Nat) : Int)) (by rw [gN64]; omega)
  have hcf : 64 + classI ((nOf size * gN l64 : Nat) : Int) ≤ 65536 := by
    have := eOf_le size
    rw [gN64]
    unfold nOf
    have : eOf size = 1 ∨ eOf size = 2 ∨ eOf size = 3 := by omega
    rcases this with e | e | e <;> rw [e] <;> decide
  refine fn_intro en4 Tryz.func4 rfl rfl rfl fun Fr w0 => t_nm ?_
  refine sr <| o_boxA rfl rfl fun b3 => asg rfl rfl <| lc <| t_seq <| sr <| lc1 rfl rfl rfl (fixed_ok G hGT hGO) ?_
  refine l_q rfl (q_un rfl (u_not ·)) <| lc <| t_if rfl (fun z1 => ?_) fun z1 => ?_
  · simp at z1
  · refine t_skip <| nz <| l_q rfl (qlda rfl yA72 yS72) ?_
    refine lcf rfl rfl rfl (world_ok G hGT hGO seed size depth vh vs hs ts hL 65536 (by decide) hcf) ?_
    rintro v L' ⟨pa0, po0, bm0, off0, go0, s0, rfl, rfl, hW0, hl0, hv0⟩
    refine l_nm ?_
    refine mv rfl rfl <| l_q rfl (q_extractL rfl ga) ?_
    refine l_q rfl (q_extractL rfl ga) ?_
    refine o_allocA rfl yZ76 fun b7 => sta rfl rfl rfl yS76 rfl rfl ?_
    refine asg rfl rfl <| lc <| t_seq <| sr <| mv rfl rfl <| l_q rfl (q_un rfl (u_not ·)) <| lc <| t_if rfl (fun z2 => ?_) fun z2 => ?_
    · simp at z2
    · refine t_skip <| nz <| l_q rfl (qfa 2 rfl yU76 rfl rfl yS34) <| l_q rfl (qlda rfl yA34 yS34) ?_
      refine lc1 rfl rfl rfl (StatP_ok pa0 off0 go0 (nOf size) (eOf size) s0 l64 _ hW0.tab) ?_
      refine mv rfl rfl <| l_q rfl (q_extractL rfl ga) ?_
      refine l_q rfl (q_extractL rfl ga) ?_
      refine o_allocA rfl yZ47 fun b9 => sta rfl rfl rfl yS47 rfl rfl ?_
      refine asg rfl rfl <| lc <| t_seq <| t_draw mixed ?_
      apply dq 0 rfl
      · exact yq (q_move rfl)
      apply dq 2 rfl
      · exact yq (qfa 0 rfl yU76 rfl rfl yS30)
      apply dq 3 rfl
      · exact yq (qld rfl yA30)
      refine d_eff1 [0] [3, 2] 1 [(33, _)] gO ⟨rfl, trivial⟩ (by kernel_rfl) (by kernel_rfl) fun Ex => ?_
      refine lc1 rfl rfl rfl (mod_ok lim 8192 hlim (by decide)) ?_
      refine l_nil ?_
      apply n_d
      · refine ⟨?_, ?_, trivial⟩
        · apply ya rfl rfl; exact yq (qld rfl yA30)
        · apply ya rfl rfl; exact yq (qfa 0 rfl yU76 rfl rfl yS30)
      refine d_eff1 [3, 2] [] 4 [(36, _)] gO ⟨rfl, trivial⟩ (by kernel_rfl) (by kernel_rfl) fun Ex => ?_
      refine lc1 rfl rfl rfl (Live_ok pa0 s0) ?_
      refine l_nil ?_
      apply n_d
      · exact trivial
      apply dq 5 rfl
      · exact yq (qadd rfl rfl)
      refine d_eff1 [5] [] 6 [(38, _)] gO ⟨rfl, trivial⟩ (by kernel_rfl) (by kernel_rfl) fun Ex => ?_
      refine asg rfl rfl <| l_nil ?_
      apply n_d
      · exact trivial
      refine d_end (by kernel_rfl) ?_
      refine nz <| l_q rfl (qlda rfl yA72 yS72) ?_
      refine mv rfl rfl <| lcf rfl rfl rfl (live_ok G hGT hGO seed size depth vh vs hs ts hL _ (by omega) (by omega)) ?_
      rintro v L' ⟨pa, po, bm, off, go, s, T, rfl, rfl, hW, hl, hv, hK⟩
      refine l_nm ?_
      refine mv rfl rfl <| l_q rfl (q_extractL rfl ga) ?_
      refine l_q rfl (q_extractL rfl ga) ?_
      refine sta rfl rfl rfl yS76 rfl rfl ?_
      refine asg rfl rfl <| lc <| t_seq <| sr <| mv rfl rfl <| l_q rfl (q_un rfl (u_not ·)) <| mv rfl rfl <| l_pt (t := 47) rfl (fun y1 => ?_) fun y1 => ?_
      · simp at y1
      · refine l_on rfl rfl <| mv rfl rfl <| l_on rfl rfl <| l_q rfl (qi rfl rfl (b_neq ·)) <| l_q rfl (q_pk rfl rfl) <| lc <| t_if rfl (fun y2 => ?_) fun y2 => ?_
        · exact absurd rfl y2
        · skip
          have hdT : 0 ≤ T.depth ∧ T.depth ≤ 5 := by rw [hK.depth]; show 0 ≤ depth % 6 ∧ depth % 6 ≤ 5; omega
          refine t_skip <| nz <| l_q rfl (qlda rfl yA76 yS76) ?_
          refine l_q rfl (qfa 2 rfl yU76 rfl rfl yS34) <| l_q rfl (qlda rfl yA34 yS34) ?_
          refine lc1 rfl rfl rfl (picture_ok pa po off go (nOf size) (eOf size) (off : Nat) s T hW.tab hW.blk (by omega)) ?_
          refine asg rfl rfl <| lz <| l_q rfl (qfa 0 rfl yU76 rfl rfl yS30) <| l_q rfl (qld rfl yA30) ?_
          refine lc1 rfl rfl rfl (Live_ok pa s) ?_
          refine asg rfl rfl <| lc <| t_seq <| t_draw mixed ?_
          apply dq 0 rfl
          · exact yq (qfa 2 rfl yU76 rfl rfl yS34)
          apply dq 1 rfl
          · exact yq (qlda rfl yA34 yS34)
          apply dq 3 rfl
          · exact yq (qfa 1 rfl yU47 rfl rfl yS3)
          apply dq 4 rfl
          · exact yq (qld rfl yA3)
          refine d_eff1 [1, 0] [4, 3] 2 [(59, _)] gO ⟨rfl, trivial⟩ (by kernel_rfl) (by kernel_rfl) fun Ex => ?_
          refine lc1 rfl rfl rfl (TLayout_ok pa l64 (off : Nat)) ?_
          refine l_nil ?_
          apply n_d
          · refine ⟨?_, ?_, trivial⟩
            · apply ya rfl rfl; exact yq (qld rfl yA3)
            · apply ya rfl rfl; exact yq (qfa 1 rfl yU47 rfl rfl yS3)
          refine d_eff1 [4, 3] [] 5 [(60, _), (62, _)] gO ⟨rfl, rfl, trivial⟩ (by kernel_rfl) (by kernel_rfl) fun Ex => ?_
          refine lc1 rfl rfl rfl (Groups_n (nOf size) 0 (eOf size) (by have := eOf_le size; omega) rfl _ rfl) ?_
          refine l_nil ?_
          apply n_d
          · exact trivial
          refine d_eff1 [] [] 6 [(63, _)] gO ⟨rfl, trivial⟩ (by kernel_rfl) (by kernel_rfl) fun Ex => ?_
          refine lc1 rfl rfl rfl (Class_ok _) ?_
          refine l_nil ?_
          apply n_d
          · exact trivial
          apply dq 7 rfl
          · exact yq (qadd rfl rfl)
          refine d_eff1 [7] [] 8 [(65, _)] gO ⟨rfl, trivial⟩ (by kernel_rfl) (by kernel_rfl) fun Ex => ?_
          refine asg rfl rfl <| l_nil ?_
          apply n_d
          · exact trivial
          refine d_end (by kernel_rfl) ?_
          refine n_code <| t_seq <| t_draw mixed ?_
          apply dq 0 rfl
          · exact yq (qfa 2 rfl yU76 rfl rfl yS34)
          apply dq 1 rfl
          · exact yq (qlda rfl yA34 yS34)
          apply dq 3 rfl
          · exact yq (qfa 1 rfl yU47 rfl rfl yS3)
          apply dq 4 rfl
          · exact yq (qld rfl yA3)
          apply dq 5 rfl
          · exact yq (qmul rfl rfl)
          refine d_eff1 [1, 0] [5, 4, 3] 2 [(67, _)] gO ⟨rfl, trivial⟩ (by kernel_rfl) (by kernel_rfl) fun Ex => ?_
          refine lc1 rfl rfl rfl (TLayout_ok pa l64 (off : Nat)) ?_
          refine l_nil ?_
          apply n_d
          · refine ⟨?_, ?_, ?_, trivial⟩
            · apply ya rfl rfl; exact yq (qmul rfl rfl)
            · apply ya rfl rfl; exact yq (qld rfl yA3)
            · apply ya rfl rfl; exact yq (qfa 1 rfl yU47 rfl rfl yS3)
          refine d_eff1 [5, 4, 3] [] 6 [(68, _), (71, _)] gO ⟨rfl, rfl, trivial⟩ (by kernel_rfl) (by kernel_rfl) fun Ex => ?_
          refine lc1 rfl rfl rfl (Groups_n (2 * nOf size) 0 (eOf size + 1) (by have := eOf_le size; omega) (by unfold nOf; rw [Nat.pow_succ]; omega) _ (by omega)) ?_
          refine l_nil ?_
          apply n_d
          · exact trivial
          refine d_eff1 [] [] 7 [(72, _)] gO ⟨rfl, trivial⟩ (by kernel_rfl) (by kernel_rfl) fun Ex => ?_
          refine lc1 rfl rfl rfl (Class_ok _) ?_
          refine l_nil ?_
          apply n_d
          · exact trivial
          apply dq 8 rfl
          · exact yq (qadd rfl rfl)
          refine d_eff1 [8] [] 9 [(74, _)] gO ⟨rfl, trivial⟩ (by kernel_rfl) (by kernel_rfl) fun Ex => ?_
          refine asg rfl rfl <| l_nil ?_
          apply n_d
          · exact trivial
          refine d_end (by kernel_rfl) ?_
          refine nz <| asg rfl rfl <| lz <| asg rfl rfl <| lc <| t_seq <| sr <| mv rfl rfl <| lc1 rfl rfl rfl (mod_ok way 3 hway (by decide)) ?_
          refine lc <| t_block <| sr <| l_q rfl (qi rfl rfl (b_eql ·)) <| asg rfl rfl <| lc <| t_if rfl (fun w1 => ?_) fun w1 => ?_
          · skip
            rcases Int.lt_or_le s.limit (s.live + (64 + classI ((nOf size * gN l64 : Nat) : Int))) with hf | hf
            · skip
              refine sr <| mv rfl rfl <| asg rfl rfl <| lr <| l_q rfl (qfa 2 rfl yU76 rfl rfl yS34) <| l_q rfl (qlda rfl yA34 yS34) ?_
              refine l_q rfl (qfa 1 rfl yU76 rfl rfl yS74) <| l_q rfl (qld rfl yA74) ?_
              refine l_q rfl (qfa 0 rfl yU72 rfl rfl yS52) <| l_q rfl (qld rfl yA52) ?_
              refine lcf rfl rfl rfl (FnOk.mono (Renew_ok G hGT hGO pa off go po bm (nOf size) (eOf size) (nOf size) (eOf size) s l64 T _ hm seed hL.seed hW.tab hW.lt ⟨hdT.1, by omega⟩) (fun v L h => Anew.no h hf)) ?_
              rintro v L' ⟨s2, rfl, rfl, hK2, hlv2⟩
              refine l_nm ?_
              refine mv rfl rfl <| l_q rfl (q_extractL rfl ga) ?_
              refine l_q rfl (q_extractL rfl ga) ?_
              refine asg rfl rfl <| l_nil <| n_blk <| n_code <| t_seq <| sr <| mv rfl rfl <| l_q rfl (qs rfl rfl (b_eqlS ·)) <| mv rfl rfl ?_
              have hP2 := TabP.kept hW.tab hK2
              have hb2 := hK2.bl _ hW.blk
              have hpic : picS s2.m off go (nOf size) = picS s.m off go (nOf size) := picS_congr (fun a q1 q2 => hK2.m _ hW.hd a (by dsimp only; omega) (by dsimp only; omega)) (fun a q1 q2 => hK2.m _ hW.blk a (by dsimp only; omega) (by dsimp only; omega))
              refine l_pt (t := 118) rfl (fun c1 => ?_) fun c1 => ?_
              · exact absurd c1 (picS_ne _ _ _ _)
              · refine l_on rfl rfl <| l_q rfl (qlda rfl yA76 yS76) ?_
                refine l_on rfl rfl <| l_q rfl (qfa 2 rfl yU76 rfl rfl yS34) <| l_on rfl rfl <| l_q rfl (qlda rfl yA34 yS34) ?_
                refine l_on rfl rfl <| lc1 rfl rfl rfl (picture_ok pa po off go (nOf size) (eOf size) (off : Nat) s2 T hP2 hb2 (by omega)) ?_
                refine l_on rfl rfl <| mv rfl rfl <| l_on rfl rfl <| l_q rfl (qs rfl rfl (b_neqS ·)) <| l_q rfl (q_pk rfl rfl) <| lc <| t_if rfl (fun c2 => ?_) fun c2 => ?_
                · exact absurd hpic c2
                · skip
                  refine t_skip <| n_code <| t_seq <| sr <| mv rfl rfl <| mv rfl rfl <| l_q rfl (qadd rfl rfl) ?_
                  refine mv rfl rfl <| l_q rfl (qi rfl rfl (b_gtr ·)) <| lc <| t_if rfl (fun c3 => ?_) fun c3 => ?_
                  · refine sr <| mv rfl rfl <| l_q rfl (qi rfl rfl (b_eql ·)) <| mv rfl rfl <| l_pt (t := 133) rfl (fun c4 => ?_) fun c4 => ?_
                    · refine l_on rfl rfl <| l_q rfl (qfa 0 rfl yU76 rfl rfl yS30) <| l_on rfl rfl <| l_q rfl (qld rfl yA30) ?_
                      refine l_on rfl rfl <| lc1 rfl rfl rfl (Live_ok pa s2) ?_
                      refine l_on rfl rfl <| mv rfl rfl <| l_on rfl rfl <| l_q rfl (qi rfl rfl (b_eql ·)) <| l_q rfl (q_pk rfl rfl) <| asg rfl rfl <| lc <| rt <| fr1 rfl ([G]) (.tmp rfl) ?_
                      exact ⟨by rw [decide_eq_true hlv2], rfl⟩
                    · exact absurd rfl c4
                  · omega
            · skip
              refine sr <| mv rfl rfl <| asg rfl rfl <| lr <| l_q rfl (qfa 2 rfl yU76 rfl rfl yS34) <| l_q rfl (qlda rfl yA34 yS34) ?_
              refine l_q rfl (qfa 1 rfl yU76 rfl rfl yS74) <| l_q rfl (qld rfl yA74) ?_
              refine l_q rfl (qfa 0 rfl yU72 rfl rfl yS52) <| l_q rfl (qld rfl yA52) ?_
              refine lcf rfl rfl rfl (FnOk.mono (Renew_ok G hGT hGO pa off go po bm (nOf size) (eOf size) (nOf size) (eOf size) s l64 T _ hm seed hL.seed hW.tab hW.lt ⟨hdT.1, by omega⟩) (fun v L h => Anew.yes h hsm1 hf)) ?_
              rintro v L' ⟨s2, rfl, rfl, hK2, hlv2⟩
              refine l_nm ?_
              refine mv rfl rfl <| l_q rfl (q_extractL rfl ga) ?_
              refine l_q rfl (q_extractL rfl ga) ?_
              refine asg rfl rfl <| l_nil <| n_blk <| n_code <| t_seq <| sr <| mv rfl rfl <| l_q rfl (qs rfl rfl (b_eqlS ·)) <| mv rfl rfl ?_
              have hP2 := TabP.kept hW.tab hK2
              have hb2 := hK2.bl _ hW.blk
              have hpic : picS s2.m off go (nOf size) = picS s.m off go (nOf size) := picS_congr (fun a q1 q2 => hK2.m _ hW.hd a (by dsimp only; omega) (by dsimp only; omega)) (fun a q1 q2 => hK2.m _ hW.blk a (by dsimp only; omega) (by dsimp only; omega))
              refine l_pt (t := 118) rfl (fun c1 => ?_) fun c1 => ?_
              · exact absurd c1 (picS_ne _ _ _ _)
              · refine l_on rfl rfl <| l_q rfl (qlda rfl yA76 yS76) ?_
                refine l_on rfl rfl <| l_q rfl (qfa 2 rfl yU76 rfl rfl yS34) <| l_on rfl rfl <| l_q rfl (qlda rfl yA34 yS34) ?_
                refine l_on rfl rfl <| lc1 rfl rfl rfl (picture_ok pa po off go (nOf size) (eOf size) (off : Nat) s2 T hP2 hb2 (by omega)) ?_
                refine l_on rfl rfl <| mv rfl rfl <| l_on rfl rfl <| l_q rfl (qs rfl rfl (b_neqS ·)) <| l_q rfl (q_pk rfl rfl) <| lc <| t_if rfl (fun c2 => ?_) fun c2 => ?_
                · exact absurd hpic c2
                · skip
                  refine t_skip <| n_code <| t_seq <| sr <| mv rfl rfl <| mv rfl rfl <| l_q rfl (qadd rfl rfl) ?_
                  refine mv rfl rfl <| l_q rfl (qi rfl rfl (b_gtr ·)) <| lc <| t_if rfl (fun c3 => ?_) fun c3 => ?_
                  · omega
                  · refine t_skip <| nz <| mv rfl rfl <| l_q rfl (qi rfl rfl (b_eql ·)) <| mv rfl rfl <| l_pt (t := 142) rfl (fun c4 => ?_) fun c4 => ?_
                    · refine l_on rfl rfl <| l_q rfl (qfa 0 rfl yU76 rfl rfl yS30) <| l_on rfl rfl <| l_q rfl (qld rfl yA30) ?_
                      refine l_on rfl rfl <| lc1 rfl rfl rfl (Live_ok pa s2) ?_
                      refine l_on rfl rfl <| mv rfl rfl <| l_on rfl rfl <| mv rfl rfl <| l_on rfl rfl <| l_q rfl (qadd rfl rfl) ?_
                      refine l_on rfl rfl <| l_q rfl (qi rfl rfl (b_eql ·)) <| l_q rfl (q_pk rfl rfl) <| asg rfl rfl <| lc <| rt <| fr1 rfl ([G]) (.tmp rfl) ?_
                      exact ⟨by rw [decide_eq_true (by omega)], rfl⟩
                    · exact absurd rfl c4
          · skip
            refine sr <| l_q rfl (qi rfl rfl (b_eql ·)) <| asg rfl rfl <| lc <| t_if rfl (fun w2 => ?_) fun w2 => ?_
            · skip
              rcases Int.lt_or_le s.limit (s.live + (64 + classI ((2 * nOf size * gN l64 : Nat) : Int))) with hf | hf
              · skip
                refine sr <| mv rfl rfl <| asg rfl rfl <| lr <| l_q rfl (qfa 2 rfl yU76 rfl rfl yS34) <| l_q rfl (qlda rfl yA34 yS34) ?_
                refine l_q rfl (qfa 1 rfl yU76 rfl rfl yS74) <| l_q rfl (qld rfl yA74) ?_
                refine l_q rfl (qfa 0 rfl yU72 rfl rfl yS52) <| l_q rfl (qld rfl yA52) ?_
                refine lcf rfl rfl rfl (FnOk.mono (Double_ok G hGT hGO pa off go po bm (nOf size) (eOf size) (2 * nOf size) (eOf size + 1) s l64 T _ hm seed hL.seed hW.tab hW.lt rfl ⟨hdT.1, by omega⟩ (by unfold nOf; rw [Nat.pow_succ]; omega) (by have := eOf_le size; omega)) (fun v L h => Anew.no h hf)) ?_
                rintro v L' ⟨s2, rfl, rfl, hK2, hlv2⟩
                refine l_nm ?_
                refine mv rfl rfl <| l_q rfl (q_extractL rfl ga) ?_
                refine l_q rfl (q_extractL rfl ga) ?_
                refine asg rfl rfl <| l_nil <| n_blk <| n_code <| t_seq <| sr <| mv rfl rfl <| l_q rfl (qs rfl rfl (b_eqlS ·)) <| mv rfl rfl ?_
                have hP2 := TabP.kept hW.tab hK2
                have hb2 := hK2.bl _ hW.blk
                have hpic : picS s2.m off go (nOf size) = picS s.m off go (nOf size) := picS_congr (fun a q1 q2 => hK2.m _ hW.hd a (by dsimp only; omega) (by dsimp only; omega)) (fun a q1 q2 => hK2.m _ hW.blk a (by dsimp only; omega) (by dsimp only; omega))
                refine l_pt (t := 118) rfl (fun c1 => ?_) fun c1 => ?_
                · exact absurd c1 (picS_ne _ _ _ _)
                · refine l_on rfl rfl <| l_q rfl (qlda rfl yA76 yS76) ?_
                  refine l_on rfl rfl <| l_q rfl (qfa 2 rfl yU76 rfl rfl yS34) <| l_on rfl rfl <| l_q rfl (qlda rfl yA34 yS34) ?_
                  refine l_on rfl rfl <| lc1 rfl rfl rfl (picture_ok pa po off go (nOf size) (eOf size) (off : Nat) s2 T hP2 hb2 (by omega)) ?_
                  refine l_on rfl rfl <| mv rfl rfl <| l_on rfl rfl <| l_q rfl (qs rfl rfl (b_neqS ·)) <| l_q rfl (q_pk rfl rfl) <| lc <| t_if rfl (fun c2 => ?_) fun c2 => ?_
                  · exact absurd hpic c2
                  · skip
                    refine t_skip <| n_code <| t_seq <| sr <| mv rfl rfl <| mv rfl rfl <| l_q rfl (qadd rfl rfl) ?_
                    refine mv rfl rfl <| l_q rfl (qi rfl rfl (b_gtr ·)) <| lc <| t_if rfl (fun c3 => ?_) fun c3 => ?_
                    · refine sr <| mv rfl rfl <| l_q rfl (qi rfl rfl (b_eql ·)) <| mv rfl rfl <| l_pt (t := 133) rfl (fun c4 => ?_) fun c4 => ?_
                      · refine l_on rfl rfl <| l_q rfl (qfa 0 rfl yU76 rfl rfl yS30) <| l_on rfl rfl <| l_q rfl (qld rfl yA30) ?_
                        refine l_on rfl rfl <| lc1 rfl rfl rfl (Live_ok pa s2) ?_
                        refine l_on rfl rfl <| mv rfl rfl <| l_on rfl rfl <| l_q rfl (qi rfl rfl (b_eql ·)) <| l_q rfl (q_pk rfl rfl) <| asg rfl rfl <| lc <| rt <| fr1 rfl ([G]) (.tmp rfl) ?_
                        exact ⟨by rw [decide_eq_true hlv2], rfl⟩
                      · exact absurd rfl c4
                    · omega
              · skip
                refine sr <| mv rfl rfl <| asg rfl rfl <| lr <| l_q rfl (qfa 2 rfl yU76 rfl rfl yS34) <| l_q rfl (qlda rfl yA34 yS34) ?_
                refine l_q rfl (qfa 1 rfl yU76 rfl rfl yS74) <| l_q rfl (qld rfl yA74) ?_
                refine l_q rfl (qfa 0 rfl yU72 rfl rfl yS52) <| l_q rfl (qld rfl yA52) ?_
                refine lcf rfl rfl rfl (FnOk.mono (Double_ok G hGT hGO pa off go po bm (nOf size) (eOf size) (2 * nOf size) (eOf size + 1) s l64 T _ hm seed hL.seed hW.tab hW.lt rfl ⟨hdT.1, by omega⟩ (by unfold nOf; rw [Nat.pow_succ]; omega) (by have := eOf_le size; omega)) (fun v L h => Anew.yes h hsm2 hf)) ?_
                rintro v L' ⟨s2, rfl, rfl, hK2, hlv2⟩
                refine l_nm ?_
                refine mv rfl rfl <| l_q rfl (q_extractL rfl ga) ?_
                refine l_q rfl (q_extractL rfl ga) ?_
                refine asg rfl rfl <| l_nil <| n_blk <| n_code <| t_seq <| sr <| mv rfl rfl <| l_q rfl (qs rfl rfl (b_eqlS ·)) <| mv rfl rfl ?_
                have hP2 := TabP.kept hW.tab hK2
                have hb2 := hK2.bl _ hW.blk
                have hpic : picS s2.m off go (nOf size) = picS s.m off go (nOf size) := picS_congr (fun a q1 q2 => hK2.m _ hW.hd a (by dsimp only; omega) (by dsimp only; omega)) (fun a q1 q2 => hK2.m _ hW.blk a (by dsimp only; omega) (by dsimp only; omega))
                refine l_pt (t := 118) rfl (fun c1 => ?_) fun c1 => ?_
                · exact absurd c1 (picS_ne _ _ _ _)
                · refine l_on rfl rfl <| l_q rfl (qlda rfl yA76 yS76) ?_
                  refine l_on rfl rfl <| l_q rfl (qfa 2 rfl yU76 rfl rfl yS34) <| l_on rfl rfl <| l_q rfl (qlda rfl yA34 yS34) ?_
                  refine l_on rfl rfl <| lc1 rfl rfl rfl (picture_ok pa po off go (nOf size) (eOf size) (off : Nat) s2 T hP2 hb2 (by omega)) ?_
                  refine l_on rfl rfl <| mv rfl rfl <| l_on rfl rfl <| l_q rfl (qs rfl rfl (b_neqS ·)) <| l_q rfl (q_pk rfl rfl) <| lc <| t_if rfl (fun c2 => ?_) fun c2 => ?_
                  · exact absurd hpic c2
                  · skip
                    refine t_skip <| n_code <| t_seq <| sr <| mv rfl rfl <| mv rfl rfl <| l_q rfl (qadd rfl rfl) ?_
                    refine mv rfl rfl <| l_q rfl (qi rfl rfl (b_gtr ·)) <| lc <| t_if rfl (fun c3 => ?_) fun c3 => ?_
                    · omega
                    · refine t_skip <| nz <| mv rfl rfl <| l_q rfl (qi rfl rfl (b_eql ·)) <| mv rfl rfl <| l_pt (t := 142) rfl (fun c4 => ?_) fun c4 => ?_
                      · refine l_on rfl rfl <| l_q rfl (qfa 0 rfl yU76 rfl rfl yS30) <| l_on rfl rfl <| l_q rfl (qld rfl yA30) ?_
                        refine l_on rfl rfl <| lc1 rfl rfl rfl (Live_ok pa s2) ?_
                        refine l_on rfl rfl <| mv rfl rfl <| l_on rfl rfl <| mv rfl rfl <| l_on rfl rfl <| l_q rfl (qadd rfl rfl) ?_
                        refine l_on rfl rfl <| l_q rfl (qi rfl rfl (b_eql ·)) <| l_q rfl (q_pk rfl rfl) <| asg rfl rfl <| lc <| rt <| fr1 rfl ([G]) (.tmp rfl) ?_
                        exact ⟨by rw [decide_eq_true (by omega)], rfl⟩
                      · exact absurd rfl c4
            · skip
              rcases Int.lt_or_le s.limit (s.live + (64 + classI ((nOf size * gN l64 : Nat) : Int))) with hf | hf
              · skip
                refine sr <| mv rfl rfl <| l_q rfl (qmul rfl rfl) ?_
                refine asg rfl rfl <| lr <| l_q rfl (qfa 2 rfl yU76 rfl rfl yS34) <| l_q rfl (qlda rfl yA34 yS34) ?_
                refine l_q rfl (qfa 1 rfl yU76 rfl rfl yS74) <| l_q rfl (qld rfl yA74) ?_
                refine l_q rfl (qfa 0 rfl yU72 rfl rfl yS52) <| l_q rfl (qld rfl yA52) ?_
                refine lcf rfl rfl rfl (FnOk.mono (Split_no1 G hGT hGO pa off go po bm (nOf size) (eOf size) s l64 T _ hm seed hL.seed hW.tab hdT (.inr (by omega))) (fun v L h => (⟨s, h.1, h.2, KeepA.refl s, rfl⟩ : ∃ s2, v = _ ∧ L = [_, _, _, arenaH pa s2] ∧ KeepA s s2 ∧ s2.live = s.live))) ?_
                rintro v L' ⟨s2, rfl, rfl, hK2, hlv2⟩
                refine l_nm ?_
                refine mv rfl rfl <| l_q rfl (q_extractL rfl ga) ?_
                refine l_q rfl (q_extractL rfl ga) ?_
                refine l_q rfl (q_extractL rfl ga) ?_
                refine asg rfl rfl <| l_nil <| n_blk <| n_code <| t_seq <| sr <| mv rfl rfl <| l_q rfl (qs rfl rfl (b_eqlS ·)) <| mv rfl rfl ?_
                have hP2 := TabP.kept hW.tab hK2
                have hb2 := hK2.bl _ hW.blk
                have hpic : picS s2.m off go (nOf size) = picS s.m off go (nOf size) := picS_congr (fun a q1 q2 => hK2.m _ hW.hd a (by dsimp only; omega) (by dsimp only; omega)) (fun a q1 q2 => hK2.m _ hW.blk a (by dsimp only; omega) (by dsimp only; omega))
                refine l_pt (t := 118) rfl (fun c1 => ?_) fun c1 => ?_
                · exact absurd c1 (picS_ne _ _ _ _)
                · refine l_on rfl rfl <| l_q rfl (qlda rfl yA76 yS76) ?_
                  refine l_on rfl rfl <| l_q rfl (qfa 2 rfl yU76 rfl rfl yS34) <| l_on rfl rfl <| l_q rfl (qlda rfl yA34 yS34) ?_
                  refine l_on rfl rfl <| lc1 rfl rfl rfl (picture_ok pa po off go (nOf size) (eOf size) (off : Nat) s2 T hP2 hb2 (by omega)) ?_
                  refine l_on rfl rfl <| mv rfl rfl <| l_on rfl rfl <| l_q rfl (qs rfl rfl (b_neqS ·)) <| l_q rfl (q_pk rfl rfl) <| lc <| t_if rfl (fun c2 => ?_) fun c2 => ?_
                  · exact absurd hpic c2
                  · skip
                    refine t_skip <| n_code <| t_seq <| sr <| mv rfl rfl <| mv rfl rfl <| l_q rfl (qadd rfl rfl) ?_
                    refine mv rfl rfl <| l_q rfl (qi rfl rfl (b_gtr ·)) <| lc <| t_if rfl (fun c3 => ?_) fun c3 => ?_
                    · refine sr <| mv rfl rfl <| l_q rfl (qi rfl rfl (b_eql ·)) <| mv rfl rfl <| l_pt (t := 133) rfl (fun c4 => ?_) fun c4 => ?_
                      · refine l_on rfl rfl <| l_q rfl (qfa 0 rfl yU76 rfl rfl yS30) <| l_on rfl rfl <| l_q rfl (qld rfl yA30) ?_
                        refine l_on rfl rfl <| lc1 rfl rfl rfl (Live_ok pa s2) ?_
                        refine l_on rfl rfl <| mv rfl rfl <| l_on rfl rfl <| l_q rfl (qi rfl rfl (b_eql ·)) <| l_q rfl (q_pk rfl rfl) <| asg rfl rfl <| lc <| rt <| fr1 rfl ([G]) (.tmp rfl) ?_
                        exact ⟨by rw [decide_eq_true hlv2], rfl⟩
                      · exact absurd rfl c4
                    · omega
              · skip
                rcases Int.lt_or_le s.limit (s.live + (64 + classI ((nOf size * gN l64 : Nat) : Int)) + (64 + classI ((nOf size * gN l64 : Nat) : Int))) with hf2 | hf2
                · skip
                  refine sr <| mv rfl rfl <| l_q rfl (qmul rfl rfl) ?_
                  refine asg rfl rfl <| lr <| l_q rfl (qfa 2 rfl yU76 rfl rfl yS34) <| l_q rfl (qlda rfl yA34 yS34) ?_
                  refine l_q rfl (qfa 1 rfl yU76 rfl rfl yS74) <| l_q rfl (qld rfl yA74) ?_
                  refine l_q rfl (qfa 0 rfl yU72 rfl rfl yS52) <| l_q rfl (qld rfl yA52) ?_
                  refine lcf rfl rfl rfl (Split_no2 G hGT hGO pa off go po bm (nOf size) (eOf size) s l64 T _ hm seed hL.seed hW.tab hdT hsm1 hf hf2 _ _ rfl rfl) ?_
                  rintro v L' ⟨s1, rfl, rfl, hN1, hK2, hlv2⟩
                  refine l_nm ?_
                  refine mv rfl rfl <| l_q rfl (q_extractL rfl ga) ?_
                  refine l_q rfl (q_extractL rfl ga) ?_
                  refine l_q rfl (q_extractL rfl ga) ?_
                  refine asg rfl rfl <| l_nil <| n_blk <| n_code <| t_seq <| sr <| mv rfl rfl <| l_q rfl (qs rfl rfl (b_eqlS ·)) <| mv rfl rfl ?_
                  obtain ⟨s2, hs2⟩ : ∃ s2, s2 = s1.gives [((s.at 64 : Nat) : Int), (((s.take 64).at (classI ((nOf size * gN l64 : Nat) : Int)) : Nat) : Int)] := ⟨_, rfl⟩
                  rw [← hs2] at hK2 hlv2 ⊢
                  have hP2 := TabP.kept hW.tab hK2
                  have hb2 := hK2.bl _ hW.blk
                  have hpic : picS s2.m off go (nOf size) = picS s.m off go (nOf size) := picS_congr (fun a q1 q2 => hK2.m _ hW.hd a (by dsimp only; omega) (by dsimp only; omega)) (fun a q1 q2 => hK2.m _ hW.blk a (by dsimp only; omega) (by dsimp only; omega))
                  refine l_pt (t := 118) rfl (fun c1 => ?_) fun c1 => ?_
                  · exact absurd c1 (picS_ne _ _ _ _)
                  · refine l_on rfl rfl <| l_q rfl (qlda rfl yA76 yS76) ?_
                    refine l_on rfl rfl <| l_q rfl (qfa 2 rfl yU76 rfl rfl yS34) <| l_on rfl rfl <| l_q rfl (qlda rfl yA34 yS34) ?_
                    refine l_on rfl rfl <| lc1 rfl rfl rfl (picture_ok pa po off go (nOf size) (eOf size) (off : Nat) s2 T hP2 hb2 (by omega)) ?_
                    refine l_on rfl rfl <| mv rfl rfl <| l_on rfl rfl <| l_q rfl (qs rfl rfl (b_neqS ·)) <| l_q rfl (q_pk rfl rfl) <| lc <| t_if rfl (fun c2 => ?_) fun c2 => ?_
                    · exact absurd hpic c2
                    · skip
                      refine t_skip <| n_code <| t_seq <| sr <| mv rfl rfl <| mv rfl rfl <| l_q rfl (qadd rfl rfl) ?_
                      refine mv rfl rfl <| l_q rfl (qi rfl rfl (b_gtr ·)) <| lc <| t_if rfl (fun c3 => ?_) fun c3 => ?_
                      · refine sr <| mv rfl rfl <| l_q rfl (qi rfl rfl (b_eql ·)) <| mv rfl rfl <| l_pt (t := 133) rfl (fun c4 => ?_) fun c4 => ?_
                        · refine l_on rfl rfl <| l_q rfl (qfa 0 rfl yU76 rfl rfl yS30) <| l_on rfl rfl <| l_q rfl (qld rfl yA30) ?_
                          refine l_on rfl rfl <| lc1 rfl rfl rfl (Live_ok pa s2) ?_
                          refine l_on rfl rfl <| mv rfl rfl <| l_on rfl rfl <| l_q rfl (qi rfl rfl (b_eql ·)) <| l_q rfl (q_pk rfl rfl) <| asg rfl rfl <| lc <| rt <| fr1 rfl ([G]) (.tmp rfl) ?_
                          exact ⟨by rw [decide_eq_true hlv2], rfl⟩
                        · exact absurd rfl c4
                      · omega
                · skip
                  refine sr <| mv rfl rfl <| l_q rfl (qmul rfl rfl) ?_
                  refine asg rfl rfl <| lr <| l_q rfl (qfa 2 rfl yU76 rfl rfl yS34) <| l_q rfl (qlda rfl yA34 yS34) ?_
                  refine l_q rfl (qfa 1 rfl yU76 rfl rfl yS74) <| l_q rfl (qld rfl yA74) ?_
                  refine l_q rfl (qfa 0 rfl yU72 rfl rfl yS52) <| l_q rfl (qld rfl yA52) ?_
                  refine lcf rfl rfl rfl (Split_ok G hGT hGO pa off go po bm (nOf size) (eOf size) s l64 T _ hm seed hL.seed hW.tab hdT hW.lt hsm1 hf2 _ _ rfl rfl) ?_
                  rintro v L' ⟨s1, s2, o2, g2, U1, U2, L1, L2, rfl, rfl, ho2, hg2, hN4, hO, hA1, hA2, hF1, hF2, hK2, hlv2, _, _⟩
                  refine l_nm ?_
                  refine mv rfl rfl <| l_q rfl (q_extractL rfl ga) ?_
                  refine l_q rfl (q_extractL rfl ga) ?_
                  refine l_q rfl (q_extractL rfl ga) ?_
                  refine asg rfl rfl <| l_nil <| n_blk <| n_code <| t_seq <| sr <| mv rfl rfl <| l_q rfl (qs rfl rfl (b_eqlS ·)) <| mv rfl rfl ?_
                  have hP2 := TabP.kept hW.tab hK2
                  have hb2 := hK2.bl _ hW.blk
                  have hpic : picS s2.m off go (nOf size) = picS s.m off go (nOf size) := picS_congr (fun a q1 q2 => hK2.m _ hW.hd a (by dsimp only; omega) (by dsimp only; omega)) (fun a q1 q2 => hK2.m _ hW.blk a (by dsimp only; omega) (by dsimp only; omega))
                  refine l_pt (t := 118) rfl (fun c1 => ?_) fun c1 => ?_
                  · exact absurd c1 (picS_ne _ _ _ _)
                  · refine l_on rfl rfl <| l_q rfl (qlda rfl yA76 yS76) ?_
                    refine l_on rfl rfl <| l_q rfl (qfa 2 rfl yU76 rfl rfl yS34) <| l_on rfl rfl <| l_q rfl (qlda rfl yA34 yS34) ?_
                    refine l_on rfl rfl <| lc1 rfl rfl rfl (picture_ok pa po off go (nOf size) (eOf size) (off : Nat) s2 T hP2 hb2 (by omega)) ?_
                    refine l_on rfl rfl <| mv rfl rfl <| l_on rfl rfl <| l_q rfl (qs rfl rfl (b_neqS ·)) <| l_q rfl (q_pk rfl rfl) <| lc <| t_if rfl (fun c2 => ?_) fun c2 => ?_
                    · exact absurd hpic c2
                    · skip
                      refine t_skip <| n_code <| t_seq <| sr <| mv rfl rfl <| mv rfl rfl <| l_q rfl (qadd rfl rfl) ?_
                      refine mv rfl rfl <| l_q rfl (qi rfl rfl (b_gtr ·)) <| lc <| t_if rfl (fun c3 => ?_) fun c3 => ?_
                      · omega
                      · refine t_skip <| nz <| mv rfl rfl <| l_q rfl (qi rfl rfl (b_eql ·)) <| mv rfl rfl <| l_pt (t := 142) rfl (fun c4 => ?_) fun c4 => ?_
                        · refine l_on rfl rfl <| l_q rfl (qfa 0 rfl yU76 rfl rfl yS30) <| l_on rfl rfl <| l_q rfl (qld rfl yA30) ?_
                          refine l_on rfl rfl <| lc1 rfl rfl rfl (Live_ok pa s2) ?_
                          refine l_on rfl rfl <| mv rfl rfl <| l_on rfl rfl <| mv rfl rfl <| l_on rfl rfl <| l_q rfl (qadd rfl rfl) ?_
                          refine l_on rfl rfl <| l_q rfl (qi rfl rfl (b_eql ·)) <| l_q rfl (q_pk rfl rfl) <| asg rfl rfl <| lc <| rt <| fr1 rfl ([G]) (.tmp rfl) ?_
                          exact ⟨by rw [decide_eq_true (by omega)], rfl⟩
                        · exact absurd rfl c4
end Go.Proofs.YtgijnebgchkenaaGreatDoor.Grow
