import Derived.Test.YtgijnebgchkenaaGreatDoorGrowD
/- Contracts of larderlaw09: world. -/
set_option linter.unusedVariables false
set_option linter.unusedSimpArgs false
set_option maxRecDepth 100000
namespace Go.Proofs.YtgijnebgchkenaaGreatDoor.Grow
open Go.RowKit Go.Proofs Go.Proofs.YtgijnebgchkenaaGreatDoor.Eng Go.Proofs.YtgijnebgchkenaaGreatDoor.Ty Go.Proofs.YtgijnebgchkenaaGreatDoor.Bits Go.Proofs.YtgijnebgchkenaaGreatDoor.Mem Go.Proofs.YtgijnebgchkenaaGreatDoor.Search Go.Proofs.YtgijnebgchkenaaGreatDoor.Arena Go.Proofs.YtgijnebgchkenaaGreatDoor.CtrlB Go.Proofs.YtgijnebgchkenaaGreatDoor.Ctrl Go.Proofs.YtgijnebgchkenaaGreatDoor.Layout Go.Proofs.YtgijnebgchkenaaGreatDoor.GroupB Go.Proofs.YtgijnebgchkenaaGreatDoor.Group Go.Proofs.YtgijnebgchkenaaGreatDoor.Probe Go.Proofs.YtgijnebgchkenaaGreatDoor.TableB Go.Proofs.YtgijnebgchkenaaGreatDoor.TableI Go.Proofs.YtgijnebgchkenaaGreatDoor.Table Go.Proofs.YtgijnebgchkenaaGreatDoor.Bench Go.Proofs.YtgijnebgchkenaaGreatDoor.Cells Go.Proofs.YtgijnebgchkenaaGreatDoor.Refill Go.Proofs.YtgijnebgchkenaaGreatDoor.Oracle Go.Proofs.YtgijnebgchkenaaGreatDoor.Ref03


theorem Parse64_ok (b : Nat) : FnOk Tryz.prog 78 #[.slice (some ⟨b, 0, none⟩) 5 5] [pt b (.cells #[.int .i64 1, .int .i64 1, .int .i64 1, .int .i64 1, .int .i64 64] 3 (0, 0))]
    (fun v L => v = .tuple #[.agg #[.int .i64 l64.key, .int .i64 l64.elem, .int .i64 l64.ka, .int .i64 l64.ea, .int .i64 l64.cap, .int .i64 l64.eo, .int .i64 l64.bo, .int .i64 l64.slot, .int .i64 l64.group], .int .i64 0] ∧ L = [pt b (.cells #[.int .i64 1, .int .i64 1, .int .i64 1, .int .i64 1, .int .i64 64] 3 (0, 0))]) := by
  have h := Parse_ok b l64
  have e : ∀ x, l64.o x = x := fun x => if_pos l64_ok
  simp only [e, l64_ok] at h
  exact h

theorem New64_ok (pa : Nat) (size depth limit slots : Int) (H : ByteArray → Int) (hslots : slots = 8 * ((nOf size : Nat) : Int)) (hd : 0 ≤ depth ∧ depth ≤ 6) (hfit : 64 + classI ((nOf size * gN l64 : Nat) : Int) ≤ limit) :
    FnOk Tryz.prog 27 #[.pointer (some ⟨pa, 0, none⟩), .agg #[.int .i64 l64.key, .int .i64 l64.elem, .int .i64 l64.ka, .int .i64 l64.ea, .int .i64 l64.cap, .int .i64 l64.eo, .int .i64 l64.bo, .int .i64 l64.slot, .int .i64 l64.group], .int .i64 slots, .int .i64 depth] [arenaH pa (ArS.new limit)]
      (fun v L => ∃ s, v = .tuple #[.agg #[.pointer (some ⟨pa, 0, none⟩), .int .i64 l64.key, .int .i64 l64.elem, .int .i64 l64.ka, .int .i64 l64.ea, .int .i64 l64.cap, .int .i64 l64.eo, .int .i64 l64.bo, .int .i64 l64.slot, .int .i64 l64.group, .int .i64 (((ArS.new limit).at 64 : Nat) : Int)], .int .i64 0] ∧ L = [arenaH pa s] ∧ WP s ((ArS.new limit).at 64) (((ArS.new limit).take 64).at (classI ((nOf size * gN l64 : Nat) : Int))) (nOf size) (eOf size) H (newT (nOf size) depth) ∧ s.limit = limit ∧ s.live = 64 + classI ((nOf size * gN l64 : Nat) : Int)) := by
  have hn2 := nOf_le size
  refine FnOk.mono (Table.New_ok pa (nOf size) (eOf size) (ArS.new limit) l64 slots depth l64_ok (by have := eOf_le size; omega) rfl hslots hd) fun v L h => ?_
  have e1 : (ArS.new limit).live = 0 := rfl
  have e2 : (ArS.new limit).limit = limit := rfl
  rcases h with ⟨hb, _⟩ | ⟨_, _, s, rfl, rfl, hT, hNs⟩
  · exfalso
    rw [e1, e2] at hb
    rw [gN64] at hb hfit
    omega
  · exact ⟨s, rfl, rfl, ⟨hT, LT.new (by omega) H depth, (hNs.bl _).2 (.inr (.inl rfl)), (hNs.bl _).2 (.inr (.inr rfl))⟩, hNs.limit, by rw [hNs.live, e1]; omega⟩
theorem world_ok (G : HP) (hGT : TabOk G) (hGO : OddOk G) (seed size depth : Int) (vh vs : Value) (hs : List Int) (ts : List (Int × Int × Bool)) (hL : LifeAt G seed size depth vh vs hs ts) (limit : Int) (hlim : limit ≤ 2097152) (hfit : 64 + classI ((nOf size * gN l64 : Nat) : Int) ≤ limit) :
    FnOk Tryz.prog 29 #[.agg #[.int .u64 seed, .int .i64 size, .int .i64 depth, vh, vs], .int .i64 limit] [G]
      (fun v L => ∃ pa po bm off go s, v = .tuple #[.agg #[.pointer (some ⟨pa, 0, none⟩), .pointer (some ⟨po, 0, none⟩), .pointer (some ⟨pa, 0, none⟩), .int .i64 l64.key, .int .i64 l64.elem, .int .i64 l64.ka, .int .i64 l64.ea, .int .i64 l64.cap, .int .i64 l64.eo, .int .i64 l64.bo, .int .i64 l64.slot, .int .i64 l64.group, .int .i64 ((off : Nat) : Int)], .bool true] ∧ L = [pt po (.cells #[.map (some bm)] 191 (0, 0)), mapH (fun k : ByteArray => Value.string k) bm (mapO (osOf hs)), G, arenaH pa s] ∧ WP s off go (nOf size) (eOf size) (hashF (mapO (osOf hs)) seed) (newT (nOf size) (depth % 6)) ∧ s.limit = limit ∧ s.live = 64 + classI ((nOf size * gN l64 : Nat) : Int)) := by
  have hsz := hL.size
  have hdp := hL.depth
  have hhl := hL.hlen
  have hn2 := nOf_le size
  obtain ⟨a, cap, rfl, hA⟩ := hL.hash
  refine fn_intro en29 Tryz.func29 rfl rfl rfl fun Fr w0 => t_nm ?_
  refine sr <| o_boxA rfl rfl fun b2 => o_allocA rfl yZ76 fun b4 => asg rfl rfl <| lz <| asg rfl rfl <| lc <| t_seq <| sr <| asg rfl rfl <| lc <| t_block ?_
  refine t_ent (show Ent _ (ownS 152 2 (.slice none 0 0) 0 (rowOf overC ((osOf hs).take 0)) :: pt b4 (.cells #[.pointer none, .pointer none, .pointer none, .int .i64 0, .int .i64 0, .int .i64 0, .int .i64 0, .int .i64 0, .int .i64 0, .int .i64 0, .int .i64 0, .int .i64 0, .int .i64 0] 76 (0, 0)) :: pt b2 (.cells #[.int .u64 seed, .int .i64 size, .int .i64 depth, .slice a hs.length cap, vs] 72 (0, 0)) :: G :: Fr) from fun w h => (own_nil h).perm (by simpa using .refl _)) ?_
  refine t_loop (fun x : Nat × Value => x.1 ≤ hs.length ∧ x.1 ≤ 62) (fun x => [(1, .int .i64 limit), (2, .pointer (some ⟨b2, 0, none⟩)), (4, .pointer (some ⟨b4, 0, none⟩)), (5, .bool false), (6, x.2), (7, .int .i64 (x.1 : Nat))]) (fun x => ownS 152 2 x.2 x.1 (rowOf overC ((osOf hs).take x.1)) :: pt b4 (.cells #[.pointer none, .pointer none, .pointer none, .int .i64 0, .int .i64 0, .int .i64 0, .int .i64 0, .int .i64 0, .int .i64 0, .int .i64 0, .int .i64 0, .int .i64 0, .int .i64 0] 76 (0, 0)) :: pt b2 (.cells #[.int .u64 seed, .int .i64 size, .int .i64 depth, .slice a hs.length cap, vs] 72 (0, 0)) :: G :: Fr) (fun x => hs.length - x.1) (0, .slice none 0 0) ⟨Nat.zero_le _, Nat.zero_le _⟩ ⟨rfl, rfl, rfl, rfl, rfl, rfl, trivial⟩ (by (exact en)) ?_
  rintro ⟨i, lv⟩ ⟨hi, hi62⟩
  dsimp only at hi hi62 ⊢
  refine t_seq <| sr <| mv rfl rfl <| l_q rfl (qfa 3 rfl yU72 rfl rfl yS23) <| l_q rfl (qld rfl yA23) ?_
  refine l_q rfl (ql rfl yU23) <| l_q rfl (qi rfl rfl (b_lss ·)) <| mv rfl rfl <| l_pt (t := 21) rfl (fun h1 => ?_) fun h1 => ?_
  · refine l_on rfl rfl <| mv rfl rfl <| l_on rfl rfl <| l_q rfl (qi rfl rfl (b_lss ·)) <| l_q rfl (q_pk rfl rfl) <| lc <| t_pt (t := 24) rfl (fun h2 => ?_) fun h2 => ?_
    · skip
      obtain ⟨b, o, rfl, hA2⟩ := hA (by omega)
      have hil : i < hs.length := by omega
      have hc : CellAt G ⟨b, o + (i : Int).toNat, none⟩ (.int .u64 hs[i]) := by rw [Int.toNat_natCast]; exact hA2 i _ (List.getElem?_eq_getElem hil)
      have hst : rowOf overC ((osOf hs).take i) ++ ([Value.agg #[.string (letter i), .int .u64 hs[i]]].flatMap fun x => x.cells.toList).toArray.toList = rowOf overC ((osOf hs).take (i + 1)) := by rw [List.take_add_one, osOf_get hil (by omega), rowOf_app]; simp [rowOf, overC]; rfl
      refine t_cond_t rfl <| t_skip <| n_code <| t_seq <| t_block <| t_draw mixed ?_
      apply dq 0 rfl
      · exact yq (q_move rfl)
      apply dq 1 rfl
      · exact yq (q_move rfl)
      apply dq 2 rfl
      · exact yq (q_move rfl)
      apply dq 3 rfl
      · exact yq (qadd rfl rfl)
      apply dq 4 rfl
      · apply yq
        refine QV.to (v' := .string (letter i)) (q_sliceS_lh (s := letters) rfl rfl rfl Tryz.underlying9 ⟨by omega, by omega, by show _ ≤ (62 : Int); omega⟩) (by rw [show ((i : Int) + 1).toNat = i + 1 by omega, Int.toNat_natCast]; rfl)
      apply dq 5 rfl
      · exact yq (qfa 3 rfl yU72 rfl rfl yS23)
      apply dq 6 rfl
      · exact yq (qld rfl yA23)
      apply dq 7 rfl
      · exact yq (q_move rfl)
      apply dq 8 rfl
      · exact yq (q_indexAddr1 rfl rfl yU23 yS52 (by omega))
      apply dq 9 rfl
      · exact yq (q_loadR (A := G) rfl yA52 tk hc)
      apply dq 10 rfl
      · apply yq
        apply q_buildS rfl yP152 yZ152
        · apply FillR.one
          · repeat (first | exact PlAt.here | apply PlAt.there)
          · rfl
          · exact sa
          apply FillR.one
          · repeat (first | exact PlAt.here | apply PlAt.there)
          · rfl
          · exact sa
          exact FillR.nil
      refine d_eff1 [10, 4, 9, 1, 3, 8, 2, 6, 7, 5] [0] 11 [(37, _)] gO ⟨rfl, trivial⟩ (by kernel_rfl) (by kernel_rfl) fun Ex => ?_
      refine o_buildSlice (us := [_]) rfl rfl yU87 yS152 yZ152 rfl rfl rfl rfl rfl (fun b38 => ?_)
      refine l_nil ?_
      apply n_d
      · refine ⟨?_, trivial⟩
        · apply ya rfl rfl; exact yq (q_move rfl)
      refine d_eff1 [0] [] 12 [(27, _), (38, _)] gO ⟨rfl, rfl, trivial⟩ (by kernel_rfl) (by kernel_rfl) fun Ex => ?_
      apply o_append (sz := 2) rfl rfl rfl yU87 yI152 rfl rfl
      · exact tk
      · exact tk
      · rfl
      · rfl
      · simp only [maxLen]; omega
      · omega
      intro v39
      refine l_shape (v := v39) tk fun _ hs39 => ?_
      obtain ⟨a39, cap39, rfl, hs39, _, _⟩ := hs39
      refine l_nil ?_
      apply n_d
      · exact trivial
      refine d_eff1 [] [] 13 [(39, _)] gO ⟨rfl, trivial⟩ (by kernel_rfl) (by kernel_rfl) fun Ex => ?_
      refine asg rfl rfl <| l_nil ?_
      apply n_d
      · exact trivial
      refine d_end (by kernel_rfl) ?_
      refine n_blk <| n_code <| t_region <| mv rfl rfl <| l_q rfl (qadd rfl rfl) ?_
      refine asg rfl rfl <| l_nil ?_
      rw [hst]
      apply n_again ((i + 1, .slice a39 (i + 1) cap39))
      · exact by dsimp only; omega
      · dsimp only; omega
      · exact ⟨rfl, rfl, rfl, rfl, rfl, rfl, trivial⟩
      · exact en
    · refine t_cond_f rfl <| xt rfl <| nz ?_
      refine o_buildSlice1 [_, _, _, _, _] rfl rfl yU22 yS3 yZ3 rfl rfl rfl rfl (fun b41 => ?_)
      have hin : i = (osOf hs).length := by rw [osOf_len]; omega
      rw [show (osOf hs).take i = osOf hs by rw [hin]; exact List.take_length]
      rw [hin]
      refine lc1 rfl rfl rfl (Parse64_ok b41) ?_
      refine mv rfl rfl <| l_q rfl (q_extractL rfl ga) ?_
      refine l_q rfl (q_extractL rfl ga) ?_
      refine o_allocA rfl yZ32 fun b8 => sta rfl rfl rfl yS32 rfl rfl ?_
      refine asg rfl rfl <| lz <| mv rfl rfl ?_
      refine lcf rfl rfl rfl (Arena.New_ok limit ⟨by have := classI_bnd (n := ((nOf size * gN l64 : Nat) : Int)) (by rw [gN64]; omega); omega, hlim⟩) ?_
      rintro v L' ⟨pa, rfl, rfl⟩
      refine l_nm ?_
      refine mv rfl rfl <| l_q rfl (q_extractL rfl ga) ?_
      refine l_q rfl (q_extractL rfl ga) ?_
      refine asg rfl rfl <| asg rfl rfl <| lz <| mv rfl rfl ?_
      refine l_shape (v := lv) tk fun _ hlv => ?_
      obtain ⟨av, cv, rfl, hav, _, _⟩ := hlv
      refine lcf rfl rfl rfl (oNew_ok (ownS 152 2 (.slice av (osOf hs).length cv) (osOf hs).length (rowOf overC (osOf hs))) (.slice av (osOf hs).length cv) (osOf hs) (own_over hav) (osOf_good hs)) ?_
      rintro v L' ⟨po, bm, rfl, rfl⟩
      refine l_nm ?_
      refine mv rfl rfl <| l_q rfl (q_extractL rfl ga) ?_
      refine l_q rfl (q_extractL rfl ga) ?_
      refine asg rfl rfl <| asg rfl rfl <| lc <| t_seq <| sr <| mv rfl rfl <| l_q rfl (qi rfl rfl (b_neq ·)) <| mv rfl rfl <| l_pt (t := 57) rfl (fun c1 => ?_) fun c1 => ?_
      · exact absurd rfl c1
      · refine l_on rfl rfl <| mv rfl rfl <| l_on rfl rfl <| l_q rfl (qi rfl rfl (b_neq ·)) <| l_q rfl (q_pk rfl rfl) <| mv rfl rfl <| l_pt (t := 61) rfl (fun c2 => ?_) fun c2 => ?_
        · exact absurd rfl c2
        · refine l_on rfl rfl <| mv rfl rfl <| l_on rfl rfl <| l_q rfl (qi rfl rfl (b_neq ·)) <| l_q rfl (q_pk rfl rfl) <| mv rfl rfl <| l_pt (t := 65) rfl (fun c3 => ?_) fun c3 => ?_
          · exact absurd rfl c3
          · refine l_on rfl rfl <| mv rfl rfl <| l_on rfl rfl <| l_q rfl (q_bin rfl rfl (g_pointer ·) (b_eqlP0 · yU30)) <| l_q rfl (q_pk rfl rfl) <| mv rfl rfl <| l_pt (t := 69) rfl (fun c4 => ?_) fun c4 => ?_
            · simp at c4
            · refine l_on rfl rfl <| mv rfl rfl <| l_on rfl rfl <| l_q rfl (q_bin rfl rfl (g_pointer ·) (b_eqlP0 · yU74)) <| l_q rfl (q_pk rfl rfl) <| lc <| t_if rfl (fun c5 => ?_) fun c5 => ?_
              · simp at c5
              · refine t_skip <| n_code <| t_seq <| t_draw mixed ?_
                apply dq 0 rfl
                · exact yq (q_move rfl)
                apply dq 1 rfl
                · exact yq (qlda rfl yA32 yS32)
                apply dq 2 rfl
                · exact yq (qfa 1 rfl yU72 rfl rfl yS3)
                apply dq 3 rfl
                · exact yq (qld rfl yA3)
                apply dq 6 rfl
                · exact yq (qfa 2 rfl yU72 rfl rfl yS3)
                apply dq 7 rfl
                · exact yq (qld rfl yA3)
                apply d_eff2 4 13
                · kernel_rfl
                · apply effAt (q1 := [3, 2]) (q2 := [7, 6, 1, 0]) [(78, _)]
                  · exact gO
                  · exact ⟨rfl, trivial⟩
                  · kernel_rfl
                  intro Ex
                  refine lc1 rfl rfl rfl (mod_ok size 3 hsz (by decide)) ?_
                  refine l_nil ?_
                  apply n_d
                  · refine ⟨?_, ?_, ?_, ?_, trivial⟩
                    · apply ya rfl rfl; exact yq (qld rfl yA3)
                    · apply ya rfl rfl; exact yq (qfa 2 rfl yU72 rfl rfl yS3)
                    · apply ya rfl rfl; exact yq (qlda rfl yA32 yS32)
                    · apply ya rfl rfl; exact yq (q_move rfl)
                  apply dq 5 rfl
                  · apply yq
                    apply qi rfl rfl; exact fun w => b_shl w (by omega)
                  apply d_eff2 8 13
                  · kernel_rfl
                  · apply effAt (q1 := [7, 6]) (q2 := [5, 1, 0]) [(82, _)]
                    · exact gO
                    · exact ⟨rfl, trivial⟩
                    · kernel_rfl
                    intro Ex
                    refine lc1 rfl rfl rfl (mod_ok depth 6 hdp (by decide)) ?_
                    refine l_nil ?_
                    apply n_d
                    · refine ⟨?_, ?_, ?_, trivial⟩
                      · apply ya rfl rfl
                        apply yq
                        apply qi rfl rfl; exact fun w => b_shl w (by omega)
                      · apply ya rfl rfl; exact yq (qlda rfl yA32 yS32)
                      · apply ya rfl rfl; exact yq (q_move rfl)
                    apply d_eff2 9 13
                    · kernel_rfl
                    · apply effAt (q1 := [0, 1, 5]) (q2 := []) [(75, _), (76, _), (80, _), (83, _)]
                      · exact gO
                      · exact ⟨rfl, rfl, rfl, rfl, trivial⟩
                      · kernel_rfl
                      intro Ex
                      refine lcf rfl rfl rfl (New64_ok pa size (depth % 6) limit _ (hashF (mapO (osOf hs)) seed) (shl_size size) ⟨Int.emod_nonneg depth (by decide), by omega⟩ hfit) ?_
                      rintro v L' ⟨s, rfl, rfl, hW, hW1, hW2⟩
                      refine l_nm ?_
                      refine l_nil ?_
                      apply n_d
                      · exact trivial
                      apply dq 10 rfl
                      · exact yq (q_move rfl)
                      apply dq 11 rfl
                      · exact yq (q_extractL rfl ga)
                      apply dq 12 rfl
                      · exact yq (q_extractL rfl ga)
                      refine d_eff1 [] [12, 11, 10] 13 [] gO trivial (by kernel_rfl) (by kernel_rfl) fun Ex => ?_
                      refine o_allocA rfl yZ34 fun b14 => l_nil ?_
                      apply n_d
                      · refine ⟨?_, ?_, ?_, trivial⟩
                        · apply ya rfl rfl; exact yq (q_extractL rfl ga)
                        · apply ya rfl rfl; exact yq (q_extractL rfl ga)
                        · apply ya rfl rfl; exact yq (q_move rfl)
                      refine d_eff1 [11, 10] [12] 14 [(14, _), (85, _)] gO ⟨rfl, rfl, trivial⟩ (by kernel_rfl) (by kernel_rfl) fun Ex => ?_
                      refine sta rfl rfl rfl yS34 rfl rfl ?_
                      refine l_nil ?_
                      apply n_d
                      · refine ⟨?_, trivial⟩
                        · apply ya rfl rfl; exact yq (q_extractL rfl ga)
                      refine d_eff1 [12] [] 15 [(86, _)] gO ⟨rfl, trivial⟩ (by kernel_rfl) (by kernel_rfl) fun Ex => ?_
                      refine asg rfl rfl <| l_nil ?_
                      apply n_d
                      · exact trivial
                      refine d_end (by kernel_rfl) ?_
                      refine nz <| mv rfl rfl <| mv rfl rfl <| l_q rfl (qlda rfl yA34 yS34) ?_
                      apply l_q rfl
                      · apply q_buildS rfl yP76 yZ76
                        · apply FillR.one
                          · repeat (first | exact PlAt.here | apply PlAt.there)
                          · rfl
                          · exact sa
                          apply FillR.one
                          · repeat (first | exact PlAt.here | apply PlAt.there)
                          · rfl
                          · exact sa
                          apply FillR.all
                          · repeat (first | exact PlAt.here | apply PlAt.there)
                          · rfl
                          · simp
                          · exact sal
                          exact FillR.nil
                      refine mv rfl rfl <| l_q rfl (qi rfl rfl (b_eql ·)) <| sta rfl rfl rfl yS76 rfl rfl ?_
                      refine asg rfl rfl <| lc <| rt ?_
                      apply f_ret (.inl rfl) ([pt po (.cells #[.map (some bm)] 191 (0, 0)), mapH (fun k : ByteArray => Value.string k) bm (mapO (osOf hs)), G, arenaH pa s])
                      · apply res2 rfl
                        · apply Rv.agg rfl
                          · exact tk
                          · exact run_loadAll yA76 yS76 rfl
                        · exact .tmp rfl
                      · exact ⟨pa, po, bm, _, _, s, rfl, rfl, hW, hW1, hW2⟩
                      · exact en
                    · apply effAt (q1 := []) (q2 := [5, 1, 0]) []
                      · exact gO
                      · exact trivial
                      · kernel_rfl
                      intro Ex
                      refine o_allocA rfl yZ34 fun b14 => l_nil ?_
                      apply n_d
                      · refine ⟨?_, ?_, ?_, trivial⟩
                        · apply ya rfl rfl
                          apply yq
                          apply qi rfl rfl; exact fun w => b_shl w (by omega)
                        · apply ya rfl rfl; exact yq (qlda rfl yA32 yS32)
                        · apply ya rfl rfl; exact yq (q_move rfl)
                      refine d_eff1 [0, 1, 5] [] 9 [(75, _), (76, _), (80, _), (83, _)] gO ⟨rfl, rfl, rfl, rfl, trivial⟩ (by kernel_rfl) (by kernel_rfl) fun Ex => ?_
                      refine lcf rfl rfl rfl (New64_ok pa size (depth % 6) limit _ (hashF (mapO (osOf hs)) seed) (shl_size size) ⟨Int.emod_nonneg depth (by decide), by omega⟩ hfit) ?_
                      rintro v L' ⟨s, rfl, rfl, hW, hW1, hW2⟩
                      refine l_nm ?_
                      refine l_nil ?_
                      apply n_d
                      · exact trivial
                      apply dq 10 rfl
                      · exact yq (q_move rfl)
                      apply dq 11 rfl
                      · exact yq (q_extractL rfl ga)
                      apply dq 12 rfl
                      · exact yq (q_extractL rfl ga)
                      refine d_eff1 [11, 10] [12] 14 [(14, _), (85, _)] gO ⟨rfl, rfl, trivial⟩ (by kernel_rfl) (by kernel_rfl) fun Ex => ?_
                      refine sta rfl rfl rfl yS34 rfl rfl ?_
                      refine l_nil ?_
                      apply n_d
                      · refine ⟨?_, trivial⟩
                        · apply ya rfl rfl; exact yq (q_extractL rfl ga)
                      refine d_eff1 [12] [] 15 [(86, _)] gO ⟨rfl, trivial⟩ (by kernel_rfl) (by kernel_rfl) fun Ex => ?_
                      refine asg rfl rfl <| l_nil ?_
                      apply n_d
                      · exact trivial
                      refine d_end (by kernel_rfl) ?_
                      refine nz <| mv rfl rfl <| mv rfl rfl <| l_q rfl (qlda rfl yA34 yS34) ?_
                      apply l_q rfl
                      · apply q_buildS rfl yP76 yZ76
                        · apply FillR.one
                          · repeat (first | exact PlAt.here | apply PlAt.there)
                          · rfl
                          · exact sa
                          apply FillR.one
                          · repeat (first | exact PlAt.here | apply PlAt.there)
                          · rfl
                          · exact sa
                          apply FillR.all
                          · repeat (first | exact PlAt.here | apply PlAt.there)
                          · rfl
                          · simp
                          · exact sal
                          exact FillR.nil
                      refine mv rfl rfl <| l_q rfl (qi rfl rfl (b_eql ·)) <| sta rfl rfl rfl yS76 rfl rfl ?_
                      refine asg rfl rfl <| lc <| rt ?_
                      apply f_ret (.inl rfl) ([pt po (.cells #[.map (some bm)] 191 (0, 0)), mapH (fun k : ByteArray => Value.string k) bm (mapO (osOf hs)), G, arenaH pa s])
                      · apply res2 rfl
                        · apply Rv.agg rfl
                          · exact tk
                          · exact run_loadAll yA76 yS76 rfl
                        · exact .tmp rfl
                      · exact ⟨pa, po, bm, _, _, s, rfl, rfl, hW, hW1, hW2⟩
                      · exact en
                  · apply effAt (q1 := []) (q2 := [5, 7, 6, 1, 0]) []
                    · exact gO
                    · exact trivial
                    · kernel_rfl
                    intro Ex
                    refine o_allocA rfl yZ34 fun b14 => l_nil ?_
                    apply n_d
                    · refine ⟨?_, ?_, ?_, ?_, ?_, trivial⟩
                      · apply ya rfl rfl
                        apply yq
                        apply qi rfl rfl; exact fun w => b_shl w (by omega)
                      · apply ya rfl rfl; exact yq (qld rfl yA3)
                      · apply ya rfl rfl; exact yq (qfa 2 rfl yU72 rfl rfl yS3)
                      · apply ya rfl rfl; exact yq (qlda rfl yA32 yS32)
                      · apply ya rfl rfl; exact yq (q_move rfl)
                    refine d_eff1 [7, 6] [5, 1, 0] 8 [(82, _)] gO ⟨rfl, trivial⟩ (by kernel_rfl) (by kernel_rfl) fun Ex => ?_
                    refine lc1 rfl rfl rfl (mod_ok depth 6 hdp (by decide)) ?_
                    refine l_nil ?_
                    apply n_d
                    · refine ⟨?_, ?_, ?_, trivial⟩
                      · apply ya rfl rfl
                        apply yq
                        apply qi rfl rfl; exact fun w => b_shl w (by omega)
                      · apply ya rfl rfl; exact yq (qlda rfl yA32 yS32)
                      · apply ya rfl rfl; exact yq (q_move rfl)
                    refine d_eff1 [0, 1, 5] [] 9 [(75, _), (76, _), (80, _), (83, _)] gO ⟨rfl, rfl, rfl, rfl, trivial⟩ (by kernel_rfl) (by kernel_rfl) fun Ex => ?_
                    refine lcf rfl rfl rfl (New64_ok pa size (depth % 6) limit _ (hashF (mapO (osOf hs)) seed) (shl_size size) ⟨Int.emod_nonneg depth (by decide), by omega⟩ hfit) ?_
                    rintro v L' ⟨s, rfl, rfl, hW, hW1, hW2⟩
                    refine l_nm ?_
                    refine l_nil ?_
                    apply n_d
                    · exact trivial
                    apply dq 10 rfl
                    · exact yq (q_move rfl)
                    apply dq 11 rfl
                    · exact yq (q_extractL rfl ga)
                    apply dq 12 rfl
                    · exact yq (q_extractL rfl ga)
                    refine d_eff1 [11, 10] [12] 14 [(14, _), (85, _)] gO ⟨rfl, rfl, trivial⟩ (by kernel_rfl) (by kernel_rfl) fun Ex => ?_
                    refine sta rfl rfl rfl yS34 rfl rfl ?_
                    refine l_nil ?_
                    apply n_d
                    · refine ⟨?_, trivial⟩
                      · apply ya rfl rfl; exact yq (q_extractL rfl ga)
                    refine d_eff1 [12] [] 15 [(86, _)] gO ⟨rfl, trivial⟩ (by kernel_rfl) (by kernel_rfl) fun Ex => ?_
                    refine asg rfl rfl <| l_nil ?_
                    apply n_d
                    · exact trivial
                    refine d_end (by kernel_rfl) ?_
                    refine nz <| mv rfl rfl <| mv rfl rfl <| l_q rfl (qlda rfl yA34 yS34) ?_
                    apply l_q rfl
                    · apply q_buildS rfl yP76 yZ76
                      · apply FillR.one
                        · repeat (first | exact PlAt.here | apply PlAt.there)
                        · rfl
                        · exact sa
                        apply FillR.one
                        · repeat (first | exact PlAt.here | apply PlAt.there)
                        · rfl
                        · exact sa
                        apply FillR.all
                        · repeat (first | exact PlAt.here | apply PlAt.there)
                        · rfl
                        · simp
                        · exact sal
                        exact FillR.nil
                    refine mv rfl rfl <| l_q rfl (qi rfl rfl (b_eql ·)) <| sta rfl rfl rfl yS76 rfl rfl ?_
                    refine asg rfl rfl <| lc <| rt ?_
                    apply f_ret (.inl rfl) ([pt po (.cells #[.map (some bm)] 191 (0, 0)), mapH (fun k : ByteArray => Value.string k) bm (mapO (osOf hs)), G, arenaH pa s])
                    · apply res2 rfl
                      · apply Rv.agg rfl
                        · exact tk
                        · exact run_loadAll yA76 yS76 rfl
                      · exact .tmp rfl
                    · exact ⟨pa, po, bm, _, _, s, rfl, rfl, hW, hW1, hW2⟩
                    · exact en
                · apply effAt (q1 := []) (q2 := [7, 6, 3, 2, 1, 0]) []
                  · exact gO
                  · exact trivial
                  · kernel_rfl
                  intro Ex
                  refine o_allocA rfl yZ34 fun b14 => l_nil ?_
                  apply n_d
                  · refine ⟨?_, ?_, ?_, ?_, ?_, ?_, trivial⟩
                    · apply ya rfl rfl; exact yq (qld rfl yA3)
                    · apply ya rfl rfl; exact yq (qfa 2 rfl yU72 rfl rfl yS3)
                    · apply ya rfl rfl; exact yq (qld rfl yA3)
                    · apply ya rfl rfl; exact yq (qfa 1 rfl yU72 rfl rfl yS3)
                    · apply ya rfl rfl; exact yq (qlda rfl yA32 yS32)
                    · apply ya rfl rfl; exact yq (q_move rfl)
                  refine d_eff1 [3, 2] [7, 6, 1, 0] 4 [(78, _)] gO ⟨rfl, trivial⟩ (by kernel_rfl) (by kernel_rfl) fun Ex => ?_
                  refine lc1 rfl rfl rfl (mod_ok size 3 hsz (by decide)) ?_
                  refine l_nil ?_
                  apply n_d
                  · refine ⟨?_, ?_, ?_, ?_, trivial⟩
                    · apply ya rfl rfl; exact yq (qld rfl yA3)
                    · apply ya rfl rfl; exact yq (qfa 2 rfl yU72 rfl rfl yS3)
                    · apply ya rfl rfl; exact yq (qlda rfl yA32 yS32)
                    · apply ya rfl rfl; exact yq (q_move rfl)
                  apply dq 5 rfl
                  · apply yq
                    apply qi rfl rfl; exact fun w => b_shl w (by omega)
                  refine d_eff1 [7, 6] [5, 1, 0] 8 [(82, _)] gO ⟨rfl, trivial⟩ (by kernel_rfl) (by kernel_rfl) fun Ex => ?_
                  refine lc1 rfl rfl rfl (mod_ok depth 6 hdp (by decide)) ?_
                  refine l_nil ?_
                  apply n_d
                  · refine ⟨?_, ?_, ?_, trivial⟩
                    · apply ya rfl rfl
                      apply yq
                      apply qi rfl rfl; exact fun w => b_shl w (by omega)
                    · apply ya rfl rfl; exact yq (qlda rfl yA32 yS32)
                    · apply ya rfl rfl; exact yq (q_move rfl)
                  refine d_eff1 [0, 1, 5] [] 9 [(75, _), (76, _), (80, _), (83, _)] gO ⟨rfl, rfl, rfl, rfl, trivial⟩ (by kernel_rfl) (by kernel_rfl) fun Ex => ?_
                  refine lcf rfl rfl rfl (New64_ok pa size (depth % 6) limit _ (hashF (mapO (osOf hs)) seed) (shl_size size) ⟨Int.emod_nonneg depth (by decide), by omega⟩ hfit) ?_
                  rintro v L' ⟨s, rfl, rfl, hW, hW1, hW2⟩
                  refine l_nm ?_
                  refine l_nil ?_
                  apply n_d
                  · exact trivial
                  apply dq 10 rfl
                  · exact yq (q_move rfl)
                  apply dq 11 rfl
                  · exact yq (q_extractL rfl ga)
                  apply dq 12 rfl
                  · exact yq (q_extractL rfl ga)
                  refine d_eff1 [11, 10] [12] 14 [(14, _), (85, _)] gO ⟨rfl, rfl, trivial⟩ (by kernel_rfl) (by kernel_rfl) fun Ex => ?_
                  refine sta rfl rfl rfl yS34 rfl rfl ?_
                  refine l_nil ?_
                  apply n_d
                  · refine ⟨?_, trivial⟩
                    · apply ya rfl rfl; exact yq (q_extractL rfl ga)
                  refine d_eff1 [12] [] 15 [(86, _)] gO ⟨rfl, trivial⟩ (by kernel_rfl) (by kernel_rfl) fun Ex => ?_
                  refine asg rfl rfl <| l_nil ?_
                  apply n_d
                  · exact trivial
                  refine d_end (by kernel_rfl) ?_
                  refine nz <| mv rfl rfl <| mv rfl rfl <| l_q rfl (qlda rfl yA34 yS34) ?_
                  apply l_q rfl
                  · apply q_buildS rfl yP76 yZ76
                    · apply FillR.one
                      · repeat (first | exact PlAt.here | apply PlAt.there)
                      · rfl
                      · exact sa
                      apply FillR.one
                      · repeat (first | exact PlAt.here | apply PlAt.there)
                      · rfl
                      · exact sa
                      apply FillR.all
                      · repeat (first | exact PlAt.here | apply PlAt.there)
                      · rfl
                      · simp
                      · exact sal
                      exact FillR.nil
                  refine mv rfl rfl <| l_q rfl (qi rfl rfl (b_eql ·)) <| sta rfl rfl rfl yS76 rfl rfl ?_
                  refine asg rfl rfl <| lc <| rt ?_
                  apply f_ret (.inl rfl) ([pt po (.cells #[.map (some bm)] 191 (0, 0)), mapH (fun k : ByteArray => Value.string k) bm (mapO (osOf hs)), G, arenaH pa s])
                  · apply res2 rfl
                    · apply Rv.agg rfl
                      · exact tk
                      · exact run_loadAll yA76 yS76 rfl
                    · exact .tmp rfl
                  · exact ⟨pa, po, bm, _, _, s, rfl, rfl, hW, hW1, hW2⟩
                  · exact en
  · refine l_off rfl rfl rfl rfl <| l_off rfl rfl rfl rfl <| l_q rfl (q_pk rfl rfl) <| lc <| t_cond_f rfl <| xt rfl <| nz ?_
    refine o_buildSlice1 [_, _, _, _, _] rfl rfl yU22 yS3 yZ3 rfl rfl rfl rfl (fun b41 => ?_)
    have hin : i = (osOf hs).length := by rw [osOf_len]; omega
    rw [show (osOf hs).take i = osOf hs by rw [hin]; exact List.take_length]
    rw [hin]
    refine lc1 rfl rfl rfl (Parse64_ok b41) ?_
    refine mv rfl rfl <| l_q rfl (q_extractL rfl ga) ?_
    refine l_q rfl (q_extractL rfl ga) ?_
    refine o_allocA rfl yZ32 fun b8 => sta rfl rfl rfl yS32 rfl rfl ?_
    refine asg rfl rfl <| lz <| mv rfl rfl ?_
    refine lcf rfl rfl rfl (Arena.New_ok limit ⟨by have := classI_bnd (n := ((nOf size * gN l64 : Nat) : Int)) (by rw [gN64]; omega); omega, hlim⟩) ?_
    rintro v L' ⟨pa, rfl, rfl⟩
    refine l_nm ?_
    refine mv rfl rfl <| l_q rfl (q_extractL rfl ga) ?_
    refine l_q rfl (q_extractL rfl ga) ?_
    refine asg rfl rfl <| asg rfl rfl <| lz <| mv rfl rfl ?_
    refine l_shape (v := lv) tk fun _ hlv => ?_
    obtain ⟨av, cv, rfl, hav, _, _⟩ := hlv
    refine lcf rfl rfl rfl (oNew_ok (ownS 152 2 (.slice av (osOf hs).length cv) (osOf hs).length (rowOf overC (osOf hs))) (.slice av (osOf hs).length cv) (osOf hs) (own_over hav) (osOf_good hs)) ?_
    rintro v L' ⟨po, bm, rfl, rfl⟩
    refine l_nm ?_
    refine mv rfl rfl <| l_q rfl (q_extractL rfl ga) ?_
    refine l_q rfl (q_extractL rfl ga) ?_
    refine asg rfl rfl <| asg rfl rfl <| lc <| t_seq <| sr <| mv rfl rfl <| l_q rfl (qi rfl rfl (b_neq ·)) <| mv rfl rfl <| l_pt (t := 57) rfl (fun c1 => ?_) fun c1 => ?_
    · exact absurd rfl c1
    · refine l_on rfl rfl <| mv rfl rfl <| l_on rfl rfl <| l_q rfl (qi rfl rfl (b_neq ·)) <| l_q rfl (q_pk rfl rfl) <| mv rfl rfl <| l_pt (t := 61) rfl (fun c2 => ?_) fun c2 => ?_
      · exact absurd rfl c2
      · refine l_on rfl rfl <| mv rfl rfl <| l_on rfl rfl <| l_q rfl (qi rfl rfl (b_neq ·)) <| l_q rfl (q_pk rfl rfl) <| mv rfl rfl <| l_pt (t := 65) rfl (fun c3 => ?_) fun c3 => ?_
        · exact absurd rfl c3
        · refine l_on rfl rfl <| mv rfl rfl <| l_on rfl rfl <| l_q rfl (q_bin rfl rfl (g_pointer ·) (b_eqlP0 · yU30)) <| l_q rfl (q_pk rfl rfl) <| mv rfl rfl <| l_pt (t := 69) rfl (fun c4 => ?_) fun c4 => ?_
          · simp at c4
          · refine l_on rfl rfl <| mv rfl rfl <| l_on rfl rfl <| l_q rfl (q_bin rfl rfl (g_pointer ·) (b_eqlP0 · yU74)) <| l_q rfl (q_pk rfl rfl) <| lc <| t_if rfl (fun c5 => ?_) fun c5 => ?_
            · simp at c5
            · refine t_skip <| n_code <| t_seq <| t_draw mixed ?_
              apply dq 0 rfl
              · exact yq (q_move rfl)
              apply dq 1 rfl
              · exact yq (qlda rfl yA32 yS32)
              apply dq 2 rfl
              · exact yq (qfa 1 rfl yU72 rfl rfl yS3)
              apply dq 3 rfl
              · exact yq (qld rfl yA3)
              apply dq 6 rfl
              · exact yq (qfa 2 rfl yU72 rfl rfl yS3)
              apply dq 7 rfl
              · exact yq (qld rfl yA3)
              apply d_eff2 4 13
              · kernel_rfl
              · apply effAt (q1 := [3, 2]) (q2 := [7, 6, 1, 0]) [(78, _)]
                · exact gO
                · exact ⟨rfl, trivial⟩
                · kernel_rfl
                intro Ex
                refine lc1 rfl rfl rfl (mod_ok size 3 hsz (by decide)) ?_
                refine l_nil ?_
                apply n_d
                · refine ⟨?_, ?_, ?_, ?_, trivial⟩
                  · apply ya rfl rfl; exact yq (qld rfl yA3)
                  · apply ya rfl rfl; exact yq (qfa 2 rfl yU72 rfl rfl yS3)
                  · apply ya rfl rfl; exact yq (qlda rfl yA32 yS32)
                  · apply ya rfl rfl; exact yq (q_move rfl)
                apply dq 5 rfl
                · apply yq
                  apply qi rfl rfl; exact fun w => b_shl w (by omega)
                apply d_eff2 8 13
                · kernel_rfl
                · apply effAt (q1 := [7, 6]) (q2 := [5, 1, 0]) [(82, _)]
                  · exact gO
                  · exact ⟨rfl, trivial⟩
                  · kernel_rfl
                  intro Ex
                  refine lc1 rfl rfl rfl (mod_ok depth 6 hdp (by decide)) ?_
                  refine l_nil ?_
                  apply n_d
                  · refine ⟨?_, ?_, ?_, trivial⟩
                    · apply ya rfl rfl
                      apply yq
                      apply qi rfl rfl; exact fun w => b_shl w (by omega)
                    · apply ya rfl rfl; exact yq (qlda rfl yA32 yS32)
                    · apply ya rfl rfl; exact yq (q_move rfl)
                  apply d_eff2 9 13
                  · kernel_rfl
                  · apply effAt (q1 := [0, 1, 5]) (q2 := []) [(75, _), (76, _), (80, _), (83, _)]
                    · exact gO
                    · exact ⟨rfl, rfl, rfl, rfl, trivial⟩
                    · kernel_rfl
                    intro Ex
                    refine lcf rfl rfl rfl (New64_ok pa size (depth % 6) limit _ (hashF (mapO (osOf hs)) seed) (shl_size size) ⟨Int.emod_nonneg depth (by decide), by omega⟩ hfit) ?_
                    rintro v L' ⟨s, rfl, rfl, hW, hW1, hW2⟩
                    refine l_nm ?_
                    refine l_nil ?_
                    apply n_d
                    · exact trivial
                    apply dq 10 rfl
                    · exact yq (q_move rfl)
                    apply dq 11 rfl
                    · exact yq (q_extractL rfl ga)
                    apply dq 12 rfl
                    · exact yq (q_extractL rfl ga)
                    refine d_eff1 [] [12, 11, 10] 13 [] gO trivial (by kernel_rfl) (by kernel_rfl) fun Ex => ?_
                    refine o_allocA rfl yZ34 fun b14 => l_nil ?_
                    apply n_d
                    · refine ⟨?_, ?_, ?_, trivial⟩
                      · apply ya rfl rfl; exact yq (q_extractL rfl ga)
                      · apply ya rfl rfl; exact yq (q_extractL rfl ga)
                      · apply ya rfl rfl; exact yq (q_move rfl)
                    refine d_eff1 [11, 10] [12] 14 [(14, _), (85, _)] gO ⟨rfl, rfl, trivial⟩ (by kernel_rfl) (by kernel_rfl) fun Ex => ?_
                    refine sta rfl rfl rfl yS34 rfl rfl ?_
                    refine l_nil ?_
                    apply n_d
                    · refine ⟨?_, trivial⟩
                      · apply ya rfl rfl; exact yq (q_extractL rfl ga)
                    refine d_eff1 [12] [] 15 [(86, _)] gO ⟨rfl, trivial⟩ (by kernel_rfl) (by kernel_rfl) fun Ex => ?_
                    refine asg rfl rfl <| l_nil ?_
                    apply n_d
                    · exact trivial
                    refine d_end (by kernel_rfl) ?_
                    refine nz <| mv rfl rfl <| mv rfl rfl <| l_q rfl (qlda rfl yA34 yS34) ?_
                    apply l_q rfl
                    · apply q_buildS rfl yP76 yZ76
                      · apply FillR.one
                        · repeat (first | exact PlAt.here | apply PlAt.there)
                        · rfl
                        · exact sa
                        apply FillR.one
                        · repeat (first | exact PlAt.here | apply PlAt.there)
                        · rfl
                        · exact sa
                        apply FillR.all
                        · repeat (first | exact PlAt.here | apply PlAt.there)
                        · rfl
                        · simp
                        · exact sal
                        exact FillR.nil
                    refine mv rfl rfl <| l_q rfl (qi rfl rfl (b_eql ·)) <| sta rfl rfl rfl yS76 rfl rfl ?_
                    refine asg rfl rfl <| lc <| rt ?_
                    apply f_ret (.inl rfl) ([pt po (.cells #[.map (some bm)] 191 (0, 0)), mapH (fun k : ByteArray => Value.string k) bm (mapO (osOf hs)), G, arenaH pa s])
                    · apply res2 rfl
                      · apply Rv.agg rfl
                        · exact tk
                        · exact run_loadAll yA76 yS76 rfl
                      · exact .tmp rfl
                    · exact ⟨pa, po, bm, _, _, s, rfl, rfl, hW, hW1, hW2⟩
                    · exact en
                  · apply effAt (q1 := []) (q2 := [5, 1, 0]) []
                    · exact gO
                    · exact trivial
                    · kernel_rfl
                    intro Ex
                    refine o_allocA rfl yZ34 fun b14 => l_nil ?_
                    apply n_d
                    · refine ⟨?_, ?_, ?_, trivial⟩
                      · apply ya rfl rfl
                        apply yq
                        apply qi rfl rfl; exact fun w => b_shl w (by omega)
                      · apply ya rfl rfl; exact yq (qlda rfl yA32 yS32)
                      · apply ya rfl rfl; exact yq (q_move rfl)
                    refine d_eff1 [0, 1, 5] [] 9 [(75, _), (76, _), (80, _), (83, _)] gO ⟨rfl, rfl, rfl, rfl, trivial⟩ (by kernel_rfl) (by kernel_rfl) fun Ex => ?_
                    refine lcf rfl rfl rfl (New64_ok pa size (depth % 6) limit _ (hashF (mapO (osOf hs)) seed) (shl_size size) ⟨Int.emod_nonneg depth (by decide), by omega⟩ hfit) ?_
                    rintro v L' ⟨s, rfl, rfl, hW, hW1, hW2⟩
                    refine l_nm ?_
                    refine l_nil ?_
                    apply n_d
                    · exact trivial
                    apply dq 10 rfl
                    · exact yq (q_move rfl)
                    apply dq 11 rfl
                    · exact yq (q_extractL rfl ga)
                    apply dq 12 rfl
                    · exact yq (q_extractL rfl ga)
                    refine d_eff1 [11, 10] [12] 14 [(14, _), (85, _)] gO ⟨rfl, rfl, trivial⟩ (by kernel_rfl) (by kernel_rfl) fun Ex => ?_
                    refine sta rfl rfl rfl yS34 rfl rfl ?_
                    refine l_nil ?_
                    apply n_d
                    · refine ⟨?_, trivial⟩
                      · apply ya rfl rfl; exact yq (q_extractL rfl ga)
                    refine d_eff1 [12] [] 15 [(86, _)] gO ⟨rfl, trivial⟩ (by kernel_rfl) (by kernel_rfl) fun Ex => ?_
                    refine asg rfl rfl <| l_nil ?_
                    apply n_d
                    · exact trivial
                    refine d_end (by kernel_rfl) ?_
                    refine nz <| mv rfl rfl <| mv rfl rfl <| l_q rfl (qlda rfl yA34 yS34) ?_
                    apply l_q rfl
                    · apply q_buildS rfl yP76 yZ76
                      · apply FillR.one
                        · repeat (first | exact PlAt.here | apply PlAt.there)
                        · rfl
                        · exact sa
                        apply FillR.one
                        · repeat (first | exact PlAt.here | apply PlAt.there)
                        · rfl
                        · exact sa
                        apply FillR.all
                        · repeat (first | exact PlAt.here | apply PlAt.there)
                        · rfl
                        · simp
                        · exact sal
                        exact FillR.nil
                    refine mv rfl rfl <| l_q rfl (qi rfl rfl (b_eql ·)) <| sta rfl rfl rfl yS76 rfl rfl ?_
                    refine asg rfl rfl <| lc <| rt ?_
                    apply f_ret (.inl rfl) ([pt po (.cells #[.map (some bm)] 191 (0, 0)), mapH (fun k : ByteArray => Value.string k) bm (mapO (osOf hs)), G, arenaH pa s])
                    · apply res2 rfl
                      · apply Rv.agg rfl
                        · exact tk
                        · exact run_loadAll yA76 yS76 rfl
                      · exact .tmp rfl
                    · exact ⟨pa, po, bm, _, _, s, rfl, rfl, hW, hW1, hW2⟩
                    · exact en
                · apply effAt (q1 := []) (q2 := [5, 7, 6, 1, 0]) []
                  · exact gO
                  · exact trivial
                  · kernel_rfl
                  intro Ex
                  refine o_allocA rfl yZ34 fun b14 => l_nil ?_
                  apply n_d
                  · refine ⟨?_, ?_, ?_, ?_, ?_, trivial⟩
                    · apply ya rfl rfl
                      apply yq
                      apply qi rfl rfl; exact fun w => b_shl w (by omega)
                    · apply ya rfl rfl; exact yq (qld rfl yA3)
                    · apply ya rfl rfl; exact yq (qfa 2 rfl yU72 rfl rfl yS3)
                    · apply ya rfl rfl; exact yq (qlda rfl yA32 yS32)
                    · apply ya rfl rfl; exact yq (q_move rfl)
                  refine d_eff1 [7, 6] [5, 1, 0] 8 [(82, _)] gO ⟨rfl, trivial⟩ (by kernel_rfl) (by kernel_rfl) fun Ex => ?_
                  refine lc1 rfl rfl rfl (mod_ok depth 6 hdp (by decide)) ?_
                  refine l_nil ?_
                  apply n_d
                  · refine ⟨?_, ?_, ?_, trivial⟩
                    · apply ya rfl rfl
                      apply yq
                      apply qi rfl rfl; exact fun w => b_shl w (by omega)
                    · apply ya rfl rfl; exact yq (qlda rfl yA32 yS32)
                    · apply ya rfl rfl; exact yq (q_move rfl)
                  refine d_eff1 [0, 1, 5] [] 9 [(75, _), (76, _), (80, _), (83, _)] gO ⟨rfl, rfl, rfl, rfl, trivial⟩ (by kernel_rfl) (by kernel_rfl) fun Ex => ?_
                  refine lcf rfl rfl rfl (New64_ok pa size (depth % 6) limit _ (hashF (mapO (osOf hs)) seed) (shl_size size) ⟨Int.emod_nonneg depth (by decide), by omega⟩ hfit) ?_
                  rintro v L' ⟨s, rfl, rfl, hW, hW1, hW2⟩
                  refine l_nm ?_
                  refine l_nil ?_
                  apply n_d
                  · exact trivial
                  apply dq 10 rfl
                  · exact yq (q_move rfl)
                  apply dq 11 rfl
                  · exact yq (q_extractL rfl ga)
                  apply dq 12 rfl
                  · exact yq (q_extractL rfl ga)
                  refine d_eff1 [11, 10] [12] 14 [(14, _), (85, _)] gO ⟨rfl, rfl, trivial⟩ (by kernel_rfl) (by kernel_rfl) fun Ex => ?_
                  refine sta rfl rfl rfl yS34 rfl rfl ?_
                  refine l_nil ?_
                  apply n_d
                  · refine ⟨?_, trivial⟩
                    · apply ya rfl rfl; exact yq (q_extractL rfl ga)
                  refine d_eff1 [12] [] 15 [(86, _)] gO ⟨rfl, trivial⟩ (by kernel_rfl) (by kernel_rfl) fun Ex => ?_
                  refine asg rfl rfl <| l_nil ?_
                  apply n_d
                  · exact trivial
                  refine d_end (by kernel_rfl) ?_
                  refine nz <| mv rfl rfl <| mv rfl rfl <| l_q rfl (qlda rfl yA34 yS34) ?_
                  apply l_q rfl
                  · apply q_buildS rfl yP76 yZ76
                    · apply FillR.one
                      · repeat (first | exact PlAt.here | apply PlAt.there)
                      · rfl
                      · exact sa
                      apply FillR.one
                      · repeat (first | exact PlAt.here | apply PlAt.there)
                      · rfl
                      · exact sa
                      apply FillR.all
                      · repeat (first | exact PlAt.here | apply PlAt.there)
                      · rfl
                      · simp
                      · exact sal
                      exact FillR.nil
                  refine mv rfl rfl <| l_q rfl (qi rfl rfl (b_eql ·)) <| sta rfl rfl rfl yS76 rfl rfl ?_
                  refine asg rfl rfl <| lc <| rt ?_
                  apply f_ret (.inl rfl) ([pt po (.cells #[.map (some bm)] 191 (0, 0)), mapH (fun k : ByteArray => Value.string k) bm (mapO (osOf hs)), G, arenaH pa s])
                  · apply res2 rfl
                    · apply Rv.agg rfl
                      · exact tk
                      · exact run_loadAll yA76 yS76 rfl
                    · exact .tmp rfl
                  · exact ⟨pa, po, bm, _, _, s, rfl, rfl, hW, hW1, hW2⟩
                  · exact en
              · apply effAt (q1 := []) (q2 := [7, 6, 3, 2, 1, 0]) []
                · exact gO
                · exact trivial
                · kernel_rfl
                intro Ex
                refine o_allocA rfl yZ34 fun b14 => l_nil ?_
                apply n_d
                · refine ⟨?_, ?_, ?_, ?_, ?_, ?_, trivial⟩
                  · apply ya rfl rfl; exact yq (qld rfl yA3)
                  · apply ya rfl rfl; exact yq (qfa 2 rfl yU72 rfl rfl yS3)
                  · apply ya rfl rfl; exact yq (qld rfl yA3)
                  · apply ya rfl rfl; exact yq (qfa 1 rfl yU72 rfl rfl yS3)
                  · apply ya rfl rfl; exact yq (qlda rfl yA32 yS32)
                  · apply ya rfl rfl; exact yq (q_move rfl)
                refine d_eff1 [3, 2] [7, 6, 1, 0] 4 [(78, _)] gO ⟨rfl, trivial⟩ (by kernel_rfl) (by kernel_rfl) fun Ex => ?_
                refine lc1 rfl rfl rfl (mod_ok size 3 hsz (by decide)) ?_
                refine l_nil ?_
                apply n_d
                · refine ⟨?_, ?_, ?_, ?_, trivial⟩
                  · apply ya rfl rfl; exact yq (qld rfl yA3)
                  · apply ya rfl rfl; exact yq (qfa 2 rfl yU72 rfl rfl yS3)
                  · apply ya rfl rfl; exact yq (qlda rfl yA32 yS32)
                  · apply ya rfl rfl; exact yq (q_move rfl)
                apply dq 5 rfl
                · apply yq
                  apply qi rfl rfl; exact fun w => b_shl w (by omega)
                refine d_eff1 [7, 6] [5, 1, 0] 8 [(82, _)] gO ⟨rfl, trivial⟩ (by kernel_rfl) (by kernel_rfl) fun Ex => ?_
                refine lc1 rfl rfl rfl (mod_ok depth 6 hdp (by decide)) ?_
                refine l_nil ?_
                apply n_d
                · refine ⟨?_, ?_, ?_, trivial⟩
                  · apply ya rfl rfl
                    apply yq
                    apply qi rfl rfl; exact fun w => b_shl w (by omega)
                  · apply ya rfl rfl; exact yq (qlda rfl yA32 yS32)
                  · apply ya rfl rfl; exact yq (q_move rfl)
                refine d_eff1 [0, 1, 5] [] 9 [(75, _), (76, _), (80, _), (83, _)] gO ⟨rfl, rfl, rfl, rfl, trivial⟩ (by kernel_rfl) (by kernel_rfl) fun Ex => ?_
                refine lcf rfl rfl rfl (New64_ok pa size (depth % 6) limit _ (hashF (mapO (osOf hs)) seed) (shl_size size) ⟨Int.emod_nonneg depth (by decide), by omega⟩ hfit) ?_
                rintro v L' ⟨s, rfl, rfl, hW, hW1, hW2⟩
                refine l_nm ?_
                refine l_nil ?_
                apply n_d
                · exact trivial
                apply dq 10 rfl
                · exact yq (q_move rfl)
                apply dq 11 rfl
                · exact yq (q_extractL rfl ga)
                apply dq 12 rfl
                · exact yq (q_extractL rfl ga)
                refine d_eff1 [11, 10] [12] 14 [(14, _), (85, _)] gO ⟨rfl, rfl, trivial⟩ (by kernel_rfl) (by kernel_rfl) fun Ex => ?_
                refine sta rfl rfl rfl yS34 rfl rfl ?_
                refine l_nil ?_
                apply n_d
                · refine ⟨?_, trivial⟩
                  · apply ya rfl rfl; exact yq (q_extractL rfl ga)
                refine d_eff1 [12] [] 15 [(86, _)] gO ⟨rfl, trivial⟩ (by kernel_rfl) (by kernel_rfl) fun Ex => ?_
                refine asg rfl rfl <| l_nil ?_
                apply n_d
                · exact trivial
                refine d_end (by kernel_rfl) ?_
                refine nz <| mv rfl rfl <| mv rfl rfl <| l_q rfl (qlda rfl yA34 yS34) ?_
                apply l_q rfl
                · apply q_buildS rfl yP76 yZ76
                  · apply FillR.one
                    · repeat (first | exact PlAt.here | apply PlAt.there)
                    · rfl
                    · exact sa
                    apply FillR.one
                    · repeat (first | exact PlAt.here | apply PlAt.there)
                    · rfl
                    · exact sa
                    apply FillR.all
                    · repeat (first | exact PlAt.here | apply PlAt.there)
                    · rfl
                    · simp
                    · exact sal
                    exact FillR.nil
                refine mv rfl rfl <| l_q rfl (qi rfl rfl (b_eql ·)) <| sta rfl rfl rfl yS76 rfl rfl ?_
                refine asg rfl rfl <| lc <| rt ?_
                apply f_ret (.inl rfl) ([pt po (.cells #[.map (some bm)] 191 (0, 0)), mapH (fun k : ByteArray => Value.string k) bm (mapO (osOf hs)), G, arenaH pa s])
                · apply res2 rfl
                  · apply Rv.agg rfl
                    · exact tk
                    · exact run_loadAll yA76 yS76 rfl
                  · exact .tmp rfl
                · exact ⟨pa, po, bm, _, _, s, rfl, rfl, hW, hW1, hW2⟩
                · exact en
