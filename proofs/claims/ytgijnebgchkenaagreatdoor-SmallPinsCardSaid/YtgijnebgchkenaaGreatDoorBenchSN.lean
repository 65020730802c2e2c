/- Contracts of larderlaw11: a new bench; SmallHolds. -/
import Derived.Test.YtgijnebgchkenaaGreatDoorBenchS
set_option linter.unusedVariables false
set_option linter.unusedSimpArgs false
set_option maxRecDepth 100000
namespace Go.Proofs.YtgijnebgchkenaaGreatDoor.BenchS
open Go.RowKit Go.Proofs Go.Proofs.YtgijnebgchkenaaGreatDoor.Eng Go.Proofs.YtgijnebgchkenaaGreatDoor.Ty Go.Proofs.YtgijnebgchkenaaGreatDoor.Bits Go.Proofs.YtgijnebgchkenaaGreatDoor.Mem Go.Proofs.YtgijnebgchkenaaGreatDoor.Layout Go.Proofs.YtgijnebgchkenaaGreatDoor.GroupB Go.Proofs.YtgijnebgchkenaaGreatDoor.Group Go.Proofs.YtgijnebgchkenaaGreatDoor.TableB Go.Proofs.YtgijnebgchkenaaGreatDoor.TableI Go.Proofs.YtgijnebgchkenaaGreatDoor.CtrlB Go.Proofs.YtgijnebgchkenaaGreatDoor.Ctrl Go.Proofs.YtgijnebgchkenaaGreatDoor.Small Go.Proofs.YtgijnebgchkenaaGreatDoor.Arena Go.Proofs.YtgijnebgchkenaaGreatDoor.Oracle Go.Proofs.YtgijnebgchkenaaGreatDoor.Ref03 Go.Proofs.YtgijnebgchkenaaGreatDoor.Ref11 Go.Proofs.YtgijnebgchkenaaGreatDoor.Cells


theorem bench_ok (G : HP) (vf vo vt : Value) (sd : Int) (xs : List Int) (os : List (ByteArray × Int)) (hA : IntsAt G vf xs) (hO : OversAt G vo os) (hn0 : ∀ n c, vo = .slice none n c → c = 0 ∧ os = []) (limit : Int) (hlim : 0 ≤ limit ∧ limit ≤ 2097152) (hfit : (lay5 xs).err = 0 → classI (32 + (lay5 xs).group) ≤ limit) :
    FnOk Tryz.prog 38 #[.agg #[vf, vo, .int .u64 sd, vt], .int .i64 limit] [G]
      (fun v L => (v = .tuple #[.pointer none, .bool true, .bool false] ∧ L = [G]) ∨
        ∃ pa pb po bm off : Nat, ∃ l : Lay, ∃ s, ∃ m, l = lay5 xs ∧ l.err = 0 ∧ goodO os ∧ m = mapO os ∧ v = .tuple #[.pointer (some ⟨pb, 0, none⟩), .bool true, .bool true] ∧
          L = [pt pb (.cells (bsc pa po l off vf vo sd vt newS.cells 0).toArray 101 (0, 0)), pt po (.cells #[.map (some bm)] 191 (0, 0)), mapH (fun k : ByteArray => Value.string k) bm m, G, arenaH pa s] ∧ SmP s off l newS ∧ NewB (ArS.new limit) s (classI (32 + l.group)) ∧ off = (ArS.new limit).at (classI (32 + l.group))) := by
  refine fn_intro en38 Tryz.func38 rfl rfl rfl fun Fr w0 => t_nm ?_
  refine sr <| o_boxA rfl rfl fun b2 => asg rfl rfl <| asg rfl rfl <| asg rfl rfl <| lz <| l_q rfl (qfa 0 rfl yU90 rfl rfl yS22) <| l_q rfl (qld rfl yA22) ?_
  refine lcf rfl rfl rfl (Parse_ok G vf xs hA) ?_
  rintro v L' ⟨rfl, (⟨hpe, hle, rfl⟩ | ⟨hpe, rfl⟩)⟩
  refine l_nm ?_
  · skip
    refine mv rfl rfl <| l_q rfl (q_extractL rfl ga) ?_
    refine l_q rfl (q_extractL rfl ga) ?_
    refine o_allocA rfl yZ32 fun b7 => sta rfl rfl rfl yS32 rfl rfl ?_
    refine asg rfl rfl <| lz <| l_q rfl (qfa 1 rfl yU90 rfl rfl yS87) <| l_q rfl (qld rfl yA87) ?_
    refine lcf rfl rfl rfl (ref04New_ok G vo os hO) ?_
    rintro v L' (⟨e, he, rfl, rfl⟩ | ⟨hgo, b04, lv, rfl, rfl⟩)
    refine l_nm ?_
    · skip
      refine l_nm ?_
      refine mv rfl rfl <| l_q rfl (q_extractL rfl ga) ?_
      refine l_q rfl (q_extractL rfl ga) ?_
      refine asg rfl rfl <| asg rfl rfl <| lc <| t_seq <| sr <| mv rfl rfl <| l_q rfl (qi rfl rfl (b_neq ·)) <| mv rfl rfl <| l_pt (t := 31) rfl (fun p1 => ?_) fun p1 => ?_
      · exact absurd rfl p1
      · refine l_on rfl rfl <| mv rfl rfl <| l_on rfl rfl <| l_q rfl (qi rfl rfl (b_neq ·)) <| l_q rfl (q_pk rfl rfl) <| lc <| t_if rfl (fun p2 => ?_) fun p2 => ?_
        · refine sr <| asg rfl rfl <| asg rfl rfl <| asg rfl rfl <| lc <| rt ?_
          apply f_ret (.inl rfl) ([G])
          · apply res3 rfl
            · exact .tmp rfl
            · exact .tmp rfl
            · exact .tmp rfl
          · exact .inl ⟨rfl, rfl⟩
          · exact en
        · exact (p2 he).elim
    · obtain ⟨a, cap, rfl, hO1⟩ := hO
      have h64 := hgo.1
      have hnil : a = none → cap = 0 ∧ os = [] := fun e => hn0 _ _ (by rw [e])
      have hrd : ∀ a0, a = some a0 → ∀ {L : List HP} {M : List HP}, Take G L M → Reads L a0 (rowOf overC os) := fun a0 e L M ht w hs j v hv => by
        have h0 : 0 < os.length := by
          have := (List.getElem?_eq_some_iff.1 hv).1; rw [rowOf_len over2] at this; omega
        obtain ⟨b, o, e2, hO2⟩ := hO1 h0
        rw [e] at e2; cases e2
        have hj := (List.getElem?_eq_some_iff.1 hv).1
        rw [rowOf_len over2] at hj
        have ht2 : os[j / 2]? = some os[j / 2] := List.getElem?_eq_getElem (by omega)
        have := rowOf_get over2 os (j / 2) (j % 2) _ ht2 (by omega)
        rw [show j / 2 * 2 + j % 2 = j by omega, hv] at this
        have := hO2 (j / 2) _ ht2 (j % 2) v this.symm w (hs.take ht).left
        rw [show o + j / 2 * 2 + j % 2 = o + j by omega] at this
        rw [add_none]; exact this
      refine l_nm ?_
      refine mv rfl rfl <| l_q rfl (q_extractL rfl ga) ?_
      refine l_q rfl (q_extractL rfl ga) ?_
      refine asg rfl rfl <| asg rfl rfl <| lc <| t_seq <| sr <| mv rfl rfl <| l_q rfl (qi rfl rfl (b_neq ·)) <| mv rfl rfl <| l_pt (t := 31) rfl (fun p1 => ?_) fun p1 => ?_
      · exact absurd rfl p1
      · refine l_on rfl rfl <| mv rfl rfl <| l_on rfl rfl <| l_q rfl (qi rfl rfl (b_neq ·)) <| l_q rfl (q_pk rfl rfl) <| lc <| t_if rfl (fun p2 => ?_) fun p2 => ?_
        · exact absurd rfl p2
        · refine t_skip <| nz <| mv rfl rfl <| lcf rfl rfl rfl (Arena.New_ok limit hlim) ?_
          rintro v L' ⟨pa, rfl, rfl⟩
          refine l_nm ?_
          refine mv rfl rfl <| l_q rfl (q_extractL rfl ga) ?_
          refine l_q rfl (q_extractL rfl ga) ?_
          refine asg rfl rfl <| asg rfl rfl <| lz ?_
          refine o_buildSlice (us := []) rfl rfl yU87 yS152 yZ152 rfl rfl rfl rfl rfl (fun b41 => ?_)
          refine l_q rfl (qfa 1 rfl yU90 rfl rfl yS87) <| l_q rfl (qld rfl yA87) ?_
          refine l_own0 (b := b41) (e := 152) 2 .here ?_
          refine o_appendO (sz := 2) (rowOf overC os) rfl rfl rfl (fun e => ⟨(hnil e).1, by rw [(hnil e).2]; rfl⟩) Tryz.underlying87 yI152 rfl rfl tk (fun a0 e => hrd a0 e tk) (by rw [rowOf_len over2]) (rowOf_one over1 _) (by simp only [maxLen]; omega) (by omega) fun v44 => ?_
          refine l_shape (v := v44) tk fun _ hs44 => ?_
          obtain ⟨a44, cap44, rfl, hsome, _, _⟩ := hs44
          rw [show 0 + os.length = os.length from Nat.zero_add _, show ([] : List Value) ++ rowOf overC os = rowOf overC os from rfl]
          refine lcf rfl rfl rfl (oNew_ok _ _ os (own_over fun q => hsome (by omega)) hgo) ?_
          rintro v L' ⟨po, bm, rfl, rfl⟩
          refine l_nm ?_
          refine mv rfl rfl <| l_q rfl (q_extractL rfl ga) ?_
          refine l_q rfl (q_extractL rfl ga) ?_
          refine asg rfl rfl <| asg rfl rfl <| lc <| t_seq <| sr <| mv rfl rfl <| lc1 rfl rfl rfl (num11_ok _) ?_
          refine l_q rfl (qi rfl rfl (b_neq ·)) <| mv rfl rfl <| l_pt (t := 51) rfl (fun q1 => ?_) fun q1 => ?_
          · exact absurd rfl q1
          · refine l_on rfl rfl <| mv rfl rfl <| l_on rfl rfl <| lc1 rfl rfl rfl (num11_ok _) ?_
            refine l_on rfl rfl <| l_q rfl (qi rfl rfl (b_neq ·)) <| l_q rfl (q_pk rfl rfl) <| mv rfl rfl <| l_pt (t := 56) rfl (fun q2 => ?_) fun q2 => ?_
            · exact absurd rfl q2
            · refine l_on rfl rfl <| mv rfl rfl <| l_on rfl rfl <| l_q rfl (q_bin rfl rfl (g_pointer ·) (b_eqlP0 · yU30)) <| l_q rfl (q_pk rfl rfl) <| mv rfl rfl <| l_pt (t := 60) rfl (fun q3 => ?_) fun q3 => ?_
              · cases q3
              · refine l_on rfl rfl <| mv rfl rfl <| l_on rfl rfl <| l_q rfl (q_bin rfl rfl (g_pointer ·) (b_eqlP0 · yU74)) <| l_q rfl (q_pk rfl rfl) <| lc <| t_if rfl (fun q4 => ?_) fun q4 => ?_
                · cases q4
                · refine t_skip <| nz <| mv rfl rfl <| l_q rfl (qlda rfl yA32 yS32) ?_
                  refine lcf rfl rfl rfl (SNew_ok pa (ArS.new limit) (lay5 xs) hle) ?_
                  rintro v L' (⟨hb, rfl, rfl⟩ | ⟨_, s, rfl, rfl, hP, hNB⟩)
                  refine l_nm ?_
                  · exfalso
                    have e1 : (ArS.new limit).live = 0 := rfl
                    have e2 : (ArS.new limit).limit = limit := rfl
                    have := hfit hle
                    omega
                  · skip
                    refine l_nm ?_
                    refine mv rfl rfl <| l_q rfl (q_extractL rfl ga) ?_
                    refine l_q rfl (q_extractL rfl ga) ?_
                    refine o_allocA rfl yZ98 fun b15 => sta rfl rfl rfl yS98 rfl rfl ?_
                    refine asg rfl rfl <| lc <| t_seq <| t_draw mixed ?_
                    apply dq 0 rfl
                    · exact yq (q_move rfl)
                    apply dq 1 rfl
                    · exact yq (qlda rfl yA32 yS32)
                    apply dq 2 rfl
                    · exact yq (q_move rfl)
                    apply dq 3 rfl
                    · exact yq (qlda rfl yA98 yS98)
                    apply dq 4 rfl
                    · exact yq (qlda rfl yA90 yS90)
                    apply dq 5 rfl
                    · apply yq
                      apply q_buildS rfl yP101 yZ101
                      · apply FillR.one
                        · repeat (first | exact PlAt.here | apply PlAt.there)
                        · rfl
                        · exact sa
                        apply FillR.all
                        · repeat (first | exact PlAt.here | apply PlAt.there)
                        · rfl
                        · simp
                        · exact sal
                        apply FillR.one
                        · repeat (first | exact PlAt.here | apply PlAt.there)
                        · rfl
                        · exact sa
                        apply FillR.all
                        · repeat (first | exact PlAt.here | apply PlAt.there)
                        · rfl
                        · simp
                        · exact sal
                        apply FillR.all
                        · repeat (first | exact PlAt.here | apply PlAt.there)
                        · rfl
                        · simp
                        · exact sal
                        exact FillR.nil
                    apply dq 7 rfl
                    · exact yq (q_move rfl)
                    apply d_eff2 6 8
                    · kernel_rfl
                    · apply effAt (q1 := [5, 0, 1, 2, 3, 4]) (q2 := [7]) [(75, _)]
                      · exact gO
                      · exact ⟨rfl, trivial⟩
                      · kernel_rfl
                      intro Ex
                      refine o_boxA rfl rfl fun b76 => l_nil ?_
                      apply n_d
                      · refine ⟨?_, trivial⟩
                        · apply ya rfl rfl; exact yq (q_move rfl)
                      refine d_eff1 [7] [] 8 [(77, _)] gO ⟨rfl, trivial⟩ (by kernel_rfl) (by kernel_rfl) fun Ex => ?_
                      refine lc1 rfl rfl rfl (num11_ok _) ?_
                      refine l_nil ?_
                      apply n_d
                      · exact trivial
                      apply dq 9 rfl
                      · exact yq (qi rfl rfl (b_eql ·))
                      refine d_eff1 [] [9] 10 [(76, _)] gO ⟨rfl, trivial⟩ (by kernel_rfl) (by kernel_rfl) fun Ex => ?_
                      refine asg rfl rfl <| l_nil ?_
                      apply n_d
                      · refine ⟨?_, trivial⟩
                        · apply ya rfl rfl; exact yq (qi rfl rfl (b_eql ·))
                      refine d_eff1 [9] [] 11 [(79, _)] gO ⟨rfl, trivial⟩ (by kernel_rfl) (by kernel_rfl) fun Ex => ?_
                      refine asg rfl rfl <| l_nil ?_
                      apply n_d
                      · exact trivial
                      refine d_eff1 [] [] 12 [] gO trivial (by kernel_rfl) (by kernel_rfl) fun Ex => ?_
                      refine asg rfl rfl <| l_nil ?_
                      apply n_d
                      · exact trivial
                      refine d_end (by kernel_rfl) ?_
                      refine n_code <| rt ?_
                      apply f_ret (.inl rfl) ([pt b76 (.cells (bsc pa po (lay5 xs) ((ArS.new limit).at (classI (32 + (lay5 xs).group))) vf (.slice a os.length cap) sd vt newS.cells 0).toArray 101 (0, 0)), pt po (.cells #[.map (some bm)] 191 (0, 0)), mapH (fun k : ByteArray => Value.string k) bm (mapO os), G, arenaH pa s])
                      · apply res3 rfl
                        · exact .tmp rfl
                        · exact .tmp rfl
                        · exact .tmp rfl
                      · exact .inr ⟨pa, b76, po, bm, _, _, s, _, rfl, hle, hgo, rfl, rfl, rfl, hP, hNB, rfl⟩
                      · simp only [bsc, newS, Cell.kind, Cell.tagI, Cell.keyS, Cell.elemS, Cell.birthI]; (exact en)
                    · apply effAt (q1 := [7]) (q2 := [5, 4, 3, 2, 1, 0]) [(77, _)]
                      · exact gO
                      · exact ⟨rfl, trivial⟩
                      · kernel_rfl
                      intro Ex
                      refine lc1 rfl rfl rfl (num11_ok _) ?_
                      refine l_nil ?_
                      apply n_d
                      · refine ⟨?_, ?_, ?_, ?_, ?_, ?_, trivial⟩
                        · apply ya rfl rfl
                          apply yq
                          apply q_buildS rfl yP101 yZ101
                          · apply FillR.one
                            · repeat (first | exact PlAt.here | apply PlAt.there)
                            · rfl
                            · exact sa
                            apply FillR.all
                            · repeat (first | exact PlAt.here | apply PlAt.there)
                            · rfl
                            · simp
                            · exact sal
                            apply FillR.one
                            · repeat (first | exact PlAt.here | apply PlAt.there)
                            · rfl
                            · exact sa
                            apply FillR.all
                            · repeat (first | exact PlAt.here | apply PlAt.there)
                            · rfl
                            · simp
                            · exact sal
                            apply FillR.all
                            · repeat (first | exact PlAt.here | apply PlAt.there)
                            · rfl
                            · simp
                            · exact sal
                            exact FillR.nil
                        · apply ya rfl rfl; exact yq (qlda rfl yA90 yS90)
                        · apply ya rfl rfl; exact yq (qlda rfl yA98 yS98)
                        · apply ya rfl rfl; exact yq (q_move rfl)
                        · apply ya rfl rfl; exact yq (qlda rfl yA32 yS32)
                        · apply ya rfl rfl; exact yq (q_move rfl)
                      apply dq 9 rfl
                      · exact yq (qi rfl rfl (b_eql ·))
                      refine d_eff1 [5, 0, 1, 2, 3, 4] [9] 6 [(75, _)] gO ⟨rfl, trivial⟩ (by kernel_rfl) (by kernel_rfl) fun Ex => ?_
                      refine o_boxA rfl rfl fun b76 => l_nil ?_
                      apply n_d
                      · refine ⟨?_, trivial⟩
                        · apply ya rfl rfl; exact yq (qi rfl rfl (b_eql ·))
                      refine d_eff1 [] [9] 10 [(76, _)] gO ⟨rfl, trivial⟩ (by kernel_rfl) (by kernel_rfl) fun Ex => ?_
                      refine asg rfl rfl <| l_nil ?_
                      apply n_d
                      · refine ⟨?_, trivial⟩
                        · apply ya rfl rfl; exact yq (qi rfl rfl (b_eql ·))
                      refine d_eff1 [9] [] 11 [(79, _)] gO ⟨rfl, trivial⟩ (by kernel_rfl) (by kernel_rfl) fun Ex => ?_
                      refine asg rfl rfl <| l_nil ?_
                      apply n_d
                      · exact trivial
                      refine d_eff1 [] [] 12 [] gO trivial (by kernel_rfl) (by kernel_rfl) fun Ex => ?_
                      refine asg rfl rfl <| l_nil ?_
                      apply n_d
                      · exact trivial
                      refine d_end (by kernel_rfl) ?_
                      refine n_code <| rt ?_
                      apply f_ret (.inl rfl) ([pt b76 (.cells (bsc pa po (lay5 xs) ((ArS.new limit).at (classI (32 + (lay5 xs).group))) vf (.slice a os.length cap) sd vt newS.cells 0).toArray 101 (0, 0)), pt po (.cells #[.map (some bm)] 191 (0, 0)), mapH (fun k : ByteArray => Value.string k) bm (mapO os), G, arenaH pa s])
                      · apply res3 rfl
                        · exact .tmp rfl
                        · exact .tmp rfl
                        · exact .tmp rfl
                      · exact .inr ⟨pa, b76, po, bm, _, _, s, _, rfl, hle, hgo, rfl, rfl, rfl, hP, hNB, rfl⟩
                      · simp only [bsc, newS, Cell.kind, Cell.tagI, Cell.keyS, Cell.elemS, Cell.birthI]; (exact en)
  · skip
    refine l_nm ?_
    refine mv rfl rfl <| l_q rfl (q_extractL rfl ga) ?_
    refine l_q rfl (q_extractL rfl ga) ?_
    refine o_allocA rfl yZ32 fun b7 => sta rfl rfl rfl yS32 rfl rfl ?_
    refine asg rfl rfl <| lz <| l_q rfl (qfa 1 rfl yU90 rfl rfl yS87) <| l_q rfl (qld rfl yA87) ?_
    refine lcf rfl rfl rfl (ref04New_ok G vo os hO) ?_
    rintro v L' (⟨e, he, rfl, rfl⟩ | ⟨hgo, b04, lv, rfl, rfl⟩)
    refine l_nm ?_
    · skip
      refine l_nm ?_
      refine mv rfl rfl <| l_q rfl (q_extractL rfl ga) ?_
      refine l_q rfl (q_extractL rfl ga) ?_
      refine asg rfl rfl <| asg rfl rfl <| lc <| t_seq <| sr <| mv rfl rfl <| l_q rfl (qi rfl rfl (b_neq ·)) <| mv rfl rfl <| l_pt (t := 31) rfl (fun p1 => ?_) fun p1 => ?_
      · refine l_off rfl rfl rfl rfl <| l_off rfl rfl rfl rfl <| l_q rfl (q_pk rfl rfl) <| lc <| t_cond_t rfl <| sr <| asg rfl rfl <| asg rfl rfl <| asg rfl rfl <| lc <| rt ?_
        apply f_ret (.inl rfl) ([G])
        · apply res3 rfl
          · exact .tmp rfl
          · exact .tmp rfl
          · exact .tmp rfl
        · exact .inl ⟨rfl, rfl⟩
        · exact en
      · exact absurd hpe p1
    · skip
      refine l_nm ?_
      refine mv rfl rfl <| l_q rfl (q_extractL rfl ga) ?_
      refine l_q rfl (q_extractL rfl ga) ?_
      refine asg rfl rfl <| asg rfl rfl <| lc <| t_seq <| sr <| mv rfl rfl <| l_q rfl (qi rfl rfl (b_neq ·)) <| mv rfl rfl <| l_pt (t := 31) rfl (fun p1 => ?_) fun p1 => ?_
      · refine l_off rfl rfl rfl rfl <| l_off rfl rfl rfl rfl <| l_q rfl (q_pk rfl rfl) <| lc <| t_cond_t rfl <| sr <| asg rfl rfl <| asg rfl rfl <| asg rfl rfl <| lc <| rt ?_
        apply f_ret (.inl rfl) ([G])
        · apply res3 rfl
          · exact .tmp rfl
          · exact .tmp rfl
          · exact .tmp rfl
        · exact .inl ⟨rfl, rfl⟩
        · exact en
      · exact absurd hpe p1
end Go.Proofs.YtgijnebgchkenaaGreatDoor.BenchS
