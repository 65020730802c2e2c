/- The bench of the laws over plans: a new one. -/
import Derived.Test.YtgijnebgchkenaaGreatDoorBench
set_option linter.unusedVariables false
set_option linter.unusedSimpArgs false
set_option maxRecDepth 100000
namespace Go.Proofs.YtgijnebgchkenaaGreatDoor.Bench
open Go.RowKit Go.Proofs Go.Proofs.YtgijnebgchkenaaGreatDoor.Eng Go.Proofs.YtgijnebgchkenaaGreatDoor.Ty Go.Proofs.YtgijnebgchkenaaGreatDoor.Bits Go.Proofs.YtgijnebgchkenaaGreatDoor.Mem Go.Proofs.YtgijnebgchkenaaGreatDoor.Search Go.Proofs.YtgijnebgchkenaaGreatDoor.Arena Go.Proofs.YtgijnebgchkenaaGreatDoor.CtrlB Go.Proofs.YtgijnebgchkenaaGreatDoor.Ctrl Go.Proofs.YtgijnebgchkenaaGreatDoor.Layout Go.Proofs.YtgijnebgchkenaaGreatDoor.GroupB Go.Proofs.YtgijnebgchkenaaGreatDoor.Group Go.Proofs.YtgijnebgchkenaaGreatDoor.Probe Go.Proofs.YtgijnebgchkenaaGreatDoor.TableB Go.Proofs.YtgijnebgchkenaaGreatDoor.TableI Go.Proofs.YtgijnebgchkenaaGreatDoor.Table Go.Proofs.YtgijnebgchkenaaGreatDoor.Ref03

theorem slots_pow {a : Int} (h1 : 8 ≤ a) (h2 : a ≤ 65536) (h3 : bits .and .i64 a (a - 1) = 0) : ∃ e n : Nat, e ≤ 13 ∧ n = 2 ^ e ∧ a = 8 * (n : Int) := by
  have hp : Probe.powB a 8 65536 = true := by
    unfold Probe.powB
    have := Probe.pow2_eq (n := a) (by omega) (by omega)
    rw [h3] at this
    simp only [decide_true] at this
    rw [← this]; simp [h1, h2]
  obtain ⟨k, k1, k2, e⟩ := (Probe.powB_iff a 8 3 16 65536 (by decide) (by decide) (by decide)).1 hp
  refine ⟨k - 3, 2 ^ (k - 3), by omega, rfl, ?_⟩
  rw [e, show k = (k - 3) + 3 by omega, Int.pow_add, pow_cast, Int.mul_comm]; rfl
theorem room_small {n : Nat} {l : Lay} (hl : l.err = 0) (hn : n ≤ 128) : ((n * gN l : Nat) : Int) ≤ 1048576 ∧ 64 + classI ((n * gN l : Nat) : Int) ≤ 2097152 := by
  have hb := Lay.bnd hl
  have hN := layN hl
  have hg : gN l ≤ 2232 := by have := hN.g; omega
  have h1 : n * gN l ≤ 128 * 2232 := Nat.mul_le_mul hn hg
  by_cases h0 : n * gN l = 0
  · rw [h0]; decide
  · have := classI_bnd (n := ((n * gN l : Nat) : Int)) (by omega)
    omega
theorem bench_ok (G : HP) (vf vh vt : Value) (xs hs : List Int) (hA : IntsAt G vf xs) (hh : NumsAt .u64 G vh hs) (slots : Int) (hs64 : -9223372036854775808 ≤ slots ∧ slots ≤ 9223372036854775807) :
    FnOk Tryz.prog 8 #[.agg #[vf, .int .i64 slots, vh, vt]] [G]
      (fun v L => (v = .tuple #[.pointer none, .bool true, .bool false] ∧ L = [G]) ∨
        ∃ pa pb off go : Nat, ∃ n e : Nat, ∃ s, (lay5 xs).err = 0 ∧ n ≤ 128 ∧ slots = 8 * (n : Int) ∧ 0 < hs.length ∧ v = .tuple #[.pointer (some ⟨pb, 0, none⟩), .bool true, .bool true] ∧
          L = [pt pb (.cells #[.pointer (some ⟨pa, 0, none⟩), .int .i64 (lay5 xs).key, .int .i64 (lay5 xs).elem, .int .i64 (lay5 xs).ka, .int .i64 (lay5 xs).ea, .int .i64 (lay5 xs).cap, .int .i64 (lay5 xs).eo, .int .i64 (lay5 xs).bo, .int .i64 (lay5 xs).slot, .int .i64 (lay5 xs).group, .pointer (some ⟨pa, 0, none⟩), .int .i64 (lay5 xs).key, .int .i64 (lay5 xs).elem, .int .i64 (lay5 xs).ka, .int .i64 (lay5 xs).ea, .int .i64 (lay5 xs).cap, .int .i64 (lay5 xs).eo, .int .i64 (lay5 xs).bo, .int .i64 (lay5 xs).slot, .int .i64 (lay5 xs).group, .int .i64 ((off : Nat) : Int), vf, .int .i64 slots, vh, vt, (.slice none 0 0), .int .i64 0] 37 (0, 0)), G, arenaH pa s] ∧ TabP s off go (lay5 xs) n e (newT n 0) ∧ NewS (ArS.new 2097152) s (classI ((n * gN (lay5 xs) : Nat) : Int)) ∧ off = (ArS.new 2097152).at 64 ∧ go = ((ArS.new 2097152).take 64).at (classI ((n * gN (lay5 xs) : Nat) : Int)) ∧ ((n * gN (lay5 xs) : Nat) : Int) ≤ 1048576) := by
  obtain ⟨a1, cap1, rfl, hh0⟩ := hh
  refine fn_intro en8 Tryz.func8 rfl rfl rfl fun Fr w0 => t_nm ?_
  refine sr <| o_boxA rfl rfl fun b1 => asg rfl rfl <| asg rfl rfl <| asg rfl rfl <| lz <| l_q rfl (qfa 0 rfl yU26 rfl rfl yS22) <| l_q rfl (qld rfl yA22) ?_
  refine lcf rfl rfl rfl (Parse_ok G vf xs hA) ?_
  rintro v L' ⟨rfl, (⟨hpe, hle, rfl⟩ | ⟨hpe, rfl⟩)⟩
  refine l_nm ?_
  · skip
    refine mv rfl rfl <| l_q rfl (q_extractL rfl ga) ?_
    refine l_q rfl (q_extractL rfl ga) ?_
    refine o_allocA rfl yZ32 fun b5 => sta rfl rfl rfl yS32 rfl rfl ?_
    refine asg rfl rfl <| lc <| t_seq <| sr <| mv rfl rfl <| l_q rfl (qi rfl rfl (b_neq ·)) <| mv rfl rfl <| l_pt (t := 19) rfl (fun p1 => ?_) fun p1 => ?_
    · exact absurd rfl p1
    · refine l_on rfl rfl <| l_q rfl (qfa 2 rfl yU26 rfl rfl yS23) <| l_on rfl rfl <| l_q rfl (qld rfl yA23) ?_
      refine l_on rfl rfl <| l_q rfl (ql rfl yU23) <| l_on rfl rfl <| l_q rfl (qi rfl rfl (b_eql ·)) <| l_q rfl (q_pk rfl rfl) <| mv rfl rfl <| l_pt (t := 25) rfl (fun p2 => ?_) fun p2 => ?_
      · refine l_off rfl rfl rfl rfl <| l_off rfl rfl rfl rfl <| l_off rfl rfl rfl rfl <| l_q rfl (q_pk rfl rfl) <| mv rfl rfl <| l_off rfl rfl rfl rfl <| l_off rfl rfl rfl rfl <| l_off rfl rfl rfl rfl <| l_q rfl (q_pk rfl rfl) <| mv rfl rfl <| l_off rfl rfl rfl rfl <| l_off rfl rfl rfl rfl <| l_off rfl rfl rfl rfl <| l_off rfl rfl rfl rfl <| l_off rfl rfl rfl rfl <| l_off rfl rfl rfl rfl <| l_off rfl rfl rfl rfl <| l_q rfl (q_pk rfl rfl) <| lc <| t_cond_t rfl <| sr <| asg rfl rfl <| asg rfl rfl <| asg rfl rfl <| lc <| rt ?_
        apply f_ret (.inl rfl) ([G])
        · apply res3 rfl
          · exact .tmp rfl
          · exact .tmp rfl
          · exact .tmp rfl
        · exact .inl ⟨rfl, rfl⟩
        · exact en
      · refine l_on rfl rfl <| l_q rfl (qfa 1 rfl yU26 rfl rfl yS3) <| l_on rfl rfl <| l_q rfl (qld rfl yA3) ?_
        refine l_on rfl rfl <| l_q rfl (qi rfl rfl (b_lss ·)) <| l_q rfl (q_pk rfl rfl) <| mv rfl rfl <| l_pt (t := 30) rfl (fun p3 => ?_) fun p3 => ?_
        · refine l_off rfl rfl rfl rfl <| l_off rfl rfl rfl rfl <| l_off rfl rfl rfl rfl <| l_q rfl (q_pk rfl rfl) <| mv rfl rfl <| l_off rfl rfl rfl rfl <| l_off rfl rfl rfl rfl <| l_off rfl rfl rfl rfl <| l_off rfl rfl rfl rfl <| l_off rfl rfl rfl rfl <| l_off rfl rfl rfl rfl <| l_off rfl rfl rfl rfl <| l_q rfl (q_pk rfl rfl) <| lc <| t_cond_t rfl <| sr <| asg rfl rfl <| asg rfl rfl <| asg rfl rfl <| lc <| rt ?_
          apply f_ret (.inl rfl) ([G])
          · apply res3 rfl
            · exact .tmp rfl
            · exact .tmp rfl
            · exact .tmp rfl
          · exact .inl ⟨rfl, rfl⟩
          · exact en
        · refine l_on rfl rfl <| l_q rfl (qfa 1 rfl yU26 rfl rfl yS3) <| l_on rfl rfl <| l_q rfl (qld rfl yA3) ?_
          refine l_on rfl rfl <| l_q rfl (qi rfl rfl (b_gtr ·)) <| l_q rfl (q_pk rfl rfl) <| mv rfl rfl <| l_pt (t := 35) rfl (fun p4 => ?_) fun p4 => ?_
          · refine l_off rfl rfl rfl rfl <| l_off rfl rfl rfl rfl <| l_off rfl rfl rfl rfl <| l_off rfl rfl rfl rfl <| l_off rfl rfl rfl rfl <| l_off rfl rfl rfl rfl <| l_off rfl rfl rfl rfl <| l_q rfl (q_pk rfl rfl) <| lc <| t_cond_t rfl <| sr <| asg rfl rfl <| asg rfl rfl <| asg rfl rfl <| lc <| rt ?_
            apply f_ret (.inl rfl) ([G])
            · apply res3 rfl
              · exact .tmp rfl
              · exact .tmp rfl
              · exact .tmp rfl
            · exact .inl ⟨rfl, rfl⟩
            · exact en
          · refine l_on rfl rfl <| l_q rfl (qfa 1 rfl yU26 rfl rfl yS3) <| l_on rfl rfl <| l_q rfl (qld rfl yA3) ?_
            refine l_on rfl rfl <| l_q rfl (qfa 1 rfl yU26 rfl rfl yS3) <| l_on rfl rfl <| l_q rfl (qld rfl yA3) ?_
            refine l_on rfl rfl <| l_q rfl (qsub rfl rfl) ?_
            refine l_on rfl rfl <| l_q rfl (qbit rfl rfl rfl) <| l_on rfl rfl <| l_q rfl (qi rfl rfl (b_neq ·)) <| l_q rfl (q_pk rfl rfl) <| lc <| t_if rfl (fun p5 => ?_) fun p5 => ?_
            · refine sr <| asg rfl rfl <| asg rfl rfl <| asg rfl rfl <| lc <| rt ?_
              apply f_ret (.inl rfl) ([G])
              · apply res3 rfl
                · exact .tmp rfl
                · exact .tmp rfl
                · exact .tmp rfl
              · exact .inl ⟨rfl, rfl⟩
              · exact en
            · refine t_skip <| nz ?_
              obtain ⟨e, n, he, hn, hsl⟩ := slots_pow (by omega) (by omega) (Classical.not_not.1 p5)
              subst hsl
              have hroom := room_small (n := n) hle (by omega)
              refine lcf rfl rfl rfl (Arena.New_ok 2097152 (by omega)) ?_
              rintro v L' ⟨pa, rfl, rfl⟩
              refine l_nm ?_
              refine mv rfl rfl <| l_q rfl (q_extractL rfl ga) ?_
              refine l_q rfl (q_extractL rfl ga) ?_
              refine asg rfl rfl <| asg rfl rfl <| lc <| t_seq <| sr <| mv rfl rfl <| lc1 rfl rfl rfl (num08_ok _) ?_
              refine l_q rfl (qi rfl rfl (b_neq ·)) <| mv rfl rfl <| l_pt (t := 51) rfl (fun q1 => ?_) fun q1 => ?_
              · exact absurd rfl q1
              · refine l_on rfl rfl <| mv rfl rfl <| l_on rfl rfl <| l_q rfl (q_bin rfl rfl (g_pointer ·) (b_eqlP0 · yU30)) <| l_q rfl (q_pk rfl rfl) <| lc <| t_if rfl (fun q2 => ?_) fun q2 => ?_
                · cases q2
                · refine t_skip <| nz <| mv rfl rfl <| l_q rfl (qlda rfl yA32 yS32) ?_
                  refine l_q rfl (qfa 1 rfl yU26 rfl rfl yS3) <| l_q rfl (qld rfl yA3) ?_
                  refine lcf rfl rfl rfl (Table.New_ok pa n e (ArS.new 2097152) (lay5 xs) (8 * (n : Int)) 0 hle he hn rfl (by omega)) ?_
                  rintro v L' (⟨hb, rfl, rfl⟩ | ⟨hsz, _, s, rfl, rfl, hP, hNs⟩)
                  refine l_nm ?_
                  · exfalso
                    have e1 : (ArS.new 2097152).live = 0 := rfl
                    have e2 : (ArS.new 2097152).limit = 2097152 := rfl
                    omega
                  · skip
                    refine l_nm ?_
                    refine mv rfl rfl <| l_q rfl (q_extractL rfl ga) ?_
                    refine l_q rfl (q_extractL rfl ga) ?_
                    refine o_allocA rfl yZ34 fun b9 => sta rfl rfl rfl yS34 rfl rfl ?_
                    refine asg rfl rfl <| lc <| t_seq <| sr <| mv rfl rfl <| lc1 rfl rfl rfl (num08_ok _) ?_
                    refine l_q rfl (qi rfl rfl (b_neq ·)) <| lc <| t_if rfl (fun q3 => ?_) fun q3 => ?_
                    · exact absurd rfl q3
                    · refine t_skip <| nz <| mv rfl rfl <| l_q rfl (qlda rfl yA32 yS32) ?_
                      refine l_q rfl (qlda rfl yA34 yS34) ?_
                      refine l_q rfl (qlda rfl yA26 yS26) ?_
                      apply l_q rfl
                      · apply q_buildS rfl yP37 yZ37
                        · apply FillR.one
                          · repeat (first | exact PlAt.here | apply PlAt.there)
                          · rfl
                          · exact sa
                          apply FillR.all
                          · repeat (first | exact PlAt.here | apply PlAt.there)
                          · rfl
                          · simp
                          · exact sal
                          apply FillR.all
                          · repeat (first | exact PlAt.here | apply PlAt.there)
                          · rfl
                          · simp
                          · exact sal
                          apply FillR.all
                          · repeat (first | exact PlAt.here | apply PlAt.there)
                          · rfl
                          · simp
                          · exact sal
                          exact FillR.nil
                      refine o_boxA rfl rfl fun b71 => asg rfl rfl <| asg rfl rfl <| asg rfl rfl <| lc <| rt ?_
                      obtain ⟨off, hoff⟩ : ∃ off, (ArS.new 2097152).at 64 = off := ⟨_, rfl⟩
                      rw [hoff] at hP ⊢
                      apply f_ret (.inl rfl) ([pt b71 (.cells #[.pointer (some ⟨pa, 0, none⟩), .int .i64 (lay5 xs).key, .int .i64 (lay5 xs).elem, .int .i64 (lay5 xs).ka, .int .i64 (lay5 xs).ea, .int .i64 (lay5 xs).cap, .int .i64 (lay5 xs).eo, .int .i64 (lay5 xs).bo, .int .i64 (lay5 xs).slot, .int .i64 (lay5 xs).group, .pointer (some ⟨pa, 0, none⟩), .int .i64 (lay5 xs).key, .int .i64 (lay5 xs).elem, .int .i64 (lay5 xs).ka, .int .i64 (lay5 xs).ea, .int .i64 (lay5 xs).cap, .int .i64 (lay5 xs).eo, .int .i64 (lay5 xs).bo, .int .i64 (lay5 xs).slot, .int .i64 (lay5 xs).group, .int .i64 ((off : Nat) : Int), vf, .int .i64 (8 * (n : Int)), (.slice a1 hs.length cap1), vt, (.slice none 0 0), .int .i64 0] 37 (0, 0)), G, arenaH pa s])
                      · apply res3 rfl
                        · exact .tmp rfl
                        · exact .tmp rfl
                        · exact .tmp rfl
                      · exact .inr ⟨pa, b71, off, _, n, e, s, hle, by omega, rfl, by omega, rfl, rfl, hP, hNs, rfl, rfl, hsz⟩
                      · exact en
  · skip
    refine l_nm ?_
    refine mv rfl rfl <| l_q rfl (q_extractL rfl ga) ?_
    refine l_q rfl (q_extractL rfl ga) ?_
    refine o_allocA rfl yZ32 fun b5 => sta rfl rfl rfl yS32 rfl rfl ?_
    refine asg rfl rfl <| lc <| t_seq <| sr <| mv rfl rfl <| l_q rfl (qi rfl rfl (b_neq ·)) <| mv rfl rfl <| l_pt (t := 19) rfl (fun p1 => ?_) fun p1 => ?_
    · refine l_off rfl rfl rfl rfl <| l_off rfl rfl rfl rfl <| l_off rfl rfl rfl rfl <| l_off rfl rfl rfl rfl <| l_q rfl (q_pk rfl rfl) <| mv rfl rfl <| l_off rfl rfl rfl rfl <| l_off rfl rfl rfl rfl <| l_off rfl rfl rfl rfl <| l_q rfl (q_pk rfl rfl) <| mv rfl rfl <| l_off rfl rfl rfl rfl <| l_off rfl rfl rfl rfl <| l_off rfl rfl rfl rfl <| l_q rfl (q_pk rfl rfl) <| mv rfl rfl <| l_off rfl rfl rfl rfl <| l_off rfl rfl rfl rfl <| l_off rfl rfl rfl rfl <| l_off rfl rfl rfl rfl <| l_off rfl rfl rfl rfl <| l_off rfl rfl rfl rfl <| l_off rfl rfl rfl rfl <| l_q rfl (q_pk rfl rfl) <| lc <| t_cond_t rfl <| sr <| asg rfl rfl <| asg rfl rfl <| asg rfl rfl <| lc <| rt ?_
      apply f_ret (.inl rfl) ([G])
      · apply res3 rfl
        · exact .tmp rfl
        · exact .tmp rfl
        · exact .tmp rfl
      · exact .inl ⟨rfl, rfl⟩
      · exact en
    · exact absurd hpe p1
theorem bi_start {n : Nat} (hn : 0 < n) (hs : List Int) (w : Nat) : BI n (planH hs w) (planK w) (newT n 0) [] 0 := bi_new hn _ _ rfl rfl rfl
end Go.Proofs.YtgijnebgchkenaaGreatDoor.Bench
