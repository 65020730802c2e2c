/- TableEnds answers true. -/
import Derived.Test.YtgijnebgchkenaaGreatDoorBenchN
import Derived.Test.YtgijnebgchkenaaGreatDoorTableD
import Derived.Test.YtgijnebgchkenaaGreatDoorRef02
set_option linter.unusedVariables false
set_option linter.unusedSimpArgs false
set_option maxRecDepth 100000
namespace Go.Proofs.YtgijnebgchkenaaGreatDoor.Bench
open Go.RowKit Go.Proofs Go.Proofs.YtgijnebgchkenaaGreatDoor.Eng Go.Proofs.YtgijnebgchkenaaGreatDoor.Ty Go.Proofs.YtgijnebgchkenaaGreatDoor.Bits Go.Proofs.YtgijnebgchkenaaGreatDoor.Mem Go.Proofs.YtgijnebgchkenaaGreatDoor.Search Go.Proofs.YtgijnebgchkenaaGreatDoor.Arena Go.Proofs.YtgijnebgchkenaaGreatDoor.CtrlB Go.Proofs.YtgijnebgchkenaaGreatDoor.Ctrl Go.Proofs.YtgijnebgchkenaaGreatDoor.Layout Go.Proofs.YtgijnebgchkenaaGreatDoor.GroupB Go.Proofs.YtgijnebgchkenaaGreatDoor.Group Go.Proofs.YtgijnebgchkenaaGreatDoor.Probe Go.Proofs.YtgijnebgchkenaaGreatDoor.TableB Go.Proofs.YtgijnebgchkenaaGreatDoor.TableI Go.Proofs.YtgijnebgchkenaaGreatDoor.Table Go.Proofs.YtgijnebgchkenaaGreatDoor.Ref03


theorem TOff_ok (pa : Nat) (l : Lay) (off : Int) : FnOk Tryz.prog 12 #[.agg #[.pointer (some ⟨pa, 0, none⟩), .int .i64 l.key, .int .i64 l.elem, .int .i64 l.ka, .int .i64 l.ea, .int .i64 l.cap, .int .i64 l.eo, .int .i64 l.bo, .int .i64 l.slot, .int .i64 l.group, .int .i64 off]] [] (fun v L => v = .int .i64 off ∧ L = []) := by
  refine fn_intro en12 Tryz.func12 rfl rfl rfl fun Fr w0 => t_nm ?_
  refine sr <| o_boxA rfl rfl fun b1 => asg rfl rfl <| lz <| l_q rfl (qfa 10 rfl yU34 rfl rfl yS3) <| l_q rfl (qld rfl yA3) ?_
  exact asg rfl rfl <| lc <| rt <| fr1 rfl ([]) (.tmp rfl) ⟨rfl, rfl⟩
/-- Where just two blocks ever were, and both were given back: nothing is live, and they come first again. -/
structure Two (s : ArS) (off go : Nat) (c : Int) : Prop where
  ok : s.ok
  all : s.all = [(((off : Nat) : Int), 64), (((go : Nat) : Int), c)]
  dead : ∀ o, s.dead o = false
  limit : s.limit = 2097152
theorem two_new {s : ArS} {c : Int} (hs : (ArS.new 2097152).ok) (hc : c ∈ classes) (h : NewS (ArS.new 2097152) s c) (hok : s.ok) : Two s ((ArS.new 2097152).at 64) (((ArS.new 2097152).take 64).at c) c := by
  have h1 : (ArS.new 2097152).frL 64 = [] := rfl
  obtain ⟨e1, e2⟩ := take_nil hs h1
  have hc64 := classes_pos c hc
  have ok64 := ArS.take_ok hs c64 (by show (0 : Int) + 64 ≤ 2097152; decide)
  have h2 : ((ArS.new 2097152).take 64).frL c = [] := by
    rw [take_fr hs c64 (by show (0 : Int) + 64 ≤ 2097152; decide)]
    split <;> rfl
  obtain ⟨e3, e4⟩ := take_nil ok64 h2
  refine ⟨hok, ?_, fun o => ?_, h.limit⟩
  · rw [h.all, e3, e2, e4]
    dsimp only
    rw [show ((ArS.new 2097152).take 64).all = [((((ArS.new 2097152).stop : Nat) : Int), (64 : Int))] by rw [e1]; rfl]
    rfl
  · rw [h.dead, e3]
    dsimp only
    rw [e1]
    rfl
section
variable {s : ArS} {off go : Nat} {c : Int} (h : Two s off go c)
include h
theorem Two.mem : (((off : Nat) : Int), (64 : Int)) ∈ s.bl ∧ (((go : Nat) : Int), c) ∈ s.bl := by
  rw [mem_bl, mem_bl, h.all]
  exact ⟨⟨List.mem_cons_self, h.dead _⟩, ⟨List.mem_cons_of_mem _ (List.mem_singleton_self _), h.dead _⟩⟩
theorem Two.live : s.live = 64 + c := by
  unfold ArS.live ArS.bl
  rw [List.filter_eq_self.2 fun p _ => by rw [h.dead]; rfl, h.all]
  simp only [ArS.sum]
  omega
theorem Two.ne : ((off : Nat) : Int) ≠ ((go : Nat) : Int) := by
  have hc := h.ok.chain
  rw [h.all] at hc
  obtain ⟨a, b, d, e, _⟩ := hc
  dsimp only at *
  omega
theorem Two.gives : (s.gives [((off : Nat) : Int), ((go : Nat) : Int)]).ok ∧ (s.gives [((off : Nat) : Int), ((go : Nat) : Int)]).live = 0 ∧ (s.gives [((off : Nat) : Int), ((go : Nat) : Int)]).bl = [] ∧ (s.gives [((off : Nat) : Int), ((go : Nat) : Int)]).all ≠ [] := by
  obtain ⟨m1, m2⟩ := h.mem
  have hne := h.ne
  have hlv := h.live
  have o1 := give_ok h.ok m1
  have l1 := give_live h.ok m1
  have m3 : (((go : Nat) : Int), c) ∈ (s.give ((off : Nat) : Int)).bl := (give_bl h.ok m1).2 ⟨m2, fun e => by rw [Prod.mk.injEq] at e; exact hne e.1.symm⟩
  have o2 := give_ok o1 m3
  have l2 := give_live o1 m3
  refine ⟨o2, by show ((s.give _).give _).live = 0; omega, ?_, by rw [gives_all, h.all]; simp⟩
  rw [List.eq_nil_iff_forall_not_mem]
  intro p hp
  obtain ⟨a, b⟩ := gives_bl.1 hp
  rw [mem_bl, h.all] at a
  rcases List.mem_cons.1 a.1 with q | q
  · exact b (by rw [q]; simp)
  · rw [List.mem_singleton.1 q] at b; simp at b
theorem Two.again (hc : 64 < c) : (s.gives [((off : Nat) : Int), ((go : Nat) : Int)]).at 64 = off := by
  obtain ⟨ok2, _⟩ := h.gives
  have hfr : (s.gives [((off : Nat) : Int), ((go : Nat) : Int)]).frL 64 = [((off : Nat) : Int)] := rise_ext (fr_rise ok2 64) (by simp) fun x => by
    rw [mem_fr, gives_all, gives_dead, h.dead, h.all, List.mem_singleton]
    constructor
    · rintro ⟨a, b⟩
      rcases List.mem_cons.1 a with q | q
      · rw [Prod.mk.injEq] at q; exact q.1
      · have := List.mem_singleton.1 q
        rw [Prod.mk.injEq] at this
        omega
    · rintro rfl
      exact ⟨List.mem_cons_self, by simp⟩
  unfold ArS.at
  rw [hfr]
  exact Int.toNat_natCast off
end
theorem of_decE {p : Prop} {i : Decidable p} (h : decide p = true) : p := of_decide_eq_true h
theorem NewE_ok (pa n e : Nat) (s : ArS) (l : Lay) (slots depth : Int) (o : Nat) (C : Int) (hl : l.err = 0) (he : e ≤ 13) (hn : n = 2 ^ e) (hslots : slots = 8 * (n : Int)) (hd : 0 ≤ depth ∧ depth ≤ 6) (hsm : ((n * gN l : Nat) : Int) ≤ 1048576) (hC : C = classI ((n * gN l : Nat) : Int)) (hfit : s.live + (64 + C) ≤ s.limit) (ho : s.at 64 = o) :
    FnOk Tryz.prog 27 #[.pointer (some ⟨pa, 0, none⟩), .agg l.cells, .int .i64 slots, .int .i64 depth] [arenaH pa s]
      (fun v L => ∃ s' g, v = .tuple #[.agg #[.pointer (some ⟨pa, 0, none⟩), .int .i64 l.key, .int .i64 l.elem, .int .i64 l.ka, .int .i64 l.ea, .int .i64 l.cap, .int .i64 l.eo, .int .i64 l.bo, .int .i64 l.slot, .int .i64 l.group, .int .i64 ((o : Nat) : Int)], .int .i64 0] ∧ L = [arenaH pa s'] ∧ TabP s' o g l n e (newT n depth) ∧ s'.live = s.live + (64 + C)) := by
  refine FnOk.mono (Table.New_ok pa n e s l slots depth hl he hn hslots hd) fun v L h => ?_
  subst hC ho
  rcases h with ⟨hb, _⟩ | ⟨_, _, s', h1, h2, h3, h4⟩
  · omega
  · exact ⟨s', _, h1, h2, h3, h4.live⟩
theorem TableEnds_ok (G : HP) (hG : TabOk G) (vf vh vt : Value) (xs hs : List Int) (ts : List (Int × Int × Int)) (hA : IntsAt G vf xs) (hh : NumsAt .u64 G vh hs) (hT : TurnsAt G vt ts) (hwf : ∀ x ∈ hs, 0 ≤ x ∧ x < 18446744073709551616) (hmx : hs.length ≤ maxLen) (hmt : ts.length ≤ maxLen)
    (htw : ∀ t ∈ ts, turnWf t) (slots : Int) (hs64 : -9223372036854775808 ≤ slots ∧ slots ≤ 9223372036854775807) :
    FnOk Tryz.prog 3 #[.agg #[vf, .int .i64 slots, vh, vt]] [G] (fun v L => v = .bool true ∧ L = [G]) := by
  simp only [maxLen] at hmt
  obtain ⟨ta, tcap, rfl, hT0⟩ := hT
  refine fn_intro en3 Tryz.func3 rfl rfl rfl fun Fr w0 => t_nm ?_
  refine sr <| o_boxA rfl rfl fun b1 => asg rfl rfl <| lz <| l_q rfl (qlda rfl yA26 yS26) ?_
  refine lcf rfl rfl rfl (bench_ok G vf vh _ xs hs hA hh slots hs64) ?_
  rintro v L' (⟨rfl, rfl⟩ | ⟨pa, pb, off, go, n, e, s0, hle, hn, rfl, h0, rfl, rfl, hP0, hNs, hof, hgo, hsz⟩)
  refine l_nm ?_
  · skip
    refine l_nm ?_
    refine mv rfl rfl <| l_q rfl (q_extractL rfl ga) ?_
    refine l_q rfl (q_extractL rfl ga) ?_
    refine l_q rfl (q_extractL rfl ga) ?_
    refine asg rfl rfl <| asg rfl rfl <| asg rfl rfl <| lc <| t_seq <| sr <| mv rfl rfl <| l_q rfl (q_un rfl (u_not ·)) <| lc <| t_if rfl (fun p1 => ?_) fun p1 => ?_
    · exact sr <| asg rfl rfl <| lc <| rt <| fr1 rfl ([G]) (.tmp rfl) ⟨rfl, rfl⟩
    · cases p1
  · skip
    refine l_nm ?_
    have hN := layN hle
    have hn0 := hP0.n0
    have hg8 := hN.g_eq
    have hbd := Lay.bnd hle
    have hgg := hN.g
    have hgl : gN (lay5 xs) ≤ n * gN (lay5 xs) := Nat.le_mul_of_pos_left _ hn0.1
    have hmul : 8 * (n : Int) / 8 * (lay5 xs).group = ((n * gN (lay5 xs) : Nat) : Int) := by rw [Int.natCast_mul, hN.g]; congr 1; omega
    have hcb := classI_bnd (n := ((n * gN (lay5 xs) : Nat) : Int)) (by omega)
    have hcc : classI ((n * gN (lay5 xs) : Nat) : Int) ∈ classes := class_mem (by omega) hsz
    have hcb2 := hcb.2.2 hsz
    obtain ⟨C, hC⟩ : ∃ C, C = classI ((n * gN (lay5 xs) : Nat) : Int) := ⟨_, rfl⟩
    rw [← hC] at hNs hgo hcc hcb hcb2
    refine l_pure (φ := s0.ok) (fun w hw => arena_ok (pa := pa) hw tk) fun hok0 => ?_
    have hTw := two_new (ArS.new_ok (by decide)) hcc hNs hok0
    rw [← hof, ← hgo] at hTw
    have hlv := hTw.live
    refine mv rfl rfl <| l_q rfl (q_extractL rfl ga) ?_
    refine l_q rfl (q_extractL rfl ga) ?_
    refine l_q rfl (q_extractL rfl ga) ?_
    refine asg rfl rfl <| asg rfl rfl <| asg rfl rfl <| lc <| t_seq <| sr <| mv rfl rfl <| l_q rfl (q_un rfl (u_not ·)) <| lc <| t_if rfl (fun p1 => ?_) fun p1 => ?_
    · cases p1
    · refine t_skip <| n_code <| t_seq <| sr <| mv rfl rfl <| l_q rfl (q_un rfl (u_not ·)) <| lc <| t_if rfl (fun p2 => ?_) fun p2 => ?_
      · cases p2
      · refine t_skip <| nz <| mv rfl rfl <| l_q rfl (q_nilCheck rfl) <| l_q rfl (qfa 0 rfl yU37 rfl rfl yS30) <| l_q rfl (qld rfl yA30) ?_
        refine lc1 rfl rfl rfl (Live_ok pa s0) ?_
        refine asg rfl rfl <| lc <| t_seq <| t_seq <| t_draw mixed ?_
        apply dq 0 rfl
        · exact yq (q_move rfl)
        apply dq 2 rfl
        · exact yq (qfa 1 rfl yU26 rfl rfl yS3)
        apply dq 3 rfl
        · exact yq (qld rfl yA3)
        apply dq 4 rfl
        · exact yq (qquo rfl rfl)
        apply dq 5 rfl
        · exact yq (q_move rfl)
        apply dq 6 rfl
        · exact yq (q_nilCheck rfl)
        apply dq 7 rfl
        · exact yq (qfa 1 rfl yU37 rfl rfl yS32)
        apply dq 8 rfl
        · exact yq (qfa 8 rfl yU32 rfl rfl yS3)
        apply dq 9 rfl
        · exact yq (qld rfl yA3)
        apply dq 10 rfl
        · exact yq (qmul rfl rfl)
        refine d_eff1 [] [10, 9, 8, 7, 6, 5, 4, 3, 2, 0] 1 [] gO trivial (by kernel_rfl) (by kernel_rfl) fun Ex => ?_
        refine lc1 rfl rfl rfl (Class_ok 64) ?_
        refine l_nil ?_
        apply n_d
        · refine ⟨?_, ?_, ?_, ?_, ?_, ?_, ?_, ?_, ?_, ?_, trivial⟩
          · apply ya rfl rfl; exact yq (qmul rfl rfl)
          · apply ya rfl rfl; exact yq (qld rfl yA3)
          · apply ya rfl rfl; exact yq (qfa 8 rfl yU32 rfl rfl yS3)
          · apply ya rfl rfl; exact yq (qfa 1 rfl yU37 rfl rfl yS32)
          · apply ya rfl rfl; exact yq (q_nilCheck rfl)
          · apply ya rfl rfl; exact yq (q_move rfl)
          · apply ya rfl rfl; exact yq (qquo rfl rfl)
          · apply ya rfl rfl; exact yq (qld rfl yA3)
          · apply ya rfl rfl; exact yq (qfa 1 rfl yU26 rfl rfl yS3)
          · apply ya rfl rfl; exact yq (q_move rfl)
        refine d_eff1 [10, 4, 9, 3, 8, 2, 7, 6, 5] [0] 11 [(61, _)] gO ⟨rfl, trivial⟩ (by kernel_rfl) (by kernel_rfl) fun Ex => ?_
        refine lc1 rfl rfl rfl (Class_ok _) ?_
        rw [class64, hmul, ← hC, hlv]
        refine l_nil ?_
        apply n_d
        · refine ⟨?_, trivial⟩
          · apply ya rfl rfl; exact yq (q_move rfl)
        apply dq 12 rfl
        · exact yq (qadd rfl rfl)
        apply dq 13 rfl
        · exact yq (qi rfl rfl (b_neq ·))
        refine d_end (by kernel_rfl) ?_
        refine n_code <| t_if rfl (fun p3 => ?_) fun p3 => ?_
        · omega
        · skip
          refine t_skip <| n_code <| t_seq <| sr <| l_q rfl (qfa 3 rfl yU26 rfl rfl yS24) <| l_q rfl (qld rfl yA24) ?_
          refine l_q rfl (ql rfl yU24) <| mv rfl rfl <| lc <| t_block ?_
          refine t_ent (show Ent _ (ownS 204 5 (.slice none 0 0) ([] : List Life).length (rowOf Life.cells []) :: _) from fun w h => own_nil h) ?_
          refine t_loop (fun x : Nat × ArS × Tb × List Life × Value × Nat => x.1 ≤ ts.length ∧ TabP x.2.1 off go (lay5 xs) n e x.2.2.1 ∧ BI n (planH hs (kN (lay5 xs))) (planK (kN (lay5 xs))) x.2.2.1 x.2.2.2.1 x.2.2.2.2.2 ∧ x.2.2.2.2.2 ≤ x.1 ∧ SameBut s0 x.2.1 off go (n * gN (lay5 xs))) (fun x => [(1, .pointer (some ⟨b1, 0, none⟩)), (3, .pointer (some ⟨pb, 0, none⟩)), (6, .int .i64 (64 + C)), (66, .slice ta ts.length tcap), (67, .int .i64 (ts.length : Nat)), (68, .int .i64 (x.1 : Nat))]) (fun x => pt b1 (.cells #[vf, .int .i64 (8 * (n : Int)), vh, .slice ta ts.length tcap] 26 (0, 0)) :: pt pb (.cells #[.pointer (some ⟨pa, 0, none⟩), .int .i64 (lay5 xs).key, .int .i64 (lay5 xs).elem, .int .i64 (lay5 xs).ka, .int .i64 (lay5 xs).ea, .int .i64 (lay5 xs).cap, .int .i64 (lay5 xs).eo, .int .i64 (lay5 xs).bo, .int .i64 (lay5 xs).slot, .int .i64 (lay5 xs).group, .pointer (some ⟨pa, 0, none⟩), .int .i64 (lay5 xs).key, .int .i64 (lay5 xs).elem, .int .i64 (lay5 xs).ka, .int .i64 (lay5 xs).ea, .int .i64 (lay5 xs).cap, .int .i64 (lay5 xs).eo, .int .i64 (lay5 xs).bo, .int .i64 (lay5 xs).slot, .int .i64 (lay5 xs).group, .int .i64 ((off : Nat) : Int), vf, .int .i64 (8 * (n : Int)), vh, (.slice ta ts.length tcap), x.2.2.2.2.1, .int .i64 ((x.2.2.2.2.2 : Nat) : Int)] 37 (0, 0)) :: ownS 204 5 x.2.2.2.2.1 x.2.2.2.1.length (rowOf Life.cells x.2.2.2.1) :: G :: arenaH pa x.2.1 :: Fr) (fun x => ts.length - x.1) (0, s0, newT n 0, [], .slice none 0 0, 0) ⟨Nat.zero_le _, hP0, bi_start hn0.1 _ _, Nat.le_refl _, SameBut.refl _ _ _ _⟩ ⟨rfl, rfl, rfl, rfl, rfl, rfl, trivial⟩ (by (exact en)) ?_
          rintro ⟨i, s, T, lives, lv, ad⟩ ⟨hi, hP, hI, had, hSB⟩
          dsimp only at hi hP hI had hSB ⊢
          have hlvs := hSB.live
          refine sr <| l_q rfl (qi rfl rfl (b_lss ·)) <| lc <| t_seq <| t_if rfl (fun g1 => ?_) fun g1 => ?_
          · skip
            obtain ⟨tb, to, rfl, hT1⟩ := hT0 (by omega)
            obtain ⟨t, ht⟩ : ∃ t, ts[i]? = some t := ⟨ts[i], List.getElem?_eq_getElem (by omega)⟩
            have hcell := cell_turn hT1 ht
            have hw := htw t (List.mem_of_getElem? ht)
            refine t_skip <| n_code <| t_seq <| t_block <| sr <| l_q rfl (q_indexAddr rfl rfl yU24 yS41 (by omega)) ?_
            apply l_q rfl
            · apply q_loadRA (A := G) (us := [.int .i64 t.1, .int .i64 t.2.1, .int .i64 t.2.2]) rfl yA41 yS41 rfl
              · exact tk
              · exact hcell
            refine o_allocA rfl yZ41 fun b8 => sta rfl rfl rfl yS41 rfl rfl ?_
            refine lz <| mv rfl rfl <| l_q rfl (qlda rfl yA41 yS41) ?_
            refine lcf rfl rfl rfl (turn_ok pb pa off n e (lay5 xs) vf (.slice (some ⟨tb, to, none⟩) ts.length tcap) lv (8 * (n : Int)) hs lives G hG go s T ad vh hh h0 hmx hwf hle hP hI rfl (by omega) (by omega) t.1 t.2.1 t.2.2 hw) ?_
            rintro v L' ⟨s', T', lives', lv', ad', rfl, rfl, hW⟩
            refine l_nm ?_
            refine l_q rfl (q_un rfl (u_not ·)) <| mv rfl rfl <| l_pt (t := 76) rfl (fun g2 => ?_) fun g2 => ?_
            · cases g2
            · refine l_on rfl rfl <| mv rfl rfl <| l_on rfl rfl <| l_q rfl (q_nilCheck rfl) <| l_on rfl rfl <| l_q rfl (qfa 0 rfl yU37 rfl rfl yS30) <| l_on rfl rfl <| l_q rfl (qld rfl yA30) ?_
              refine l_on rfl rfl ?_
              have hS2 := hSB.trans hW.same
              have hlv2 := hS2.live
              refine lc1 rfl rfl rfl (Live_ok pa s') ?_
              refine l_on rfl rfl <| mv rfl rfl <| l_on rfl rfl <| l_q rfl (qi rfl rfl (b_neq ·)) <| l_q rfl (q_pk rfl rfl) <| lc <| t_if rfl (fun g3 => ?_) fun g3 => ?_
              · omega
              · refine t_skip <| n_blk <| n_code <| t_region <| l_q rfl (qadd rfl rfl) ?_
                refine mv rfl rfl <| l_nil ?_
                apply n_again ((i + 1, s', T', lives', lv', ad'))
                · exact ⟨by dsimp only; omega, hW.tab, hW.bi, by have := hW.ad; dsimp only; omega, hS2⟩
                · dsimp only; omega
                · exact ⟨rfl, rfl, rfl, rfl, rfl, rfl, trivial⟩
                · exact en
          · skip
            refine t_pure (φ := s.ok) (fun w hw => arena_ok (pa := pa) hw tk) fun hok => ?_
            have hTs : Two s off go C := ⟨hok, hSB.all.trans hTw.all, fun o => by rw [hSB.dead]; exact hTw.dead o, hSB.limit.trans hTw.limit⟩
            obtain ⟨hm1, hm2⟩ := hTs.mem
            obtain ⟨gok, glv, gbl, gne⟩ := hTs.gives
            have hst := hok.stop_eq
            have hge := goodP.end_le hok hP.gh
            have hat := hTs.again (by omega)
            refine xt rfl <| nz <| mv rfl rfl <| l_q rfl (q_nilCheck rfl) <| l_q rfl (qfa 10 rfl yU37 rfl rfl yS34) <| l_q rfl (qlda rfl yA34 yS34) ?_
            refine lc1 rfl rfl rfl (TOff_ok pa (lay5 xs) (off : Nat)) ?_
            refine asg rfl rfl <| lc <| t_seq <| sr <| mv rfl rfl <| l_q rfl (q_nilCheck rfl) <| l_q rfl (qfa 10 rfl yU37 rfl rfl yS34) <| l_q rfl (qlda rfl yA34 yS34) ?_
            refine lc1 rfl rfl rfl (TFree_ok pa off go n e s (lay5 xs) T hP _ _ hm1 hm2) ?_
            obtain ⟨s2, hs2⟩ : ∃ s2, s2 = s.gives [((off : Nat) : Int), ((go : Nat) : Int)] := ⟨_, rfl⟩
            rw [← hs2] at gok glv gbl gne hat ⊢
            have hng : ¬ goodP s2 (off : Nat) 8 := fun ⟨_, p, hp, _⟩ => by rw [gbl] at hp; cases hp
            have ho9 : off ≤ 1000000000 := by omega
            refine lc1 rfl rfl rfl (num08_ok _) ?_
            refine l_q rfl (qi rfl rfl (b_neq ·)) <| mv rfl rfl <| l_pt (t := 98) rfl (fun q1 => ?_) fun q1 => ?_
            · exact absurd rfl q1
            · refine l_on rfl rfl <| mv rfl rfl <| l_on rfl rfl <| l_q rfl (q_nilCheck rfl) <| l_on rfl rfl <| l_q rfl (qfa 0 rfl yU37 rfl rfl yS30) <| l_on rfl rfl <| l_q rfl (qld rfl yA30) ?_
              refine l_on rfl rfl <| lc1 rfl rfl rfl (Live_ok pa s2) ?_
              refine l_on rfl rfl <| l_q rfl (qi rfl rfl (b_neq ·)) <| l_q rfl (q_pk rfl rfl) <| lc <| t_if rfl (fun q2 => ?_) fun q2 => ?_
              · omega
              · refine t_skip <| nz <| asg rfl rfl <| lz <| mv rfl rfl <| l_q rfl (q_nilCheck rfl) <| l_q rfl (qfa 10 rfl yU37 rfl rfl yS34) <| l_q rfl (qlda rfl yA34 yS34) ?_
                refine lc1 rfl rfl rfl (Stat_dead pa off s2 (lay5 xs) hng gne ho9) ?_
                refine mv rfl rfl <| l_q rfl (q_extractL rfl ga) ?_
                refine l_q rfl (q_extractL rfl ga) ?_
                refine o_allocA rfl yZ47 fun b11 => sta rfl rfl rfl yS47 rfl rfl ?_
                refine asg rfl rfl <| lz <| mv rfl rfl <| l_q rfl (q_nilCheck rfl) <| l_q rfl (qfa 10 rfl yU37 rfl rfl yS34) <| l_q rfl (qlda rfl yA34 yS34) ?_
                refine lc1 rfl rfl rfl (Find_dead pa off s2 (lay5 xs) hng gne ho9 _ _) ?_
                refine mv rfl rfl <| l_q rfl (q_extractL rfl ga) ?_
                refine l_q rfl (q_extractL rfl ga) ?_
                refine asg rfl rfl <| asg rfl rfl <| lz <| mv rfl rfl <| l_q rfl (q_nilCheck rfl) <| l_q rfl (qfa 10 rfl yU37 rfl rfl yS34) <| l_q rfl (qlda rfl yA34 yS34) ?_
                refine lc1 rfl rfl rfl (Get_dead pa off s2 (lay5 xs) hng gne ho9 _ _) ?_
                refine mv rfl rfl <| l_q rfl (q_extractL rfl ga) ?_
                refine l_q rfl (q_extractL rfl ga) ?_
                refine o_allocA rfl yZ54 fun b15 => sta rfl rfl rfl yS54 rfl rfl ?_
                refine asg rfl rfl <| lz <| mv rfl rfl <| l_q rfl (q_nilCheck rfl) <| l_q rfl (qfa 10 rfl yU37 rfl rfl yS34) <| l_q rfl (qlda rfl yA34 yS34) ?_
                refine lc1 rfl rfl rfl (Put_dead pa off s2 (lay5 xs) hng gne ho9 _ _ _ _) ?_
                refine mv rfl rfl <| l_q rfl (q_extractL rfl ga) ?_
                refine l_q rfl (q_extractL rfl ga) ?_
                refine asg rfl rfl <| asg rfl rfl <| lz <| mv rfl rfl <| l_q rfl (q_nilCheck rfl) <| l_q rfl (qfa 10 rfl yU37 rfl rfl yS34) <| l_q rfl (qlda rfl yA34 yS34) ?_
                refine lc1 rfl rfl rfl (Delete_dead pa off s2 (lay5 xs) hng gne ho9 _ _) ?_
                refine mv rfl rfl <| l_q rfl (q_extractL rfl ga) ?_
                refine l_q rfl (q_extractL rfl ga) ?_
                refine asg rfl rfl <| asg rfl rfl <| lz <| mv rfl rfl <| l_q rfl (q_nilCheck rfl) <| l_q rfl (qfa 10 rfl yU37 rfl rfl yS34) <| l_q rfl (qlda rfl yA34 yS34) ?_
                refine lc1 rfl rfl rfl (Cell_dead pa off s2 (lay5 xs) hng gne ho9 _) ?_
                refine mv rfl rfl <| l_q rfl (q_extractL rfl ga) ?_
                refine l_q rfl (q_extractL rfl ga) ?_
                refine o_allocA rfl yZ54 fun b21 => sta rfl rfl rfl yS54 rfl rfl ?_
                refine asg rfl rfl <| lz <| mv rfl rfl <| l_q rfl (q_nilCheck rfl) <| l_q rfl (qfa 10 rfl yU37 rfl rfl yS34) <| l_q rfl (qlda rfl yA34 yS34) ?_
                refine lc1 rfl rfl rfl (Pin_dead pa off s2 (lay5 xs) hng gne ho9 _) ?_
                refine mv rfl rfl <| l_q rfl (q_extractL rfl ga) ?_
                refine l_q rfl (q_extractL rfl ga) ?_
                refine asg rfl rfl <| asg rfl rfl <| lz <| mv rfl rfl <| l_q rfl (q_nilCheck rfl) <| l_q rfl (qfa 10 rfl yU37 rfl rfl yS34) <| l_q rfl (qlda rfl yA34 yS34) ?_
                refine lc1 rfl rfl rfl (Group_dead pa off s2 (lay5 xs) hng gne ho9 _) ?_
                refine mv rfl rfl <| l_q rfl (q_extractL rfl ga) ?_
                refine l_q rfl (q_extractL rfl ga) ?_
                refine o_allocA rfl yZ63 fun b25 => sta rfl rfl rfl yS63 rfl rfl ?_
                refine asg rfl rfl <| lz <| mv rfl rfl <| l_q rfl (q_nilCheck rfl) <| l_q rfl (qfa 10 rfl yU37 rfl rfl yS34) <| l_q rfl (qlda rfl yA34 yS34) ?_
                refine lc1 rfl rfl rfl (Probes_dead pa off s2 (lay5 xs) hng gne ho9 _ _) ?_
                refine mv rfl rfl <| l_q rfl (q_extractL rfl ga) ?_
                refine l_q rfl (q_extractL rfl ga) ?_
                refine asg rfl rfl <| asg rfl rfl <| lc <| t_seq <| sr <| mv rfl rfl <| lc1 rfl rfl rfl (num08_ok _) ?_
                refine mv rfl rfl <| l_q rfl (qi rfl rfl (b_neq ·)) <| mv rfl rfl <| l_pt (t := 182) rfl (fun r0 => ?_) fun r0 => ?_
                · exact absurd rfl r0
                · refine l_on rfl rfl <| mv rfl rfl <| l_on rfl rfl <| lc1 rfl rfl rfl (num08_ok _) ?_
                  refine l_on rfl rfl <| mv rfl rfl <| l_on rfl rfl <| l_q rfl (qi rfl rfl (b_neq ·)) <| l_q rfl (q_pk rfl rfl) <| mv rfl rfl <| l_pt (t := 188) rfl (fun r1 => ?_) fun r1 => ?_
                  · exact absurd rfl r1
                  · refine l_on rfl rfl <| mv rfl rfl <| l_on rfl rfl <| lc1 rfl rfl rfl (num08_ok _) ?_
                    refine l_on rfl rfl <| mv rfl rfl <| l_on rfl rfl <| l_q rfl (qi rfl rfl (b_neq ·)) <| l_q rfl (q_pk rfl rfl) <| mv rfl rfl <| l_pt (t := 194) rfl (fun r2 => ?_) fun r2 => ?_
                    · exact absurd rfl r2
                    · refine l_on rfl rfl <| mv rfl rfl <| l_on rfl rfl <| lc1 rfl rfl rfl (num08_ok _) ?_
                      refine l_on rfl rfl <| mv rfl rfl <| l_on rfl rfl <| l_q rfl (qi rfl rfl (b_neq ·)) <| l_q rfl (q_pk rfl rfl) <| mv rfl rfl <| l_pt (t := 200) rfl (fun r3 => ?_) fun r3 => ?_
                      · exact absurd rfl r3
                      · refine l_on rfl rfl <| mv rfl rfl <| l_on rfl rfl <| lc1 rfl rfl rfl (num08_ok _) ?_
                        refine l_on rfl rfl <| mv rfl rfl <| l_on rfl rfl <| l_q rfl (qi rfl rfl (b_neq ·)) <| l_q rfl (q_pk rfl rfl) <| mv rfl rfl <| l_pt (t := 206) rfl (fun r4 => ?_) fun r4 => ?_
                        · exact absurd rfl r4
                        · refine l_on rfl rfl <| mv rfl rfl <| l_on rfl rfl <| lc1 rfl rfl rfl (num08_ok _) ?_
                          refine l_on rfl rfl <| mv rfl rfl <| l_on rfl rfl <| l_q rfl (qi rfl rfl (b_neq ·)) <| l_q rfl (q_pk rfl rfl) <| mv rfl rfl <| l_pt (t := 212) rfl (fun r5 => ?_) fun r5 => ?_
                          · exact absurd rfl r5
                          · refine l_on rfl rfl <| mv rfl rfl <| l_on rfl rfl <| lc1 rfl rfl rfl (num08_ok _) ?_
                            refine l_on rfl rfl <| mv rfl rfl <| l_on rfl rfl <| l_q rfl (qi rfl rfl (b_neq ·)) <| l_q rfl (q_pk rfl rfl) <| mv rfl rfl <| l_pt (t := 218) rfl (fun r6 => ?_) fun r6 => ?_
                            · exact absurd rfl r6
                            · refine l_on rfl rfl <| mv rfl rfl <| l_on rfl rfl <| lc1 rfl rfl rfl (num08_ok _) ?_
                              refine l_on rfl rfl <| mv rfl rfl <| l_on rfl rfl <| l_q rfl (qi rfl rfl (b_neq ·)) <| l_q rfl (q_pk rfl rfl) <| mv rfl rfl <| l_pt (t := 224) rfl (fun r7 => ?_) fun r7 => ?_
                              · exact absurd rfl r7
                              · refine l_on rfl rfl <| mv rfl rfl <| l_on rfl rfl <| lc1 rfl rfl rfl (num08_ok _) ?_
                                refine l_on rfl rfl <| mv rfl rfl <| l_on rfl rfl <| l_q rfl (qi rfl rfl (b_neq ·)) <| l_q rfl (q_pk rfl rfl) <| lc <| t_if rfl (fun r8 => ?_) fun r8 => ?_
                                · exact absurd rfl r8
                                · refine t_skip <| n_code <| t_seq <| sr <| mv rfl rfl <| l_q rfl (q_nilCheck rfl) <| l_q rfl (qfa 10 rfl yU37 rfl rfl yS34) <| l_q rfl (qlda rfl yA34 yS34) ?_
                                  refine lc1 rfl rfl rfl (TFree_dead pa off s2 (lay5 xs) hng gne ho9) ?_
                                  refine lc1 rfl rfl rfl (num08_ok _) ?_
                                  refine mv rfl rfl <| l_q rfl (qi rfl rfl (b_neq ·)) <| mv rfl rfl <| l_pt (t := 238) rfl (fun w0 => ?_) fun w0 => ?_
                                  · exact absurd rfl w0
                                  · refine l_on rfl rfl <| mv rfl rfl <| l_on rfl rfl <| l_q rfl (q_nilCheck rfl) <| l_on rfl rfl <| l_q rfl (qfa 10 rfl yU37 rfl rfl yS34) <| l_on rfl rfl <| l_q rfl (qlda rfl yA34 yS34) ?_
                                    refine l_on rfl rfl <| lc1 rfl rfl rfl (AddLeft_dead pa off s2 (lay5 xs) hng gne ho9 _) ?_
                                    refine l_on rfl rfl <| lc1 rfl rfl rfl (num08_ok _) ?_
                                    refine l_on rfl rfl <| mv rfl rfl <| l_on rfl rfl <| l_q rfl (qi rfl rfl (b_neq ·)) <| l_q rfl (q_pk rfl rfl) <| mv rfl rfl <| l_pt (t := 248) rfl (fun w1 => ?_) fun w1 => ?_
                                    · exact absurd rfl w1
                                    · refine l_on rfl rfl <| mv rfl rfl <| l_on rfl rfl <| l_q rfl (q_nilCheck rfl) <| l_on rfl rfl <| l_q rfl (qfa 10 rfl yU37 rfl rfl yS34) <| l_on rfl rfl <| l_q rfl (qlda rfl yA34 yS34) ?_
                                      refine l_on rfl rfl <| lc1 rfl rfl rfl (Retire_dead pa off s2 (lay5 xs) hng gne ho9 _) ?_
                                      refine l_on rfl rfl <| lc1 rfl rfl rfl (num08_ok _) ?_
                                      refine l_on rfl rfl <| mv rfl rfl <| l_on rfl rfl <| l_q rfl (qi rfl rfl (b_neq ·)) <| l_q rfl (q_pk rfl rfl) <| mv rfl rfl <| l_pt (t := 258) rfl (fun w2 => ?_) fun w2 => ?_
                                      · exact absurd rfl w2
                                      · refine l_on rfl rfl <| mv rfl rfl <| l_on rfl rfl <| l_q rfl (q_nilCheck rfl) <| l_on rfl rfl <| l_q rfl (qfa 10 rfl yU37 rfl rfl yS34) <| l_on rfl rfl <| l_q rfl (qlda rfl yA34 yS34) ?_
                                        refine l_on rfl rfl <| lc1 rfl rfl rfl (SetNext_dead pa off s2 (lay5 xs) hng gne ho9 _) ?_
                                        refine l_on rfl rfl <| lc1 rfl rfl rfl (num08_ok _) ?_
                                        refine l_on rfl rfl <| mv rfl rfl <| l_on rfl rfl <| l_q rfl (qi rfl rfl (b_neq ·)) <| l_q rfl (q_pk rfl rfl) <| lc <| t_if rfl (fun w3 => ?_) fun w3 => ?_
                                        · exact absurd rfl w3
                                        · refine t_skip <| n_code <| t_seq <| t_draw mixed ?_
                                          apply dq 0 rfl
                                          · exact yq (q_move rfl)
                                          apply dq 1 rfl
                                          · exact yq (q_nilCheck rfl)
                                          apply dq 2 rfl
                                          · exact yq (qfa 0 rfl yU37 rfl rfl yS30)
                                          apply dq 3 rfl
                                          · exact yq (qld rfl yA30)
                                          apply dq 4 rfl
                                          · exact yq (q_move rfl)
                                          apply dq 5 rfl
                                          · exact yq (q_nilCheck rfl)
                                          apply dq 6 rfl
                                          · exact yq (qfa 1 rfl yU37 rfl rfl yS32)
                                          apply dq 7 rfl
                                          · exact yq (qlda rfl yA32 yS32)
                                          apply dq 8 rfl
                                          · exact yq (qfa 1 rfl yU26 rfl rfl yS3)
                                          apply dq 9 rfl
                                          · exact yq (qld rfl yA3)
                                          have hl2 : s2.limit = 2097152 := by rw [hs2, (gives_m s _).2]; exact hTs.limit
                                          apply d_eff2 10 14
                                          · kernel_rfl
                                          · apply effAt (q1 := [3, 7, 9, 2, 6, 8, 1, 5, 0, 4]) (q2 := []) [(272, _), (276, _), (278, _)]
                                            · exact gO
                                            · exact ⟨rfl, rfl, rfl, trivial⟩
                                            · kernel_rfl
                                            intro Ex
                                            refine lcf rfl rfl rfl (NewE_ok pa n e s2 (lay5 xs) (8 * (n : Int)) 6 off C hle hP0.he hP0.hn rfl (by omega) hsz hC (by omega) hat) ?_
                                            rintro v L' ⟨s3, g3, rfl, rfl, hP3, hlv3⟩
                                            refine l_nm ?_
                                            refine l_nil ?_
                                            apply n_d
                                            · exact trivial
                                            apply dq 11 rfl
                                            · exact yq (q_move rfl)
                                            apply dq 12 rfl
                                            · exact yq (q_extractL rfl ga)
                                            apply dq 13 rfl
                                            · exact yq (q_extractL rfl ga)
                                            refine d_eff1 [] [13, 12, 11] 14 [] gO trivial (by kernel_rfl) (by kernel_rfl) fun Ex => ?_
                                            refine o_allocA rfl yZ34 fun b29 => l_nil ?_
                                            apply n_d
                                            · refine ⟨?_, ?_, ?_, trivial⟩
                                              · apply ya rfl rfl; exact yq (q_extractL rfl ga)
                                              · apply ya rfl rfl; exact yq (q_extractL rfl ga)
                                              · apply ya rfl rfl; exact yq (q_move rfl)
                                            refine d_eff1 [12, 11] [13] 15 [(29, _), (280, _)] gO ⟨rfl, rfl, trivial⟩ (by kernel_rfl) (by kernel_rfl) fun Ex => ?_
                                            refine sta rfl rfl rfl yS34 rfl rfl ?_
                                            refine l_nil ?_
                                            apply n_d
                                            · refine ⟨?_, trivial⟩
                                              · apply ya rfl rfl; exact yq (q_extractL rfl ga)
                                            refine d_eff1 [13] [] 16 [(281, _)] gO ⟨rfl, trivial⟩ (by kernel_rfl) (by kernel_rfl) fun Ex => ?_
                                            refine asg rfl rfl <| l_nil ?_
                                            apply n_d
                                            · exact trivial
                                            refine d_end (by kernel_rfl) ?_
                                            refine nz <| l_q rfl (qlda rfl yA34 yS34) ?_
                                            refine lc1 rfl rfl rfl (StatP_ok pa off g3 n e s3 (lay5 xs) _ hP3) ?_
                                            refine mv rfl rfl <| l_q rfl (q_extractL rfl ga) ?_
                                            refine l_q rfl (q_extractL rfl ga) ?_
                                            refine o_allocA rfl yZ47 fun b31 => sta rfl rfl rfl yS47 rfl rfl ?_
                                            refine asg rfl rfl <| lc <| t_seq <| sr <| mv rfl rfl <| lc1 rfl rfl rfl (num08_ok _) ?_
                                            refine l_q rfl (qi rfl rfl (b_neq ·)) <| mv rfl rfl <| l_pt (t := 290) rfl (fun x1 => ?_) fun x1 => ?_
                                            · exact absurd rfl x1
                                            · refine l_on rfl rfl <| mv rfl rfl <| l_on rfl rfl <| lc1 rfl rfl rfl (num08_ok _) ?_
                                              refine l_on rfl rfl <| l_q rfl (qi rfl rfl (b_neq ·)) <| l_q rfl (q_pk rfl rfl) <| mv rfl rfl <| l_pt (t := 295) rfl (fun x2 => ?_) fun x2 => ?_
                                              · exact absurd rfl x2
                                              · refine l_on rfl rfl <| l_q rfl (qlda rfl yA34 yS34) ?_
                                                refine l_on rfl rfl <| lc1 rfl rfl rfl (TOff_ok pa (lay5 xs) (off : Nat)) ?_
                                                refine l_on rfl rfl <| mv rfl rfl <| l_on rfl rfl <| l_q rfl (qi rfl rfl (b_neq ·)) <| l_q rfl (q_pk rfl rfl) <| mv rfl rfl <| l_pt (t := 301) rfl (fun x3 => ?_) fun x3 => ?_
                                                · exact absurd rfl x3
                                                · refine l_on rfl rfl <| mv rfl rfl <| l_on rfl rfl <| l_q rfl (q_nilCheck rfl) <| l_on rfl rfl <| l_q rfl (qfa 0 rfl yU37 rfl rfl yS30) <| l_on rfl rfl <| l_q rfl (qld rfl yA30) ?_
                                                  refine l_on rfl rfl <| lc1 rfl rfl rfl (Live_ok pa s3) ?_
                                                  refine l_on rfl rfl <| mv rfl rfl <| l_on rfl rfl <| l_q rfl (qi rfl rfl (b_neq ·)) <| l_q rfl (q_pk rfl rfl) <| lc <| t_if rfl (fun x4 => ?_) fun x4 => ?_
                                                  · omega
                                                  · refine t_skip <| n_code <| t_seq <| sr <| l_q rfl (qlda rfl yA47 yS47) ?_
                                                    refine l_q rfl (qfa 1 rfl yU26 rfl rfl yS3) <| l_q rfl (qld rfl yA3) ?_
                                                    refine l_q rfl (qfa 1 rfl yU26 rfl rfl yS3) <| l_q rfl (qld rfl yA3) ?_
                                                    refine l_q rfl (qquo rfl rfl) ?_
                                                    refine l_q rfl (qmul rfl rfl) ?_
                                                    refine l_q rfl (qfa 7 rfl yU47 rfl rfl yS3) <| l_q rfl (qld rfl yA3) ?_
                                                    apply l_q rfl
                                                    · apply q_buildS rfl yP47 yZ47
                                                      · apply FillR.one
                                                        · repeat (first | exact PlAt.here | apply PlAt.there)
                                                        · rfl
                                                        · exact sa
                                                        apply FillR.one
                                                        · repeat (first | exact PlAt.here | apply PlAt.there)
                                                        · rfl
                                                        · exact sa
                                                        apply FillR.one
                                                        · repeat (first | exact PlAt.here | apply PlAt.there)
                                                        · rfl
                                                        · exact sa
                                                        apply FillR.one
                                                        · repeat (first | exact PlAt.here | apply PlAt.there)
                                                        · rfl
                                                        · exact sa
                                                        exact FillR.nil
                                                    refine l_q rfl (q_bin rfl rfl (g_flat · yG47) fun w => b_neqFlat w yU47 yH47 (by kernel_rfl) (by kernel_rfl)) ?_
                                                    refine lc <| t_if rfl (fun x5 => ?_) fun x5 => ?_
                                                    · exfalso
                                                      apply of_decE x5
                                                      have e7 : 8 * (n : Int) / 8 * 7 = 7 * (n : Int) := by omega
                                                      rw [e7]
                                                      rfl
                                                    · skip
                                                      refine t_skip <| n_code <| t_seq <| sr <| asg rfl rfl <| lc <| t_block ?_
                                                      refine t_loop (fun i : Nat => i ≤ 8 * n) (fun i => [(1, .pointer (some ⟨b1, 0, none⟩)), (29, .pointer (some ⟨b29, 0, none⟩)), (33, .int .i64 (i : Nat))]) (fun _ => pt b29 (.cells #[.pointer (some ⟨pa, 0, none⟩), .int .i64 (lay5 xs).key, .int .i64 (lay5 xs).elem, .int .i64 (lay5 xs).ka, .int .i64 (lay5 xs).ea, .int .i64 (lay5 xs).cap, .int .i64 (lay5 xs).eo, .int .i64 (lay5 xs).bo, .int .i64 (lay5 xs).slot, .int .i64 (lay5 xs).group, .int .i64 ((off : Nat) : Int)] 34 (0, 0)) :: pt b1 (.cells #[vf, .int .i64 (8 * (n : Int)), vh, .slice ta ts.length tcap] 26 (0, 0)) :: G :: arenaH pa s3 :: Fr) (fun i => 8 * n - i) 0 (Nat.zero_le _) ⟨rfl, rfl, rfl, trivial⟩ (by (exact en)) ?_
                                                      intro i hi
                                                      refine t_seq <| sr <| mv rfl rfl <| l_q rfl (qfa 1 rfl yU26 rfl rfl yS3) <| l_q rfl (qld rfl yA3) ?_
                                                      refine l_q rfl (qi rfl rfl (b_lss ·)) <| lc <| t_if rfl (fun y1 => ?_) fun y1 => ?_
                                                      · skip
                                                        refine t_skip <| n_code <| t_seq <| t_block <| sr <| l_q rfl (qlda rfl yA34 yS34) ?_
                                                        refine mv rfl rfl <| lc1 rfl rfl rfl (Cell_okP pa off g3 n e s3 (lay5 xs) _ hP3 i (by omega)) ?_
                                                        refine mv rfl rfl <| l_q rfl (q_extractL rfl ga) ?_
                                                        refine l_q rfl (q_extractL rfl ga) ?_
                                                        refine o_allocA rfl yZ54 fun b34 => sta rfl rfl rfl yS54 rfl rfl ?_
                                                        refine asg rfl rfl <| lz <| mv rfl rfl <| lc1 rfl rfl rfl (num08_ok _) ?_
                                                        refine l_q rfl (qi rfl rfl (b_neq ·)) <| mv rfl rfl <| l_pt (t := 336) rfl (fun y2 => ?_) fun y2 => ?_
                                                        · exact absurd rfl y2
                                                        · refine l_on rfl rfl <| l_q rfl (qlda rfl yA54 yS54) ?_
                                                          refine l_on rfl rfl ?_
                                                          apply l_q rfl
                                                          · apply q_buildS rfl yP54 yZ54
                                                            · exact FillR.nil
                                                          refine l_on rfl rfl <| l_q rfl (q_bin rfl rfl (g_flat · yG54) fun w => b_neqFlat w yU54 yH54 (by kernel_rfl) (by kernel_rfl)) ?_
                                                          refine l_q rfl (q_pk rfl rfl) <| lc <| t_if rfl (fun y3 => ?_) fun y3 => ?_
                                                          · exact absurd rfl (of_decE y3)
                                                          · refine t_skip <| n_blk <| n_code <| t_region <| mv rfl rfl <| l_q rfl (qadd rfl rfl) ?_
                                                            refine asg rfl rfl <| l_nil ?_
                                                            apply n_again ((i + 1))
                                                            · exact by omega
                                                            · omega
                                                            · exact ⟨rfl, rfl, rfl, trivial⟩
                                                            · exact en
                                                      · exact xt rfl <| nz <| asg rfl rfl <| lc <| rt <| fr1 rfl ([G]) (.tmp rfl) ⟨rfl, rfl⟩
                                          · apply effAt (q1 := []) (q2 := [9, 8, 7, 6, 5, 4, 3, 2, 1, 0]) []
                                            · exact gO
                                            · exact trivial
                                            · kernel_rfl
                                            intro Ex
                                            refine o_allocA rfl yZ34 fun b29 => l_nil ?_
                                            apply n_d
                                            · refine ⟨?_, ?_, ?_, ?_, ?_, ?_, ?_, ?_, ?_, ?_, trivial⟩
                                              · apply ya rfl rfl; exact yq (qld rfl yA3)
                                              · apply ya rfl rfl; exact yq (qfa 1 rfl yU26 rfl rfl yS3)
                                              · apply ya rfl rfl; exact yq (qlda rfl yA32 yS32)
                                              · apply ya rfl rfl; exact yq (qfa 1 rfl yU37 rfl rfl yS32)
                                              · apply ya rfl rfl; exact yq (q_nilCheck rfl)
                                              · apply ya rfl rfl; exact yq (q_move rfl)
                                              · apply ya rfl rfl; exact yq (qld rfl yA30)
                                              · apply ya rfl rfl; exact yq (qfa 0 rfl yU37 rfl rfl yS30)
                                              · apply ya rfl rfl; exact yq (q_nilCheck rfl)
                                              · apply ya rfl rfl; exact yq (q_move rfl)
                                            refine d_eff1 [3, 7, 9, 2, 6, 8, 1, 5, 0, 4] [] 10 [(272, _), (276, _), (278, _)] gO ⟨rfl, rfl, rfl, trivial⟩ (by kernel_rfl) (by kernel_rfl) fun Ex => ?_
                                            refine lcf rfl rfl rfl (NewE_ok pa n e s2 (lay5 xs) (8 * (n : Int)) 6 off C hle hP0.he hP0.hn rfl (by omega) hsz hC (by omega) hat) ?_
                                            rintro v L' ⟨s3, g3, rfl, rfl, hP3, hlv3⟩
                                            refine l_nm ?_
                                            refine l_nil ?_
                                            apply n_d
                                            · exact trivial
                                            apply dq 11 rfl
                                            · exact yq (q_move rfl)
                                            apply dq 12 rfl
                                            · exact yq (q_extractL rfl ga)
                                            apply dq 13 rfl
                                            · exact yq (q_extractL rfl ga)
                                            refine d_eff1 [12, 11] [13] 15 [(29, _), (280, _)] gO ⟨rfl, rfl, trivial⟩ (by kernel_rfl) (by kernel_rfl) fun Ex => ?_
                                            refine sta rfl rfl rfl yS34 rfl rfl ?_
                                            refine l_nil ?_
                                            apply n_d
                                            · refine ⟨?_, trivial⟩
                                              · apply ya rfl rfl; exact yq (q_extractL rfl ga)
                                            refine d_eff1 [13] [] 16 [(281, _)] gO ⟨rfl, trivial⟩ (by kernel_rfl) (by kernel_rfl) fun Ex => ?_
                                            refine asg rfl rfl <| l_nil ?_
                                            apply n_d
                                            · exact trivial
                                            refine d_end (by kernel_rfl) ?_
                                            refine nz <| l_q rfl (qlda rfl yA34 yS34) ?_
                                            refine lc1 rfl rfl rfl (StatP_ok pa off g3 n e s3 (lay5 xs) _ hP3) ?_
                                            refine mv rfl rfl <| l_q rfl (q_extractL rfl ga) ?_
                                            refine l_q rfl (q_extractL rfl ga) ?_
                                            refine o_allocA rfl yZ47 fun b31 => sta rfl rfl rfl yS47 rfl rfl ?_
                                            refine asg rfl rfl <| lc <| t_seq <| sr <| mv rfl rfl <| lc1 rfl rfl rfl (num08_ok _) ?_
                                            refine l_q rfl (qi rfl rfl (b_neq ·)) <| mv rfl rfl <| l_pt (t := 290) rfl (fun x1 => ?_) fun x1 => ?_
                                            · exact absurd rfl x1
                                            · refine l_on rfl rfl <| mv rfl rfl <| l_on rfl rfl <| lc1 rfl rfl rfl (num08_ok _) ?_
                                              refine l_on rfl rfl <| l_q rfl (qi rfl rfl (b_neq ·)) <| l_q rfl (q_pk rfl rfl) <| mv rfl rfl <| l_pt (t := 295) rfl (fun x2 => ?_) fun x2 => ?_
                                              · exact absurd rfl x2
                                              · refine l_on rfl rfl <| l_q rfl (qlda rfl yA34 yS34) ?_
                                                refine l_on rfl rfl <| lc1 rfl rfl rfl (TOff_ok pa (lay5 xs) (off : Nat)) ?_
                                                refine l_on rfl rfl <| mv rfl rfl <| l_on rfl rfl <| l_q rfl (qi rfl rfl (b_neq ·)) <| l_q rfl (q_pk rfl rfl) <| mv rfl rfl <| l_pt (t := 301) rfl (fun x3 => ?_) fun x3 => ?_
                                                · exact absurd rfl x3
                                                · refine l_on rfl rfl <| mv rfl rfl <| l_on rfl rfl <| l_q rfl (q_nilCheck rfl) <| l_on rfl rfl <| l_q rfl (qfa 0 rfl yU37 rfl rfl yS30) <| l_on rfl rfl <| l_q rfl (qld rfl yA30) ?_
                                                  refine l_on rfl rfl <| lc1 rfl rfl rfl (Live_ok pa s3) ?_
                                                  refine l_on rfl rfl <| mv rfl rfl <| l_on rfl rfl <| l_q rfl (qi rfl rfl (b_neq ·)) <| l_q rfl (q_pk rfl rfl) <| lc <| t_if rfl (fun x4 => ?_) fun x4 => ?_
                                                  · omega
                                                  · refine t_skip <| n_code <| t_seq <| sr <| l_q rfl (qlda rfl yA47 yS47) ?_
                                                    refine l_q rfl (qfa 1 rfl yU26 rfl rfl yS3) <| l_q rfl (qld rfl yA3) ?_
                                                    refine l_q rfl (qfa 1 rfl yU26 rfl rfl yS3) <| l_q rfl (qld rfl yA3) ?_
                                                    refine l_q rfl (qquo rfl rfl) ?_
                                                    refine l_q rfl (qmul rfl rfl) ?_
                                                    refine l_q rfl (qfa 7 rfl yU47 rfl rfl yS3) <| l_q rfl (qld rfl yA3) ?_
                                                    apply l_q rfl
                                                    · apply q_buildS rfl yP47 yZ47
                                                      · apply FillR.one
                                                        · repeat (first | exact PlAt.here | apply PlAt.there)
                                                        · rfl
                                                        · exact sa
                                                        apply FillR.one
                                                        · repeat (first | exact PlAt.here | apply PlAt.there)
                                                        · rfl
                                                        · exact sa
                                                        apply FillR.one
                                                        · repeat (first | exact PlAt.here | apply PlAt.there)
                                                        · rfl
                                                        · exact sa
                                                        apply FillR.one
                                                        · repeat (first | exact PlAt.here | apply PlAt.there)
                                                        · rfl
                                                        · exact sa
                                                        exact FillR.nil
                                                    refine l_q rfl (q_bin rfl rfl (g_flat · yG47) fun w => b_neqFlat w yU47 yH47 (by kernel_rfl) (by kernel_rfl)) ?_
                                                    refine lc <| t_if rfl (fun x5 => ?_) fun x5 => ?_
                                                    · exfalso
                                                      apply of_decE x5
                                                      have e7 : 8 * (n : Int) / 8 * 7 = 7 * (n : Int) := by omega
                                                      rw [e7]
                                                      rfl
                                                    · skip
                                                      refine t_skip <| n_code <| t_seq <| sr <| asg rfl rfl <| lc <| t_block ?_
                                                      refine t_loop (fun i : Nat => i ≤ 8 * n) (fun i => [(1, .pointer (some ⟨b1, 0, none⟩)), (29, .pointer (some ⟨b29, 0, none⟩)), (33, .int .i64 (i : Nat))]) (fun _ => pt b29 (.cells #[.pointer (some ⟨pa, 0, none⟩), .int .i64 (lay5 xs).key, .int .i64 (lay5 xs).elem, .int .i64 (lay5 xs).ka, .int .i64 (lay5 xs).ea, .int .i64 (lay5 xs).cap, .int .i64 (lay5 xs).eo, .int .i64 (lay5 xs).bo, .int .i64 (lay5 xs).slot, .int .i64 (lay5 xs).group, .int .i64 ((off : Nat) : Int)] 34 (0, 0)) :: pt b1 (.cells #[vf, .int .i64 (8 * (n : Int)), vh, .slice ta ts.length tcap] 26 (0, 0)) :: G :: arenaH pa s3 :: Fr) (fun i => 8 * n - i) 0 (Nat.zero_le _) ⟨rfl, rfl, rfl, trivial⟩ (by (exact en)) ?_
                                                      intro i hi
                                                      refine t_seq <| sr <| mv rfl rfl <| l_q rfl (qfa 1 rfl yU26 rfl rfl yS3) <| l_q rfl (qld rfl yA3) ?_
                                                      refine l_q rfl (qi rfl rfl (b_lss ·)) <| lc <| t_if rfl (fun y1 => ?_) fun y1 => ?_
                                                      · skip
                                                        refine t_skip <| n_code <| t_seq <| t_block <| sr <| l_q rfl (qlda rfl yA34 yS34) ?_
                                                        refine mv rfl rfl <| lc1 rfl rfl rfl (Cell_okP pa off g3 n e s3 (lay5 xs) _ hP3 i (by omega)) ?_
                                                        refine mv rfl rfl <| l_q rfl (q_extractL rfl ga) ?_
                                                        refine l_q rfl (q_extractL rfl ga) ?_
                                                        refine o_allocA rfl yZ54 fun b34 => sta rfl rfl rfl yS54 rfl rfl ?_
                                                        refine asg rfl rfl <| lz <| mv rfl rfl <| lc1 rfl rfl rfl (num08_ok _) ?_
                                                        refine l_q rfl (qi rfl rfl (b_neq ·)) <| mv rfl rfl <| l_pt (t := 336) rfl (fun y2 => ?_) fun y2 => ?_
                                                        · exact absurd rfl y2
                                                        · refine l_on rfl rfl <| l_q rfl (qlda rfl yA54 yS54) ?_
                                                          refine l_on rfl rfl ?_
                                                          apply l_q rfl
                                                          · apply q_buildS rfl yP54 yZ54
                                                            · exact FillR.nil
                                                          refine l_on rfl rfl <| l_q rfl (q_bin rfl rfl (g_flat · yG54) fun w => b_neqFlat w yU54 yH54 (by kernel_rfl) (by kernel_rfl)) ?_
                                                          refine l_q rfl (q_pk rfl rfl) <| lc <| t_if rfl (fun y3 => ?_) fun y3 => ?_
                                                          · exact absurd rfl (of_decE y3)
                                                          · refine t_skip <| n_blk <| n_code <| t_region <| mv rfl rfl <| l_q rfl (qadd rfl rfl) ?_
                                                            refine asg rfl rfl <| l_nil ?_
                                                            apply n_again ((i + 1))
                                                            · exact by omega
                                                            · omega
                                                            · exact ⟨rfl, rfl, rfl, trivial⟩
                                                            · exact en
                                                      · exact xt rfl <| nz <| asg rfl rfl <| lc <| rt <| fr1 rfl ([G]) (.tmp rfl) ⟨rfl, rfl⟩
end Go.Proofs.YtgijnebgchkenaaGreatDoor.Bench
