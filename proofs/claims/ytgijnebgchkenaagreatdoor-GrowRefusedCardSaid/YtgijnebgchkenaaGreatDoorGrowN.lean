import Derived.Test.YtgijnebgchkenaaGreatDoorTableC
import Derived.Test.YtgijnebgchkenaaGreatDoorGrowP
/- Contracts of package grow: anew, Renew, Double. -/
set_option linter.unusedVariables false
set_option linter.unusedSimpArgs false
set_option maxRecDepth 100000
namespace Go.Proofs.YtgijnebgchkenaaGreatDoor.Grow
open Go.RowKit Go.Proofs Go.Proofs.YtgijnebgchkenaaGreatDoor.Eng Go.Proofs.YtgijnebgchkenaaGreatDoor.Ty Go.Proofs.YtgijnebgchkenaaGreatDoor.Bits Go.Proofs.YtgijnebgchkenaaGreatDoor.Mem Go.Proofs.YtgijnebgchkenaaGreatDoor.Search Go.Proofs.YtgijnebgchkenaaGreatDoor.Arena Go.Proofs.YtgijnebgchkenaaGreatDoor.CtrlB Go.Proofs.YtgijnebgchkenaaGreatDoor.Ctrl Go.Proofs.YtgijnebgchkenaaGreatDoor.Layout Go.Proofs.YtgijnebgchkenaaGreatDoor.GroupB Go.Proofs.YtgijnebgchkenaaGreatDoor.Group Go.Proofs.YtgijnebgchkenaaGreatDoor.Probe Go.Proofs.YtgijnebgchkenaaGreatDoor.TableB Go.Proofs.YtgijnebgchkenaaGreatDoor.TableI Go.Proofs.YtgijnebgchkenaaGreatDoor.Table Go.Proofs.YtgijnebgchkenaaGreatDoor.Bench Go.Proofs.YtgijnebgchkenaaGreatDoor.Cells Go.Proofs.YtgijnebgchkenaaGreatDoor.Refill Go.Proofs.YtgijnebgchkenaaGreatDoor.Oracle Go.Proofs.YtgijnebgchkenaaGreatDoor.Ref03

/-- The blocks of a new table lie apart from the live ones. -/
theorem new_sep {s : ArS} (hs : s.ok) {c : Int} (hc : 1 ≤ c) (hfit : s.live + 64 ≤ s.limit) {o k : Int} (hg : goodP s o k) : (o + k ≤ ((s.at 64 : Nat) : Int) ∨ ((s.at 64 : Nat) : Int) + 64 ≤ o) ∧ (o + k ≤ (((s.take 64).at c : Nat) : Int) ∨ (((s.take 64).at c : Nat) : Int) + c ≤ o) := by
  obtain ⟨_, p, hp, q1, q2⟩ := hg
  have ok64 := ArS.take_ok hs c64 hfit
  have a1 := take_apart hs hp (c := 64) (by decide)
  have a2 := take_apart ok64 ((take_bl hs).2 (.inl hp)) (c := c) hc
  omega
/-- What a fill leaves of the arena. -/
theorem NewS.fill {s s1 s2 : ArS} {c : Int} (hs : s.ok) (hc : 1 ≤ c) (hfit : s.live + 64 ≤ s.limit) (h : NewS s s1 c) {k : Nat} (hk : (k : Int) ≤ c) (hS : SameBut s1 s2 (s.at 64) ((s.take 64).at c) k) : NewS s s2 c :=
  ⟨hS.limit.trans h.limit, by rw [← h.live]; exact hS.live, hS.all.trans h.all, hS.dead.trans h.dead, fun p => by rw [hS.bl]; exact h.bl p, fun p hp a h1 h2 => by
    have hpos := (ArS.chain_pos hs.chain p (mem_bl.1 hp).1).2
    obtain ⟨a1, a2⟩ := new_sep hs hc hfit (o := p.1) (k := p.2) ⟨by omega, p, hp, Int.le_refl _, Int.le_refl _⟩
    exact (hS.m a (by omega) (by omega)).trans (h.m p hp a h1 h2)⟩
theorem lt_full {n : Nat} {H : ByteArray → Int} {T : Tb} (h : LT n H T) : cnt isFull T.cells (8 * n) ≤ 7 * n := by
  have h1 := h.cnt.left
  have h2 := h.cnt.room
  omega
/-- What Renew and Double answer: there is no room, or a table of N groups that holds the same. -/
def Anew (pa off go po bm n e N E : Nat) (s : ArS) (l : Lay) (T : Tb) (m : List (ByteArray × Value)) (sd : Int) (G : HP) (v : Value) (L : List HP) : Prop :=
  ((1048576 < ((N * gN l : Nat) : Int) ∨ s.limit - s.live < 64 + classI ((N * gN l : Nat) : Int)) ∧ v = .tuple #[.agg #[.pointer none, .int .i64 0, .int .i64 0, .int .i64 0, .int .i64 0, .int .i64 0, .int .i64 0, .int .i64 0, .int .i64 0, .int .i64 0, .int .i64 0], .int .i64 22] ∧ L = [pt po (.cells #[.map (some bm)] 191 (0, 0)), mapH (fun k : ByteArray => Value.string k) bm m, G, arenaH pa s]) ∨
  (((N * gN l : Nat) : Int) ≤ 1048576 ∧ s.live + (64 + classI ((N * gN l : Nat) : Int)) ≤ s.limit ∧ ∃ s' U lives, v = .tuple #[.agg #[.pointer (some ⟨pa, 0, none⟩), .int .i64 l.key, .int .i64 l.elem, .int .i64 l.ka, .int .i64 l.ea, .int .i64 l.cap, .int .i64 l.eo, .int .i64 l.bo, .int .i64 l.slot, .int .i64 l.group, .int .i64 ((s.at 64 : Nat) : Int)], .int .i64 0] ∧ L = [pt po (.cells #[.map (some bm)] 191 (0, 0)), mapH (fun k : ByteArray => Value.string k) bm m, G, arenaH pa s'] ∧ TabP s' (s.at 64) ((s.take 64).at (classI ((N * gN l : Nat) : Int))) l N E U ∧ RF (hashF m sd) T.cells (8 * n) N U lives (cnt isFull T.cells (8 * n)) ∧ NewS s s' (classI ((N * gN l : Nat) : Int)) ∧ Keeps (newT N T.depth) U ∧ TabP s' off go l n e T)
theorem anew_ok (G : HP) (hGT : TabOk G) (hGO : OddOk G) (pa off go po bm n e N E t : Nat) (s : ArS) (l : Lay) (T : Tb) (m : List (ByteArray × Value)) (hm : OverOk m) (sd : Int) (hsd : 0 ≤ sd ∧ sd < 18446744073709551616) (hP : TabP s off go l n e T) (hT : LT n (hashF m sd) T) (ht : t = 1 ∨ t = 2) (hN : N = t * n) (hN8 : N = 2 ^ E) (hE : E ≤ 13) (hdep : 0 ≤ T.depth ∧ T.depth ≤ 6) :
    FnOk Tryz.prog 85 #[.agg #[.pointer (some ⟨pa, 0, none⟩), .int .i64 l.key, .int .i64 l.elem, .int .i64 l.ka, .int .i64 l.ea, .int .i64 l.cap, .int .i64 l.eo, .int .i64 l.bo, .int .i64 l.slot, .int .i64 l.group, .int .i64 (off : Nat)], .pointer (some ⟨po, 0, none⟩), .int .u64 sd, .int .i64 (t : Nat)] [pt po (.cells #[.map (some bm)] 191 (0, 0)), mapH (fun k : ByteArray => Value.string k) bm m, G, arenaH pa s] (Anew pa off go po bm n e N E s l T m sd G) := by
  have hn8 := hP.n0
  have hLy := layN hP.hl
  have hslots : IntKind.i64.wrap (((t : Nat) : Int) * (8 * (n : Int))) = 8 * (N : Int) := by rw [wrap_i64 (by rcases ht with rfl | rfl <;> omega)]; rcases ht with rfl | rfl <;> omega
  have hfull := lt_full hT
  have ho := hT.once
  have hkk := hLy.k
  have hbd := Lay.bnd hP.hl
  have hN0 : 0 < N := by rcases ht with rfl | rfl <;> omega
  have hNn : n ≤ N ∧ N ≤ 16384 := by rcases ht with rfl | rfl <;> omega
  refine fn_intro en85 Tryz.func85 rfl rfl rfl fun Fr w0 => t_nm ?_
  refine t_pure (φ := s.ok) (fun w hw => arena_ok hw (.there (.there (.there .here)))) fun hok0 => ?_
  refine sr <| o_boxA rfl rfl fun b4 => o_box1 rfl rfl rfl fun b5 => o_box1 rfl rfl rfl fun b6 => o_allocA rfl yZ34 fun b8 => asg rfl rfl <| lz <| l_q rfl (qlda rfl yA34 yS34) ?_
  refine lc1 rfl rfl rfl (StatP_ok pa off go n e s l T hP) ?_
  refine mv rfl rfl <| l_q rfl (q_extractL rfl ga) ?_
  refine l_q rfl (q_extractL rfl ga) ?_
  refine o_allocA rfl yZ47 fun b10 => sta rfl rfl rfl yS47 rfl rfl ?_
  refine asg rfl rfl <| lc <| t_seq <| sr <| mv rfl rfl <| l_q rfl (qi rfl rfl (b_neq ·)) <| lc <| t_if rfl (fun z => ?_) fun z => ?_
  · exact absurd rfl z
  · refine t_skip <| n_code <| t_seq <| t_draw mixed ?_
    apply dq 0 rfl
    · exact yq (qlda rfl yA34 yS34)
    apply dq 2 rfl
    · exact yq (qlda rfl yA34 yS34)
    apply dq 4 rfl
    · exact yq (q_move rfl)
    apply dq 5 rfl
    · exact yq (qfa 1 rfl yU47 rfl rfl yS3)
    apply dq 6 rfl
    · exact yq (qld rfl yA3)
    apply dq 7 rfl
    · exact yq (qmul rfl rfl)
    apply dq 8 rfl
    · exact yq (qfa 3 rfl yU47 rfl rfl yS3)
    apply dq 9 rfl
    · exact yq (qld rfl yA3)
    apply d_eff2 1 14
    · kernel_rfl
    · apply effAt (q1 := [0]) (q2 := [9, 8, 7, 6, 5, 4, 2]) [(25, _)]
      · exact gO
      · exact ⟨rfl, trivial⟩
      · kernel_rfl
      intro Ex
      refine lc1 rfl rfl rfl (TArena_ok pa l (off : Nat)) ?_
      refine l_nil ?_
      apply n_d
      · refine ⟨?_, ?_, ?_, ?_, ?_, ?_, ?_, trivial⟩
        · apply ya rfl rfl; exact yq (qld rfl yA3)
        · apply ya rfl rfl; exact yq (qfa 3 rfl yU47 rfl rfl yS3)
        · apply ya rfl rfl; exact yq (qmul rfl rfl)
        · apply ya rfl rfl; exact yq (qld rfl yA3)
        · apply ya rfl rfl; exact yq (qfa 1 rfl yU47 rfl rfl yS3)
        · apply ya rfl rfl; exact yq (q_move rfl)
        · apply ya rfl rfl; exact yq (qlda rfl yA34 yS34)
      apply d_eff2 3 14
      · kernel_rfl
      · apply effAt (q1 := [2]) (q2 := [9, 8, 7, 6, 5, 4]) [(27, _)]
        · exact gO
        · exact ⟨rfl, trivial⟩
        · kernel_rfl
        intro Ex
        refine lc1 rfl rfl rfl (TLayout_ok pa l (off : Nat)) ?_
        refine l_nil ?_
        apply n_d
        · refine ⟨?_, ?_, ?_, ?_, ?_, ?_, trivial⟩
          · apply ya rfl rfl; exact yq (qld rfl yA3)
          · apply ya rfl rfl; exact yq (qfa 3 rfl yU47 rfl rfl yS3)
          · apply ya rfl rfl; exact yq (qmul rfl rfl)
          · apply ya rfl rfl; exact yq (qld rfl yA3)
          · apply ya rfl rfl; exact yq (qfa 1 rfl yU47 rfl rfl yS3)
          · apply ya rfl rfl; exact yq (q_move rfl)
        apply d_eff2 10 14
        · kernel_rfl
        · apply effAt (q1 := [7, 9, 4, 6, 8, 5]) (q2 := []) [(26, _), (28, _), (32, _), (34, _)]
          · exact gO
          · exact ⟨rfl, rfl, rfl, rfl, trivial⟩
          · kernel_rfl
          intro Ex
          refine lcf rfl rfl rfl (Table.New_ok pa N E s l _ T.depth hP.hl hE hN8 hslots hdep) ?_
          rintro v L' (⟨hb, rfl, rfl⟩ | ⟨hsm, hfit, s1, rfl, rfl, hT1, hNs⟩)
          refine l_nm ?_
          · skip
            refine l_nm ?_
            refine l_nil ?_
            apply n_d
            · exact trivial
            apply dq 11 rfl
            · exact yq (q_move rfl)
            apply dq 12 rfl
            · exact yq (q_extractL rfl ga)
            apply dq 13 rfl
            · exact yq (q_extractL rfl ga)
            refine d_eff1 [] [13, 12, 11] 14 [] gO trivial (by kernel_rfl) (by kernel_rfl) fun Ex => ?_
            refine o_allocA rfl yZ34 fun b12 => l_nil ?_
            apply n_d
            · refine ⟨?_, ?_, ?_, trivial⟩
              · apply ya rfl rfl; exact yq (q_extractL rfl ga)
              · apply ya rfl rfl; exact yq (q_extractL rfl ga)
              · apply ya rfl rfl; exact yq (q_move rfl)
            refine d_eff1 [12, 11] [13] 15 [(12, _), (36, _)] gO ⟨rfl, rfl, trivial⟩ (by kernel_rfl) (by kernel_rfl) fun Ex => ?_
            refine sta rfl rfl rfl yS34 rfl rfl ?_
            refine l_nil ?_
            apply n_d
            · refine ⟨?_, trivial⟩
              · apply ya rfl rfl; exact yq (q_extractL rfl ga)
            refine d_eff1 [13] [] 16 [(37, _)] gO ⟨rfl, trivial⟩ (by kernel_rfl) (by kernel_rfl) fun Ex => ?_
            refine asg rfl rfl <| l_nil ?_
            apply n_d
            · exact trivial
            refine d_end (by kernel_rfl) ?_
            refine n_code <| t_seq <| sr <| mv rfl rfl <| l_q rfl (qi rfl rfl (b_neq ·)) <| lc <| t_if rfl (fun y => ?_) fun y => ?_
            · refine sr ?_
              apply l_q rfl
              · apply q_buildS rfl yP34 yZ34
                · exact FillR.nil
              refine mv rfl rfl <| sta rfl rfl rfl yS34 rfl rfl ?_
              refine asg rfl rfl <| lc <| rt ?_
              apply f_ret (.inl rfl) ([pt po (.cells #[.map (some bm)] 191 (0, 0)), mapH (fun k : ByteArray => Value.string k) bm m, G, arenaH pa s])
              · apply res2 rfl
                · apply Rv.agg rfl
                  · exact tk
                  · exact run_loadAll yA34 yS34 rfl
                · exact .tmp rfl
              · exact .inl ⟨hb, rfl, rfl⟩
              · exact en
            · omega
          · skip
            refine l_nm ?_
            refine l_nil ?_
            apply n_d
            · exact trivial
            apply dq 11 rfl
            · exact yq (q_move rfl)
            apply dq 12 rfl
            · exact yq (q_extractL rfl ga)
            apply dq 13 rfl
            · exact yq (q_extractL rfl ga)
            refine d_eff1 [] [13, 12, 11] 14 [] gO trivial (by kernel_rfl) (by kernel_rfl) fun Ex => ?_
            refine o_allocA rfl yZ34 fun b12 => l_nil ?_
            apply n_d
            · refine ⟨?_, ?_, ?_, trivial⟩
              · apply ya rfl rfl; exact yq (q_extractL rfl ga)
              · apply ya rfl rfl; exact yq (q_extractL rfl ga)
              · apply ya rfl rfl; exact yq (q_move rfl)
            refine d_eff1 [12, 11] [13] 15 [(12, _), (36, _)] gO ⟨rfl, rfl, trivial⟩ (by kernel_rfl) (by kernel_rfl) fun Ex => ?_
            refine sta rfl rfl rfl yS34 rfl rfl ?_
            refine l_nil ?_
            apply n_d
            · refine ⟨?_, trivial⟩
              · apply ya rfl rfl; exact yq (q_extractL rfl ga)
            refine d_eff1 [13] [] 16 [(37, _)] gO ⟨rfl, trivial⟩ (by kernel_rfl) (by kernel_rfl) fun Ex => ?_
            refine asg rfl rfl <| l_nil ?_
            apply n_d
            · exact trivial
            refine d_end (by kernel_rfl) ?_
            refine n_code <| t_seq <| sr <| mv rfl rfl <| l_q rfl (qi rfl rfl (b_neq ·)) <| lc <| t_if rfl (fun y => ?_) fun y => ?_
            · exact absurd rfl y
            · refine t_skip <| n_code <| t_seq <| sr <| l_q rfl (qlda rfl yA34 yS34) ?_
              have hcb2 := (classI_bnd (n := ((N * gN l : Nat) : Int)) (by have := hLy.g_eq; have := Nat.mul_le_mul_right (gN l) hN0; omega)).2.2 hsm
              refine lcf rfl rfl rfl (TCells_ok pa off l) ?_
              rintro v L' ⟨bc, rfl, rfl⟩
              refine l_nm ?_
              refine lc <| t_block ?_
              apply t_rangeH (p := (fun k (x : ArS × Tb × List Life) => TabP x.1 (s.at 64) ((s.take 64).at (classI ((N * gN l : Nat) : Int))) l N E x.2.1 ∧ RF (hashF m sd) T.cells (8 * n) N x.2.1 x.2.2 k ∧ SameBut s1 x.1 (s.at 64) ((s.take 64).at (classI ((N * gN l : Nat) : Int))) (N * gN l) ∧ Keeps (newT N T.depth) x.2.1)) (J := (fun _ x => [pt b5 (.cells #[.pointer (some ⟨po, 0, none⟩)] 74 (0, 0)), pt b6 (.cells #[.int .u64 sd] 52 (0, 0)), pt b8 (.cells #[.pointer none, .int .i64 0, .int .i64 0, .int .i64 0, .int .i64 0, .int .i64 0, .int .i64 0, .int .i64 0, .int .i64 0, .int .i64 0, .int .i64 0] 34 (0, 0)), pt b12 (.cells #[.pointer (some ⟨pa, 0, none⟩), .int .i64 l.key, .int .i64 l.elem, .int .i64 l.ka, .int .i64 l.ea, .int .i64 l.cap, .int .i64 l.eo, .int .i64 l.bo, .int .i64 l.slot, .int .i64 l.group, .int .i64 ((s.at 64 : Nat) : Int)] 34 (0, 0)), pt po (.cells #[.map (some bm)] 191 (0, 0)), mapH (fun k : ByteArray => Value.string k) bm m, G, arenaH pa x.1])) (q := (fun _ (y : Code × Unit) => False)) (Jx := (fun _ _ => [])) (x0 := (s1, newT N T.depth, [])) (hc := TCells_it pa off go n e bc s1 l T (TabP.newS hP hok0 hNs)) (hr := rfl) (hg := rfl)
              · exact pk
              · exact ⟨hT1, RF.new hN0 _, SameBut.refl _ _ _ _, Keeps.refl _⟩
              · (try dsimp only); (try simp only [Int.natCast_zero, Nat.sub_zero]); exact pk
              · (try dsimp only); (try simp only [Int.natCast_zero, Nat.sub_zero]); exact pk
              · rfl
              · exact cellsV_two
              · rintro l' rc Fr' w1 k x ⟨s2, U, lives⟩ hrd hpn hx ⟨hT2, hR2, hS2, hK2⟩
                have hkl := (List.getElem?_eq_some_iff.1 hx).1
                rw [cellsV_len] at hkl
                obtain ⟨i1, hi8, hfi, hck, rfl⟩ := cellsV_at hx
                dsimp only at hT2 hR2 hS2 hK2 ⊢
                obtain ⟨hu1, hu2, _, _⟩ := hR2.counts
                have hok1 := hP.hT.okc i1 hi8
                obtain ⟨t1, hc1⟩ := full_of hfi
                rw [hc1] at hok1
                obtain ⟨_, _, hks, hes, hb0, hb1⟩ := hok1
                have hhb := hashF_bnd hm sd (T.cells i1).keyS
                have hpr := putR (T := U) (h := hashF m sd (T.cells i1).keyS) (key := (T.cells i1).keyS) hN0 (fun g hg => gk_onto hN8 hg) (T.cells i1).elemS (T.cells i1).birthI
                obtain ⟨hout, v1, hR3⟩ := hR2.put ho hi8 hfi hck (by omega) hpr
                refine t_nm ?_
                refine t_region <| o_allocA rfl yZ54 fun b14 => sta rfl rfl rfl yS54 rfl rfl ?_
                refine l_nil ?_
                apply n_begin
                · exact tk
                · assumption
                refine t_block <| t_draw mixed ?_
                apply dq 0 rfl
                · exact yq (qlda rfl yA34 yS34)
                apply dq 1 rfl
                · exact yq (qld rfl yA74)
                apply dq 2 rfl
                · exact yq (qld rfl yA52)
                apply dq 3 rfl
                · exact yq (qfa 2 rfl yU54 rfl rfl yS9)
                apply dq 4 rfl
                · exact yq (qld rfl yA9)
                apply dq 6 rfl
                · exact yq (qfa 2 rfl yU54 rfl rfl yS9)
                apply dq 7 rfl
                · exact yq (qld rfl yA9)
                apply dq 8 rfl
                · exact yq (qfa 3 rfl yU54 rfl rfl yS9)
                apply dq 9 rfl
                · exact yq (qld rfl yA9)
                apply dq 10 rfl
                · exact yq (qfa 4 rfl yU54 rfl rfl yS3)
                apply dq 11 rfl
                · exact yq (qld rfl yA3)
                refine d_eff1 [1, 2, 4, 3] [11, 10, 9, 8, 7, 6, 0] 5 [(47, _), (48, _), (50, _)] gO ⟨rfl, rfl, rfl, trivial⟩ (by kernel_rfl) (by kernel_rfl) fun Ex => ?_
                refine lc1 rfl rfl rfl (Hash_ok G hGO po bm m hm sd hsd (T.cells i1).keyS (by omega)) ?_
                refine l_nil ?_
                apply n_d
                · refine ⟨?_, ?_, ?_, ?_, ?_, ?_, ?_, trivial⟩
                  · apply ya rfl rfl; exact yq (qld rfl yA3)
                  · apply ya rfl rfl; exact yq (qfa 4 rfl yU54 rfl rfl yS3)
                  · apply ya rfl rfl; exact yq (qld rfl yA9)
                  · apply ya rfl rfl; exact yq (qfa 3 rfl yU54 rfl rfl yS9)
                  · apply ya rfl rfl; exact yq (qld rfl yA9)
                  · apply ya rfl rfl; exact yq (qfa 2 rfl yU54 rfl rfl yS9)
                  · apply ya rfl rfl; exact yq (qlda rfl yA34 yS34)
                refine d_eff1 [0, 7, 9, 11, 6, 8, 10] [] 12 [(46, _), (51, _), (53, _), (55, _), (57, _)] gO ⟨rfl, rfl, rfl, rfl, rfl, trivial⟩ (by kernel_rfl) (by kernel_rfl) fun Ex => ?_
                refine lcf rfl rfl rfl (Put_ok G hGT pa (s.at 64) ((s.take 64).at (classI ((N * gN l : Nat) : Int))) N E s2 l U hT2 _ hhb (T.cells i1).keyS (T.cells i1).elemS hks hes (T.cells i1).birthI ⟨hb0, hb1⟩ (by omega) (by omega)) ?_
                rintro v L' ⟨s3, rfl, rfl, hT3, hS3⟩
                refine l_nm ?_
                refine l_nil ?_
                apply n_d
                · exact trivial
                refine d_end (by kernel_rfl) ?_
                refine n_blk ?_
                apply r_next (by assumption) (by assumption) ((s3, (putT N U (hashF m sd (T.cells i1).keyS) (T.cells i1).keyS (T.cells i1).elemS (T.cells i1).birthI).2, lives ++ [v1])) (⟨hT3, hR3, hS2.trans hS3, hK2.trans (keeps_put hpr)⟩)
                exact en
              · rintro b1' ⟨s2, U, lives⟩ ⟨hT2, hR2, hS2, hK2⟩
                rw [cellsV_len] at hR2
                dsimp only at hT2 hR2 hS2 hK2 ⊢
                refine n_nm ?_
                refine n_blk <| nz <| l_q rfl (qlda rfl yA34 yS34) ?_
                refine sta rfl rfl rfl yS34 rfl rfl ?_
                refine asg rfl rfl <| lc <| rt ?_
                apply f_retm (.inl rfl) [b1'] ([pt po (.cells #[.map (some bm)] 191 (0, 0)), mapH (fun k : ByteArray => Value.string k) bm m, G, arenaH pa s2])
                · repeat (first | with_reducible exact TakeM.nil | apply TakeM.cons | with_reducible exact Take.here | apply Take.there)
                · apply res2 rfl
                  · apply Rv.agg rfl
                    · exact tk
                    · exact run_loadAll yA34 yS34 rfl
                  · exact .tmp rfl
                · exact .inr ⟨hsm, hfit, s2, U, lives, rfl, rfl, hT2, hR2, NewS.fill hok0 hcb2.2 (by omega) hNs hcb2.1 hS2, hK2, TabP.newS hP hok0 (NewS.fill hok0 hcb2.2 (by omega) hNs hcb2.1 hS2)⟩
                · exact en
              · rintro b1' k ⟨jc, y⟩ hk hq
                exact hq.elim
        · apply effAt (q1 := []) (q2 := [9, 8, 7, 6, 5, 4]) []
          · exact gO
          · exact trivial
          · kernel_rfl
          intro Ex
          refine o_allocA rfl yZ34 fun b12 => l_nil ?_
          apply n_d
          · refine ⟨?_, ?_, ?_, ?_, ?_, ?_, trivial⟩
            · apply ya rfl rfl; exact yq (qld rfl yA3)
            · apply ya rfl rfl; exact yq (qfa 3 rfl yU47 rfl rfl yS3)
            · apply ya rfl rfl; exact yq (qmul rfl rfl)
            · apply ya rfl rfl; exact yq (qld rfl yA3)
            · apply ya rfl rfl; exact yq (qfa 1 rfl yU47 rfl rfl yS3)
            · apply ya rfl rfl; exact yq (q_move rfl)
          refine d_eff1 [7, 9, 4, 6, 8, 5] [] 10 [(26, _), (28, _), (32, _), (34, _)] gO ⟨rfl, rfl, rfl, rfl, trivial⟩ (by kernel_rfl) (by kernel_rfl) fun Ex => ?_
          refine lcf rfl rfl rfl (Table.New_ok pa N E s l _ T.depth hP.hl hE hN8 hslots hdep) ?_
          rintro v L' (⟨hb, rfl, rfl⟩ | ⟨hsm, hfit, s1, rfl, rfl, hT1, hNs⟩)
          refine l_nm ?_
          · skip
            refine l_nm ?_
            refine l_nil ?_
            apply n_d
            · exact trivial
            apply dq 11 rfl
            · exact yq (q_move rfl)
            apply dq 12 rfl
            · exact yq (q_extractL rfl ga)
            apply dq 13 rfl
            · exact yq (q_extractL rfl ga)
            refine d_eff1 [12, 11] [13] 15 [(12, _), (36, _)] gO ⟨rfl, rfl, trivial⟩ (by kernel_rfl) (by kernel_rfl) fun Ex => ?_
            refine sta rfl rfl rfl yS34 rfl rfl ?_
            refine l_nil ?_
            apply n_d
            · refine ⟨?_, trivial⟩
              · apply ya rfl rfl; exact yq (q_extractL rfl ga)
            refine d_eff1 [13] [] 16 [(37, _)] gO ⟨rfl, trivial⟩ (by kernel_rfl) (by kernel_rfl) fun Ex => ?_
            refine asg rfl rfl <| l_nil ?_
            apply n_d
            · exact trivial
            refine d_end (by kernel_rfl) ?_
            refine n_code <| t_seq <| sr <| mv rfl rfl <| l_q rfl (qi rfl rfl (b_neq ·)) <| lc <| t_if rfl (fun y => ?_) fun y => ?_
            · refine sr ?_
              apply l_q rfl
              · apply q_buildS rfl yP34 yZ34
                · exact FillR.nil
              refine mv rfl rfl <| sta rfl rfl rfl yS34 rfl rfl ?_
              refine asg rfl rfl <| lc <| rt ?_
              apply f_ret (.inl rfl) ([pt po (.cells #[.map (some bm)] 191 (0, 0)), mapH (fun k : ByteArray => Value.string k) bm m, G, arenaH pa s])
              · apply res2 rfl
                · apply Rv.agg rfl
                  · exact tk
                  · exact run_loadAll yA34 yS34 rfl
                · exact .tmp rfl
              · exact .inl ⟨hb, rfl, rfl⟩
              · exact en
            · omega
          · skip
            refine l_nm ?_
            refine l_nil ?_
            apply n_d
            · exact trivial
            apply dq 11 rfl
            · exact yq (q_move rfl)
            apply dq 12 rfl
            · exact yq (q_extractL rfl ga)
            apply dq 13 rfl
            · exact yq (q_extractL rfl ga)
            refine d_eff1 [12, 11] [13] 15 [(12, _), (36, _)] gO ⟨rfl, rfl, trivial⟩ (by kernel_rfl) (by kernel_rfl) fun Ex => ?_
            refine sta rfl rfl rfl yS34 rfl rfl ?_
            refine l_nil ?_
            apply n_d
            · refine ⟨?_, trivial⟩
              · apply ya rfl rfl; exact yq (q_extractL rfl ga)
            refine d_eff1 [13] [] 16 [(37, _)] gO ⟨rfl, trivial⟩ (by kernel_rfl) (by kernel_rfl) fun Ex => ?_
            refine asg rfl rfl <| l_nil ?_
            apply n_d
            · exact trivial
            refine d_end (by kernel_rfl) ?_
            refine n_code <| t_seq <| sr <| mv rfl rfl <| l_q rfl (qi rfl rfl (b_neq ·)) <| lc <| t_if rfl (fun y => ?_) fun y => ?_
            · exact absurd rfl y
            · refine t_skip <| n_code <| t_seq <| sr <| l_q rfl (qlda rfl yA34 yS34) ?_
              have hcb2 := (classI_bnd (n := ((N * gN l : Nat) : Int)) (by have := hLy.g_eq; have := Nat.mul_le_mul_right (gN l) hN0; omega)).2.2 hsm
              refine lcf rfl rfl rfl (TCells_ok pa off l) ?_
              rintro v L' ⟨bc, rfl, rfl⟩
              refine l_nm ?_
              refine lc <| t_block ?_
              apply t_rangeH (p := (fun k (x : ArS × Tb × List Life) => TabP x.1 (s.at 64) ((s.take 64).at (classI ((N * gN l : Nat) : Int))) l N E x.2.1 ∧ RF (hashF m sd) T.cells (8 * n) N x.2.1 x.2.2 k ∧ SameBut s1 x.1 (s.at 64) ((s.take 64).at (classI ((N * gN l : Nat) : Int))) (N * gN l) ∧ Keeps (newT N T.depth) x.2.1)) (J := (fun _ x => [pt b5 (.cells #[.pointer (some ⟨po, 0, none⟩)] 74 (0, 0)), pt b6 (.cells #[.int .u64 sd] 52 (0, 0)), pt b8 (.cells #[.pointer none, .int .i64 0, .int .i64 0, .int .i64 0, .int .i64 0, .int .i64 0, .int .i64 0, .int .i64 0, .int .i64 0, .int .i64 0, .int .i64 0] 34 (0, 0)), pt b12 (.cells #[.pointer (some ⟨pa, 0, none⟩), .int .i64 l.key, .int .i64 l.elem, .int .i64 l.ka, .int .i64 l.ea, .int .i64 l.cap, .int .i64 l.eo, .int .i64 l.bo, .int .i64 l.slot, .int .i64 l.group, .int .i64 ((s.at 64 : Nat) : Int)] 34 (0, 0)), pt po (.cells #[.map (some bm)] 191 (0, 0)), mapH (fun k : ByteArray => Value.string k) bm m, G, arenaH pa x.1])) (q := (fun _ (y : Code × Unit) => False)) (Jx := (fun _ _ => [])) (x0 := (s1, newT N T.depth, [])) (hc := TCells_it pa off go n e bc s1 l T (TabP.newS hP hok0 hNs)) (hr := rfl) (hg := rfl)
              · exact pk
              · exact ⟨hT1, RF.new hN0 _, SameBut.refl _ _ _ _, Keeps.refl _⟩
              · (try dsimp only); (try simp only [Int.natCast_zero, Nat.sub_zero]); exact pk
              · (try dsimp only); (try simp only [Int.natCast_zero, Nat.sub_zero]); exact pk
              · rfl
              · exact cellsV_two
              · rintro l' rc Fr' w1 k x ⟨s2, U, lives⟩ hrd hpn hx ⟨hT2, hR2, hS2, hK2⟩
                have hkl := (List.getElem?_eq_some_iff.1 hx).1
                rw [cellsV_len] at hkl
                obtain ⟨i1, hi8, hfi, hck, rfl⟩ := cellsV_at hx
                dsimp only at hT2 hR2 hS2 hK2 ⊢
                obtain ⟨hu1, hu2, _, _⟩ := hR2.counts
                have hok1 := hP.hT.okc i1 hi8
                obtain ⟨t1, hc1⟩ := full_of hfi
                rw [hc1] at hok1
                obtain ⟨_, _, hks, hes, hb0, hb1⟩ := hok1
                have hhb := hashF_bnd hm sd (T.cells i1).keyS
                have hpr := putR (T := U) (h := hashF m sd (T.cells i1).keyS) (key := (T.cells i1).keyS) hN0 (fun g hg => gk_onto hN8 hg) (T.cells i1).elemS (T.cells i1).birthI
                obtain ⟨hout, v1, hR3⟩ := hR2.put ho hi8 hfi hck (by omega) hpr
                refine t_nm ?_
                refine t_region <| o_allocA rfl yZ54 fun b14 => sta rfl rfl rfl yS54 rfl rfl ?_
                refine l_nil ?_
                apply n_begin
                · exact tk
                · assumption
                refine t_block <| t_draw mixed ?_
                apply dq 0 rfl
                · exact yq (qlda rfl yA34 yS34)
                apply dq 1 rfl
                · exact yq (qld rfl yA74)
                apply dq 2 rfl
                · exact yq (qld rfl yA52)
                apply dq 3 rfl
                · exact yq (qfa 2 rfl yU54 rfl rfl yS9)
                apply dq 4 rfl
                · exact yq (qld rfl yA9)
                apply dq 6 rfl
                · exact yq (qfa 2 rfl yU54 rfl rfl yS9)
                apply dq 7 rfl
                · exact yq (qld rfl yA9)
                apply dq 8 rfl
                · exact yq (qfa 3 rfl yU54 rfl rfl yS9)
                apply dq 9 rfl
                · exact yq (qld rfl yA9)
                apply dq 10 rfl
                · exact yq (qfa 4 rfl yU54 rfl rfl yS3)
                apply dq 11 rfl
                · exact yq (qld rfl yA3)
                refine d_eff1 [1, 2, 4, 3] [11, 10, 9, 8, 7, 6, 0] 5 [(47, _), (48, _), (50, _)] gO ⟨rfl, rfl, rfl, trivial⟩ (by kernel_rfl) (by kernel_rfl) fun Ex => ?_
                refine lc1 rfl rfl rfl (Hash_ok G hGO po bm m hm sd hsd (T.cells i1).keyS (by omega)) ?_
                refine l_nil ?_
                apply n_d
                · refine ⟨?_, ?_, ?_, ?_, ?_, ?_, ?_, trivial⟩
                  · apply ya rfl rfl; exact yq (qld rfl yA3)
                  · apply ya rfl rfl; exact yq (qfa 4 rfl yU54 rfl rfl yS3)
                  · apply ya rfl rfl; exact yq (qld rfl yA9)
                  · apply ya rfl rfl; exact yq (qfa 3 rfl yU54 rfl rfl yS9)
                  · apply ya rfl rfl; exact yq (qld rfl yA9)
                  · apply ya rfl rfl; exact yq (qfa 2 rfl yU54 rfl rfl yS9)
                  · apply ya rfl rfl; exact yq (qlda rfl yA34 yS34)
                refine d_eff1 [0, 7, 9, 11, 6, 8, 10] [] 12 [(46, _), (51, _), (53, _), (55, _), (57, _)] gO ⟨rfl, rfl, rfl, rfl, rfl, trivial⟩ (by kernel_rfl) (by kernel_rfl) fun Ex => ?_
                refine lcf rfl rfl rfl (Put_ok G hGT pa (s.at 64) ((s.take 64).at (classI ((N * gN l : Nat) : Int))) N E s2 l U hT2 _ hhb (T.cells i1).keyS (T.cells i1).elemS hks hes (T.cells i1).birthI ⟨hb0, hb1⟩ (by omega) (by omega)) ?_
                rintro v L' ⟨s3, rfl, rfl, hT3, hS3⟩
                refine l_nm ?_
                refine l_nil ?_
                apply n_d
                · exact trivial
                refine d_end (by kernel_rfl) ?_
                refine n_blk ?_
                apply r_next (by assumption) (by assumption) ((s3, (putT N U (hashF m sd (T.cells i1).keyS) (T.cells i1).keyS (T.cells i1).elemS (T.cells i1).birthI).2, lives ++ [v1])) (⟨hT3, hR3, hS2.trans hS3, hK2.trans (keeps_put hpr)⟩)
                exact en
              · rintro b1' ⟨s2, U, lives⟩ ⟨hT2, hR2, hS2, hK2⟩
                rw [cellsV_len] at hR2
                dsimp only at hT2 hR2 hS2 hK2 ⊢
                refine n_nm ?_
                refine n_blk <| nz <| l_q rfl (qlda rfl yA34 yS34) ?_
                refine sta rfl rfl rfl yS34 rfl rfl ?_
                refine asg rfl rfl <| lc <| rt ?_
                apply f_retm (.inl rfl) [b1'] ([pt po (.cells #[.map (some bm)] 191 (0, 0)), mapH (fun k : ByteArray => Value.string k) bm m, G, arenaH pa s2])
                · repeat (first | with_reducible exact TakeM.nil | apply TakeM.cons | with_reducible exact Take.here | apply Take.there)
                · apply res2 rfl
                  · apply Rv.agg rfl
                    · exact tk
                    · exact run_loadAll yA34 yS34 rfl
                  · exact .tmp rfl
                · exact .inr ⟨hsm, hfit, s2, U, lives, rfl, rfl, hT2, hR2, NewS.fill hok0 hcb2.2 (by omega) hNs hcb2.1 hS2, hK2, TabP.newS hP hok0 (NewS.fill hok0 hcb2.2 (by omega) hNs hcb2.1 hS2)⟩
                · exact en
              · rintro b1' k ⟨jc, y⟩ hk hq
                exact hq.elim
      · apply effAt (q1 := []) (q2 := [9, 8, 7, 6, 5, 4, 2]) []
        · exact gO
        · exact trivial
        · kernel_rfl
        intro Ex
        refine o_allocA rfl yZ34 fun b12 => l_nil ?_
        apply n_d
        · refine ⟨?_, ?_, ?_, ?_, ?_, ?_, ?_, trivial⟩
          · apply ya rfl rfl; exact yq (qld rfl yA3)
          · apply ya rfl rfl; exact yq (qfa 3 rfl yU47 rfl rfl yS3)
          · apply ya rfl rfl; exact yq (qmul rfl rfl)
          · apply ya rfl rfl; exact yq (qld rfl yA3)
          · apply ya rfl rfl; exact yq (qfa 1 rfl yU47 rfl rfl yS3)
          · apply ya rfl rfl; exact yq (q_move rfl)
          · apply ya rfl rfl; exact yq (qlda rfl yA34 yS34)
        refine d_eff1 [2] [9, 8, 7, 6, 5, 4] 3 [(27, _)] gO ⟨rfl, trivial⟩ (by kernel_rfl) (by kernel_rfl) fun Ex => ?_
        refine lc1 rfl rfl rfl (TLayout_ok pa l (off : Nat)) ?_
        refine l_nil ?_
        apply n_d
        · refine ⟨?_, ?_, ?_, ?_, ?_, ?_, trivial⟩
          · apply ya rfl rfl; exact yq (qld rfl yA3)
          · apply ya rfl rfl; exact yq (qfa 3 rfl yU47 rfl rfl yS3)
          · apply ya rfl rfl; exact yq (qmul rfl rfl)
          · apply ya rfl rfl; exact yq (qld rfl yA3)
          · apply ya rfl rfl; exact yq (qfa 1 rfl yU47 rfl rfl yS3)
          · apply ya rfl rfl; exact yq (q_move rfl)
        refine d_eff1 [7, 9, 4, 6, 8, 5] [] 10 [(26, _), (28, _), (32, _), (34, _)] gO ⟨rfl, rfl, rfl, rfl, trivial⟩ (by kernel_rfl) (by kernel_rfl) fun Ex => ?_
        refine lcf rfl rfl rfl (Table.New_ok pa N E s l _ T.depth hP.hl hE hN8 hslots hdep) ?_
        rintro v L' (⟨hb, rfl, rfl⟩ | ⟨hsm, hfit, s1, rfl, rfl, hT1, hNs⟩)
        refine l_nm ?_
        · skip
          refine l_nm ?_
          refine l_nil ?_
          apply n_d
          · exact trivial
          apply dq 11 rfl
          · exact yq (q_move rfl)
          apply dq 12 rfl
          · exact yq (q_extractL rfl ga)
          apply dq 13 rfl
          · exact yq (q_extractL rfl ga)
          refine d_eff1 [12, 11] [13] 15 [(12, _), (36, _)] gO ⟨rfl, rfl, trivial⟩ (by kernel_rfl) (by kernel_rfl) fun Ex => ?_
          refine sta rfl rfl rfl yS34 rfl rfl ?_
          refine l_nil ?_
          apply n_d
          · refine ⟨?_, trivial⟩
            · apply ya rfl rfl; exact yq (q_extractL rfl ga)
          refine d_eff1 [13] [] 16 [(37, _)] gO ⟨rfl, trivial⟩ (by kernel_rfl) (by kernel_rfl) fun Ex => ?_
          refine asg rfl rfl <| l_nil ?_
          apply n_d
          · exact trivial
          refine d_end (by kernel_rfl) ?_
          refine n_code <| t_seq <| sr <| mv rfl rfl <| l_q rfl (qi rfl rfl (b_neq ·)) <| lc <| t_if rfl (fun y => ?_) fun y => ?_
          · refine sr ?_
            apply l_q rfl
            · apply q_buildS rfl yP34 yZ34
              · exact FillR.nil
            refine mv rfl rfl <| sta rfl rfl rfl yS34 rfl rfl ?_
            refine asg rfl rfl <| lc <| rt ?_
            apply f_ret (.inl rfl) ([pt po (.cells #[.map (some bm)] 191 (0, 0)), mapH (fun k : ByteArray => Value.string k) bm m, G, arenaH pa s])
            · apply res2 rfl
              · apply Rv.agg rfl
                · exact tk
                · exact run_loadAll yA34 yS34 rfl
              · exact .tmp rfl
            · exact .inl ⟨hb, rfl, rfl⟩
            · exact en
          · omega
        · skip
          refine l_nm ?_
          refine l_nil ?_
          apply n_d
          · exact trivial
          apply dq 11 rfl
          · exact yq (q_move rfl)
          apply dq 12 rfl
          · exact yq (q_extractL rfl ga)
          apply dq 13 rfl
          · exact yq (q_extractL rfl ga)
          refine d_eff1 [12, 11] [13] 15 [(12, _), (36, _)] gO ⟨rfl, rfl, trivial⟩ (by kernel_rfl) (by kernel_rfl) fun Ex => ?_
          refine sta rfl rfl rfl yS34 rfl rfl ?_
          refine l_nil ?_
          apply n_d
          · refine ⟨?_, trivial⟩
            · apply ya rfl rfl; exact yq (q_extractL rfl ga)
          refine d_eff1 [13] [] 16 [(37, _)] gO ⟨rfl, trivial⟩ (by kernel_rfl) (by kernel_rfl) fun Ex => ?_
          refine asg rfl rfl <| l_nil ?_
          apply n_d
          · exact trivial
          refine d_end (by kernel_rfl) ?_
          refine n_code <| t_seq <| sr <| mv rfl rfl <| l_q rfl (qi rfl rfl (b_neq ·)) <| lc <| t_if rfl (fun y => ?_) fun y => ?_
          · exact absurd rfl y
          · refine t_skip <| n_code <| t_seq <| sr <| l_q rfl (qlda rfl yA34 yS34) ?_
            have hcb2 := (classI_bnd (n := ((N * gN l : Nat) : Int)) (by have := hLy.g_eq; have := Nat.mul_le_mul_right (gN l) hN0; omega)).2.2 hsm
            refine lcf rfl rfl rfl (TCells_ok pa off l) ?_
            rintro v L' ⟨bc, rfl, rfl⟩
            refine l_nm ?_
            refine lc <| t_block ?_
            apply t_rangeH (p := (fun k (x : ArS × Tb × List Life) => TabP x.1 (s.at 64) ((s.take 64).at (classI ((N * gN l : Nat) : Int))) l N E x.2.1 ∧ RF (hashF m sd) T.cells (8 * n) N x.2.1 x.2.2 k ∧ SameBut s1 x.1 (s.at 64) ((s.take 64).at (classI ((N * gN l : Nat) : Int))) (N * gN l) ∧ Keeps (newT N T.depth) x.2.1)) (J := (fun _ x => [pt b5 (.cells #[.pointer (some ⟨po, 0, none⟩)] 74 (0, 0)), pt b6 (.cells #[.int .u64 sd] 52 (0, 0)), pt b8 (.cells #[.pointer none, .int .i64 0, .int .i64 0, .int .i64 0, .int .i64 0, .int .i64 0, .int .i64 0, .int .i64 0, .int .i64 0, .int .i64 0, .int .i64 0] 34 (0, 0)), pt b12 (.cells #[.pointer (some ⟨pa, 0, none⟩), .int .i64 l.key, .int .i64 l.elem, .int .i64 l.ka, .int .i64 l.ea, .int .i64 l.cap, .int .i64 l.eo, .int .i64 l.bo, .int .i64 l.slot, .int .i64 l.group, .int .i64 ((s.at 64 : Nat) : Int)] 34 (0, 0)), pt po (.cells #[.map (some bm)] 191 (0, 0)), mapH (fun k : ByteArray => Value.string k) bm m, G, arenaH pa x.1])) (q := (fun _ (y : Code × Unit) => False)) (Jx := (fun _ _ => [])) (x0 := (s1, newT N T.depth, [])) (hc := TCells_it pa off go n e bc s1 l T (TabP.newS hP hok0 hNs)) (hr := rfl) (hg := rfl)
            · exact pk
            · exact ⟨hT1, RF.new hN0 _, SameBut.refl _ _ _ _, Keeps.refl _⟩
            · (try dsimp only); (try simp only [Int.natCast_zero, Nat.sub_zero]); exact pk
            · (try dsimp only); (try simp only [Int.natCast_zero, Nat.sub_zero]); exact pk
            · rfl
            · exact cellsV_two
            · rintro l' rc Fr' w1 k x ⟨s2, U, lives⟩ hrd hpn hx ⟨hT2, hR2, hS2, hK2⟩
              have hkl := (List.getElem?_eq_some_iff.1 hx).1
              rw [cellsV_len] at hkl
              obtain ⟨i1, hi8, hfi, hck, rfl⟩ := cellsV_at hx
              dsimp only at hT2 hR2 hS2 hK2 ⊢
              obtain ⟨hu1, hu2, _, _⟩ := hR2.counts
              have hok1 := hP.hT.okc i1 hi8
              obtain ⟨t1, hc1⟩ := full_of hfi
              rw [hc1] at hok1
              obtain ⟨_, _, hks, hes, hb0, hb1⟩ := hok1
              have hhb := hashF_bnd hm sd (T.cells i1).keyS
              have hpr := putR (T := U) (h := hashF m sd (T.cells i1).keyS) (key := (T.cells i1).keyS) hN0 (fun g hg => gk_onto hN8 hg) (T.cells i1).elemS (T.cells i1).birthI
              obtain ⟨hout, v1, hR3⟩ := hR2.put ho hi8 hfi hck (by omega) hpr
              refine t_nm ?_
              refine t_region <| o_allocA rfl yZ54 fun b14 => sta rfl rfl rfl yS54 rfl rfl ?_
              refine l_nil ?_
              apply n_begin
              · exact tk
              · assumption
              refine t_block <| t_draw mixed ?_
              apply dq 0 rfl
              · exact yq (qlda rfl yA34 yS34)
              apply dq 1 rfl
              · exact yq (qld rfl yA74)
              apply dq 2 rfl
              · exact yq (qld rfl yA52)
              apply dq 3 rfl
              · exact yq (qfa 2 rfl yU54 rfl rfl yS9)
              apply dq 4 rfl
              · exact yq (qld rfl yA9)
              apply dq 6 rfl
              · exact yq (qfa 2 rfl yU54 rfl rfl yS9)
              apply dq 7 rfl
              · exact yq (qld rfl yA9)
              apply dq 8 rfl
              · exact yq (qfa 3 rfl yU54 rfl rfl yS9)
              apply dq 9 rfl
              · exact yq (qld rfl yA9)
              apply dq 10 rfl
              · exact yq (qfa 4 rfl yU54 rfl rfl yS3)
              apply dq 11 rfl
              · exact yq (qld rfl yA3)
              refine d_eff1 [1, 2, 4, 3] [11, 10, 9, 8, 7, 6, 0] 5 [(47, _), (48, _), (50, _)] gO ⟨rfl, rfl, rfl, trivial⟩ (by kernel_rfl) (by kernel_rfl) fun Ex => ?_
              refine lc1 rfl rfl rfl (Hash_ok G hGO po bm m hm sd hsd (T.cells i1).keyS (by omega)) ?_
              refine l_nil ?_
              apply n_d
              · refine ⟨?_, ?_, ?_, ?_, ?_, ?_, ?_, trivial⟩
                · apply ya rfl rfl; exact yq (qld rfl yA3)
                · apply ya rfl rfl; exact yq (qfa 4 rfl yU54 rfl rfl yS3)
                · apply ya rfl rfl; exact yq (qld rfl yA9)
                · apply ya rfl rfl; exact yq (qfa 3 rfl yU54 rfl rfl yS9)
                · apply ya rfl rfl; exact yq (qld rfl yA9)
                · apply ya rfl rfl; exact yq (qfa 2 rfl yU54 rfl rfl yS9)
                · apply ya rfl rfl; exact yq (qlda rfl yA34 yS34)
              refine d_eff1 [0, 7, 9, 11, 6, 8, 10] [] 12 [(46, _), (51, _), (53, _), (55, _), (57, _)] gO ⟨rfl, rfl, rfl, rfl, rfl, trivial⟩ (by kernel_rfl) (by kernel_rfl) fun Ex => ?_
              refine lcf rfl rfl rfl (Put_ok G hGT pa (s.at 64) ((s.take 64).at (classI ((N * gN l : Nat) : Int))) N E s2 l U hT2 _ hhb (T.cells i1).keyS (T.cells i1).elemS hks hes (T.cells i1).birthI ⟨hb0, hb1⟩ (by omega) (by omega)) ?_
              rintro v L' ⟨s3, rfl, rfl, hT3, hS3⟩
              refine l_nm ?_
              refine l_nil ?_
              apply n_d
              · exact trivial
              refine d_end (by kernel_rfl) ?_
              refine n_blk ?_
              apply r_next (by assumption) (by assumption) ((s3, (putT N U (hashF m sd (T.cells i1).keyS) (T.cells i1).keyS (T.cells i1).elemS (T.cells i1).birthI).2, lives ++ [v1])) (⟨hT3, hR3, hS2.trans hS3, hK2.trans (keeps_put hpr)⟩)
              exact en
            · rintro b1' ⟨s2, U, lives⟩ ⟨hT2, hR2, hS2, hK2⟩
              rw [cellsV_len] at hR2
              dsimp only at hT2 hR2 hS2 hK2 ⊢
              refine n_nm ?_
              refine n_blk <| nz <| l_q rfl (qlda rfl yA34 yS34) ?_
              refine sta rfl rfl rfl yS34 rfl rfl ?_
              refine asg rfl rfl <| lc <| rt ?_
              apply f_retm (.inl rfl) [b1'] ([pt po (.cells #[.map (some bm)] 191 (0, 0)), mapH (fun k : ByteArray => Value.string k) bm m, G, arenaH pa s2])
              · repeat (first | with_reducible exact TakeM.nil | apply TakeM.cons | with_reducible exact Take.here | apply Take.there)
              · apply res2 rfl
                · apply Rv.agg rfl
                  · exact tk
                  · exact run_loadAll yA34 yS34 rfl
                · exact .tmp rfl
              · exact .inr ⟨hsm, hfit, s2, U, lives, rfl, rfl, hT2, hR2, NewS.fill hok0 hcb2.2 (by omega) hNs hcb2.1 hS2, hK2, TabP.newS hP hok0 (NewS.fill hok0 hcb2.2 (by omega) hNs hcb2.1 hS2)⟩
              · exact en
            · rintro b1' k ⟨jc, y⟩ hk hq
              exact hq.elim
    · apply effAt (q1 := []) (q2 := [9, 8, 7, 6, 5, 4, 2, 0]) []
      · exact gO
      · exact trivial
      · kernel_rfl
      intro Ex
      refine o_allocA rfl yZ34 fun b12 => l_nil ?_
      apply n_d
      · refine ⟨?_, ?_, ?_, ?_, ?_, ?_, ?_, ?_, trivial⟩
        · apply ya rfl rfl; exact yq (qld rfl yA3)
        · apply ya rfl rfl; exact yq (qfa 3 rfl yU47 rfl rfl yS3)
        · apply ya rfl rfl; exact yq (qmul rfl rfl)
        · apply ya rfl rfl; exact yq (qld rfl yA3)
        · apply ya rfl rfl; exact yq (qfa 1 rfl yU47 rfl rfl yS3)
        · apply ya rfl rfl; exact yq (q_move rfl)
        · apply ya rfl rfl; exact yq (qlda rfl yA34 yS34)
        · apply ya rfl rfl; exact yq (qlda rfl yA34 yS34)
      refine d_eff1 [0] [9, 8, 7, 6, 5, 4, 2] 1 [(25, _)] gO ⟨rfl, trivial⟩ (by kernel_rfl) (by kernel_rfl) fun Ex => ?_
      refine lc1 rfl rfl rfl (TArena_ok pa l (off : Nat)) ?_
      refine l_nil ?_
      apply n_d
      · refine ⟨?_, ?_, ?_, ?_, ?_, ?_, ?_, trivial⟩
        · apply ya rfl rfl; exact yq (qld rfl yA3)
        · apply ya rfl rfl; exact yq (qfa 3 rfl yU47 rfl rfl yS3)
        · apply ya rfl rfl; exact yq (qmul rfl rfl)
        · apply ya rfl rfl; exact yq (qld rfl yA3)
        · apply ya rfl rfl; exact yq (qfa 1 rfl yU47 rfl rfl yS3)
        · apply ya rfl rfl; exact yq (q_move rfl)
        · apply ya rfl rfl; exact yq (qlda rfl yA34 yS34)
      refine d_eff1 [2] [9, 8, 7, 6, 5, 4] 3 [(27, _)] gO ⟨rfl, trivial⟩ (by kernel_rfl) (by kernel_rfl) fun Ex => ?_
      refine lc1 rfl rfl rfl (TLayout_ok pa l (off : Nat)) ?_
      refine l_nil ?_
      apply n_d
      · refine ⟨?_, ?_, ?_, ?_, ?_, ?_, trivial⟩
        · apply ya rfl rfl; exact yq (qld rfl yA3)
        · apply ya rfl rfl; exact yq (qfa 3 rfl yU47 rfl rfl yS3)
        · apply ya rfl rfl; exact yq (qmul rfl rfl)
        · apply ya rfl rfl; exact yq (qld rfl yA3)
        · apply ya rfl rfl; exact yq (qfa 1 rfl yU47 rfl rfl yS3)
        · apply ya rfl rfl; exact yq (q_move rfl)
      refine d_eff1 [7, 9, 4, 6, 8, 5] [] 10 [(26, _), (28, _), (32, _), (34, _)] gO ⟨rfl, rfl, rfl, rfl, trivial⟩ (by kernel_rfl) (by kernel_rfl) fun Ex => ?_
      refine lcf rfl rfl rfl (Table.New_ok pa N E s l _ T.depth hP.hl hE hN8 hslots hdep) ?_
      rintro v L' (⟨hb, rfl, rfl⟩ | ⟨hsm, hfit, s1, rfl, rfl, hT1, hNs⟩)
      refine l_nm ?_
      · skip
        refine l_nm ?_
        refine l_nil ?_
        apply n_d
        · exact trivial
        apply dq 11 rfl
        · exact yq (q_move rfl)
        apply dq 12 rfl
        · exact yq (q_extractL rfl ga)
        apply dq 13 rfl
        · exact yq (q_extractL rfl ga)
        refine d_eff1 [12, 11] [13] 15 [(12, _), (36, _)] gO ⟨rfl, rfl, trivial⟩ (by kernel_rfl) (by kernel_rfl) fun Ex => ?_
        refine sta rfl rfl rfl yS34 rfl rfl ?_
        refine l_nil ?_
        apply n_d
        · refine ⟨?_, trivial⟩
          · apply ya rfl rfl; exact yq (q_extractL rfl ga)
        refine d_eff1 [13] [] 16 [(37, _)] gO ⟨rfl, trivial⟩ (by kernel_rfl) (by kernel_rfl) fun Ex => ?_
        refine asg rfl rfl <| l_nil ?_
        apply n_d
        · exact trivial
        refine d_end (by kernel_rfl) ?_
        refine n_code <| t_seq <| sr <| mv rfl rfl <| l_q rfl (qi rfl rfl (b_neq ·)) <| lc <| t_if rfl (fun y => ?_) fun y => ?_
        · refine sr ?_
          apply l_q rfl
          · apply q_buildS rfl yP34 yZ34
            · exact FillR.nil
          refine mv rfl rfl <| sta rfl rfl rfl yS34 rfl rfl ?_
          refine asg rfl rfl <| lc <| rt ?_
          apply f_ret (.inl rfl) ([pt po (.cells #[.map (some bm)] 191 (0, 0)), mapH (fun k : ByteArray => Value.string k) bm m, G, arenaH pa s])
          · apply res2 rfl
            · apply Rv.agg rfl
              · exact tk
              · exact run_loadAll yA34 yS34 rfl
            · exact .tmp rfl
          · exact .inl ⟨hb, rfl, rfl⟩
          · exact en
        · omega
      · skip
        refine l_nm ?_
        refine l_nil ?_
        apply n_d
        · exact trivial
        apply dq 11 rfl
        · exact yq (q_move rfl)
        apply dq 12 rfl
        · exact yq (q_extractL rfl ga)
        apply dq 13 rfl
        · exact yq (q_extractL rfl ga)
        refine d_eff1 [12, 11] [13] 15 [(12, _), (36, _)] gO ⟨rfl, rfl, trivial⟩ (by kernel_rfl) (by kernel_rfl) fun Ex => ?_
        refine sta rfl rfl rfl yS34 rfl rfl ?_
        refine l_nil ?_
        apply n_d
        · refine ⟨?_, trivial⟩
          · apply ya rfl rfl; exact yq (q_extractL rfl ga)
        refine d_eff1 [13] [] 16 [(37, _)] gO ⟨rfl, trivial⟩ (by kernel_rfl) (by kernel_rfl) fun Ex => ?_
        refine asg rfl rfl <| l_nil ?_
        apply n_d
        · exact trivial
        refine d_end (by kernel_rfl) ?_
        refine n_code <| t_seq <| sr <| mv rfl rfl <| l_q rfl (qi rfl rfl (b_neq ·)) <| lc <| t_if rfl (fun y => ?_) fun y => ?_
        · exact absurd rfl y
        · refine t_skip <| n_code <| t_seq <| sr <| l_q rfl (qlda rfl yA34 yS34) ?_
          have hcb2 := (classI_bnd (n := ((N * gN l : Nat) : Int)) (by have := hLy.g_eq; have := Nat.mul_le_mul_right (gN l) hN0; omega)).2.2 hsm
          refine lcf rfl rfl rfl (TCells_ok pa off l) ?_
          rintro v L' ⟨bc, rfl, rfl⟩
          refine l_nm ?_
          refine lc <| t_block ?_
          apply t_rangeH (p := (fun k (x : ArS × Tb × List Life) => TabP x.1 (s.at 64) ((s.take 64).at (classI ((N * gN l : Nat) : Int))) l N E x.2.1 ∧ RF (hashF m sd) T.cells (8 * n) N x.2.1 x.2.2 k ∧ SameBut s1 x.1 (s.at 64) ((s.take 64).at (classI ((N * gN l : Nat) : Int))) (N * gN l) ∧ Keeps (newT N T.depth) x.2.1)) (J := (fun _ x => [pt b5 (.cells #[.pointer (some ⟨po, 0, none⟩)] 74 (0, 0)), pt b6 (.cells #[.int .u64 sd] 52 (0, 0)), pt b8 (.cells #[.pointer none, .int .i64 0, .int .i64 0, .int .i64 0, .int .i64 0, .int .i64 0, .int .i64 0, .int .i64 0, .int .i64 0, .int .i64 0, .int .i64 0] 34 (0, 0)), pt b12 (.cells #[.pointer (some ⟨pa, 0, none⟩), .int .i64 l.key, .int .i64 l.elem, .int .i64 l.ka, .int .i64 l.ea, .int .i64 l.cap, .int .i64 l.eo, .int .i64 l.bo, .int .i64 l.slot, .int .i64 l.group, .int .i64 ((s.at 64 : Nat) : Int)] 34 (0, 0)), pt po (.cells #[.map (some bm)] 191 (0, 0)), mapH (fun k : ByteArray => Value.string k) bm m, G, arenaH pa x.1])) (q := (fun _ (y : Code × Unit) => False)) (Jx := (fun _ _ => [])) (x0 := (s1, newT N T.depth, [])) (hc := TCells_it pa off go n e bc s1 l T (TabP.newS hP hok0 hNs)) (hr := rfl) (hg := rfl)
          · exact pk
          · exact ⟨hT1, RF.new hN0 _, SameBut.refl _ _ _ _, Keeps.refl _⟩
          · (try dsimp only); (try simp only [Int.natCast_zero, Nat.sub_zero]); exact pk
          · (try dsimp only); (try simp only [Int.natCast_zero, Nat.sub_zero]); exact pk
          · rfl
          · exact cellsV_two
          · rintro l' rc Fr' w1 k x ⟨s2, U, lives⟩ hrd hpn hx ⟨hT2, hR2, hS2, hK2⟩
            have hkl := (List.getElem?_eq_some_iff.1 hx).1
            rw [cellsV_len] at hkl
            obtain ⟨i1, hi8, hfi, hck, rfl⟩ := cellsV_at hx
            dsimp only at hT2 hR2 hS2 hK2 ⊢
            obtain ⟨hu1, hu2, _, _⟩ := hR2.counts
            have hok1 := hP.hT.okc i1 hi8
            obtain ⟨t1, hc1⟩ := full_of hfi
            rw [hc1] at hok1
            obtain ⟨_, _, hks, hes, hb0, hb1⟩ := hok1
            have hhb := hashF_bnd hm sd (T.cells i1).keyS
            have hpr := putR (T := U) (h := hashF m sd (T.cells i1).keyS) (key := (T.cells i1).keyS) hN0 (fun g hg => gk_onto hN8 hg) (T.cells i1).elemS (T.cells i1).birthI
            obtain ⟨hout, v1, hR3⟩ := hR2.put ho hi8 hfi hck (by omega) hpr
            refine t_nm ?_
            refine t_region <| o_allocA rfl yZ54 fun b14 => sta rfl rfl rfl yS54 rfl rfl ?_
            refine l_nil ?_
            apply n_begin
            · exact tk
            · assumption
            refine t_block <| t_draw mixed ?_
            apply dq 0 rfl
            · exact yq (qlda rfl yA34 yS34)
            apply dq 1 rfl
            · exact yq (qld rfl yA74)
            apply dq 2 rfl
            · exact yq (qld rfl yA52)
            apply dq 3 rfl
            · exact yq (qfa 2 rfl yU54 rfl rfl yS9)
            apply dq 4 rfl
            · exact yq (qld rfl yA9)
            apply dq 6 rfl
            · exact yq (qfa 2 rfl yU54 rfl rfl yS9)
            apply dq 7 rfl
            · exact yq (qld rfl yA9)
            apply dq 8 rfl
            · exact yq (qfa 3 rfl yU54 rfl rfl yS9)
            apply dq 9 rfl
            · exact yq (qld rfl yA9)
            apply dq 10 rfl
            · exact yq (qfa 4 rfl yU54 rfl rfl yS3)
            apply dq 11 rfl
            · exact yq (qld rfl yA3)
            refine d_eff1 [1, 2, 4, 3] [11, 10, 9, 8, 7, 6, 0] 5 [(47, _), (48, _), (50, _)] gO ⟨rfl, rfl, rfl, trivial⟩ (by kernel_rfl) (by kernel_rfl) fun Ex => ?_
            refine lc1 rfl rfl rfl (Hash_ok G hGO po bm m hm sd hsd (T.cells i1).keyS (by omega)) ?_
            refine l_nil ?_
            apply n_d
            · refine ⟨?_, ?_, ?_, ?_, ?_, ?_, ?_, trivial⟩
              · apply ya rfl rfl; exact yq (qld rfl yA3)
              · apply ya rfl rfl; exact yq (qfa 4 rfl yU54 rfl rfl yS3)
              · apply ya rfl rfl; exact yq (qld rfl yA9)
              · apply ya rfl rfl; exact yq (qfa 3 rfl yU54 rfl rfl yS9)
              · apply ya rfl rfl; exact yq (qld rfl yA9)
              · apply ya rfl rfl; exact yq (qfa 2 rfl yU54 rfl rfl yS9)
              · apply ya rfl rfl; exact yq (qlda rfl yA34 yS34)
            refine d_eff1 [0, 7, 9, 11, 6, 8, 10] [] 12 [(46, _), (51, _), (53, _), (55, _), (57, _)] gO ⟨rfl, rfl, rfl, rfl, rfl, trivial⟩ (by kernel_rfl) (by kernel_rfl) fun Ex => ?_
            refine lcf rfl rfl rfl (Put_ok G hGT pa (s.at 64) ((s.take 64).at (classI ((N * gN l : Nat) : Int))) N E s2 l U hT2 _ hhb (T.cells i1).keyS (T.cells i1).elemS hks hes (T.cells i1).birthI ⟨hb0, hb1⟩ (by omega) (by omega)) ?_
            rintro v L' ⟨s3, rfl, rfl, hT3, hS3⟩
            refine l_nm ?_
            refine l_nil ?_
            apply n_d
            · exact trivial
            refine d_end (by kernel_rfl) ?_
            refine n_blk ?_
            apply r_next (by assumption) (by assumption) ((s3, (putT N U (hashF m sd (T.cells i1).keyS) (T.cells i1).keyS (T.cells i1).elemS (T.cells i1).birthI).2, lives ++ [v1])) (⟨hT3, hR3, hS2.trans hS3, hK2.trans (keeps_put hpr)⟩)
            exact en
          · rintro b1' ⟨s2, U, lives⟩ ⟨hT2, hR2, hS2, hK2⟩
            rw [cellsV_len] at hR2
            dsimp only at hT2 hR2 hS2 hK2 ⊢
            refine n_nm ?_
            refine n_blk <| nz <| l_q rfl (qlda rfl yA34 yS34) ?_
            refine sta rfl rfl rfl yS34 rfl rfl ?_
            refine asg rfl rfl <| lc <| rt ?_
            apply f_retm (.inl rfl) [b1'] ([pt po (.cells #[.map (some bm)] 191 (0, 0)), mapH (fun k : ByteArray => Value.string k) bm m, G, arenaH pa s2])
            · repeat (first | with_reducible exact TakeM.nil | apply TakeM.cons | with_reducible exact Take.here | apply Take.there)
            · apply res2 rfl
              · apply Rv.agg rfl
                · exact tk
                · exact run_loadAll yA34 yS34 rfl
              · exact .tmp rfl
            · exact .inr ⟨hsm, hfit, s2, U, lives, rfl, rfl, hT2, hR2, NewS.fill hok0 hcb2.2 (by omega) hNs hcb2.1 hS2, hK2, TabP.newS hP hok0 (NewS.fill hok0 hcb2.2 (by omega) hNs hcb2.1 hS2)⟩
            · exact en
          · rintro b1' k ⟨jc, y⟩ hk hq
            exact hq.elim

theorem Renew_ok (G : HP) (hGT : TabOk G) (hGO : OddOk G) (pa off go po bm n e N E : Nat) (s : ArS) (l : Lay) (T : Tb) (m : List (ByteArray × Value)) (hm : OverOk m) (sd : Int) (hsd : 0 ≤ sd ∧ sd < 18446744073709551616) (hP : TabP s off go l n e T) (hT : LT n (hashF m sd) T) (hdep : 0 ≤ T.depth ∧ T.depth ≤ 6) :
    FnOk Tryz.prog 35 #[.agg #[.pointer (some ⟨pa, 0, none⟩), .int .i64 l.key, .int .i64 l.elem, .int .i64 l.ka, .int .i64 l.ea, .int .i64 l.cap, .int .i64 l.eo, .int .i64 l.bo, .int .i64 l.slot, .int .i64 l.group, .int .i64 (off : Nat)], .pointer (some ⟨po, 0, none⟩), .int .u64 sd] [pt po (.cells #[.map (some bm)] 191 (0, 0)), mapH (fun k : ByteArray => Value.string k) bm m, G, arenaH pa s] (Anew pa off go po bm n e n e s l T m sd G) := by
  refine fn_intro en35 Tryz.func35 rfl rfl rfl fun Fr w0 => t_nm ?_
  refine sr <| o_boxA rfl rfl fun b3 => o_allocA rfl yZ34 fun b6 => asg rfl rfl <| lz <| l_q rfl (qlda rfl yA34 yS34) ?_
  refine mv rfl rfl <| mv rfl rfl <| lcf rfl rfl rfl (anew_ok G hGT hGO pa off go po bm n e n e 1 s l T m hm sd hsd hP hT (.inl rfl) (Nat.one_mul n).symm hP.hn hP.he hdep) ?_
  rintro v L' (⟨hb, rfl, rfl⟩ | ⟨h1, h2, s', U, lives, rfl, rfl, h3⟩)
  refine l_nm ?_
  · skip
    refine l_nm ?_
    refine l_q rfl (q_extractL rfl ga) ?_
    refine l_q rfl (q_extractL rfl ga) ?_
    refine sta rfl rfl rfl yS34 rfl rfl ?_
    refine asg rfl rfl <| lc <| rt ?_
    apply f_ret (.inl rfl) ([pt po (.cells #[.map (some bm)] 191 (0, 0)), mapH (fun k : ByteArray => Value.string k) bm m, G, arenaH pa s])
    · apply res2 rfl
      · apply Rv.agg rfl
        · exact tk
        · exact run_loadAll yA34 yS34 rfl
      · exact .tmp rfl
    · exact .inl ⟨hb, rfl, rfl⟩
    · exact en
  · skip
    refine l_nm ?_
    refine l_q rfl (q_extractL rfl ga) ?_
    refine l_q rfl (q_extractL rfl ga) ?_
    refine sta rfl rfl rfl yS34 rfl rfl ?_
    refine asg rfl rfl <| lc <| rt ?_
    apply f_ret (.inl rfl) ([pt po (.cells #[.map (some bm)] 191 (0, 0)), mapH (fun k : ByteArray => Value.string k) bm m, G, arenaH pa s'])
    · apply res2 rfl
      · apply Rv.agg rfl
        · exact tk
        · exact run_loadAll yA34 yS34 rfl
      · exact .tmp rfl
    · exact .inr ⟨h1, h2, s', U, lives, rfl, rfl, h3⟩
    · exact en
theorem Double_ok (G : HP) (hGT : TabOk G) (hGO : OddOk G) (pa off go po bm n e N E : Nat) (s : ArS) (l : Lay) (T : Tb) (m : List (ByteArray × Value)) (hm : OverOk m) (sd : Int) (hsd : 0 ≤ sd ∧ sd < 18446744073709551616) (hP : TabP s off go l n e T) (hT : LT n (hashF m sd) T) (hN : N = 2 * n) (hdep : 0 ≤ T.depth ∧ T.depth ≤ 6) (hN8 : N = 2 ^ E) (hE : E ≤ 13) :
    FnOk Tryz.prog 36 #[.agg #[.pointer (some ⟨pa, 0, none⟩), .int .i64 l.key, .int .i64 l.elem, .int .i64 l.ka, .int .i64 l.ea, .int .i64 l.cap, .int .i64 l.eo, .int .i64 l.bo, .int .i64 l.slot, .int .i64 l.group, .int .i64 (off : Nat)], .pointer (some ⟨po, 0, none⟩), .int .u64 sd] [pt po (.cells #[.map (some bm)] 191 (0, 0)), mapH (fun k : ByteArray => Value.string k) bm m, G, arenaH pa s] (Anew pa off go po bm n e N E s l T m sd G) := by
  refine fn_intro en36 Tryz.func36 rfl rfl rfl fun Fr w0 => t_nm ?_
  refine sr <| o_boxA rfl rfl fun b3 => o_allocA rfl yZ34 fun b6 => asg rfl rfl <| lz <| l_q rfl (qlda rfl yA34 yS34) ?_
  refine mv rfl rfl <| mv rfl rfl <| lcf rfl rfl rfl (anew_ok G hGT hGO pa off go po bm n e N E 2 s l T m hm sd hsd hP hT (.inr rfl) hN hN8 hE hdep) ?_
  rintro v L' (⟨hb, rfl, rfl⟩ | ⟨h1, h2, s', U, lives, rfl, rfl, h3⟩)
  refine l_nm ?_
  · skip
    refine l_nm ?_
    refine l_q rfl (q_extractL rfl ga) ?_
    refine l_q rfl (q_extractL rfl ga) ?_
    refine sta rfl rfl rfl yS34 rfl rfl ?_
    refine asg rfl rfl <| lc <| rt ?_
    apply f_ret (.inl rfl) ([pt po (.cells #[.map (some bm)] 191 (0, 0)), mapH (fun k : ByteArray => Value.string k) bm m, G, arenaH pa s])
    · apply res2 rfl
      · apply Rv.agg rfl
        · exact tk
        · exact run_loadAll yA34 yS34 rfl
      · exact .tmp rfl
    · exact .inl ⟨hb, rfl, rfl⟩
    · exact en
  · skip
    refine l_nm ?_
    refine l_q rfl (q_extractL rfl ga) ?_
    refine l_q rfl (q_extractL rfl ga) ?_
    refine sta rfl rfl rfl yS34 rfl rfl ?_
    refine asg rfl rfl <| lc <| rt ?_
    apply f_ret (.inl rfl) ([pt po (.cells #[.map (some bm)] 191 (0, 0)), mapH (fun k : ByteArray => Value.string k) bm m, G, arenaH pa s'])
    · apply res2 rfl
      · apply Rv.agg rfl
        · exact tk
        · exact run_loadAll yA34 yS34 rfl
      · exact .tmp rfl
    · exact .inr ⟨h1, h2, s', U, lives, rfl, rfl, h3⟩
    · exact en
end Go.Proofs.YtgijnebgchkenaaGreatDoor.Grow
