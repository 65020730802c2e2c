/- Contracts of larderlaw09: kinds, passed, pruned. -/
import Derived.Test.YtgijnebgchkenaaGreatDoorPruneW
import Derived.Test.YtgijnebgchkenaaGreatDoorGrowF
set_option linter.unusedVariables false
set_option linter.unusedSimpArgs false
set_option maxRecDepth 100000
namespace Go.Proofs.YtgijnebgchkenaaGreatDoor.Grow
open Go.RowKit Go.Proofs Go.Proofs.YtgijnebgchkenaaGreatDoor.Eng Go.Proofs.YtgijnebgchkenaaGreatDoor.Ty Go.Proofs.YtgijnebgchkenaaGreatDoor.Bits Go.Proofs.YtgijnebgchkenaaGreatDoor.Mem Go.Proofs.YtgijnebgchkenaaGreatDoor.Search Go.Proofs.YtgijnebgchkenaaGreatDoor.Arena Go.Proofs.YtgijnebgchkenaaGreatDoor.CtrlB Go.Proofs.YtgijnebgchkenaaGreatDoor.Ctrl Go.Proofs.YtgijnebgchkenaaGreatDoor.Layout Go.Proofs.YtgijnebgchkenaaGreatDoor.GroupB Go.Proofs.YtgijnebgchkenaaGreatDoor.Group Go.Proofs.YtgijnebgchkenaaGreatDoor.Probe Go.Proofs.YtgijnebgchkenaaGreatDoor.TableB Go.Proofs.YtgijnebgchkenaaGreatDoor.TableI Go.Proofs.YtgijnebgchkenaaGreatDoor.Table Go.Proofs.YtgijnebgchkenaaGreatDoor.Bench Go.Proofs.YtgijnebgchkenaaGreatDoor.Cells Go.Proofs.YtgijnebgchkenaaGreatDoor.Refill Go.Proofs.YtgijnebgchkenaaGreatDoor.Oracle Go.Proofs.YtgijnebgchkenaaGreatDoor.Ref03

/-- The kinds of the first i cells. -/
def kindsV (cs : Nat → Cell) (i : Nat) : List Value := (List.range i).map fun j => .int .i64 (cs j).kind
theorem kindsV_len (cs : Nat → Cell) (i : Nat) : (kindsV cs i).length = i := by simp [kindsV]
theorem kindsV_get {cs : Nat → Cell} {N i : Nat} (h : i < N) : (kindsV cs N)[i]? = some (.int .i64 (cs i).kind) := by
  unfold kindsV
  rw [List.getElem?_map, List.getElem?_range h]; rfl
theorem kindsV_succ (cs : Nat → Cell) (i : Nat) : kindsV cs i ++ [.int .i64 (cs i).kind] = kindsV cs (i + 1) := by
  unfold kindsV
  rw [List.range_succ, List.map_append]; rfl
theorem kinds_ok (pa off n e : Nat) (s : ArS) (T : Tb) (hP : TabP s off (off + 64) l64 n e T) (hn : n ≤ 64) :
    FnOk Tryz.prog 49 #[.agg #[.pointer (some ⟨pa, 0, none⟩), .int .i64 l64.key, .int .i64 l64.elem, .int .i64 l64.ka, .int .i64 l64.ea, .int .i64 l64.cap, .int .i64 l64.eo, .int .i64 l64.bo, .int .i64 l64.slot, .int .i64 l64.group, .int .i64 (off : Nat)], .int .i64 (8 * (n : Int))] [arenaH pa s] (fun v L => L = [ownS 3 1 v (8 * n) (kindsV T.cells (8 * n)), arenaH pa s]) := by
  have hn8 := hP.n0
  refine fn_intro en49 Tryz.func49 rfl rfl rfl fun Fr w0 => t_nm ?_
  refine sr <| o_boxA rfl rfl fun b2 => asg rfl rfl <| lz <| asg rfl rfl <| lc <| t_seq <| sr <| asg rfl rfl <| lc <| t_block ?_
  refine t_ent (show Ent _ (ownS 3 1 (.slice none 0 0) 0 (kindsV T.cells 0) :: _) from fun w h => own_nil h) ?_
  refine t_loop (fun x : Nat × Value => x.1 ≤ 8 * n) (fun x => [(1, .int .i64 (8 * (n : Int))), (2, .pointer (some ⟨b2, 0, none⟩)), (5, x.2), (6, .int .i64 (x.1 : Nat))]) (fun x => ownS 3 1 x.2 x.1 (kindsV T.cells x.1) :: pt b2 (.cells #[.pointer (some ⟨pa, 0, none⟩), .int .i64 l64.key, .int .i64 l64.elem, .int .i64 l64.ka, .int .i64 l64.ea, .int .i64 l64.cap, .int .i64 l64.eo, .int .i64 l64.bo, .int .i64 l64.slot, .int .i64 l64.group, .int .i64 (off : Nat)] 34 (0, 0)) :: arenaH pa s :: Fr) (fun x => 8 * n - x.1) (0, .slice none 0 0) (Nat.zero_le _) ⟨rfl, rfl, rfl, rfl, trivial⟩ (by (exact en)) ?_
  rintro ⟨i, vl⟩ hi
  dsimp only at hi ⊢
  refine t_shape (e := 3) (sz := 1) (v := vl) (n := i) (xs := kindsV T.cells i) tk fun _ hsh8 => ?_
  obtain ⟨a8, cap8, rfl, hsh8, _, _⟩ := hsh8
  refine t_seq <| sr <| mv rfl rfl <| mv rfl rfl <| l_q rfl (qi rfl rfl (b_lss ·)) <| lc <| t_if rfl (fun g1 => ?_) fun g1 => ?_
  · skip
    have hrow := kindsV_succ T.cells i
    refine t_skip <| n_code <| t_seq <| t_block <| sr <| l_q rfl (qlda rfl yA34 yS34) ?_
    refine mv rfl rfl <| lc1 rfl rfl rfl (Cell_okP pa off (off + 64) n e s l64 T hP i (by omega)) ?_
    refine mv rfl rfl <| l_q rfl (q_extractL rfl ga) ?_
    refine l_q rfl (q_extractL rfl ga) ?_
    refine o_allocA rfl yZ54 fun b7 => sta rfl rfl rfl yS54 rfl rfl ?_
    refine asg rfl rfl <| lc <| t_seq <| sr <| mv rfl rfl <| l_q rfl (qi rfl rfl (b_neq ·)) <| lc <| t_if rfl (fun z => ?_) fun z => ?_
    · exact absurd rfl z
    · refine t_skip <| n_code <| t_region <| mv rfl rfl <| l_q rfl (qfa 0 rfl yU54 rfl rfl yS3) <| l_q rfl (qld rfl yA3) ?_
      refine o_buildSlice1 [_] rfl rfl yU22 yS3 yZ3 rfl rfl rfl rfl (fun b25 => ?_)
      apply o_append (sz := 1) rfl rfl rfl yU22 yI3 rfl rfl
      · exact tk
      · exact tk
      · rfl
      · rfl
      · simp only [maxLen]; omega
      · omega
      intro v26
      refine asg rfl rfl <| l_nil <| n_blk <| n_code <| t_region <| mv rfl rfl <| l_q rfl (qadd rfl rfl) ?_
      refine asg rfl rfl <| l_nil ?_
      change TN _ _ _ _ (ownS _ _ _ _ (kindsV T.cells i ++ [.int .i64 (T.cells i).kind]) :: _) _ _
      rw [hrow]
      apply n_again ((i + 1, v26))
      · exact (show i + 1 ≤ 8 * n by omega)
      · (dsimp only; omega)
      · exact ⟨rfl, rfl, rfl, rfl, trivial⟩
      · exact en
  · skip
    obtain rfl : i = 8 * n := by omega
    refine xt rfl <| nz <| mv rfl rfl <| asg rfl rfl <| lc <| rt <| fr1 rfl ([ownS 3 1 (.slice a8 (8 * n) cap8) (8 * n) (kindsV T.cells (8 * n)), arenaH pa s]) (.tmp rfl) ?_
    rfl
/-- The step at which a group is met. -/
theorem steps_at {n e : Nat} (he : e ≤ 13) (hn : n = 2 ^ e) {home : Int} {k : Nat} (hk : k < n) : stI home (n : Nat) ((gk home n k : Nat) : Int) = k := by
  have hg := grp_n he hn
  have hn0 : 0 < n := by omega
  refine stI_hit (by rw [hg]; exact hk) (by rw [hg, gk_cast hn0]) fun j hj h => ?_
  rw [hg, ← gk_cast hn0] at h
  have := gk_inj hn (show j < n by omega) hk (by exact_mod_cast h)
  omega
theorem passes_steps {n e : Nat} (he : e ≤ 13) (hn : n = 2 ^ e) {H : ByteArray → Int} {cells : Nat → Cell} {p g : Nat} (hf : isFull (cells p) = true) (hp : p < 8 * n) (hg : g < n) :
    passesP n H cells p g ↔ stI (H (cells p).keyS / 128) (n : Nat) ((g : Nat) : Int) < stI (H (cells p).keyS / 128) (n : Nat) ((p / 8 : Nat) : Int) := by
  obtain ⟨a, ha, ea⟩ := gk_onto (home := H (cells p).keyS / 128) hn hg
  obtain ⟨j, hj, ej⟩ := gk_onto (home := H (cells p).keyS / 128) hn (g := p / 8) (by omega)
  rw [← ea, ← ej, steps_at he hn ha, steps_at he hn hj, ea]
  constructor
  · rintro ⟨_, j', hj', ej', i, hi, ei⟩
    have h1 := gk_inj hn hj' hj (ej'.trans ej.symm)
    have h2 := gk_inj hn (show i < n by omega) ha (ei.trans ea.symm)
    omega
  · intro h
    exact ⟨hf, j, hj, ej, a, by omega, ea⟩
theorem passed_ok (G : HP) (hGO : OddOk G) (pa off po bm n e : Nat) (s : ArS) (T : Tb) (m : List (ByteArray × Value)) (hm : OverOk m) (sd : Int) (hsd : 0 ≤ sd ∧ sd < 18446744073709551616) (hP : TabP s off (off + 64) l64 n e T) (hn : n ≤ 64) :
    FnOk Tryz.prog 50 #[.agg #[.pointer (some ⟨pa, 0, none⟩), .pointer (some ⟨po, 0, none⟩), .pointer (some ⟨pa, 0, none⟩), .int .i64 l64.key, .int .i64 l64.elem, .int .i64 l64.ka, .int .i64 l64.ea, .int .i64 l64.cap, .int .i64 l64.eo, .int .i64 l64.bo, .int .i64 l64.slot, .int .i64 l64.group, .int .i64 (off : Nat)], .int .u64 sd, .int .i64 (8 * (n : Int))] [pt po (.cells #[.map (some bm)] 191 (0, 0)), mapH (fun k : ByteArray => Value.string k) bm m, G, arenaH pa s] (fun v L => ∃ (b : Nat → Bool) (q : Nat), v = .slice (some ⟨q, 0, none⟩) n n ∧ L = [ownS 4 1 (.slice (some ⟨q, 0, none⟩) n n) n (boolsV b n), pt po (.cells #[.map (some bm)] 191 (0, 0)), mapH (fun k : ByteArray => Value.string k) bm m, G, arenaH pa s] ∧ ∀ g, g < n → (b g = true ↔ passedP n (hashF m sd) T.cells g)) := by
  have hn8 := hP.n0
  refine fn_intro en50 Tryz.func50 rfl rfl rfl fun Fr w0 => t_nm ?_
  refine sr <| o_boxA rfl rfl fun b3 => asg rfl rfl <| lz <| mv rfl rfl <| l_q rfl (qquo rfl rfl) ?_
  refine asg rfl rfl <| lz <| mv rfl rfl ?_
  apply o_makeSlice1 rfl rfl rfl yU112 yI4 rfl (by omega) (by omega)
  intro b18
  refine asg rfl rfl <| lc <| t_seq <| sr <| asg rfl rfl <| lc <| t_block ?_
  rw [show (8 * (n : Int)) / 8 = ((n : Nat) : Int) by omega]
  simp only [Int.toNat_natCast]
  rw [boolsV_new]
  refine t_loop (fun x : Nat × (Nat → Bool) => x.1 ≤ 8 * n ∧ ∀ g, g < n → (x.2 g = true ↔ ∃ p, p < x.1 ∧ passesP n (hashF m sd) T.cells p g)) (fun x => [(1, .int .u64 sd), (2, .int .i64 (8 * (n : Int))), (3, .pointer (some ⟨b3, 0, none⟩)), (7, .int .i64 (n : Nat)), (8, .slice (some ⟨b18, 0, none⟩) n n), (9, .int .i64 (x.1 : Nat))]) (fun x => ownS 4 1 (.slice (some ⟨b18, 0, none⟩) n n) n (boolsV x.2 n) :: pt b3 (.cells #[.pointer (some ⟨pa, 0, none⟩), .pointer (some ⟨po, 0, none⟩), .pointer (some ⟨pa, 0, none⟩), .int .i64 l64.key, .int .i64 l64.elem, .int .i64 l64.ka, .int .i64 l64.ea, .int .i64 l64.cap, .int .i64 l64.eo, .int .i64 l64.bo, .int .i64 l64.slot, .int .i64 l64.group, .int .i64 (off : Nat)] 76 (0, 0)) :: pt po (.cells #[.map (some bm)] 191 (0, 0)) :: mapH (fun k : ByteArray => Value.string k) bm m :: G :: arenaH pa s :: Fr) (fun x => 8 * n - x.1) (0, fun _ => false) ⟨Nat.zero_le _, fun g _ => ⟨fun h => (by cases h), fun ⟨p, hp, _⟩ => (by exact absurd hp (Nat.not_lt_zero _))⟩⟩ ⟨rfl, rfl, rfl, rfl, rfl, rfl, trivial⟩ (by (exact en)) ?_
  rintro ⟨i, b⟩ ⟨hi, hb⟩
  dsimp only at hi hb ⊢
  refine t_seq <| sr <| mv rfl rfl <| mv rfl rfl <| l_q rfl (qi rfl rfl (b_lss ·)) <| lc <| t_if rfl (fun g1 => ?_) fun g1 => ?_
  · skip
    have hok1 := hP.hT.okc i (by omega)
    refine t_skip <| n_code <| t_seq <| t_block <| sr <| l_q rfl (qfa 2 rfl yU76 rfl rfl yS34) <| l_q rfl (qlda rfl yA34 yS34) ?_
    refine mv rfl rfl <| lc1 rfl rfl rfl (Cell_okP pa off (off + 64) n e s l64 T hP i (by omega)) ?_
    refine mv rfl rfl <| l_q rfl (q_extractL rfl ga) ?_
    refine l_q rfl (q_extractL rfl ga) ?_
    refine o_allocA rfl yZ54 fun b10 => sta rfl rfl rfl yS54 rfl rfl ?_
    refine asg rfl rfl <| lc <| t_seq <| sr <| l_q rfl (qfa 0 rfl yU54 rfl rfl yS3) <| l_q rfl (qld rfl yA3) ?_
    refine l_q rfl (qi rfl rfl (b_neq ·)) <| lc <| t_if rfl (fun z => ?_) fun z => ?_
    · refine xt rfl <| n_code <| t_region <| mv rfl rfl <| l_q rfl (qadd rfl rfl) ?_
      refine asg rfl rfl <| l_nil ?_
      have hnf : isFull (T.cells i) = false := by cases hq : isFull (T.cells i) with | false => rfl | true => exact absurd (kind_full.2 hq) z
      have hnext : ∀ g, g < n → ((b) g = true ↔ ∃ p, p < i + 1 ∧ passesP n (hashF m sd) T.cells p g) := fun g hg => by
        rw [hb g hg]
        constructor
        · rintro ⟨p, h1, h2⟩; exact ⟨p, Nat.lt_succ_of_lt h1, h2⟩
        · rintro ⟨p, h1, h2⟩
          have : p ≠ i := fun q => by subst q; rw [h2.1] at hnf; cases hnf
          exact ⟨p, by omega, h2⟩
      apply n_again ((i + 1, b))
      · exact ⟨Nat.succ_le_of_lt (by omega), hnext⟩
      · (dsimp only; omega)
      · exact ⟨rfl, rfl, rfl, rfl, rfl, rfl, trivial⟩
      · exact en
    · refine t_skip <| nz <| l_q rfl (qfa 1 rfl yU76 rfl rfl yS74) <| l_q rfl (qld rfl yA74) ?_
      refine mv rfl rfl <| l_q rfl (qfa 2 rfl yU54 rfl rfl yS9) <| l_q rfl (qld rfl yA9) ?_
      have hfi : isFull (T.cells i) = true := kind_full.1 (Classical.not_not.1 z)
      obtain ⟨t1, hct⟩ := full_of hfi
      rw [hct] at hok1
      obtain ⟨_, _, hks, _⟩ := hok1
      have hhb := hashF_bnd hm sd (T.cells i).keyS
      have hq128 : Value.int .u64 (IntKind.u64.wrap ((hashF m sd (T.cells i).keyS).tdiv 128)) = .int .u64 (hashF m sd (T.cells i).keyS / 128) := by
        congr 1; rw [Int.tdiv_eq_ediv_of_nonneg hhb.1, wrap_u64 (by omega)]
      refine lc1 rfl rfl rfl (Hash_ok G hGO po bm m hm sd hsd (T.cells i).keyS (by rw [hks, kN64]; omega)) ?_
      refine l_q rfl (QV.to (q_bin rfl rfl (fun w => g_int w) (fun w => b_quo w (by omega))) hq128) ?_
      refine asg rfl rfl <| lz <| mv rfl rfl <| mv rfl rfl <| mv rfl rfl <| l_q rfl (qquo rfl rfl) ?_
      refine lc1 rfl rfl rfl (Steps_ok _ _ _ (by omega)) ?_
      refine asg rfl rfl <| lz <| asg rfl rfl <| lc <| t_block ?_
      rw [show ((i : Nat) : Int) / 8 = ((i / 8 : Nat) : Int) by omega]
      refine t_loop (fun x : Nat × (Nat → Bool) => x.1 ≤ n ∧ ∀ g, g < n → (x.2 g = true ↔ b g = true ∨ (g < x.1 ∧ passesP n (hashF m sd) T.cells i g))) (fun x => [(1, .int .u64 sd), (2, .int .i64 (8 * (n : Int))), (3, .pointer (some ⟨b3, 0, none⟩)), (7, .int .i64 (n : Nat)), (8, .slice (some ⟨b18, 0, none⟩) n n), (9, .int .i64 (i : Nat)), (12, .int .u64 (hashF m sd (T.cells i).keyS / 128)), (13, .int .i64 (stI (hashF m sd (T.cells i).keyS / 128) (n : Nat) ((i / 8 : Nat) : Int))), (14, .int .i64 (x.1 : Nat))]) (fun x => ownS 4 1 (.slice (some ⟨b18, 0, none⟩) n n) n (boolsV x.2 n) :: pt b3 (.cells #[.pointer (some ⟨pa, 0, none⟩), .pointer (some ⟨po, 0, none⟩), .pointer (some ⟨pa, 0, none⟩), .int .i64 l64.key, .int .i64 l64.elem, .int .i64 l64.ka, .int .i64 l64.ea, .int .i64 l64.cap, .int .i64 l64.eo, .int .i64 l64.bo, .int .i64 l64.slot, .int .i64 l64.group, .int .i64 (off : Nat)] 76 (0, 0)) :: pt po (.cells #[.map (some bm)] 191 (0, 0)) :: mapH (fun k : ByteArray => Value.string k) bm m :: G :: arenaH pa s :: Fr) (fun x => n - x.1) (0, b) ⟨Nat.zero_le _, fun g _ => ⟨fun h => .inl h, fun h => h.elim id fun h => absurd h.1 (Nat.not_lt_zero _)⟩⟩ ⟨rfl, rfl, rfl, rfl, rfl, rfl, rfl, rfl, rfl, trivial⟩ (by (exact en)) ?_
      rintro ⟨g, c⟩ ⟨hg, hc⟩
      dsimp only at hg hc ⊢
      refine t_seq <| sr <| mv rfl rfl <| mv rfl rfl <| l_q rfl (qi rfl rfl (b_lss ·)) <| lc <| t_if rfl (fun y1 => ?_) fun y1 => ?_
      · skip
        have hpass := passes_steps (H := hashF m sd) (cells := T.cells) hP.he hP.hn hfi (by omega) (show g < n by omega)
        have hset : (boolsV c n).set (0 + ((g : Nat) : Int).toNat) (.bool true) = boolsV (fun x => c x || x == g) n := by rw [Nat.zero_add, Int.toNat_natCast]; exact boolsV_set
        refine t_skip <| n_code <| t_seq <| t_block <| sr <| mv rfl rfl <| mv rfl rfl <| mv rfl rfl <| lc1 rfl rfl rfl (Steps_ok _ _ _ (by omega)) ?_
        refine mv rfl rfl <| l_q rfl (qi rfl rfl (b_lss ·)) <| lc <| t_if rfl (fun y2 => ?_) fun y2 => ?_
        · refine t_region <| mv rfl rfl <| mv rfl rfl <| l_q rfl (q_indexAddr1 rfl rfl yU112 yS4 (by omega)) ?_
          refine o_storeOwn rfl rfl rfl yS4 rfl tk (by omega) hset ?_
          refine l_nil <| n_blk <| n_code <| t_region <| mv rfl rfl <| l_q rfl (qadd rfl rfl) ?_
          refine asg rfl rfl <| l_nil ?_
          have hnext : ∀ x, x < n → ((fun x => c x || x == g) x = true ↔ b x = true ∨ (x < g + 1 ∧ passesP n (hashF m sd) T.cells i x)) := fun x hx => by
            rw [Bool.or_eq_true, hc x hx]
            constructor
            · rintro ((h | ⟨h1, h2⟩) | h)
              · exact .inl h
              · exact .inr ⟨by omega, h2⟩
              · obtain rfl : x = g := by simpa using h
                exact .inr ⟨by omega, hpass.2 y2⟩
            · rintro (h | ⟨h1, h2⟩)
              · exact .inl (.inl h)
              · by_cases q : x = g
                · exact .inr (by simpa using q)
                · exact .inl (.inr ⟨by omega, h2⟩)
          apply n_again ((g + 1, fun x => c x || x == g))
          · exact ⟨Nat.succ_le_of_lt (by omega), hnext⟩
          · (dsimp only; omega)
          · exact ⟨rfl, rfl, rfl, rfl, rfl, rfl, rfl, rfl, rfl, trivial⟩
          · exact en
        · refine t_skip <| n_blk <| n_code <| t_region <| mv rfl rfl <| l_q rfl (qadd rfl rfl) ?_
          refine asg rfl rfl <| l_nil ?_
          have hnext : ∀ x, x < n → ((c) x = true ↔ b x = true ∨ (x < g + 1 ∧ passesP n (hashF m sd) T.cells i x)) := fun x hx => by
            rw [hc x hx]
            constructor
            · rintro (h | ⟨h1, h2⟩)
              · exact .inl h
              · exact .inr ⟨by omega, h2⟩
            · rintro (h | ⟨h1, h2⟩)
              · exact .inl h
              · by_cases q : x = g
                · subst q; exact absurd (hpass.1 h2) y2
                · exact .inr ⟨by omega, h2⟩
          apply n_again ((g + 1, c))
          · exact ⟨Nat.succ_le_of_lt (by omega), hnext⟩
          · (dsimp only; omega)
          · exact ⟨rfl, rfl, rfl, rfl, rfl, rfl, rfl, rfl, rfl, trivial⟩
          · exact en
      · skip
        obtain rfl : n = g := by omega
        refine xt rfl <| n_blk <| n_code <| t_region <| mv rfl rfl <| l_q rfl (qadd rfl rfl) ?_
        refine asg rfl rfl <| l_nil ?_
        have hnext : ∀ x, x < n → ((c) x = true ↔ ∃ p, p < i + 1 ∧ passesP n (hashF m sd) T.cells p x) := fun x hx => by
          rw [hc x hx, hb x hx]
          constructor
          · rintro (⟨p, h1, h2⟩ | ⟨h1, h2⟩)
            · exact ⟨p, by omega, h2⟩
            · exact ⟨i, by omega, h2⟩
          · rintro ⟨p, h1, h2⟩
            by_cases q : p = i
            · subst q; exact .inr ⟨hx, h2⟩
            · exact .inl ⟨p, by omega, h2⟩
        apply n_again ((i + 1, c))
        · exact ⟨Nat.succ_le_of_lt (by omega), hnext⟩
        · (dsimp only; omega)
        · exact ⟨rfl, rfl, rfl, rfl, rfl, rfl, trivial⟩
        · exact en
  · skip
    obtain rfl : i = 8 * n := by omega
    exact xt rfl <| nz <| mv rfl rfl <| asg rfl rfl <| lc <| rt <| fr1 rfl ([ownS 4 1 (.slice (some ⟨b18, 0, none⟩) n n) n (boolsV b n), pt po (.cells #[.map (some bm)] 191 (0, 0)), mapH (fun k : ByteArray => Value.string k) bm m, G, arenaH pa s]) (.tmp rfl) ⟨b, b18, rfl, rfl, hb⟩
theorem prune_kind_ne {cs : Nat → Cell} {b : Nat → Bool} {i : Nat} (h : (cs i).kind ≠ 1) : pruneT cs b i = cs i := by
  unfold pruneT
  rw [if_neg fun q => h (by cases hc : cs i <;> rw [hc] at q <;> first | rfl | (exfalso; simp [isDel] at q))]
theorem prune_kind_del {cs : Nat → Cell} {b : Nat → Bool} {i : Nat} (h : (cs i).kind = 1) : (pruneT cs b i).kind = if b (i / 8) = true then 1 else 0 := by
  have hd : isDel (cs i) = true := by cases hc : cs i <;> rw [hc] at h <;> first | rfl | (exfalso; simp [Cell.kind] at h)
  unfold pruneT
  cases q : b (i / 8)
  · rw [if_pos ⟨hd, rfl⟩]; rfl
  · rw [if_neg (by simp)]; simpa using h
theorem kind_del {c : Cell} : isDel c = true ↔ c.kind = 1 := by cases c <;> simp [isDel, Cell.kind]
theorem pruned_ok (n : Nat) (hn : 0 < n ∧ n ≤ 64) (cs : Nat → Cell) (b : Nat → Bool) (k : Nat) (hk : cnt isDel cs (8 * n) = cnt isDel (pruneT cs b) (8 * n) + k) (va vb : Value) (q : Nat) :
    FnOk Tryz.prog 53 #[va, vb, .slice (some ⟨q, 0, none⟩) n n, .int .i64 (k : Nat)] [ownS 3 1 va (8 * n) (kindsV cs (8 * n)), ownS 3 1 vb (8 * n) (kindsV (pruneT cs b) (8 * n)), ownS 4 1 (.slice (some ⟨q, 0, none⟩) n n) n (boolsV b n)]
      (fun v L => v = .bool true ∧ L = [ownS 3 1 va (8 * n) (kindsV cs (8 * n)), ownS 3 1 vb (8 * n) (kindsV (pruneT cs b) (8 * n)), ownS 4 1 (.slice (some ⟨q, 0, none⟩) n n) n (boolsV b n)]) := by
  refine fn_intro en53 Tryz.func53 rfl rfl rfl fun Fr w0 => t_nm ?_
  refine t_shape (e := 3) (sz := 1) (v := va) (n := 8 * n) (xs := kindsV cs (8 * n)) tk fun _ hsa => ?_
  obtain ⟨a1, cap1, rfl, hsa, _, _⟩ := hsa
  refine t_shape (e := 3) (sz := 1) (v := vb) (n := 8 * n) (xs := kindsV (pruneT cs b) (8 * n)) tk fun _ hsb => ?_
  obtain ⟨a2, cap2, rfl, hsb, _, _⟩ := hsb
  obtain ⟨g1, rfl⟩ := hsa (by omega)
  obtain ⟨g2, rfl⟩ := hsb (by omega)
  refine sr <| asg rfl rfl <| lz <| asg rfl rfl <| lc <| t_seq <| sr <| asg rfl rfl <| lc <| t_block ?_
  refine t_loop (fun x : Nat × Nat => x.1 ≤ 8 * n ∧ cnt isDel cs x.1 = cnt isDel (pruneT cs b) x.1 + x.2) (fun x => [(0, .slice (some ⟨g1, 0, none⟩) (8 * n) cap1), (1, .slice (some ⟨g2, 0, none⟩) (8 * n) cap2), (2, .slice (some ⟨q, 0, none⟩) n n), (3, .int .i64 (k : Nat)), (9, .int .i64 (x.2 : Nat)), (10, .int .i64 (x.1 : Nat))]) (fun _ => ownS 3 1 (.slice (some ⟨g1, 0, none⟩) (8 * n) cap1) (8 * n) (kindsV cs (8 * n)) :: ownS 3 1 (.slice (some ⟨g2, 0, none⟩) (8 * n) cap2) (8 * n) (kindsV (pruneT cs b) (8 * n)) :: ownS 4 1 (.slice (some ⟨q, 0, none⟩) n n) n (boolsV b n) :: Fr) (fun x => 8 * n - x.1) (0, 0) ⟨Nat.zero_le _, rfl⟩ ⟨rfl, rfl, rfl, rfl, rfl, rfl, trivial⟩ (by (exact en)) ?_
  rintro ⟨i, gn⟩ ⟨hi, hgn⟩
  dsimp only at hi hgn ⊢
  refine t_seq <| sr <| mv rfl rfl <| mv rfl rfl <| l_q rfl (ql rfl yU22) <| l_q rfl (qi rfl rfl (b_lss ·)) <| lc <| t_if rfl (fun c0 => ?_) fun c0 => ?_
  · skip
    have hga : (kindsV cs (8 * n))[0 + ((i : Nat) : Int).toNat]? = some (.int .i64 (cs i).kind) := by rw [Nat.zero_add, Int.toNat_natCast]; exact kindsV_get (by omega)
    have hgb : (kindsV (pruneT cs b) (8 * n))[0 + ((i : Nat) : Int).toNat]? = some (.int .i64 (pruneT cs b i).kind) := by rw [Nat.zero_add, Int.toNat_natCast]; exact kindsV_get (by omega)
    have hgq : (boolsV b n)[0 + (((i : Nat) : Int) / 8).toNat]? = some (.bool (b (i / 8))) := by rw [Nat.zero_add, show (((i : Nat) : Int) / 8).toNat = i / 8 by omega]; exact boolsV_get (by omega)
    have hc1 := cnt_succ isDel cs i
    have hc2 := cnt_succ isDel (pruneT cs b) i
    have hcl := cnt_le isDel cs i
    refine t_skip <| n_code <| t_seq <| t_block <| t_seq <| sr <| mv rfl rfl <| mv rfl rfl <| l_q rfl (q_indexAddr1 rfl rfl yU22 yS3 (by omega)) ?_
    refine l_q rfl (q_loadOwn rfl yA3 tk hga) ?_
    refine l_q rfl (qi rfl rfl (b_neq ·)) <| lc <| t_if rfl (fun c1 => ?_) fun c1 => ?_
    · refine t_seq <| t_seq <| t_draw mixed ?_
      apply dq 0 rfl
      · exact yq (q_move rfl)
      apply dq 1 rfl
      · exact yq (q_move rfl)
      apply dq 2 rfl
      · exact yq (q_indexAddr1 rfl rfl yU22 yS3 (by omega))
      apply dq 3 rfl
      · exact yq (q_loadOwn rfl yA3 tk hgb)
      apply dq 4 rfl
      · exact yq (q_move rfl)
      apply dq 5 rfl
      · exact yq (q_move rfl)
      apply dq 6 rfl
      · exact yq (q_indexAddr1 rfl rfl yU22 yS3 (by omega))
      apply dq 7 rfl
      · exact yq (q_loadOwn rfl yA3 tk hga)
      apply dq 8 rfl
      · exact yq (qi rfl rfl (b_neq ·))
      refine d_end (by kernel_rfl) ?_
      refine n_code ?_
      have hq1 := prune_kind_ne (b := b) c1
      have hd : isDel (cs i) = false := by cases hz : isDel (cs i) with | false => rfl | true => exact absurd (kind_del.1 hz) c1
      rw [hq1, hd] at hc2
      rw [hd] at hc1
      refine t_if rfl (fun c2 => ?_) fun c2 => ?_
      · exact absurd (by rw [hq1]) c2
      · refine t_skip <| n_code <| xt rfl <| n_code <| t_region <| mv rfl rfl <| l_q rfl (qadd rfl rfl) ?_
        refine asg rfl rfl <| l_nil ?_
        apply n_again ((i + 1, gn))
        · exact ⟨Nat.succ_le_of_lt (by omega), by dsimp only; rw [hc1, hc2]; exact hgn⟩
        · (dsimp only; omega)
        · exact ⟨rfl, rfl, rfl, rfl, rfl, rfl, trivial⟩
        · exact en
    · refine t_skip <| n_code <| t_seq <| t_seq <| t_draw mixed ?_
      apply dq 0 rfl
      · exact yq (q_move rfl)
      apply dq 1 rfl
      · exact yq (q_move rfl)
      apply dq 2 rfl
      · exact yq (qquo rfl rfl)
      apply dq 3 rfl
      · exact yq (q_indexAddr1 rfl rfl yU112 yS4 (by omega))
      apply dq 4 rfl
      · exact yq (q_loadOwn rfl yA4 tk hgq)
      apply dq 5 rfl
      · exact yq (q_move rfl)
      apply dq 6 rfl
      · exact yq (q_move rfl)
      apply dq 7 rfl
      · exact yq (q_indexAddr1 rfl rfl yU22 yS3 (by omega))
      apply dq 8 rfl
      · exact yq (q_loadOwn rfl yA3 tk hgb)
      apply dq 9 rfl
      · exact yq (qi rfl rfl (b_eql ·))
      apply dq 10 rfl
      · exact yq (qb rfl rfl (b_neqB · yU4))
      apply dq 11 rfl
      · exact yq (q_move rfl)
      have c1' := Classical.not_not.1 c1
      have hq1 := prune_kind_del (b := b) c1'
      have hd : isDel (cs i) = true := kind_del.2 c1'
      rw [hd] at hc1
      refine d_pt (t := 42) rfl (fun c3 => ?_) fun c3 => ?_
      · skip
        exfalso
        rw [hq1] at c3
        cases hb : b (i / 8) <;> rw [hb] at c3 <;> simp at c3
      · apply dq 12 rfl
        · exact yq_on rfl rfl (q_move rfl)
        apply dq 13 rfl
        · exact yq_on rfl rfl (q_move rfl)
        apply dq 14 rfl
        · exact yq_on rfl rfl (q_indexAddr1 rfl rfl yU22 yS3 (by omega))
        apply dq 15 rfl
        · exact yq_on rfl rfl (q_loadOwn rfl yA3 tk hgb)
        apply dq 16 rfl
        · exact yq_on rfl rfl (qi rfl rfl (b_eql ·))
        apply dq 17 rfl
        · exact yq (q_pk rfl rfl)
        refine d_end (by kernel_rfl) ?_
        refine n_code <| t_if rfl (fun c4 => ?_) fun c4 => ?_
        · exfalso
          rw [hq1] at c4
          split at c4 <;> exact absurd c4 (by decide)
        · refine t_skip <| nz <| mv rfl rfl <| mv rfl rfl <| l_q rfl (q_indexAddr1 rfl rfl yU22 yS3 (by omega)) ?_
          refine l_q rfl (q_loadOwn rfl yA3 tk hgb) ?_
          refine l_q rfl (qi rfl rfl (b_eql ·)) <| lc <| t_if rfl (fun c5 => ?_) fun c5 => ?_
          · refine t_region <| mv rfl rfl <| l_q rfl (qadd rfl rfl) ?_
            refine asg rfl rfl <| l_nil <| n_blk <| n_code <| t_region <| mv rfl rfl <| l_q rfl (qadd rfl rfl) ?_
            refine asg rfl rfl <| l_nil ?_
            have hbi : b (i / 8) = false := by cases hb : b (i / 8) with | false => rfl | true => (rw [hq1, hb] at c5; exact absurd c5 (by decide))
            have hd2 : isDel (pruneT cs b i) = false := by cases hz : isDel (pruneT cs b i) with | false => rfl | true => (have := kind_del.1 hz; rw [c5] at this; exact absurd this (by decide))
            rw [hd2] at hc2
            apply n_again ((i + 1, gn + 1))
            · exact ⟨Nat.succ_le_of_lt (by omega), by dsimp only; rw [hc1, hc2]; simp; omega⟩
            · (dsimp only; omega)
            · exact ⟨rfl, rfl, rfl, rfl, rfl, rfl, trivial⟩
            · exact en
          · refine t_skip <| n_blk <| n_code <| t_region <| mv rfl rfl <| l_q rfl (qadd rfl rfl) ?_
            refine asg rfl rfl <| l_nil ?_
            have hd2 : isDel (pruneT cs b i) = true := kind_del.2 (by rw [hq1] at c5 ⊢; cases hb : b (i / 8) with | true => rfl | false => (rw [hb] at c5; exact absurd rfl c5))
            rw [hd2] at hc2
            apply n_again ((i + 1, gn))
            · exact ⟨Nat.succ_le_of_lt (by omega), by dsimp only; rw [hc1, hc2]; simp; omega⟩
            · (dsimp only; omega)
            · exact ⟨rfl, rfl, rfl, rfl, rfl, rfl, trivial⟩
            · exact en
  · skip
    obtain rfl : i = 8 * n := by omega
    refine xt rfl <| nz <| mv rfl rfl <| mv rfl rfl <| l_q rfl (qi rfl rfl (b_eql ·)) <| asg rfl rfl <| lc <| rt <| fr1 rfl ([ownS 3 1 (.slice (some ⟨g1, 0, none⟩) (8 * n) cap1) (8 * n) (kindsV cs (8 * n)), ownS 3 1 (.slice (some ⟨g2, 0, none⟩) (8 * n) cap2) (8 * n) (kindsV (pruneT cs b) (8 * n)), ownS 4 1 (.slice (some ⟨q, 0, none⟩) n n) n (boolsV b n)]) (.tmp rfl) ?_
    exact ⟨by rw [decide_eq_true (show ((gn : Nat) : Int) = ((k : Nat) : Int) by omega)], rfl⟩
end Go.Proofs.YtgijnebgchkenaaGreatDoor.Grow
