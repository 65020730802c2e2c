/- One step of the laws over scripts: over, makes, plays. -/
import Derived.Test.YthkajgkagnenbaaGreatDoorExactL
set_option linter.unusedVariables false
set_option linter.unusedSimpArgs false
set_option linter.unusedSectionVars false
set_option maxRecDepth 100000
namespace Go.Proofs.YthkajgkagnenbaaGreatDoor.Exact
open Go.RowKit Go.Proofs Go.Proofs.YthkajgkagnenbaaGreatDoor.Eng Go.Proofs.YthkajgkagnenbaaGreatDoor.Ty Go.Proofs.YthkajgkagnenbaaGreatDoor.Bits Go.Proofs.YthkajgkagnenbaaGreatDoor.Mem Go.Proofs.YthkajgkagnenbaaGreatDoor.Search Go.Proofs.YthkajgkagnenbaaGreatDoor.Arena Go.Proofs.YthkajgkagnenbaaGreatDoor.CtrlB Go.Proofs.YthkajgkagnenbaaGreatDoor.Ctrl Go.Proofs.YthkajgkagnenbaaGreatDoor.Layout Go.Proofs.YthkajgkagnenbaaGreatDoor.GroupB Go.Proofs.YthkajgkagnenbaaGreatDoor.Group Go.Proofs.YthkajgkagnenbaaGreatDoor.Probe Go.Proofs.YthkajgkagnenbaaGreatDoor.TableB Go.Proofs.YthkajgkagnenbaaGreatDoor.TableI Go.Proofs.YthkajgkagnenbaaGreatDoor.Table Go.Proofs.YthkajgkagnenbaaGreatDoor.Bench Go.Proofs.YthkajgkagnenbaaGreatDoor.Cells Go.Proofs.YthkajgkagnenbaaGreatDoor.Refill Go.Proofs.YthkajgkagnenbaaGreatDoor.RefA Go.Proofs.YthkajgkagnenbaaGreatDoor.RefT Go.Proofs.YthkajgkagnenbaaGreatDoor.Ref03

section
variable (G : HP) (hG : TabOk G) (pb pa pr : Nat) (l : Lay) (hl : l.err = 0)
theorem over_ok (ps : List PR) (vP : Value) (hlen : ps.length ≤ 1000000000000) : FnOk Tryz.prog 32 #[.pointer (some ⟨pb, 0, none⟩)] [pt pb (.cells #[.pointer (some ⟨pa, 0, none⟩), .pointer (some ⟨pr, 0, none⟩), .int .i64 l.key, .int .i64 l.elem, .int .i64 l.ka, .int .i64 l.ea, .int .i64 l.cap, .int .i64 l.eo, .int .i64 l.bo, .int .i64 l.slot, .int .i64 l.group, vP] 37 (0, 0)), ownS 42 13 vP ps.length (rowOf (pairC pa l) ps), rtsH pr l ps] (fun v L => L = [pt pb (.cells #[.pointer (some ⟨pa, 0, none⟩), .pointer (some ⟨pr, 0, none⟩), .int .i64 l.key, .int .i64 l.elem, .int .i64 l.ka, .int .i64 l.ea, .int .i64 l.cap, .int .i64 l.eo, .int .i64 l.bo, .int .i64 l.slot, .int .i64 l.group, vP] 37 (0, 0)), ownS 42 13 vP ps.length (rowOf (pairC pa l) (ps.map overP)), rtsH pr l ps]) := by
 refine fn_intro en32 Tryz.func32 rfl rfl rfl fun Fr w0 => t_nm ?_
 refine t_shape (.there .here) fun _ hvp => ?_
 obtain ⟨a0, cap, rfl, ha, _, _⟩ := hvp
 refine sr<|mv O O<|l_q O (q_nilCheck O)<|l_q O (qfa 11 rfl yU37 O O yS35)<|l_q O (qld O yA35) ?_
 refine l_q O (ql O yU35)<|mv O O<|lc<|t_block ?_
 refine t_loop (fun i : Nat => i ≤ ps.length) (fun i => [(0, .pointer (some ⟨pb, 0, none⟩)), (7, .int .i64 (ps.length : Nat)), (8, .int .i64 (i : Nat))]) (fun i => pt pb (.cells #[.pointer (some ⟨pa, 0, none⟩), .pointer (some ⟨pr, 0, none⟩), .int .i64 l.key, .int .i64 l.elem, .int .i64 l.ka, .int .i64 l.ea, .int .i64 l.cap, .int .i64 l.eo, .int .i64 l.bo, .int .i64 l.slot, .int .i64 l.group, (.slice a0 ps.length cap)] 37 (0, 0)) :: ownS 42 13 (.slice a0 ps.length cap) ps.length (rowOf (pairC pa l) (mixP ps i)) :: rtsH pr l ps :: Fr) (fun i => ps.length - i) 0 (Nat.zero_le _) ⟨rfl, rfl, rfl, trivial⟩ (by rw [mix_zero]; (exact en)) ?_
 intro i hi
 refine sr<|l_q O (qi O O (b_lss ·))<|lc<|t_seq<|t_if O (fun h1 => ?_) fun h1 => ?_
 ·skip
  have hil : i < ps.length := by omega
  obtain ⟨g0, rfl⟩ := ha (by omega)
  obtain ⟨x, hx⟩ : ∃ x, ps[i]? = some x := ⟨ps[i], List.getElem?_eq_getElem hil⟩
  have hm := mix_get hx
  have hcell : (rowOf (pairC pa l) (mixP ps i))[0 + ((i : Nat) : Int).toNat * 13 + 11]? = some (.pointer (some ⟨x.p, 0, none⟩)) := by
   rw [Nat.zero_add, Int.toNat_natCast, rowOf_get (pair13 pa l) _ i 11 x hm (by decide)]; rfl
  refine t_ent (L' := rtH pr l x :: rtsH pr l (ps.eraseIdx i) :: pt pb (.cells #[.pointer (some ⟨pa, 0, none⟩), .pointer (some ⟨pr, 0, none⟩), .int .i64 l.key, .int .i64 l.elem, .int .i64 l.ka, .int .i64 l.ea, .int .i64 l.cap, .int .i64 l.eo, .int .i64 l.bo, .int .i64 l.slot, .int .i64 l.group, (.slice (some ⟨g0, 0, none⟩) ps.length cap)] 37 (0, 0)) :: ownS 42 13 (.slice (some ⟨g0, 0, none⟩) ps.length cap) ps.length (rowOf (pairC pa l) (mixP ps i)) :: Fr) (fun w h => rts_open hx w ((show Ent _ (rtsH pr l ps :: _) by (exact en)) w h)) ?_
  refine rt_open .here fun vc => ?_
  refine t_skip<|n_code<|t_seq<|t_block<|sr<|mv O O<|asg O O<|lz<|mv O O<|l_q O (q_nilCheck O)<|l_q O (qfa 11 rfl yU37 O O yS35)<|l_q O (qld O yA35) ?_
  refine mv O O<|l_q O (q_indexAddr O O yU35 yS42 (by omega)) ?_
  refine l_q O (qfa 11 rfl yU42 O O yS40) ?_
  apply l_q O
  ·apply q_loadOwn O yA40
   ·exact tk
   ·exact hcell
  refine l_q O (q_nilCheck O)<|l_q O (qfa 18 rfl yU45 O O yS4)<|l_q O (qld O yA4) ?_
  refine lc<|t_if O (fun q => ?_) fun q => ?_
  ·skip
   have hset : (rowOf (pairC pa l) (mixP ps i)).set (0 + ((i : Nat) : Int).toNat * 13 + 12) (.bool true) = rowOf (pairC pa l) (mixP ps (i + 1)) := by
    rw [Nat.zero_add, Int.toNat_natCast, rowOf_set (pair13 pa l) (by decide) _ i x hm (a' := overP x) (by unfold overP pairC; rw [q, Bool.or_true]; rfl), mix_next hx]
   refine t_region<|mv O O<|l_q O (q_nilCheck O)<|l_q O (qfa 11 rfl yU37 O O yS35)<|l_q O (qld O yA35) ?_
   refine mv O O<|l_q O (q_indexAddr O O yU35 yS42 (by omega)) ?_
   refine l_q O (qfa 12 rfl yU42 O O yS4) ?_
   refine o_storeOwn O O O yS4 O tk (by omega) hset ?_
   refine l_nil<|n_blk<|n_code<|t_region<|l_q O (qadd O O) ?_
   refine mv O O<|l_nil ?_
   refine n_ent (L' := pt pb (.cells #[.pointer (some ⟨pa, 0, none⟩), .pointer (some ⟨pr, 0, none⟩), .int .i64 l.key, .int .i64 l.elem, .int .i64 l.ka, .int .i64 l.ea, .int .i64 l.cap, .int .i64 l.eo, .int .i64 l.bo, .int .i64 l.slot, .int .i64 l.group, (.slice (some ⟨g0, 0, none⟩) ps.length cap)] 37 (0, 0)) :: ownS 42 13 (.slice (some ⟨g0, 0, none⟩) ps.length cap) ps.length (rowOf (pairC pa l) (mixP ps (i + 1))) :: rtsH pr l ps :: Fr) (fun w h => ?_) ?_
   ·have h2 := rts_close hil w (rt_close vc (show Ent _ (pt x.p (.cells #[.pointer (some ⟨pr, 0, none⟩), .int .i64 l.key, .int .i64 l.elem, .int .i64 l.ka, .int .i64 l.ea, .int .i64 l.cap, .int .i64 l.eo, .int .i64 l.bo, .int .i64 l.slot, .int .i64 l.group, .int .i64 (x.off : Nat), .int .i64 (x.go : Nat), .int .i64 x.T.used, .int .i64 x.T.left, .int .i64 x.T.depth, .int .i64 x.T.pins, .int .i64 x.T.next, .bool (decide (x.T.kind = 4)), .bool x.dead, vc] 45 (0, 0)) :: ownS 142 5 vc (8 * x.n) (rowOf cellV (firstL x.T.cells (8 * x.n))) :: rtsH pr l (ps.eraseIdx i) :: pt pb (.cells #[.pointer (some ⟨pa, 0, none⟩), .pointer (some ⟨pr, 0, none⟩), .int .i64 l.key, .int .i64 l.elem, .int .i64 l.ka, .int .i64 l.ea, .int .i64 l.cap, .int .i64 l.eo, .int .i64 l.bo, .int .i64 l.slot, .int .i64 l.group, (.slice (some ⟨g0, 0, none⟩) ps.length cap)] 37 (0, 0)) :: ownS 42 13 (.slice (some ⟨g0, 0, none⟩) ps.length cap) ps.length (rowOf (pairC pa l) (mixP ps (i + 1))) :: Fr) by (exact en)) w h)
    rw [set_same hx] at h2
    exact (show Ent (rtsH pr l ps :: pt pb (.cells #[.pointer (some ⟨pa, 0, none⟩), .pointer (some ⟨pr, 0, none⟩), .int .i64 l.key, .int .i64 l.elem, .int .i64 l.ka, .int .i64 l.ea, .int .i64 l.cap, .int .i64 l.eo, .int .i64 l.bo, .int .i64 l.slot, .int .i64 l.group, (.slice (some ⟨g0, 0, none⟩) ps.length cap)] 37 (0, 0)) :: ownS 42 13 (.slice (some ⟨g0, 0, none⟩) ps.length cap) ps.length (rowOf (pairC pa l) (mixP ps (i + 1))) :: Fr) _ by (exact en)) w h2
   apply n_again ((i + 1))
   ·exact by omega
   ·omega
   ·exact ⟨rfl, rfl, rfl, trivial⟩
   ·exact en
  ·skip
   have hov : overP x = x := overP_live (by simpa using q)
   have hnx : mixP ps (i + 1) = mixP ps i := by rw [← mix_next hx, hov, set_same hm]
   refine t_skip<|n_blk<|n_code<|t_region<|l_q O (qadd O O) ?_
   refine mv O O<|l_nil ?_
   refine n_ent (L' := pt pb (.cells #[.pointer (some ⟨pa, 0, none⟩), .pointer (some ⟨pr, 0, none⟩), .int .i64 l.key, .int .i64 l.elem, .int .i64 l.ka, .int .i64 l.ea, .int .i64 l.cap, .int .i64 l.eo, .int .i64 l.bo, .int .i64 l.slot, .int .i64 l.group, (.slice (some ⟨g0, 0, none⟩) ps.length cap)] 37 (0, 0)) :: ownS 42 13 (.slice (some ⟨g0, 0, none⟩) ps.length cap) ps.length (rowOf (pairC pa l) (mixP ps (i + 1))) :: rtsH pr l ps :: Fr) (fun w h => ?_) ?_
   ·rw [hnx]
    have h2 := rts_close hil w (rt_close vc (show Ent _ (pt x.p (.cells #[.pointer (some ⟨pr, 0, none⟩), .int .i64 l.key, .int .i64 l.elem, .int .i64 l.ka, .int .i64 l.ea, .int .i64 l.cap, .int .i64 l.eo, .int .i64 l.bo, .int .i64 l.slot, .int .i64 l.group, .int .i64 (x.off : Nat), .int .i64 (x.go : Nat), .int .i64 x.T.used, .int .i64 x.T.left, .int .i64 x.T.depth, .int .i64 x.T.pins, .int .i64 x.T.next, .bool (decide (x.T.kind = 4)), .bool x.dead, vc] 45 (0, 0)) :: ownS 142 5 vc (8 * x.n) (rowOf cellV (firstL x.T.cells (8 * x.n))) :: rtsH pr l (ps.eraseIdx i) :: pt pb (.cells #[.pointer (some ⟨pa, 0, none⟩), .pointer (some ⟨pr, 0, none⟩), .int .i64 l.key, .int .i64 l.elem, .int .i64 l.ka, .int .i64 l.ea, .int .i64 l.cap, .int .i64 l.eo, .int .i64 l.bo, .int .i64 l.slot, .int .i64 l.group, (.slice (some ⟨g0, 0, none⟩) ps.length cap)] 37 (0, 0)) :: ownS 42 13 (.slice (some ⟨g0, 0, none⟩) ps.length cap) ps.length (rowOf (pairC pa l) (mixP ps i)) :: Fr) by (exact en)) w h)
    rw [set_same hx] at h2
    exact (show Ent (rtsH pr l ps :: pt pb (.cells #[.pointer (some ⟨pa, 0, none⟩), .pointer (some ⟨pr, 0, none⟩), .int .i64 l.key, .int .i64 l.elem, .int .i64 l.ka, .int .i64 l.ea, .int .i64 l.cap, .int .i64 l.eo, .int .i64 l.bo, .int .i64 l.slot, .int .i64 l.group, (.slice (some ⟨g0, 0, none⟩) ps.length cap)] 37 (0, 0)) :: ownS 42 13 (.slice (some ⟨g0, 0, none⟩) ps.length cap) ps.length (rowOf (pairC pa l) (mixP ps i)) :: Fr) _ by (exact en)) w h2
   apply n_again ((i + 1))
   ·exact by omega
   ·omega
   ·exact ⟨rfl, rfl, rfl, trivial⟩
   ·exact en
 ·skip
  obtain rfl : i = ps.length := by omega
  rw [mix_all]
  refine xt O ?_
  apply f_ret (.inr rfl) ([pt pb (.cells #[.pointer (some ⟨pa, 0, none⟩), .pointer (some ⟨pr, 0, none⟩), .int .i64 l.key, .int .i64 l.elem, .int .i64 l.ka, .int .i64 l.ea, .int .i64 l.cap, .int .i64 l.eo, .int .i64 l.bo, .int .i64 l.slot, .int .i64 l.group, (.slice a0 ps.length cap)] 37 (0, 0)), ownS 42 13 (.slice a0 ps.length cap) ps.length (rowOf (pairC pa l) (ps.map overP)), rtsH pr l ps])
  ·exact res0 O
  ·rfl
  ·exact en
end
theorem new_cases (pa pr : Nat) (s : ArS) (hs : s.ok) (l : Lay) (hl : l.err = 0) (slots depth : Int) (hsl : -9223372036854775808 ≤ slots ∧ slots ≤ 9223372036854775807) :
  (∃ c : Int, c ≠ 0 ∧ FnOk Tryz.prog 52 #[.pointer (some ⟨pa, 0, none⟩), .agg #[.int .i64 l.key, .int .i64 l.elem, .int .i64 l.ka, .int .i64 l.ea, .int .i64 l.cap, .int .i64 l.eo, .int .i64 l.bo, .int .i64 l.slot, .int .i64 l.group], .int .i64 slots, .int .i64 depth] [arenaH pa s] (fun v L => v = .tuple #[.agg #[.pointer none, .int .i64 0, .int .i64 0, .int .i64 0, .int .i64 0, .int .i64 0, .int .i64 0, .int .i64 0, .int .i64 0, .int .i64 0, .int .i64 0], .int .i64 c] ∧ L = [arenaH pa s]) ∧
   FnOk Tryz.prog 58 #[.pointer (some ⟨pr, 0, none⟩), .agg #[.int .i64 l.key, .int .i64 l.elem, .int .i64 l.ka, .int .i64 l.ea, .int .i64 l.cap, .int .i64 l.eo, .int .i64 l.bo, .int .i64 l.slot, .int .i64 l.group], .int .i64 slots, .int .i64 depth] [rarH pr s] (fun v L => v = .tuple #[.pointer none, .int .i64 c] ∧ L = [rarH pr s])) ∨
  ∃ n e : Nat, n = 2 ^ e ∧ e ≤ 13 ∧ slots = 8 * (n : Int) ∧ (0 ≤ depth ∧ depth ≤ 6) ∧ ((n * gN l : Nat) : Int) ≤ 1048576 ∧ s.live + (64 + classI ((n * gN l : Nat) : Int)) ≤ s.limit ∧
   FnOk Tryz.prog 58 #[.pointer (some ⟨pr, 0, none⟩), .agg #[.int .i64 l.key, .int .i64 l.elem, .int .i64 l.ka, .int .i64 l.ea, .int .i64 l.cap, .int .i64 l.eo, .int .i64 l.bo, .int .i64 l.slot, .int .i64 l.group], .int .i64 slots, .int .i64 depth] [rarH pr s] (fun v L => ∃ p, v = .tuple #[.pointer (some ⟨p, 0, none⟩), .int .i64 0] ∧ L = [rtH pr l (⟨p, s.at 64, (s.take 64).at (classI ((n * gN l : Nat) : Int)), n, e, newT n depth, false, false⟩ : PR), rarH pr ((s.take 64).take (classI ((n * gN l : Nat) : Int)))]) := by
 have hR := RNewT_ok pr s hs l hl slots depth hsl
 have hpw := Probe.powB_iff slots 8 3 16 65536 (by decide) (by decide) (by decide)
 cases hb : Probe.powB slots 8 65536 with
 | false =>
  refine .inl ⟨80, by decide, (FnOk.beside (New_slots pa #[.int .i64 l.key, .int .i64 l.elem, .int .i64 l.ka, .int .i64 l.ea, .int .i64 l.cap, .int .i64 l.eo, .int .i64 l.bo, .int .i64 l.slot, .int .i64 l.group] slots depth hsl hb) (arenaH pa s)).mono fun v L ⟨L0, e, h1, h2⟩ => ⟨h1, by rw [e, h2]⟩, hR.mono fun v L h => ?_⟩
  rcases h with ⟨_, h1, h2⟩ | ⟨h1, _⟩ | ⟨n, e, h1, h2, h3, _⟩
  ·exact ⟨h1, h2⟩
  ·rw [hb] at h1; cases h1
  ·exfalso
   have := hpw.2 ⟨e + 3, by omega, by omega, by have hc := pow_cast e; rw [h3, h1, Int.pow_add]; omega⟩
   exact absurd (hb.symm.trans this) (by decide)
 | true =>
  by_cases hd : depth < 0 ∨ 6 < depth
  ·refine .inl ⟨81, by decide, (FnOk.beside (New_depth pa #[.int .i64 l.key, .int .i64 l.elem, .int .i64 l.ka, .int .i64 l.ea, .int .i64 l.cap, .int .i64 l.eo, .int .i64 l.bo, .int .i64 l.slot, .int .i64 l.group] slots depth hb hd) (arenaH pa s)).mono fun v L ⟨L0, e, h1, h2⟩ => ⟨h1, by rw [e, h2]⟩, hR.mono fun v L h => ?_⟩
   rcases h with ⟨h0, h1, h2⟩ | ⟨_, _, h1, h2⟩ | ⟨n, e, h1, h2, h3, h4, _⟩
   ·rw [hb] at h0; cases h0
   ·exact ⟨h1, h2⟩
   ·omega
  ·obtain ⟨k, k1, k2, k3⟩ := hpw.1 hb
   obtain ⟨e, rfl⟩ : ∃ e, k = e + 3 := ⟨k - 3, by omega⟩
   obtain ⟨n, hn⟩ : ∃ n, n = 2 ^ e := ⟨_, rfl⟩
   have hc := pow_cast e
   rw [← hn] at hc
   have hsn : slots = 8 * (n : Int) := by rw [k3, Int.pow_add]; omega
   have huq : ∀ {n' e' : Nat}, n' = 2 ^ e' → slots = 8 * (n' : Int) → n' = n ∧ e' = e := fun {n' e'} h1 h2 => by
    have h3 : n' = n := by omega
    refine ⟨h3, ?_⟩
    rw [h1, hn] at h3
    exact (Nat.pow_right_inj (by decide)).1 h3
   by_cases hf : 1048576 < ((n * gN l : Nat) : Int) ∨ s.limit - s.live < 64 + classI ((n * gN l : Nat) : Int)
   ·refine .inl ⟨22, by decide, (Table.New_ok pa n e s l slots depth hl (by omega) hn hsn (by omega)).mono fun v L h => ?_, hR.mono fun v L h => ?_⟩
    ·rcases h with ⟨_, h1, h2⟩ | ⟨h1, h2, _⟩
     ·exact ⟨h1, h2⟩
     ·omega
    ·rcases h with ⟨h0, h1, h2⟩ | ⟨_, h0, _⟩ | ⟨n', e', h1, h2, h3, h4, ⟨h5, h6, h7⟩ | ⟨h5, h6, _⟩⟩
     ·rw [hb] at h0; cases h0
     ·omega
     ·exact ⟨h6, h7⟩
     ·obtain ⟨rfl, _⟩ := huq h1 h3
      omega
   ·refine .inr ⟨n, e, hn, by omega, hsn, by omega, by omega, by omega, hR.mono fun v L h => ?_⟩
    rcases h with ⟨h0, h1, h2⟩ | ⟨_, h0, _⟩ | ⟨n', e', h1, h2, h3, h4, ⟨h5, h6, h7⟩ | ⟨h5, h6, h7⟩⟩
    ·rw [hb] at h0; cases h0
    ·omega
    ·obtain ⟨rfl, _⟩ := huq h1 h3
     omega
    ·obtain ⟨rfl, rfl⟩ := huq h1 h3
     exact h7
theorem newfit8 (pa n e : Nat) (s : ArS) (l : Lay) (slots depth : Int) (hl : l.err = 0) (he : e ≤ 13) (hn : n = 2 ^ e) (hslots : slots = 8 * (n : Int)) (hd : 0 ≤ depth ∧ depth ≤ 6) (hsm : ((n * gN l : Nat) : Int) ≤ 1048576) (hfit : s.live + (64 + classI ((n * gN l : Nat) : Int)) ≤ s.limit) (o g : Nat) (ho : s.at 64 = o) (hg : (s.take 64).at (classI ((n * gN l : Nat) : Int)) = g) :
  FnOk Tryz.prog 52 #[.pointer (some ⟨pa, 0, none⟩), .agg #[.int .i64 l.key, .int .i64 l.elem, .int .i64 l.ka, .int .i64 l.ea, .int .i64 l.cap, .int .i64 l.eo, .int .i64 l.bo, .int .i64 l.slot, .int .i64 l.group], .int .i64 slots, .int .i64 depth] [arenaH pa s]
   (fun v L => ∃ s', v = .tuple #[.agg #[.pointer (some ⟨pa, 0, none⟩), .int .i64 l.key, .int .i64 l.elem, .int .i64 l.ka, .int .i64 l.ea, .int .i64 l.cap, .int .i64 l.eo, .int .i64 l.bo, .int .i64 l.slot, .int .i64 l.group, .int .i64 ((o : Nat) : Int)], .int .i64 0] ∧ L = [arenaH pa s'] ∧ TabP s' o g l n e (newT n depth) ∧ NewS s s' (classI ((n * gN l : Nat) : Int)) ∧ TailZ s' g (n * gN l) (classI ((n * gN l : Nat) : Int))) := by
 subst ho hg
 refine FnOk.mono (Table.New_okT pa n e s l slots depth hl he hn hslots hd) fun v L h => ?_
 rcases h with ⟨hb, _⟩ | ⟨_, _, h⟩
 ·omega
 ·exact h
section
variable (G : HP) (hG : TabOk G) (pb pa pr : Nat) (l : Lay) (hl : l.err = 0)
include hl
theorem makes_ok (s : ArS) (hs : s.ok) (ps : List PR) (vP : Value) (hlen : ps.length ≤ 980000000000) (hA : All s l ps) (o : Op8) (hw : o.wf) : FnOk Tryz.prog 29 #[.pointer (some ⟨pb, 0, none⟩), .agg #[.int .i64 o.kind, .int .i64 o.t, .int .i64 o.n, .int .i64 o.m, .int .u64 o.h, .string o.k, .string o.e]] [pt pb (.cells #[.pointer (some ⟨pa, 0, none⟩), .pointer (some ⟨pr, 0, none⟩), .int .i64 l.key, .int .i64 l.elem, .int .i64 l.ka, .int .i64 l.ea, .int .i64 l.cap, .int .i64 l.eo, .int .i64 l.bo, .int .i64 l.slot, .int .i64 l.group, vP] 37 (0, 0)), ownS 42 13 vP ps.length (rowOf (pairC pa l) ps), rtsH pr l ps, rarH pr s, arenaH pa s] (fun v L => ∃ s' ps' vP', v = .bool true ∧ L = [pt pb (.cells #[.pointer (some ⟨pa, 0, none⟩), .pointer (some ⟨pr, 0, none⟩), .int .i64 l.key, .int .i64 l.elem, .int .i64 l.ka, .int .i64 l.ea, .int .i64 l.cap, .int .i64 l.eo, .int .i64 l.bo, .int .i64 l.slot, .int .i64 l.group, vP'] 37 (0, 0)), ownS 42 13 vP' ps'.length (rowOf (pairC pa l) ps'), rtsH pr l ps', rarH pr s', arenaH pa s'] ∧ All s' l ps' ∧ ps'.length + deadN ps' ≤ ps.length + deadN ps + 1) := by
 refine fn_intro en29 Tryz.func29 rfl rfl rfl fun Fr w0 => t_nm ?_
 rcases new_cases pa pr s hs l hl o.n o.m hw.n with ⟨c, hc, hp, hr⟩ | ⟨n, e, hn, he, hsl, hdp, hsm, hfit, hr⟩
 ·skip
  refine sr<|o_boxA O O fun b3 => asg O O<|lc<|t_seq<|t_draw mixed ?_
  apply dq 0 rfl
  ·exact yq (q_move O)
  apply dq 1 rfl
  ·exact yq (q_nilCheck O)
  apply dq 2 rfl
  ·exact yq (qfa 0 rfl yU37 O O yS31)
  apply dq 3 rfl
  ·exact yq (qld O yA31)
  apply dq 4 rfl
  ·exact yq (q_move O)
  apply dq 5 rfl
  ·exact yq (q_nilCheck O)
  apply dq 6 rfl
  ·exact yq (qfa 2 rfl yU37 O O yS34)
  apply dq 7 rfl
  ·exact yq (qlda O yA34 yS34)
  apply dq 8 rfl
  ·exact yq (qfa 2 rfl yU29 O O yS3)
  apply dq 9 rfl
  ·exact yq (qld O yA3)
  apply dq 10 rfl
  ·exact yq (qfa 3 rfl yU29 O O yS3)
  apply dq 11 rfl
  ·exact yq (qld O yA3)
  apply d_eff2 12 16
  ·kernel_rfl
  ·apply effAt (q1 := [3, 7, 9, 11, 2, 6, 8, 10, 1, 5, 0, 4]) (q2 := []) [(13, _), (17, _), (19, _), (21, _)]
   ·exact gO
   ·exact ⟨rfl, rfl, rfl, rfl, trivial⟩
   ·kernel_rfl
   intro Ex
   refine lc1 O O O (hp) ?_
   refine l_nil ?_
   apply n_d
   ·exact trivial
   apply dq 13 rfl
   ·exact yq (q_move O)
   apply dq 14 rfl
   ·exact yq (q_extractL O ga)
   apply dq 15 rfl
   ·exact yq (q_extractL O ga)
   refine d_eff1 [] [15, 14, 13] 16 [] gO trivial (by kernel_rfl) (by kernel_rfl) fun Ex => ?_
   refine o_allocA O yZ39 fun b5 => l_nil ?_
   apply n_d
   ·refine ⟨?_, ?_, ?_, trivial⟩
    ·apply ya O O; exact yq (q_extractL O ga)
    ·apply ya O O; exact yq (q_extractL O ga)
    ·apply ya O O; exact yq (q_move O)
   refine d_eff1 [14, 13] [15] 17 [(5, _), (23, _)] gO ⟨rfl, rfl, trivial⟩ (by kernel_rfl) (by kernel_rfl) fun Ex => ?_
   refine sta O O O yS39 O O ?_
   refine l_nil ?_
   apply n_d
   ·refine ⟨?_, trivial⟩
    ·apply ya O O; exact yq (q_extractL O ga)
   refine d_eff1 [15] [] 18 [(24, _)] gO ⟨rfl, trivial⟩ (by kernel_rfl) (by kernel_rfl) fun Ex => ?_
   refine asg O O<|l_nil ?_
   apply n_d
   ·exact trivial
   refine d_end (by kernel_rfl) ?_
   refine n_code<|t_seq<|t_draw mixed ?_
   apply dq 0 rfl
   ·exact yq (q_move O)
   apply dq 1 rfl
   ·exact yq (q_nilCheck O)
   apply dq 2 rfl
   ·exact yq (qfa 1 rfl yU37 O O yS32)
   apply dq 3 rfl
   ·exact yq (qld O yA32)
   apply dq 4 rfl
   ·exact yq (q_move O)
   apply dq 5 rfl
   ·exact yq (q_nilCheck O)
   apply dq 6 rfl
   ·exact yq (qfa 2 rfl yU37 O O yS34)
   apply dq 7 rfl
   ·exact yq (qlda O yA34 yS34)
   apply dq 8 rfl
   ·exact yq (qfa 2 rfl yU29 O O yS3)
   apply dq 9 rfl
   ·exact yq (qld O yA3)
   apply dq 10 rfl
   ·exact yq (qfa 3 rfl yU29 O O yS3)
   apply dq 11 rfl
   ·exact yq (qld O yA3)
   refine d_eff1 [3, 7, 9, 11, 2, 6, 8, 10, 1, 5, 0, 4] [] 12 [(29, _), (33, _), (35, _), (37, _)] gO ⟨rfl, rfl, rfl, rfl, trivial⟩ (by kernel_rfl) (by kernel_rfl) fun Ex => ?_
   refine lc1 O O O (hr) ?_
   refine l_nil ?_
   apply n_d
   ·exact trivial
   apply dq 13 rfl
   ·exact yq (q_move O)
   apply dq 14 rfl
   ·exact yq (q_extractL O ga)
   apply dq 15 rfl
   ·exact yq (q_extractL O ga)
   refine d_eff1 [14, 13] [15] 16 [(39, _)] gO ⟨rfl, trivial⟩ (by kernel_rfl) (by kernel_rfl) fun Ex => ?_
   refine asg O O<|l_nil ?_
   apply n_d
   ·refine ⟨?_, trivial⟩
    ·apply ya O O; exact yq (q_extractL O ga)
   refine d_eff1 [15] [] 17 [(40, _)] gO ⟨rfl, trivial⟩ (by kernel_rfl) (by kernel_rfl) fun Ex => ?_
   refine asg O O<|l_nil ?_
   apply n_d
   ·exact trivial
   refine d_end (by kernel_rfl) ?_
   refine n_code<|t_seq<|sr<|mv O O<|lc1 O O O (num8_ok _) ?_
   refine mv O O<|l_q O (qi O O (b_neq ·))<|lc<|t_if O (fun z1 => ?_) fun z1 => ?_
   ·exact absurd rfl z1
   ·refine t_skip<|n_code<|t_seq<|sr<|mv O O<|l_q O (qi O O (b_neq ·))<|lc<|t_if O (fun z2 => ?_) fun z2 => ?_
    ·refine sr<|asg O O<|lc<|rt<|fr1 O ([pt pb (.cells #[.pointer (some ⟨pa, 0, none⟩), .pointer (some ⟨pr, 0, none⟩), .int .i64 l.key, .int .i64 l.elem, .int .i64 l.ka, .int .i64 l.ea, .int .i64 l.cap, .int .i64 l.eo, .int .i64 l.bo, .int .i64 l.slot, .int .i64 l.group, vP] 37 (0, 0)), ownS 42 13 vP ps.length (rowOf (pairC pa l) ps), rtsH pr l ps, rarH pr s, arenaH pa s]) (.tmp rfl) ?_
     exact ⟨s, ps, vP, rfl, rfl, hA, by omega⟩
    ·exact absurd hc z2
  ·apply effAt (q1 := []) (q2 := [11, 10, 9, 8, 7, 6, 5, 4, 3, 2, 1, 0]) []
   ·exact gO
   ·exact trivial
   ·kernel_rfl
   intro Ex
   refine o_allocA O yZ39 fun b5 => l_nil ?_
   apply n_d
   ·refine ⟨?_, ?_, ?_, ?_, ?_, ?_, ?_, ?_, ?_, ?_, ?_, ?_, trivial⟩
    ·apply ya O O; exact yq (qld O yA3)
    ·apply ya O O; exact yq (qfa 3 rfl yU29 O O yS3)
    ·apply ya O O; exact yq (qld O yA3)
    ·apply ya O O; exact yq (qfa 2 rfl yU29 O O yS3)
    ·apply ya O O; exact yq (qlda O yA34 yS34)
    ·apply ya O O; exact yq (qfa 2 rfl yU37 O O yS34)
    ·apply ya O O; exact yq (q_nilCheck O)
    ·apply ya O O; exact yq (q_move O)
    ·apply ya O O; exact yq (qld O yA31)
    ·apply ya O O; exact yq (qfa 0 rfl yU37 O O yS31)
    ·apply ya O O; exact yq (q_nilCheck O)
    ·apply ya O O; exact yq (q_move O)
   refine d_eff1 [3, 7, 9, 11, 2, 6, 8, 10, 1, 5, 0, 4] [] 12 [(13, _), (17, _), (19, _), (21, _)] gO ⟨rfl, rfl, rfl, rfl, trivial⟩ (by kernel_rfl) (by kernel_rfl) fun Ex => ?_
   refine lc1 O O O (hp) ?_
   refine l_nil ?_
   apply n_d
   ·exact trivial
   apply dq 13 rfl
   ·exact yq (q_move O)
   apply dq 14 rfl
   ·exact yq (q_extractL O ga)
   apply dq 15 rfl
   ·exact yq (q_extractL O ga)
   refine d_eff1 [14, 13] [15] 17 [(5, _), (23, _)] gO ⟨rfl, rfl, trivial⟩ (by kernel_rfl) (by kernel_rfl) fun Ex => ?_
   refine sta O O O yS39 O O ?_
   refine l_nil ?_
   apply n_d
   ·refine ⟨?_, trivial⟩
    ·apply ya O O; exact yq (q_extractL O ga)
   refine d_eff1 [15] [] 18 [(24, _)] gO ⟨rfl, trivial⟩ (by kernel_rfl) (by kernel_rfl) fun Ex => ?_
   refine asg O O<|l_nil ?_
   apply n_d
   ·exact trivial
   refine d_end (by kernel_rfl) ?_
   refine n_code<|t_seq<|t_draw mixed ?_
   apply dq 0 rfl
   ·exact yq (q_move O)
   apply dq 1 rfl
   ·exact yq (q_nilCheck O)
   apply dq 2 rfl
   ·exact yq (qfa 1 rfl yU37 O O yS32)
   apply dq 3 rfl
   ·exact yq (qld O yA32)
   apply dq 4 rfl
   ·exact yq (q_move O)
   apply dq 5 rfl
   ·exact yq (q_nilCheck O)
   apply dq 6 rfl
   ·exact yq (qfa 2 rfl yU37 O O yS34)
   apply dq 7 rfl
   ·exact yq (qlda O yA34 yS34)
   apply dq 8 rfl
   ·exact yq (qfa 2 rfl yU29 O O yS3)
   apply dq 9 rfl
   ·exact yq (qld O yA3)
   apply dq 10 rfl
   ·exact yq (qfa 3 rfl yU29 O O yS3)
   apply dq 11 rfl
   ·exact yq (qld O yA3)
   refine d_eff1 [3, 7, 9, 11, 2, 6, 8, 10, 1, 5, 0, 4] [] 12 [(29, _), (33, _), (35, _), (37, _)] gO ⟨rfl, rfl, rfl, rfl, trivial⟩ (by kernel_rfl) (by kernel_rfl) fun Ex => ?_
   refine lc1 O O O (hr) ?_
   refine l_nil ?_
   apply n_d
   ·exact trivial
   apply dq 13 rfl
   ·exact yq (q_move O)
   apply dq 14 rfl
   ·exact yq (q_extractL O ga)
   apply dq 15 rfl
   ·exact yq (q_extractL O ga)
   refine d_eff1 [14, 13] [15] 16 [(39, _)] gO ⟨rfl, trivial⟩ (by kernel_rfl) (by kernel_rfl) fun Ex => ?_
   refine asg O O<|l_nil ?_
   apply n_d
   ·refine ⟨?_, trivial⟩
    ·apply ya O O; exact yq (q_extractL O ga)
   refine d_eff1 [15] [] 17 [(40, _)] gO ⟨rfl, trivial⟩ (by kernel_rfl) (by kernel_rfl) fun Ex => ?_
   refine asg O O<|l_nil ?_
   apply n_d
   ·exact trivial
   refine d_end (by kernel_rfl) ?_
   refine n_code<|t_seq<|sr<|mv O O<|lc1 O O O (num8_ok _) ?_
   refine mv O O<|l_q O (qi O O (b_neq ·))<|lc<|t_if O (fun z1 => ?_) fun z1 => ?_
   ·exact absurd rfl z1
   ·refine t_skip<|n_code<|t_seq<|sr<|mv O O<|l_q O (qi O O (b_neq ·))<|lc<|t_if O (fun z2 => ?_) fun z2 => ?_
    ·refine sr<|asg O O<|lc<|rt<|fr1 O ([pt pb (.cells #[.pointer (some ⟨pa, 0, none⟩), .pointer (some ⟨pr, 0, none⟩), .int .i64 l.key, .int .i64 l.elem, .int .i64 l.ka, .int .i64 l.ea, .int .i64 l.cap, .int .i64 l.eo, .int .i64 l.bo, .int .i64 l.slot, .int .i64 l.group, vP] 37 (0, 0)), ownS 42 13 vP ps.length (rowOf (pairC pa l) ps), rtsH pr l ps, rarH pr s, arenaH pa s]) (.tmp rfl) ?_
     exact ⟨s, ps, vP, rfl, rfl, hA, by omega⟩
    ·exact absurd hc z2
 ·skip
  have hC1 := (classI_bnd (n := ((n * gN l : Nat) : Int)) (by have := (layN hl).g_eq; have := Nat.mul_le_mul_right (gN l) (show 1 ≤ n by rw [hn]; exact Nat.two_pow_pos e); omega)).2.2 hsm
  obtain ⟨o1, ho1⟩ : ∃ o1, s.at 64 = o1 := ⟨_, rfl⟩
  obtain ⟨g1, hg1⟩ : ∃ g1, (s.take 64).at (classI ((n * gN l : Nat) : Int)) = g1 := ⟨_, rfl⟩
  have hnew := newfit8 pa n e s l o.n o.m hl he hn hsl hdp hsm hfit o1 g1 ho1 hg1
  rw [ho1, hg1] at hr
  refine sr<|o_boxA O O fun b3 => asg O O<|lc<|t_seq<|t_draw mixed ?_
  apply dq 0 rfl
  ·exact yq (q_move O)
  apply dq 1 rfl
  ·exact yq (q_nilCheck O)
  apply dq 2 rfl
  ·exact yq (qfa 0 rfl yU37 O O yS31)
  apply dq 3 rfl
  ·exact yq (qld O yA31)
  apply dq 4 rfl
  ·exact yq (q_move O)
  apply dq 5 rfl
  ·exact yq (q_nilCheck O)
  apply dq 6 rfl
  ·exact yq (qfa 2 rfl yU37 O O yS34)
  apply dq 7 rfl
  ·exact yq (qlda O yA34 yS34)
  apply dq 8 rfl
  ·exact yq (qfa 2 rfl yU29 O O yS3)
  apply dq 9 rfl
  ·exact yq (qld O yA3)
  apply dq 10 rfl
  ·exact yq (qfa 3 rfl yU29 O O yS3)
  apply dq 11 rfl
  ·exact yq (qld O yA3)
  apply d_eff2 12 16
  ·kernel_rfl
  ·apply effAt (q1 := [3, 7, 9, 11, 2, 6, 8, 10, 1, 5, 0, 4]) (q2 := []) [(13, _), (17, _), (19, _), (21, _)]
   ·exact gO
   ·exact ⟨rfl, rfl, rfl, rfl, trivial⟩
   ·kernel_rfl
   intro Ex
   refine lcf O O O (hnew) ?_
   rintro v L' ⟨s', rfl, rfl, hT, hN, hZ⟩
   refine l_nm ?_
   refine l_nil ?_
   apply n_d
   ·exact trivial
   apply dq 13 rfl
   ·exact yq (q_move O)
   apply dq 14 rfl
   ·exact yq (q_extractL O ga)
   apply dq 15 rfl
   ·exact yq (q_extractL O ga)
   refine d_eff1 [] [15, 14, 13] 16 [] gO trivial (by kernel_rfl) (by kernel_rfl) fun Ex => ?_
   refine o_allocA O yZ39 fun b5 => l_nil ?_
   apply n_d
   ·refine ⟨?_, ?_, ?_, trivial⟩
    ·apply ya O O; exact yq (q_extractL O ga)
    ·apply ya O O; exact yq (q_extractL O ga)
    ·apply ya O O; exact yq (q_move O)
   refine d_eff1 [14, 13] [15] 17 [(5, _), (23, _)] gO ⟨rfl, rfl, trivial⟩ (by kernel_rfl) (by kernel_rfl) fun Ex => ?_
   refine sta O O O yS39 O O ?_
   refine l_nil ?_
   apply n_d
   ·refine ⟨?_, trivial⟩
    ·apply ya O O; exact yq (q_extractL O ga)
   refine d_eff1 [15] [] 18 [(24, _)] gO ⟨rfl, trivial⟩ (by kernel_rfl) (by kernel_rfl) fun Ex => ?_
   refine asg O O<|l_nil ?_
   apply n_d
   ·exact trivial
   refine d_end (by kernel_rfl) ?_
   refine n_code<|t_seq<|t_draw mixed ?_
   apply dq 0 rfl
   ·exact yq (q_move O)
   apply dq 1 rfl
   ·exact yq (q_nilCheck O)
   apply dq 2 rfl
   ·exact yq (qfa 1 rfl yU37 O O yS32)
   apply dq 3 rfl
   ·exact yq (qld O yA32)
   apply dq 4 rfl
   ·exact yq (q_move O)
   apply dq 5 rfl
   ·exact yq (q_nilCheck O)
   apply dq 6 rfl
   ·exact yq (qfa 2 rfl yU37 O O yS34)
   apply dq 7 rfl
   ·exact yq (qlda O yA34 yS34)
   apply dq 8 rfl
   ·exact yq (qfa 2 rfl yU29 O O yS3)
   apply dq 9 rfl
   ·exact yq (qld O yA3)
   apply dq 10 rfl
   ·exact yq (qfa 3 rfl yU29 O O yS3)
   apply dq 11 rfl
   ·exact yq (qld O yA3)
   refine d_eff1 [3, 7, 9, 11, 2, 6, 8, 10, 1, 5, 0, 4] [] 12 [(29, _), (33, _), (35, _), (37, _)] gO ⟨rfl, rfl, rfl, rfl, trivial⟩ (by kernel_rfl) (by kernel_rfl) fun Ex => ?_
   refine lcf O O O (hr) ?_
   rintro v L' ⟨p, rfl, rfl⟩
   refine l_nm ?_
   refine l_nil ?_
   apply n_d
   ·exact trivial
   apply dq 13 rfl
   ·exact yq (q_move O)
   apply dq 14 rfl
   ·exact yq (q_extractL O ga)
   apply dq 15 rfl
   ·exact yq (q_extractL O ga)
   refine d_eff1 [14, 13] [15] 16 [(39, _)] gO ⟨rfl, trivial⟩ (by kernel_rfl) (by kernel_rfl) fun Ex => ?_
   refine asg O O<|l_nil ?_
   apply n_d
   ·refine ⟨?_, trivial⟩
    ·apply ya O O; exact yq (q_extractL O ga)
   refine d_eff1 [15] [] 17 [(40, _)] gO ⟨rfl, trivial⟩ (by kernel_rfl) (by kernel_rfl) fun Ex => ?_
   refine asg O O<|l_nil ?_
   apply n_d
   ·exact trivial
   refine d_end (by kernel_rfl) ?_
   refine n_code<|t_seq<|sr<|mv O O<|lc1 O O O (num8_ok _) ?_
   refine mv O O<|l_q O (qi O O (b_neq ·))<|lc<|t_if O (fun z1 => ?_) fun z1 => ?_
   ·exact absurd rfl z1
   ·refine t_skip<|n_code<|t_seq<|sr<|mv O O<|l_q O (qi O O (b_neq ·))<|lc<|t_if O (fun z2 => ?_) fun z2 => ?_
    ·exact absurd rfl z2
    ·refine t_skip<|nz<|mv O O<|lcf O O O (over_ok pb pa pr l ps vP (by omega)) ?_
     rintro v L' rfl
     refine l_nm ?_
     refine rt_openL (x := ⟨p, o1, g1, n, e, newT n o.m, false, false⟩) tk fun vc => ?_
     dsimp only
     refine lc<|t_seq<|t_seq<|t_draw mixed ?_
     apply dq 0 rfl
     ·exact yq (qlda O yA39 yS39)
     apply dq 2 rfl
     ·exact yq (q_move O)
     apply dq 3 rfl
     ·exact yq (q_nilCheck O)
     apply dq 4 rfl
     ·exact yq (qfa 10 rfl yU45 O O yS3)
     apply dq 5 rfl
     ·exact yq (qld O yA3)
     refine d_eff1 [0] [5, 4, 3, 2] 1 [(49, _)] gO ⟨rfl, trivial⟩ (by kernel_rfl) (by kernel_rfl) fun Ex => ?_
     refine lc1 O O O (TOff8_ok pa l (o1 : Nat)) ?_
     refine l_nil ?_
     apply n_d
     ·refine ⟨?_, ?_, ?_, ?_, trivial⟩
      ·apply ya O O; exact yq (qld O yA3)
      ·apply ya O O; exact yq (qfa 10 rfl yU45 O O yS3)
      ·apply ya O O; exact yq (q_nilCheck O)
      ·apply ya O O; exact yq (q_move O)
     apply dq 6 rfl
     ·exact yq (qi O O (b_neq ·))
     refine d_end (by kernel_rfl) ?_
     refine n_code<|t_if O (fun z3 => ?_) fun z3 => ?_
     ·exact absurd rfl z3
     ·skip
      have hx1 : One s' l ⟨p, o1, g1, n, e, newT n o.m, false, false⟩ := by
       refine ⟨he, hn, TRng.new n o.m, fun _ => ⟨hT, (hN.bl _).2 (.inr (.inl (by rw [ho1]))), (hN.bl _).2 (.inr (.inr (by rw [hg1]))), hsm⟩, fun q => (by cases q), ?_, fun _ => hZ⟩
       have := at_bnd hs c64 (by omega)
       rw [ho1] at this
       show o1 ≤ 1000000000
       omega
      have hA' := hA.push hs hC1.2 (by omega) hN hx1 ho1.symm hg1.symm
      have ok64 := ArS.take_ok hs c64 (by omega)
      have hra : rarH pr s' = rarH pr ((s.take 64).take (classI ((n * gN l : Nat) : Int))) := rar_congr (hN.limit.trans ((take_limit ok64).trans (take_limit hs)).symm) hN.all hN.dead
      rw [← hra]
      have hrow : rowOf (pairC pa l) (ps.map overP) ++ ([Value.agg #[.pointer (some ⟨pa, 0, none⟩), .int .i64 l.key, .int .i64 l.elem, .int .i64 l.ka, .int .i64 l.ea, .int .i64 l.cap, .int .i64 l.eo, .int .i64 l.bo, .int .i64 l.slot, .int .i64 l.group, .int .i64 (o1 : Nat), .pointer (some ⟨p, 0, none⟩), .bool false]].flatMap fun x => x.cells.toList).toArray.toList = rowOf (pairC pa l) (ps.map overP ++ [⟨p, o1, g1, n, e, newT n o.m, false, false⟩]) := by rw [rowOf_app]; rfl
      refine t_skip<|n_code<|t_seq<|t_draw mixed ?_
      apply dq 0 rfl
      ·exact yq (q_move O)
      apply dq 1 rfl
      ·exact yq (q_move O)
      apply dq 2 rfl
      ·exact yq (q_nilCheck O)
      apply dq 3 rfl
      ·exact yq (qfa 11 rfl yU37 O O yS35)
      apply dq 4 rfl
      ·exact yq (qld O yA35)
      apply dq 5 rfl
      ·exact yq (qlda O yA39 yS39)
      apply dq 6 rfl
      ·exact yq (q_move O)
      apply dq 7 rfl
      ·apply yq
       apply q_buildS O yP42 yZ42
       ·apply FillR.all
        ·repeat (first | exact PlAt.here | apply PlAt.there)
        ·rfl
        ·simp
        ·exact sal
        apply FillR.one
        ·repeat (first | exact PlAt.here | apply PlAt.there)
        ·rfl
        ·exact sa
        exact FillR.nil
      refine d_eff1 [7, 5, 6] [4, 3, 2, 1, 0] 8 [(63, _)] gO ⟨rfl, trivial⟩ (by kernel_rfl) (by kernel_rfl) fun Ex => ?_
      refine o_buildSlice (us := [_]) rfl rfl yU35 yS42 yZ42 O O O O O (fun b64 => ?_)
      refine l_nil ?_
      apply n_d
      ·refine ⟨?_, ?_, ?_, ?_, ?_, trivial⟩
       ·apply ya O O; exact yq (qld O yA35)
       ·apply ya O O; exact yq (qfa 11 rfl yU37 O O yS35)
       ·apply ya O O; exact yq (q_nilCheck O)
       ·apply ya O O; exact yq (q_move O)
       ·apply ya O O; exact yq (q_move O)
      refine d_eff1 [4, 3, 2, 1] [0] 9 [(60, _), (64, _)] gO ⟨rfl, rfl, trivial⟩ (by kernel_rfl) (by kernel_rfl) fun Ex => ?_
      apply o_append (sz := 13) rfl rfl rfl yU35 yI42 O O
      ·exact tk
      ·exact tk
      ·rfl
      ·rfl
      ·simp only [maxLen]; omega
      ·omega
      intro v65
      refine l_shape (v := v65) tk fun _ hs65 => ?_
      obtain ⟨a65, cap65, rfl, hs65, _, _⟩ := hs65
      refine l_nil ?_
      apply n_d
      ·refine ⟨?_, trivial⟩
       ·apply ya O O; exact yq (q_move O)
      apply dq 10 rfl
      ·exact yq (q_nilCheck O)
      apply dq 11 rfl
      ·exact yq (qfa 11 rfl yU37 O O yS35)
      refine d_eff1 [11, 0, 10] [] 12 [(67, _), (65, _)] gO ⟨rfl, rfl, trivial⟩ (by kernel_rfl) (by kernel_rfl) fun Ex => ?_
      refine st O O O yS35 O ?_
      refine l_nil ?_
      apply n_d
      ·exact trivial
      refine d_end (by kernel_rfl) ?_
      refine nz<|asg O O<|lc<|rt ?_
      rw [hrow, ← rts_over pr l ps]
      refine n_ent (L' := pt pb (.cells #[.pointer (some ⟨pa, 0, none⟩), .pointer (some ⟨pr, 0, none⟩), .int .i64 l.key, .int .i64 l.elem, .int .i64 l.ka, .int .i64 l.ea, .int .i64 l.cap, .int .i64 l.eo, .int .i64 l.bo, .int .i64 l.slot, .int .i64 l.group, (.slice a65 (ps.length + 1) cap65)] 37 (0, 0)) :: ownS 42 13 (.slice a65 (ps.length + 1) cap65) (ps.length + 1) (rowOf (pairC pa l) (ps.map overP ++ [⟨p, o1, g1, n, e, newT n o.m, false, false⟩])) :: rtsH pr l (ps.map overP ++ [⟨p, o1, g1, n, e, newT n o.m, false, false⟩]) :: rarH pr s' :: arenaH pa s' :: Fr) (fun w h => ?_) ?_
      ·have h2 := rts_push w (rt_close (x := ⟨p, o1, g1, n, e, newT n o.m, false, false⟩) vc (R := rtsH pr l (ps.map overP) :: pt pb (.cells #[.pointer (some ⟨pa, 0, none⟩), .pointer (some ⟨pr, 0, none⟩), .int .i64 l.key, .int .i64 l.elem, .int .i64 l.ka, .int .i64 l.ea, .int .i64 l.cap, .int .i64 l.eo, .int .i64 l.bo, .int .i64 l.slot, .int .i64 l.group, (.slice a65 (ps.length + 1) cap65)] 37 (0, 0)) :: ownS 42 13 (.slice a65 (ps.length + 1) cap65) (ps.length + 1) (rowOf (pairC pa l) (ps.map overP ++ [⟨p, o1, g1, n, e, newT n o.m, false, false⟩])) :: rarH pr s' :: arenaH pa s' :: Fr) (by dsimp only; (exact en)) w h)
       exact (show Ent (rtsH pr l (ps.map overP ++ [⟨p, o1, g1, n, e, newT n o.m, false, false⟩]) :: pt pb (.cells #[.pointer (some ⟨pa, 0, none⟩), .pointer (some ⟨pr, 0, none⟩), .int .i64 l.key, .int .i64 l.elem, .int .i64 l.ka, .int .i64 l.ea, .int .i64 l.cap, .int .i64 l.eo, .int .i64 l.bo, .int .i64 l.slot, .int .i64 l.group, (.slice a65 (ps.length + 1) cap65)] 37 (0, 0)) :: ownS 42 13 (.slice a65 (ps.length + 1) cap65) (ps.length + 1) (rowOf (pairC pa l) (ps.map overP ++ [⟨p, o1, g1, n, e, newT n o.m, false, false⟩])) :: rarH pr s' :: arenaH pa s' :: Fr) _ by (exact en)) w h2
      refine fr1 O ([pt pb (.cells #[.pointer (some ⟨pa, 0, none⟩), .pointer (some ⟨pr, 0, none⟩), .int .i64 l.key, .int .i64 l.elem, .int .i64 l.ka, .int .i64 l.ea, .int .i64 l.cap, .int .i64 l.eo, .int .i64 l.bo, .int .i64 l.slot, .int .i64 l.group, (.slice a65 (ps.length + 1) cap65)] 37 (0, 0)), ownS 42 13 (.slice a65 (ps.length + 1) cap65) (ps.length + 1) (rowOf (pairC pa l) (ps.map overP ++ [⟨p, o1, g1, n, e, newT n o.m, false, false⟩])), rtsH pr l (ps.map overP ++ [⟨p, o1, g1, n, e, newT n o.m, false, false⟩]), rarH pr s', arenaH pa s']) (.tmp rfl) ?_
      exact ⟨s', _, .slice a65 (ps.length + 1) cap65, rfl, by rw [show (ps.map overP ++ [(⟨p, o1, g1, n, e, newT n o.m, false, false⟩ : PR)]).length = ps.length + 1 by simp], hA', by rw [deadN_app _ _ rfl, deadN_over]; simp; omega⟩
  ·apply effAt (q1 := []) (q2 := [11, 10, 9, 8, 7, 6, 5, 4, 3, 2, 1, 0]) []
   ·exact gO
   ·exact trivial
   ·kernel_rfl
   intro Ex
   refine o_allocA O yZ39 fun b5 => l_nil ?_
   apply n_d
   ·refine ⟨?_, ?_, ?_, ?_, ?_, ?_, ?_, ?_, ?_, ?_, ?_, ?_, trivial⟩
    ·apply ya O O; exact yq (qld O yA3)
    ·apply ya O O; exact yq (qfa 3 rfl yU29 O O yS3)
    ·apply ya O O; exact yq (qld O yA3)
    ·apply ya O O; exact yq (qfa 2 rfl yU29 O O yS3)
    ·apply ya O O; exact yq (qlda O yA34 yS34)
    ·apply ya O O; exact yq (qfa 2 rfl yU37 O O yS34)
    ·apply ya O O; exact yq (q_nilCheck O)
    ·apply ya O O; exact yq (q_move O)
    ·apply ya O O; exact yq (qld O yA31)
    ·apply ya O O; exact yq (qfa 0 rfl yU37 O O yS31)
    ·apply ya O O; exact yq (q_nilCheck O)
    ·apply ya O O; exact yq (q_move O)
   refine d_eff1 [3, 7, 9, 11, 2, 6, 8, 10, 1, 5, 0, 4] [] 12 [(13, _), (17, _), (19, _), (21, _)] gO ⟨rfl, rfl, rfl, rfl, trivial⟩ (by kernel_rfl) (by kernel_rfl) fun Ex => ?_
   refine lcf O O O (hnew) ?_
   rintro v L' ⟨s', rfl, rfl, hT, hN, hZ⟩
   refine l_nm ?_
   refine l_nil ?_
   apply n_d
   ·exact trivial
   apply dq 13 rfl
   ·exact yq (q_move O)
   apply dq 14 rfl
   ·exact yq (q_extractL O ga)
   apply dq 15 rfl
   ·exact yq (q_extractL O ga)
   refine d_eff1 [14, 13] [15] 17 [(5, _), (23, _)] gO ⟨rfl, rfl, trivial⟩ (by kernel_rfl) (by kernel_rfl) fun Ex => ?_
   refine sta O O O yS39 O O ?_
   refine l_nil ?_
   apply n_d
   ·refine ⟨?_, trivial⟩
    ·apply ya O O; exact yq (q_extractL O ga)
   refine d_eff1 [15] [] 18 [(24, _)] gO ⟨rfl, trivial⟩ (by kernel_rfl) (by kernel_rfl) fun Ex => ?_
   refine asg O O<|l_nil ?_
   apply n_d
   ·exact trivial
   refine d_end (by kernel_rfl) ?_
   refine n_code<|t_seq<|t_draw mixed ?_
   apply dq 0 rfl
   ·exact yq (q_move O)
   apply dq 1 rfl
   ·exact yq (q_nilCheck O)
   apply dq 2 rfl
   ·exact yq (qfa 1 rfl yU37 O O yS32)
   apply dq 3 rfl
   ·exact yq (qld O yA32)
   apply dq 4 rfl
   ·exact yq (q_move O)
   apply dq 5 rfl
   ·exact yq (q_nilCheck O)
   apply dq 6 rfl
   ·exact yq (qfa 2 rfl yU37 O O yS34)
   apply dq 7 rfl
   ·exact yq (qlda O yA34 yS34)
   apply dq 8 rfl
   ·exact yq (qfa 2 rfl yU29 O O yS3)
   apply dq 9 rfl
   ·exact yq (qld O yA3)
   apply dq 10 rfl
   ·exact yq (qfa 3 rfl yU29 O O yS3)
   apply dq 11 rfl
   ·exact yq (qld O yA3)
   refine d_eff1 [3, 7, 9, 11, 2, 6, 8, 10, 1, 5, 0, 4] [] 12 [(29, _), (33, _), (35, _), (37, _)] gO ⟨rfl, rfl, rfl, rfl, trivial⟩ (by kernel_rfl) (by kernel_rfl) fun Ex => ?_
   refine lcf O O O (hr) ?_
   rintro v L' ⟨p, rfl, rfl⟩
   refine l_nm ?_
   refine l_nil ?_
   apply n_d
   ·exact trivial
   apply dq 13 rfl
   ·exact yq (q_move O)
   apply dq 14 rfl
   ·exact yq (q_extractL O ga)
   apply dq 15 rfl
   ·exact yq (q_extractL O ga)
   refine d_eff1 [14, 13] [15] 16 [(39, _)] gO ⟨rfl, trivial⟩ (by kernel_rfl) (by kernel_rfl) fun Ex => ?_
   refine asg O O<|l_nil ?_
   apply n_d
   ·refine ⟨?_, trivial⟩
    ·apply ya O O; exact yq (q_extractL O ga)
   refine d_eff1 [15] [] 17 [(40, _)] gO ⟨rfl, trivial⟩ (by kernel_rfl) (by kernel_rfl) fun Ex => ?_
   refine asg O O<|l_nil ?_
   apply n_d
   ·exact trivial
   refine d_end (by kernel_rfl) ?_
   refine n_code<|t_seq<|sr<|mv O O<|lc1 O O O (num8_ok _) ?_
   refine mv O O<|l_q O (qi O O (b_neq ·))<|lc<|t_if O (fun z1 => ?_) fun z1 => ?_
   ·exact absurd rfl z1
   ·refine t_skip<|n_code<|t_seq<|sr<|mv O O<|l_q O (qi O O (b_neq ·))<|lc<|t_if O (fun z2 => ?_) fun z2 => ?_
    ·exact absurd rfl z2
    ·refine t_skip<|nz<|mv O O<|lcf O O O (over_ok pb pa pr l ps vP (by omega)) ?_
     rintro v L' rfl
     refine l_nm ?_
     refine rt_openL (x := ⟨p, o1, g1, n, e, newT n o.m, false, false⟩) tk fun vc => ?_
     dsimp only
     refine lc<|t_seq<|t_seq<|t_draw mixed ?_
     apply dq 0 rfl
     ·exact yq (qlda O yA39 yS39)
     apply dq 2 rfl
     ·exact yq (q_move O)
     apply dq 3 rfl
     ·exact yq (q_nilCheck O)
     apply dq 4 rfl
     ·exact yq (qfa 10 rfl yU45 O O yS3)
     apply dq 5 rfl
     ·exact yq (qld O yA3)
     refine d_eff1 [0] [5, 4, 3, 2] 1 [(49, _)] gO ⟨rfl, trivial⟩ (by kernel_rfl) (by kernel_rfl) fun Ex => ?_
     refine lc1 O O O (TOff8_ok pa l (o1 : Nat)) ?_
     refine l_nil ?_
     apply n_d
     ·refine ⟨?_, ?_, ?_, ?_, trivial⟩
      ·apply ya O O; exact yq (qld O yA3)
      ·apply ya O O; exact yq (qfa 10 rfl yU45 O O yS3)
      ·apply ya O O; exact yq (q_nilCheck O)
      ·apply ya O O; exact yq (q_move O)
     apply dq 6 rfl
     ·exact yq (qi O O (b_neq ·))
     refine d_end (by kernel_rfl) ?_
     refine n_code<|t_if O (fun z3 => ?_) fun z3 => ?_
     ·exact absurd rfl z3
     ·skip
      have hx1 : One s' l ⟨p, o1, g1, n, e, newT n o.m, false, false⟩ := by
       refine ⟨he, hn, TRng.new n o.m, fun _ => ⟨hT, (hN.bl _).2 (.inr (.inl (by rw [ho1]))), (hN.bl _).2 (.inr (.inr (by rw [hg1]))), hsm⟩, fun q => (by cases q), ?_, fun _ => hZ⟩
       have := at_bnd hs c64 (by omega)
       rw [ho1] at this
       show o1 ≤ 1000000000
       omega
      have hA' := hA.push hs hC1.2 (by omega) hN hx1 ho1.symm hg1.symm
      have ok64 := ArS.take_ok hs c64 (by omega)
      have hra : rarH pr s' = rarH pr ((s.take 64).take (classI ((n * gN l : Nat) : Int))) := rar_congr (hN.limit.trans ((take_limit ok64).trans (take_limit hs)).symm) hN.all hN.dead
      rw [← hra]
      have hrow : rowOf (pairC pa l) (ps.map overP) ++ ([Value.agg #[.pointer (some ⟨pa, 0, none⟩), .int .i64 l.key, .int .i64 l.elem, .int .i64 l.ka, .int .i64 l.ea, .int .i64 l.cap, .int .i64 l.eo, .int .i64 l.bo, .int .i64 l.slot, .int .i64 l.group, .int .i64 (o1 : Nat), .pointer (some ⟨p, 0, none⟩), .bool false]].flatMap fun x => x.cells.toList).toArray.toList = rowOf (pairC pa l) (ps.map overP ++ [⟨p, o1, g1, n, e, newT n o.m, false, false⟩]) := by rw [rowOf_app]; rfl
      refine t_skip<|n_code<|t_seq<|t_draw mixed ?_
      apply dq 0 rfl
      ·exact yq (q_move O)
      apply dq 1 rfl
      ·exact yq (q_move O)
      apply dq 2 rfl
      ·exact yq (q_nilCheck O)
      apply dq 3 rfl
      ·exact yq (qfa 11 rfl yU37 O O yS35)
      apply dq 4 rfl
      ·exact yq (qld O yA35)
      apply dq 5 rfl
      ·exact yq (qlda O yA39 yS39)
      apply dq 6 rfl
      ·exact yq (q_move O)
      apply dq 7 rfl
      ·apply yq
       apply q_buildS O yP42 yZ42
       ·apply FillR.all
        ·repeat (first | exact PlAt.here | apply PlAt.there)
        ·rfl
        ·simp
        ·exact sal
        apply FillR.one
        ·repeat (first | exact PlAt.here | apply PlAt.there)
        ·rfl
        ·exact sa
        exact FillR.nil
      refine d_eff1 [7, 5, 6] [4, 3, 2, 1, 0] 8 [(63, _)] gO ⟨rfl, trivial⟩ (by kernel_rfl) (by kernel_rfl) fun Ex => ?_
      refine o_buildSlice (us := [_]) rfl rfl yU35 yS42 yZ42 O O O O O (fun b64 => ?_)
      refine l_nil ?_
      apply n_d
      ·refine ⟨?_, ?_, ?_, ?_, ?_, trivial⟩
       ·apply ya O O; exact yq (qld O yA35)
       ·apply ya O O; exact yq (qfa 11 rfl yU37 O O yS35)
       ·apply ya O O; exact yq (q_nilCheck O)
       ·apply ya O O; exact yq (q_move O)
       ·apply ya O O; exact yq (q_move O)
      refine d_eff1 [4, 3, 2, 1] [0] 9 [(60, _), (64, _)] gO ⟨rfl, rfl, trivial⟩ (by kernel_rfl) (by kernel_rfl) fun Ex => ?_
      apply o_append (sz := 13) rfl rfl rfl yU35 yI42 O O
      ·exact tk
      ·exact tk
      ·rfl
      ·rfl
      ·simp only [maxLen]; omega
      ·omega
      intro v65
      refine l_shape (v := v65) tk fun _ hs65 => ?_
      obtain ⟨a65, cap65, rfl, hs65, _, _⟩ := hs65
      refine l_nil ?_
      apply n_d
      ·refine ⟨?_, trivial⟩
       ·apply ya O O; exact yq (q_move O)
      apply dq 10 rfl
      ·exact yq (q_nilCheck O)
      apply dq 11 rfl
      ·exact yq (qfa 11 rfl yU37 O O yS35)
      refine d_eff1 [11, 0, 10] [] 12 [(67, _), (65, _)] gO ⟨rfl, rfl, trivial⟩ (by kernel_rfl) (by kernel_rfl) fun Ex => ?_
      refine st O O O yS35 O ?_
      refine l_nil ?_
      apply n_d
      ·exact trivial
      refine d_end (by kernel_rfl) ?_
      refine nz<|asg O O<|lc<|rt ?_
      rw [hrow, ← rts_over pr l ps]
      refine n_ent (L' := pt pb (.cells #[.pointer (some ⟨pa, 0, none⟩), .pointer (some ⟨pr, 0, none⟩), .int .i64 l.key, .int .i64 l.elem, .int .i64 l.ka, .int .i64 l.ea, .int .i64 l.cap, .int .i64 l.eo, .int .i64 l.bo, .int .i64 l.slot, .int .i64 l.group, (.slice a65 (ps.length + 1) cap65)] 37 (0, 0)) :: ownS 42 13 (.slice a65 (ps.length + 1) cap65) (ps.length + 1) (rowOf (pairC pa l) (ps.map overP ++ [⟨p, o1, g1, n, e, newT n o.m, false, false⟩])) :: rtsH pr l (ps.map overP ++ [⟨p, o1, g1, n, e, newT n o.m, false, false⟩]) :: rarH pr s' :: arenaH pa s' :: Fr) (fun w h => ?_) ?_
      ·have h2 := rts_push w (rt_close (x := ⟨p, o1, g1, n, e, newT n o.m, false, false⟩) vc (R := rtsH pr l (ps.map overP) :: pt pb (.cells #[.pointer (some ⟨pa, 0, none⟩), .pointer (some ⟨pr, 0, none⟩), .int .i64 l.key, .int .i64 l.elem, .int .i64 l.ka, .int .i64 l.ea, .int .i64 l.cap, .int .i64 l.eo, .int .i64 l.bo, .int .i64 l.slot, .int .i64 l.group, (.slice a65 (ps.length + 1) cap65)] 37 (0, 0)) :: ownS 42 13 (.slice a65 (ps.length + 1) cap65) (ps.length + 1) (rowOf (pairC pa l) (ps.map overP ++ [⟨p, o1, g1, n, e, newT n o.m, false, false⟩])) :: rarH pr s' :: arenaH pa s' :: Fr) (by dsimp only; (exact en)) w h)
       exact (show Ent (rtsH pr l (ps.map overP ++ [⟨p, o1, g1, n, e, newT n o.m, false, false⟩]) :: pt pb (.cells #[.pointer (some ⟨pa, 0, none⟩), .pointer (some ⟨pr, 0, none⟩), .int .i64 l.key, .int .i64 l.elem, .int .i64 l.ka, .int .i64 l.ea, .int .i64 l.cap, .int .i64 l.eo, .int .i64 l.bo, .int .i64 l.slot, .int .i64 l.group, (.slice a65 (ps.length + 1) cap65)] 37 (0, 0)) :: ownS 42 13 (.slice a65 (ps.length + 1) cap65) (ps.length + 1) (rowOf (pairC pa l) (ps.map overP ++ [⟨p, o1, g1, n, e, newT n o.m, false, false⟩])) :: rarH pr s' :: arenaH pa s' :: Fr) _ by (exact en)) w h2
      refine fr1 O ([pt pb (.cells #[.pointer (some ⟨pa, 0, none⟩), .pointer (some ⟨pr, 0, none⟩), .int .i64 l.key, .int .i64 l.elem, .int .i64 l.ka, .int .i64 l.ea, .int .i64 l.cap, .int .i64 l.eo, .int .i64 l.bo, .int .i64 l.slot, .int .i64 l.group, (.slice a65 (ps.length + 1) cap65)] 37 (0, 0)), ownS 42 13 (.slice a65 (ps.length + 1) cap65) (ps.length + 1) (rowOf (pairC pa l) (ps.map overP ++ [⟨p, o1, g1, n, e, newT n o.m, false, false⟩])), rtsH pr l (ps.map overP ++ [⟨p, o1, g1, n, e, newT n o.m, false, false⟩]), rarH pr s', arenaH pa s']) (.tmp rfl) ?_
      exact ⟨s', _, .slice a65 (ps.length + 1) cap65, rfl, by rw [show (ps.map overP ++ [(⟨p, o1, g1, n, e, newT n o.m, false, false⟩ : PR)]).length = ps.length + 1 by simp], hA', by rw [deadN_app _ _ rfl, deadN_over]; simp; omega⟩
end
end Go.Proofs.YthkajgkagnenbaaGreatDoor.Exact
