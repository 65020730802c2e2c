import Derived.Test.YthkajgkagnenbaaGreatDoorArenaW
import Derived.Test.YthkajgkagnenbaaGreatDoorRefT2
section
/- The document's class of a size; the arena's live bytes. -/
set_option linter.unusedVariables false
set_option linter.unusedSimpArgs false
set_option maxRecDepth 100000
namespace Go.Proofs.YthkajgkagnenbaaGreatDoor.Arena
open Go.RowKit Go.Proofs Go.Proofs.YthkajgkagnenbaaGreatDoor.Eng Go.Proofs.YthkajgkagnenbaaGreatDoor.Ty Go.Proofs.YthkajgkagnenbaaGreatDoor.Bits Go.Proofs.YthkajgkagnenbaaGreatDoor.Mem Go.Proofs.YthkajgkagnenbaaGreatDoor.Search

end Go.Proofs.YthkajgkagnenbaaGreatDoor.Arena
end
section
/- One step of the laws over scripts, by the program's table and the document's: searches, changes. -/
set_option linter.unusedVariables false
set_option linter.unusedSimpArgs false
set_option linter.unusedSectionVars false
set_option maxRecDepth 100000
namespace Go.Proofs.YthkajgkagnenbaaGreatDoor.Exact
open Go.RowKit Go.Proofs Go.Proofs.YthkajgkagnenbaaGreatDoor.Eng Go.Proofs.YthkajgkagnenbaaGreatDoor.Ty Go.Proofs.YthkajgkagnenbaaGreatDoor.Bits Go.Proofs.YthkajgkagnenbaaGreatDoor.Mem Go.Proofs.YthkajgkagnenbaaGreatDoor.Search Go.Proofs.YthkajgkagnenbaaGreatDoor.Arena Go.Proofs.YthkajgkagnenbaaGreatDoor.CtrlB Go.Proofs.YthkajgkagnenbaaGreatDoor.Ctrl Go.Proofs.YthkajgkagnenbaaGreatDoor.Layout Go.Proofs.YthkajgkagnenbaaGreatDoor.GroupB Go.Proofs.YthkajgkagnenbaaGreatDoor.Group Go.Proofs.YthkajgkagnenbaaGreatDoor.Probe Go.Proofs.YthkajgkagnenbaaGreatDoor.TableB Go.Proofs.YthkajgkagnenbaaGreatDoor.TableI Go.Proofs.YthkajgkagnenbaaGreatDoor.Table Go.Proofs.YthkajgkagnenbaaGreatDoor.Bench Go.Proofs.YthkajgkagnenbaaGreatDoor.Cells Go.Proofs.YthkajgkagnenbaaGreatDoor.Refill Go.Proofs.YthkajgkagnenbaaGreatDoor.RefA Go.Proofs.YthkajgkagnenbaaGreatDoor.RefT Go.Proofs.YthkajgkagnenbaaGreatDoor.Ref03

/-- A call of a script. -/
structure Op8 where
 kind : Int
 t : Int
 n : Int
 m : Int
 h : Int
 k : ByteArray
 e : ByteArray
structure Op8.wf (o : Op8) : Prop where
 kind : -9223372036854775808 ≤ o.kind ∧ o.kind ≤ 9223372036854775807
 t : -9223372036854775808 ≤ o.t ∧ o.t ≤ 9223372036854775807
 n : -9223372036854775808 ≤ o.n ∧ o.n ≤ 9223372036854775807
 m : -9223372036854775808 ≤ o.m ∧ o.m ≤ 9223372036854775807
 h : 0 ≤ o.h ∧ o.h < 18446744073709551616
theorem num8_ok (e : Int) : FnOk Tryz.prog 28 #[.int .i64 e] [] (fun v L => v = .int .i64 e ∧ L = []) := by
 refine fn_intro en28 Tryz.func28 rfl rfl rfl fun Fr w0 => t_nm ?_
 exact sr<|asg O O<|lz<|mv O O<|asg O O<|lc<|rt<|fr1 O ([]) (.tmp rfl) ⟨rfl, rfl⟩
/-- What a change leaves of a table and the arena. -/
inductive Chg (s : ArS) (l : Lay) (x : PR) : ArS → PR → Prop
 | step (s' : ArS) (T' : Tb) : Step s s' l x T' → Chg s l x s' { x with T := T' }
 | free : x.dead = false → Chg s l x (s.gives [((x.off : Nat) : Int), ((x.go : Nat) : Int)]) { x with dead := true }
section
variable (G : HP) (hG : TabOk G) (pa pr : Nat) (s : ArS) (hs : s.ok) (l : Lay) (hl : l.err = 0) (x : PR) (hO : One s l x) (hov : x.over = false)
include hG hs hl hO hov
theorem One.nb : 0 < x.n ∧ x.n ≤ 8192 := by
 have h1 := hO.hn
 have h2 := Nat.two_pow_pos x.e
 have h3 : 2 ^ x.e ≤ 2 ^ 13 := Nat.pow_le_pow_right (by decide) hO.he
 omega
theorem FreeXl : FnOk Tryz.prog 92 #[.agg #[.pointer (some ⟨pa, 0, none⟩), .int .i64 l.key, .int .i64 l.elem, .int .i64 l.ka, .int .i64 l.ea, .int .i64 l.cap, .int .i64 l.eo, .int .i64 l.bo, .int .i64 l.slot, .int .i64 l.group, .int .i64 (x.off : Nat)]] [arenaH pa s] (fun v L => v = .int .i64 (freeX x) ∧ ((x.dead = true ∧ L = [arenaH pa s]) ∨ (x.dead = false ∧ L = [arenaH pa (s.gives [((x.off : Nat) : Int), ((x.go : Nat) : Int)])]))) := by
 unfold freeX
 cases hd : x.dead with
 | true =>
  obtain ⟨hng, hne⟩ := hO.not hs hd hov
  exact (TFree_dead pa x.off s l hng hne hO.place).mono fun v L h => ⟨h.1, .inl ⟨rfl, h.2⟩⟩
 | false =>
  obtain ⟨h1, h2, h3, h4⟩ := hO.live hd
  exact (TFree_ok pa x.off x.go x.n x.e s l x.T h1 _ _ h2 h3).mono fun v L h => ⟨h.1, .inr ⟨rfl, h.2⟩⟩
theorem searches_ok (o : Op8) (hw : o.wf) : FnOk Tryz.prog 34 #[.agg #[.pointer (some ⟨pa, 0, none⟩), .int .i64 l.key, .int .i64 l.elem, .int .i64 l.ka, .int .i64 l.ea, .int .i64 l.cap, .int .i64 l.eo, .int .i64 l.bo, .int .i64 l.slot, .int .i64 l.group, .int .i64 (x.off : Nat), .pointer (some ⟨x.p, 0, none⟩), .bool x.over], .agg #[.int .i64 o.kind, .int .i64 o.t, .int .i64 o.n, .int .i64 o.m, .int .u64 o.h, .string o.k, .string o.e]] [G, arenaH pa s, rtH pr l x] (fun v L => v = .bool true ∧ L = [G, arenaH pa s, rtH pr l x]) := by
 obtain ⟨hn0, hn8⟩ := One.nb G hG s hs l hl x hO hov
 refine fn_intro en34 Tryz.func34 rfl rfl rfl fun Fr w0 => t_nm ?_
 refine sr<|o_boxA O O fun b2 => o_boxA O O fun b3 => asg O O<|lc<|t_seq<|sr<|l_q O (qfa 0 rfl yU29 O O yS3)<|l_q O (qld O yA3) ?_
 refine lc<|t_block<|sr<|l_q O (qi O O (b_eql ·))<|asg O O<|lc<|t_if O (fun k1 => ?_) fun k1 => ?_
 ·refine sr<|l_q O (qfa 0 rfl yU42 O O yS39)<|l_q O (qlda O yA39 yS39) ?_
  refine l_q O (qfa 4 rfl yU29 O O yS27)<|l_q O (qld O yA27) ?_
  refine l_q O (qfa 5 rfl yU29 O O yS9)<|l_q O (qld O yA9) ?_
  refine lc1 O O O (FindX G hG pa s hs l hl x hO hov o.h hw.h o.k) ?_
  refine mv O O<|l_q O (q_extractL O ga) ?_
  refine l_q O (q_extractL O ga) ?_
  refine asg O O<|asg O O<|lz<|l_q O (qfa 11 rfl yU42 O O yS40)<|l_q O (qld O yA40) ?_
  refine l_q O (qfa 4 rfl yU29 O O yS27)<|l_q O (qld O yA27) ?_
  refine l_q O (qfa 5 rfl yU29 O O yS9)<|l_q O (qld O yA9) ?_
  refine lc1 O O O (RFind_ok pr l x hn8 hn0 o.h hw.h o.k) ?_
  refine mv O O<|l_q O (q_extractL O ga) ?_
  refine l_q O (q_extractL O ga) ?_
  refine asg O O<|asg O O<|lz<|mv O O<|mv O O<|l_q O (qi O O (b_eql ·))<|mv O O<|l_pt (t := 44) rfl (fun z1 => ?_) fun z1 => ?_
  ·refine l_on O O<|mv O O<|l_on O O<|lc1 O O O (num8_ok _) ?_
   refine l_on O O<|mv O O<|l_on O O<|l_q O (qi O O (b_eql ·))<|l_q O (q_pk O O)<|asg O O<|lc<|rt<|fr1 O ([G, arenaH pa s, rtH pr l x]) (.tmp rfl) ?_
   exact ⟨by rw [decT rfl], rfl⟩
  ·exact absurd rfl z1
 ·refine sr<|l_q O (qi O O (b_eql ·))<|asg O O<|lc<|t_if O (fun k2 => ?_) fun k2 => ?_
  ·refine sr<|l_q O (qfa 0 rfl yU42 O O yS39)<|l_q O (qlda O yA39 yS39) ?_
   refine l_q O (qfa 4 rfl yU29 O O yS27)<|l_q O (qld O yA27) ?_
   refine l_q O (qfa 5 rfl yU29 O O yS9)<|l_q O (qld O yA9) ?_
   refine lc1 O O O (GetX G hG pa s hs l hl x hO hov o.h hw.h o.k) ?_
   refine mv O O<|l_q O (q_extractL O ga) ?_
   refine l_q O (q_extractL O ga) ?_
   refine o_allocA O yZ142 fun b9 => sta O O O yS142 O O ?_
   refine asg O O<|lz<|l_q O (qfa 11 rfl yU42 O O yS40)<|l_q O (qld O yA40) ?_
   refine l_q O (qfa 4 rfl yU29 O O yS27)<|l_q O (qld O yA27) ?_
   refine l_q O (qfa 5 rfl yU29 O O yS9)<|l_q O (qld O yA9) ?_
   refine lc1 O O O (RGet_ok pr l x hn8 hn0 o.h hw.h o.k) ?_
   refine mv O O<|l_q O (q_extractL O ga) ?_
   refine l_q O (q_extractL O ga) ?_
   refine o_allocA O yZ142 fun b11 => sta O O O yS142 O O ?_
   refine asg O O<|lz<|l_q O (qlda O yA142 yS142) ?_
   refine l_q O (qlda O yA142 yS142) ?_
   refine l_q O (q_bin O O (g_flat · yG142) fun w => b_eqlFlat w yU142 yH142 (by kernel_rfl) (by kernel_rfl)) ?_
   refine mv O O<|l_pt (t := 75) rfl (fun z1 => ?_) fun z1 => ?_
   ·refine l_on O O<|mv O O<|l_on O O<|lc1 O O O (num8_ok _) ?_
    refine l_on O O<|mv O O<|l_on O O<|l_q O (qi O O (b_eql ·))<|l_q O (q_pk O O)<|asg O O<|lc<|rt<|fr1 O ([G, arenaH pa s, rtH pr l x]) (.tmp rfl) ?_
    exact ⟨by rw [decT rfl], rfl⟩
   ·exact absurd ((decT rfl).symm.trans z1) (by decide)
  ·refine t_skip<|n_blk<|nz<|l_q O (qfa 0 rfl yU42 O O yS39)<|l_q O (qlda O yA39 yS39) ?_
   refine l_q O (qfa 4 rfl yU29 O O yS27)<|l_q O (qld O yA27) ?_
   refine l_q O (qfa 5 rfl yU29 O O yS9)<|l_q O (qld O yA9) ?_
   refine lc1 O O O (ProbesX G hG pa s hs l hl x hO hov o.h hw.h o.k) ?_
   refine mv O O<|l_q O (q_extractL O ga) ?_
   refine l_q O (q_extractL O ga) ?_
   refine asg O O<|asg O O<|lz<|l_q O (qfa 11 rfl yU42 O O yS40)<|l_q O (qld O yA40) ?_
   refine l_q O (qfa 4 rfl yU29 O O yS27)<|l_q O (qld O yA27) ?_
   refine l_q O (qfa 5 rfl yU29 O O yS9)<|l_q O (qld O yA9) ?_
   refine lc1 O O O (RProbes_ok pr l x hn8 hn0 o.h hw.h o.k) ?_
   refine mv O O<|l_q O (q_extractL O ga) ?_
   refine l_q O (q_extractL O ga) ?_
   refine asg O O<|asg O O<|lz<|mv O O<|mv O O<|l_q O (qi O O (b_eql ·))<|mv O O<|l_pt (t := 104) rfl (fun z1 => ?_) fun z1 => ?_
   ·refine l_on O O<|mv O O<|l_on O O<|lc1 O O O (num8_ok _) ?_
    refine l_on O O<|mv O O<|l_on O O<|l_q O (qi O O (b_eql ·))<|l_q O (q_pk O O)<|asg O O<|lc<|rt<|fr1 O ([G, arenaH pa s, rtH pr l x]) (.tmp rfl) ?_
    exact ⟨by rw [decT rfl], rfl⟩
   ·exact absurd rfl z1
theorem changes_ok (o : Op8) (hw : o.wf) : FnOk Tryz.prog 35 #[.agg #[.pointer (some ⟨pa, 0, none⟩), .int .i64 l.key, .int .i64 l.elem, .int .i64 l.ka, .int .i64 l.ea, .int .i64 l.cap, .int .i64 l.eo, .int .i64 l.bo, .int .i64 l.slot, .int .i64 l.group, .int .i64 (x.off : Nat), .pointer (some ⟨x.p, 0, none⟩), .bool x.over], .agg #[.int .i64 o.kind, .int .i64 o.t, .int .i64 o.n, .int .i64 o.m, .int .u64 o.h, .string o.k, .string o.e]] [G, arenaH pa s, rtH pr l x, rarH pr s] (fun v L => ∃ s' x', v = .bool true ∧ L = [G, arenaH pa s', rtH pr l x', rarH pr s'] ∧ Chg s l x s' x') := by
 obtain ⟨hn0, hn8⟩ := One.nb G hG s hs l hl x hO hov
 have hcg : ∀ {s' : ArS} {T' : Tb}, Step s s' l x T' → rarH pr s' = rarH pr s := fun h => by obtain ⟨a, b, c⟩ := h.arena; exact rar_congr a b c
 refine fn_intro en35 Tryz.func35 rfl rfl rfl fun Fr w0 => t_nm ?_
 refine sr<|o_boxA O O fun b2 => o_boxA O O fun b3 => asg O O<|lc<|t_seq<|sr<|l_q O (qfa 0 rfl yU29 O O yS3)<|l_q O (qld O yA3) ?_
 refine lc<|t_block<|sr<|l_q O (qi O O (b_eql ·))<|asg O O<|lc<|t_if O (fun k1 => ?_) fun k1 => ?_
 ·refine sr<|l_q O (qfa 0 rfl yU42 O O yS39)<|l_q O (qlda O yA39 yS39) ?_
  refine l_q O (qfa 4 rfl yU29 O O yS27)<|l_q O (qld O yA27) ?_
  refine l_q O (qfa 5 rfl yU29 O O yS9)<|l_q O (qld O yA9) ?_
  refine l_q O (qfa 6 rfl yU29 O O yS9)<|l_q O (qld O yA9) ?_
  refine l_q O (qfa 2 rfl yU29 O O yS3)<|l_q O (qld O yA3) ?_
  refine lcf O O O (PutX G hG pa s hs l hl x hO hov o.h hw.h o.k o.e o.n (by have := hw.n; omega)) ?_
  rintro v L' ⟨s', rfl, rfl, hSt⟩
  refine l_nm ?_
  refine mv O O<|l_q O (q_extractL O ga) ?_
  refine l_q O (q_extractL O ga) ?_
  refine asg O O<|asg O O<|lz<|l_q O (qfa 11 rfl yU42 O O yS40)<|l_q O (qld O yA40) ?_
  refine l_q O (qfa 4 rfl yU29 O O yS27)<|l_q O (qld O yA27) ?_
  refine l_q O (qfa 5 rfl yU29 O O yS9)<|l_q O (qld O yA9) ?_
  refine l_q O (qfa 6 rfl yU29 O O yS9)<|l_q O (qld O yA9) ?_
  refine l_q O (qfa 2 rfl yU29 O O yS3)<|l_q O (qld O yA3) ?_
  refine lc1 O O O (RPut_ok pr l x hn8 hO.rng hn0 o.h hw.h o.k o.e o.n) ?_
  refine mv O O<|l_q O (q_extractL O ga) ?_
  refine l_q O (q_extractL O ga) ?_
  refine asg O O<|asg O O<|lz<|mv O O<|mv O O<|l_q O (qi O O (b_eql ·))<|mv O O<|l_pt (t := 52) rfl (fun z1 => ?_) fun z1 => ?_
  ·refine l_on O O<|mv O O<|l_on O O<|lc1 O O O (num8_ok _) ?_
   refine l_on O O<|mv O O<|l_on O O<|l_q O (qi O O (b_eql ·))<|l_q O (q_pk O O)<|asg O O<|lc<|rt<|fr1 O ([G, arenaH pa s', rtH pr l { x with T := (putX l x o.h o.k o.e o.n).2.2 }, rarH pr s]) (.tmp rfl) ?_
   exact ⟨s', _, by rw [decT rfl], by rw [hcg hSt], .step _ _ hSt⟩
  ·exact absurd rfl z1
 ·refine sr<|l_q O (qi O O (b_eql ·))<|asg O O<|lc<|t_if O (fun k2 => ?_) fun k2 => ?_
  ·refine sr<|l_q O (qfa 0 rfl yU42 O O yS39)<|l_q O (qlda O yA39 yS39) ?_
   refine l_q O (qfa 4 rfl yU29 O O yS27)<|l_q O (qld O yA27) ?_
   refine l_q O (qfa 5 rfl yU29 O O yS9)<|l_q O (qld O yA9) ?_
   refine lcf O O O (DelX G hG pa s hs l hl x hO hov o.h hw.h o.k) ?_
   rintro v L' ⟨s', rfl, rfl, hSt⟩
   refine l_nm ?_
   refine mv O O<|l_q O (q_extractL O ga) ?_
   refine l_q O (q_extractL O ga) ?_
   refine asg O O<|asg O O<|lz<|l_q O (qfa 11 rfl yU42 O O yS40)<|l_q O (qld O yA40) ?_
   refine l_q O (qfa 4 rfl yU29 O O yS27)<|l_q O (qld O yA27) ?_
   refine l_q O (qfa 5 rfl yU29 O O yS9)<|l_q O (qld O yA9) ?_
   refine lc1 O O O (RDel_ok pr l x hn8 hO.rng hn0 o.h hw.h o.k) ?_
   refine mv O O<|l_q O (q_extractL O ga) ?_
   refine l_q O (q_extractL O ga) ?_
   refine asg O O<|asg O O<|lz<|mv O O<|mv O O<|l_q O (qb O O (b_eqlB · yU4))<|mv O O<|l_pt (t := 83) rfl (fun z1 => ?_) fun z1 => ?_
   ·refine l_on O O<|mv O O<|l_on O O<|lc1 O O O (num8_ok _) ?_
    refine l_on O O<|mv O O<|l_on O O<|l_q O (qi O O (b_eql ·))<|l_q O (q_pk O O)<|asg O O<|lc<|rt<|fr1 O ([G, arenaH pa s', rtH pr l { x with T := (delX l x o.h o.k).2.2 }, rarH pr s]) (.tmp rfl) ?_
    exact ⟨s', _, by rw [decT rfl], by rw [hcg hSt], .step _ _ hSt⟩
   ·exact absurd rfl z1
  ·refine sr<|l_q O (qi O O (b_eql ·))<|asg O O<|lc<|t_if O (fun k3 => ?_) fun k3 => ?_
   ·refine t_seq<|t_draw mixed ?_
    apply dq 0 rfl
    ·exact yq (qfa 0 rfl yU42 O O yS39)
    apply dq 1 rfl
    ·exact yq (qlda O yA39 yS39)
    apply dq 2 rfl
    ·exact yq (qfa 2 rfl yU29 O O yS3)
    apply dq 3 rfl
    ·exact yq (qld O yA3)
    apply dq 6 rfl
    ·exact yq (qfa 11 rfl yU42 O O yS40)
    apply dq 7 rfl
    ·exact yq (qld O yA40)
    apply dq 8 rfl
    ·exact yq (qfa 2 rfl yU29 O O yS3)
    apply dq 9 rfl
    ·exact yq (qld O yA3)
    refine d_eff1 [1, 3, 0, 2] [9, 8, 7, 6] 4 [(92, _), (94, _)] gO ⟨rfl, rfl, trivial⟩ (by kernel_rfl) (by kernel_rfl) fun Ex => ?_
    refine lcf O O O (LeftX pa s hs l hl x hO hov o.n hw.n) ?_
    rintro v L' ⟨s', rfl, rfl, hSt⟩
    refine l_nm ?_
    refine l_nil ?_
    apply n_d
    ·refine ⟨?_, ?_, ?_, ?_, trivial⟩
     ·apply ya O O; exact yq (qld O yA3)
     ·apply ya O O; exact yq (qfa 2 rfl yU29 O O yS3)
     ·apply ya O O; exact yq (qld O yA40)
     ·apply ya O O; exact yq (qfa 11 rfl yU42 O O yS40)
    refine d_eff1 [] [9, 8, 7, 6] 5 [(95, _)] gO ⟨rfl, trivial⟩ (by kernel_rfl) (by kernel_rfl) fun Ex => ?_
    refine lc1 O O O (num8_ok _) ?_
    refine l_nil ?_
    apply n_d
    ·refine ⟨?_, ?_, ?_, ?_, trivial⟩
     ·apply ya O O; exact yq (qld O yA3)
     ·apply ya O O; exact yq (qfa 2 rfl yU29 O O yS3)
     ·apply ya O O; exact yq (qld O yA40)
     ·apply ya O O; exact yq (qfa 11 rfl yU42 O O yS40)
    refine d_eff1 [7, 9, 6, 8] [] 10 [(98, _), (100, _)] gO ⟨rfl, rfl, trivial⟩ (by kernel_rfl) (by kernel_rfl) fun Ex => ?_
    refine lc1 O O O (RLeft_ok pr l x hn8 hO.rng o.n hw.n) ?_
    refine l_nil ?_
    apply n_d
    ·exact trivial
    apply dq 11 rfl
    ·exact yq (qi O O (b_eql ·))
    refine d_eff1 [11] [] 12 [(102, _)] gO ⟨rfl, trivial⟩ (by kernel_rfl) (by kernel_rfl) fun Ex => ?_
    refine asg O O<|l_nil ?_
    apply n_d
    ·exact trivial
    refine d_end (by kernel_rfl) ?_
    refine n_code<|rt<|fr1 O ([G, arenaH pa s', rtH pr l { x with T := (leftX x o.n).2 }, rarH pr s]) (.tmp rfl) ?_
    exact ⟨s', _, by rw [decT rfl], by rw [hcg hSt], .step _ _ hSt⟩
   ·refine sr<|l_q O (qi O O (b_eql ·))<|asg O O<|lc<|t_if O (fun k4 => ?_) fun k4 => ?_
    ·refine sr<|l_q O (qfa 0 rfl yU42 O O yS39)<|l_q O (qlda O yA39 yS39) ?_
     refine l_q O (qfa 2 rfl yU29 O O yS3)<|l_q O (qld O yA3) ?_
     refine lcf O O O (PinX pa s hs l hl x hO hov o.n hw.n) ?_
     rintro v L' ⟨s', rfl, rfl, hSt⟩
     refine l_nm ?_
     refine mv O O<|l_q O (q_extractL O ga) ?_
     refine l_q O (q_extractL O ga) ?_
     refine asg O O<|asg O O<|lz<|l_q O (qfa 11 rfl yU42 O O yS40)<|l_q O (qld O yA40) ?_
     refine l_q O (qfa 2 rfl yU29 O O yS3)<|l_q O (qld O yA3) ?_
     refine lc1 O O O (RPin_ok pr l x hn8 hO.rng o.n hw.n) ?_
     refine mv O O<|l_q O (q_extractL O ga) ?_
     refine l_q O (q_extractL O ga) ?_
     refine asg O O<|asg O O<|lz<|mv O O<|mv O O<|l_q O (qi O O (b_eql ·))<|mv O O<|l_pt (t := 124) rfl (fun z1 => ?_) fun z1 => ?_
     ·refine l_on O O<|mv O O<|l_on O O<|lc1 O O O (num8_ok _) ?_
      refine l_on O O<|mv O O<|l_on O O<|l_q O (qi O O (b_eql ·))<|l_q O (q_pk O O)<|asg O O<|lc<|rt<|fr1 O ([G, arenaH pa s', rtH pr l { x with T := (pinX x o.n).2.2 }, rarH pr s]) (.tmp rfl) ?_
      exact ⟨s', _, by rw [decT rfl], by rw [hcg hSt], .step _ _ hSt⟩
     ·exact absurd rfl z1
    ·refine sr<|l_q O (qi O O (b_eql ·))<|asg O O<|lc<|t_if O (fun k5 => ?_) fun k5 => ?_
     ·refine t_seq<|t_draw mixed ?_
      apply dq 0 rfl
      ·exact yq (qfa 0 rfl yU42 O O yS39)
      apply dq 1 rfl
      ·exact yq (qlda O yA39 yS39)
      apply dq 2 rfl
      ·exact yq (qfa 2 rfl yU29 O O yS3)
      apply dq 3 rfl
      ·exact yq (qld O yA3)
      apply dq 6 rfl
      ·exact yq (qfa 11 rfl yU42 O O yS40)
      apply dq 7 rfl
      ·exact yq (qld O yA40)
      apply dq 8 rfl
      ·exact yq (qfa 2 rfl yU29 O O yS3)
      apply dq 9 rfl
      ·exact yq (qld O yA3)
      refine d_eff1 [1, 3, 0, 2] [9, 8, 7, 6] 4 [(133, _), (135, _)] gO ⟨rfl, rfl, trivial⟩ (by kernel_rfl) (by kernel_rfl) fun Ex => ?_
      refine lcf O O O (RetireX pa s hs l hl x hO hov o.n hw.n) ?_
      rintro v L' ⟨s', rfl, rfl, hSt⟩
      refine l_nm ?_
      refine l_nil ?_
      apply n_d
      ·refine ⟨?_, ?_, ?_, ?_, trivial⟩
       ·apply ya O O; exact yq (qld O yA3)
       ·apply ya O O; exact yq (qfa 2 rfl yU29 O O yS3)
       ·apply ya O O; exact yq (qld O yA40)
       ·apply ya O O; exact yq (qfa 11 rfl yU42 O O yS40)
      refine d_eff1 [] [9, 8, 7, 6] 5 [(136, _)] gO ⟨rfl, trivial⟩ (by kernel_rfl) (by kernel_rfl) fun Ex => ?_
      refine lc1 O O O (num8_ok _) ?_
      refine l_nil ?_
      apply n_d
      ·refine ⟨?_, ?_, ?_, ?_, trivial⟩
       ·apply ya O O; exact yq (qld O yA3)
       ·apply ya O O; exact yq (qfa 2 rfl yU29 O O yS3)
       ·apply ya O O; exact yq (qld O yA40)
       ·apply ya O O; exact yq (qfa 11 rfl yU42 O O yS40)
      refine d_eff1 [7, 9, 6, 8] [] 10 [(139, _), (141, _)] gO ⟨rfl, rfl, trivial⟩ (by kernel_rfl) (by kernel_rfl) fun Ex => ?_
      refine lc1 O O O (RRetire_ok pr l x hn8 hO.rng o.n) ?_
      refine l_nil ?_
      apply n_d
      ·exact trivial
      apply dq 11 rfl
      ·exact yq (qi O O (b_eql ·))
      refine d_eff1 [11] [] 12 [(143, _)] gO ⟨rfl, trivial⟩ (by kernel_rfl) (by kernel_rfl) fun Ex => ?_
      refine asg O O<|l_nil ?_
      apply n_d
      ·exact trivial
      refine d_end (by kernel_rfl) ?_
      refine n_code<|rt<|fr1 O ([G, arenaH pa s', rtH pr l { x with T := (retireX x o.n).2 }, rarH pr s]) (.tmp rfl) ?_
      exact ⟨s', _, by rw [decT rfl], by rw [hcg hSt], .step _ _ hSt⟩
     ·refine sr<|l_q O (qi O O (b_eql ·))<|asg O O<|lc<|t_if O (fun k6 => ?_) fun k6 => ?_
      ·refine t_seq<|t_draw mixed ?_
       apply dq 0 rfl
       ·exact yq (qfa 0 rfl yU42 O O yS39)
       apply dq 1 rfl
       ·exact yq (qlda O yA39 yS39)
       apply dq 2 rfl
       ·exact yq (qfa 2 rfl yU29 O O yS3)
       apply dq 3 rfl
       ·exact yq (qld O yA3)
       apply dq 6 rfl
       ·exact yq (qfa 11 rfl yU42 O O yS40)
       apply dq 7 rfl
       ·exact yq (qld O yA40)
       apply dq 8 rfl
       ·exact yq (qfa 2 rfl yU29 O O yS3)
       apply dq 9 rfl
       ·exact yq (qld O yA3)
       refine d_eff1 [1, 3, 0, 2] [9, 8, 7, 6] 4 [(147, _), (149, _)] gO ⟨rfl, rfl, trivial⟩ (by kernel_rfl) (by kernel_rfl) fun Ex => ?_
       refine lcf O O O (NextX pa s hs l hl x hO hov o.n hw.n) ?_
       rintro v L' ⟨s', rfl, rfl, hSt⟩
       refine l_nm ?_
       refine l_nil ?_
       apply n_d
       ·refine ⟨?_, ?_, ?_, ?_, trivial⟩
        ·apply ya O O; exact yq (qld O yA3)
        ·apply ya O O; exact yq (qfa 2 rfl yU29 O O yS3)
        ·apply ya O O; exact yq (qld O yA40)
        ·apply ya O O; exact yq (qfa 11 rfl yU42 O O yS40)
       refine d_eff1 [] [9, 8, 7, 6] 5 [(150, _)] gO ⟨rfl, trivial⟩ (by kernel_rfl) (by kernel_rfl) fun Ex => ?_
       refine lc1 O O O (num8_ok _) ?_
       refine l_nil ?_
       apply n_d
       ·refine ⟨?_, ?_, ?_, ?_, trivial⟩
        ·apply ya O O; exact yq (qld O yA3)
        ·apply ya O O; exact yq (qfa 2 rfl yU29 O O yS3)
        ·apply ya O O; exact yq (qld O yA40)
        ·apply ya O O; exact yq (qfa 11 rfl yU42 O O yS40)
       refine d_eff1 [7, 9, 6, 8] [] 10 [(153, _), (155, _)] gO ⟨rfl, rfl, trivial⟩ (by kernel_rfl) (by kernel_rfl) fun Ex => ?_
       refine lc1 O O O (RNext_ok pr l x hn8 hO.rng o.n) ?_
       refine l_nil ?_
       apply n_d
       ·exact trivial
       apply dq 11 rfl
       ·exact yq (qi O O (b_eql ·))
       refine d_eff1 [11] [] 12 [(157, _)] gO ⟨rfl, trivial⟩ (by kernel_rfl) (by kernel_rfl) fun Ex => ?_
       refine asg O O<|l_nil ?_
       apply n_d
       ·exact trivial
       refine d_end (by kernel_rfl) ?_
       refine n_code<|rt<|fr1 O ([G, arenaH pa s', rtH pr l { x with T := (nextX x o.n).2 }, rarH pr s]) (.tmp rfl) ?_
       exact ⟨s', _, by rw [decT rfl], by rw [hcg hSt], .step _ _ hSt⟩
      ·skip
       have hlv : x.dead = false → x.off ≠ x.go ∧ (∃ c, (((x.off : Nat) : Int), c) ∈ s.bl) ∧ ∃ c, (((x.go : Nat) : Int), c) ∈ s.bl := fun hd => by
        obtain ⟨h1, h2, h3, h4⟩ := hO.live hd
        have hdj := h1.dj
        have hg8 := (layN hl).g_eq
        have := Nat.mul_le_mul_right (gN l) hn0
        exact ⟨by omega, ⟨_, h2⟩, ⟨_, h3⟩⟩
       refine t_skip<|n_blk<|n_code<|t_seq<|t_draw mixed ?_
       apply dq 0 rfl
       ·exact yq (qfa 0 rfl yU42 O O yS39)
       apply dq 1 rfl
       ·exact yq (qlda O yA39 yS39)
       apply dq 4 rfl
       ·exact yq (qfa 11 rfl yU42 O O yS40)
       apply dq 5 rfl
       ·exact yq (qld O yA40)
       refine d_eff1 [1, 0] [5, 4] 2 [(159, _)] gO ⟨rfl, trivial⟩ (by kernel_rfl) (by kernel_rfl) fun Ex => ?_
       refine lcf O O O (FreeXl G hG pa s hs l hl x hO hov) ?_
       rintro v L' ⟨rfl, (⟨hd, rfl⟩ | ⟨hd, rfl⟩)⟩
       refine l_nm ?_
       ·skip
        refine l_nil ?_
        apply n_d
        ·refine ⟨?_, ?_, trivial⟩
         ·apply ya O O; exact yq (qld O yA40)
         ·apply ya O O; exact yq (qfa 11 rfl yU42 O O yS40)
        refine d_eff1 [] [5, 4] 3 [(160, _)] gO ⟨rfl, trivial⟩ (by kernel_rfl) (by kernel_rfl) fun Ex => ?_
        refine lc1 O O O (num8_ok _) ?_
        refine l_nil ?_
        apply n_d
        ·refine ⟨?_, ?_, trivial⟩
         ·apply ya O O; exact yq (qld O yA40)
         ·apply ya O O; exact yq (qfa 11 rfl yU42 O O yS40)
        refine d_eff1 [5, 4] [] 6 [(163, _)] gO ⟨rfl, trivial⟩ (by kernel_rfl) (by kernel_rfl) fun Ex => ?_
        refine lcf O O O (RFree_tab pr l x hn8 hO.rng s hs hlv) ?_
        rintro v L' ⟨rfl, (⟨_, rfl⟩ | ⟨hd2, rfl⟩)⟩
        refine l_nm ?_
        ·skip
         refine l_nil ?_
         apply n_d
         ·exact trivial
         apply dq 7 rfl
         ·exact yq (qi O O (b_eql ·))
         refine d_eff1 [7] [] 8 [(165, _)] gO ⟨rfl, trivial⟩ (by kernel_rfl) (by kernel_rfl) fun Ex => ?_
         refine asg O O<|l_nil ?_
         apply n_d
         ·exact trivial
         refine d_end (by kernel_rfl) ?_
         refine n_code<|rt<|fr1 O ([G, arenaH pa s, rtH pr l x, rarH pr s]) (.tmp rfl) ?_
         exact ⟨s, _, by rw [decT rfl], rfl, .step s x.T (Step.no hO)⟩
        ·exact absurd (hd.symm.trans hd2) (by decide)
       ·skip
        refine l_nil ?_
        apply n_d
        ·refine ⟨?_, ?_, trivial⟩
         ·apply ya O O; exact yq (qld O yA40)
         ·apply ya O O; exact yq (qfa 11 rfl yU42 O O yS40)
        refine d_eff1 [] [5, 4] 3 [(160, _)] gO ⟨rfl, trivial⟩ (by kernel_rfl) (by kernel_rfl) fun Ex => ?_
        refine lc1 O O O (num8_ok _) ?_
        refine l_nil ?_
        apply n_d
        ·refine ⟨?_, ?_, trivial⟩
         ·apply ya O O; exact yq (qld O yA40)
         ·apply ya O O; exact yq (qfa 11 rfl yU42 O O yS40)
        refine d_eff1 [5, 4] [] 6 [(163, _)] gO ⟨rfl, trivial⟩ (by kernel_rfl) (by kernel_rfl) fun Ex => ?_
        refine lcf O O O (RFree_tab pr l x hn8 hO.rng s hs hlv) ?_
        rintro v L' ⟨rfl, (⟨hd2, rfl⟩ | ⟨_, rfl⟩)⟩
        refine l_nm ?_
        ·exact absurd (hd.symm.trans hd2) (by decide)
        ·skip
         refine l_nil ?_
         apply n_d
         ·exact trivial
         apply dq 7 rfl
         ·exact yq (qi O O (b_eql ·))
         refine d_eff1 [7] [] 8 [(165, _)] gO ⟨rfl, trivial⟩ (by kernel_rfl) (by kernel_rfl) fun Ex => ?_
         refine asg O O<|l_nil ?_
         apply n_d
         ·exact trivial
         refine d_end (by kernel_rfl) ?_
         refine n_code<|rt<|fr1 O ([G, arenaH pa (s.gives [((x.off : Nat) : Int), ((x.go : Nat) : Int)]), rtH pr l { x with dead := true }, rarH pr (s.gives [((x.off : Nat) : Int), ((x.go : Nat) : Int)])]) (.tmp rfl) ?_
         exact ⟨_, _, by rw [decT rfl], rfl, .free hd⟩
end
end Go.Proofs.YthkajgkagnenbaaGreatDoor.Exact
end
