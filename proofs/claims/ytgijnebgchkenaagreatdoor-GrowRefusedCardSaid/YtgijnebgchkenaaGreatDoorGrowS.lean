import Derived.Test.YtgijnebgchkenaaGreatDoorEngDefer
import Derived.Test.YtgijnebgchkenaaGreatDoorTableC
import Derived.Test.YtgijnebgchkenaaGreatDoorGrowN
import Derived.Test.YtgijnebgchkenaaGreatDoorGrowA
import Derived.Test.YtgijnebgchkenaaGreatDoorGrowD
/- Contracts of package grow: Split. -/
set_option linter.unusedVariables false
set_option linter.unusedSimpArgs false
set_option maxRecDepth 100000
namespace Go.Proofs.YtgijnebgchkenaaGreatDoor.Grow
open Go.RowKit Go.Proofs Go.Proofs.YtgijnebgchkenaaGreatDoor.Eng Go.Proofs.YtgijnebgchkenaaGreatDoor.Ty Go.Proofs.YtgijnebgchkenaaGreatDoor.Bits Go.Proofs.YtgijnebgchkenaaGreatDoor.Mem Go.Proofs.YtgijnebgchkenaaGreatDoor.Search Go.Proofs.YtgijnebgchkenaaGreatDoor.Arena Go.Proofs.YtgijnebgchkenaaGreatDoor.CtrlB Go.Proofs.YtgijnebgchkenaaGreatDoor.Ctrl Go.Proofs.YtgijnebgchkenaaGreatDoor.Layout Go.Proofs.YtgijnebgchkenaaGreatDoor.GroupB Go.Proofs.YtgijnebgchkenaaGreatDoor.Group Go.Proofs.YtgijnebgchkenaaGreatDoor.Probe Go.Proofs.YtgijnebgchkenaaGreatDoor.TableB Go.Proofs.YtgijnebgchkenaaGreatDoor.TableI Go.Proofs.YtgijnebgchkenaaGreatDoor.Table Go.Proofs.YtgijnebgchkenaaGreatDoor.Bench Go.Proofs.YtgijnebgchkenaaGreatDoor.Cells Go.Proofs.YtgijnebgchkenaaGreatDoor.Refill Go.Proofs.YtgijnebgchkenaaGreatDoor.Oracle Go.Proofs.YtgijnebgchkenaaGreatDoor.Ref03

theorem bit_eq {h d : Int} (hh : 0 ≤ h ∧ h < 18446744073709551616) (hd : 0 ≤ d ∧ d ≤ 63) : IntKind.i64.wrap (bits .and .u64 (h.fdiv (2 ^ min (63 - d).toNat IntKind.u64.bits)) 1) = bitF h d := by
  have e1 : min (63 - d).toNat IntKind.u64.bits = (63 - d).toNat := Nat.min_eq_left (by show _ ≤ 64; omega)
  rw [e1]
  have hp : (0 : Int) < 2 ^ (63 - d).toNat := Int.pow_pos (by decide)
  rw [Int.fdiv_eq_ediv_of_nonneg _ (Int.le_of_lt hp)]
  have h1 : 0 ≤ h / 2 ^ (63 - d).toNat := Int.ediv_nonneg hh.1 (Int.le_of_lt hp)
  have h2 : h / 2 ^ (63 - d).toNat ≤ h := Int.ediv_le_self _ hh.1
  have h3 := mask_u64 (h / 2 ^ (63 - d).toNat) h1 (by omega) 1 (by decide)
  rw [show ((2 : Int) ^ 1 - 1) = 1 from rfl, show ((2 : Int) ^ 1) = 2 from rfl] at h3
  rw [h3]
  unfold bitF
  exact wrap_i64 (by omega)
theorem Bit_ok (h d : Int) (hh : 0 ≤ h ∧ h < 18446744073709551616) (hd : 0 ≤ d ∧ d ≤ 63) : FnOk Tryz.prog 88 #[.int .u64 h, .int .i64 d] [] (fun v L => v = .int .i64 (bitF h d) ∧ L = []) := by
  have hb := bit_eq hh hd
  refine fn_intro en88 Tryz.func88 rfl rfl rfl fun Fr w0 => t_nm ?_
  refine sr <| asg rfl rfl <| lc <| t_seq <| sr <| mv rfl rfl <| l_q rfl (qi rfl rfl (b_lss ·)) <| mv rfl rfl <| l_pt (t := 7) rfl (fun z1 => ?_) fun z1 => ?_
  · omega
  · refine l_on rfl rfl <| mv rfl rfl <| l_on rfl rfl <| l_q rfl (qi rfl rfl (b_gtr ·)) <| l_q rfl (q_pk rfl rfl) <| lc <| t_if rfl (fun z2 => ?_) fun z2 => ?_
    · omega
    · refine t_skip <| nz <| mv rfl rfl <| mv rfl rfl <| l_q rfl (qsub rfl rfl) ?_
      apply l_q rfl
      · apply qi rfl rfl; exact fun w => b_shr w (by omega)
      refine l_q rfl (qbit rfl rfl rfl) <| l_q rfl (qcv rfl yU52 yU3) ?_
      refine asg rfl rfl <| lc <| rt <| fr1 rfl ([]) (.tmp rfl) ?_
      exact ⟨by rw [hb], rfl⟩
theorem SplitD_ok (be bl : Nat) (cs : Array Value) : DefOk Tryz.prog 86 #[.pointer (some ⟨be, 0, none⟩), .pointer (some ⟨bl, 0, none⟩)] [pt be (.cells #[.int .i64 0] 44 (0, 0)), pt bl (.cells cs 34 (0, 0))] (fun L => L = [pt be (.cells #[.int .i64 0] 44 (0, 0)), pt bl (.cells cs 34 (0, 0))]) := by
  refine def_intro en86 Tryz.func86 rfl rfl rfl fun Fr w0 => t_nm ?_
  refine sr <| l_q rfl (qld rfl yA44) ?_
  refine l_q rfl (qi rfl rfl (b_neq ·)) <| lc <| t_if rfl (fun z => ?_) fun z => ?_
  · exact absurd rfl z
  · refine t_skip ?_
    refine f_retB (.inr rfl) ([pt be (.cells #[.int .i64 0] 44 (0, 0)), pt bl (.cells cs 34 (0, 0))]) (res0 rfl) rfl ?_
    exact en
theorem SplitF_ok (pa off go n e : Nat) (s : ArS) (l : Lay) (T : Tb) (hP : TabP s off go l n e T) (c1 c2 : Int) (h1 : (((off : Nat) : Int), c1) ∈ s.bl) (h2 : (((go : Nat) : Int), c2) ∈ s.bl) (be bl : Nat) :
    DefOk Tryz.prog 86 #[.pointer (some ⟨be, 0, none⟩), .pointer (some ⟨bl, 0, none⟩)] [pt be (.cells #[.int .i64 22] 44 (0, 0)), pt bl (.cells #[.pointer (some ⟨pa, 0, none⟩), .int .i64 l.key, .int .i64 l.elem, .int .i64 l.ka, .int .i64 l.ea, .int .i64 l.cap, .int .i64 l.eo, .int .i64 l.bo, .int .i64 l.slot, .int .i64 l.group, .int .i64 ((off : Nat) : Int)] 34 (0, 0)), arenaH pa s] (fun L => L = [pt be (.cells #[.int .i64 22] 44 (0, 0)), pt bl (.cells #[.pointer (some ⟨pa, 0, none⟩), .int .i64 l.key, .int .i64 l.elem, .int .i64 l.ka, .int .i64 l.ea, .int .i64 l.cap, .int .i64 l.eo, .int .i64 l.bo, .int .i64 l.slot, .int .i64 l.group, .int .i64 ((off : Nat) : Int)] 34 (0, 0)), arenaH pa (s.gives [((off : Nat) : Int), ((go : Nat) : Int)])]) := by
  refine def_intro en86 Tryz.func86 rfl rfl rfl fun Fr w0 => t_nm ?_
  refine sr <| l_q rfl (qld rfl yA44) ?_
  refine l_q rfl (qi rfl rfl (b_neq ·)) <| lc <| t_if rfl (fun z => ?_) fun z => ?_
  · refine t_region <| l_q rfl (qlda rfl yA34 yS34) ?_
    refine lc1 rfl rfl rfl (TFree_ok pa off go n e s l T hP c1 c2 h1 h2) ?_
    refine l_nil ?_
    refine f_retB (.inr rfl) ([pt be (.cells #[.int .i64 22] 44 (0, 0)), pt bl (.cells #[.pointer (some ⟨pa, 0, none⟩), .int .i64 l.key, .int .i64 l.elem, .int .i64 l.ka, .int .i64 l.ea, .int .i64 l.cap, .int .i64 l.eo, .int .i64 l.bo, .int .i64 l.slot, .int .i64 l.group, .int .i64 ((off : Nat) : Int)] 34 (0, 0)), arenaH pa (s.gives [((off : Nat) : Int), ((go : Nat) : Int)])]) (res0 rfl) rfl ?_
    exact en
  · exact absurd z (by decide)
/-- A new table, where there is room. -/
theorem NewFit_ok (pa n e : Nat) (s : ArS) (l : Lay) (slots depth : Int) (hl : l.err = 0) (he : e ≤ 13) (hn : n = 2 ^ e) (hslots : slots = 8 * (n : Int)) (hd : 0 ≤ depth ∧ depth ≤ 6) (hsm : ((n * gN l : Nat) : Int) ≤ 1048576) (hfit : s.live + (64 + classI ((n * gN l : Nat) : Int)) ≤ s.limit) (o g : Nat) (ho : s.at 64 = o) (hg : (s.take 64).at (classI ((n * gN l : Nat) : Int)) = g) :
    FnOk Tryz.prog 27 #[.pointer (some ⟨pa, 0, none⟩), .agg l.cells, .int .i64 slots, .int .i64 depth] [arenaH pa s]
      (fun v L => ∃ s', v = .tuple #[.agg #[.pointer (some ⟨pa, 0, none⟩), .int .i64 l.key, .int .i64 l.elem, .int .i64 l.ka, .int .i64 l.ea, .int .i64 l.cap, .int .i64 l.eo, .int .i64 l.bo, .int .i64 l.slot, .int .i64 l.group, .int .i64 ((o : Nat) : Int)], .int .i64 0] ∧ L = [arenaH pa s'] ∧ TabP s' o g l n e (newT n depth) ∧ NewS s s' (classI ((n * gN l : Nat) : Int))) := by
  subst ho hg
  refine FnOk.mono (Table.New_ok pa n e s l slots depth hl he hn hslots hd) fun v L h => ?_
  rcases h with ⟨hb, _⟩ | ⟨_, _, h⟩
  · omega
  · exact h
/-- A new table, where there is none. -/
theorem NewNo_ok (pa n e : Nat) (s : ArS) (l : Lay) (slots depth : Int) (hl : l.err = 0) (he : e ≤ 13) (hn : n = 2 ^ e) (hslots : slots = 8 * (n : Int)) (hd : 0 ≤ depth ∧ depth ≤ 6) (hno : 1048576 < ((n * gN l : Nat) : Int) ∨ s.limit - s.live < 64 + classI ((n * gN l : Nat) : Int)) :
    FnOk Tryz.prog 27 #[.pointer (some ⟨pa, 0, none⟩), .agg l.cells, .int .i64 slots, .int .i64 depth] [arenaH pa s]
      (fun v L => v = .tuple #[.agg #[.pointer none, .int .i64 0, .int .i64 0, .int .i64 0, .int .i64 0, .int .i64 0, .int .i64 0, .int .i64 0, .int .i64 0, .int .i64 0, .int .i64 0], .int .i64 22] ∧ L = [arenaH pa s]) := by
  refine FnOk.mono (Table.New_ok pa n e s l slots depth hl he hn hslots hd) fun v L h => ?_
  rcases h with ⟨_, h1, h2⟩ | ⟨_, _, h⟩
  · exact ⟨h1, h2⟩
  · omega
/-- What stays of an arena: the limit, the live blocks, their bytes. -/
structure KeepA (s s' : ArS) : Prop where
  limit : s'.limit = s.limit
  bl : ∀ p ∈ s.bl, p ∈ s'.bl
  m : ∀ p ∈ s.bl, ∀ a : Nat, p.1 ≤ a → (a : Int) < p.1 + p.2 → s'.m a = s.m a
theorem KeepA.new {s s' : ArS} {c : Int} (h : NewS s s' c) : KeepA s s' := ⟨h.limit, fun p hp => (h.bl p).2 (.inl hp), h.m⟩
theorem KeepA.trans {s s1 s2 : ArS} (h : KeepA s s1) (h2 : KeepA s1 s2) : KeepA s s2 :=
  ⟨h2.limit.trans h.limit, fun p hp => h2.bl p (h.bl p hp), fun p hp a q1 q2 => (h2.m p (h.bl p hp) a q1 q2).trans (h.m p hp a q1 q2)⟩
theorem KeepA.put {s s1 s2 : ArS} {o g k : Nat} (h : KeepA s s1) (hS : SameBut s1 s2 o g k) (hap : ∀ p ∈ s.bl, (p.1 + p.2 ≤ (o : Nat) ∨ ((o : Nat) : Int) + 64 ≤ p.1) ∧ (p.1 + p.2 ≤ (g : Nat) ∨ ((g : Nat) : Int) + (k : Nat) ≤ p.1)) : KeepA s s2 :=
  ⟨hS.limit.trans h.limit, fun p hp => by rw [hS.bl]; exact h.bl p hp, fun p hp a q1 q2 => by
    obtain ⟨a1, a2⟩ := hap p hp
    rw [hS.m a (by omega) (by omega)]; exact h.m p hp a q1 q2⟩
theorem TabP.kept {s s' : ArS} {off go n e : Nat} {l : Lay} {T : Tb} (h : TabP s off go l n e T) (hK : KeepA s s') : TabP s' off go l n e T := by
  refine TabP.moved h (fun o k hg => ?_) (fun a h1 h2 => ?_) (fun a h1 h2 => ?_)
  · obtain ⟨h0, p, hp, q⟩ := hg
    exact ⟨h0, p, hK.bl p hp, q⟩
  · obtain ⟨_, p, hp, q1, q2⟩ := h.gh
    exact hK.m p hp a (by omega) (by omega)
  · obtain ⟨_, p, hp, q1, q2⟩ := h.gg
    exact hK.m p hp a (by omega) (by omega)
/-- Two new blocks given back: the live ones are those of before. -/
theorem new_gives {s s1 : ArS} {c : Int} (hs : s.ok) (hs1 : s1.ok) (hc : 1 ≤ c) (hfit : s.live + 64 ≤ s.limit) (h : NewS s s1 c) {o g : Nat} (ho : s.at 64 = o) (hg : (s.take 64).at c = g) : KeepA s (s1.gives [((o : Nat) : Int), ((g : Nat) : Int)]) ∧ (s1.gives [((o : Nat) : Int), ((g : Nat) : Int)]).live = s.live ∧ (s1.gives [((o : Nat) : Int), ((g : Nat) : Int)]).ok := by
  subst ho hg
  have m1 : (((s.at 64 : Nat) : Int), (64 : Int)) ∈ s1.bl := (h.bl _).2 (.inr (.inl rfl))
  have m2 : ((((s.take 64).at c : Nat) : Int), c) ∈ s1.bl := (h.bl _).2 (.inr (.inr rfl))
  have ok64 := ArS.take_ok hs c64 hfit
  have ap := take_apart ok64 ((take_bl hs).2 (.inr rfl)) hc
  dsimp only at ap
  have o1 := give_ok hs1 m1
  have l1 := give_live hs1 m1
  have m3 : ((((s.take 64).at c : Nat) : Int), c) ∈ (s1.give ((s.at 64 : Nat) : Int)).bl := (give_bl hs1 m1).2 ⟨m2, fun e => by rw [Prod.mk.injEq] at e; omega⟩
  have o2 := give_ok o1 m3
  have l2 := give_live o1 m3
  have hl := h.live
  refine ⟨⟨(gives_m _ _).2.trans h.limit, fun p hp => gives_bl.2 ⟨(h.bl p).2 (.inl hp), ?_⟩, fun p hp a q1 q2 => by rw [(gives_m _ _).1]; exact h.m p hp a q1 q2⟩, by show ((s1.give _).give _).live = _; omega, o2⟩
  have hpos := (ArS.chain_pos hs.chain p (mem_bl.1 hp).1).2
  obtain ⟨a1, a2⟩ := new_sep hs hc hfit (o := p.1) (k := p.2) ⟨by omega, p, hp, Int.le_refl _, Int.le_refl _⟩
  simp only [List.mem_cons, List.not_mem_nil, or_false]
  omega
/-- Split, where there is no room for one. -/
theorem Split_no1 (G : HP) (hGT : TabOk G) (hGO : OddOk G) (pa off go po bm n e : Nat) (s : ArS) (l : Lay) (T : Tb) (m : List (ByteArray × Value)) (hm : OverOk m) (sd : Int) (hsd : 0 ≤ sd ∧ sd < 18446744073709551616) (hP : TabP s off go l n e T) (hdep : 0 ≤ T.depth ∧ T.depth ≤ 5) (hno : 1048576 < ((n * gN l : Nat) : Int) ∨ s.limit - s.live < 64 + classI ((n * gN l : Nat) : Int)) :
    FnOk Tryz.prog 37 #[.agg #[.pointer (some ⟨pa, 0, none⟩), .int .i64 l.key, .int .i64 l.elem, .int .i64 l.ka, .int .i64 l.ea, .int .i64 l.cap, .int .i64 l.eo, .int .i64 l.bo, .int .i64 l.slot, .int .i64 l.group, .int .i64 (off : Nat)], .pointer (some ⟨po, 0, none⟩), .int .u64 sd] [pt po (.cells #[.map (some bm)] 191 (0, 0)), mapH (fun k : ByteArray => Value.string k) bm m, G, arenaH pa s] (fun v L => v = .tuple #[.agg #[.pointer none, .int .i64 0, .int .i64 0, .int .i64 0, .int .i64 0, .int .i64 0, .int .i64 0, .int .i64 0, .int .i64 0, .int .i64 0, .int .i64 0], .agg #[.pointer none, .int .i64 0, .int .i64 0, .int .i64 0, .int .i64 0, .int .i64 0, .int .i64 0, .int .i64 0, .int .i64 0, .int .i64 0, .int .i64 0], .int .i64 22] ∧ L = [pt po (.cells #[.map (some bm)] 191 (0, 0)), mapH (fun k : ByteArray => Value.string k) bm m, G, arenaH pa s]) := by
  have hn8 := hP.n0
  refine fn_intro en37 Tryz.func37 rfl rfl rfl fun Fr w0 => t_nm ?_
  refine sr <| o_boxA rfl rfl fun b3 => o_box1 rfl rfl rfl fun b4 => o_box1 rfl rfl rfl fun b5 => o_allocA rfl yZ34 fun b6 => o_allocA rfl yZ34 fun b7 => o_alloc1 rfl yZ44 rfl fun b8 => lz <| l_q rfl (qlda rfl yA34 yS34) ?_
  refine lc1 rfl rfl rfl (StatP_ok pa off go n e s l T hP) ?_
  refine mv rfl rfl <| l_q rfl (q_extractL rfl ga) ?_
  refine l_q rfl (q_extractL rfl ga) ?_
  refine o_allocA rfl yZ47 fun b9 => sta rfl rfl rfl yS47 rfl rfl ?_
  refine st rfl rfl rfl yS44 rfl ?_
  refine lc <| t_seq <| sr <| l_q rfl (qld rfl yA44) ?_
  refine l_q rfl (qi rfl rfl (b_neq ·)) <| lc <| t_if rfl (fun z => ?_) fun z => ?_
  · exact absurd rfl z
  · skip
    refine t_skip <| n_code <| t_seq ?_
    apply t_cut (p := (fun (x : Nat) => True)) (EE := (fun x => [(3, .pointer (some ⟨b3, 0, none⟩)), (4, .pointer (some ⟨b4, 0, none⟩)), (5, .pointer (some ⟨b5, 0, none⟩)), (6, .pointer (some ⟨b6, 0, none⟩)), (7, .pointer (some ⟨b7, 0, none⟩)), (8, .pointer (some ⟨b8, 0, none⟩)), (9, .pointer (some ⟨b9, 0, none⟩)), (10, .pointer (some ⟨x, 0, none⟩))])) (LL := (fun x => pt x (.cells #[.pointer none, .int .i64 0, .int .i64 0, .int .i64 0, .int .i64 0, .int .i64 0, .int .i64 0, .int .i64 0, .int .i64 0, .int .i64 0, .int .i64 0] 34 (0, 0)) :: arenaH pa s :: pt b3 (.cells #[.pointer (some ⟨pa, 0, none⟩), .int .i64 l.key, .int .i64 l.elem, .int .i64 l.ka, .int .i64 l.ea, .int .i64 l.cap, .int .i64 l.eo, .int .i64 l.bo, .int .i64 l.slot, .int .i64 l.group, .int .i64 (off : Nat)] 34 (0, 0)) :: pt b4 (.cells #[.pointer (some ⟨po, 0, none⟩)] 74 (0, 0)) :: pt b5 (.cells #[.int .u64 sd] 52 (0, 0)) :: pt b6 (.cells #[.pointer none, .int .i64 0, .int .i64 0, .int .i64 0, .int .i64 0, .int .i64 0, .int .i64 0, .int .i64 0, .int .i64 0, .int .i64 0, .int .i64 0] 34 (0, 0)) :: pt b7 (.cells #[.pointer none, .int .i64 0, .int .i64 0, .int .i64 0, .int .i64 0, .int .i64 0, .int .i64 0, .int .i64 0, .int .i64 0, .int .i64 0, .int .i64 0] 34 (0, 0)) :: pt b8 (.cells #[.int .i64 22] 44 (0, 0)) :: pt b9 (.cells #[.int .i64 T.used, .int .i64 (8 * (n : Int)), .int .i64 T.left, .int .i64 T.depth, .int .i64 T.pins, .int .i64 T.next, .bool (decide (T.kind = 4)), .int .i64 (go : Nat)] 47 (0, 0)) :: pt po (.cells #[.map (some bm)] 191 (0, 0)) :: mapH (fun k : ByteArray => Value.string k) bm m :: G :: Fr))
    refine t_draw mixed ?_
    apply dq 0 rfl
    · exact yq (qlda rfl yA34 yS34)
    apply dq 2 rfl
    · exact yq (qlda rfl yA34 yS34)
    apply dq 4 rfl
    · exact yq (qfa 1 rfl yU47 rfl rfl yS3)
    apply dq 5 rfl
    · exact yq (qld rfl yA3)
    apply dq 6 rfl
    · exact yq (qfa 3 rfl yU47 rfl rfl yS3)
    apply dq 7 rfl
    · exact yq (qld rfl yA3)
    apply dq 8 rfl
    · exact yq (qadd rfl rfl)
    apply d_eff2 1 13
    · kernel_rfl
    · apply effAt (q1 := [0]) (q2 := [8, 7, 6, 5, 4, 2]) [(27, _)]
      · exact gO
      · exact ⟨rfl, trivial⟩
      · kernel_rfl
      intro Ex
      refine lc1 rfl rfl rfl (TArena_ok pa l (off : Nat)) ?_
      refine l_nil ?_
      apply n_d
      · refine ⟨?_, ?_, ?_, ?_, ?_, ?_, trivial⟩
        · apply ya rfl rfl; exact yq (qadd rfl rfl)
        · apply ya rfl rfl; exact yq (qld rfl yA3)
        · apply ya rfl rfl; exact yq (qfa 3 rfl yU47 rfl rfl yS3)
        · apply ya rfl rfl; exact yq (qld rfl yA3)
        · apply ya rfl rfl; exact yq (qfa 1 rfl yU47 rfl rfl yS3)
        · apply ya rfl rfl; exact yq (qlda rfl yA34 yS34)
      apply d_eff2 3 13
      · kernel_rfl
      · apply effAt (q1 := [2]) (q2 := [8, 7, 6, 5, 4]) [(29, _)]
        · exact gO
        · exact ⟨rfl, trivial⟩
        · kernel_rfl
        intro Ex
        refine lc1 rfl rfl rfl (TLayout_ok pa l (off : Nat)) ?_
        refine l_nil ?_
        apply n_d
        · refine ⟨?_, ?_, ?_, ?_, ?_, trivial⟩
          · apply ya rfl rfl; exact yq (qadd rfl rfl)
          · apply ya rfl rfl; exact yq (qld rfl yA3)
          · apply ya rfl rfl; exact yq (qfa 3 rfl yU47 rfl rfl yS3)
          · apply ya rfl rfl; exact yq (qld rfl yA3)
          · apply ya rfl rfl; exact yq (qfa 1 rfl yU47 rfl rfl yS3)
        apply d_eff2 9 13
        · kernel_rfl
        · apply effAt (q1 := [5, 8, 4, 7, 6]) (q2 := []) [(28, _), (30, _), (32, _), (35, _)]
          · exact gO
          · exact ⟨rfl, rfl, rfl, rfl, trivial⟩
          · kernel_rfl
          intro Ex
          refine lc1 rfl rfl rfl (NewNo_ok pa n e s l _ (T.depth + 1) hP.hl hP.he hP.hn rfl ⟨by omega, by omega⟩ hno) ?_
          refine l_nil ?_
          apply n_d
          · exact trivial
          apply dq 10 rfl
          · exact yq (q_move rfl)
          apply dq 11 rfl
          · exact yq (q_extractL rfl ga)
          apply dq 12 rfl
          · exact yq (q_extractL rfl ga)
          refine d_eff1 [] [12, 11, 10] 13 [] gO trivial (by kernel_rfl) (by kernel_rfl) fun Ex => ?_
          refine o_allocA rfl yZ34 fun b10 => l_nil ?_
          apply n_d
          · refine ⟨?_, ?_, ?_, trivial⟩
            · apply ya rfl rfl; exact yq (q_extractL rfl ga)
            · apply ya rfl rfl; exact yq (q_extractL rfl ga)
            · apply ya rfl rfl; exact yq (q_move rfl)
          refine d_eff1 [11, 10] [12] 14 [(10, _), (37, _)] gO ⟨rfl, rfl, trivial⟩ (by kernel_rfl) (by kernel_rfl) fun Ex => ?_
          refine sta rfl rfl rfl yS34 rfl rfl ?_
          refine l_nil ?_
          apply n_d
          · refine ⟨?_, trivial⟩
            · apply ya rfl rfl; exact yq (q_extractL rfl ga)
          refine d_eff1 [12] [] 15 [(8, _), (38, _)] gO ⟨rfl, rfl, trivial⟩ (by kernel_rfl) (by kernel_rfl) fun Ex => ?_
          refine st rfl rfl rfl yS44 rfl ?_
          refine l_nil ?_
          apply n_d
          · exact trivial
          refine d_end (by kernel_rfl) ?_
          apply n_join (b10)
          · exact trivial
          · exact ⟨rfl, rfl, rfl, rfl, rfl, rfl, rfl, rfl, trivial⟩
          · exact en
        · apply effAt (q1 := []) (q2 := [8, 7, 6, 5, 4]) []
          · exact gO
          · exact trivial
          · kernel_rfl
          intro Ex
          refine o_allocA rfl yZ34 fun b10 => l_nil ?_
          apply n_d
          · refine ⟨?_, ?_, ?_, ?_, ?_, trivial⟩
            · apply ya rfl rfl; exact yq (qadd rfl rfl)
            · apply ya rfl rfl; exact yq (qld rfl yA3)
            · apply ya rfl rfl; exact yq (qfa 3 rfl yU47 rfl rfl yS3)
            · apply ya rfl rfl; exact yq (qld rfl yA3)
            · apply ya rfl rfl; exact yq (qfa 1 rfl yU47 rfl rfl yS3)
          refine d_eff1 [5, 8, 4, 7, 6] [] 9 [(28, _), (30, _), (32, _), (35, _)] gO ⟨rfl, rfl, rfl, rfl, trivial⟩ (by kernel_rfl) (by kernel_rfl) fun Ex => ?_
          refine lc1 rfl rfl rfl (NewNo_ok pa n e s l _ (T.depth + 1) hP.hl hP.he hP.hn rfl ⟨by omega, by omega⟩ hno) ?_
          refine l_nil ?_
          apply n_d
          · exact trivial
          apply dq 10 rfl
          · exact yq (q_move rfl)
          apply dq 11 rfl
          · exact yq (q_extractL rfl ga)
          apply dq 12 rfl
          · exact yq (q_extractL rfl ga)
          refine d_eff1 [11, 10] [12] 14 [(10, _), (37, _)] gO ⟨rfl, rfl, trivial⟩ (by kernel_rfl) (by kernel_rfl) fun Ex => ?_
          refine sta rfl rfl rfl yS34 rfl rfl ?_
          refine l_nil ?_
          apply n_d
          · refine ⟨?_, trivial⟩
            · apply ya rfl rfl; exact yq (q_extractL rfl ga)
          refine d_eff1 [12] [] 15 [(8, _), (38, _)] gO ⟨rfl, rfl, trivial⟩ (by kernel_rfl) (by kernel_rfl) fun Ex => ?_
          refine st rfl rfl rfl yS44 rfl ?_
          refine l_nil ?_
          apply n_d
          · exact trivial
          refine d_end (by kernel_rfl) ?_
          apply n_join (b10)
          · exact trivial
          · exact ⟨rfl, rfl, rfl, rfl, rfl, rfl, rfl, rfl, trivial⟩
          · exact en
      · apply effAt (q1 := []) (q2 := [8, 7, 6, 5, 4, 2]) []
        · exact gO
        · exact trivial
        · kernel_rfl
        intro Ex
        refine o_allocA rfl yZ34 fun b10 => l_nil ?_
        apply n_d
        · refine ⟨?_, ?_, ?_, ?_, ?_, ?_, trivial⟩
          · apply ya rfl rfl; exact yq (qadd rfl rfl)
          · apply ya rfl rfl; exact yq (qld rfl yA3)
          · apply ya rfl rfl; exact yq (qfa 3 rfl yU47 rfl rfl yS3)
          · apply ya rfl rfl; exact yq (qld rfl yA3)
          · apply ya rfl rfl; exact yq (qfa 1 rfl yU47 rfl rfl yS3)
          · apply ya rfl rfl; exact yq (qlda rfl yA34 yS34)
        refine d_eff1 [2] [8, 7, 6, 5, 4] 3 [(29, _)] gO ⟨rfl, trivial⟩ (by kernel_rfl) (by kernel_rfl) fun Ex => ?_
        refine lc1 rfl rfl rfl (TLayout_ok pa l (off : Nat)) ?_
        refine l_nil ?_
        apply n_d
        · refine ⟨?_, ?_, ?_, ?_, ?_, trivial⟩
          · apply ya rfl rfl; exact yq (qadd rfl rfl)
          · apply ya rfl rfl; exact yq (qld rfl yA3)
          · apply ya rfl rfl; exact yq (qfa 3 rfl yU47 rfl rfl yS3)
          · apply ya rfl rfl; exact yq (qld rfl yA3)
          · apply ya rfl rfl; exact yq (qfa 1 rfl yU47 rfl rfl yS3)
        refine d_eff1 [5, 8, 4, 7, 6] [] 9 [(28, _), (30, _), (32, _), (35, _)] gO ⟨rfl, rfl, rfl, rfl, trivial⟩ (by kernel_rfl) (by kernel_rfl) fun Ex => ?_
        refine lc1 rfl rfl rfl (NewNo_ok pa n e s l _ (T.depth + 1) hP.hl hP.he hP.hn rfl ⟨by omega, by omega⟩ hno) ?_
        refine l_nil ?_
        apply n_d
        · exact trivial
        apply dq 10 rfl
        · exact yq (q_move rfl)
        apply dq 11 rfl
        · exact yq (q_extractL rfl ga)
        apply dq 12 rfl
        · exact yq (q_extractL rfl ga)
        refine d_eff1 [11, 10] [12] 14 [(10, _), (37, _)] gO ⟨rfl, rfl, trivial⟩ (by kernel_rfl) (by kernel_rfl) fun Ex => ?_
        refine sta rfl rfl rfl yS34 rfl rfl ?_
        refine l_nil ?_
        apply n_d
        · refine ⟨?_, trivial⟩
          · apply ya rfl rfl; exact yq (q_extractL rfl ga)
        refine d_eff1 [12] [] 15 [(8, _), (38, _)] gO ⟨rfl, rfl, trivial⟩ (by kernel_rfl) (by kernel_rfl) fun Ex => ?_
        refine st rfl rfl rfl yS44 rfl ?_
        refine l_nil ?_
        apply n_d
        · exact trivial
        refine d_end (by kernel_rfl) ?_
        apply n_join (b10)
        · exact trivial
        · exact ⟨rfl, rfl, rfl, rfl, rfl, rfl, rfl, rfl, trivial⟩
        · exact en
    · apply effAt (q1 := []) (q2 := [8, 7, 6, 5, 4, 2, 0]) []
      · exact gO
      · exact trivial
      · kernel_rfl
      intro Ex
      refine o_allocA rfl yZ34 fun b10 => l_nil ?_
      apply n_d
      · refine ⟨?_, ?_, ?_, ?_, ?_, ?_, ?_, trivial⟩
        · apply ya rfl rfl; exact yq (qadd rfl rfl)
        · apply ya rfl rfl; exact yq (qld rfl yA3)
        · apply ya rfl rfl; exact yq (qfa 3 rfl yU47 rfl rfl yS3)
        · apply ya rfl rfl; exact yq (qld rfl yA3)
        · apply ya rfl rfl; exact yq (qfa 1 rfl yU47 rfl rfl yS3)
        · apply ya rfl rfl; exact yq (qlda rfl yA34 yS34)
        · apply ya rfl rfl; exact yq (qlda rfl yA34 yS34)
      refine d_eff1 [0] [8, 7, 6, 5, 4, 2] 1 [(27, _)] gO ⟨rfl, trivial⟩ (by kernel_rfl) (by kernel_rfl) fun Ex => ?_
      refine lc1 rfl rfl rfl (TArena_ok pa l (off : Nat)) ?_
      refine l_nil ?_
      apply n_d
      · refine ⟨?_, ?_, ?_, ?_, ?_, ?_, trivial⟩
        · apply ya rfl rfl; exact yq (qadd rfl rfl)
        · apply ya rfl rfl; exact yq (qld rfl yA3)
        · apply ya rfl rfl; exact yq (qfa 3 rfl yU47 rfl rfl yS3)
        · apply ya rfl rfl; exact yq (qld rfl yA3)
        · apply ya rfl rfl; exact yq (qfa 1 rfl yU47 rfl rfl yS3)
        · apply ya rfl rfl; exact yq (qlda rfl yA34 yS34)
      refine d_eff1 [2] [8, 7, 6, 5, 4] 3 [(29, _)] gO ⟨rfl, trivial⟩ (by kernel_rfl) (by kernel_rfl) fun Ex => ?_
      refine lc1 rfl rfl rfl (TLayout_ok pa l (off : Nat)) ?_
      refine l_nil ?_
      apply n_d
      · refine ⟨?_, ?_, ?_, ?_, ?_, trivial⟩
        · apply ya rfl rfl; exact yq (qadd rfl rfl)
        · apply ya rfl rfl; exact yq (qld rfl yA3)
        · apply ya rfl rfl; exact yq (qfa 3 rfl yU47 rfl rfl yS3)
        · apply ya rfl rfl; exact yq (qld rfl yA3)
        · apply ya rfl rfl; exact yq (qfa 1 rfl yU47 rfl rfl yS3)
      refine d_eff1 [5, 8, 4, 7, 6] [] 9 [(28, _), (30, _), (32, _), (35, _)] gO ⟨rfl, rfl, rfl, rfl, trivial⟩ (by kernel_rfl) (by kernel_rfl) fun Ex => ?_
      refine lc1 rfl rfl rfl (NewNo_ok pa n e s l _ (T.depth + 1) hP.hl hP.he hP.hn rfl ⟨by omega, by omega⟩ hno) ?_
      refine l_nil ?_
      apply n_d
      · exact trivial
      apply dq 10 rfl
      · exact yq (q_move rfl)
      apply dq 11 rfl
      · exact yq (q_extractL rfl ga)
      apply dq 12 rfl
      · exact yq (q_extractL rfl ga)
      refine d_eff1 [11, 10] [12] 14 [(10, _), (37, _)] gO ⟨rfl, rfl, trivial⟩ (by kernel_rfl) (by kernel_rfl) fun Ex => ?_
      refine sta rfl rfl rfl yS34 rfl rfl ?_
      refine l_nil ?_
      apply n_d
      · refine ⟨?_, trivial⟩
        · apply ya rfl rfl; exact yq (q_extractL rfl ga)
      refine d_eff1 [12] [] 15 [(8, _), (38, _)] gO ⟨rfl, rfl, trivial⟩ (by kernel_rfl) (by kernel_rfl) fun Ex => ?_
      refine st rfl rfl rfl yS44 rfl ?_
      refine l_nil ?_
      apply n_d
      · exact trivial
      refine d_end (by kernel_rfl) ?_
      apply n_join (b10)
      · exact trivial
      · exact ⟨rfl, rfl, rfl, rfl, rfl, rfl, rfl, rfl, trivial⟩
      · exact en
    rintro b10 _
    try dsimp only
    refine n_nm ?_
    refine n_code <| t_seq <| sr <| l_q rfl (qld rfl yA44) ?_
    refine l_q rfl (qi rfl rfl (b_neq ·)) <| lc <| t_if rfl (fun z2 => ?_) fun z2 => ?_
    · refine t_seq <| t_draw mixed ?_
      apply dq 0 rfl
      · exact yq (qlda rfl yA34 yS34)
      apply dq 1 rfl
      · exact yq (qlda rfl yA34 yS34)
      apply dq 2 rfl
      · exact yq (qld rfl yA44)
      refine d_eff1 [0] [2, 1] 3 [(6, _), (41, _)] gO ⟨rfl, rfl, trivial⟩ (by kernel_rfl) (by kernel_rfl) fun Ex => ?_
      refine sta rfl rfl rfl yS34 rfl rfl ?_
      refine l_nil ?_
      apply n_d
      · refine ⟨?_, ?_, trivial⟩
        · apply ya rfl rfl; exact yq (qld rfl yA44)
        · apply ya rfl rfl; exact yq (qlda rfl yA34 yS34)
      refine d_eff1 [1] [2] 4 [(7, _), (42, _)] gO ⟨rfl, rfl, trivial⟩ (by kernel_rfl) (by kernel_rfl) fun Ex => ?_
      refine sta rfl rfl rfl yS34 rfl rfl ?_
      refine l_nil ?_
      apply n_d
      · refine ⟨?_, trivial⟩
        · apply ya rfl rfl; exact yq (qld rfl yA44)
      refine d_eff1 [2] [] 5 [(8, _), (43, _)] gO ⟨rfl, rfl, trivial⟩ (by kernel_rfl) (by kernel_rfl) fun Ex => ?_
      refine st rfl rfl rfl yS44 rfl ?_
      refine l_nil ?_
      apply n_d
      · exact trivial
      refine d_end (by kernel_rfl) ?_
      refine n_code <| rt ?_
      apply f_ret (.inl rfl) ([pt po (.cells #[.map (some bm)] 191 (0, 0)), mapH (fun k : ByteArray => Value.string k) bm m, G, arenaH pa s])
      · apply res3 rfl
        · apply Rv.agg rfl
          · exact tk
          · exact run_loadAll yA34 yS34 rfl
        · apply Rv.agg rfl
          · exact tk
          · exact run_loadAll yA34 yS34 rfl
        · apply Rv.cellL rfl
          · exact tk
          · exact ga
          · exact yA44
      · exact ⟨rfl, rfl⟩
      · exact en
    · exact absurd z2 (by decide)
/-- Split, where there is room for one alone: it is given back. -/
theorem Split_no2 (G : HP) (hGT : TabOk G) (hGO : OddOk G) (pa off go po bm n e : Nat) (s : ArS) (l : Lay) (T : Tb) (m : List (ByteArray × Value)) (hm : OverOk m) (sd : Int) (hsd : 0 ≤ sd ∧ sd < 18446744073709551616) (hP : TabP s off go l n e T) (hdep : 0 ≤ T.depth ∧ T.depth ≤ 5) (hsm : ((n * gN l : Nat) : Int) ≤ 1048576) (hfit : s.live + (64 + classI ((n * gN l : Nat) : Int)) ≤ s.limit) (hno : s.limit < s.live + (64 + classI ((n * gN l : Nat) : Int)) + (64 + classI ((n * gN l : Nat) : Int))) (o1 g1 : Nat) (ho1 : s.at 64 = o1) (hg1 : (s.take 64).at (classI ((n * gN l : Nat) : Int)) = g1) :
    FnOk Tryz.prog 37 #[.agg #[.pointer (some ⟨pa, 0, none⟩), .int .i64 l.key, .int .i64 l.elem, .int .i64 l.ka, .int .i64 l.ea, .int .i64 l.cap, .int .i64 l.eo, .int .i64 l.bo, .int .i64 l.slot, .int .i64 l.group, .int .i64 (off : Nat)], .pointer (some ⟨po, 0, none⟩), .int .u64 sd] [pt po (.cells #[.map (some bm)] 191 (0, 0)), mapH (fun k : ByteArray => Value.string k) bm m, G, arenaH pa s] (fun v L => ∃ s1, v = .tuple #[.agg #[.pointer none, .int .i64 0, .int .i64 0, .int .i64 0, .int .i64 0, .int .i64 0, .int .i64 0, .int .i64 0, .int .i64 0, .int .i64 0, .int .i64 0], .agg #[.pointer none, .int .i64 0, .int .i64 0, .int .i64 0, .int .i64 0, .int .i64 0, .int .i64 0, .int .i64 0, .int .i64 0, .int .i64 0, .int .i64 0], .int .i64 22] ∧ L = [pt po (.cells #[.map (some bm)] 191 (0, 0)), mapH (fun k : ByteArray => Value.string k) bm m, G, arenaH pa (s1.gives [((o1 : Nat) : Int), ((g1 : Nat) : Int)])] ∧ NewS s s1 (classI ((n * gN l : Nat) : Int)) ∧ KeepA s (s1.gives [((o1 : Nat) : Int), ((g1 : Nat) : Int)]) ∧ (s1.gives [((o1 : Nat) : Int), ((g1 : Nat) : Int)]).live = s.live) := by
  have hn8 := hP.n0
  have hLy := layN hP.hl
  have hcb2 := (classI_bnd (n := ((n * gN l : Nat) : Int)) (by have := hLy.g_eq; have := Nat.mul_le_mul_right (gN l) hn8.1; omega)).2.2 hsm
  refine fn_intro en37 Tryz.func37 rfl rfl rfl fun Fr w0 => t_nm ?_
  refine t_pure (φ := s.ok) (fun w hw => arena_ok hw (.there (.there (.there .here)))) fun hok0 => ?_
  refine sr <| o_boxA rfl rfl fun b3 => o_box1 rfl rfl rfl fun b4 => o_box1 rfl rfl rfl fun b5 => o_allocA rfl yZ34 fun b6 => o_allocA rfl yZ34 fun b7 => o_alloc1 rfl yZ44 rfl fun b8 => lz <| l_q rfl (qlda rfl yA34 yS34) ?_
  refine lc1 rfl rfl rfl (StatP_ok pa off go n e s l T hP) ?_
  refine mv rfl rfl <| l_q rfl (q_extractL rfl ga) ?_
  refine l_q rfl (q_extractL rfl ga) ?_
  refine o_allocA rfl yZ47 fun b9 => sta rfl rfl rfl yS47 rfl rfl ?_
  refine st rfl rfl rfl yS44 rfl ?_
  refine lc <| t_seq <| sr <| l_q rfl (qld rfl yA44) ?_
  refine l_q rfl (qi rfl rfl (b_neq ·)) <| lc <| t_if rfl (fun z => ?_) fun z => ?_
  · exact absurd rfl z
  · skip
    refine t_skip <| n_code <| t_seq ?_
    apply t_cut (p := (fun (x : Nat × ArS) => TabP x.2 o1 g1 l n e (newT n (T.depth + 1)) ∧ NewS s x.2 (classI ((n * gN l : Nat) : Int)))) (EE := (fun x => [(3, .pointer (some ⟨b3, 0, none⟩)), (4, .pointer (some ⟨b4, 0, none⟩)), (5, .pointer (some ⟨b5, 0, none⟩)), (6, .pointer (some ⟨b6, 0, none⟩)), (7, .pointer (some ⟨b7, 0, none⟩)), (8, .pointer (some ⟨b8, 0, none⟩)), (9, .pointer (some ⟨b9, 0, none⟩)), (10, .pointer (some ⟨x.1, 0, none⟩))])) (LL := (fun x => pt x.1 (.cells #[.pointer (some ⟨pa, 0, none⟩), .int .i64 l.key, .int .i64 l.elem, .int .i64 l.ka, .int .i64 l.ea, .int .i64 l.cap, .int .i64 l.eo, .int .i64 l.bo, .int .i64 l.slot, .int .i64 l.group, .int .i64 ((o1 : Nat) : Int)] 34 (0, 0)) :: arenaH pa x.2 :: pt b3 (.cells #[.pointer (some ⟨pa, 0, none⟩), .int .i64 l.key, .int .i64 l.elem, .int .i64 l.ka, .int .i64 l.ea, .int .i64 l.cap, .int .i64 l.eo, .int .i64 l.bo, .int .i64 l.slot, .int .i64 l.group, .int .i64 (off : Nat)] 34 (0, 0)) :: pt b4 (.cells #[.pointer (some ⟨po, 0, none⟩)] 74 (0, 0)) :: pt b5 (.cells #[.int .u64 sd] 52 (0, 0)) :: pt b6 (.cells #[.pointer none, .int .i64 0, .int .i64 0, .int .i64 0, .int .i64 0, .int .i64 0, .int .i64 0, .int .i64 0, .int .i64 0, .int .i64 0, .int .i64 0] 34 (0, 0)) :: pt b7 (.cells #[.pointer none, .int .i64 0, .int .i64 0, .int .i64 0, .int .i64 0, .int .i64 0, .int .i64 0, .int .i64 0, .int .i64 0, .int .i64 0, .int .i64 0] 34 (0, 0)) :: pt b8 (.cells #[.int .i64 0] 44 (0, 0)) :: pt b9 (.cells #[.int .i64 T.used, .int .i64 (8 * (n : Int)), .int .i64 T.left, .int .i64 T.depth, .int .i64 T.pins, .int .i64 T.next, .bool (decide (T.kind = 4)), .int .i64 (go : Nat)] 47 (0, 0)) :: pt po (.cells #[.map (some bm)] 191 (0, 0)) :: mapH (fun k : ByteArray => Value.string k) bm m :: G :: Fr))
    refine t_draw mixed ?_
    apply dq 0 rfl
    · exact yq (qlda rfl yA34 yS34)
    apply dq 2 rfl
    · exact yq (qlda rfl yA34 yS34)
    apply dq 4 rfl
    · exact yq (qfa 1 rfl yU47 rfl rfl yS3)
    apply dq 5 rfl
    · exact yq (qld rfl yA3)
    apply dq 6 rfl
    · exact yq (qfa 3 rfl yU47 rfl rfl yS3)
    apply dq 7 rfl
    · exact yq (qld rfl yA3)
    apply dq 8 rfl
    · exact yq (qadd rfl rfl)
    apply d_eff2 1 13
    · kernel_rfl
    · apply effAt (q1 := [0]) (q2 := [8, 7, 6, 5, 4, 2]) [(27, _)]
      · exact gO
      · exact ⟨rfl, trivial⟩
      · kernel_rfl
      intro Ex
      refine lc1 rfl rfl rfl (TArena_ok pa l (off : Nat)) ?_
      refine l_nil ?_
      apply n_d
      · refine ⟨?_, ?_, ?_, ?_, ?_, ?_, trivial⟩
        · apply ya rfl rfl; exact yq (qadd rfl rfl)
        · apply ya rfl rfl; exact yq (qld rfl yA3)
        · apply ya rfl rfl; exact yq (qfa 3 rfl yU47 rfl rfl yS3)
        · apply ya rfl rfl; exact yq (qld rfl yA3)
        · apply ya rfl rfl; exact yq (qfa 1 rfl yU47 rfl rfl yS3)
        · apply ya rfl rfl; exact yq (qlda rfl yA34 yS34)
      apply d_eff2 3 13
      · kernel_rfl
      · apply effAt (q1 := [2]) (q2 := [8, 7, 6, 5, 4]) [(29, _)]
        · exact gO
        · exact ⟨rfl, trivial⟩
        · kernel_rfl
        intro Ex
        refine lc1 rfl rfl rfl (TLayout_ok pa l (off : Nat)) ?_
        refine l_nil ?_
        apply n_d
        · refine ⟨?_, ?_, ?_, ?_, ?_, trivial⟩
          · apply ya rfl rfl; exact yq (qadd rfl rfl)
          · apply ya rfl rfl; exact yq (qld rfl yA3)
          · apply ya rfl rfl; exact yq (qfa 3 rfl yU47 rfl rfl yS3)
          · apply ya rfl rfl; exact yq (qld rfl yA3)
          · apply ya rfl rfl; exact yq (qfa 1 rfl yU47 rfl rfl yS3)
        apply d_eff2 9 13
        · kernel_rfl
        · apply effAt (q1 := [5, 8, 4, 7, 6]) (q2 := []) [(28, _), (30, _), (32, _), (35, _)]
          · exact gO
          · exact ⟨rfl, rfl, rfl, rfl, trivial⟩
          · kernel_rfl
          intro Ex
          refine lcf rfl rfl rfl (NewFit_ok pa n e s l _ (T.depth + 1) hP.hl hP.he hP.hn rfl ⟨by omega, by omega⟩ hsm (by omega) o1 g1 ho1 hg1) ?_
          rintro v L' ⟨s1, rfl, rfl, hT1, hN1⟩
          refine l_nm ?_
          refine l_nil ?_
          apply n_d
          · exact trivial
          apply dq 10 rfl
          · exact yq (q_move rfl)
          apply dq 11 rfl
          · exact yq (q_extractL rfl ga)
          apply dq 12 rfl
          · exact yq (q_extractL rfl ga)
          refine d_eff1 [] [12, 11, 10] 13 [] gO trivial (by kernel_rfl) (by kernel_rfl) fun Ex => ?_
          refine o_allocA rfl yZ34 fun b10 => l_nil ?_
          apply n_d
          · refine ⟨?_, ?_, ?_, trivial⟩
            · apply ya rfl rfl; exact yq (q_extractL rfl ga)
            · apply ya rfl rfl; exact yq (q_extractL rfl ga)
            · apply ya rfl rfl; exact yq (q_move rfl)
          refine d_eff1 [11, 10] [12] 14 [(10, _), (37, _)] gO ⟨rfl, rfl, trivial⟩ (by kernel_rfl) (by kernel_rfl) fun Ex => ?_
          refine sta rfl rfl rfl yS34 rfl rfl ?_
          refine l_nil ?_
          apply n_d
          · refine ⟨?_, trivial⟩
            · apply ya rfl rfl; exact yq (q_extractL rfl ga)
          refine d_eff1 [12] [] 15 [(8, _), (38, _)] gO ⟨rfl, rfl, trivial⟩ (by kernel_rfl) (by kernel_rfl) fun Ex => ?_
          refine st rfl rfl rfl yS44 rfl ?_
          refine l_nil ?_
          apply n_d
          · exact trivial
          refine d_end (by kernel_rfl) ?_
          apply n_join ((b10, s1))
          · exact ⟨hT1, hN1⟩
          · exact ⟨rfl, rfl, rfl, rfl, rfl, rfl, rfl, rfl, trivial⟩
          · exact en
        · apply effAt (q1 := []) (q2 := [8, 7, 6, 5, 4]) []
          · exact gO
          · exact trivial
          · kernel_rfl
          intro Ex
          refine o_allocA rfl yZ34 fun b10 => l_nil ?_
          apply n_d
          · refine ⟨?_, ?_, ?_, ?_, ?_, trivial⟩
            · apply ya rfl rfl; exact yq (qadd rfl rfl)
            · apply ya rfl rfl; exact yq (qld rfl yA3)
            · apply ya rfl rfl; exact yq (qfa 3 rfl yU47 rfl rfl yS3)
            · apply ya rfl rfl; exact yq (qld rfl yA3)
            · apply ya rfl rfl; exact yq (qfa 1 rfl yU47 rfl rfl yS3)
          refine d_eff1 [5, 8, 4, 7, 6] [] 9 [(28, _), (30, _), (32, _), (35, _)] gO ⟨rfl, rfl, rfl, rfl, trivial⟩ (by kernel_rfl) (by kernel_rfl) fun Ex => ?_
          refine lcf rfl rfl rfl (NewFit_ok pa n e s l _ (T.depth + 1) hP.hl hP.he hP.hn rfl ⟨by omega, by omega⟩ hsm (by omega) o1 g1 ho1 hg1) ?_
          rintro v L' ⟨s1, rfl, rfl, hT1, hN1⟩
          refine l_nm ?_
          refine l_nil ?_
          apply n_d
          · exact trivial
          apply dq 10 rfl
          · exact yq (q_move rfl)
          apply dq 11 rfl
          · exact yq (q_extractL rfl ga)
          apply dq 12 rfl
          · exact yq (q_extractL rfl ga)
          refine d_eff1 [11, 10] [12] 14 [(10, _), (37, _)] gO ⟨rfl, rfl, trivial⟩ (by kernel_rfl) (by kernel_rfl) fun Ex => ?_
          refine sta rfl rfl rfl yS34 rfl rfl ?_
          refine l_nil ?_
          apply n_d
          · refine ⟨?_, trivial⟩
            · apply ya rfl rfl; exact yq (q_extractL rfl ga)
          refine d_eff1 [12] [] 15 [(8, _), (38, _)] gO ⟨rfl, rfl, trivial⟩ (by kernel_rfl) (by kernel_rfl) fun Ex => ?_
          refine st rfl rfl rfl yS44 rfl ?_
          refine l_nil ?_
          apply n_d
          · exact trivial
          refine d_end (by kernel_rfl) ?_
          apply n_join ((b10, s1))
          · exact ⟨hT1, hN1⟩
          · exact ⟨rfl, rfl, rfl, rfl, rfl, rfl, rfl, rfl, trivial⟩
          · exact en
      · apply effAt (q1 := []) (q2 := [8, 7, 6, 5, 4, 2]) []
        · exact gO
        · exact trivial
        · kernel_rfl
        intro Ex
        refine o_allocA rfl yZ34 fun b10 => l_nil ?_
        apply n_d
        · refine ⟨?_, ?_, ?_, ?_, ?_, ?_, trivial⟩
          · apply ya rfl rfl; exact yq (qadd rfl rfl)
          · apply ya rfl rfl; exact yq (qld rfl yA3)
          · apply ya rfl rfl; exact yq (qfa 3 rfl yU47 rfl rfl yS3)
          · apply ya rfl rfl; exact yq (qld rfl yA3)
          · apply ya rfl rfl; exact yq (qfa 1 rfl yU47 rfl rfl yS3)
          · apply ya rfl rfl; exact yq (qlda rfl yA34 yS34)
        refine d_eff1 [2] [8, 7, 6, 5, 4] 3 [(29, _)] gO ⟨rfl, trivial⟩ (by kernel_rfl) (by kernel_rfl) fun Ex => ?_
        refine lc1 rfl rfl rfl (TLayout_ok pa l (off : Nat)) ?_
        refine l_nil ?_
        apply n_d
        · refine ⟨?_, ?_, ?_, ?_, ?_, trivial⟩
          · apply ya rfl rfl; exact yq (qadd rfl rfl)
          · apply ya rfl rfl; exact yq (qld rfl yA3)
          · apply ya rfl rfl; exact yq (qfa 3 rfl yU47 rfl rfl yS3)
          · apply ya rfl rfl; exact yq (qld rfl yA3)
          · apply ya rfl rfl; exact yq (qfa 1 rfl yU47 rfl rfl yS3)
        refine d_eff1 [5, 8, 4, 7, 6] [] 9 [(28, _), (30, _), (32, _), (35, _)] gO ⟨rfl, rfl, rfl, rfl, trivial⟩ (by kernel_rfl) (by kernel_rfl) fun Ex => ?_
        refine lcf rfl rfl rfl (NewFit_ok pa n e s l _ (T.depth + 1) hP.hl hP.he hP.hn rfl ⟨by omega, by omega⟩ hsm (by omega) o1 g1 ho1 hg1) ?_
        rintro v L' ⟨s1, rfl, rfl, hT1, hN1⟩
        refine l_nm ?_
        refine l_nil ?_
        apply n_d
        · exact trivial
        apply dq 10 rfl
        · exact yq (q_move rfl)
        apply dq 11 rfl
        · exact yq (q_extractL rfl ga)
        apply dq 12 rfl
        · exact yq (q_extractL rfl ga)
        refine d_eff1 [11, 10] [12] 14 [(10, _), (37, _)] gO ⟨rfl, rfl, trivial⟩ (by kernel_rfl) (by kernel_rfl) fun Ex => ?_
        refine sta rfl rfl rfl yS34 rfl rfl ?_
        refine l_nil ?_
        apply n_d
        · refine ⟨?_, trivial⟩
          · apply ya rfl rfl; exact yq (q_extractL rfl ga)
        refine d_eff1 [12] [] 15 [(8, _), (38, _)] gO ⟨rfl, rfl, trivial⟩ (by kernel_rfl) (by kernel_rfl) fun Ex => ?_
        refine st rfl rfl rfl yS44 rfl ?_
        refine l_nil ?_
        apply n_d
        · exact trivial
        refine d_end (by kernel_rfl) ?_
        apply n_join ((b10, s1))
        · exact ⟨hT1, hN1⟩
        · exact ⟨rfl, rfl, rfl, rfl, rfl, rfl, rfl, rfl, trivial⟩
        · exact en
    · apply effAt (q1 := []) (q2 := [8, 7, 6, 5, 4, 2, 0]) []
      · exact gO
      · exact trivial
      · kernel_rfl
      intro Ex
      refine o_allocA rfl yZ34 fun b10 => l_nil ?_
      apply n_d
      · refine ⟨?_, ?_, ?_, ?_, ?_, ?_, ?_, trivial⟩
        · apply ya rfl rfl; exact yq (qadd rfl rfl)
        · apply ya rfl rfl; exact yq (qld rfl yA3)
        · apply ya rfl rfl; exact yq (qfa 3 rfl yU47 rfl rfl yS3)
        · apply ya rfl rfl; exact yq (qld rfl yA3)
        · apply ya rfl rfl; exact yq (qfa 1 rfl yU47 rfl rfl yS3)
        · apply ya rfl rfl; exact yq (qlda rfl yA34 yS34)
        · apply ya rfl rfl; exact yq (qlda rfl yA34 yS34)
      refine d_eff1 [0] [8, 7, 6, 5, 4, 2] 1 [(27, _)] gO ⟨rfl, trivial⟩ (by kernel_rfl) (by kernel_rfl) fun Ex => ?_
      refine lc1 rfl rfl rfl (TArena_ok pa l (off : Nat)) ?_
      refine l_nil ?_
      apply n_d
      · refine ⟨?_, ?_, ?_, ?_, ?_, ?_, trivial⟩
        · apply ya rfl rfl; exact yq (qadd rfl rfl)
        · apply ya rfl rfl; exact yq (qld rfl yA3)
        · apply ya rfl rfl; exact yq (qfa 3 rfl yU47 rfl rfl yS3)
        · apply ya rfl rfl; exact yq (qld rfl yA3)
        · apply ya rfl rfl; exact yq (qfa 1 rfl yU47 rfl rfl yS3)
        · apply ya rfl rfl; exact yq (qlda rfl yA34 yS34)
      refine d_eff1 [2] [8, 7, 6, 5, 4] 3 [(29, _)] gO ⟨rfl, trivial⟩ (by kernel_rfl) (by kernel_rfl) fun Ex => ?_
      refine lc1 rfl rfl rfl (TLayout_ok pa l (off : Nat)) ?_
      refine l_nil ?_
      apply n_d
      · refine ⟨?_, ?_, ?_, ?_, ?_, trivial⟩
        · apply ya rfl rfl; exact yq (qadd rfl rfl)
        · apply ya rfl rfl; exact yq (qld rfl yA3)
        · apply ya rfl rfl; exact yq (qfa 3 rfl yU47 rfl rfl yS3)
        · apply ya rfl rfl; exact yq (qld rfl yA3)
        · apply ya rfl rfl; exact yq (qfa 1 rfl yU47 rfl rfl yS3)
      refine d_eff1 [5, 8, 4, 7, 6] [] 9 [(28, _), (30, _), (32, _), (35, _)] gO ⟨rfl, rfl, rfl, rfl, trivial⟩ (by kernel_rfl) (by kernel_rfl) fun Ex => ?_
      refine lcf rfl rfl rfl (NewFit_ok pa n e s l _ (T.depth + 1) hP.hl hP.he hP.hn rfl ⟨by omega, by omega⟩ hsm (by omega) o1 g1 ho1 hg1) ?_
      rintro v L' ⟨s1, rfl, rfl, hT1, hN1⟩
      refine l_nm ?_
      refine l_nil ?_
      apply n_d
      · exact trivial
      apply dq 10 rfl
      · exact yq (q_move rfl)
      apply dq 11 rfl
      · exact yq (q_extractL rfl ga)
      apply dq 12 rfl
      · exact yq (q_extractL rfl ga)
      refine d_eff1 [11, 10] [12] 14 [(10, _), (37, _)] gO ⟨rfl, rfl, trivial⟩ (by kernel_rfl) (by kernel_rfl) fun Ex => ?_
      refine sta rfl rfl rfl yS34 rfl rfl ?_
      refine l_nil ?_
      apply n_d
      · refine ⟨?_, trivial⟩
        · apply ya rfl rfl; exact yq (q_extractL rfl ga)
      refine d_eff1 [12] [] 15 [(8, _), (38, _)] gO ⟨rfl, rfl, trivial⟩ (by kernel_rfl) (by kernel_rfl) fun Ex => ?_
      refine st rfl rfl rfl yS44 rfl ?_
      refine l_nil ?_
      apply n_d
      · exact trivial
      refine d_end (by kernel_rfl) ?_
      apply n_join ((b10, s1))
      · exact ⟨hT1, hN1⟩
      · exact ⟨rfl, rfl, rfl, rfl, rfl, rfl, rfl, rfl, trivial⟩
      · exact en
    rintro ⟨b10, s1⟩ ⟨hT1, hN1⟩
    try dsimp only
    refine n_nm ?_
    refine n_code <| t_seq <| sr <| l_q rfl (qld rfl yA44) ?_
    refine l_q rfl (qi rfl rfl (b_neq ·)) <| lc <| t_if rfl (fun z2 => ?_) fun z2 => ?_
    · exact absurd rfl z2
    · refine t_pure (φ := s1.ok) (fun w hw => arena_ok (pa := pa) hw tk) fun hok1 => ?_
      dsimp only at hT1 hN1
      have hl1 := hN1.live
      have hli1 := hN1.limit
      have hP1 := TabP.newS hP hok0 hN1
      obtain ⟨hK, hlv, _⟩ := new_gives hok0 hok1 hcb2.2 (by omega) hN1 ho1 hg1
      refine t_skip <| nz <| l_q rfl (q_makeFunc rfl rfl) ?_
      refine o_defer rfl rfl rfl rfl ?_
      refine lc <| t_seq ?_
      apply t_cut (p := (fun (x : Nat) => True)) (EE := (fun x => [(3, .pointer (some ⟨b3, 0, none⟩)), (4, .pointer (some ⟨b4, 0, none⟩)), (5, .pointer (some ⟨b5, 0, none⟩)), (6, .pointer (some ⟨b6, 0, none⟩)), (7, .pointer (some ⟨b7, 0, none⟩)), (8, .pointer (some ⟨b8, 0, none⟩)), (9, .pointer (some ⟨b9, 0, none⟩)), (10, .pointer (some ⟨b10, 0, none⟩)), (11, .pointer (some ⟨x, 0, none⟩))])) (LL := (fun x => pt x (.cells #[.pointer none, .int .i64 0, .int .i64 0, .int .i64 0, .int .i64 0, .int .i64 0, .int .i64 0, .int .i64 0, .int .i64 0, .int .i64 0, .int .i64 0] 34 (0, 0)) :: arenaH pa s1 :: pt b10 (.cells #[.pointer (some ⟨pa, 0, none⟩), .int .i64 l.key, .int .i64 l.elem, .int .i64 l.ka, .int .i64 l.ea, .int .i64 l.cap, .int .i64 l.eo, .int .i64 l.bo, .int .i64 l.slot, .int .i64 l.group, .int .i64 ((o1 : Nat) : Int)] 34 (0, 0)) :: pt b3 (.cells #[.pointer (some ⟨pa, 0, none⟩), .int .i64 l.key, .int .i64 l.elem, .int .i64 l.ka, .int .i64 l.ea, .int .i64 l.cap, .int .i64 l.eo, .int .i64 l.bo, .int .i64 l.slot, .int .i64 l.group, .int .i64 (off : Nat)] 34 (0, 0)) :: pt b4 (.cells #[.pointer (some ⟨po, 0, none⟩)] 74 (0, 0)) :: pt b5 (.cells #[.int .u64 sd] 52 (0, 0)) :: pt b6 (.cells #[.pointer none, .int .i64 0, .int .i64 0, .int .i64 0, .int .i64 0, .int .i64 0, .int .i64 0, .int .i64 0, .int .i64 0, .int .i64 0, .int .i64 0] 34 (0, 0)) :: pt b7 (.cells #[.pointer none, .int .i64 0, .int .i64 0, .int .i64 0, .int .i64 0, .int .i64 0, .int .i64 0, .int .i64 0, .int .i64 0, .int .i64 0, .int .i64 0] 34 (0, 0)) :: pt b8 (.cells #[.int .i64 22] 44 (0, 0)) :: pt b9 (.cells #[.int .i64 T.used, .int .i64 (8 * (n : Int)), .int .i64 T.left, .int .i64 T.depth, .int .i64 T.pins, .int .i64 T.next, .bool (decide (T.kind = 4)), .int .i64 (go : Nat)] 47 (0, 0)) :: pt po (.cells #[.map (some bm)] 191 (0, 0)) :: mapH (fun k : ByteArray => Value.string k) bm m :: G :: Fr))
      refine t_draw mixed ?_
      apply dq 0 rfl
      · exact yq (qlda rfl yA34 yS34)
      apply dq 2 rfl
      · exact yq (qlda rfl yA34 yS34)
      apply dq 4 rfl
      · exact yq (qfa 1 rfl yU47 rfl rfl yS3)
      apply dq 5 rfl
      · exact yq (qld rfl yA3)
      apply dq 6 rfl
      · exact yq (qfa 3 rfl yU47 rfl rfl yS3)
      apply dq 7 rfl
      · exact yq (qld rfl yA3)
      apply dq 8 rfl
      · exact yq (qadd rfl rfl)
      apply d_eff2 1 13
      · kernel_rfl
      · apply effAt (q1 := [0]) (q2 := [8, 7, 6, 5, 4, 2]) [(46, _)]
        · exact gO
        · exact ⟨rfl, trivial⟩
        · kernel_rfl
        intro Ex
        refine lc1 rfl rfl rfl (TArena_ok pa l (off : Nat)) ?_
        refine l_nil ?_
        apply n_d
        · refine ⟨?_, ?_, ?_, ?_, ?_, ?_, trivial⟩
          · apply ya rfl rfl; exact yq (qadd rfl rfl)
          · apply ya rfl rfl; exact yq (qld rfl yA3)
          · apply ya rfl rfl; exact yq (qfa 3 rfl yU47 rfl rfl yS3)
          · apply ya rfl rfl; exact yq (qld rfl yA3)
          · apply ya rfl rfl; exact yq (qfa 1 rfl yU47 rfl rfl yS3)
          · apply ya rfl rfl; exact yq (qlda rfl yA34 yS34)
        apply d_eff2 3 13
        · kernel_rfl
        · apply effAt (q1 := [2]) (q2 := [8, 7, 6, 5, 4]) [(48, _)]
          · exact gO
          · exact ⟨rfl, trivial⟩
          · kernel_rfl
          intro Ex
          refine lc1 rfl rfl rfl (TLayout_ok pa l (off : Nat)) ?_
          refine l_nil ?_
          apply n_d
          · refine ⟨?_, ?_, ?_, ?_, ?_, trivial⟩
            · apply ya rfl rfl; exact yq (qadd rfl rfl)
            · apply ya rfl rfl; exact yq (qld rfl yA3)
            · apply ya rfl rfl; exact yq (qfa 3 rfl yU47 rfl rfl yS3)
            · apply ya rfl rfl; exact yq (qld rfl yA3)
            · apply ya rfl rfl; exact yq (qfa 1 rfl yU47 rfl rfl yS3)
          apply d_eff2 9 13
          · kernel_rfl
          · apply effAt (q1 := [5, 8, 4, 7, 6]) (q2 := []) [(47, _), (49, _), (51, _), (54, _)]
            · exact gO
            · exact ⟨rfl, rfl, rfl, rfl, trivial⟩
            · kernel_rfl
            intro Ex
            refine lc1 rfl rfl rfl (NewNo_ok pa n e s1 l _ (T.depth + 1) hP.hl hP.he hP.hn rfl ⟨by omega, by omega⟩ (.inr (by omega))) ?_
            refine l_nil ?_
            apply n_d
            · exact trivial
            apply dq 10 rfl
            · exact yq (q_move rfl)
            apply dq 11 rfl
            · exact yq (q_extractL rfl ga)
            apply dq 12 rfl
            · exact yq (q_extractL rfl ga)
            refine d_eff1 [] [12, 11, 10] 13 [] gO trivial (by kernel_rfl) (by kernel_rfl) fun Ex => ?_
            refine o_allocA rfl yZ34 fun b11 => l_nil ?_
            apply n_d
            · refine ⟨?_, ?_, ?_, trivial⟩
              · apply ya rfl rfl; exact yq (q_extractL rfl ga)
              · apply ya rfl rfl; exact yq (q_extractL rfl ga)
              · apply ya rfl rfl; exact yq (q_move rfl)
            refine d_eff1 [11, 10] [12] 14 [(11, _), (56, _)] gO ⟨rfl, rfl, trivial⟩ (by kernel_rfl) (by kernel_rfl) fun Ex => ?_
            refine sta rfl rfl rfl yS34 rfl rfl ?_
            refine l_nil ?_
            apply n_d
            · refine ⟨?_, trivial⟩
              · apply ya rfl rfl; exact yq (q_extractL rfl ga)
            refine d_eff1 [12] [] 15 [(8, _), (57, _)] gO ⟨rfl, rfl, trivial⟩ (by kernel_rfl) (by kernel_rfl) fun Ex => ?_
            refine st rfl rfl rfl yS44 rfl ?_
            refine l_nil ?_
            apply n_d
            · exact trivial
            refine d_end (by kernel_rfl) ?_
            apply n_join (b11)
            · exact trivial
            · exact ⟨rfl, rfl, rfl, rfl, rfl, rfl, rfl, rfl, rfl, trivial⟩
            · exact en
          · apply effAt (q1 := []) (q2 := [8, 7, 6, 5, 4]) []
            · exact gO
            · exact trivial
            · kernel_rfl
            intro Ex
            refine o_allocA rfl yZ34 fun b11 => l_nil ?_
            apply n_d
            · refine ⟨?_, ?_, ?_, ?_, ?_, trivial⟩
              · apply ya rfl rfl; exact yq (qadd rfl rfl)
              · apply ya rfl rfl; exact yq (qld rfl yA3)
              · apply ya rfl rfl; exact yq (qfa 3 rfl yU47 rfl rfl yS3)
              · apply ya rfl rfl; exact yq (qld rfl yA3)
              · apply ya rfl rfl; exact yq (qfa 1 rfl yU47 rfl rfl yS3)
            refine d_eff1 [5, 8, 4, 7, 6] [] 9 [(47, _), (49, _), (51, _), (54, _)] gO ⟨rfl, rfl, rfl, rfl, trivial⟩ (by kernel_rfl) (by kernel_rfl) fun Ex => ?_
            refine lc1 rfl rfl rfl (NewNo_ok pa n e s1 l _ (T.depth + 1) hP.hl hP.he hP.hn rfl ⟨by omega, by omega⟩ (.inr (by omega))) ?_
            refine l_nil ?_
            apply n_d
            · exact trivial
            apply dq 10 rfl
            · exact yq (q_move rfl)
            apply dq 11 rfl
            · exact yq (q_extractL rfl ga)
            apply dq 12 rfl
            · exact yq (q_extractL rfl ga)
            refine d_eff1 [11, 10] [12] 14 [(11, _), (56, _)] gO ⟨rfl, rfl, trivial⟩ (by kernel_rfl) (by kernel_rfl) fun Ex => ?_
            refine sta rfl rfl rfl yS34 rfl rfl ?_
            refine l_nil ?_
            apply n_d
            · refine ⟨?_, trivial⟩
              · apply ya rfl rfl; exact yq (q_extractL rfl ga)
            refine d_eff1 [12] [] 15 [(8, _), (57, _)] gO ⟨rfl, rfl, trivial⟩ (by kernel_rfl) (by kernel_rfl) fun Ex => ?_
            refine st rfl rfl rfl yS44 rfl ?_
            refine l_nil ?_
            apply n_d
            · exact trivial
            refine d_end (by kernel_rfl) ?_
            apply n_join (b11)
            · exact trivial
            · exact ⟨rfl, rfl, rfl, rfl, rfl, rfl, rfl, rfl, rfl, trivial⟩
            · exact en
        · apply effAt (q1 := []) (q2 := [8, 7, 6, 5, 4, 2]) []
          · exact gO
          · exact trivial
          · kernel_rfl
          intro Ex
          refine o_allocA rfl yZ34 fun b11 => l_nil ?_
          apply n_d
          · refine ⟨?_, ?_, ?_, ?_, ?_, ?_, trivial⟩
            · apply ya rfl rfl; exact yq (qadd rfl rfl)
            · apply ya rfl rfl; exact yq (qld rfl yA3)
            · apply ya rfl rfl; exact yq (qfa 3 rfl yU47 rfl rfl yS3)
            · apply ya rfl rfl; exact yq (qld rfl yA3)
            · apply ya rfl rfl; exact yq (qfa 1 rfl yU47 rfl rfl yS3)
            · apply ya rfl rfl; exact yq (qlda rfl yA34 yS34)
          refine d_eff1 [2] [8, 7, 6, 5, 4] 3 [(48, _)] gO ⟨rfl, trivial⟩ (by kernel_rfl) (by kernel_rfl) fun Ex => ?_
          refine lc1 rfl rfl rfl (TLayout_ok pa l (off : Nat)) ?_
          refine l_nil ?_
          apply n_d
          · refine ⟨?_, ?_, ?_, ?_, ?_, trivial⟩
            · apply ya rfl rfl; exact yq (qadd rfl rfl)
            · apply ya rfl rfl; exact yq (qld rfl yA3)
            · apply ya rfl rfl; exact yq (qfa 3 rfl yU47 rfl rfl yS3)
            · apply ya rfl rfl; exact yq (qld rfl yA3)
            · apply ya rfl rfl; exact yq (qfa 1 rfl yU47 rfl rfl yS3)
          refine d_eff1 [5, 8, 4, 7, 6] [] 9 [(47, _), (49, _), (51, _), (54, _)] gO ⟨rfl, rfl, rfl, rfl, trivial⟩ (by kernel_rfl) (by kernel_rfl) fun Ex => ?_
          refine lc1 rfl rfl rfl (NewNo_ok pa n e s1 l _ (T.depth + 1) hP.hl hP.he hP.hn rfl ⟨by omega, by omega⟩ (.inr (by omega))) ?_
          refine l_nil ?_
          apply n_d
          · exact trivial
          apply dq 10 rfl
          · exact yq (q_move rfl)
          apply dq 11 rfl
          · exact yq (q_extractL rfl ga)
          apply dq 12 rfl
          · exact yq (q_extractL rfl ga)
          refine d_eff1 [11, 10] [12] 14 [(11, _), (56, _)] gO ⟨rfl, rfl, trivial⟩ (by kernel_rfl) (by kernel_rfl) fun Ex => ?_
          refine sta rfl rfl rfl yS34 rfl rfl ?_
          refine l_nil ?_
          apply n_d
          · refine ⟨?_, trivial⟩
            · apply ya rfl rfl; exact yq (q_extractL rfl ga)
          refine d_eff1 [12] [] 15 [(8, _), (57, _)] gO ⟨rfl, rfl, trivial⟩ (by kernel_rfl) (by kernel_rfl) fun Ex => ?_
          refine st rfl rfl rfl yS44 rfl ?_
          refine l_nil ?_
          apply n_d
          · exact trivial
          refine d_end (by kernel_rfl) ?_
          apply n_join (b11)
          · exact trivial
          · exact ⟨rfl, rfl, rfl, rfl, rfl, rfl, rfl, rfl, rfl, trivial⟩
          · exact en
      · apply effAt (q1 := []) (q2 := [8, 7, 6, 5, 4, 2, 0]) []
        · exact gO
        · exact trivial
        · kernel_rfl
        intro Ex
        refine o_allocA rfl yZ34 fun b11 => l_nil ?_
        apply n_d
        · refine ⟨?_, ?_, ?_, ?_, ?_, ?_, ?_, trivial⟩
          · apply ya rfl rfl; exact yq (qadd rfl rfl)
          · apply ya rfl rfl; exact yq (qld rfl yA3)
          · apply ya rfl rfl; exact yq (qfa 3 rfl yU47 rfl rfl yS3)
          · apply ya rfl rfl; exact yq (qld rfl yA3)
          · apply ya rfl rfl; exact yq (qfa 1 rfl yU47 rfl rfl yS3)
          · apply ya rfl rfl; exact yq (qlda rfl yA34 yS34)
          · apply ya rfl rfl; exact yq (qlda rfl yA34 yS34)
        refine d_eff1 [0] [8, 7, 6, 5, 4, 2] 1 [(46, _)] gO ⟨rfl, trivial⟩ (by kernel_rfl) (by kernel_rfl) fun Ex => ?_
        refine lc1 rfl rfl rfl (TArena_ok pa l (off : Nat)) ?_
        refine l_nil ?_
        apply n_d
        · refine ⟨?_, ?_, ?_, ?_, ?_, ?_, trivial⟩
          · apply ya rfl rfl; exact yq (qadd rfl rfl)
          · apply ya rfl rfl; exact yq (qld rfl yA3)
          · apply ya rfl rfl; exact yq (qfa 3 rfl yU47 rfl rfl yS3)
          · apply ya rfl rfl; exact yq (qld rfl yA3)
          · apply ya rfl rfl; exact yq (qfa 1 rfl yU47 rfl rfl yS3)
          · apply ya rfl rfl; exact yq (qlda rfl yA34 yS34)
        refine d_eff1 [2] [8, 7, 6, 5, 4] 3 [(48, _)] gO ⟨rfl, trivial⟩ (by kernel_rfl) (by kernel_rfl) fun Ex => ?_
        refine lc1 rfl rfl rfl (TLayout_ok pa l (off : Nat)) ?_
        refine l_nil ?_
        apply n_d
        · refine ⟨?_, ?_, ?_, ?_, ?_, trivial⟩
          · apply ya rfl rfl; exact yq (qadd rfl rfl)
          · apply ya rfl rfl; exact yq (qld rfl yA3)
          · apply ya rfl rfl; exact yq (qfa 3 rfl yU47 rfl rfl yS3)
          · apply ya rfl rfl; exact yq (qld rfl yA3)
          · apply ya rfl rfl; exact yq (qfa 1 rfl yU47 rfl rfl yS3)
        refine d_eff1 [5, 8, 4, 7, 6] [] 9 [(47, _), (49, _), (51, _), (54, _)] gO ⟨rfl, rfl, rfl, rfl, trivial⟩ (by kernel_rfl) (by kernel_rfl) fun Ex => ?_
        refine lc1 rfl rfl rfl (NewNo_ok pa n e s1 l _ (T.depth + 1) hP.hl hP.he hP.hn rfl ⟨by omega, by omega⟩ (.inr (by omega))) ?_
        refine l_nil ?_
        apply n_d
        · exact trivial
        apply dq 10 rfl
        · exact yq (q_move rfl)
        apply dq 11 rfl
        · exact yq (q_extractL rfl ga)
        apply dq 12 rfl
        · exact yq (q_extractL rfl ga)
        refine d_eff1 [11, 10] [12] 14 [(11, _), (56, _)] gO ⟨rfl, rfl, trivial⟩ (by kernel_rfl) (by kernel_rfl) fun Ex => ?_
        refine sta rfl rfl rfl yS34 rfl rfl ?_
        refine l_nil ?_
        apply n_d
        · refine ⟨?_, trivial⟩
          · apply ya rfl rfl; exact yq (q_extractL rfl ga)
        refine d_eff1 [12] [] 15 [(8, _), (57, _)] gO ⟨rfl, rfl, trivial⟩ (by kernel_rfl) (by kernel_rfl) fun Ex => ?_
        refine st rfl rfl rfl yS44 rfl ?_
        refine l_nil ?_
        apply n_d
        · exact trivial
        refine d_end (by kernel_rfl) ?_
        apply n_join (b11)
        · exact trivial
        · exact ⟨rfl, rfl, rfl, rfl, rfl, rfl, rfl, rfl, rfl, trivial⟩
        · exact en
      rintro b11 _
      try dsimp only
      refine n_nm ?_
      refine n_code <| t_seq <| sr <| l_q rfl (qld rfl yA44) ?_
      refine l_q rfl (qi rfl rfl (b_neq ·)) <| lc <| t_if rfl (fun z3 => ?_) fun z3 => ?_
      · refine t_seq <| t_draw mixed ?_
        apply dq 0 rfl
        · exact yq (qlda rfl yA34 yS34)
        apply dq 1 rfl
        · exact yq (qlda rfl yA34 yS34)
        apply dq 2 rfl
        · exact yq (qld rfl yA44)
        refine d_eff1 [0] [2, 1] 3 [(6, _), (60, _)] gO ⟨rfl, rfl, trivial⟩ (by kernel_rfl) (by kernel_rfl) fun Ex => ?_
        refine sta rfl rfl rfl yS34 rfl rfl ?_
        refine l_nil ?_
        apply n_d
        · refine ⟨?_, ?_, trivial⟩
          · apply ya rfl rfl; exact yq (qld rfl yA44)
          · apply ya rfl rfl; exact yq (qlda rfl yA34 yS34)
        refine d_eff1 [1] [2] 4 [(7, _), (61, _)] gO ⟨rfl, rfl, trivial⟩ (by kernel_rfl) (by kernel_rfl) fun Ex => ?_
        refine sta rfl rfl rfl yS34 rfl rfl ?_
        refine l_nil ?_
        apply n_d
        · refine ⟨?_, trivial⟩
          · apply ya rfl rfl; exact yq (qld rfl yA44)
        refine d_eff1 [2] [] 5 [(8, _), (62, _)] gO ⟨rfl, rfl, trivial⟩ (by kernel_rfl) (by kernel_rfl) fun Ex => ?_
        refine st rfl rfl rfl yS44 rfl ?_
        refine l_nil ?_
        apply n_d
        · exact trivial
        refine d_end (by kernel_rfl) ?_
        refine n_code <| rt ?_
        apply f_retd (.inl rfl) [] (hargs := rfl) (hc := SplitF_ok pa o1 g1 n e s1 l _ hT1 64 _ (by rw [← ho1]; exact (hN1.bl _).2 (.inr (.inl rfl))) (by rw [← hg1]; exact (hN1.bl _).2 (.inr (.inr rfl))) b8 b10)
        case hm => repeat (first | with_reducible exact TakeM.nil | apply TakeM.cons | with_reducible exact Take.here | apply Take.there)
        case hp => exact pk
        rintro _ rfl
        simp only [List.cons_append, List.nil_append]
        refine ⟨_, [pt po (.cells #[.map (some bm)] 191 (0, 0)), mapH (fun k : ByteArray => Value.string k) bm m, G, arenaH pa (s1.gives [((o1 : Nat) : Int), ((g1 : Nat) : Int)])], ?_, ⟨s1, rfl, rfl, hN1, hK, hlv⟩, ?_⟩
        · apply res3 rfl
          · apply Rv.agg rfl
            · exact tk
            · exact run_loadAll yA34 yS34 rfl
          · apply Rv.agg rfl
            · exact tk
            · exact run_loadAll yA34 yS34 rfl
          · apply Rv.cellL rfl
            · exact tk
            · exact ga
            · exact yA44
        · exact en
      · exact absurd z3 (by decide)
theorem Split_ok (G : HP) (hGT : TabOk G) (hGO : OddOk G) (pa off go po bm n e : Nat) (s : ArS) (l : Lay) (T : Tb) (m : List (ByteArray × Value)) (hm : OverOk m) (sd : Int) (hsd : 0 ≤ sd ∧ sd < 18446744073709551616) (hP : TabP s off go l n e T) (hdep : 0 ≤ T.depth ∧ T.depth ≤ 5) (hT : LT n (hashF m sd) T) (hsm : ((n * gN l : Nat) : Int) ≤ 1048576) (hfit : s.live + (64 + classI ((n * gN l : Nat) : Int)) + (64 + classI ((n * gN l : Nat) : Int)) ≤ s.limit) (o1 g1 : Nat) (ho1 : s.at 64 = o1) (hg1 : (s.take 64).at (classI ((n * gN l : Nat) : Int)) = g1) :
    FnOk Tryz.prog 37 #[.agg #[.pointer (some ⟨pa, 0, none⟩), .int .i64 l.key, .int .i64 l.elem, .int .i64 l.ka, .int .i64 l.ea, .int .i64 l.cap, .int .i64 l.eo, .int .i64 l.bo, .int .i64 l.slot, .int .i64 l.group, .int .i64 (off : Nat)], .pointer (some ⟨po, 0, none⟩), .int .u64 sd] [pt po (.cells #[.map (some bm)] 191 (0, 0)), mapH (fun k : ByteArray => Value.string k) bm m, G, arenaH pa s] (fun v L => ∃ (s1 s' : ArS) (o2 g2 : Nat) (U1 U2 : Tb) (L1 L2 : List Life), v = .tuple #[.agg #[.pointer (some ⟨pa, 0, none⟩), .int .i64 l.key, .int .i64 l.elem, .int .i64 l.ka, .int .i64 l.ea, .int .i64 l.cap, .int .i64 l.eo, .int .i64 l.bo, .int .i64 l.slot, .int .i64 l.group, .int .i64 ((o1 : Nat) : Int)], .agg #[.pointer (some ⟨pa, 0, none⟩), .int .i64 l.key, .int .i64 l.elem, .int .i64 l.ka, .int .i64 l.ea, .int .i64 l.cap, .int .i64 l.eo, .int .i64 l.bo, .int .i64 l.slot, .int .i64 l.group, .int .i64 ((o2 : Nat) : Int)], .int .i64 0] ∧ L = [pt po (.cells #[.map (some bm)] 191 (0, 0)), mapH (fun k : ByteArray => Value.string k) bm m, G, arenaH pa s'] ∧ s1.at 64 = o2 ∧ (s1.take 64).at (classI ((n * gN l : Nat) : Int)) = g2 ∧ NewS s s1 (classI ((n * gN l : Nat) : Int)) ∧
      TabP s' off go l n e T ∧ TabP s' o1 g1 l n e U1 ∧ TabP s' o2 g2 l n e U2 ∧ SS (hashF m sd) T.depth (T.depth + 1) T.cells (8 * n) n 0 U1 L1 (8 * n) ∧ SS (hashF m sd) T.depth (T.depth + 1) T.cells (8 * n) n 1 U2 L2 (8 * n) ∧
      KeepA s s' ∧ s'.live = s.live + (64 + classI ((n * gN l : Nat) : Int)) + (64 + classI ((n * gN l : Nat) : Int)) ∧ s'.all = ((s1.take 64).take (classI ((n * gN l : Nat) : Int))).all ∧ s'.dead = ((s1.take 64).take (classI ((n * gN l : Nat) : Int))).dead) := by
  have hn8 := hP.n0
  have hLy := layN hP.hl
  have hkk := hLy.k
  have hbd := Lay.bnd hP.hl
  have hfull := hT.cnt.left
  have hroom := hT.cnt.room
  have ho := hT.once
  have hsc := side_cnt (H := hashF m sd) (d := T.depth) (cs := T.cells) (8 * n)
  have hcb := classI_bnd (n := ((n * gN l : Nat) : Int)) (by have := hLy.g_eq; have := Nat.mul_le_mul_right (gN l) hn8.1; omega)
  have hcb2 := hcb.2.2 hsm
  refine fn_intro en37 Tryz.func37 rfl rfl rfl fun Fr w0 => t_nm ?_
  refine t_pure (φ := s.ok) (fun w hw => arena_ok hw (.there (.there (.there .here)))) fun hok0 => ?_
  refine sr <| o_boxA rfl rfl fun b3 => o_box1 rfl rfl rfl fun b4 => o_box1 rfl rfl rfl fun b5 => o_allocA rfl yZ34 fun b6 => o_allocA rfl yZ34 fun b7 => o_alloc1 rfl yZ44 rfl fun b8 => lz <| l_q rfl (qlda rfl yA34 yS34) ?_
  refine lc1 rfl rfl rfl (StatP_ok pa off go n e s l T hP) ?_
  refine mv rfl rfl <| l_q rfl (q_extractL rfl ga) ?_
  refine l_q rfl (q_extractL rfl ga) ?_
  refine o_allocA rfl yZ47 fun b9 => sta rfl rfl rfl yS47 rfl rfl ?_
  refine st rfl rfl rfl yS44 rfl ?_
  refine lc <| t_seq <| sr <| l_q rfl (qld rfl yA44) ?_
  refine l_q rfl (qi rfl rfl (b_neq ·)) <| lc <| t_if rfl (fun z => ?_) fun z => ?_
  · exact absurd rfl z
  · skip
    refine t_skip <| n_code <| t_seq ?_
    apply t_cut (p := (fun (x : Nat × ArS) => TabP x.2 o1 g1 l n e (newT n (T.depth + 1)) ∧ NewS s x.2 (classI ((n * gN l : Nat) : Int)))) (EE := (fun x => [(3, .pointer (some ⟨b3, 0, none⟩)), (4, .pointer (some ⟨b4, 0, none⟩)), (5, .pointer (some ⟨b5, 0, none⟩)), (6, .pointer (some ⟨b6, 0, none⟩)), (7, .pointer (some ⟨b7, 0, none⟩)), (8, .pointer (some ⟨b8, 0, none⟩)), (9, .pointer (some ⟨b9, 0, none⟩)), (10, .pointer (some ⟨x.1, 0, none⟩))])) (LL := (fun x => pt x.1 (.cells #[.pointer (some ⟨pa, 0, none⟩), .int .i64 l.key, .int .i64 l.elem, .int .i64 l.ka, .int .i64 l.ea, .int .i64 l.cap, .int .i64 l.eo, .int .i64 l.bo, .int .i64 l.slot, .int .i64 l.group, .int .i64 ((o1 : Nat) : Int)] 34 (0, 0)) :: arenaH pa x.2 :: pt b3 (.cells #[.pointer (some ⟨pa, 0, none⟩), .int .i64 l.key, .int .i64 l.elem, .int .i64 l.ka, .int .i64 l.ea, .int .i64 l.cap, .int .i64 l.eo, .int .i64 l.bo, .int .i64 l.slot, .int .i64 l.group, .int .i64 (off : Nat)] 34 (0, 0)) :: pt b4 (.cells #[.pointer (some ⟨po, 0, none⟩)] 74 (0, 0)) :: pt b5 (.cells #[.int .u64 sd] 52 (0, 0)) :: pt b6 (.cells #[.pointer none, .int .i64 0, .int .i64 0, .int .i64 0, .int .i64 0, .int .i64 0, .int .i64 0, .int .i64 0, .int .i64 0, .int .i64 0, .int .i64 0] 34 (0, 0)) :: pt b7 (.cells #[.pointer none, .int .i64 0, .int .i64 0, .int .i64 0, .int .i64 0, .int .i64 0, .int .i64 0, .int .i64 0, .int .i64 0, .int .i64 0, .int .i64 0] 34 (0, 0)) :: pt b8 (.cells #[.int .i64 0] 44 (0, 0)) :: pt b9 (.cells #[.int .i64 T.used, .int .i64 (8 * (n : Int)), .int .i64 T.left, .int .i64 T.depth, .int .i64 T.pins, .int .i64 T.next, .bool (decide (T.kind = 4)), .int .i64 (go : Nat)] 47 (0, 0)) :: pt po (.cells #[.map (some bm)] 191 (0, 0)) :: mapH (fun k : ByteArray => Value.string k) bm m :: G :: Fr))
    refine t_draw mixed ?_
    apply dq 0 rfl
    · exact yq (qlda rfl yA34 yS34)
    apply dq 2 rfl
    · exact yq (qlda rfl yA34 yS34)
    apply dq 4 rfl
    · exact yq (qfa 1 rfl yU47 rfl rfl yS3)
    apply dq 5 rfl
    · exact yq (qld rfl yA3)
    apply dq 6 rfl
    · exact yq (qfa 3 rfl yU47 rfl rfl yS3)
    apply dq 7 rfl
    · exact yq (qld rfl yA3)
    apply dq 8 rfl
    · exact yq (qadd rfl rfl)
    apply d_eff2 1 13
    · kernel_rfl
    · apply effAt (q1 := [0]) (q2 := [8, 7, 6, 5, 4, 2]) [(27, _)]
      · exact gO
      · exact ⟨rfl, trivial⟩
      · kernel_rfl
      intro Ex
      refine lc1 rfl rfl rfl (TArena_ok pa l (off : Nat)) ?_
      refine l_nil ?_
      apply n_d
      · refine ⟨?_, ?_, ?_, ?_, ?_, ?_, trivial⟩
        · apply ya rfl rfl; exact yq (qadd rfl rfl)
        · apply ya rfl rfl; exact yq (qld rfl yA3)
        · apply ya rfl rfl; exact yq (qfa 3 rfl yU47 rfl rfl yS3)
        · apply ya rfl rfl; exact yq (qld rfl yA3)
        · apply ya rfl rfl; exact yq (qfa 1 rfl yU47 rfl rfl yS3)
        · apply ya rfl rfl; exact yq (qlda rfl yA34 yS34)
      apply d_eff2 3 13
      · kernel_rfl
      · apply effAt (q1 := [2]) (q2 := [8, 7, 6, 5, 4]) [(29, _)]
        · exact gO
        · exact ⟨rfl, trivial⟩
        · kernel_rfl
        intro Ex
        refine lc1 rfl rfl rfl (TLayout_ok pa l (off : Nat)) ?_
        refine l_nil ?_
        apply n_d
        · refine ⟨?_, ?_, ?_, ?_, ?_, trivial⟩
          · apply ya rfl rfl; exact yq (qadd rfl rfl)
          · apply ya rfl rfl; exact yq (qld rfl yA3)
          · apply ya rfl rfl; exact yq (qfa 3 rfl yU47 rfl rfl yS3)
          · apply ya rfl rfl; exact yq (qld rfl yA3)
          · apply ya rfl rfl; exact yq (qfa 1 rfl yU47 rfl rfl yS3)
        apply d_eff2 9 13
        · kernel_rfl
        · apply effAt (q1 := [5, 8, 4, 7, 6]) (q2 := []) [(28, _), (30, _), (32, _), (35, _)]
          · exact gO
          · exact ⟨rfl, rfl, rfl, rfl, trivial⟩
          · kernel_rfl
          intro Ex
          refine lcf rfl rfl rfl (NewFit_ok pa n e s l _ (T.depth + 1) hP.hl hP.he hP.hn rfl ⟨by omega, by omega⟩ hsm (by omega) o1 g1 ho1 hg1) ?_
          rintro v L' ⟨s1, rfl, rfl, hT1, hN1⟩
          refine l_nm ?_
          refine l_nil ?_
          apply n_d
          · exact trivial
          apply dq 10 rfl
          · exact yq (q_move rfl)
          apply dq 11 rfl
          · exact yq (q_extractL rfl ga)
          apply dq 12 rfl
          · exact yq (q_extractL rfl ga)
          refine d_eff1 [] [12, 11, 10] 13 [] gO trivial (by kernel_rfl) (by kernel_rfl) fun Ex => ?_
          refine o_allocA rfl yZ34 fun b10 => l_nil ?_
          apply n_d
          · refine ⟨?_, ?_, ?_, trivial⟩
            · apply ya rfl rfl; exact yq (q_extractL rfl ga)
            · apply ya rfl rfl; exact yq (q_extractL rfl ga)
            · apply ya rfl rfl; exact yq (q_move rfl)
          refine d_eff1 [11, 10] [12] 14 [(10, _), (37, _)] gO ⟨rfl, rfl, trivial⟩ (by kernel_rfl) (by kernel_rfl) fun Ex => ?_
          refine sta rfl rfl rfl yS34 rfl rfl ?_
          refine l_nil ?_
          apply n_d
          · refine ⟨?_, trivial⟩
            · apply ya rfl rfl; exact yq (q_extractL rfl ga)
          refine d_eff1 [12] [] 15 [(8, _), (38, _)] gO ⟨rfl, rfl, trivial⟩ (by kernel_rfl) (by kernel_rfl) fun Ex => ?_
          refine st rfl rfl rfl yS44 rfl ?_
          refine l_nil ?_
          apply n_d
          · exact trivial
          refine d_end (by kernel_rfl) ?_
          apply n_join ((b10, s1))
          · exact ⟨hT1, hN1⟩
          · exact ⟨rfl, rfl, rfl, rfl, rfl, rfl, rfl, rfl, trivial⟩
          · exact en
        · apply effAt (q1 := []) (q2 := [8, 7, 6, 5, 4]) []
          · exact gO
          · exact trivial
          · kernel_rfl
          intro Ex
          refine o_allocA rfl yZ34 fun b10 => l_nil ?_
          apply n_d
          · refine ⟨?_, ?_, ?_, ?_, ?_, trivial⟩
            · apply ya rfl rfl; exact yq (qadd rfl rfl)
            · apply ya rfl rfl; exact yq (qld rfl yA3)
            · apply ya rfl rfl; exact yq (qfa 3 rfl yU47 rfl rfl yS3)
            · apply ya rfl rfl; exact yq (qld rfl yA3)
            · apply ya rfl rfl; exact yq (qfa 1 rfl yU47 rfl rfl yS3)
          refine d_eff1 [5, 8, 4, 7, 6] [] 9 [(28, _), (30, _), (32, _), (35, _)] gO ⟨rfl, rfl, rfl, rfl, trivial⟩ (by kernel_rfl) (by kernel_rfl) fun Ex => ?_
          refine lcf rfl rfl rfl (NewFit_ok pa n e s l _ (T.depth + 1) hP.hl hP.he hP.hn rfl ⟨by omega, by omega⟩ hsm (by omega) o1 g1 ho1 hg1) ?_
          rintro v L' ⟨s1, rfl, rfl, hT1, hN1⟩
          refine l_nm ?_
          refine l_nil ?_
          apply n_d
          · exact trivial
          apply dq 10 rfl
          · exact yq (q_move rfl)
          apply dq 11 rfl
          · exact yq (q_extractL rfl ga)
          apply dq 12 rfl
          · exact yq (q_extractL rfl ga)
          refine d_eff1 [11, 10] [12] 14 [(10, _), (37, _)] gO ⟨rfl, rfl, trivial⟩ (by kernel_rfl) (by kernel_rfl) fun Ex => ?_
          refine sta rfl rfl rfl yS34 rfl rfl ?_
          refine l_nil ?_
          apply n_d
          · refine ⟨?_, trivial⟩
            · apply ya rfl rfl; exact yq (q_extractL rfl ga)
          refine d_eff1 [12] [] 15 [(8, _), (38, _)] gO ⟨rfl, rfl, trivial⟩ (by kernel_rfl) (by kernel_rfl) fun Ex => ?_
          refine st rfl rfl rfl yS44 rfl ?_
          refine l_nil ?_
          apply n_d
          · exact trivial
          refine d_end (by kernel_rfl) ?_
          apply n_join ((b10, s1))
          · exact ⟨hT1, hN1⟩
          · exact ⟨rfl, rfl, rfl, rfl, rfl, rfl, rfl, rfl, trivial⟩
          · exact en
      · apply effAt (q1 := []) (q2 := [8, 7, 6, 5, 4, 2]) []
        · exact gO
        · exact trivial
        · kernel_rfl
        intro Ex
        refine o_allocA rfl yZ34 fun b10 => l_nil ?_
        apply n_d
        · refine ⟨?_, ?_, ?_, ?_, ?_, ?_, trivial⟩
          · apply ya rfl rfl; exact yq (qadd rfl rfl)
          · apply ya rfl rfl; exact yq (qld rfl yA3)
          · apply ya rfl rfl; exact yq (qfa 3 rfl yU47 rfl rfl yS3)
          · apply ya rfl rfl; exact yq (qld rfl yA3)
          · apply ya rfl rfl; exact yq (qfa 1 rfl yU47 rfl rfl yS3)
          · apply ya rfl rfl; exact yq (qlda rfl yA34 yS34)
        refine d_eff1 [2] [8, 7, 6, 5, 4] 3 [(29, _)] gO ⟨rfl, trivial⟩ (by kernel_rfl) (by kernel_rfl) fun Ex => ?_
        refine lc1 rfl rfl rfl (TLayout_ok pa l (off : Nat)) ?_
        refine l_nil ?_
        apply n_d
        · refine ⟨?_, ?_, ?_, ?_, ?_, trivial⟩
          · apply ya rfl rfl; exact yq (qadd rfl rfl)
          · apply ya rfl rfl; exact yq (qld rfl yA3)
          · apply ya rfl rfl; exact yq (qfa 3 rfl yU47 rfl rfl yS3)
          · apply ya rfl rfl; exact yq (qld rfl yA3)
          · apply ya rfl rfl; exact yq (qfa 1 rfl yU47 rfl rfl yS3)
        refine d_eff1 [5, 8, 4, 7, 6] [] 9 [(28, _), (30, _), (32, _), (35, _)] gO ⟨rfl, rfl, rfl, rfl, trivial⟩ (by kernel_rfl) (by kernel_rfl) fun Ex => ?_
        refine lcf rfl rfl rfl (NewFit_ok pa n e s l _ (T.depth + 1) hP.hl hP.he hP.hn rfl ⟨by omega, by omega⟩ hsm (by omega) o1 g1 ho1 hg1) ?_
        rintro v L' ⟨s1, rfl, rfl, hT1, hN1⟩
        refine l_nm ?_
        refine l_nil ?_
        apply n_d
        · exact trivial
        apply dq 10 rfl
        · exact yq (q_move rfl)
        apply dq 11 rfl
        · exact yq (q_extractL rfl ga)
        apply dq 12 rfl
        · exact yq (q_extractL rfl ga)
        refine d_eff1 [11, 10] [12] 14 [(10, _), (37, _)] gO ⟨rfl, rfl, trivial⟩ (by kernel_rfl) (by kernel_rfl) fun Ex => ?_
        refine sta rfl rfl rfl yS34 rfl rfl ?_
        refine l_nil ?_
        apply n_d
        · refine ⟨?_, trivial⟩
          · apply ya rfl rfl; exact yq (q_extractL rfl ga)
        refine d_eff1 [12] [] 15 [(8, _), (38, _)] gO ⟨rfl, rfl, trivial⟩ (by kernel_rfl) (by kernel_rfl) fun Ex => ?_
        refine st rfl rfl rfl yS44 rfl ?_
        refine l_nil ?_
        apply n_d
        · exact trivial
        refine d_end (by kernel_rfl) ?_
        apply n_join ((b10, s1))
        · exact ⟨hT1, hN1⟩
        · exact ⟨rfl, rfl, rfl, rfl, rfl, rfl, rfl, rfl, trivial⟩
        · exact en
    · apply effAt (q1 := []) (q2 := [8, 7, 6, 5, 4, 2, 0]) []
      · exact gO
      · exact trivial
      · kernel_rfl
      intro Ex
      refine o_allocA rfl yZ34 fun b10 => l_nil ?_
      apply n_d
      · refine ⟨?_, ?_, ?_, ?_, ?_, ?_, ?_, trivial⟩
        · apply ya rfl rfl; exact yq (qadd rfl rfl)
        · apply ya rfl rfl; exact yq (qld rfl yA3)
        · apply ya rfl rfl; exact yq (qfa 3 rfl yU47 rfl rfl yS3)
        · apply ya rfl rfl; exact yq (qld rfl yA3)
        · apply ya rfl rfl; exact yq (qfa 1 rfl yU47 rfl rfl yS3)
        · apply ya rfl rfl; exact yq (qlda rfl yA34 yS34)
        · apply ya rfl rfl; exact yq (qlda rfl yA34 yS34)
      refine d_eff1 [0] [8, 7, 6, 5, 4, 2] 1 [(27, _)] gO ⟨rfl, trivial⟩ (by kernel_rfl) (by kernel_rfl) fun Ex => ?_
      refine lc1 rfl rfl rfl (TArena_ok pa l (off : Nat)) ?_
      refine l_nil ?_
      apply n_d
      · refine ⟨?_, ?_, ?_, ?_, ?_, ?_, trivial⟩
        · apply ya rfl rfl; exact yq (qadd rfl rfl)
        · apply ya rfl rfl; exact yq (qld rfl yA3)
        · apply ya rfl rfl; exact yq (qfa 3 rfl yU47 rfl rfl yS3)
        · apply ya rfl rfl; exact yq (qld rfl yA3)
        · apply ya rfl rfl; exact yq (qfa 1 rfl yU47 rfl rfl yS3)
        · apply ya rfl rfl; exact yq (qlda rfl yA34 yS34)
      refine d_eff1 [2] [8, 7, 6, 5, 4] 3 [(29, _)] gO ⟨rfl, trivial⟩ (by kernel_rfl) (by kernel_rfl) fun Ex => ?_
      refine lc1 rfl rfl rfl (TLayout_ok pa l (off : Nat)) ?_
      refine l_nil ?_
      apply n_d
      · refine ⟨?_, ?_, ?_, ?_, ?_, trivial⟩
        · apply ya rfl rfl; exact yq (qadd rfl rfl)
        · apply ya rfl rfl; exact yq (qld rfl yA3)
        · apply ya rfl rfl; exact yq (qfa 3 rfl yU47 rfl rfl yS3)
        · apply ya rfl rfl; exact yq (qld rfl yA3)
        · apply ya rfl rfl; exact yq (qfa 1 rfl yU47 rfl rfl yS3)
      refine d_eff1 [5, 8, 4, 7, 6] [] 9 [(28, _), (30, _), (32, _), (35, _)] gO ⟨rfl, rfl, rfl, rfl, trivial⟩ (by kernel_rfl) (by kernel_rfl) fun Ex => ?_
      refine lcf rfl rfl rfl (NewFit_ok pa n e s l _ (T.depth + 1) hP.hl hP.he hP.hn rfl ⟨by omega, by omega⟩ hsm (by omega) o1 g1 ho1 hg1) ?_
      rintro v L' ⟨s1, rfl, rfl, hT1, hN1⟩
      refine l_nm ?_
      refine l_nil ?_
      apply n_d
      · exact trivial
      apply dq 10 rfl
      · exact yq (q_move rfl)
      apply dq 11 rfl
      · exact yq (q_extractL rfl ga)
      apply dq 12 rfl
      · exact yq (q_extractL rfl ga)
      refine d_eff1 [11, 10] [12] 14 [(10, _), (37, _)] gO ⟨rfl, rfl, trivial⟩ (by kernel_rfl) (by kernel_rfl) fun Ex => ?_
      refine sta rfl rfl rfl yS34 rfl rfl ?_
      refine l_nil ?_
      apply n_d
      · refine ⟨?_, trivial⟩
        · apply ya rfl rfl; exact yq (q_extractL rfl ga)
      refine d_eff1 [12] [] 15 [(8, _), (38, _)] gO ⟨rfl, rfl, trivial⟩ (by kernel_rfl) (by kernel_rfl) fun Ex => ?_
      refine st rfl rfl rfl yS44 rfl ?_
      refine l_nil ?_
      apply n_d
      · exact trivial
      refine d_end (by kernel_rfl) ?_
      apply n_join ((b10, s1))
      · exact ⟨hT1, hN1⟩
      · exact ⟨rfl, rfl, rfl, rfl, rfl, rfl, rfl, rfl, trivial⟩
      · exact en
    rintro ⟨b10, s1⟩ ⟨hT1, hN1⟩
    try dsimp only
    refine n_nm ?_
    refine n_code <| t_seq <| sr <| l_q rfl (qld rfl yA44) ?_
    refine l_q rfl (qi rfl rfl (b_neq ·)) <| lc <| t_if rfl (fun z2 => ?_) fun z2 => ?_
    · exact absurd rfl z2
    · refine t_pure (φ := s1.ok) (fun w hw => arena_ok (pa := pa) hw tk) fun hok1 => ?_
      dsimp only at hT1 hN1
      obtain ⟨o2, ho2⟩ : ∃ o, s1.at 64 = o := ⟨_, rfl⟩
      obtain ⟨g2, hg2⟩ : ∃ g, (s1.take 64).at (classI ((n * gN l : Nat) : Int)) = g := ⟨_, rfl⟩
      have hl1 := hN1.live
      have hli1 := hN1.limit
      refine t_skip <| nz <| l_q rfl (q_makeFunc rfl rfl) ?_
      refine o_defer rfl rfl rfl rfl ?_
      refine lc <| t_seq ?_
      apply t_cut (p := (fun (x : Nat × ArS) => TabP x.2 o2 g2 l n e (newT n (T.depth + 1)) ∧ NewS s1 x.2 (classI ((n * gN l : Nat) : Int)))) (EE := (fun x => [(3, .pointer (some ⟨b3, 0, none⟩)), (4, .pointer (some ⟨b4, 0, none⟩)), (5, .pointer (some ⟨b5, 0, none⟩)), (6, .pointer (some ⟨b6, 0, none⟩)), (7, .pointer (some ⟨b7, 0, none⟩)), (8, .pointer (some ⟨b8, 0, none⟩)), (9, .pointer (some ⟨b9, 0, none⟩)), (10, .pointer (some ⟨b10, 0, none⟩)), (11, .pointer (some ⟨x.1, 0, none⟩))])) (LL := (fun x => pt x.1 (.cells #[.pointer (some ⟨pa, 0, none⟩), .int .i64 l.key, .int .i64 l.elem, .int .i64 l.ka, .int .i64 l.ea, .int .i64 l.cap, .int .i64 l.eo, .int .i64 l.bo, .int .i64 l.slot, .int .i64 l.group, .int .i64 ((o2 : Nat) : Int)] 34 (0, 0)) :: arenaH pa x.2 :: pt b10 (.cells #[.pointer (some ⟨pa, 0, none⟩), .int .i64 l.key, .int .i64 l.elem, .int .i64 l.ka, .int .i64 l.ea, .int .i64 l.cap, .int .i64 l.eo, .int .i64 l.bo, .int .i64 l.slot, .int .i64 l.group, .int .i64 ((o1 : Nat) : Int)] 34 (0, 0)) :: pt b3 (.cells #[.pointer (some ⟨pa, 0, none⟩), .int .i64 l.key, .int .i64 l.elem, .int .i64 l.ka, .int .i64 l.ea, .int .i64 l.cap, .int .i64 l.eo, .int .i64 l.bo, .int .i64 l.slot, .int .i64 l.group, .int .i64 (off : Nat)] 34 (0, 0)) :: pt b4 (.cells #[.pointer (some ⟨po, 0, none⟩)] 74 (0, 0)) :: pt b5 (.cells #[.int .u64 sd] 52 (0, 0)) :: pt b6 (.cells #[.pointer none, .int .i64 0, .int .i64 0, .int .i64 0, .int .i64 0, .int .i64 0, .int .i64 0, .int .i64 0, .int .i64 0, .int .i64 0, .int .i64 0] 34 (0, 0)) :: pt b7 (.cells #[.pointer none, .int .i64 0, .int .i64 0, .int .i64 0, .int .i64 0, .int .i64 0, .int .i64 0, .int .i64 0, .int .i64 0, .int .i64 0, .int .i64 0] 34 (0, 0)) :: pt b8 (.cells #[.int .i64 0] 44 (0, 0)) :: pt b9 (.cells #[.int .i64 T.used, .int .i64 (8 * (n : Int)), .int .i64 T.left, .int .i64 T.depth, .int .i64 T.pins, .int .i64 T.next, .bool (decide (T.kind = 4)), .int .i64 (go : Nat)] 47 (0, 0)) :: pt po (.cells #[.map (some bm)] 191 (0, 0)) :: mapH (fun k : ByteArray => Value.string k) bm m :: G :: Fr))
      refine t_draw mixed ?_
      apply dq 0 rfl
      · exact yq (qlda rfl yA34 yS34)
      apply dq 2 rfl
      · exact yq (qlda rfl yA34 yS34)
      apply dq 4 rfl
      · exact yq (qfa 1 rfl yU47 rfl rfl yS3)
      apply dq 5 rfl
      · exact yq (qld rfl yA3)
      apply dq 6 rfl
      · exact yq (qfa 3 rfl yU47 rfl rfl yS3)
      apply dq 7 rfl
      · exact yq (qld rfl yA3)
      apply dq 8 rfl
      · exact yq (qadd rfl rfl)
      apply d_eff2 1 13
      · kernel_rfl
      · apply effAt (q1 := [0]) (q2 := [8, 7, 6, 5, 4, 2]) [(46, _)]
        · exact gO
        · exact ⟨rfl, trivial⟩
        · kernel_rfl
        intro Ex
        refine lc1 rfl rfl rfl (TArena_ok pa l (off : Nat)) ?_
        refine l_nil ?_
        apply n_d
        · refine ⟨?_, ?_, ?_, ?_, ?_, ?_, trivial⟩
          · apply ya rfl rfl; exact yq (qadd rfl rfl)
          · apply ya rfl rfl; exact yq (qld rfl yA3)
          · apply ya rfl rfl; exact yq (qfa 3 rfl yU47 rfl rfl yS3)
          · apply ya rfl rfl; exact yq (qld rfl yA3)
          · apply ya rfl rfl; exact yq (qfa 1 rfl yU47 rfl rfl yS3)
          · apply ya rfl rfl; exact yq (qlda rfl yA34 yS34)
        apply d_eff2 3 13
        · kernel_rfl
        · apply effAt (q1 := [2]) (q2 := [8, 7, 6, 5, 4]) [(48, _)]
          · exact gO
          · exact ⟨rfl, trivial⟩
          · kernel_rfl
          intro Ex
          refine lc1 rfl rfl rfl (TLayout_ok pa l (off : Nat)) ?_
          refine l_nil ?_
          apply n_d
          · refine ⟨?_, ?_, ?_, ?_, ?_, trivial⟩
            · apply ya rfl rfl; exact yq (qadd rfl rfl)
            · apply ya rfl rfl; exact yq (qld rfl yA3)
            · apply ya rfl rfl; exact yq (qfa 3 rfl yU47 rfl rfl yS3)
            · apply ya rfl rfl; exact yq (qld rfl yA3)
            · apply ya rfl rfl; exact yq (qfa 1 rfl yU47 rfl rfl yS3)
          apply d_eff2 9 13
          · kernel_rfl
          · apply effAt (q1 := [5, 8, 4, 7, 6]) (q2 := []) [(47, _), (49, _), (51, _), (54, _)]
            · exact gO
            · exact ⟨rfl, rfl, rfl, rfl, trivial⟩
            · kernel_rfl
            intro Ex
            refine lcf rfl rfl rfl (NewFit_ok pa n e s1 l _ (T.depth + 1) hP.hl hP.he hP.hn rfl ⟨by omega, by omega⟩ hsm (by omega) o2 g2 ho2 hg2) ?_
            rintro v L' ⟨s2, rfl, rfl, hT2, hN2⟩
            refine l_nm ?_
            refine l_nil ?_
            apply n_d
            · exact trivial
            apply dq 10 rfl
            · exact yq (q_move rfl)
            apply dq 11 rfl
            · exact yq (q_extractL rfl ga)
            apply dq 12 rfl
            · exact yq (q_extractL rfl ga)
            refine d_eff1 [] [12, 11, 10] 13 [] gO trivial (by kernel_rfl) (by kernel_rfl) fun Ex => ?_
            refine o_allocA rfl yZ34 fun b11 => l_nil ?_
            apply n_d
            · refine ⟨?_, ?_, ?_, trivial⟩
              · apply ya rfl rfl; exact yq (q_extractL rfl ga)
              · apply ya rfl rfl; exact yq (q_extractL rfl ga)
              · apply ya rfl rfl; exact yq (q_move rfl)
            refine d_eff1 [11, 10] [12] 14 [(11, _), (56, _)] gO ⟨rfl, rfl, trivial⟩ (by kernel_rfl) (by kernel_rfl) fun Ex => ?_
            refine sta rfl rfl rfl yS34 rfl rfl ?_
            refine l_nil ?_
            apply n_d
            · refine ⟨?_, trivial⟩
              · apply ya rfl rfl; exact yq (q_extractL rfl ga)
            refine d_eff1 [12] [] 15 [(8, _), (57, _)] gO ⟨rfl, rfl, trivial⟩ (by kernel_rfl) (by kernel_rfl) fun Ex => ?_
            refine st rfl rfl rfl yS44 rfl ?_
            refine l_nil ?_
            apply n_d
            · exact trivial
            refine d_end (by kernel_rfl) ?_
            apply n_join ((b11, s2))
            · exact ⟨hT2, hN2⟩
            · exact ⟨rfl, rfl, rfl, rfl, rfl, rfl, rfl, rfl, rfl, trivial⟩
            · exact en
          · apply effAt (q1 := []) (q2 := [8, 7, 6, 5, 4]) []
            · exact gO
            · exact trivial
            · kernel_rfl
            intro Ex
            refine o_allocA rfl yZ34 fun b11 => l_nil ?_
            apply n_d
            · refine ⟨?_, ?_, ?_, ?_, ?_, trivial⟩
              · apply ya rfl rfl; exact yq (qadd rfl rfl)
              · apply ya rfl rfl; exact yq (qld rfl yA3)
              · apply ya rfl rfl; exact yq (qfa 3 rfl yU47 rfl rfl yS3)
              · apply ya rfl rfl; exact yq (qld rfl yA3)
              · apply ya rfl rfl; exact yq (qfa 1 rfl yU47 rfl rfl yS3)
            refine d_eff1 [5, 8, 4, 7, 6] [] 9 [(47, _), (49, _), (51, _), (54, _)] gO ⟨rfl, rfl, rfl, rfl, trivial⟩ (by kernel_rfl) (by kernel_rfl) fun Ex => ?_
            refine lcf rfl rfl rfl (NewFit_ok pa n e s1 l _ (T.depth + 1) hP.hl hP.he hP.hn rfl ⟨by omega, by omega⟩ hsm (by omega) o2 g2 ho2 hg2) ?_
            rintro v L' ⟨s2, rfl, rfl, hT2, hN2⟩
            refine l_nm ?_
            refine l_nil ?_
            apply n_d
            · exact trivial
            apply dq 10 rfl
            · exact yq (q_move rfl)
            apply dq 11 rfl
            · exact yq (q_extractL rfl ga)
            apply dq 12 rfl
            · exact yq (q_extractL rfl ga)
            refine d_eff1 [11, 10] [12] 14 [(11, _), (56, _)] gO ⟨rfl, rfl, trivial⟩ (by kernel_rfl) (by kernel_rfl) fun Ex => ?_
            refine sta rfl rfl rfl yS34 rfl rfl ?_
            refine l_nil ?_
            apply n_d
            · refine ⟨?_, trivial⟩
              · apply ya rfl rfl; exact yq (q_extractL rfl ga)
            refine d_eff1 [12] [] 15 [(8, _), (57, _)] gO ⟨rfl, rfl, trivial⟩ (by kernel_rfl) (by kernel_rfl) fun Ex => ?_
            refine st rfl rfl rfl yS44 rfl ?_
            refine l_nil ?_
            apply n_d
            · exact trivial
            refine d_end (by kernel_rfl) ?_
            apply n_join ((b11, s2))
            · exact ⟨hT2, hN2⟩
            · exact ⟨rfl, rfl, rfl, rfl, rfl, rfl, rfl, rfl, rfl, trivial⟩
            · exact en
        · apply effAt (q1 := []) (q2 := [8, 7, 6, 5, 4, 2]) []
          · exact gO
          · exact trivial
          · kernel_rfl
          intro Ex
          refine o_allocA rfl yZ34 fun b11 => l_nil ?_
          apply n_d
          · refine ⟨?_, ?_, ?_, ?_, ?_, ?_, trivial⟩
            · apply ya rfl rfl; exact yq (qadd rfl rfl)
            · apply ya rfl rfl; exact yq (qld rfl yA3)
            · apply ya rfl rfl; exact yq (qfa 3 rfl yU47 rfl rfl yS3)
            · apply ya rfl rfl; exact yq (qld rfl yA3)
            · apply ya rfl rfl; exact yq (qfa 1 rfl yU47 rfl rfl yS3)
            · apply ya rfl rfl; exact yq (qlda rfl yA34 yS34)
          refine d_eff1 [2] [8, 7, 6, 5, 4] 3 [(48, _)] gO ⟨rfl, trivial⟩ (by kernel_rfl) (by kernel_rfl) fun Ex => ?_
          refine lc1 rfl rfl rfl (TLayout_ok pa l (off : Nat)) ?_
          refine l_nil ?_
          apply n_d
          · refine ⟨?_, ?_, ?_, ?_, ?_, trivial⟩
            · apply ya rfl rfl; exact yq (qadd rfl rfl)
            · apply ya rfl rfl; exact yq (qld rfl yA3)
            · apply ya rfl rfl; exact yq (qfa 3 rfl yU47 rfl rfl yS3)
            · apply ya rfl rfl; exact yq (qld rfl yA3)
            · apply ya rfl rfl; exact yq (qfa 1 rfl yU47 rfl rfl yS3)
          refine d_eff1 [5, 8, 4, 7, 6] [] 9 [(47, _), (49, _), (51, _), (54, _)] gO ⟨rfl, rfl, rfl, rfl, trivial⟩ (by kernel_rfl) (by kernel_rfl) fun Ex => ?_
          refine lcf rfl rfl rfl (NewFit_ok pa n e s1 l _ (T.depth + 1) hP.hl hP.he hP.hn rfl ⟨by omega, by omega⟩ hsm (by omega) o2 g2 ho2 hg2) ?_
          rintro v L' ⟨s2, rfl, rfl, hT2, hN2⟩
          refine l_nm ?_
          refine l_nil ?_
          apply n_d
          · exact trivial
          apply dq 10 rfl
          · exact yq (q_move rfl)
          apply dq 11 rfl
          · exact yq (q_extractL rfl ga)
          apply dq 12 rfl
          · exact yq (q_extractL rfl ga)
          refine d_eff1 [11, 10] [12] 14 [(11, _), (56, _)] gO ⟨rfl, rfl, trivial⟩ (by kernel_rfl) (by kernel_rfl) fun Ex => ?_
          refine sta rfl rfl rfl yS34 rfl rfl ?_
          refine l_nil ?_
          apply n_d
          · refine ⟨?_, trivial⟩
            · apply ya rfl rfl; exact yq (q_extractL rfl ga)
          refine d_eff1 [12] [] 15 [(8, _), (57, _)] gO ⟨rfl, rfl, trivial⟩ (by kernel_rfl) (by kernel_rfl) fun Ex => ?_
          refine st rfl rfl rfl yS44 rfl ?_
          refine l_nil ?_
          apply n_d
          · exact trivial
          refine d_end (by kernel_rfl) ?_
          apply n_join ((b11, s2))
          · exact ⟨hT2, hN2⟩
          · exact ⟨rfl, rfl, rfl, rfl, rfl, rfl, rfl, rfl, rfl, trivial⟩
          · exact en
      · apply effAt (q1 := []) (q2 := [8, 7, 6, 5, 4, 2, 0]) []
        · exact gO
        · exact trivial
        · kernel_rfl
        intro Ex
        refine o_allocA rfl yZ34 fun b11 => l_nil ?_
        apply n_d
        · refine ⟨?_, ?_, ?_, ?_, ?_, ?_, ?_, trivial⟩
          · apply ya rfl rfl; exact yq (qadd rfl rfl)
          · apply ya rfl rfl; exact yq (qld rfl yA3)
          · apply ya rfl rfl; exact yq (qfa 3 rfl yU47 rfl rfl yS3)
          · apply ya rfl rfl; exact yq (qld rfl yA3)
          · apply ya rfl rfl; exact yq (qfa 1 rfl yU47 rfl rfl yS3)
          · apply ya rfl rfl; exact yq (qlda rfl yA34 yS34)
          · apply ya rfl rfl; exact yq (qlda rfl yA34 yS34)
        refine d_eff1 [0] [8, 7, 6, 5, 4, 2] 1 [(46, _)] gO ⟨rfl, trivial⟩ (by kernel_rfl) (by kernel_rfl) fun Ex => ?_
        refine lc1 rfl rfl rfl (TArena_ok pa l (off : Nat)) ?_
        refine l_nil ?_
        apply n_d
        · refine ⟨?_, ?_, ?_, ?_, ?_, ?_, trivial⟩
          · apply ya rfl rfl; exact yq (qadd rfl rfl)
          · apply ya rfl rfl; exact yq (qld rfl yA3)
          · apply ya rfl rfl; exact yq (qfa 3 rfl yU47 rfl rfl yS3)
          · apply ya rfl rfl; exact yq (qld rfl yA3)
          · apply ya rfl rfl; exact yq (qfa 1 rfl yU47 rfl rfl yS3)
          · apply ya rfl rfl; exact yq (qlda rfl yA34 yS34)
        refine d_eff1 [2] [8, 7, 6, 5, 4] 3 [(48, _)] gO ⟨rfl, trivial⟩ (by kernel_rfl) (by kernel_rfl) fun Ex => ?_
        refine lc1 rfl rfl rfl (TLayout_ok pa l (off : Nat)) ?_
        refine l_nil ?_
        apply n_d
        · refine ⟨?_, ?_, ?_, ?_, ?_, trivial⟩
          · apply ya rfl rfl; exact yq (qadd rfl rfl)
          · apply ya rfl rfl; exact yq (qld rfl yA3)
          · apply ya rfl rfl; exact yq (qfa 3 rfl yU47 rfl rfl yS3)
          · apply ya rfl rfl; exact yq (qld rfl yA3)
          · apply ya rfl rfl; exact yq (qfa 1 rfl yU47 rfl rfl yS3)
        refine d_eff1 [5, 8, 4, 7, 6] [] 9 [(47, _), (49, _), (51, _), (54, _)] gO ⟨rfl, rfl, rfl, rfl, trivial⟩ (by kernel_rfl) (by kernel_rfl) fun Ex => ?_
        refine lcf rfl rfl rfl (NewFit_ok pa n e s1 l _ (T.depth + 1) hP.hl hP.he hP.hn rfl ⟨by omega, by omega⟩ hsm (by omega) o2 g2 ho2 hg2) ?_
        rintro v L' ⟨s2, rfl, rfl, hT2, hN2⟩
        refine l_nm ?_
        refine l_nil ?_
        apply n_d
        · exact trivial
        apply dq 10 rfl
        · exact yq (q_move rfl)
        apply dq 11 rfl
        · exact yq (q_extractL rfl ga)
        apply dq 12 rfl
        · exact yq (q_extractL rfl ga)
        refine d_eff1 [11, 10] [12] 14 [(11, _), (56, _)] gO ⟨rfl, rfl, trivial⟩ (by kernel_rfl) (by kernel_rfl) fun Ex => ?_
        refine sta rfl rfl rfl yS34 rfl rfl ?_
        refine l_nil ?_
        apply n_d
        · refine ⟨?_, trivial⟩
          · apply ya rfl rfl; exact yq (q_extractL rfl ga)
        refine d_eff1 [12] [] 15 [(8, _), (57, _)] gO ⟨rfl, rfl, trivial⟩ (by kernel_rfl) (by kernel_rfl) fun Ex => ?_
        refine st rfl rfl rfl yS44 rfl ?_
        refine l_nil ?_
        apply n_d
        · exact trivial
        refine d_end (by kernel_rfl) ?_
        apply n_join ((b11, s2))
        · exact ⟨hT2, hN2⟩
        · exact ⟨rfl, rfl, rfl, rfl, rfl, rfl, rfl, rfl, rfl, trivial⟩
        · exact en
      rintro ⟨b11, s2⟩ ⟨hT2, hN2⟩
      try dsimp only
      refine n_nm ?_
      refine n_code <| t_seq <| sr <| l_q rfl (qld rfl yA44) ?_
      refine l_q rfl (qi rfl rfl (b_neq ·)) <| lc <| t_if rfl (fun z3 => ?_) fun z3 => ?_
      · exact absurd rfl z3
      · dsimp only at hT2 hN2
        have hT1' := TabP.newS hT1 hok1 hN2
        have hO2 := TabP.newS (TabP.newS hP hok0 hN1) hok1 hN2
        have hK2 := (KeepA.new hN1).trans (KeepA.new hN2)
        obtain ⟨q1, q2⟩ := new_sep hok1 hcb2.2 (by omega) hT1.gh
        obtain ⟨q3, q4⟩ := new_sep hok1 hcb2.2 (by omega) hT1.gg
        have hap1 : ∀ p ∈ s.bl, (p.1 + p.2 ≤ (o1 : Nat) ∨ ((o1 : Nat) : Int) + 64 ≤ p.1) ∧ (p.1 + p.2 ≤ (g1 : Nat) ∨ ((g1 : Nat) : Int) + ((n * gN l : Nat) : Int) ≤ p.1) := fun p hp => by
          have hpos := (ArS.chain_pos hok0.chain p (mem_bl.1 hp).1).2
          obtain ⟨a1, a2⟩ := new_sep hok0 hcb2.2 (by omega) (o := p.1) (k := p.2) ⟨by omega, p, hp, Int.le_refl _, Int.le_refl _⟩
          rw [ho1] at a1
          rw [hg1] at a2
          omega
        have hap2 : ∀ p ∈ s.bl, (p.1 + p.2 ≤ (o2 : Nat) ∨ ((o2 : Nat) : Int) + 64 ≤ p.1) ∧ (p.1 + p.2 ≤ (g2 : Nat) ∨ ((g2 : Nat) : Int) + ((n * gN l : Nat) : Int) ≤ p.1) := fun p hp => by
          have hpos := (ArS.chain_pos hok0.chain p (mem_bl.1 hp).1).2
          obtain ⟨a1, a2⟩ := new_sep hok1 hcb2.2 (by omega) (o := p.1) (k := p.2) ⟨by omega, p, (hN1.bl p).2 (.inl hp), Int.le_refl _, Int.le_refl _⟩
          rw [ho2] at a1
          rw [hg2] at a2
          omega
        rw [ho2] at q1 q3
        rw [hg2] at q2 q4
        refine t_skip <| nz <| l_q rfl (qlda rfl yA34 yS34) ?_
        refine l_q rfl (qlda rfl yA34 yS34) ?_
        apply l_q rfl
        · apply q_build2 rfl Tryz.underlying164 yS34 yZ164
          (apply FillR.all; exact PlAt.here; rfl; simp; exact sal; apply FillR.all; exact PlAt.there PlAt.here; rfl; simp; exact sal; exact FillR.nil)
        refine o_allocA rfl yZ164 fun b12 => sta rfl rfl rfl yS164 rfl rfl ?_
        refine lc <| t_seq <| sr <| l_q rfl (qlda rfl yA34 yS34) ?_
        refine lcf rfl rfl rfl (TCells_ok pa off l) ?_
        rintro v L' ⟨bc, rfl, rfl⟩
        refine l_nm ?_
        refine lc <| t_block ?_
        apply t_rangeH (p := (fun k (x : ArS × (Tb × List Life) × (Tb × List Life)) => ∃ j, j ≤ 8 * n ∧ cnt isFull T.cells j = k ∧ TabP x.1 o1 g1 l n e x.2.1.1 ∧ TabP x.1 o2 g2 l n e x.2.2.1 ∧ SS (hashF m sd) T.depth (T.depth + 1) T.cells (8 * n) n 0 x.2.1.1 x.2.1.2 j ∧ SS (hashF m sd) T.depth (T.depth + 1) T.cells (8 * n) n 1 x.2.2.1 x.2.2.2 j ∧ KeepA s x.1 ∧ x.1.all = s2.all ∧ x.1.dead = s2.dead)) (J := (fun _ x => [pt b4 (.cells #[.pointer (some ⟨po, 0, none⟩)] 74 (0, 0)), pt b5 (.cells #[.int .u64 sd] 52 (0, 0)), pt b6 (.cells #[.pointer none, .int .i64 0, .int .i64 0, .int .i64 0, .int .i64 0, .int .i64 0, .int .i64 0, .int .i64 0, .int .i64 0, .int .i64 0, .int .i64 0] 34 (0, 0)), pt b7 (.cells #[.pointer none, .int .i64 0, .int .i64 0, .int .i64 0, .int .i64 0, .int .i64 0, .int .i64 0, .int .i64 0, .int .i64 0, .int .i64 0, .int .i64 0] 34 (0, 0)), pt b8 (.cells #[.int .i64 0] 44 (0, 0)), pt b9 (.cells #[.int .i64 T.used, .int .i64 (8 * (n : Int)), .int .i64 T.left, .int .i64 T.depth, .int .i64 T.pins, .int .i64 T.next, .bool (decide (T.kind = 4)), .int .i64 (go : Nat)] 47 (0, 0)), pt b10 (.cells #[.pointer (some ⟨pa, 0, none⟩), .int .i64 l.key, .int .i64 l.elem, .int .i64 l.ka, .int .i64 l.ea, .int .i64 l.cap, .int .i64 l.eo, .int .i64 l.bo, .int .i64 l.slot, .int .i64 l.group, .int .i64 ((o1 : Nat) : Int)] 34 (0, 0)), pt b11 (.cells #[.pointer (some ⟨pa, 0, none⟩), .int .i64 l.key, .int .i64 l.elem, .int .i64 l.ka, .int .i64 l.ea, .int .i64 l.cap, .int .i64 l.eo, .int .i64 l.bo, .int .i64 l.slot, .int .i64 l.group, .int .i64 ((o2 : Nat) : Int)] 34 (0, 0)), pt b12 (.cells #[.pointer (some ⟨pa, 0, none⟩), .int .i64 l.key, .int .i64 l.elem, .int .i64 l.ka, .int .i64 l.ea, .int .i64 l.cap, .int .i64 l.eo, .int .i64 l.bo, .int .i64 l.slot, .int .i64 l.group, .int .i64 ((o1 : Nat) : Int), .pointer (some ⟨pa, 0, none⟩), .int .i64 l.key, .int .i64 l.elem, .int .i64 l.ka, .int .i64 l.ea, .int .i64 l.cap, .int .i64 l.eo, .int .i64 l.bo, .int .i64 l.slot, .int .i64 l.group, .int .i64 ((o2 : Nat) : Int)] 164 (0, 0)), pt po (.cells #[.map (some bm)] 191 (0, 0)), mapH (fun k : ByteArray => Value.string k) bm m, G, arenaH pa x.1])) (q := (fun _ (y : Code × Unit) => False)) (Jx := (fun _ _ => [])) (x0 := (s2, (newT n (T.depth + 1), []), (newT n (T.depth + 1), []))) (hc := TCells_it pa off go n e bc s2 l T hO2) (hr := rfl) (hg := rfl)
        · exact pk
        · exact ⟨0, Nat.zero_le _, rfl, hT1', hT2, SS.new hn8.1, SS.new hn8.1, hK2, rfl, rfl⟩
        · (try dsimp only); (try simp only [Int.natCast_zero, Nat.sub_zero]); exact pk
        · (try dsimp only); (try simp only [Int.natCast_zero, Nat.sub_zero]); exact pk
        · rfl
        · exact cellsV_two
        · rintro l' rc Fr' w1 k x ⟨s3, ⟨U1, L1⟩, ⟨U2, L2⟩⟩ hrd hpn hx ⟨j, hj8, hj, hA1, hA2, hS1, hS2, hK3, hal3, hde3⟩
          have hkl := (List.getElem?_eq_some_iff.1 hx).1
          rw [cellsV_len] at hkl
          obtain ⟨i1, hi8, hfi, hck, rfl⟩ := cellsV_at hx
          dsimp only at hA1 hA2 hS1 hS2 hK3 hal3 hde3 ⊢
          have hj' : cnt isFull T.cells j = cnt isFull T.cells i1 := hj.trans hck.symm
          have hk1 : cnt isFull T.cells (i1 + 1) = k + 1 := by rw [cnt_succ, if_pos hfi, hck]
          obtain ⟨hu1, hu2, _, _⟩ := hS1.rf.counts
          obtain ⟨hv1, hv2, _, _⟩ := hS2.rf.counts
          have hc1 := cnt_mono (p := isFull) (cs := side (hashF m sd) T.depth T.cells 0) hj8
          have hc2 := cnt_mono (p := isFull) (cs := side (hashF m sd) T.depth T.cells 1) hj8
          have hok1' := hP.hT.okc i1 hi8
          obtain ⟨t1, hct⟩ := full_of hfi
          rw [hct] at hok1'
          obtain ⟨_, _, hks, hes, hb0, hb1⟩ := hok1'
          have hhb := hashF_bnd hm sd (T.cells i1).keyS
          rcases bitF_two (hashF m sd (T.cells i1).keyS) T.depth with hb | hb
          · skip
            obtain ⟨v1, hS3⟩ := hS1.put hj' hi8 hfi hb (by omega) ho hP.hn
            have hS4 := hS2.pass hj' hfi (by rw [hb]; decide)
            refine t_nm ?_
            refine t_region <| o_allocA rfl yZ54 fun b14 => sta rfl rfl rfl yS54 rfl rfl ?_
            refine l_nil ?_
            apply n_begin
            · exact tk
            · assumption
            refine t_block <| sr <| l_q rfl (qld rfl yA74) ?_
            refine l_q rfl (qld rfl yA52) ?_
            refine l_q rfl (qfa 2 rfl yU54 rfl rfl yS9) <| l_q rfl (qld rfl yA9) ?_
            refine lc1 rfl rfl rfl (Hash_ok G hGO po bm m hm sd hsd (T.cells i1).keyS (by omega)) ?_
            refine asg rfl rfl <| lc <| t_draw mixed ?_
            apply dq 0 rfl
            · exact yq (q_move rfl)
            apply dq 1 rfl
            · exact yq (qfa 3 rfl yU47 rfl rfl yS3)
            apply dq 2 rfl
            · exact yq (qld rfl yA3)
            apply dq 6 rfl
            · exact yq (q_move rfl)
            apply dq 7 rfl
            · exact yq (qfa 2 rfl yU54 rfl rfl yS9)
            apply dq 8 rfl
            · exact yq (qld rfl yA9)
            apply dq 9 rfl
            · exact yq (qfa 3 rfl yU54 rfl rfl yS9)
            apply dq 10 rfl
            · exact yq (qld rfl yA9)
            apply dq 11 rfl
            · exact yq (qfa 4 rfl yU54 rfl rfl yS3)
            apply dq 12 rfl
            · exact yq (qld rfl yA3)
            refine d_eff1 [0, 2, 1] [12, 11, 10, 9, 8, 7, 6] 3 [(75, _), (77, _)] gO ⟨rfl, rfl, trivial⟩ (by kernel_rfl) (by kernel_rfl) fun Ex => ?_
            refine lc1 rfl rfl rfl (Bit_ok _ T.depth hhb ⟨by omega, by omega⟩) ?_
            rw [hb]
            refine l_nil ?_
            apply n_d
            · refine ⟨?_, ?_, ?_, ?_, ?_, ?_, ?_, trivial⟩
              · apply ya rfl rfl; exact yq (qld rfl yA3)
              · apply ya rfl rfl; exact yq (qfa 4 rfl yU54 rfl rfl yS3)
              · apply ya rfl rfl; exact yq (qld rfl yA9)
              · apply ya rfl rfl; exact yq (qfa 3 rfl yU54 rfl rfl yS9)
              · apply ya rfl rfl; exact yq (qld rfl yA9)
              · apply ya rfl rfl; exact yq (qfa 2 rfl yU54 rfl rfl yS9)
              · apply ya rfl rfl; exact yq (q_move rfl)
            apply dq 4 rfl
            · apply yq
              refine QV.to (v' := .pointer (some ⟨b12, 0, none⟩)) (q_indexAddrA rfl rfl Tryz.underlying164 yS34 (by omega)) rfl
            apply dq 5 rfl
            · exact yq (qlda rfl yA34 yS34)
            refine d_eff1 [5, 6, 8, 10, 12, 4, 7, 9, 11] [] 13 [(80, _), (81, _), (83, _), (85, _), (87, _)] gO ⟨rfl, rfl, rfl, rfl, rfl, trivial⟩ (by kernel_rfl) (by kernel_rfl) fun Ex => ?_
            refine lcf rfl rfl rfl (Put_ok G hGT pa o1 g1 n e s3 l U1 hA1 _ hhb (T.cells i1).keyS (T.cells i1).elemS hks hes (T.cells i1).birthI ⟨hb0, hb1⟩ (by omega) (by omega)) ?_
            rintro v L' ⟨s4, rfl, rfl, hA3, hSB⟩
            refine l_nm ?_
            refine l_nil ?_
            apply n_d
            · exact trivial
            refine d_end (by kernel_rfl) ?_
            refine n_blk ?_
            apply r_next (by assumption) (by assumption) ((s4, ((putT n U1 (hashF m sd (T.cells i1).keyS) (T.cells i1).keyS (T.cells i1).elemS (T.cells i1).birthI).2, L1 ++ [v1]), (U2, L2))) (⟨i1 + 1, hi8, hk1, hA3, TabP.same hA2 hSB (by omega) (by omega) (by omega) (by omega), hS3, hS4, hK3.put hSB hap1, hSB.all.trans hal3, hSB.dead.trans hde3⟩)
            exact en
          · skip
            obtain ⟨v1, hS3⟩ := hS2.put hj' hi8 hfi hb (by omega) ho hP.hn
            have hS4 := hS1.pass hj' hfi (by rw [hb]; decide)
            refine t_nm ?_
            refine t_region <| o_allocA rfl yZ54 fun b14 => sta rfl rfl rfl yS54 rfl rfl ?_
            refine l_nil ?_
            apply n_begin
            · exact tk
            · assumption
            refine t_block <| sr <| l_q rfl (qld rfl yA74) ?_
            refine l_q rfl (qld rfl yA52) ?_
            refine l_q rfl (qfa 2 rfl yU54 rfl rfl yS9) <| l_q rfl (qld rfl yA9) ?_
            refine lc1 rfl rfl rfl (Hash_ok G hGO po bm m hm sd hsd (T.cells i1).keyS (by omega)) ?_
            refine asg rfl rfl <| lc <| t_draw mixed ?_
            apply dq 0 rfl
            · exact yq (q_move rfl)
            apply dq 1 rfl
            · exact yq (qfa 3 rfl yU47 rfl rfl yS3)
            apply dq 2 rfl
            · exact yq (qld rfl yA3)
            apply dq 6 rfl
            · exact yq (q_move rfl)
            apply dq 7 rfl
            · exact yq (qfa 2 rfl yU54 rfl rfl yS9)
            apply dq 8 rfl
            · exact yq (qld rfl yA9)
            apply dq 9 rfl
            · exact yq (qfa 3 rfl yU54 rfl rfl yS9)
            apply dq 10 rfl
            · exact yq (qld rfl yA9)
            apply dq 11 rfl
            · exact yq (qfa 4 rfl yU54 rfl rfl yS3)
            apply dq 12 rfl
            · exact yq (qld rfl yA3)
            refine d_eff1 [0, 2, 1] [12, 11, 10, 9, 8, 7, 6] 3 [(75, _), (77, _)] gO ⟨rfl, rfl, trivial⟩ (by kernel_rfl) (by kernel_rfl) fun Ex => ?_
            refine lc1 rfl rfl rfl (Bit_ok _ T.depth hhb ⟨by omega, by omega⟩) ?_
            rw [hb]
            refine l_nil ?_
            apply n_d
            · refine ⟨?_, ?_, ?_, ?_, ?_, ?_, ?_, trivial⟩
              · apply ya rfl rfl; exact yq (qld rfl yA3)
              · apply ya rfl rfl; exact yq (qfa 4 rfl yU54 rfl rfl yS3)
              · apply ya rfl rfl; exact yq (qld rfl yA9)
              · apply ya rfl rfl; exact yq (qfa 3 rfl yU54 rfl rfl yS9)
              · apply ya rfl rfl; exact yq (qld rfl yA9)
              · apply ya rfl rfl; exact yq (qfa 2 rfl yU54 rfl rfl yS9)
              · apply ya rfl rfl; exact yq (q_move rfl)
            apply dq 4 rfl
            · apply yq
              refine QV.to (v' := .pointer (some ⟨b12, 11, none⟩)) (q_indexAddrA rfl rfl Tryz.underlying164 yS34 (by omega)) rfl
            apply dq 5 rfl
            · exact yq (qlda rfl yA34 yS34)
            refine d_eff1 [5, 6, 8, 10, 12, 4, 7, 9, 11] [] 13 [(80, _), (81, _), (83, _), (85, _), (87, _)] gO ⟨rfl, rfl, rfl, rfl, rfl, trivial⟩ (by kernel_rfl) (by kernel_rfl) fun Ex => ?_
            refine lcf rfl rfl rfl (Put_ok G hGT pa o2 g2 n e s3 l U2 hA2 _ hhb (T.cells i1).keyS (T.cells i1).elemS hks hes (T.cells i1).birthI ⟨hb0, hb1⟩ (by omega) (by omega)) ?_
            rintro v L' ⟨s4, rfl, rfl, hA3, hSB⟩
            refine l_nm ?_
            refine l_nil ?_
            apply n_d
            · exact trivial
            refine d_end (by kernel_rfl) ?_
            refine n_blk ?_
            apply r_next (by assumption) (by assumption) ((s4, (U1, L1), ((putT n U2 (hashF m sd (T.cells i1).keyS) (T.cells i1).keyS (T.cells i1).elemS (T.cells i1).birthI).2, L2 ++ [v1]))) (⟨i1 + 1, hi8, hk1, TabP.same hA1 hSB (by omega) (by omega) (by omega) (by omega), hA3, hS4, hS3, hK3.put hSB hap2, hSB.all.trans hal3, hSB.dead.trans hde3⟩)
            exact en
        · rintro b1' ⟨s3, ⟨U1, L1⟩, ⟨U2, L2⟩⟩ ⟨j, hj8, hj, hA1, hA2, hS1, hS2, hK3, hal3, hde3⟩
          rw [cellsV_len] at hj
          dsimp only at hA1 hA2 hS1 hS2 hK3 hal3 hde3 ⊢
          have hOld := TabP.kept hP hK3
          have hF1 := hS1.to hj8 hj.symm
          have hF2 := hS2.to hj8 hj.symm
          have hlv : s3.live = s2.live := by unfold ArS.live ArS.bl; rw [hal3, hde3]
          have hl2 := hN2.live
          refine n_nm ?_
          refine n_blk <| n_code <| t_seq <| t_draw mixed ?_
          apply dq 0 rfl
          · exact yq (qlda rfl yA34 yS34)
          apply dq 1 rfl
          · exact yq (qlda rfl yA34 yS34)
          refine d_eff1 [0] [1] 2 [(6, _), (89, _)] gO ⟨rfl, rfl, trivial⟩ (by kernel_rfl) (by kernel_rfl) fun Ex => ?_
          refine sta rfl rfl rfl yS34 rfl rfl ?_
          refine l_nil ?_
          apply n_d
          · refine ⟨?_, trivial⟩
            · apply ya rfl rfl; exact yq (qlda rfl yA34 yS34)
          refine d_eff1 [1] [] 3 [(7, _), (90, _)] gO ⟨rfl, rfl, trivial⟩ (by kernel_rfl) (by kernel_rfl) fun Ex => ?_
          refine sta rfl rfl rfl yS34 rfl rfl ?_
          refine l_nil ?_
          apply n_d
          · exact trivial
          refine d_eff1 [] [] 4 [(8, _)] gO ⟨rfl, trivial⟩ (by kernel_rfl) (by kernel_rfl) fun Ex => ?_
          refine st rfl rfl rfl yS44 rfl ?_
          refine l_nil ?_
          apply n_d
          · exact trivial
          refine d_end (by kernel_rfl) ?_
          refine n_code <| rt ?_
          apply f_retd (.inl rfl) [b1'] (hargs := rfl) (hc := SplitD_ok b8 b10 #[.pointer (some ⟨pa, 0, none⟩), .int .i64 l.key, .int .i64 l.elem, .int .i64 l.ka, .int .i64 l.ea, .int .i64 l.cap, .int .i64 l.eo, .int .i64 l.bo, .int .i64 l.slot, .int .i64 l.group, .int .i64 ((o1 : Nat) : Int)])
          case hm => repeat (first | with_reducible exact TakeM.nil | apply TakeM.cons | with_reducible exact Take.here | apply Take.there)
          case hp => exact pk
          rintro _ rfl
          simp only [List.cons_append, List.nil_append]
          refine ⟨_, [pt po (.cells #[.map (some bm)] 191 (0, 0)), mapH (fun k : ByteArray => Value.string k) bm m, G, arenaH pa s3], ?_, ⟨s1, s3, o2, g2, U1, U2, L1, L2, rfl, rfl, ho2, hg2, hN1, hOld, hA1, hA2, hF1, hF2, hK3, by omega, hal3.trans hN2.all, hde3.trans hN2.dead⟩, ?_⟩
          · apply res3 rfl
            · apply Rv.agg rfl
              · exact tk
              · exact run_loadAll yA34 yS34 rfl
            · apply Rv.agg rfl
              · exact tk
              · exact run_loadAll yA34 yS34 rfl
            · apply Rv.cellL rfl
              · exact tk
              · exact ga
              · exact yA44
          · exact en
        · rintro b1' k ⟨jc, y⟩ hk hq
          exact hq.elim
end Go.Proofs.YtgijnebgchkenaaGreatDoor.Grow
