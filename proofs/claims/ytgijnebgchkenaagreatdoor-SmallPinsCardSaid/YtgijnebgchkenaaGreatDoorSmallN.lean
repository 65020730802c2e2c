import Derived.Test.YtgijnebgchkenaaGreatDoorSmall
section
/- Contracts of package small: finding, putting, deleting. -/
set_option linter.unusedVariables false
set_option linter.unusedSimpArgs false
set_option maxRecDepth 100000
namespace Go.Proofs.YtgijnebgchkenaaGreatDoor.Small
open Go.RowKit Go.Proofs Go.Proofs.YtgijnebgchkenaaGreatDoor.Eng Go.Proofs.YtgijnebgchkenaaGreatDoor.Ty Go.Proofs.YtgijnebgchkenaaGreatDoor.Bits Go.Proofs.YtgijnebgchkenaaGreatDoor.Mem Go.Proofs.YtgijnebgchkenaaGreatDoor.Search Go.Proofs.YtgijnebgchkenaaGreatDoor.Arena Go.Proofs.YtgijnebgchkenaaGreatDoor.CtrlB Go.Proofs.YtgijnebgchkenaaGreatDoor.Ctrl Go.Proofs.YtgijnebgchkenaaGreatDoor.Layout Go.Proofs.YtgijnebgchkenaaGreatDoor.GroupB Go.Proofs.YtgijnebgchkenaaGreatDoor.Group Go.Proofs.YtgijnebgchkenaaGreatDoor.TableB Go.Proofs.YtgijnebgchkenaaGreatDoor.Table

/-- A step that lays bytes only. -/
structure Lays (s s' : ArS) : Prop where
  all : s'.all = s.all
  dead : s'.dead = s.dead
  limit : s'.limit = s.limit
theorem Lays.refl (s : ArS) : Lays s s := ⟨rfl, rfl, rfl⟩
theorem Lays.trans {a b c : ArS} (h : Lays a b) (k : Lays b c) : Lays a c := ⟨k.all.trans h.all, k.dead.trans h.dead, k.limit.trans h.limit⟩
theorem Lays.bl {s s' : ArS} (h : Lays s s') : s'.bl = s.bl := by unfold ArS.bl; rw [h.all, h.dead]
theorem Lays.live {s s' : ArS} (h : Lays s s') : s'.live = s.live := by unfold ArS.live; rw [h.bl]
theorem SmP.hN {s : ArS} {off : Nat} {l : Lay} {S : Sm} (h : SmP s off l S) : LayN l := layN h.hl
theorem SmP.grp {s : ArS} {off : Nat} {l : Lay} {S : Sm} (h : SmP s off l S) : goodP s ((off + 32 : Nat) : Int) l.group := by
  have := Lay.bnd h.hl
  exact goodP.sub h.gh (by omega) (by omega) (by omega)
/-- A word of the header written. -/
theorem SmP.word {s : ArS} {off : Nat} {l : Lay} {S S' : Sm} (h : SmP s off l S) {k : Nat} (hk : k < 4) {v : Int} (hb : -9223372036854775808 ≤ v ∧ v ≤ 9223372036854775807) (hv : smV S' k = v) (ho : ∀ j, j < 4 → j ≠ k → smV S' j = smV S j) (hc : S'.cells = S.cells) :
    SmP (s.put (off + 8 * k) 8 (byteN (IntKind.u64.wrap v))) off l S' := by
  refine ⟨h.hl, h.gh, fun j hj => ?_, fun j hj => ?_, ?_, by rw [hc]; exact h.okc⟩
  · rw [ArS.put_m]
    by_cases q : j = k
    · subst q
      rw [loadN_congr (m' := byteN (IntKind.u64.wrap v)) (o' := 0) fun i hi => by rw [lay_at (by omega) (by omega)]; congr 1; omega]
      rw [loadN_byteN, hv, IntKind.wrap_u64]
      omega
    · rw [ho j hj q, ← h.head j hj]
      exact loadN_congr fun i hi => by rw [lay_out]; omega
  · by_cases q : j = k
    · rw [q, hv]; exact hb
    · rw [ho j hj q]; exact h.hr j hj
  · rw [ArS.put_m, hc]
    exact GAt.out h.body (by omega)
/-- A cell written. -/
theorem SmP.cell {s : ArS} {off : Nat} {l : Lay} {S : Sm} (h : SmP s off l S) {i : Nat} (hi : i < 8) {c : Cell} (hc : c.ok l) :
    SmP (s.put (off + 32) (gN l) (encG l (updC S.cells i c))) off l { S with cells := updC S.cells i c } := by
  refine ⟨h.hl, h.gh, fun j hj => ?_, h.hr, ?_, fun j hj => ?_⟩
  · show loadN _ _ _ = IntKind.u64.wrap (smV S j)
    rw [ArS.put_m, ← h.head j hj]
    exact loadN_congr fun i hi => by rw [lay_out]; omega
  · rw [ArS.put_m]
    exact GAt.lay _
  · show (updC S.cells i c j).ok l
    unfold updC; split
    · exact hc
    · exact h.okc j hj
section
variable (G : HP) (hGT : TabOk G) (pa off : Nat) (s : ArS) (l : Lay) (S : Sm) (hP : SmP s off l S) (t : Nat) (ht : t < 128) (key : ByteArray) (hk : key.size = kN l)
include hP
theorem SCell_ok (i : Nat) (hi : i < 8) : FnOk Tryz.prog 44 #[.agg #[.pointer (some ⟨pa, 0, none⟩), .int .i64 l.key, .int .i64 l.elem, .int .i64 l.ka, .int .i64 l.ea, .int .i64 l.cap, .int .i64 l.eo, .int .i64 l.bo, .int .i64 l.slot, .int .i64 l.group, .int .i64 (off : Nat)], .int .i64 i] [arenaH pa s] (fun v L => v = .tuple #[.agg #[.int .i64 (S.cells i).kind, .int .i64 (S.cells i).tagI, .string (S.cells i).keyS, .string (S.cells i).elemS, .int .i64 (S.cells i).birthI], .int .i64 0] ∧ L = [arenaH pa s]) := by
  have hG := hP.grp
  refine fn_intro en44 Tryz.func44 rfl rfl rfl fun Fr w0 => t_nm ?_
  refine t_pure (φ := s.ok) (fun w hw => arena_ok hw .here) fun hok0 => ?_
  refine sr <| o_boxA rfl rfl fun b2 => o_allocA rfl yZ54 fun b4 => asg rfl rfl <| lc <| t_seq <| sr <| l_q rfl (qlda rfl yA98 yS98) ?_
  refine lc1 rfl rfl rfl (SStat_ok pa off s l S hP) ?_
  refine mv rfl rfl <| l_q rfl (q_extractL rfl ga) ?_
  refine l_q rfl (q_extractL rfl ga) ?_
  refine o_allocA rfl yZ105 fun b6 => sta rfl rfl rfl yS105 rfl rfl ?_
  refine asg rfl rfl <| lz <| mv rfl rfl <| l_q rfl (qi rfl rfl (b_neq ·)) <| lc <| t_if rfl (fun z => ?_) fun z => ?_
  · exact absurd rfl z
  · refine t_skip <| nz <| l_q rfl (qlda rfl yA98 yS98) ?_
    refine lc1 rfl rfl rfl (sgroup_ok pa off s l S hP hok0) ?_
    refine mv rfl rfl <| lc1 rfl rfl rfl (Cell_ok pa (off + 32) s l S.cells hP.hl hG hP.body hP.okc i hi) ?_
    refine l_q rfl (q_extractL rfl ga) ?_
    refine l_q rfl (q_extractL rfl ga) ?_
    refine sta rfl rfl rfl yS54 rfl rfl ?_
    refine asg rfl rfl <| lc <| rt ?_
    apply f_ret (.inl rfl) ([arenaH pa s])
    · apply res2 rfl
      · apply Rv.agg rfl
        · exact tk
        · exact run_loadAll yA54 yS54 rfl
      · exact .tmp rfl
    · exact ⟨rfl, rfl⟩
    · exact en
include hGT ht hk
/-- Where the key is: 8: it is not there. -/
def atS (S : Sm) (t : Nat) (key : ByteArray) : Nat := firstF (hitS S.cells t key)
def atI (S : Sm) (t : Nat) (key : ByteArray) : Int := if atS S t key = 8 then -1 else (atS S t key : Nat)
theorem sfind_ok : FnOk Tryz.prog 151 #[.agg #[.pointer (some ⟨pa, 0, none⟩), .int .i64 l.key, .int .i64 l.elem, .int .i64 l.ka, .int .i64 l.ea, .int .i64 l.cap, .int .i64 l.eo, .int .i64 l.bo, .int .i64 l.slot, .int .i64 l.group, .int .i64 (off : Nat)], .int .i64 t, .string key] [G, arenaH pa s]
    (fun v L => v = .tuple #[.agg #[.int .i64 S.used, .int .i64 S.pins, .int .i64 S.next, .bool (decide (S.kind = 3))], .int .i64 (atI S t key), .int .i64 0] ∧ L = [G, arenaH pa s]) := by
  have hG := hP.grp
  have hks : (key.size : Int) = l.key := by rw [hk]; exact hP.hN.k
  have h8 := firstF_le (hitS S.cells t key)
  refine fn_intro en151 Tryz.func151 rfl rfl rfl fun Fr w0 => t_nm ?_
  refine t_pure (φ := s.ok) (fun w hw => arena_ok hw (.there .here)) fun hok0 => ?_
  refine sr <| o_boxA rfl rfl fun b3 => o_allocA rfl yZ105 fun b6 => asg rfl rfl <| asg rfl rfl <| lz <| l_q rfl (qlda rfl yA98 yS98) ?_
  refine lc1 rfl rfl rfl (SStat_ok pa off s l S hP) ?_
  refine mv rfl rfl <| l_q rfl (q_extractL rfl ga) ?_
  refine l_q rfl (q_extractL rfl ga) ?_
  refine o_allocA rfl yZ105 fun b9 => sta rfl rfl rfl yS105 rfl rfl ?_
  refine asg rfl rfl <| lc <| t_seq <| sr <| mv rfl rfl <| l_q rfl (qi rfl rfl (b_neq ·)) <| lc <| t_if rfl (fun z => ?_) fun z => ?_
  · exact absurd rfl z
  · refine t_skip <| n_code <| t_seq <| sr <| mv rfl rfl <| l_q rfl (qls rfl yU9) <| l_q rfl (qfa 1 rfl yU98 rfl rfl yS32) <| l_q rfl (qfa 0 rfl yU32 rfl rfl yS3) <| l_q rfl (qld rfl yA3) ?_
    refine l_q rfl (qi rfl rfl (b_neq ·)) <| lc <| t_if rfl (fun y => ?_) fun y => ?_
    · omega
    · refine t_skip <| nz <| l_q rfl (qlda rfl yA98 yS98) ?_
      refine lc1 rfl rfl rfl (sgroup_ok pa off s l S hP hok0) ?_
      refine mv rfl rfl <| mv rfl rfl <| lc1 rfl rfl rfl (GFind_ok G hGT pa (off + 32) s l S.cells hP.hl hG hP.body hP.okc t ht key hk) ?_
      refine mv rfl rfl <| l_q rfl (q_extractL rfl ga) ?_
      refine l_q rfl (q_extractL rfl ga) ?_
      refine asg rfl rfl <| asg rfl rfl <| lc <| t_seq <| sr <| mv rfl rfl <| l_q rfl (qi rfl rfl (b_eql ·)) <| lc <| t_if rfl (fun x => ?_) fun x => ?_
      · refine t_region <| asg rfl rfl <| lz <| l_q rfl (qlda rfl yA105 yS105) ?_
        refine mv rfl rfl <| mv rfl rfl <| sta rfl rfl rfl yS105 rfl rfl ?_
        refine asg rfl rfl <| asg rfl rfl <| lc <| rt ?_
        apply f_ret (.inl rfl) ([G, arenaH pa s])
        · apply res3 rfl
          · apply Rv.agg rfl
            · exact tk
            · exact run_loadAll yA105 yS105 rfl
          · exact .tmp rfl
          · exact .tmp rfl
        · refine ⟨?_, rfl⟩; unfold atI atS; rw [if_pos (by omega)]
        · exact en
      · refine t_skip <| nz <| l_q rfl (qlda rfl yA105 yS105) ?_
        refine mv rfl rfl <| mv rfl rfl <| sta rfl rfl rfl yS105 rfl rfl ?_
        refine asg rfl rfl <| asg rfl rfl <| lc <| rt ?_
        apply f_ret (.inl rfl) ([G, arenaH pa s])
        · apply res3 rfl
          · apply Rv.agg rfl
            · exact tk
            · exact run_loadAll yA105 yS105 rfl
          · exact .tmp rfl
          · exact .tmp rfl
        · refine ⟨?_, rfl⟩; unfold atI atS; rw [if_neg (by omega)]
        · exact en
theorem SFind_ok : FnOk Tryz.prog 97 #[.agg #[.pointer (some ⟨pa, 0, none⟩), .int .i64 l.key, .int .i64 l.elem, .int .i64 l.ka, .int .i64 l.ea, .int .i64 l.cap, .int .i64 l.eo, .int .i64 l.bo, .int .i64 l.slot, .int .i64 l.group, .int .i64 (off : Nat)], .int .i64 t, .string key] [G, arenaH pa s]
    (fun v L => v = .tuple #[.int .i64 (atI S t key), .int .i64 0] ∧ L = [G, arenaH pa s]) := by
  refine fn_intro en97 Tryz.func97 rfl rfl rfl fun Fr w0 => t_nm ?_
  refine sr <| o_boxA rfl rfl fun b3 => asg rfl rfl <| asg rfl rfl <| lz <| l_q rfl (qlda rfl yA98 yS98) ?_
  refine mv rfl rfl <| mv rfl rfl <| lc1 rfl rfl rfl (sfind_ok G hGT pa off s l S hP t ht key hk) ?_
  refine mv rfl rfl <| l_q rfl (q_extractL rfl ga) ?_
  refine l_q rfl (q_extractL rfl ga) ?_
  refine l_q rfl (q_extractL rfl ga) ?_
  refine o_allocA rfl yZ105 fun b8 => sta rfl rfl rfl yS105 rfl rfl ?_
  exact asg rfl rfl <| asg rfl rfl <| lz <| mv rfl rfl <| mv rfl rfl <| asg rfl rfl <| asg rfl rfl <| lc <| rt <| fr2 rfl ([G, arenaH pa s]) (.tmp rfl) (.tmp rfl) ⟨rfl, rfl⟩
end
end Go.Proofs.YtgijnebgchkenaaGreatDoor.Small
end
section
/- Contracts of package small: a new one. -/
set_option linter.unusedVariables false
set_option linter.unusedSimpArgs false
set_option maxRecDepth 100000
namespace Go.Proofs.YtgijnebgchkenaaGreatDoor.Small
open Go.RowKit Go.Proofs Go.Proofs.YtgijnebgchkenaaGreatDoor.Eng Go.Proofs.YtgijnebgchkenaaGreatDoor.Ty Go.Proofs.YtgijnebgchkenaaGreatDoor.Bits Go.Proofs.YtgijnebgchkenaaGreatDoor.Mem Go.Proofs.YtgijnebgchkenaaGreatDoor.Search Go.Proofs.YtgijnebgchkenaaGreatDoor.Arena Go.Proofs.YtgijnebgchkenaaGreatDoor.CtrlB Go.Proofs.YtgijnebgchkenaaGreatDoor.Ctrl Go.Proofs.YtgijnebgchkenaaGreatDoor.Layout Go.Proofs.YtgijnebgchkenaaGreatDoor.GroupB Go.Proofs.YtgijnebgchkenaaGreatDoor.Group Go.Proofs.YtgijnebgchkenaaGreatDoor.TableB Go.Proofs.YtgijnebgchkenaaGreatDoor.Table


def newS : Sm := ⟨1, 0, 0, 0, fun _ => .empty⟩
theorem loadN_none {m : Nat → Int} {o : Nat} (h : ∀ i, i < 8 → m (o + i) = 0) : loadN m o 8 = 0 := by
  rw [loadN_congr (m' := byteN 0) (o' := 0) fun i hi => by rw [h i hi]; simp [byteN], loadN_byteN]; rfl
theorem smAt_ok (pa : Nat) (l : Lay) (off : Int) : FnOk Tryz.prog 150 #[.pointer (some ⟨pa, 0, none⟩), .agg l.cells, .int .i64 off] [] (fun v L => v = .agg #[.pointer (some ⟨pa, 0, none⟩), .int .i64 l.key, .int .i64 l.elem, .int .i64 l.ka, .int .i64 l.ea, .int .i64 l.cap, .int .i64 l.eo, .int .i64 l.bo, .int .i64 l.slot, .int .i64 l.group, .int .i64 off] ∧ L = []) := by
  refine fn_intro en150 Tryz.func150 rfl rfl rfl fun Fr w0 => t_nm ?_
  refine sr <| o_boxA rfl rfl fun b4 => o_allocA rfl yZ98 fun b6 => lz <| mv rfl rfl <| l_q rfl (qlda rfl yA32 yS32) ?_
  refine mv rfl rfl ?_
  apply l_q rfl
  · apply q_buildS rfl yP98 yZ98
    · apply FillR.one
      · repeat (first | exact PlAt.here | apply PlAt.there)
      · rfl
      · exact sa
      apply FillR.all
      · repeat (first | exact PlAt.here | apply PlAt.there)
      · rfl
      · simp
      · exact sal
      apply FillR.one
      · repeat (first | exact PlAt.here | apply PlAt.there)
      · rfl
      · exact sa
      exact FillR.nil
  refine sta rfl rfl rfl yS98 rfl rfl ?_
  refine lc <| rt ?_
  apply f_ret (.inl rfl) ([])
  · apply res1 rfl
    · apply Rv.agg rfl
      · exact tk
      · exact run_loadAll yA98 yS98 rfl
  · exact ⟨rfl, rfl⟩
  · exact en
theorem sgroupR_ok (pa off : Nat) (l : Lay) (hb : off ≤ 1000000000) : FnOk Tryz.prog 99 #[.agg #[.pointer (some ⟨pa, 0, none⟩), .int .i64 l.key, .int .i64 l.elem, .int .i64 l.ka, .int .i64 l.ea, .int .i64 l.cap, .int .i64 l.eo, .int .i64 l.bo, .int .i64 l.slot, .int .i64 l.group, .int .i64 (off : Nat)]] [] (fun v L => v = .agg #[.pointer (some ⟨pa, 0, none⟩), .int .i64 l.key, .int .i64 l.elem, .int .i64 l.ka, .int .i64 l.ea, .int .i64 l.cap, .int .i64 l.eo, .int .i64 l.bo, .int .i64 l.slot, .int .i64 l.group, .int .i64 ((off + 32 : Nat) : Int)] ∧ L = []) := by
  refine fn_intro en99 Tryz.func99 rfl rfl rfl fun Fr w0 => t_nm ?_
  refine sr <| o_boxA rfl rfl fun b1 => o_allocA rfl yZ63 fun b2 => lz <| l_q rfl (qfa 0 rfl yU98 rfl rfl yS30) <| l_q rfl (qld rfl yA30) ?_
  refine l_q rfl (qfa 1 rfl yU98 rfl rfl yS32) <| l_q rfl (qlda rfl yA32 yS32) ?_
  refine l_q rfl (qfa 10 rfl yU98 rfl rfl yS3) <| l_q rfl (qld rfl yA3) ?_
  refine l_q rfl (qadd rfl rfl) ?_
  rw [show ((off : Nat) : Int) + 32 = ((off + 32 : Nat) : Int) by omega]
  refine lc1 rfl rfl rfl (Group.At_ok pa _ l) ?_
  refine sta rfl rfl rfl yS63 rfl rfl ?_
  refine lc <| rt ?_
  apply f_ret (.inl rfl) ([])
  · apply res1 rfl
    · apply Rv.agg rfl
      · exact tk
      · exact run_loadAll yA63 yS63 rfl
  · exact ⟨rfl, rfl⟩
  · exact en
/-- The block taken, its group laid: a small map of kind 0. -/
theorem sm_laid {s : ArS} {l : Lay} (hs : s.ok) (hl : l.err = 0) (hn : 32 + l.group ≤ classI (32 + l.group)) : SmP ((s.take (classI (32 + l.group))).put (s.at (classI (32 + l.group)) + 32) (gN l) (encG l fun _ => .empty)) (s.at (classI (32 + l.group))) l ⟨0, 0, 0, 0, fun _ => .empty⟩ := by
  have hbd := Lay.bnd hl
  refine ⟨hl, goodP.put (goodP.new hs (by omega) hn), fun k hk => ?_, fun k hk => ?_, ?_, fun i _ => trivial⟩
  · have e0 : smV ⟨0, 0, 0, 0, fun _ => .empty⟩ k = 0 := by
      have : k = 0 ∨ k = 1 ∨ k = 2 ∨ k = 3 := by omega
      rcases this with rfl | rfl | rfl | rfl <;> rfl
    rw [e0, loadN_none fun i hi => by
      rw [ArS.put_m, lay_out (by omega)]
      exact take_zero hs (by omega) (by omega) (by omega)]
    rfl
  · have : k = 0 ∨ k = 1 ∨ k = 2 ∨ k = 3 := by omega
    rcases this with rfl | rfl | rfl | rfl <;> simp [smV]
  · rw [ArS.put_m]; exact GAt.lay _
/-- What a new block of the class c leaves of the arena. -/
structure NewB (s s' : ArS) (c : Int) : Prop where
  limit : s'.limit = s.limit
  live : s'.live = s.live + c
  all : s'.all = (s.take c).all
  dead : s'.dead = (s.take c).dead
  bl : ∀ p, p ∈ s'.bl ↔ p ∈ s.bl ∨ p = (((s.at c : Nat) : Int), c)
  m : ∀ p ∈ s.bl, ∀ a : Nat, p.1 ≤ a → (a : Int) < p.1 + p.2 → s'.m a = s.m a
theorem newB_put {s : ArS} (hs : s.ok) {l : Lay} (hl : l.err = 0) {C : Int} {of : Nat} {E F : Nat → Int} (hc : 1 ≤ C) (h : 32 + l.group ≤ C) (ho : of = s.at C) : NewB s (((s.take C).put (of + 32) (gN l) E).put (of + 8 * 0) 8 F) C := by
  subst ho
  have hgN := (layN hl).g
  have hbd := Lay.bnd hl
  refine ⟨take_limit hs, ArS.take_live hs, rfl, rfl, fun p => take_bl hs, fun p hp a h1 h2 => ?_⟩
  have hap := take_apart hs hp (c := C) hc
  rw [ArS.put_m, ArS.put_m, lay_out (by omega), lay_out (by omega)]
  exact take_keep hs hc hp h1 h2
theorem SNew_ok (pa : Nat) (s : ArS) (l : Lay) (hl : l.err = 0) :
    FnOk Tryz.prog 90 #[.pointer (some ⟨pa, 0, none⟩), .agg l.cells] [arenaH pa s]
      (fun v L => (s.limit - s.live < classI (32 + l.group) ∧ v = .tuple #[.agg #[.pointer none, .int .i64 0, .int .i64 0, .int .i64 0, .int .i64 0, .int .i64 0, .int .i64 0, .int .i64 0, .int .i64 0, .int .i64 0, .int .i64 0], .int .i64 22] ∧ L = [arenaH pa s]) ∨
        (s.live + classI (32 + l.group) ≤ s.limit ∧ ∃ s', v = .tuple #[.agg #[.pointer (some ⟨pa, 0, none⟩), .int .i64 l.key, .int .i64 l.elem, .int .i64 l.ka, .int .i64 l.ea, .int .i64 l.cap, .int .i64 l.eo, .int .i64 l.bo, .int .i64 l.slot, .int .i64 l.group, .int .i64 ((s.at (classI (32 + l.group)) : Nat) : Int)], .int .i64 0] ∧ L = [arenaH pa s'] ∧ SmP s' (s.at (classI (32 + l.group))) l newS ∧ NewB s s' (classI (32 + l.group)))) := by
  have hbd := Lay.bnd hl
  have hcb := classI_bnd (n := 32 + l.group) (by omega)
  have hcb2 := hcb.2.2 (by omega)
  have hcc : classI (32 + l.group) ∈ classes := class_mem (by omega) (by omega)
  refine fn_intro en90 Tryz.func90 rfl rfl rfl fun Fr w0 => t_nm ?_
  refine t_pure (φ := s.ok) (fun w hw => arena_ok hw .here) fun hok0 => ?_
  have hP0 := sm_laid (s := s) hok0 hl hcb2.1
  have hP1 := hP0.word (S' := newS) (k := 0) (v := 1) (by decide) (by omega) rfl (fun j hj hne => by
    have : j = 1 ∨ j = 2 ∨ j = 3 := by omega
    rcases this with rfl | rfl | rfl <;> rfl) rfl
  have hst := hok0.stop_eq
  refine sr <| o_boxA rfl rfl fun b3 => o_allocA rfl yZ98 fun b4 => asg rfl rfl <| lz <| mv rfl rfl <| l_q rfl (qfa 8 rfl yU32 rfl rfl yS3) <| l_q rfl (qld rfl yA3) ?_
  refine l_q rfl (qadd rfl rfl) ?_
  refine lcf rfl rfl rfl (Alloc_ok pa s (32 + l.group) (by omega)) ?_
  rintro v L' (⟨hb, rfl, rfl⟩ | ⟨_, hfit, rfl, rfl⟩)
  refine l_nm ?_
  · skip
    refine l_nm ?_
    refine mv rfl rfl <| l_q rfl (q_extractL rfl ga) ?_
    refine l_q rfl (q_extractL rfl ga) ?_
    refine asg rfl rfl <| asg rfl rfl <| lc <| t_seq <| sr <| mv rfl rfl <| l_q rfl (qi rfl rfl (b_neq ·)) <| lc <| t_if rfl (fun p1 => ?_) fun p1 => ?_
    · refine sr ?_
      apply l_q rfl
      · apply q_buildS rfl yP98 yZ98
        · exact FillR.nil
      refine mv rfl rfl <| sta rfl rfl rfl yS98 rfl rfl ?_
      refine asg rfl rfl <| lc <| rt ?_
      apply f_ret (.inl rfl) ([arenaH pa s])
      · apply res2 rfl
        · apply Rv.agg rfl
          · exact tk
          · exact run_loadAll yA98 yS98 rfl
        · exact .tmp rfl
      · exact .inl ⟨by omega, rfl, rfl⟩
      · exact en
    · omega
  · skip
    refine l_nm ?_
    refine mv rfl rfl <| l_q rfl (q_extractL rfl ga) ?_
    refine l_q rfl (q_extractL rfl ga) ?_
    refine asg rfl rfl <| asg rfl rfl <| lc <| t_seq <| sr <| mv rfl rfl <| l_q rfl (qi rfl rfl (b_neq ·)) <| lc <| t_if rfl (fun p1 => ?_) fun p1 => ?_
    · exact absurd rfl p1
    · refine t_skip <| nz <| mv rfl rfl <| l_q rfl (qlda rfl yA32 yS32) ?_
      refine mv rfl rfl ?_
      have hab := at_bnd hok0 hcc hfit
      obtain ⟨C, hC⟩ : ∃ C, C = classI (32 + l.group) := ⟨_, rfl⟩
      rw [← hC] at hab hfit hcb2 hP0 hP1 hcc ⊢
      obtain ⟨of, hof⟩ : ∃ of, of = s.at C := ⟨_, rfl⟩
      rw [← hof] at hab hP0 hP1 ⊢
      have hst9 : of ≤ 1000000000 := by omega
      have hg1 : goodP (s.take C) ((of + 32 : Nat) : Int) l.group := goodP.sub (goodP.new hok0 (c := C) (n := 32 + l.group) (by omega) hcb2.1) (by omega) (by omega) (by omega)
      refine lc1 rfl rfl rfl (smAt_ok pa l _) ?_
      refine o_allocA rfl yZ98 fun b8 => sta rfl rfl rfl yS98 rfl rfl ?_
      refine lc <| t_seq <| sr <| l_q rfl (qlda rfl yA98 yS98) ?_
      refine lc1 rfl rfl rfl (sgroupR_ok pa of l hst9) ?_
      refine lc1 rfl rfl rfl (Reset_ok pa (of + 32) (s.take C) l hl hg1) ?_
      refine asg rfl rfl <| lz <| mv rfl rfl <| l_q rfl (qi rfl rfl (b_neq ·)) <| lc <| t_if rfl (fun p2 => ?_) fun p2 => ?_
      · exact absurd rfl p2
      · refine t_skip <| nz <| l_q rfl (qlda rfl yA98 yS98) ?_
        refine lcf rfl rfl rfl (sset_ok pa of _ l hP0.gh (by omega) 0 0 1 rfl (by decide)) ?_
        rintro v L' rfl
        refine l_nm ?_
        refine lz <| l_q rfl (qlda rfl yA98 yS98) ?_
        refine sta rfl rfl rfl yS98 rfl rfl ?_
        refine asg rfl rfl <| lc <| rt ?_
        apply f_ret (.inl rfl) ([arenaH pa (((s.take C).put (of + 32) (gN l) (encG l fun _ => .empty)).put (of + 8 * 0) 8 (byteN (IntKind.u64.wrap 1)))])
        · apply res2 rfl
          · apply Rv.agg rfl
            · exact tk
            · exact run_loadAll yA98 yS98 rfl
          · exact .tmp rfl
        · exact .inr ⟨by omega, _, rfl, rfl, hP1, newB_put hok0 hl hcb2.2 hcb2.1 hof⟩
        · exact en
end Go.Proofs.YtgijnebgchkenaaGreatDoor.Small
end
