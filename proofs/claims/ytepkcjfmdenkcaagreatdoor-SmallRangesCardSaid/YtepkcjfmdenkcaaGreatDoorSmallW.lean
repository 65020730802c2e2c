/- Contracts of package small: finding, putting, deleting. -/
import Derived.Test.YtepkcjfmdenkcaaGreatDoorSmall
set_option linter.unusedVariables false
set_option linter.unusedSimpArgs false
set_option maxRecDepth 100000
namespace Go.Proofs.YtepkcjfmdenkcaaGreatDoor.Small
open Go.RowKit Go.Proofs Go.Proofs.YtepkcjfmdenkcaaGreatDoor.Eng Go.Proofs.YtepkcjfmdenkcaaGreatDoor.Ty Go.Proofs.YtepkcjfmdenkcaaGreatDoor.Bits Go.Proofs.YtepkcjfmdenkcaaGreatDoor.Mem Go.Proofs.YtepkcjfmdenkcaaGreatDoor.Search Go.Proofs.YtepkcjfmdenkcaaGreatDoor.Arena Go.Proofs.YtepkcjfmdenkcaaGreatDoor.CtrlB Go.Proofs.YtepkcjfmdenkcaaGreatDoor.Ctrl Go.Proofs.YtepkcjfmdenkcaaGreatDoor.Layout Go.Proofs.YtepkcjfmdenkcaaGreatDoor.GroupB Go.Proofs.YtepkcjfmdenkcaaGreatDoor.Group Go.Proofs.YtepkcjfmdenkcaaGreatDoor.TableB Go.Proofs.YtepkcjfmdenkcaaGreatDoor.Table

theorem SmP.hN {s : ArS} {off : Nat} {l : Lay} {S : Sm} (h : SmP s off l S) : LayN l := layN h.hl
theorem SmP.grp {s : ArS} {off : Nat} {l : Lay} {S : Sm} (h : SmP s off l S) : goodP s ((off + 32 : Nat) : Int) l.group := by
  have := Lay.bnd h.hl
  exact goodP.sub h.gh (by omega) (by omega) (by omega)
/-- A word of the header written. -/
theorem SmP.word {s : ArS} {off : Nat} {l : Lay} {S S' : Sm} (h : SmP s off l S) {k : Nat} (hk : k < 4) {v : Int} (hb : -9223372036854775808 ≤ v ∧ v ≤ 9223372036854775807) (hv : smV S' k = v) (ho : ∀ j, j < 4 → j ≠ k → smV S' j = smV S j) (hc : S'.cells = S.cells) :
    SmP (s.put (off + 8 * k) 8 (byteN (IntKind.u64.wrap v))) off l S' := by
  refine ⟨h.hl, h.gh, fun j hj => ?_, fun j hj => ?_, ?_, by rw [hc]; exact h.okc⟩
  · rw [ArS.put_m]
    by_cases q : j = k
    · subst q
      rw [loadN_congr (m' := byteN (IntKind.u64.wrap v)) (o' := 0) fun i hi => by rw [lay_at (by omega) (by omega)]; congr 1; omega]
      rw [loadN_byteN, hv, IntKind.wrap_u64]
      omega
    · rw [ho j hj q, ← h.head j hj]
      exact loadN_congr fun i hi => by rw [lay_out]; omega
  · by_cases q : j = k
    · rw [q, hv]; exact hb
    · rw [ho j hj q]; exact h.hr j hj
  · rw [ArS.put_m, hc]
    exact GAt.out h.body (by omega)
/-- A cell written. -/
theorem SmP.cell {s : ArS} {off : Nat} {l : Lay} {S : Sm} (h : SmP s off l S) {i : Nat} (hi : i < 8) {c : Cell} (hc : c.ok l) :
    SmP (s.put (off + 32) (gN l) (encG l (updC S.cells i c))) off l { S with cells := updC S.cells i c } := by
  refine ⟨h.hl, h.gh, fun j hj => ?_, h.hr, ?_, fun j hj => ?_⟩
  · show loadN _ _ _ = IntKind.u64.wrap (smV S j)
    rw [ArS.put_m, ← h.head j hj]
    exact loadN_congr fun i hi => by rw [lay_out]; omega
  · rw [ArS.put_m]
    exact GAt.lay _
  · show (updC S.cells i c j).ok l
    unfold updC; split
    · exact hc
    · exact h.okc j hj
section
variable (G : HP) (hGT : TabOk G) (pa off : Nat) (s : ArS) (l : Lay) (S : Sm) (hP : SmP s off l S) (t : Nat) (ht : t < 128) (key : ByteArray) (hk : key.size = kN l)
include hP
theorem SCell_ok (i : Nat) (hi : i < 8) : FnOk Tryz.prog 33 #[.agg #[.pointer (some ⟨pa, 0, none⟩), .int .i64 l.key, .int .i64 l.elem, .int .i64 l.ka, .int .i64 l.ea, .int .i64 l.cap, .int .i64 l.eo, .int .i64 l.bo, .int .i64 l.slot, .int .i64 l.group, .int .i64 (off : Nat)], .int .i64 i] [arenaH pa s] (fun v L => v = .tuple #[.agg #[.int .i64 (S.cells i).kind, .int .i64 (S.cells i).tagI, .string (S.cells i).keyS, .string (S.cells i).elemS, .int .i64 (S.cells i).birthI], .int .i64 0] ∧ L = [arenaH pa s]) := by
  have hG := hP.grp
  refine fn_intro en33 Tryz.func33 rfl rfl rfl fun Fr w0 => t_nm ?_
  refine t_pure (φ := s.ok) (fun w hw => arena_ok hw .here) fun hok0 => ?_
  refine sr <| o_boxA rfl rfl fun b2 => o_allocA rfl yZ41 fun b4 => asg rfl rfl <| lc <| t_seq <| sr <| l_q rfl (qlda rfl yA39 yS39) ?_
  refine lc1 rfl rfl rfl (SStat_ok pa off s l S hP) ?_
  refine mv rfl rfl <| l_q rfl (q_extractL rfl ga) ?_
  refine l_q rfl (q_extractL rfl ga) ?_
  refine o_allocA rfl yZ49 fun b6 => sta rfl rfl rfl yS49 rfl rfl ?_
  refine asg rfl rfl <| lz <| mv rfl rfl <| l_q rfl (qi rfl rfl (b_neq ·)) <| lc <| t_if rfl (fun z => ?_) fun z => ?_
  · exact absurd rfl z
  · refine t_skip <| nz <| l_q rfl (qlda rfl yA39 yS39) ?_
    refine lc1 rfl rfl rfl (sgroup_ok pa off s l S hP hok0) ?_
    refine mv rfl rfl <| lc1 rfl rfl rfl (Cell_ok pa (off + 32) s l S.cells hP.hl hG hP.body hP.okc i hi) ?_
    refine l_q rfl (q_extractL rfl ga) ?_
    refine l_q rfl (q_extractL rfl ga) ?_
    refine sta rfl rfl rfl yS41 rfl rfl ?_
    refine asg rfl rfl <| lc <| rt ?_
    apply f_ret (.inl rfl) ([arenaH pa s])
    · apply res2 rfl
      · apply Rv.agg rfl
        · exact tk
        · exact run_loadAll yA41 yS41 rfl
      · exact .tmp rfl
    · exact ⟨rfl, rfl⟩
    · exact en
include hGT ht hk
/-- Where the key is: 8: it is not there. -/
def atS (S : Sm) (t : Nat) (key : ByteArray) : Nat := firstF (hitS S.cells t key)
def atI (S : Sm) (t : Nat) (key : ByteArray) : Int := if atS S t key = 8 then -1 else (atS S t key : Nat)
theorem sfind_ok : FnOk Tryz.prog 61 #[.agg #[.pointer (some ⟨pa, 0, none⟩), .int .i64 l.key, .int .i64 l.elem, .int .i64 l.ka, .int .i64 l.ea, .int .i64 l.cap, .int .i64 l.eo, .int .i64 l.bo, .int .i64 l.slot, .int .i64 l.group, .int .i64 (off : Nat)], .int .i64 t, .string key] [G, arenaH pa s]
    (fun v L => v = .tuple #[.agg #[.int .i64 S.used, .int .i64 S.pins, .int .i64 S.next, .bool (decide (S.kind = 3))], .int .i64 (atI S t key), .int .i64 0] ∧ L = [G, arenaH pa s]) := by
  have hG := hP.grp
  have hks : (key.size : Int) = l.key := by rw [hk]; exact hP.hN.k
  have h8 := firstF_le (hitS S.cells t key)
  refine fn_intro en61 Tryz.func61 rfl rfl rfl fun Fr w0 => t_nm ?_
  refine t_pure (φ := s.ok) (fun w hw => arena_ok hw (.there .here)) fun hok0 => ?_
  refine sr <| o_boxA rfl rfl fun b3 => o_allocA rfl yZ49 fun b6 => asg rfl rfl <| asg rfl rfl <| lz <| l_q rfl (qlda rfl yA39 yS39) ?_
  refine lc1 rfl rfl rfl (SStat_ok pa off s l S hP) ?_
  refine mv rfl rfl <| l_q rfl (q_extractL rfl ga) ?_
  refine l_q rfl (q_extractL rfl ga) ?_
  refine o_allocA rfl yZ49 fun b9 => sta rfl rfl rfl yS49 rfl rfl ?_
  refine asg rfl rfl <| lc <| t_seq <| sr <| mv rfl rfl <| l_q rfl (qi rfl rfl (b_neq ·)) <| lc <| t_if rfl (fun z => ?_) fun z => ?_
  · exact absurd rfl z
  · refine t_skip <| n_code <| t_seq <| sr <| mv rfl rfl <| l_q rfl (qls rfl yU9) <| l_q rfl (qfa 1 rfl yU39 rfl rfl yS36) <| l_q rfl (qfa 0 rfl yU36 rfl rfl yS3) <| l_q rfl (qld rfl yA3) ?_
    refine l_q rfl (qi rfl rfl (b_neq ·)) <| lc <| t_if rfl (fun y => ?_) fun y => ?_
    · omega
    · refine t_skip <| nz <| l_q rfl (qlda rfl yA39 yS39) ?_
      refine lc1 rfl rfl rfl (sgroup_ok pa off s l S hP hok0) ?_
      refine mv rfl rfl <| mv rfl rfl <| lc1 rfl rfl rfl (GFind_ok G hGT pa (off + 32) s l S.cells hP.hl hG hP.body hP.okc t ht key hk) ?_
      refine mv rfl rfl <| l_q rfl (q_extractL rfl ga) ?_
      refine l_q rfl (q_extractL rfl ga) ?_
      refine asg rfl rfl <| asg rfl rfl <| lc <| t_seq <| sr <| mv rfl rfl <| l_q rfl (qi rfl rfl (b_eql ·)) <| lc <| t_if rfl (fun x => ?_) fun x => ?_
      · refine t_region <| asg rfl rfl <| lz <| l_q rfl (qlda rfl yA49 yS49) ?_
        refine mv rfl rfl <| mv rfl rfl <| sta rfl rfl rfl yS49 rfl rfl ?_
        refine asg rfl rfl <| asg rfl rfl <| lc <| rt ?_
        apply f_ret (.inl rfl) ([G, arenaH pa s])
        · apply res3 rfl
          · apply Rv.agg rfl
            · exact tk
            · exact run_loadAll yA49 yS49 rfl
          · exact .tmp rfl
          · exact .tmp rfl
        · refine ⟨?_, rfl⟩; unfold atI atS; rw [if_pos (by omega)]
        · exact en
      · refine t_skip <| nz <| l_q rfl (qlda rfl yA49 yS49) ?_
        refine mv rfl rfl <| mv rfl rfl <| sta rfl rfl rfl yS49 rfl rfl ?_
        refine asg rfl rfl <| asg rfl rfl <| lc <| rt ?_
        apply f_ret (.inl rfl) ([G, arenaH pa s])
        · apply res3 rfl
          · apply Rv.agg rfl
            · exact tk
            · exact run_loadAll yA49 yS49 rfl
          · exact .tmp rfl
          · exact .tmp rfl
        · refine ⟨?_, rfl⟩; unfold atI atS; rw [if_neg (by omega)]
        · exact en
theorem SFind_ok : FnOk Tryz.prog 30 #[.agg #[.pointer (some ⟨pa, 0, none⟩), .int .i64 l.key, .int .i64 l.elem, .int .i64 l.ka, .int .i64 l.ea, .int .i64 l.cap, .int .i64 l.eo, .int .i64 l.bo, .int .i64 l.slot, .int .i64 l.group, .int .i64 (off : Nat)], .int .i64 t, .string key] [G, arenaH pa s]
    (fun v L => v = .tuple #[.int .i64 (atI S t key), .int .i64 0] ∧ L = [G, arenaH pa s]) := by
  refine fn_intro en30 Tryz.func30 rfl rfl rfl fun Fr w0 => t_nm ?_
  refine sr <| o_boxA rfl rfl fun b3 => asg rfl rfl <| asg rfl rfl <| lz <| l_q rfl (qlda rfl yA39 yS39) ?_
  refine mv rfl rfl <| mv rfl rfl <| lc1 rfl rfl rfl (sfind_ok G hGT pa off s l S hP t ht key hk) ?_
  refine mv rfl rfl <| l_q rfl (q_extractL rfl ga) ?_
  refine l_q rfl (q_extractL rfl ga) ?_
  refine l_q rfl (q_extractL rfl ga) ?_
  refine o_allocA rfl yZ49 fun b8 => sta rfl rfl rfl yS49 rfl rfl ?_
  exact asg rfl rfl <| asg rfl rfl <| lz <| mv rfl rfl <| mv rfl rfl <| asg rfl rfl <| asg rfl rfl <| lc <| rt <| fr2 rfl ([G, arenaH pa s]) (.tmp rfl) (.tmp rfl) ⟨rfl, rfl⟩
end
end Go.Proofs.YtepkcjfmdenkcaaGreatDoor.Small
