/- Contracts of package small: the header. -/
import Derived.Test.YtepkcjfmdenkcaaGreatDoorGroupF
import Derived.Test.YtepkcjfmdenkcaaGreatDoorTableP
set_option linter.unusedVariables false
set_option linter.unusedSimpArgs false
set_option maxRecDepth 100000
namespace Go.Proofs.YtepkcjfmdenkcaaGreatDoor.Small
open Go.RowKit Go.Proofs Go.Proofs.YtepkcjfmdenkcaaGreatDoor.Eng Go.Proofs.YtepkcjfmdenkcaaGreatDoor.Ty Go.Proofs.YtepkcjfmdenkcaaGreatDoor.Bits Go.Proofs.YtepkcjfmdenkcaaGreatDoor.Mem Go.Proofs.YtepkcjfmdenkcaaGreatDoor.Search Go.Proofs.YtepkcjfmdenkcaaGreatDoor.Arena Go.Proofs.YtepkcjfmdenkcaaGreatDoor.CtrlB Go.Proofs.YtepkcjfmdenkcaaGreatDoor.Ctrl Go.Proofs.YtepkcjfmdenkcaaGreatDoor.Layout Go.Proofs.YtepkcjfmdenkcaaGreatDoor.GroupB Go.Proofs.YtepkcjfmdenkcaaGreatDoor.Group Go.Proofs.YtepkcjfmdenkcaaGreatDoor.TableB Go.Proofs.YtepkcjfmdenkcaaGreatDoor.Table

/-- A small map as the document tells it. -/
structure Sm where
  kind : Int
  pins : Int
  next : Int
  used : Int
  cells : Nat → Cell
def smV (S : Sm) : Nat → Int
  | 0 => S.kind
  | 1 => S.pins
  | 2 => S.next
  | 3 => S.used
  | _ => 0
/-- The small map S lies in the arena s at off. -/
structure SmP (s : ArS) (off : Nat) (l : Lay) (S : Sm) : Prop where
  hl : l.err = 0
  gh : goodP s off (32 + l.group)
  head : ∀ k, k < 4 → loadN s.m (off + 8 * k) 8 = IntKind.u64.wrap (smV S k)
  hr : ∀ k, k < 4 → -9223372036854775808 ≤ smV S k ∧ smV S k ≤ 9223372036854775807
  body : GAt s.m (off + 32) l S.cells
  okc : ∀ i, i < 8 → (S.cells i).ok l
def sl4 (S : Sm) (k : Nat) : List Value := (List.range 4).map fun j => if j < k then .int .i64 (smV S j) else .int .i64 0
theorem sl4_set (S : Sm) (k : Nat) (hk : k < 4) : (sl4 S k).set k (.int .i64 (smV S k)) = sl4 S (k + 1) := by
  apply List.ext_getElem?
  intro i
  rw [List.getElem?_set]
  simp only [sl4, List.length_map, List.length_range, List.getElem?_map]
  by_cases h : i < 4
  · rw [List.getElem?_range h]
    by_cases q : k = i
    · subst q; simp [h]
    · rw [if_neg q]
      simp only [Option.map_some, Option.some.injEq]
      by_cases q2 : i < k
      · rw [if_pos q2, if_pos (by omega)]
      · rw [if_neg q2, if_neg (by omega)]
  · rw [List.getElem?_eq_none (by simpa using h)]
    simp; intro e; omega
theorem sl4_len (S : Sm) (k : Nat) : (sl4 S k).length = 4 := by simp [sl4]
section
variable (pa off : Nat) (s : ArS) (l : Lay) (S : Sm) (hP : SmP s off l S)
include hP
theorem SStat_ok : FnOk Tryz.prog 8 #[.agg #[.pointer (some ⟨pa, 0, none⟩), .int .i64 l.key, .int .i64 l.elem, .int .i64 l.ka, .int .i64 l.ea, .int .i64 l.cap, .int .i64 l.eo, .int .i64 l.bo, .int .i64 l.slot, .int .i64 l.group, .int .i64 (off : Nat)]] [arenaH pa s] (fun v L => v = .tuple #[.agg #[.int .i64 S.used, .int .i64 S.pins, .int .i64 S.next, .bool (decide (S.kind = 3))], .int .i64 0] ∧ L = [arenaH pa s]) := by
  have hbd := Lay.bnd hP.hl
  have hh := hP.head
  have hr := hP.hr
  have hg := hP.gh
  refine fn_intro en8 Tryz.func8 rfl rfl rfl fun Fr w0 => t_nm ?_
  refine t_pure (φ := s.ok) (fun w hw => arena_ok hw .here) fun hok0 => ?_
  have hge := goodP.end_le hok0 hg
  have hst0 := hok0.stop_eq
  refine sr <| o_boxA rfl rfl fun b1 => o_allocA rfl yZ49 fun b2 => asg rfl rfl <| lz <| o_allocA rfl yZ104 fun b4 => lc <| t_seq <| sr <| mv rfl rfl <| lc <| t_block ?_
  refine t_loop (fun k : Nat => k ≤ 4) (fun k => [(1, .pointer (some ⟨b1, 0, none⟩)), (2, .pointer (some ⟨b2, 0, none⟩)), (4, .pointer (some ⟨b4, 0, none⟩)), (8, .int .i64 k)]) (fun k => pt b4 (.cells (sl4 S k).toArray 104 (0, 0)) :: pt b1 (.cells #[.pointer (some ⟨pa, 0, none⟩), .int .i64 l.key, .int .i64 l.elem, .int .i64 l.ka, .int .i64 l.ea, .int .i64 l.cap, .int .i64 l.eo, .int .i64 l.bo, .int .i64 l.slot, .int .i64 l.group, .int .i64 (off : Nat)] 39 (0, 0)) :: pt b2 (.cells #[.int .i64 0, .int .i64 0, .int .i64 0, .bool false] 49 (0, 0)) :: arenaH pa s :: Fr) (fun k => 4 - k) 0 (by omega) ⟨rfl, rfl, rfl, rfl, trivial⟩ (by rw [show sl4 S 0 = [.int .i64 0, .int .i64 0, .int .i64 0, .int .i64 0] from rfl]; (exact en)) ?_
  intro k hk8
  refine sr <| l_q rfl (qi rfl rfl (b_lss ·)) <| lc <| t_seq <| t_if rfl (fun h => ?_) fun h => ?_
  · have hk : k < 4 := by omega
    refine t_skip <| n_code <| t_seq <| t_block <| sr <| mv rfl rfl <| asg rfl rfl <| lz <| l_q rfl (qfa 0 rfl yU39 rfl rfl yS34) <| l_q rfl (qld rfl yA34) ?_
    refine l_q rfl (qfa 10 rfl yU39 rfl rfl yS3) <| l_q rfl (qld rfl yA3) ?_
    refine mv rfl rfl <| l_q rfl (qmul rfl rfl) ?_
    refine l_q rfl (qadd rfl rfl) ?_
    refine lc1 rfl rfl rfl (Load_okI pa s _ 8 (off + 8 * k) 8 (by omega) rfl (by unfold wid; omega) (goodP.sub (off' := (off : Int) + 8 * (k : Int)) hg (by omega) (by omega) (by omega))) ?_
    refine mv rfl rfl <| l_q rfl (q_extractL rfl ga) ?_
    refine l_q rfl (q_extractL rfl ga) ?_
    refine asg rfl rfl <| asg rfl rfl <| lc <| t_seq <| sr <| mv rfl rfl <| l_q rfl (qi rfl rfl (b_neq ·)) <| lc <| t_if rfl (fun z => ?_) fun z => ?_
    · exact absurd rfl z
    · refine t_skip <| n_code <| t_region <| mv rfl rfl <| mv rfl rfl <| l_q rfl (qcv rfl yU24 yU3) ?_
      refine l_q rfl (q_indexAddrA rfl rfl yU104 yS3 (by omega)) ?_
      apply o_store rfl rfl rfl yS3 rfl
      · exact tk
      · rw [Nat.zero_add, Int.toNat_natCast, Nat.mul_one]; exact Nat.ble_eq_true_of_le (by simp [sl4_len]; omega)
      · rw [Nat.zero_add, Int.toNat_natCast, Nat.mul_one, hh k hk, wrap_back (hr k hk), List.setIfInBounds_toArray, sl4_set S k hk]
      refine l_nil <| n_blk <| n_code <| t_region <| l_q rfl (qadd rfl rfl) ?_
      refine mv rfl rfl <| l_nil ?_
      apply n_again ((k + 1))
      · exact (show k + 1 ≤ 4 by omega)
      · omega
      · exact ⟨rfl, rfl, rfl, rfl, trivial⟩
      · exact en
  · obtain rfl : k = 4 := by omega
    refine t_ent (L' := pt b4 (.cells #[.int .i64 S.kind, .int .i64 S.pins, .int .i64 S.next, .int .i64 S.used] 104 (0, 0)) :: pt b2 (.cells #[.int .i64 0, .int .i64 0, .int .i64 0, .bool false] 49 (0, 0)) :: arenaH pa s :: Fr) ?_ ?_
    · rw [show sl4 S 4 = [.int .i64 S.kind, .int .i64 S.pins, .int .i64 S.next, .int .i64 S.used] from rfl]
      (exact en)
    refine xt rfl <| nz <| l_q rfl (q_indexAddrA rfl rfl yU104 yS3 (by omega)) ?_
    refine l_q rfl (qld rfl yA3) ?_
    refine l_q rfl (q_indexAddrA rfl rfl yU104 yS3 (by omega)) ?_
    refine l_q rfl (qld rfl yA3) ?_
    refine l_q rfl (q_indexAddrA rfl rfl yU104 yS3 (by omega)) ?_
    refine l_q rfl (qld rfl yA3) ?_
    refine l_q rfl (q_indexAddrA rfl rfl yU104 yS3 (by omega)) ?_
    refine l_q rfl (qld rfl yA3) ?_
    refine l_q rfl (qi rfl rfl (b_eql ·)) ?_
    apply l_q rfl
    · apply q_buildS rfl yP49 yZ49
      · apply FillR.one
        · repeat (first | exact PlAt.here | apply PlAt.there)
        · rfl
        · exact sa
        apply FillR.one
        · repeat (first | exact PlAt.here | apply PlAt.there)
        · rfl
        · exact sa
        apply FillR.one
        · repeat (first | exact PlAt.here | apply PlAt.there)
        · rfl
        · exact sa
        apply FillR.one
        · repeat (first | exact PlAt.here | apply PlAt.there)
        · rfl
        · exact sa
        exact FillR.nil
    refine sta rfl rfl rfl yS49 rfl rfl ?_
    refine asg rfl rfl <| lc <| rt ?_
    apply f_ret (.inl rfl) ([arenaH pa s])
    · apply res2 rfl
      · apply Rv.agg rfl
        · exact tk
        · exact run_loadAll yA49 yS49 rfl
      · exact .tmp rfl
    · exact ⟨rfl, rfl⟩
    · exact en
omit hP in
theorem sset_ok (hg : goodP s off (32 + l.group)) (hgr : 0 ≤ l.group) (k : Nat) (at_ : Int) (v : Int) (hat : at_ = ((8 * k : Nat) : Int)) (hk : k < 4) :
    FnOk Tryz.prog 59 #[.agg #[.pointer (some ⟨pa, 0, none⟩), .int .i64 l.key, .int .i64 l.elem, .int .i64 l.ka, .int .i64 l.ea, .int .i64 l.cap, .int .i64 l.eo, .int .i64 l.bo, .int .i64 l.slot, .int .i64 l.group, .int .i64 (off : Nat)], .int .i64 at_, .int .i64 v] [arenaH pa s] (fun r L => L = [arenaH pa (s.put (off + 8 * k) 8 (byteN (IntKind.u64.wrap v)))]) := by
  subst hat
  refine fn_intro en59 Tryz.func59 rfl rfl rfl fun Fr w0 => t_nm ?_
  refine t_pure (φ := s.ok) (fun w hw => arena_ok hw .here) fun hok0 => ?_
  have hge := goodP.end_le hok0 hg
  have hst0 := hok0.stop_eq
  have hw : ∀ x, 0 ≤ IntKind.u64.wrap x ∧ IntKind.u64.wrap x < 18446744073709551616 := fun x => by rw [IntKind.wrap_u64]; omega
  have hc : ∀ w, (convert 3 24 (.int .i64 v)).run Tryz.prog w = .ok (.int .u64 (IntKind.u64.wrap v)) w := fun w => c_int w Tryz.underlying3 Tryz.underlying24
  refine sr <| o_boxA rfl rfl fun b3 => lr <| l_q rfl (qfa 0 rfl yU39 rfl rfl yS34) <| l_q rfl (qld rfl yA34) ?_
  refine l_q rfl (qfa 10 rfl yU39 rfl rfl yS3) <| l_q rfl (qld rfl yA3) ?_
  refine mv rfl rfl <| l_q rfl (qadd rfl rfl) ?_
  refine mv rfl rfl <| l_q rfl (q_conv rfl hc) ?_
  refine lcf rfl rfl rfl (Store_okI pa s _ 8 (off + 8 * k) 8 (IntKind.u64.wrap v) (by omega) rfl (hw v) (by unfold wid; omega) (goodP.sub (off' := (off : Int) + ((8 * k : Nat) : Int)) hg (by omega) (by omega) (by omega))) ?_
  rintro v' L' ⟨rfl, rfl⟩
  refine l_nm ?_
  refine l_nil ?_
  apply f_ret (.inr rfl) ([arenaH pa (s.put (off + 8 * k) 8 (byteN (IntKind.u64.wrap v)))])
  · exact res0 rfl
  · exact rfl
  · exact en
theorem sgroup_ok (hok0 : s.ok) : FnOk Tryz.prog 57 #[.agg #[.pointer (some ⟨pa, 0, none⟩), .int .i64 l.key, .int .i64 l.elem, .int .i64 l.ka, .int .i64 l.ea, .int .i64 l.cap, .int .i64 l.eo, .int .i64 l.bo, .int .i64 l.slot, .int .i64 l.group, .int .i64 (off : Nat)]] [] (fun v L => v = .agg #[.pointer (some ⟨pa, 0, none⟩), .int .i64 l.key, .int .i64 l.elem, .int .i64 l.ka, .int .i64 l.ea, .int .i64 l.cap, .int .i64 l.eo, .int .i64 l.bo, .int .i64 l.slot, .int .i64 l.group, .int .i64 ((off + 32 : Nat) : Int)] ∧ L = []) := by
  have hbd := Lay.bnd hP.hl
  have hge := goodP.end_le hok0 hP.gh
  have hst0 := hok0.stop_eq
  refine fn_intro en57 Tryz.func57 rfl rfl rfl fun Fr w0 => t_nm ?_
  refine sr <| o_boxA rfl rfl fun b1 => o_allocA rfl yZ112 fun b2 => lz <| l_q rfl (qfa 0 rfl yU39 rfl rfl yS34) <| l_q rfl (qld rfl yA34) ?_
  refine l_q rfl (qfa 1 rfl yU39 rfl rfl yS36) <| l_q rfl (qlda rfl yA36 yS36) ?_
  refine l_q rfl (qfa 10 rfl yU39 rfl rfl yS3) <| l_q rfl (qld rfl yA3) ?_
  refine l_q rfl (qadd rfl rfl) ?_
  rw [show ((off : Nat) : Int) + 32 = ((off + 32 : Nat) : Int) by omega]
  refine lc1 rfl rfl rfl (At_ok pa _ l) ?_
  refine sta rfl rfl rfl yS112 rfl rfl ?_
  refine lc <| rt ?_
  apply f_ret (.inl rfl) ([])
  · apply res1 rfl
    · apply Rv.agg rfl
      · exact tk
      · exact run_loadAll yA112 yS112 rfl
  · exact ⟨rfl, rfl⟩
  · exact en
end
end Go.Proofs.YtepkcjfmdenkcaaGreatDoor.Small
