import Derived.Test.YtmdangoaomppdaaGreatDoorTableI
import Derived.Test.YtmdangoaomppdaaGreatDoorGroup
import Derived.Test.YtmdangoaomppdaaGreatDoorSmallN
section
/- Cells as values: eight in an array, the full ones of a row. No program's code. -/
set_option linter.unusedVariables false
set_option linter.unusedSimpArgs false
set_option maxRecDepth 100000
namespace Go.Proofs.YtmdangoaomppdaaGreatDoor.Cells
open Go.RowKit Go.Proofs Go.Proofs.YtmdangoaomppdaaGreatDoor.Eng Go.Proofs.YtmdangoaomppdaaGreatDoor.Bits Go.Proofs.YtmdangoaomppdaaGreatDoor.GroupB Go.Proofs.YtmdangoaomppdaaGreatDoor.Group Go.Proofs.YtmdangoaomppdaaGreatDoor.TableB Go.Proofs.YtmdangoaomppdaaGreatDoor.TableI

def cellV (c : Cell) : List Value := [.int .i64 c.kind, .int .i64 c.tagI, .string c.keyS, .string c.elemS, .int .i64 c.birthI]
theorem lt8 {j : Nat} (h : j < 8) : j = 0 ∨ j = 1 ∨ j = 2 ∨ j = 3 ∨ j = 4 ∨ j = 5 ∨ j = 6 ∨ j = 7 := by omega
abbrev arr8 (cs : Nat → Cell) : List Value := [.int .i64 (cs 0).kind, .int .i64 (cs 0).tagI, .string (cs 0).keyS, .string (cs 0).elemS, .int .i64 (cs 0).birthI,
  .int .i64 (cs 1).kind, .int .i64 (cs 1).tagI, .string (cs 1).keyS, .string (cs 1).elemS, .int .i64 (cs 1).birthI,
  .int .i64 (cs 2).kind, .int .i64 (cs 2).tagI, .string (cs 2).keyS, .string (cs 2).elemS, .int .i64 (cs 2).birthI,
  .int .i64 (cs 3).kind, .int .i64 (cs 3).tagI, .string (cs 3).keyS, .string (cs 3).elemS, .int .i64 (cs 3).birthI,
  .int .i64 (cs 4).kind, .int .i64 (cs 4).tagI, .string (cs 4).keyS, .string (cs 4).elemS, .int .i64 (cs 4).birthI,
  .int .i64 (cs 5).kind, .int .i64 (cs 5).tagI, .string (cs 5).keyS, .string (cs 5).elemS, .int .i64 (cs 5).birthI,
  .int .i64 (cs 6).kind, .int .i64 (cs 6).tagI, .string (cs 6).keyS, .string (cs 6).elemS, .int .i64 (cs 6).birthI,
  .int .i64 (cs 7).kind, .int .i64 (cs 7).tagI, .string (cs 7).keyS, .string (cs 7).elemS, .int .i64 (cs 7).birthI]
theorem arr8_part {cs : Nat → Cell} {i : Int} {j : Nat} (hi : i = (j : Nat)) (hj : j < 8) : (arr8 cs).toArray.extract (i.toNat * 5) (i.toNat * 5 + 5) = #[.int .i64 (cs j).kind, .int .i64 (cs j).tagI, .string (cs j).keyS, .string (cs j).elemS, .int .i64 (cs j).birthI] := by
  subst hi
  rw [Int.toNat_natCast]
  rcases lt8 hj with rfl | rfl | rfl | rfl | rfl | rfl | rfl | rfl <;> rfl
theorem arr8_part0 {cs : Nat → Cell} {i : Int} {j : Nat} (hi : i = (j : Nat)) (hj : j < 8) : (arr8 cs).toArray.extract (0 + i.toNat * 5) (0 + i.toNat * 5 + 5) = #[.int .i64 (cs j).kind, .int .i64 (cs j).tagI, .string (cs j).keyS, .string (cs j).elemS, .int .i64 (cs j).birthI] := by
  rw [Nat.zero_add]; exact arr8_part hi hj
theorem arr8_put {cs : Nat → Cell} {i : Int} {j : Nat} (hi : i = (j : Nat)) (hj : j < 8) (c : Cell) : setCells (arr8 cs).toArray (0 + i.toNat * 5) (cellV c) = (arr8 (updC cs j c)).toArray := by
  subst hi
  rw [Int.toNat_natCast]
  rcases lt8 hj with rfl | rfl | rfl | rfl | rfl | rfl | rfl | rfl <;> simp only [setCells, cellV, arr8, List.setIfInBounds_toArray, List.set, updC, Nat.zero_add, Nat.zero_mul, Nat.add_zero, Nat.reduceMul, Nat.reduceAdd, Nat.reduceEqDiff, if_true, if_false, ↓reduceIte]
theorem arr8_in {cs : Nat → Cell} {i : Int} {j n : Nat} (hi : i = (j : Nat)) (hj : j < 8) (hn : n ≤ 5) : Nat.ble (0 + i.toNat * 5 + n) (arr8 cs).toArray.size = true := Nat.ble_eq_true_of_le (by
  subst hi; rw [Int.toNat_natCast]; show _ ≤ 40; omega)
theorem arr8_get {cs : Nat → Cell} {i : Int} {j : Nat} (hi : i = (j : Nat)) (hj : j < 8) {m : Nat} {v : Value} (h : (cellV (cs j))[m]? = some v) : (arr8 cs).toArray[0 + i.toNat * 5 + m]? = some v := by
  subst hi
  rw [Int.toNat_natCast]
  have hm : m < 5 := by have := (List.getElem?_eq_some_iff.1 h).1; simpa [cellV] using this
  have hm' : m = 0 ∨ m = 1 ∨ m = 2 ∨ m = 3 ∨ m = 4 := by omega
  rcases lt8 hj with rfl | rfl | rfl | rfl | rfl | rfl | rfl | rfl <;> rcases hm' with rfl | rfl | rfl | rfl | rfl <;> exact h
theorem kind_full {c : Cell} : c.kind = 2 ↔ isFull c = true := by cases c <;> simp [Cell.kind, isFull]
/-- The first j of eight. -/
def fstC (cs : Nat → Cell) (j : Nat) : Nat → Cell := fun i => if i < j then cs i else .empty
theorem fstC_next (cs : Nat → Cell) (j : Nat) : updC (fstC cs j) j (cs j) = fstC cs (j + 1) := by
  funext i
  unfold updC fstC
  by_cases q : i = j
  · subst q; simp
  · by_cases r : i < j
    · simp [q, r, show i < j + 1 by omega]
    · simp [q, r, show ¬ i < j + 1 by omega]
theorem arr8_all (cs : Nat → Cell) : (arr8 (fstC cs 8)).toArray.extract 0 (0 + 40) = (arr8 cs).toArray := by
  have e : arr8 (fstC cs 8) = arr8 cs := by simp [fstC]
  rw [e]
  exact Array.extract_size
theorem arr8_set (cs : Nat → Cell) : setCells (arr8 fun _ => .empty).toArray 0 (arr8 cs) = (arr8 cs).toArray := by
  simp only [setCells, arr8, List.setIfInBounds_toArray, List.set, Nat.zero_add, Nat.reduceAdd]
/-- The full cells of the first N, as an iterator hands them over. -/
def cellsV (cs : Nat → Cell) (N : Nat) : List (List Value) := ((List.range N).filter fun i => isFull (cs i)).map fun i => [.int .i64 (i : Nat), .agg #[.int .i64 (cs i).kind, .int .i64 (cs i).tagI, .string (cs i).keyS, .string (cs i).elemS, .int .i64 (cs i).birthI]]
theorem filt_get (p : Nat → Bool) : ∀ {N i : Nat}, i < N → p i = true → ((List.range N).filter p)[(List.range i).countP p]? = some i
  | 0, i, h, _ => by omega
  | N + 1, i, h, hp => by
    rw [List.range_succ, List.filter_append]
    by_cases q : i = N
    · subst q
      rw [List.countP_eq_length_filter, List.getElem?_append_right (Nat.le_refl _), Nat.sub_self]
      simp [hp]
    · have ih := filt_get p (N := N) (i := i) (by omega) hp
      rw [List.getElem?_append_left (List.getElem?_eq_some_iff.1 ih).1]
      exact ih
theorem cellsV_len (cs : Nat → Cell) (N : Nat) : (cellsV cs N).length = cnt isFull cs N := by
  unfold cellsV cnt
  rw [List.length_map, List.countP_eq_length_filter]
theorem cellsV_get {cs : Nat → Cell} {N i : Nat} (hi : i < N) (h : isFull (cs i) = true) : (cellsV cs N)[cnt isFull cs i]? = some [.int .i64 (i : Nat), .agg #[.int .i64 (cs i).kind, .int .i64 (cs i).tagI, .string (cs i).keyS, .string (cs i).elemS, .int .i64 (cs i).birthI]] := by
  unfold cellsV cnt
  rw [List.getElem?_map, filt_get (fun i => isFull (cs i)) hi h]; rfl
theorem cellsV_two {cs : Nat → Cell} {N : Nat} : ∀ x ∈ cellsV cs N, x.length = 2 := fun x hx => by
  unfold cellsV at hx
  obtain ⟨i, _, rfl⟩ := List.mem_map.1 hx
  rfl
theorem cellsV_at {cs : Nat → Cell} {N k : Nat} {x : List Value} (h : (cellsV cs N)[k]? = some x) : ∃ i, i < N ∧ isFull (cs i) = true ∧ cnt isFull cs i = k ∧ x = [.int .i64 (i : Nat), .agg #[.int .i64 (cs i).kind, .int .i64 (cs i).tagI, .string (cs i).keyS, .string (cs i).elemS, .int .i64 (cs i).birthI]] := by
  have hk := (List.getElem?_eq_some_iff.1 h).1
  unfold cellsV at h
  rw [List.getElem?_map, Option.map_eq_some_iff] at h
  obtain ⟨i, hi, rfl⟩ := h
  have hm := List.mem_of_getElem? hi
  rw [List.mem_filter, List.mem_range] at hm
  refine ⟨i, hm.1, hm.2, ?_, rfl⟩
  have h2 := filt_get (fun i => isFull (cs i)) hm.1 hm.2
  have hk2 : k < ((List.range N).filter fun i => isFull (cs i)).length := (List.getElem?_eq_some_iff.1 hi).1
  have hnd : ((List.range N).filter fun i => isFull (cs i)).Nodup := List.Nodup.sublist List.filter_sublist List.nodup_range
  exact (List.getElem?_inj (List.getElem?_eq_some_iff.1 h2).1 hnd).1 (h2.trans hi.symm)
theorem cnt_mono {p : Cell → Bool} {cs : Nat → Cell} {i j : Nat} (h : i ≤ j) : cnt p cs i ≤ cnt p cs j := by
  induction j with
  | zero => rw [Nat.le_zero.1 h]; exact Nat.le_refl _
  | succ j ih =>
    by_cases q : i = j + 1
    · rw [q]; exact Nat.le_refl _
    · have := ih (by omega)
      rw [cnt_succ]; omega
end Go.Proofs.YtmdangoaomppdaaGreatDoor.Cells
end
section
/- Contracts of package small: Cells, a range over the full slots. -/
set_option linter.unusedVariables false
set_option linter.unusedSimpArgs false
set_option maxRecDepth 100000
namespace Go.Proofs.YtmdangoaomppdaaGreatDoor.Small
open Go.RowKit Go.Proofs Go.Proofs.YtmdangoaomppdaaGreatDoor.Eng Go.Proofs.YtmdangoaomppdaaGreatDoor.Ty Go.Proofs.YtmdangoaomppdaaGreatDoor.Bits Go.Proofs.YtmdangoaomppdaaGreatDoor.Mem Go.Proofs.YtmdangoaomppdaaGreatDoor.Search Go.Proofs.YtmdangoaomppdaaGreatDoor.Arena Go.Proofs.YtmdangoaomppdaaGreatDoor.CtrlB Go.Proofs.YtmdangoaomppdaaGreatDoor.Ctrl Go.Proofs.YtmdangoaomppdaaGreatDoor.Layout Go.Proofs.YtmdangoaomppdaaGreatDoor.GroupB Go.Proofs.YtmdangoaomppdaaGreatDoor.Group Go.Proofs.YtmdangoaomppdaaGreatDoor.TableB Go.Proofs.YtmdangoaomppdaaGreatDoor.TableI Go.Proofs.YtmdangoaomppdaaGreatDoor.Table Go.Proofs.YtmdangoaomppdaaGreatDoor.Cells

theorem SCells_ok (pa off : Nat) (l : Lay) : FnOk Tryz.prog 62 #[.agg #[.pointer (some ⟨pa, 0, none⟩), .int .i64 l.key, .int .i64 l.elem, .int .i64 l.ka, .int .i64 l.ea, .int .i64 l.cap, .int .i64 l.eo, .int .i64 l.bo, .int .i64 l.slot, .int .i64 l.group, .int .i64 (off : Nat)]] [] (fun v L => ∃ bc, v = .func (.func 109) #[] #[.pointer (some ⟨bc, 0, none⟩)] ∧ L = [pt bc (.cells #[.pointer (some ⟨pa, 0, none⟩), .int .i64 l.key, .int .i64 l.elem, .int .i64 l.ka, .int .i64 l.ea, .int .i64 l.cap, .int .i64 l.eo, .int .i64 l.bo, .int .i64 l.slot, .int .i64 l.group, .int .i64 (off : Nat)] 64 (0, 0))]) := by
  refine fn_intro en62 Tryz.func62 rfl rfl rfl fun Fr w0 => t_nm ?_
  exact sr <| o_boxA rfl rfl fun b1 => asg rfl rfl <| lz <| l_q rfl (q_makeFunc rfl rfl) <| asg rfl rfl <| lc <| rt <| fr1 rfl ([pt b1 (.cells #[.pointer (some ⟨pa, 0, none⟩), .int .i64 l.key, .int .i64 l.elem, .int .i64 l.ka, .int .i64 l.ea, .int .i64 l.cap, .int .i64 l.eo, .int .i64 l.bo, .int .i64 l.slot, .int .i64 l.group, .int .i64 (off : Nat)] 64 (0, 0))]) (.tmp rfl) ⟨b1, rfl, rfl⟩
theorem SCells_itS (pa off bc : Nat) (s : ArS) (l : Lay) (S : Sm) (hP : SmP s off l S) : IterH Tryz.prog 109 #[.pointer (some ⟨bc, 0, none⟩)] [pt bc (.cells #[.pointer (some ⟨pa, 0, none⟩), .int .i64 l.key, .int .i64 l.elem, .int .i64 l.ka, .int .i64 l.ea, .int .i64 l.cap, .int .i64 l.eo, .int .i64 l.bo, .int .i64 l.slot, .int .i64 l.group, .int .i64 (off : Nat)] 64 (0, 0))] [arenaH pa s] (cellsV S.cells 8) [pt bc (.cells #[.pointer (some ⟨pa, 0, none⟩), .int .i64 l.key, .int .i64 l.elem, .int .i64 l.ka, .int .i64 l.ea, .int .i64 l.cap, .int .i64 l.eo, .int .i64 l.bo, .int .i64 l.slot, .int .i64 l.group, .int .i64 (off : Nat)] 64 (0, 0))] [pt bc (.cells #[.pointer (some ⟨pa, 0, none⟩), .int .i64 l.key, .int .i64 l.elem, .int .i64 l.ka, .int .i64 l.ea, .int .i64 l.cap, .int .i64 l.eo, .int .i64 l.bo, .int .i64 l.slot, .int .i64 l.group, .int .i64 (off : Nat)] 64 (0, 0))] := by
  refine ⟨en109, fun l' B S' C hC hY => ?_⟩
  show FnOk _ _ #[.func (.yield l') #[] #[], .pointer (some ⟨bc, 0, none⟩)] _ _
  refine fn_intro en109 Tryz.func109 rfl rfl rfl fun Fr w0 => t_nm ?_
  refine sr <| o_allocA rfl yZ67 fun b3 => lc <| t_seq <| sr <| mv rfl rfl <| lc <| t_block ?_
  refine t_loop (fun i : Nat => i ≤ 8) (fun i => [(0, .func (.yield l') #[] #[]), (1, .pointer (some ⟨bc, 0, none⟩)), (3, .pointer (some ⟨b3, 0, none⟩)), (9, .int .i64 (i : Nat))]) (fun i => pt b3 (.cells (arr8 (fstC S.cells i)).toArray 67 (0, 0)) :: pt bc (.cells #[.pointer (some ⟨pa, 0, none⟩), .int .i64 l.key, .int .i64 l.elem, .int .i64 l.ka, .int .i64 l.ea, .int .i64 l.cap, .int .i64 l.eo, .int .i64 l.bo, .int .i64 l.slot, .int .i64 l.group, .int .i64 (off : Nat)] 64 (0, 0)) :: arenaH pa s :: (C ++ Fr)) (fun i => 8 - i) 0 (by decide) ⟨rfl, rfl, rfl, rfl, trivial⟩ (by (exact en)) ?_
  intro i hi
  refine sr <| l_q rfl (qi rfl rfl (b_lss ·)) <| lc <| t_seq <| t_if rfl (fun h => ?_) fun h => ?_
  · have hi8 : i < 8 := by omega
    refine t_skip <| n_code <| t_seq <| t_block <| sr <| mv rfl rfl <| asg rfl rfl <| lz <| l_q rfl (qlda rfl yA64 yS64) ?_
    refine mv rfl rfl <| lc1 rfl rfl rfl (SCell_ok pa off s l S hP i hi8) ?_
    refine mv rfl rfl <| l_q rfl (q_extractL rfl ga) ?_
    refine l_q rfl (q_extractL rfl ga) ?_
    refine o_allocA rfl yZ66 fun b5 => sta rfl rfl rfl yS66 rfl rfl ?_
    refine asg rfl rfl <| lc <| t_seq <| sr <| mv rfl rfl <| l_q rfl (qi rfl rfl (b_neq ·)) <| lc <| t_if rfl (fun z => ?_) fun z => ?_
    · exact absurd rfl z
    · refine t_skip <| n_code <| t_region <| mv rfl rfl <| l_q rfl (qlda rfl yA66 yS66) ?_
      refine l_q rfl (q_indexAddrA rfl rfl yU67 yS66 (by omega)) ?_
      apply o_storeAgg rfl rfl rfl yS66 rfl rfl
      · exact tk
      · exact arr8_in rfl hi8 (Nat.le_refl _)
      · exact (arr8_put rfl hi8 (S.cells i)).trans (by rw [fstC_next])
      refine l_nil <| n_blk <| n_code <| t_region <| l_q rfl (qadd rfl rfl) ?_
      refine mv rfl rfl <| l_nil ?_
      apply n_again ((i + 1))
      · exact (show i + 1 ≤ 8 by omega)
      · omega
      · exact ⟨rfl, rfl, rfl, rfl, trivial⟩
      · exact en
  · obtain rfl : i = 8 := by omega
    refine xt rfl <| nz <| l_q rfl (q_loadAgg rfl yA67 yS67 tk rfl (arr8_all S.cells)) ?_
    refine mv rfl rfl <| lc <| t_block ?_
    refine t_weaken (E' := [(0, .func (.yield l') #[] #[]), (1, .pointer (some ⟨bc, 0, none⟩)), (24, .agg (arr8 S.cells).toArray), (25, .int .i64 0)]) (L' := B 0 :: pt bc (.cells #[.pointer (some ⟨pa, 0, none⟩), .int .i64 l.key, .int .i64 l.elem, .int .i64 l.ka, .int .i64 l.ea, .int .i64 l.cap, .int .i64 l.eo, .int .i64 l.bo, .int .i64 l.slot, .int .i64 l.group, .int .i64 (off : Nat)] 64 (0, 0)) :: Fr) ⟨rfl, rfl, rfl, rfl, trivial⟩ (fun w hw => ?_) ?_
    · exact hC _ _ (hw.tail.perm (by simpa using List.perm_append_comm_assoc [pt bc (.cells #[.pointer (some ⟨pa, 0, none⟩), .int .i64 l.key, .int .i64 l.elem, .int .i64 l.ka, .int .i64 l.ea, .int .i64 l.cap, .int .i64 l.eo, .int .i64 l.bo, .int .i64 l.slot, .int .i64 l.group, .int .i64 (off : Nat)] 64 (0, 0))] (arenaH pa s :: C) Fr))
    refine t_loop (fun i : Nat => i ≤ 8) (fun i => [(0, .func (.yield l') #[] #[]), (24, .agg (arr8 S.cells).toArray), (25, .int .i64 (i : Nat))]) (fun i => B (cnt isFull S.cells i) :: pt bc (.cells #[.pointer (some ⟨pa, 0, none⟩), .int .i64 l.key, .int .i64 l.elem, .int .i64 l.ka, .int .i64 l.ea, .int .i64 l.cap, .int .i64 l.eo, .int .i64 l.bo, .int .i64 l.slot, .int .i64 l.group, .int .i64 (off : Nat)] 64 (0, 0)) :: Fr) (fun i => 8 - i) 0 (by decide) ⟨rfl, rfl, rfl, trivial⟩ (Ent.refl _) ?_
    intro i hi
    have hcs := cnt_succ isFull S.cells i
    refine sr <| l_q rfl (qi rfl rfl (b_lss ·)) <| lc <| t_seq <| t_if rfl (fun h => ?_) fun h => ?_
    · skip
      have hi8 : i < 8 := by omega
      refine t_skip <| n_code <| t_seq <| t_block <| sr <| mv rfl rfl <| l_q rfl (q_indexArr rfl rfl Tryz.underlying67 yA66 yS66 (by omega) (arr8_part rfl hi8)) ?_
      refine o_allocA rfl yZ66 fun b8 => asg rfl rfl <| sta rfl rfl rfl yS66 rfl rfl ?_
      refine lz <| l_q rfl (qfa 0 rfl yU66 rfl rfl yS3) <| l_q rfl (qld rfl yA3) ?_
      refine l_q rfl (qi rfl rfl (b_eql ·)) <| mv rfl rfl <| l_pt (t := 32) rfl (fun x => ?_) fun x => ?_
      · refine l_on rfl rfl <| mv rfl rfl <| l_on rfl rfl <| mv rfl rfl <| l_on rfl rfl <| l_q rfl (qlda rfl yA66 yS66) ?_
        refine l_on rfl rfl ?_
        have hf := kind_full.1 x
        apply l_yield rfl rfl rfl ((hY _ _ (cellsV_get hi8 hf)))
        · exact pk
        · exact pk
        rintro b L' (⟨rfl, rfl⟩ | ⟨rfl, rfl⟩)
        · refine l_nm ?_
          refine l_on rfl rfl <| l_q rfl (q_un rfl (u_not ·)) <| l_q rfl (q_pk rfl rfl) <| lc <| t_cond_f rfl <| t_skip <| n_blk <| n_code <| t_region <| l_q rfl (qadd rfl rfl) ?_
          refine mv rfl rfl <| l_nil ?_
          rw [hf, if_pos rfl] at hcs
          rw [← hcs]
          apply n_again ((i + 1))
          · exact (show i + 1 ≤ 8 by omega)
          · omega
          · exact ⟨rfl, rfl, rfl, trivial⟩
          · exact en
        · refine l_nm ?_
          refine l_on rfl rfl <| l_q rfl (q_un rfl (u_not ·)) <| l_q rfl (q_pk rfl rfl) <| lc <| t_cond_t rfl <| rt ?_
          apply f_ret (.inl rfl) (_)
          · exact res0 rfl
          · exact .inr ⟨cnt isFull S.cells i, by rw [cellsV_len]; have := cnt_mono (p := isFull) (cs := S.cells) (show i + 1 ≤ 8 by omega); rw [hcs, hf, if_pos rfl] at this; omega, rfl⟩
          · exact en
      · refine l_off rfl rfl rfl rfl <| l_off rfl rfl rfl rfl <| l_off rfl rfl rfl rfl <| l_off rfl rfl rfl rfl <| l_off rfl rfl rfl rfl <| l_q rfl (q_pk rfl rfl) <| lc <| t_cond_f rfl <| t_skip <| n_blk <| n_code <| t_region <| l_q rfl (qadd rfl rfl) ?_
        refine mv rfl rfl <| l_nil ?_
        have hf : ¬ isFull (S.cells i) = true := fun e => x (kind_full.2 e)
        rw [if_neg hf] at hcs
        rw [show cnt isFull S.cells i = cnt isFull S.cells (i + 1) by omega]
        apply n_again ((i + 1))
        · exact (show i + 1 ≤ 8 by omega)
        · omega
        · exact ⟨rfl, rfl, rfl, trivial⟩
        · exact en
    · obtain rfl : i = 8 := by omega
      refine xt rfl ?_
      apply f_ret (.inr rfl) (_)
      · exact res0 rfl
      · exact .inl (by rw [cellsV_len])
      · exact en
theorem SCells_it (pa off bc : Nat) (s : ArS) (l : Lay) (S : Sm) (hP : SmP s off l S) : IterH Tryz.prog 109 #[.pointer (some ⟨bc, 0, none⟩)] [pt bc (.cells #[.pointer (some ⟨pa, 0, none⟩), .int .i64 l.key, .int .i64 l.elem, .int .i64 l.ka, .int .i64 l.ea, .int .i64 l.cap, .int .i64 l.eo, .int .i64 l.bo, .int .i64 l.slot, .int .i64 l.group, .int .i64 (off : Nat)] 64 (0, 0))] [arenaH pa s] (cellsV S.cells 8) [pt bc (.cells #[.pointer (some ⟨pa, 0, none⟩), .int .i64 l.key, .int .i64 l.elem, .int .i64 l.ka, .int .i64 l.ea, .int .i64 l.cap, .int .i64 l.eo, .int .i64 l.bo, .int .i64 l.slot, .int .i64 l.group, .int .i64 (off : Nat)] 64 (0, 0))] := (SCells_itS pa off bc s l S hP).plain
end Go.Proofs.YtmdangoaomppdaaGreatDoor.Small
end
