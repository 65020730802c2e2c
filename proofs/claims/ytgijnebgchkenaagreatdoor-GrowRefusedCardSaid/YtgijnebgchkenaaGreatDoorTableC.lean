import Derived.Test.YtgijnebgchkenaaGreatDoorTableW
import Derived.Test.YtgijnebgchkenaaGreatDoorRefill
import Derived.Test.YtgijnebgchkenaaGreatDoorEngTail
/- Contracts of package table: Cells, a range over the full slots. -/
set_option linter.unusedVariables false
set_option linter.unusedSimpArgs false
set_option maxRecDepth 100000
namespace Go.Proofs.YtgijnebgchkenaaGreatDoor.Table
open Go.RowKit Go.Proofs Go.Proofs.YtgijnebgchkenaaGreatDoor.Eng Go.Proofs.YtgijnebgchkenaaGreatDoor.Ty Go.Proofs.YtgijnebgchkenaaGreatDoor.Bits Go.Proofs.YtgijnebgchkenaaGreatDoor.Mem Go.Proofs.YtgijnebgchkenaaGreatDoor.Search Go.Proofs.YtgijnebgchkenaaGreatDoor.Arena Go.Proofs.YtgijnebgchkenaaGreatDoor.CtrlB Go.Proofs.YtgijnebgchkenaaGreatDoor.Ctrl Go.Proofs.YtgijnebgchkenaaGreatDoor.Layout Go.Proofs.YtgijnebgchkenaaGreatDoor.GroupB Go.Proofs.YtgijnebgchkenaaGreatDoor.Group Go.Proofs.YtgijnebgchkenaaGreatDoor.Probe Go.Proofs.YtgijnebgchkenaaGreatDoor.TableB Go.Proofs.YtgijnebgchkenaaGreatDoor.TableI Go.Proofs.YtgijnebgchkenaaGreatDoor.Cells

/-- The first cells of a table. -/
def firstL (cs : Nat → Cell) (i : Nat) : List Cell := (List.range i).map cs
theorem firstL_get {cs : Nat → Cell} {i j : Nat} (h : j < i) : (firstL cs i)[j]? = some (cs j) := by simp [firstL, h]
theorem firstL_next (cs : Nat → Cell) (i : Nat) : rowOf cellV (firstL cs i) ++ cellV (cs i) = rowOf cellV (firstL cs (i + 1)) := by
  unfold firstL; rw [List.range_succ, List.map_append, rowOf_app]; simp [rowOf]
theorem cellV5 (c : Cell) : (cellV c).length = 5 := rfl
theorem TCells_ok (pa off : Nat) (l : Lay) : FnOk Tryz.prog 87 #[.agg #[.pointer (some ⟨pa, 0, none⟩), .int .i64 l.key, .int .i64 l.elem, .int .i64 l.ka, .int .i64 l.ea, .int .i64 l.cap, .int .i64 l.eo, .int .i64 l.bo, .int .i64 l.slot, .int .i64 l.group, .int .i64 (off : Nat)]] [] (fun v L => ∃ bc, v = .func (.func 148) #[] #[.pointer (some ⟨bc, 0, none⟩)] ∧ L = [pt bc (.cells #[.pointer (some ⟨pa, 0, none⟩), .int .i64 l.key, .int .i64 l.elem, .int .i64 l.ka, .int .i64 l.ea, .int .i64 l.cap, .int .i64 l.eo, .int .i64 l.bo, .int .i64 l.slot, .int .i64 l.group, .int .i64 (off : Nat)] 34 (0, 0))]) := by
  refine fn_intro en87 Tryz.func87 rfl rfl rfl fun Fr w0 => t_nm ?_
  exact sr <| o_boxA rfl rfl fun b1 => asg rfl rfl <| lz <| l_q rfl (q_makeFunc rfl rfl) <| asg rfl rfl <| lc <| rt <| fr1 rfl ([pt b1 (.cells #[.pointer (some ⟨pa, 0, none⟩), .int .i64 l.key, .int .i64 l.elem, .int .i64 l.ka, .int .i64 l.ea, .int .i64 l.cap, .int .i64 l.eo, .int .i64 l.bo, .int .i64 l.slot, .int .i64 l.group, .int .i64 (off : Nat)] 34 (0, 0))]) (.tmp rfl) ⟨b1, rfl, rfl⟩
theorem TCells_itS (pa off go n e bc : Nat) (s : ArS) (l : Lay) (T : Tb) (hP : TabP s off go l n e T) : IterH Tryz.prog 148 #[.pointer (some ⟨bc, 0, none⟩)] [pt bc (.cells #[.pointer (some ⟨pa, 0, none⟩), .int .i64 l.key, .int .i64 l.elem, .int .i64 l.ka, .int .i64 l.ea, .int .i64 l.cap, .int .i64 l.eo, .int .i64 l.bo, .int .i64 l.slot, .int .i64 l.group, .int .i64 (off : Nat)] 34 (0, 0))] [arenaH pa s] (cellsV T.cells (8 * n)) [pt bc (.cells #[.pointer (some ⟨pa, 0, none⟩), .int .i64 l.key, .int .i64 l.elem, .int .i64 l.ka, .int .i64 l.ea, .int .i64 l.cap, .int .i64 l.eo, .int .i64 l.bo, .int .i64 l.slot, .int .i64 l.group, .int .i64 (off : Nat)] 34 (0, 0))] [pt bc (.cells #[.pointer (some ⟨pa, 0, none⟩), .int .i64 l.key, .int .i64 l.elem, .int .i64 l.ka, .int .i64 l.ea, .int .i64 l.cap, .int .i64 l.eo, .int .i64 l.bo, .int .i64 l.slot, .int .i64 l.group, .int .i64 (off : Nat)] 34 (0, 0))] := by
  have hn8 := hP.n0
  refine ⟨en148, fun l' B S' C hC hY => ?_⟩
  show FnOk _ _ #[.func (.yield l') #[] #[], .pointer (some ⟨bc, 0, none⟩)] _ _
  refine fn_intro en148 Tryz.func148 rfl rfl rfl fun Fr w0 => t_nm ?_
  refine t_pure (φ := s.ok) (fun w hw => arena_ok hw (.there .here)) fun hok0 => ?_
  refine sr <| l_q rfl (qlda rfl yA34 yS34) ?_
  refine lc1 rfl rfl rfl (StatP_ok pa off go n e s l T hP) ?_
  refine mv rfl rfl <| l_q rfl (q_extractL rfl ga) ?_
  refine l_q rfl (q_extractL rfl ga) ?_
  refine o_allocA rfl yZ47 fun b3 => sta rfl rfl rfl yS47 rfl rfl ?_
  refine asg rfl rfl <| lc <| t_seq <| sr <| mv rfl rfl <| l_q rfl (qi rfl rfl (b_neq ·)) <| lc <| t_if rfl (fun z0 => ?_) fun z0 => ?_
  · exact absurd rfl z0
  · refine t_skip <| nz <| l_q rfl (qfa 1 rfl yU47 rfl rfl yS3) <| l_q rfl (qld rfl yA3) ?_
    refine o_makeSlice0 (sz := 5) (rowOf cellV (firstL T.cells 0)) rfl rfl rfl rfl Tryz.underlying222 yI54 (by omega) (by omega) fun b20 => ?_
    refine asg rfl rfl <| lc <| t_seq <| sr <| l_q rfl (qfa 1 rfl yU47 rfl rfl yS3) <| l_q rfl (qld rfl yA3) ?_
    refine mv rfl rfl <| lc <| t_block ?_
    rw [show (8 * (n : Int)).toNat = 8 * n by omega]
    refine t_loop (fun x : Nat × Value => x.1 ≤ 8 * n) (fun x => [(0, .func (.yield l') #[] #[]), (1, .pointer (some ⟨bc, 0, none⟩)), (3, .pointer (some ⟨b3, 0, none⟩)), (5, x.2), (22, .int .i64 (8 * (n : Int))), (23, .int .i64 (x.1 : Nat))]) (fun x => ownS 54 5 x.2 x.1 (rowOf cellV (firstL T.cells x.1)) :: pt b3 (.cells #[.int .i64 T.used, .int .i64 (8 * (n : Int)), .int .i64 T.left, .int .i64 T.depth, .int .i64 T.pins, .int .i64 T.next, .bool (decide (T.kind = 4)), .int .i64 (go : Nat)] 47 (0, 0)) :: pt bc (.cells #[.pointer (some ⟨pa, 0, none⟩), .int .i64 l.key, .int .i64 l.elem, .int .i64 l.ka, .int .i64 l.ea, .int .i64 l.cap, .int .i64 l.eo, .int .i64 l.bo, .int .i64 l.slot, .int .i64 l.group, .int .i64 (off : Nat)] 34 (0, 0)) :: arenaH pa s :: (C ++ Fr)) (fun x => 8 * n - x.1) (0, .slice (some ⟨b20, 0, none⟩) 0 (8 * n)) (Nat.zero_le _) ⟨rfl, rfl, rfl, rfl, rfl, rfl, trivial⟩ (by (exact en)) ?_
    rintro ⟨i, vc⟩ hi
    dsimp only at hi ⊢
    refine sr <| l_q rfl (qi rfl rfl (b_lss ·)) <| lc <| t_seq <| t_if rfl (fun h => ?_) fun h => ?_
    · skip
      have hi8 : i < 8 * n := by omega
      obtain ⟨hgood, hG', hok', hin⟩ := hP.grpAt (g := i / 8) (by omega)
      refine t_skip <| n_code <| t_seq <| t_block <| sr <| mv rfl rfl <| asg rfl rfl <| lz <| l_q rfl (qlda rfl yA34 yS34) ?_
      refine l_q rfl (qlda rfl yA47 yS47) ?_
      refine mv rfl rfl <| l_q rfl (qquo rfl rfl) ?_
      refine lc1 rfl rfl rfl (groupP_ok pa off go n e s l T hP hok0 (g := i / 8) (by omega) _ (by omega)) ?_
      refine mv rfl rfl <| l_q rfl (qrem rfl rfl) ?_
      rw [show ((i : Nat) : Int) % 8 = ((i % 8 : Nat) : Int) by omega]
      refine lc1 rfl rfl rfl (Cell_ok pa (go + i / 8 * gN l) s l (grpC T.cells (i / 8)) hP.hl hgood hG' hok' (i % 8) (by omega)) ?_
      rw [show grpC T.cells (i / 8) (i % 8) = T.cells i by show T.cells (8 * (i / 8) + i % 8) = _; congr 1; omega]
      refine mv rfl rfl <| l_q rfl (q_extractL rfl ga) ?_
      refine l_q rfl (q_extractL rfl ga) ?_
      refine o_allocA rfl yZ54 fun b7 => sta rfl rfl rfl yS54 rfl rfl ?_
      refine asg rfl rfl <| lc <| t_seq <| sr <| mv rfl rfl <| l_q rfl (qi rfl rfl (b_neq ·)) <| lc <| t_if rfl (fun z => ?_) fun z => ?_
      · exact absurd rfl z
      · refine t_skip <| n_code <| t_region <| mv rfl rfl <| l_q rfl (qlda rfl yA54 yS54) ?_
        refine o_buildSlice (us := [_]) rfl rfl yU222 yS54 yZ54 rfl rfl rfl rfl rfl (fun b41 => ?_)
        apply o_append (sz := 5) rfl rfl rfl yU222 yI54 rfl rfl
        · exact tk
        · exact tk
        · rfl
        · rfl
        · simp only [maxLen]; omega
        · omega
        intro v42
        refine l_shape (v := v42) tk fun _ hs42 => ?_
        obtain ⟨a42, cap42, rfl, hs42, _, _⟩ := hs42
        refine asg rfl rfl <| l_nil <| n_blk <| n_code <| t_region <| l_q rfl (qadd rfl rfl) ?_
        refine mv rfl rfl <| l_nil ?_
        rw [show rowOf cellV (firstL T.cells i) ++ ([Value.agg #[.int .i64 (T.cells i).kind, .int .i64 (T.cells i).tagI, .string (T.cells i).keyS, .string (T.cells i).elemS, .int .i64 (T.cells i).birthI]].flatMap fun x => x.cells.toList).toArray.toList = rowOf cellV (firstL T.cells (i + 1)) from (by rw [← firstL_next]; rfl)]
        apply n_again ((i + 1, .slice a42 (i + 1) cap42))
        · exact (show i + 1 ≤ 8 * n by omega)
        · dsimp only; omega
        · exact ⟨rfl, rfl, rfl, rfl, rfl, rfl, trivial⟩
        · exact en
    · obtain rfl : i = 8 * n := by omega
      refine t_shape (v := vc) (n := 8 * n) tk fun _ hsh => ?_
      obtain ⟨a0, cap, rfl, hsh, _, _⟩ := hsh
      obtain ⟨g, rfl⟩ := hsh (by omega)
      refine xt rfl <| nz <| mv rfl rfl <| l_q rfl (ql rfl yU222) <| mv rfl rfl <| lc <| t_block ?_
      refine t_weaken (E' := [(0, .func (.yield l') #[] #[]), (44, .slice (some ⟨g, 0, none⟩) (8 * n) cap), (45, .int .i64 ((8 * n : Nat) : Int)), (46, .int .i64 0)]) (L' := B 0 :: ownS 54 5 (.slice (some ⟨g, 0, none⟩) (8 * n) cap) (8 * n) (rowOf cellV (firstL T.cells (8 * n))) :: pt bc (.cells #[.pointer (some ⟨pa, 0, none⟩), .int .i64 l.key, .int .i64 l.elem, .int .i64 l.ka, .int .i64 l.ea, .int .i64 l.cap, .int .i64 l.eo, .int .i64 l.bo, .int .i64 l.slot, .int .i64 l.group, .int .i64 (off : Nat)] 34 (0, 0)) :: Fr) ⟨rfl, rfl, rfl, rfl, trivial⟩ (fun w hw => ?_) ?_
      · have h1 : Sat (stars (ownS 54 5 (.slice (some ⟨g, 0, none⟩) (8 * n) cap) (8 * n) (rowOf cellV (firstL T.cells (8 * n))) :: pt bc (.cells #[.pointer (some ⟨pa, 0, none⟩), .int .i64 l.key, .int .i64 l.elem, .int .i64 l.ka, .int .i64 l.ea, .int .i64 l.cap, .int .i64 l.eo, .int .i64 l.bo, .int .i64 l.slot, .int .i64 l.group, .int .i64 (off : Nat)] 34 (0, 0)) :: arenaH pa s :: (C ++ Fr))) w := (show Ent _ _ by (exact en)) w hw
        exact hC _ _ (h1.perm (List.perm_append_comm_assoc [ownS 54 5 (.slice (some ⟨g, 0, none⟩) (8 * n) cap) (8 * n) (rowOf cellV (firstL T.cells (8 * n))), pt bc (.cells #[.pointer (some ⟨pa, 0, none⟩), .int .i64 l.key, .int .i64 l.elem, .int .i64 l.ka, .int .i64 l.ea, .int .i64 l.cap, .int .i64 l.eo, .int .i64 l.bo, .int .i64 l.slot, .int .i64 l.group, .int .i64 (off : Nat)] 34 (0, 0))] (arenaH pa s :: C) Fr))
      refine t_loop (fun i : Nat => i ≤ 8 * n) (fun i => [(0, .func (.yield l') #[] #[]), (44, .slice (some ⟨g, 0, none⟩) (8 * n) cap), (45, .int .i64 ((8 * n : Nat) : Int)), (46, .int .i64 (i : Nat))]) (fun i => B (cnt isFull T.cells i) :: ownS 54 5 (.slice (some ⟨g, 0, none⟩) (8 * n) cap) (8 * n) (rowOf cellV (firstL T.cells (8 * n))) :: pt bc (.cells #[.pointer (some ⟨pa, 0, none⟩), .int .i64 l.key, .int .i64 l.elem, .int .i64 l.ka, .int .i64 l.ea, .int .i64 l.cap, .int .i64 l.eo, .int .i64 l.bo, .int .i64 l.slot, .int .i64 l.group, .int .i64 (off : Nat)] 34 (0, 0)) :: Fr) (fun i => 8 * n - i) 0 (Nat.zero_le _) ⟨rfl, rfl, rfl, rfl, trivial⟩ (Ent.refl _) ?_
      intro i hi
      have hcs := cnt_succ isFull T.cells i
      refine sr <| l_q rfl (qi rfl rfl (b_lss ·)) <| lc <| t_seq <| t_if rfl (fun h2 => ?_) fun h2 => ?_
      · skip
        have hi8 : i < 8 * n := by omega
        have hcell : ∀ j x, [Value.int .i64 (T.cells i).kind, .int .i64 (T.cells i).tagI, .string (T.cells i).keyS, .string (T.cells i).elemS, .int .i64 (T.cells i).birthI][j]? = some x → CellAt (ownS 54 5 (.slice (some ⟨g, 0, none⟩) (8 * n) cap) (8 * n) (rowOf cellV (firstL T.cells (8 * n)))) ((⟨g, 0 + (i : Int).toNat * 5, none⟩ : Addr).add j) x := fun j x hx => by
          have hj : j < 5 := by rcases Nat.lt_or_ge j 5 with q | q; exact q; rw [List.getElem?_eq_none (by simpa using q)] at hx; cases hx
          rw [add_none, Nat.zero_add, Int.toNat_natCast]
          exact own_cell (by rw [rowOf_get cellV5 (firstL T.cells (8 * n)) i j (T.cells i) (firstL_get hi8) hj]; exact hx)
        refine t_skip <| n_code <| t_seq <| t_block <| sr <| mv rfl rfl <| l_q rfl (q_indexAddr rfl rfl yU222 yS54 (by omega)) ?_
        apply l_q rfl
        · apply q_loadRA (A := ownS 54 5 (.slice (some ⟨g, 0, none⟩) (8 * n) cap) (8 * n) (rowOf cellV (firstL T.cells (8 * n)))) (us := [.int .i64 (T.cells i).kind, .int .i64 (T.cells i).tagI, .string (T.cells i).keyS, .string (T.cells i).elemS, .int .i64 (T.cells i).birthI]) rfl yA54 yS54 rfl
          · exact tk
          · exact hcell
        refine o_allocA rfl yZ54 fun b10 => asg rfl rfl <| sta rfl rfl rfl yS54 rfl rfl ?_
        refine lz <| l_q rfl (qfa 0 rfl yU54 rfl rfl yS3) <| l_q rfl (qld rfl yA3) ?_
        refine l_q rfl (qi rfl rfl (b_eql ·)) <| mv rfl rfl <| l_pt (t := 54) rfl (fun x => ?_) fun x => ?_
        · refine l_on rfl rfl <| mv rfl rfl <| l_on rfl rfl <| mv rfl rfl <| l_on rfl rfl <| l_q rfl (qlda rfl yA54 yS54) ?_
          refine l_on rfl rfl ?_
          have hf := kind_full.1 x
          apply l_yield rfl rfl rfl ((hY _ _ (cellsV_get hi8 hf)))
          · exact pk
          · exact pk
          rintro b L' (⟨rfl, rfl⟩ | ⟨rfl, rfl⟩)
          · refine l_nm ?_
            refine l_on rfl rfl <| l_q rfl (q_un rfl (u_not ·)) <| l_q rfl (q_pk rfl rfl) <| lc <| t_cond_f rfl <| t_skip <| n_blk <| n_code <| t_region <| l_q rfl (qadd rfl rfl) ?_
            refine mv rfl rfl <| l_nil ?_
            rw [hf, if_pos rfl] at hcs
            rw [← hcs]
            apply n_again ((i + 1))
            · exact (show i + 1 ≤ 8 * n by omega)
            · omega
            · exact ⟨rfl, rfl, rfl, rfl, trivial⟩
            · exact en
          · refine l_nm ?_
            refine l_on rfl rfl <| l_q rfl (q_un rfl (u_not ·)) <| l_q rfl (q_pk rfl rfl) <| lc <| t_cond_t rfl <| rt ?_
            apply f_ret (.inl rfl) (_)
            · exact res0 rfl
            · exact .inr ⟨cnt isFull T.cells i, by rw [cellsV_len]; have := cnt_mono (p := isFull) (cs := T.cells) (show i + 1 ≤ 8 * n by omega); rw [hcs, hf, if_pos rfl] at this; omega, rfl⟩
            · exact en
        · refine l_off rfl rfl rfl rfl <| l_off rfl rfl rfl rfl <| l_off rfl rfl rfl rfl <| l_off rfl rfl rfl rfl <| l_off rfl rfl rfl rfl <| l_q rfl (q_pk rfl rfl) <| lc <| t_cond_f rfl <| t_skip <| n_blk <| n_code <| t_region <| l_q rfl (qadd rfl rfl) ?_
          refine mv rfl rfl <| l_nil ?_
          have hf : ¬ isFull (T.cells i) = true := fun e => x (kind_full.2 e)
          rw [if_neg hf] at hcs
          rw [show cnt isFull T.cells i = cnt isFull T.cells (i + 1) by omega]
          apply n_again ((i + 1))
          · exact (show i + 1 ≤ 8 * n by omega)
          · omega
          · exact ⟨rfl, rfl, rfl, rfl, trivial⟩
          · exact en
      · obtain rfl : i = 8 * n := by omega
        refine xt rfl ?_
        apply f_ret (.inr rfl) (_)
        · exact res0 rfl
        · exact .inl (by rw [cellsV_len])
        · exact en
theorem TCells_it (pa off go n e bc : Nat) (s : ArS) (l : Lay) (T : Tb) (hP : TabP s off go l n e T) : IterH Tryz.prog 148 #[.pointer (some ⟨bc, 0, none⟩)] [pt bc (.cells #[.pointer (some ⟨pa, 0, none⟩), .int .i64 l.key, .int .i64 l.elem, .int .i64 l.ka, .int .i64 l.ea, .int .i64 l.cap, .int .i64 l.eo, .int .i64 l.bo, .int .i64 l.slot, .int .i64 l.group, .int .i64 (off : Nat)] 34 (0, 0))] [arenaH pa s] (cellsV T.cells (8 * n)) [pt bc (.cells #[.pointer (some ⟨pa, 0, none⟩), .int .i64 l.key, .int .i64 l.elem, .int .i64 l.ka, .int .i64 l.ea, .int .i64 l.cap, .int .i64 l.eo, .int .i64 l.bo, .int .i64 l.slot, .int .i64 l.group, .int .i64 (off : Nat)] 34 (0, 0))] := (TCells_itS pa off go n e bc s l T hP).plain
end Go.Proofs.YtgijnebgchkenaaGreatDoor.Table
