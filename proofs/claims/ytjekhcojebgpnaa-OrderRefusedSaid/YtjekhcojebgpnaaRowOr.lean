import Derived.Test.YtjekhcojebgpnaaOrD
import Derived.Test.YtjekhcojebgpnaaRows
import Derived.WalkKit
import Derived.ProofKit
import Derived.OpenShut
import Derived.ShutString
import Derived.ChangeOld
import Derived.ChangeMaps5
import Derived.Below
import Derived.Carry
import Derived.SizedLaws
import Derived.LaidMore
import Derived.Lay
import Derived.Stop.Joined
section
/- Contracts of larderlaw26: planted. -/
set_option linter.unusedVariables false
set_option linter.unusedSimpArgs false
set_option maxRecDepth 100000
namespace Go.Proofs.Ytjekhcojebgpnaa.Ord
open Go.RowKit Go.Proofs Go.Proofs.Ytjekhcojebgpnaa.Eng Go.Proofs.Ytjekhcojebgpnaa.Ty Go.Proofs.Ytjekhcojebgpnaa.Bits Go.Proofs.Ytjekhcojebgpnaa.Mem Go.Proofs.Ytjekhcojebgpnaa.Search Go.Proofs.Ytjekhcojebgpnaa.Layout Go.Proofs.Ytjekhcojebgpnaa.Arena Go.Proofs.Ytjekhcojebgpnaa.GroupB Go.Proofs.Ytjekhcojebgpnaa.Bt
/-- The layout of the laws' trees. -/
def l5 : Lay := ⟨2, 1, 1, 1, 16⟩
theorem l5_err : l5.err = 0 := by decide +kernel
theorem l5_k : kN l5 = 2 := by decide +kernel
theorem l5_e : eN l5 = 1 := by decide +kernel
theorem sum_perm {a b : List (Int × Int)} (h : a.Perm b) : ArS.sum a = ArS.sum b := by
 induction h with
 | nil => rfl
 | cons x _ ih => simp only [ArS.sum, ih]
 | swap x y l => simp only [ArS.sum]; omega
 | trans _ _ h1 h2 => exact h1.trans h2
theorem sum_blk {l : Lay} {R : List (Int × Int)} : ∀ os : List Nat, ArS.sum (os.map (blkN l) ++ R) = (os.length : Int) * nC l + ArS.sum R
 | [] => by simp
 | o :: os => by
  have ih := sum_blk (l := l) (R := R) os
  show nC l + ArS.sum (os.map (blkN l) ++ R) = _
  rw [ih, List.length_cons, Int.natCast_succ, Int.add_mul, Int.one_mul]; omega
/-- How many bytes a tree's arena holds. -/
theorem live_eq {l : Lay} {s : ArS} {off : Nat} {x : Bt.TX} {R : List (Int × Int)} (H : TrOk l s off x R) : s.live = 64 + (x.offs.length : Int) * nC l + ArS.sum R := by
 have h1 : s.live = ArS.sum s.bl := rfl
 rw [h1, sum_perm H.bl]
 show 64 + ArS.sum (x.offs.map (blkN l) ++ R) = _
 rw [sum_blk]; omega
theorem need_le {l : Lay} {s : ArS} {off : Nat} {x : Bt.TX} {R : List (Int × Int)} (hs : s.ok) (H : TrOk l s off x R) (k : ByteArray) : needX x k ≤ x.height + 1 ∧ x.height ≤ 27 := by
 obtain ⟨hS, hob, _⟩ := H.bnd hs
 have hh27 := height_bnd (fun h t e => (H.tree h t e).1) hob
 have hpl : (pathX x k).length = x.height := by cases x with | none => rfl | some y => exact path_len
 have hfw := fwL_le (pathX x k)
 refine ⟨?_, hh27⟩
 unfold needX
 split <;> omega
/-- There is always room for a put. -/
theorem room_ok {l : Lay} (hl : l.err = 0) {s : ArS} {off : Nat} {x : Bt.TX} (hs : s.ok) (H : TrOk l s off x []) (hlim : s.limit = 2097152) (hL : x.L.length ≤ 1000) (k : ByteArray) : ¬ s.limit - s.live < (needX x k : Int) * nC l := by
 obtain ⟨n1, n2⟩ := need_le hs H k
 have hnb := nb_bnd hl
 have hlv := live_eq H
 have hof : x.offs.length ≤ 334 := by
  cases x with
  | none => exact Nat.zero_le _
  | some y =>
   obtain ⟨h, t⟩ := y
   have := offs_few (H.tree h t O).1
   have e1 : (TX.offs (some (h, t))).length = (offs h t).length := rfl
   have e2 : (TX.L (some (h, t))).length = (lst h t).length := rfl
   omega
 have m1 : (x.offs.length : Int) * nC l ≤ 334 * 2048 := Int.mul_le_mul (by omega) (by omega) (by omega) (by omega)
 have m2 : (needX x k : Int) * nC l ≤ 28 * 2048 := Int.mul_le_mul (by omega) (by omega) (by omega) (by omega)
 have e0 : ArS.sum ([] : List (Int × Int)) = 0 := rfl
 omega
def StepsAt (A : HP) (v : Value) (ts : List (Int × Int × Int)) : Prop := ∃ a cap, v = .slice a ts.length cap ∧ (0 < ts.length → ∃ b o, a = some ⟨b, o, none⟩ ∧ ∀ (i : Nat) (t : Int × Int × Int), ts[i]? = some t → ∀ (j : Nat) x, [Value.int .i64 t.1, .int .i64 t.2.1, .int .i64 t.2.2][j]? = some x → CellAt A ⟨b, o + i * 3 + j, none⟩ x)
theorem cell_step {A : HP} {ts : List (Int × Int × Int)} {b o i : Nat} {t : Int × Int × Int} (h : ∀ (i : Nat) (t : Int × Int × Int), ts[i]? = some t → ∀ (j : Nat) x, [Value.int .i64 t.1, .int .i64 t.2.1, .int .i64 t.2.2][j]? = some x → CellAt A ⟨b, o + i * 3 + j, none⟩ x) (ht : ts[i]? = some t) :
  ∀ j x, [Value.int .i64 t.1, .int .i64 t.2.1, .int .i64 t.2.2][j]? = some x → CellAt A ((⟨b, o + (i : Int).toNat * 3, none⟩ : Addr).add j) x := fun j x hx => by
 rw [add_none, Int.toNat_natCast]
 exact h i t ht j x hx
def runF (ts : List (Int × Int × Int)) : Nat → Nat := ts.foldl (fun f t => stepF f t.1 t.2.1 t.2.2) fun _ => 0
theorem runF_take {ts : List (Int × Int × Int)} {i : Nat} {t : Int × Int × Int} (h : ts[i]? = some t) : runF (ts.take (i + 1)) = stepF (runF (ts.take i)) t.1 t.2.1 t.2.2 := by
 unfold runF
 rw [List.take_add_one, h, Option.toList_some, List.foldl_append]; rfl
theorem held_zero : heldV (fun _ => 0) = List.replicate 1000 (.int .i64 0) := by
 apply List.ext_getElem?
 intro j
 rw [List.getElem?_replicate]
 rcases Nat.lt_or_ge j 1000 with w | w
 ·rw [held_get w, if_pos w]; rfl
 ·rw [List.getElem?_eq_none (by rw [held_len]; exact w), if_neg (by omega)]
theorem prs_zero : prs (fun _ => 0) = [] := by
 rw [List.eq_nil_iff_forall_not_mem]
 intro p hp
 obtain ⟨i, _, h, _⟩ := mem_prs.1 hp
 exact h rfl
attribute [local irreducible] ids prs flatN heldV nameK elemK cntF
theorem planted_ok (G : HP) (vt : Value) (ts : List (Int × Int × Int)) (hT : StepsAt G vt ts) (hmt : ts.length ≤ maxLen) (lim : Int) (h64 : 64 ≤ lim) (h21 : lim ≤ 2097152) (hlt : ts = [] ∨ lim = 2097152) :
  FnOk Try.prog 5 #[.int .i64 lim, vt] [G] (fun v L => ∃ pa gh s off x, v = .tuple #[.pointer (some ⟨pa, 0, none⟩), .agg #[.pointer (some ⟨pa, 0, none⟩), .int .i64 l5.key, .int .i64 l5.elem, .int .i64 l5.ka, .int .i64 l5.ea, .int .i64 l5.cap, .int .i64 l5.eo, .int .i64 l5.bo, .int .i64 l5.slot, .int .i64 l5.group, .int .i64 ((off : Nat) : Int)], .slice (some ⟨gh, 0, none⟩) 1000 1000, .bool true] ∧ L = [ownS 3 1 (.slice (some ⟨gh, 0, none⟩) 1000 1000) 1000 (heldV (runF ts)), arenaH pa s, G] ∧ s.ok ∧ TrOk l5 s off x [] ∧ s.limit = lim ∧ (∀ i, runF ts i ≤ 256) ∧ x.L = prs (runF ts)) := by
 simp only [maxLen] at hmt
 obtain ⟨ta, tcap, rfl, hT0⟩ := hT
 refine fn_intro en5 Try.func5 rfl rfl rfl fun Fr w0 => t_nm ?_
 refine sr<|asg O O<|o_allocA O yZ27 fun b5 => asg O O<|asg O O<|lz ?_
 apply o_makeSlice1 O O O yU28 yI3 O (by omega) (by omega)
 intro b17
 refine asg O O<|lz<|mv O O<|lcf O O O (New_ok lim ⟨by omega, h21⟩) ?_
 rintro v L' ⟨pa, rfl, rfl⟩
 refine l_nm ?_
 refine mv O O<|l_q O (q_extractL O ga) ?_
 refine l_q O (q_extractL O ga) ?_
 refine asg O O<|asg O O<|lz ?_
 refine o_buildSlice1 [_, _, _, _, _] rfl rfl yU28 yS3 yZ3 rfl rfl rfl rfl (fun b24 => ?_)
 rw [show (#[Value.int .i64 2, Value.int .i64 1, Value.int .i64 1, Value.int .i64 1, Value.int .i64 16] : Array Value) = #[.int .i64 l5.key, .int .i64 l5.elem, .int .i64 l5.ka, .int .i64 l5.ea, .int .i64 l5.cap] from rfl]
 refine lc1 O O O (Parse_ok b24 l5) ?_
 have ho : ∀ z, l5.o z = z := fun z => by unfold Lay.o; rw [if_pos l5_err]
 rw [ho l5.key, ho l5.elem, ho l5.ka, ho l5.ea, ho l5.cap, ho l5.eo, ho l5.bo, ho l5.slot, ho l5.group, l5_err]
 have hs0 : (ArS.new lim).ok := ArS.new_ok ⟨by omega, h21⟩
 have hlv0 : (ArS.new lim).live = 0 := rfl
 have hlm0 : (ArS.new lim).limit = lim := rfl
 obtain ⟨q1, q2, q3, q4⟩ := new_tree (l := l5) hs0 (by rw [hlv0, hlm0]; omega)
 have hbl0 : (ArS.new lim).bl = [] := rfl
 rw [hbl0] at q2
 rw [hlm0] at q4
 refine mv O O<|l_q O (q_extractL O ga) ?_
 refine l_q O (q_extractL O ga) ?_
 refine o_allocA O yZ25 fun b11 => sta O O O yS25 O O ?_
 refine asg O O<|lc<|t_seq<|sr<|mv O O<|l_q O (qi O O (b_neq ·))<|mv O O<|l_pt (t := 30) rfl (fun c1 => ?_) fun c1 => ?_
 ·exact absurd rfl c1
 ·refine l_on O O<|mv O O<|l_on O O<|l_q O (qi O O (b_neq ·))<|l_q O (q_pk O O)<|mv O O<|l_pt (t := 34) rfl (fun c2 => ?_) fun c2 => ?_
  ·exact absurd rfl c2
  ·refine l_on O O<|mv O O<|l_on O O<|l_q O (q_bin O O (g_pointer ·) (b_eqlP0 · yU23))<|l_q O (q_pk O O)<|lc<|t_if O (fun c3 => ?_) fun c3 => ?_
   ·exact absurd c3 (by simp)
   ·refine t_skip<|nz<|mv O O<|l_q O (qlda O yA25 yS25) ?_
    refine lcf O O O (NewT_ok pa (ArS.new lim) (l := l5) hs0) ?_
    rintro v L' hout
    refine l_nm ?_
    obtain ⟨_, rfl, rfl⟩ := hout.resolve_left (fun w => by rw [hlv0, hlm0] at w; omega)
    generalize (ArS.new lim).take 64 = s1 at *
    generalize (ArS.new lim).at 64 = off at *
    refine mv O O<|l_q O (q_extractL O ga) ?_
    refine l_q O (q_extractL O ga) ?_
    refine o_allocA O yZ27 fun b13 => sta O O O yS27 O O ?_
    refine asg O O<|lc<|t_seq<|sr<|mv O O<|l_q O (qi O O (b_neq ·))<|lc<|t_if O (fun c4 => ?_) fun c4 => ?_
    ·exact absurd rfl c4
    ·refine t_skip<|n_code<|t_seq<|sr<|mv O O<|l_q O (ql O yU22)<|mv O O<|lc<|t_block ?_
     rw [show Int.toNat 1000 = 1000 from rfl, ← held_zero]
     refine t_loop (fun y : Nat × ArS × Bt.TX × (Nat → Nat) => y.1 ≤ ts.length ∧ y.2.1.ok ∧ TrOk l5 y.2.1 off y.2.2.1 [] ∧ y.2.1.limit = lim ∧ (∀ i, y.2.2.2 i ≤ 256) ∧ y.2.2.1.L = prs y.2.2.2 ∧ y.2.2.2 = runF (ts.take y.1)) (fun y => [(0, .int .i64 lim), (5, .pointer (some ⟨b5, 0, none⟩)), (8, .slice (some ⟨b17, 0, none⟩) 1000 1000), (9, .pointer (some ⟨pa, 0, none⟩)), (13, .pointer (some ⟨b13, 0, none⟩)), (57, .slice ta ts.length tcap), (58, .int .i64 ((ts.length : Nat) : Int)), (59, .int .i64 ((y.1 : Nat) : Int))]) (fun y => ownS 3 1 (.slice (some ⟨b17, 0, none⟩) 1000 1000) 1000 (heldV (y.2.2.2)) :: pt b13 (.cells #[.pointer (some ⟨pa, 0, none⟩), .int .i64 l5.key, .int .i64 l5.elem, .int .i64 l5.ka, .int .i64 l5.ea, .int .i64 l5.cap, .int .i64 l5.eo, .int .i64 l5.bo, .int .i64 l5.slot, .int .i64 l5.group, .int .i64 ((off : Nat) : Int)] 27 (0, 0)) :: arenaH pa y.2.1 :: pt b5 (.cells #[.pointer none, .int .i64 0, .int .i64 0, .int .i64 0, .int .i64 0, .int .i64 0, .int .i64 0, .int .i64 0, .int .i64 0, .int .i64 0, .int .i64 0] 27 (0, 0)) :: G :: Fr) (fun y => ts.length - y.1) (0, s1, none, fun _ => 0) ⟨Nat.zero_le _, q1, q2, q4, fun _ => Nat.zero_le _, by rw [prs_zero]; rfl, by rw [List.take_zero]; rfl⟩ ⟨rfl, rfl, rfl, rfl, rfl, rfl, rfl, rfl, trivial⟩ (by (exact en)) ?_
     rintro ⟨i, s, x, f⟩ ⟨hi, hs, H, hlim, hf, hx, hrun⟩
     dsimp only at hi hs H hlim hf hx hrun ⊢
     refine sr<|l_q O (qi O O (b_lss ·))<|lc<|t_seq<|t_if O (fun c5 => ?_) fun c5 => ?_
     ·have hil : i < ts.length := by omega
      obtain ⟨tb, to9, rfl, hT1⟩ := hT0 (by omega)
      obtain ⟨t, ht⟩ : ∃ t, ts[i]? = some t := ⟨ts[i], List.getElem?_eq_getElem hil⟩
      have hcell := cell_step hT1 ht
      have hlimE : lim = 2097152 := hlt.resolve_left fun e => by rw [e] at hil; simp at hil
      have hxl : x.L.length ≤ 1000 := by rw [hx, prs_ids, List.length_map]; exact ids_len f
      refine t_skip<|n_code<|t_seq<|t_block<|sr<|l_q O (q_indexAddr O O yU22 yS41 (by omega)) ?_
      apply l_q O
      ·apply q_loadRA (A := G) (us := [.int .i64 t.1, .int .i64 t.2.1, .int .i64 t.2.2]) rfl yA41 yS41 rfl
       ·exact tk
       ·exact hcell
      refine o_allocA O yZ41 fun b16 => sta O O O yS41 O O ?_
      refine lz<|l_q O (qlda O yA27 yS27) ?_
      refine l_q O (qlda O yA41 yS41) ?_
      refine mv O O<|mv O O<|l_q O (qi O O (b_lss ·))<|lcf O O O (grow_ok pa off s l5_err l5_k l5_e hs H b17 f hf hx t.1 t.2.1 t.2.2 (decide (lim < 2097152))) ?_
      rintro v L' ⟨s', x', f', rfl, g1, g2, g3, g4, g5, g6, hout⟩
      refine l_nm ?_
      obtain ⟨rfl, hf'⟩ : v = .bool true ∧ f' = stepF f t.1 t.2.1 t.2.2 := hout.resolve_right fun w => room_ok l5_err hs H (by rw [hlim, hlimE]) hxl _ w.2.2.2.2.2
      refine l_q O (q_un O (u_not ·))<|lc<|t_if O (fun c6 => ?_) fun c6 => ?_
      ·exact absurd c6 (by decide)
      ·refine t_skip<|n_blk<|n_code<|t_region<|l_q O (qadd O O) ?_
       refine mv O O<|l_nil ?_
       apply n_again ((i + 1, s', x', f'))
       ·exact ⟨hil, g1, g2, g4.trans hlim, g5, g6, by dsimp only; rw [hf', runF_take ht, hrun]⟩
       ·(try dsimp only); omega
       ·exact ⟨O, O, O, O, O, O, O, O, trivial⟩
       ·exact en
     ·obtain rfl : i = ts.length := by omega
      rw [List.take_length] at hrun
      subst hrun
      refine xt O<|n_code<|t_seq<|t_draw mixed ?_
      apply dq 0 O
      ·exact yq (q_move O)
      apply dq 1 O
      ·exact yq (qlda O yA27 yS27)
      apply dq 2 O
      ·exact yq (q_move O)
      refine d_eff1 [0] [2, 1] 3 [(74, _)] gO ⟨rfl, trivial⟩ (by kernel_rfl) (by kernel_rfl) fun Ex => ?_
      refine asg O O<|l_nil ?_
      apply n_d
      ·refine ⟨?_, ?_, trivial⟩
       ·apply ya O O; exact yq (q_move O)
       ·apply ya O O; exact yq (qlda O yA27 yS27)
      refine d_eff1 [1] [2] 4 [(5, _), (75, _)] gO ⟨rfl, rfl, trivial⟩ (by kernel_rfl) (by kernel_rfl) fun Ex => ?_
      refine sta O O O yS27 O O ?_
      refine l_nil ?_
      apply n_d
      ·refine ⟨?_, trivial⟩
       ·apply ya O O; exact yq (q_move O)
      refine d_eff1 [2] [] 5 [(76, _)] gO ⟨rfl, trivial⟩ (by kernel_rfl) (by kernel_rfl) fun Ex => ?_
      refine asg O O<|l_nil ?_
      apply n_d
      ·exact trivial
      refine d_eff1 [] [] 6 [] gO trivial (by kernel_rfl) (by kernel_rfl) fun Ex => ?_
      refine asg O O<|l_nil ?_
      apply n_d
      ·exact trivial
      refine d_end (by kernel_rfl) ?_
      refine n_code<|rt ?_
      apply f_ret (.inl rfl) ([ownS 3 1 (.slice (some ⟨b17, 0, none⟩) 1000 1000) 1000 (heldV (runF ts)), arenaH pa s, G])
      ·apply res4 O
       ·exact .tmp rfl
       ·apply Rv.agg rfl
        ·exact tk
        ·exact run_loadAll yA27 yS27 O
       ·exact .tmp rfl
       ·exact .tmp rfl
      ·exact ⟨pa, b17, s, off, x, rfl, rfl, hs, H, hlim, hf, hx⟩
      ·exact en
end Go.Proofs.Ytjekhcojebgpnaa.Ord
end
section
/- What a call's arguments read as, as facts on the piece 'all that lay there before'; slices of steps (larderlaw26). -/
set_option linter.unusedVariables false
set_option linter.unusedSimpArgs false
set_option maxRecDepth 100000
namespace Go.Proofs.Ytjekhcojebgpnaa.RowOr
open Go.ChangeShapes Go.WideShapes Go.ChangeAt Go.RowKit Go.Proofs Go.Proofs.Ytjekhcojebgpnaa.Eng Go.Proofs.Ytjekhcojebgpnaa.Ord
theorem laidOut : laidOutB Try.prog = true := by kernel_rfl
theorem cell_old {W : World} {a : Addr} {v : Value} (h : W.cell? a = some v) : CellAt (Eng.old W) a v := fun w hs => by
 obtain ⟨f, hi, rfl⟩ := hs
 have hb : ∃ o, W.heap[a.block]? = some o := by
  cases e : W.heap[a.block]? with
  | some o => exact ⟨o, rfl⟩
  | none => simp [World.cell?, e] at h
 obtain ⟨o, ho⟩ := hb
 have := hi a.block o ho
 rw [World.cell?_of_block (w := W) (by rw [this, ho])]
 exact h
/-- A contract on what lay there before: it is as it was. -/
theorem fn_old {P : Program} {f : FuncId} {args : Array Value} {v0 : Value} {W : World} (h : FnOk P f args [Eng.old W] fun v L => v = v0 ∧ L = [Eng.old W]) : Calls P f args W fun e W' => e = .returned v0 ∧ Below W.heap.size W W' := by
 have hs : Sat (stars ([Eng.old W] ++ [])) W := by
  obtain ⟨f, hi, e⟩ := Sat.old W
  exact ⟨f, hi, f, Part.none, e, rfl, Part.disj_none _, (Part.join_none _).symm⟩
 refine (callsIn_wide (n := 0)).1 ((h.calls [] W W hs (Ext.refl W)).mono ?_)
 rintro e W' ⟨v, L', rfl, ⟨rfl, rfl⟩, hs', he'⟩
 exact ⟨rfl, below_of_old hs'.left he'⟩
section
variable {H : Type} {enc : TypeId × Value → H} {P : Program} {W : World} {base : Nat} {held : Bool}
/-- A slice of rows. -/
def RowsAt (A : HP) (sz : Nat) (v : Value) (rows : List (List Value)) : Prop := ∃ a cap, v = .slice a rows.length cap ∧ (0 < rows.length → ∃ b o, a = some ⟨b, o, none⟩ ∧ ∀ (i : Nat) r, rows[i]? = some r → ∀ (j : Nat) x, r[j]? = some x → CellAt A ⟨b, o + i * sz + j, none⟩ x) ∧ (a = none → cap = 0 ∧ rows = [])
theorem rows_oldM {t e : TypeId} {sz fuel : Nat} {sp : Nat → Bool} {cs : List Value} {x : DataW H × List MemPlace} (ht : P.underlying t = some (.slice e)) (hc : P.cellsOf e = sz) (hsz : 0 < sz)
  (h : DataW.trod enc P W base sp held fuel t cs = some x) : ∃ v rows, cs = [v] ∧ RowsAt (Eng.old W) sz v rows ∧ rows.length ≤ maxLen ∧ ∀ r ∈ rows, ∃ m y, DataW.trod enc P W base sp held m e r = some y ∧ ∀ es sp', x.1 = .slice es sp' → y.1 ∈ es := by
 rcases DataW.trod_slice ht h with ⟨rfl, _⟩ | ⟨a, len, cap, elems, rest, n, _, rfl, rfl, hb, hl, hm, hlen, hel, _, _⟩
 ·exact ⟨_, [], rfl, ⟨none, 0, rfl, fun q => (by simp at q), fun _ => ⟨rfl, rfl⟩⟩, by simp, by simp⟩
 ·rw [hc] at hel
  have each : ∀ i, i < len → ∃ r, W.cells? base (a.add (i * sz)) sz = some r ∧ ∃ y, DataW.trod enc P W base sp held n e r = some y ∧ y.1 ∈ elems.map (·.1) := fun i hi => by
   have h1 := hel i hi
   rw [List.getElem?_eq_getElem (by omega), Option.bind_eq_some_iff] at h1
   obtain ⟨r, h2, h3⟩ := h1
   exact ⟨r, h2, _, h3, List.mem_map.2 ⟨_, List.getElem_mem _, rfl⟩⟩
  have hr : ∀ i, i < len → ((List.range len).map fun i => (W.cells? base (a.add (i * sz)) sz).getD [])[i]? = W.cells? base (a.add (i * sz)) sz := fun i hi => by
   obtain ⟨r, h2, _⟩ := each i hi
   rw [List.getElem?_map, List.getElem?_range hi, Option.map_some, h2]; rfl
  refine ⟨_, (List.range len).map fun i => (W.cells? base (a.add (i * sz)) sz).getD [], rfl, ⟨some a, cap, by simp, fun q => ?_, fun e => by cases e⟩, by simp; omega, fun r hr' => ?_⟩
  ·have q0 : 0 < len := by simpa using q
   obtain ⟨b, o, spot⟩ := a
   have hspot : spot = none := by
    obtain ⟨r, h2, _⟩ := each 0 q0
    obtain ⟨_, hlr, hcell⟩ := World.cells?_some h2
    have h3 := hcell 0 (by omega)
    rw [List.getElem?_eq_getElem (by omega)] at h3
    simpa [Addr.add] using World.cell?_spot h3
   subst hspot
   refine ⟨b, o, rfl, fun i r hir j x hx => cell_old ?_⟩
   have hi : i < len := by have := (List.getElem?_eq_some_iff.1 hir).1; simpa using this
   rw [hr i hi] at hir
   obtain ⟨_, hlr, hcell⟩ := World.cells?_some hir
   have hj : j < sz := by have := (List.getElem?_eq_some_iff.1 hx).1; omega
   have h3 := hcell j hj
   rw [hx] at h3
   rw [← h3, add_none, add_none]
  ·obtain ⟨i, hi⟩ := List.getElem?_of_mem hr'
   have hil : i < len := by have := (List.getElem?_eq_some_iff.1 hi).1; simpa using this
   obtain ⟨r', h2, y, h3, h4⟩ := each i hil
   rw [hr i hil, h2] at hi
   cases hi
   exact ⟨n, y, h3, fun es sp' e => by cases e; exact h4⟩
theorem rows_old {t e : TypeId} {sz fuel : Nat} {sp : Nat → Bool} {cs : List Value} {x : DataW H × List MemPlace} (ht : P.underlying t = some (.slice e)) (hc : P.cellsOf e = sz) (hsz : 0 < sz)
  (h : DataW.trod enc P W base sp held fuel t cs = some x) : ∃ v rows, cs = [v] ∧ RowsAt (Eng.old W) sz v rows ∧ rows.length ≤ maxLen ∧ ∀ r ∈ rows, ∃ m y, DataW.trod enc P W base sp held m e r = some y := by
 obtain ⟨v, rows, h1, h2, h3, h4⟩ := rows_oldM ht hc hsz h
 exact ⟨v, rows, h1, h2, h3, fun r hr => (h4 r hr).elim fun m h => ⟨m, h.elim fun y h => ⟨y, h.1⟩⟩⟩
theorem rows_map {A : Type} {f : A → List Value} {Q : A → Prop} : ∀ (rows : List (List Value)), (∀ r ∈ rows, ∃ a, r = f a ∧ Q a) → ∃ ys : List A, rows = ys.map f ∧ ∀ a ∈ ys, Q a
 | [], _ => ⟨[], rfl, by simp⟩
 | r :: rows, h => by
  obtain ⟨a, rfl, hq⟩ := h r (by simp)
  obtain ⟨ys, rfl, hqs⟩ := rows_map rows fun r hr => h r (by simp [hr])
  exact ⟨a :: ys, rfl, by simpa using ⟨hq, hqs⟩⟩
end
/-- A slice of steps among the arguments. -/
theorem steps_old {H : Type} {enc : TypeId × Value → H} {W : World} {base : Nat} {held : Bool} {fuel : Nat} {sp : Nat → Bool} {cs : List Value} {x : DataW H × List MemPlace}
  (h : DataW.trod enc Try.prog W base sp held fuel 22 cs = some x) : ∃ v ts, cs = [v] ∧ StepsAt (Eng.old W) v ts ∧ ts.length ≤ maxLen := by
 obtain ⟨v, rows, rfl, hR, hm, hrow⟩ := rows_old (sz := 3) Try.underlying22 (by kernel_rfl) (by decide) h
 have c3 : Try.prog.cellsOf 3 = 1 := by kernel_rfl
 obtain ⟨ts, rfl, _⟩ := rows_map (f := fun t : Int × Int × Int => [Value.int .i64 t.1, .int .i64 t.2.1, .int .i64 t.2.2]) (Q := fun _ => True) rows fun r hr => by
  obtain ⟨m, y, hy⟩ := hrow r hr
  obtain ⟨xs, m', _, _, hcl, hxl, hfld⟩ := DataW.trod_struct Try.underlying41 hy
  have hx3 : xs.length = 3 := hxl
  have f0 : DataW.trod enc Try.prog W base sp held m' 3 ((r.drop 0).take (Try.prog.cellsOf 3)) = xs[0]? := hfld 0 _ rfl
  have f1 : DataW.trod enc Try.prog W base sp held m' 3 ((r.drop 1).take (Try.prog.cellsOf 3)) = xs[1]? := hfld 1 _ rfl
  have f2 : DataW.trod enc Try.prog W base sp held m' 3 ((r.drop 2).take (Try.prog.cellsOf 3)) = xs[2]? := hfld 2 _ rfl
  rw [c3, List.getElem?_eq_getElem (by omega)] at f0 f1 f2
  obtain ⟨z0, e0, _, _⟩ := DataW.trod_int Try.underlying3 f0
  obtain ⟨z1, e1, _, _⟩ := DataW.trod_int Try.underlying3 f1
  obtain ⟨z2, e2, _, _⟩ := DataW.trod_int Try.underlying3 f2
  have hl3 : r.length = 3 := hcl.trans (by kernel_rfl)
  match r, hl3 with
  | [a, b, d], _ =>
   refine ⟨(z0, z1, z2), ?_, trivial⟩
   simp at e0 e1 e2
   rw [e0, e1, e2]
 obtain ⟨a, cap, rfl, hA⟩ := hR
 refine ⟨_, ts, rfl, ⟨a, cap, by rw [List.length_map], fun q => ?_⟩, by simpa using hm⟩
 obtain ⟨b, o, rfl, hA1⟩ := hA.1 (by simpa using q)
 exact ⟨b, o, rfl, fun i t ht j x hx => hA1 i _ (by rw [List.getElem?_map, ht]; rfl) j x hx⟩
end Go.Proofs.Ytjekhcojebgpnaa.RowOr
end
