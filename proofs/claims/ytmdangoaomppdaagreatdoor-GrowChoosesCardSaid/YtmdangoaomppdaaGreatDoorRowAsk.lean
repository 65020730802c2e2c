import Derived.Test.YtmdangoaomppdaaGreatDoorRowMore
import Derived.Test.YtmdangoaomppdaaGreatDoorOver
import Derived.Test.YtmdangoaomppdaaGreatDoorGrowF
section
/- The arguments of larderlaw11's statements over plans, as facts on what lay there before. -/
set_option linter.unusedVariables false
set_option linter.unusedSimpArgs false
set_option maxRecDepth 100000
namespace Go.Proofs.YtmdangoaomppdaaGreatDoor.RowKit
open Go.ChangeShapes Go.WideShapes Go.ChangeAt Go.RowKit Go.Proofs Go.Proofs.YtmdangoaomppdaaGreatDoor.Eng Go.Proofs.YtmdangoaomppdaaGreatDoor.Ref03 Go.Proofs.YtmdangoaomppdaaGreatDoor.Ctrl Go.Proofs.YtmdangoaomppdaaGreatDoor.CtrlB Go.Proofs.YtmdangoaomppdaaGreatDoor.Oracle

theorem gOdd : Tryz.prog.globalNamed "larder/oracle.odd" = some 0 := by kernel_rfl
theorem tOdd : (Tryz.prog.globals[0]?).map (·.type) = some 201 := by kernel_rfl
theorem odd_of {W : World} {enc : TypeId × Value → Unit} {g : Nat} {t : TypeId} {cs : Array Value} {fuel : Nat} {p : List MemPlace} {held : Bool} {sp : Nat → Bool} (hg : Tryz.prog.globalNamed "larder/oracle.odd" = some g) (ht : (Tryz.prog.globals[g]?).map (·.type) = some t)
    (hv : W.var? Tryz.prog "larder/oracle.odd" = some cs) (hd : DataW.trod enc Tryz.prog W 0 sp held fuel t cs.toList = some (Rows.laid_larder_oracle_odd, p)) : OddOk (Eng.old W) := by
  obtain rfl := Option.some.inj (gOdd.symm.trans hg)
  obtain rfl := Option.some.inj (tOdd.symm.trans ht)
  obtain ⟨xs, m, _, ex, _, hl, hel⟩ := DataW.trod_array Tryz.underlying201 hd
  have c5 : Tryz.prog.cellsOf 22 = 1 := by kernel_rfl
  have e3 : (xs.map (·.1)) = [.lit (.int .u64 13234230157428861123), .lit (.int .u64 11329751410908088055)] := (DataW.agg.inj (Prod.mk.inj ex).1).symm
  have key : ∀ i (hi : i < 2) n, (xs.map (·.1))[i]? = some (DataW.lit (.int .u64 n)) → CellAt (Eng.old W) ⟨0, i, none⟩ (.int .u64 n) := fun i hi n hn => cell_old (by
    have hE := hel i hi
    rw [c5, Nat.mul_one, List.getElem?_eq_getElem (by omega)] at hE
    obtain ⟨z, e1, e2, _⟩ := DataW.trod_int Tryz.underlying22 hE
    rw [List.getElem?_map, List.getElem?_eq_getElem (by omega : i < xs.length), Option.map_some, e2] at hn
    have hz : z = n := by simpa using hn
    rw [World.var?_cell gOdd hv i, ← hz]
    have h0 : ((cs.toList.drop i).take 1)[0]? = some (.int .u64 z) := by rw [e1]; rfl
    simpa using h0)
  exact ⟨key 0 (by decide) _ (by rw [e3]; rfl), key 1 (by decide) _ (by rw [e3]; rfl)⟩
theorem laid_both {W : World} (h : laidMetH Tryz.prog [("larder/oracle.odd", Rows.laid_larder_oracle_odd), ("math/bits.deBruijn64tab", Rows.laid_math_bits_deBruijn64tab)] W) : OddOk (Eng.old W) ∧ TabOk (Eng.old W) := by
  rw [MakeChecks.laidMetH_plain _ _ _ (by kernel_rfl)] at h
  obtain ⟨ps, ⟨g, t, cs, fuel, p, q, hg, ht, hv, hd, ⟨g', t', cs', fuel', p', q', hg', ht', hv', hd', _, _⟩, _⟩, _, _⟩ := h
  exact ⟨odd_of hg ht hv hd, tab_of hg' ht' hv' hd'⟩
/-- A slice of overrides among the arguments. -/
theorem overs_old {H : Type} {enc : TypeId × Value → H} {W : World} {base : Nat} {held : Bool} {fuel : Nat} {sp : Nat → Bool} {cs : List Value} {x : DataW H × List MemPlace}
    (h : DataW.trod enc Tryz.prog W base sp held fuel 50 cs = some x) : ∃ v os, cs = [v] ∧ OversAt (Eng.old W) v os ∧ (∀ n c, v = .slice none n c → c = 0 ∧ os = []) ∧ ∀ o ∈ os, 0 ≤ o.2 ∧ o.2 < 18446744073709551616 := by
  obtain ⟨v, rows, rfl, hR, hm, hrow⟩ := rows_old (sz := 2) Tryz.underlying50 (by kernel_rfl) (by decide) h
  have c3 : Tryz.prog.cellsOf 9 = 1 := by kernel_rfl
  have c4 : Tryz.prog.cellsOf 22 = 1 := by kernel_rfl
  obtain ⟨os, rfl, hw⟩ := rows_map (f := overC) (Q := fun o => 0 ≤ o.2 ∧ o.2 < 18446744073709551616) rows fun r hr => by
    obtain ⟨m, y, hy⟩ := hrow r hr
    obtain ⟨xs, m', _, _, hcl, hxl, hfld⟩ := DataW.trod_struct Tryz.underlying142 hy
    have hx3 : xs.length = 2 := hxl
    have f0 : DataW.trod enc Tryz.prog W base sp held m' 9 ((r.drop 0).take (Tryz.prog.cellsOf 9)) = xs[0]? := hfld 0 _ rfl
    have f1 : DataW.trod enc Tryz.prog W base sp held m' 22 ((r.drop 1).take (Tryz.prog.cellsOf 22)) = xs[1]? := hfld 1 _ rfl
    rw [c3, List.getElem?_eq_getElem (by omega)] at f0
    rw [c4, List.getElem?_eq_getElem (by omega)] at f1
    obtain ⟨z0, e0, _, _⟩ := DataW.trod_string Tryz.underlying9 f0
    obtain ⟨z1, e1, _, w1⟩ := DataW.trod_int Tryz.underlying22 f1
    have hl3 : r.length = 2 := hcl.trans (by kernel_rfl)
    match r, hl3 with
    | [a, b], _ =>
      refine ⟨(z0, z1), ?_, wf_u64 w1⟩
      simp at e0 e1
      rw [e0, e1]; rfl
  obtain ⟨a, cap, rfl, hA, hnil⟩ := hR
  refine ⟨_, os, rfl, ⟨a, cap, by rw [List.length_map], fun q => ?_⟩, fun n c e => ?_, hw⟩
  · obtain ⟨b, o, rfl, hA1⟩ := hA (by simpa using q)
    exact ⟨b, o, rfl, fun i t ht j x hx => hA1 i (overC t) (by rw [List.getElem?_map, ht]; rfl) j x hx⟩
  · cases e
    obtain ⟨h1, h2⟩ := hnil rfl
    exact ⟨h1, by simpa using h2⟩
/-- A slice of turns among the arguments. -/
theorem turns11_old {H : Type} {enc : TypeId × Value → H} {W : World} {base : Nat} {held : Bool} {fuel : Nat} {sp : Nat → Bool} {cs : List Value} {x : DataW H × List MemPlace}
    (h : DataW.trod enc Tryz.prog W base sp held fuel 51 cs = some x) : ∃ v ts, cs = [v] ∧ TurnsAt (Eng.old W) v ts ∧ ts.length ≤ maxLen := by
  obtain ⟨v, rows, rfl, hR, hm, hrow⟩ := rows_old (sz := 3) Tryz.underlying51 (by kernel_rfl) (by decide) h
  have c3 : Tryz.prog.cellsOf 3 = 1 := by kernel_rfl
  obtain ⟨ts, rfl, _⟩ := rows_map (f := turnC) (Q := fun _ => True) rows fun r hr => by
    obtain ⟨m, y, hy⟩ := hrow r hr
    obtain ⟨xs, m', _, _, hcl, hxl, hfld⟩ := DataW.trod_struct Tryz.underlying61 hy
    have hx3 : xs.length = 3 := hxl
    have f0 : DataW.trod enc Tryz.prog W base sp held m' 3 ((r.drop 0).take (Tryz.prog.cellsOf 3)) = xs[0]? := hfld 0 _ rfl
    have f1 : DataW.trod enc Tryz.prog W base sp held m' 3 ((r.drop 1).take (Tryz.prog.cellsOf 3)) = xs[1]? := hfld 1 _ rfl
    have f2 : DataW.trod enc Tryz.prog W base sp held m' 3 ((r.drop 2).take (Tryz.prog.cellsOf 3)) = xs[2]? := hfld 2 _ rfl
    rw [c3, List.getElem?_eq_getElem (by omega)] at f0 f1 f2
    obtain ⟨z0, e0, _, _⟩ := DataW.trod_int Tryz.underlying3 f0
    obtain ⟨z1, e1, _, w1⟩ := DataW.trod_int Tryz.underlying3 f1
    obtain ⟨z2, e2, _, _⟩ := DataW.trod_int Tryz.underlying3 f2
    have hl3 : r.length = 3 := hcl.trans (by kernel_rfl)
    match r, hl3 with
    | [a, b, c], _ =>
      refine ⟨(z0, z1, z2), ?_, trivial⟩
      simp at e0 e1 e2
      rw [e0, e1, e2]; rfl
  obtain ⟨a, cap, rfl, hA, _⟩ := hR
  refine ⟨_, ts, rfl, ⟨a, cap, by rw [List.length_map], fun q => ?_⟩, by simpa using hm⟩
  obtain ⟨b, o, rfl, hA1⟩ := hA (by simpa using q)
  exact ⟨b, o, rfl, fun i t ht j x hx => hA1 i (turnC t) (by rw [List.getElem?_map, ht]; rfl) j x hx⟩
/-- A plan among the arguments. -/
theorem plan11_old {H : Type} {enc : TypeId × Value → H} {W : World} {base : Nat} {held : Bool} {fuel : Nat} {sp : Nat → Bool} {cs : Array Value} {x : DataW H × List MemPlace} (hcs : cs.toList.length = Tryz.prog.cellsOf 53) (hsp : sp = fun _ => true)
    (h : DataW.trod enc Tryz.prog W base sp held fuel 53 cs.toList = some x) : ∃ vf vo vt sd xs os ts, cs = #[vf, vo, .int .u64 sd, vt] ∧ IntsAt (Eng.old W) vf xs ∧ OversAt (Eng.old W) vo os ∧ (∀ n c, vo = .slice none n c → c = 0 ∧ os = []) ∧ (∀ o ∈ os, 0 ≤ o.2 ∧ o.2 < 18446744073709551616) ∧
      TurnsAt (Eng.old W) vt ts ∧ ts.length ≤ maxLen ∧ 0 ≤ sd ∧ sd < 18446744073709551616 := by
  subst hsp
  have c25 : Tryz.prog.cellsOf 53 = 4 := by kernel_rfl
  have c22 : Tryz.prog.cellsOf 49 = 1 := by kernel_rfl
  have c3 : Tryz.prog.cellsOf 3 = 1 := by kernel_rfl
  have c56 : Tryz.prog.cellsOf 50 = 1 := by kernel_rfl
  have c23 : Tryz.prog.cellsOf 22 = 1 := by kernel_rfl
  have c57 : Tryz.prog.cellsOf 51 = 1 := by kernel_rfl
  obtain ⟨a, b, c, d, rfl⟩ := arr4 (cs := cs) (by rw [hcs, c25])
  obtain ⟨xs, m, _, _, _, hxl, hfld⟩ := DataW.trod_struct Tryz.underlying53 h
  have hx4 : xs.length = 4 := hxl
  have f0 : DataW.trod enc Tryz.prog W base (fun _ => true) held m 49 (((#[a, b, c, d] : Array Value).toList.drop 0).take (Tryz.prog.cellsOf 49)) = xs[0]? := hfld 0 _ rfl
  rw [c22, List.getElem?_eq_getElem (by omega)] at f0
  have f1 : DataW.trod enc Tryz.prog W base (fun _ => true) held m 50 (((#[a, b, c, d] : Array Value).toList.drop 1).take (Tryz.prog.cellsOf 50)) = xs[1]? := hfld 1 _ rfl
  rw [c56, List.getElem?_eq_getElem (by omega)] at f1
  have f2 : DataW.trod enc Tryz.prog W base (fun _ => true) held m 22 (((#[a, b, c, d] : Array Value).toList.drop 2).take (Tryz.prog.cellsOf 22)) = xs[2]? := hfld 2 _ rfl
  rw [c23, List.getElem?_eq_getElem (by omega)] at f2
  have f3 : DataW.trod enc Tryz.prog W base (fun _ => true) held m 51 (((#[a, b, c, d] : Array Value).toList.drop 3).take (Tryz.prog.cellsOf 51)) = xs[3]? := hfld 3 _ rfl
  rw [c57, List.getElem?_eq_getElem (by omega)] at f3
  obtain ⟨vf, zs, e0, hnum, _, _⟩ := nums_old Tryz.underlying49 Tryz.underlying3 c3 f0
  obtain ⟨vo, os, e1, hov, hn0, how⟩ := overs_old f1
  obtain ⟨z1, e2, _, w1⟩ := DataW.trod_int Tryz.underlying22 f2
  obtain ⟨vt, ts, e3, hts, hmt⟩ := turns11_old f3
  obtain rfl : a = vf := by simpa using e0
  obtain rfl : b = vo := by simpa using e1
  obtain rfl : c = .int .u64 z1 := by simpa using e2
  obtain rfl : d = vt := by simpa using e3
  have b1 := wf_u64 w1
  exact ⟨a, b, d, z1, zs, os, ts, rfl, hnum, hov, hn0, how, hts, hmt, b1.1, b1.2⟩
end Go.Proofs.YtmdangoaomppdaaGreatDoor.RowKit
end
section
/- GrowChooses answers true. -/
set_option linter.unusedVariables false
set_option linter.unusedSimpArgs false
set_option maxRecDepth 100000
namespace Go.Proofs.YtmdangoaomppdaaGreatDoor.Grow
open Go.RowKit Go.Proofs Go.Proofs.YtmdangoaomppdaaGreatDoor.Eng Go.Proofs.YtmdangoaomppdaaGreatDoor.Ty Go.Proofs.YtmdangoaomppdaaGreatDoor.Bits Go.Proofs.YtmdangoaomppdaaGreatDoor.Mem Go.Proofs.YtmdangoaomppdaaGreatDoor.CtrlB Go.Proofs.YtmdangoaomppdaaGreatDoor.Ctrl Go.Proofs.YtmdangoaomppdaaGreatDoor.Oracle

/-- An ask: used, slots, depth, limit, what else. -/
structure AskT where
  us : Int
  sl : Int
  dp : Int
  lm : Int
  ot : Int
def AskT.cells (a : AskT) : List Value := [.int .i64 a.us, .int .i64 a.sl, .int .i64 a.dp, .int .i64 a.lm, .int .i64 a.ot]
def AskT.wf (a : AskT) : Prop := -9223372036854775808 ≤ a.lm ∧ a.lm ≤ 9223372036854775807
/-- A slice of asks that can be read in the piece A. -/
def AsksAt (A : HP) (v : Value) (aks : List AskT) : Prop := ∃ a cap, v = .slice a aks.length cap ∧ (0 < aks.length → ∃ b o, a = some ⟨b, o, none⟩ ∧ ∀ (i : Nat) t, aks[i]? = some t → ∀ (j : Nat) x, t.cells[j]? = some x → CellAt A ⟨b, o + i * 5 + j, none⟩ x)
theorem ask_cell {A : HP} {aks : List AskT} {b o i : Nat} {t : AskT} (h : ∀ (i : Nat) t, aks[i]? = some t → ∀ (j : Nat) x, t.cells[j]? = some x → CellAt A ⟨b, o + i * 5 + j, none⟩ x) (ht : aks[i]? = some t) :
    ∀ j x, [Value.int .i64 t.us, .int .i64 t.sl, .int .i64 t.dp, .int .i64 t.lm, .int .i64 t.ot][j]? = some x → CellAt A ((⟨b, o + (i : Int).toNat * 5, none⟩ : Addr).add j) x := by
  rw [Int.toNat_natCast]
  exact fun j x hx => by rw [add_none]; exact h i t ht j x hx
theorem GrowChooses_ok (G : HP) (hGT : TabOk G) (hGO : OddOk G) (va : Value) (aks : List AskT) (hA : AsksAt G va aks) (hwf : ∀ a ∈ aks, a.wf) (hlen : aks.length ≤ 9223372036854775807) :
    FnOk Tryz.prog 5 #[va] [G] (fun v L => v = .bool true ∧ L = [G]) := by
  obtain ⟨a, cap, rfl, hA1⟩ := hA
  refine fn_intro en5 Tryz.func5 rfl rfl rfl fun Fr w0 => t_nm ?_
  refine sr <| asg rfl rfl <| lc <| t_seq <| sr <| asg rfl rfl <| lc <| t_block ?_
  refine t_loop (fun i : Nat => i ≤ aks.length) (fun i => [(0, .slice a aks.length cap), (3, .int .i64 (i : Nat))]) (fun _ => G :: Fr) (fun i => aks.length - i) 0 (Nat.zero_le _) ⟨rfl, rfl, trivial⟩ (by (exact en)) ?_
  intro i hi
  refine t_seq <| sr <| mv rfl rfl <| mv rfl rfl <| l_q rfl (ql rfl yU75) <| l_q rfl (qi rfl rfl (b_lss ·)) <| lc <| t_if rfl (fun h1 => ?_) fun h1 => ?_
  · skip
    obtain ⟨b, o, rfl, hA2⟩ := hA1 (by omega)
    obtain ⟨t, ht⟩ : ∃ t, aks[i]? = some t := ⟨aks[i], List.getElem?_eq_getElem (by omega)⟩
    have hc := ask_cell hA2 ht
    have hw := hwf t (List.mem_of_getElem? ht)
    refine t_skip <| n_code <| t_seq <| t_block <| sr <| mv rfl rfl <| mv rfl rfl <| l_q rfl (q_indexAddr rfl rfl yU75 yS77 (by omega)) ?_
    refine l_q rfl (q_loadRA (A := G) (us := [.int .i64 t.us, .int .i64 t.sl, .int .i64 t.dp, .int .i64 t.lm, .int .i64 t.ot]) rfl yA77 yS77 rfl tk hc) ?_
    refine o_allocA rfl yZ77 fun b4 => sta rfl rfl rfl yS77 rfl rfl ?_
    refine lz <| l_q rfl (qfa 0 rfl yU77 rfl rfl yS3) <| l_q rfl (qld rfl yA3) ?_
    refine l_q rfl (qfa 1 rfl yU77 rfl rfl yS3) <| l_q rfl (qld rfl yA3) ?_
    refine l_q rfl (qfa 2 rfl yU77 rfl rfl yS3) <| l_q rfl (qld rfl yA3) ?_
    refine l_q rfl (qfa 4 rfl yU77 rfl rfl yS3) <| l_q rfl (qld rfl yA3) ?_
    refine l_q rfl (qfa 4 rfl yU77 rfl rfl yS3) <| l_q rfl (qld rfl yA3) ?_
    refine l_q rfl (qfa 4 rfl yU77 rfl rfl yS3) <| l_q rfl (qld rfl yA3) ?_
    refine l_q rfl (qfa 4 rfl yU77 rfl rfl yS3) <| l_q rfl (qld rfl yA3) ?_
    refine l_q rfl (qfa 4 rfl yU77 rfl rfl yS3) <| l_q rfl (qld rfl yA3) ?_
    refine l_q rfl (qrem rfl rfl) ?_
    refine l_q rfl (qi rfl rfl (b_eql ·)) ?_
    apply l_q rfl
    · apply q_buildS rfl yP39 yZ39
      · apply FillR.one
        · repeat (first | exact PlAt.here | apply PlAt.there)
        · rfl
        · exact sa
        apply FillR.one
        · repeat (first | exact PlAt.here | apply PlAt.there)
        · rfl
        · exact sa
        apply FillR.one
        · repeat (first | exact PlAt.here | apply PlAt.there)
        · rfl
        · exact sa
        apply FillR.one
        · repeat (first | exact PlAt.here | apply PlAt.there)
        · rfl
        · exact sa
        apply FillR.one
        · repeat (first | exact PlAt.here | apply PlAt.there)
        · rfl
        · exact sa
        apply FillR.one
        · repeat (first | exact PlAt.here | apply PlAt.there)
        · rfl
        · exact sa
        apply FillR.one
        · repeat (first | exact PlAt.here | apply PlAt.there)
        · rfl
        · exact sa
        apply FillR.one
        · repeat (first | exact PlAt.here | apply PlAt.there)
        · rfl
        · exact sa
        exact FillR.nil
    refine o_allocA rfl yZ39 fun b5 => sta rfl rfl rfl yS39 rfl rfl ?_
    refine lc <| t_seq <| t_draw mixed ?_
    apply dq 0 rfl
    · exact yq (qlda rfl yA39 yS39)
    apply dq 1 rfl
    · exact yq (qfa 3 rfl yU77 rfl rfl yS3)
    apply dq 2 rfl
    · exact yq (qld rfl yA3)
    apply dq 4 rfl
    · exact yq (qlda rfl yA39 yS39)
    apply dq 5 rfl
    · exact yq (qfa 3 rfl yU77 rfl rfl yS3)
    apply dq 6 rfl
    · exact yq (qld rfl yA3)
    refine d_eff1 [0, 2, 1] [6, 5, 4] 3 [(35, _), (37, _)] gO ⟨rfl, rfl, trivial⟩ (by kernel_rfl) (by kernel_rfl) fun Ex => ?_
    refine lc1 rfl rfl rfl (Choose_ok _ _ _ _ _ _ _ _ _ hw) ?_
    refine l_nil ?_
    apply n_d
    · refine ⟨?_, ?_, ?_, trivial⟩
      · apply ya rfl rfl; exact yq (qld rfl yA3)
      · apply ya rfl rfl; exact yq (qfa 3 rfl yU77 rfl rfl yS3)
      · apply ya rfl rfl; exact yq (qlda rfl yA39 yS39)
    refine d_eff1 [4, 6, 5] [] 7 [(39, _), (41, _)] gO ⟨rfl, rfl, trivial⟩ (by kernel_rfl) (by kernel_rfl) fun Ex => ?_
    refine lc1 rfl rfl rfl (rChoose_ok _ _ _ _ _ _ _ _ _ hw) ?_
    refine l_nil ?_
    apply n_d
    · exact trivial
    apply dq 8 rfl
    · exact yq (qi rfl rfl (b_neq ·))
    refine d_end (by kernel_rfl) ?_
    refine n_code <| t_if rfl (fun z => ?_) fun z => ?_
    · exact absurd rfl z
    · refine t_skip <| n_blk <| n_code <| t_region <| mv rfl rfl <| l_q rfl (qadd rfl rfl) ?_
      refine asg rfl rfl <| l_nil ?_
      apply n_again ((i + 1))
      · exact by omega
      · omega
      · exact ⟨rfl, rfl, trivial⟩
      · exact en
  · refine xt rfl <| nz <| lc1 rfl rfl rfl (fixed_ok G hGT hGO) ?_
    exact asg rfl rfl <| lc <| rt <| fr1 rfl ([G]) (.tmp rfl) ⟨rfl, rfl⟩
end Go.Proofs.YtmdangoaomppdaaGreatDoor.Grow
end
section
/- The arguments of larderlaw09's GrowChooses, as facts on what lay there before. -/
set_option linter.unusedVariables false
set_option linter.unusedSimpArgs false
set_option maxRecDepth 100000
namespace Go.Proofs.YtmdangoaomppdaaGreatDoor.RowKit
open Go.ChangeShapes Go.WideShapes Go.ChangeAt Go.RowKit Go.Proofs Go.Proofs.YtmdangoaomppdaaGreatDoor.Eng Go.Proofs.YtmdangoaomppdaaGreatDoor.Ctrl Go.Proofs.YtmdangoaomppdaaGreatDoor.CtrlB Go.Proofs.YtmdangoaomppdaaGreatDoor.Grow

/-- A slice of asks among the arguments. -/
theorem asks_old {H : Type} {enc : TypeId × Value → H} {W : World} {base : Nat} {held : Bool} {fuel : Nat} {sp : Nat → Bool} {cs : List Value} {x : DataW H × List MemPlace}
    (h : DataW.trod enc Tryz.prog W base sp held fuel 75 cs = some x) : ∃ v aks, cs = [v] ∧ AsksAt (Eng.old W) v aks ∧ aks.length ≤ maxLen ∧ ∀ a ∈ aks, AskT.wf a := by
  obtain ⟨v, rows, rfl, hR, hm, hrow⟩ := rows_old (sz := 5) Tryz.underlying75 (by kernel_rfl) (by decide) h
  have c3 : Tryz.prog.cellsOf 3 = 1 := by kernel_rfl
  obtain ⟨aks, rfl, hw⟩ := rows_map (f := AskT.cells) (Q := AskT.wf) rows fun r hr => by
    obtain ⟨m, y, hy⟩ := hrow r hr
    obtain ⟨xs, m', _, _, hcl, hxl, hfld⟩ := DataW.trod_struct Tryz.underlying77 hy
    have hx3 : xs.length = 5 := hxl
    have f0 : DataW.trod enc Tryz.prog W base sp held m' 3 ((r.drop 0).take (Tryz.prog.cellsOf 3)) = xs[0]? := hfld 0 _ rfl
    have f1 : DataW.trod enc Tryz.prog W base sp held m' 3 ((r.drop 1).take (Tryz.prog.cellsOf 3)) = xs[1]? := hfld 1 _ rfl
    have f2 : DataW.trod enc Tryz.prog W base sp held m' 3 ((r.drop 2).take (Tryz.prog.cellsOf 3)) = xs[2]? := hfld 2 _ rfl
    have f3 : DataW.trod enc Tryz.prog W base sp held m' 3 ((r.drop 3).take (Tryz.prog.cellsOf 3)) = xs[3]? := hfld 3 _ rfl
    have f4 : DataW.trod enc Tryz.prog W base sp held m' 3 ((r.drop 4).take (Tryz.prog.cellsOf 3)) = xs[4]? := hfld 4 _ rfl
    rw [c3, List.getElem?_eq_getElem (by omega)] at f0 f1 f2 f3 f4
    obtain ⟨z0, e0, _, w0⟩ := DataW.trod_int Tryz.underlying3 f0
    obtain ⟨z1, e1, _, w1⟩ := DataW.trod_int Tryz.underlying3 f1
    obtain ⟨z2, e2, _, w2⟩ := DataW.trod_int Tryz.underlying3 f2
    obtain ⟨z3, e3, _, w3⟩ := DataW.trod_int Tryz.underlying3 f3
    obtain ⟨z4, e4, _, w4⟩ := DataW.trod_int Tryz.underlying3 f4
    have hl3 : r.length = 5 := hcl.trans (by kernel_rfl)
    match r, hl3 with
    | [a, b, c, d, e], _ =>
      refine ⟨⟨z0, z1, z2, z3, z4⟩, ?_, wf_i64 w3⟩
      simp at e0 e1 e2 e3 e4
      rw [e0, e1, e2, e3, e4]; rfl
  obtain ⟨a, cap, rfl, hA, _⟩ := hR
  refine ⟨_, aks, rfl, ⟨a, cap, by rw [List.length_map], fun q => ?_⟩, by simpa using hm, hw⟩
  obtain ⟨b, o, rfl, hA1⟩ := hA (by simpa using q)
  exact ⟨b, o, rfl, fun i t ht j x hx => hA1 i t.cells (by rw [List.getElem?_map, ht]; rfl) j x hx⟩
end Go.Proofs.YtmdangoaomppdaaGreatDoor.RowKit
end
