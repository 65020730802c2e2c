/- The arguments of larderlaw11's statements over plans, as facts on what lay there before. -/
import Derived.Test.YtgijnebgchkenaaGreatDoorRowMore
import Derived.Test.YtgijnebgchkenaaGreatDoorOver
set_option linter.unusedVariables false
set_option linter.unusedSimpArgs false
set_option maxRecDepth 100000
namespace Go.Proofs.YtgijnebgchkenaaGreatDoor.RowKit
open Go.ChangeShapes Go.WideShapes Go.ChangeAt Go.RowKit Go.Proofs Go.Proofs.YtgijnebgchkenaaGreatDoor.Eng Go.Proofs.YtgijnebgchkenaaGreatDoor.Ref03 Go.Proofs.YtgijnebgchkenaaGreatDoor.Ctrl Go.Proofs.YtgijnebgchkenaaGreatDoor.CtrlB Go.Proofs.YtgijnebgchkenaaGreatDoor.Oracle

theorem gOdd : Tryz.prog.globalNamed "larder/oracle.odd" = some 0 := by kernel_rfl
theorem tOdd : (Tryz.prog.globals[0]?).map (·.type) = some 229 := by kernel_rfl
theorem odd_of {W : World} {enc : TypeId × Value → Unit} {g : Nat} {t : TypeId} {cs : Array Value} {fuel : Nat} {p : List MemPlace} {held : Bool} {sp : Nat → Bool} (hg : Tryz.prog.globalNamed "larder/oracle.odd" = some g) (ht : (Tryz.prog.globals[g]?).map (·.type) = some t)
    (hv : W.var? Tryz.prog "larder/oracle.odd" = some cs) (hd : DataW.trod enc Tryz.prog W 0 sp held fuel t cs.toList = some (Rows.laid_larder_oracle_odd, p)) : OddOk (Eng.old W) := by
  obtain rfl := Option.some.inj (gOdd.symm.trans hg)
  obtain rfl := Option.some.inj (tOdd.symm.trans ht)
  obtain ⟨xs, m, _, ex, _, hl, hel⟩ := DataW.trod_array Tryz.underlying229 hd
  have c5 : Tryz.prog.cellsOf 52 = 1 := by kernel_rfl
  have e3 : (xs.map (·.1)) = [.lit (.int .u64 13234230157428861123), .lit (.int .u64 11329751410908088055)] := (DataW.agg.inj (Prod.mk.inj ex).1).symm
  have key : ∀ i (hi : i < 2) n, (xs.map (·.1))[i]? = some (DataW.lit (.int .u64 n)) → CellAt (Eng.old W) ⟨0, i, none⟩ (.int .u64 n) := fun i hi n hn => cell_old (by
    have hE := hel i hi
    rw [c5, Nat.mul_one, List.getElem?_eq_getElem (by omega)] at hE
    obtain ⟨z, e1, e2, _⟩ := DataW.trod_int Tryz.underlying52 hE
    rw [List.getElem?_map, List.getElem?_eq_getElem (by omega : i < xs.length), Option.map_some, e2] at hn
    have hz : z = n := by simpa using hn
    rw [World.var?_cell gOdd hv i, ← hz]
    have h0 : ((cs.toList.drop i).take 1)[0]? = some (.int .u64 z) := by rw [e1]; rfl
    simpa using h0)
  exact ⟨key 0 (by decide) _ (by rw [e3]; rfl), key 1 (by decide) _ (by rw [e3]; rfl)⟩
theorem laid_both {W : World} (h : laidMetH Tryz.prog [("larder/oracle.odd", Rows.laid_larder_oracle_odd), ("math/bits.deBruijn64tab", Rows.laid_math_bits_deBruijn64tab)] W) : OddOk (Eng.old W) ∧ TabOk (Eng.old W) := by
  rw [MakeChecks.laidMetH_plain _ _ _ (by kernel_rfl)] at h
  obtain ⟨ps, ⟨g, t, cs, fuel, p, q, hg, ht, hv, hd, ⟨g', t', cs', fuel', p', q', hg', ht', hv', hd', _, _⟩, _⟩, _, _⟩ := h
  exact ⟨odd_of hg ht hv hd, tab_of hg' ht' hv' hd'⟩
/-- A slice of overrides among the arguments. -/
theorem overs_old {H : Type} {enc : TypeId × Value → H} {W : World} {base : Nat} {held : Bool} {fuel : Nat} {sp : Nat → Bool} {cs : List Value} {x : DataW H × List MemPlace}
    (h : DataW.trod enc Tryz.prog W base sp held fuel 87 cs = some x) : ∃ v os, cs = [v] ∧ OversAt (Eng.old W) v os ∧ (∀ n c, v = .slice none n c → c = 0 ∧ os = []) ∧ ∀ o ∈ os, 0 ≤ o.2 ∧ o.2 < 18446744073709551616 := by
  obtain ⟨v, rows, rfl, hR, hm, hrow⟩ := rows_old (sz := 2) Tryz.underlying87 (by kernel_rfl) (by decide) h
  have c3 : Tryz.prog.cellsOf 9 = 1 := by kernel_rfl
  have c4 : Tryz.prog.cellsOf 52 = 1 := by kernel_rfl
  obtain ⟨os, rfl, hw⟩ := rows_map (f := overC) (Q := fun o => 0 ≤ o.2 ∧ o.2 < 18446744073709551616) rows fun r hr => by
    obtain ⟨m, y, hy⟩ := hrow r hr
    obtain ⟨xs, m', _, _, hcl, hxl, hfld⟩ := DataW.trod_struct Tryz.underlying152 hy
    have hx3 : xs.length = 2 := hxl
    have f0 : DataW.trod enc Tryz.prog W base sp held m' 9 ((r.drop 0).take (Tryz.prog.cellsOf 9)) = xs[0]? := hfld 0 _ rfl
    have f1 : DataW.trod enc Tryz.prog W base sp held m' 52 ((r.drop 1).take (Tryz.prog.cellsOf 52)) = xs[1]? := hfld 1 _ rfl
    rw [c3, List.getElem?_eq_getElem (by omega)] at f0
    rw [c4, List.getElem?_eq_getElem (by omega)] at f1
    obtain ⟨z0, e0, _, _⟩ := DataW.trod_string Tryz.underlying9 f0
    obtain ⟨z1, e1, _, w1⟩ := DataW.trod_int Tryz.underlying52 f1
    have hl3 : r.length = 2 := hcl.trans (by kernel_rfl)
    match r, hl3 with
    | [a, b], _ =>
      refine ⟨(z0, z1), ?_, wf_u64 w1⟩
      simp at e0 e1
      rw [e0, e1]; rfl
  obtain ⟨a, cap, rfl, hA, hnil⟩ := hR
  refine ⟨_, os, rfl, ⟨a, cap, by rw [List.length_map], fun q => ?_⟩, fun n c e => ?_, hw⟩
  · obtain ⟨b, o, rfl, hA1⟩ := hA (by simpa using q)
    exact ⟨b, o, rfl, fun i t ht j x hx => hA1 i (overC t) (by rw [List.getElem?_map, ht]; rfl) j x hx⟩
  · cases e
    obtain ⟨h1, h2⟩ := hnil rfl
    exact ⟨h1, by simpa using h2⟩
/-- A slice of turns among the arguments. -/
theorem turns11_old {H : Type} {enc : TypeId × Value → H} {W : World} {base : Nat} {held : Bool} {fuel : Nat} {sp : Nat → Bool} {cs : List Value} {x : DataW H × List MemPlace}
    (h : DataW.trod enc Tryz.prog W base sp held fuel 88 cs = some x) : ∃ v ts, cs = [v] ∧ TurnsAt (Eng.old W) v ts ∧ ts.length ≤ maxLen := by
  obtain ⟨v, rows, rfl, hR, hm, hrow⟩ := rows_old (sz := 3) Tryz.underlying88 (by kernel_rfl) (by decide) h
  have c3 : Tryz.prog.cellsOf 3 = 1 := by kernel_rfl
  obtain ⟨ts, rfl, _⟩ := rows_map (f := turnC) (Q := fun _ => True) rows fun r hr => by
    obtain ⟨m, y, hy⟩ := hrow r hr
    obtain ⟨xs, m', _, _, hcl, hxl, hfld⟩ := DataW.trod_struct Tryz.underlying103 hy
    have hx3 : xs.length = 3 := hxl
    have f0 : DataW.trod enc Tryz.prog W base sp held m' 3 ((r.drop 0).take (Tryz.prog.cellsOf 3)) = xs[0]? := hfld 0 _ rfl
    have f1 : DataW.trod enc Tryz.prog W base sp held m' 3 ((r.drop 1).take (Tryz.prog.cellsOf 3)) = xs[1]? := hfld 1 _ rfl
    have f2 : DataW.trod enc Tryz.prog W base sp held m' 3 ((r.drop 2).take (Tryz.prog.cellsOf 3)) = xs[2]? := hfld 2 _ rfl
    rw [c3, List.getElem?_eq_getElem (by omega)] at f0 f1 f2
    obtain ⟨z0, e0, _, _⟩ := DataW.trod_int Tryz.underlying3 f0
    obtain ⟨z1, e1, _, w1⟩ := DataW.trod_int Tryz.underlying3 f1
    obtain ⟨z2, e2, _, _⟩ := DataW.trod_int Tryz.underlying3 f2
    have hl3 : r.length = 3 := hcl.trans (by kernel_rfl)
    match r, hl3 with
    | [a, b, c], _ =>
      refine ⟨(z0, z1, z2), ?_, trivial⟩
      simp at e0 e1 e2
      rw [e0, e1, e2]; rfl
  obtain ⟨a, cap, rfl, hA, _⟩ := hR
  refine ⟨_, ts, rfl, ⟨a, cap, by rw [List.length_map], fun q => ?_⟩, by simpa using hm⟩
  obtain ⟨b, o, rfl, hA1⟩ := hA (by simpa using q)
  exact ⟨b, o, rfl, fun i t ht j x hx => hA1 i (turnC t) (by rw [List.getElem?_map, ht]; rfl) j x hx⟩
/-- A plan among the arguments. -/
theorem plan11_old {H : Type} {enc : TypeId × Value → H} {W : World} {base : Nat} {held : Bool} {fuel : Nat} {sp : Nat → Bool} {cs : Array Value} {x : DataW H × List MemPlace} (hcs : cs.toList.length = Tryz.prog.cellsOf 90) (hsp : sp = fun _ => true)
    (h : DataW.trod enc Tryz.prog W base sp held fuel 90 cs.toList = some x) : ∃ vf vo vt sd xs os ts, cs = #[vf, vo, .int .u64 sd, vt] ∧ IntsAt (Eng.old W) vf xs ∧ OversAt (Eng.old W) vo os ∧ (∀ n c, vo = .slice none n c → c = 0 ∧ os = []) ∧ (∀ o ∈ os, 0 ≤ o.2 ∧ o.2 < 18446744073709551616) ∧
      TurnsAt (Eng.old W) vt ts ∧ ts.length ≤ maxLen ∧ 0 ≤ sd ∧ sd < 18446744073709551616 := by
  subst hsp
  have c25 : Tryz.prog.cellsOf 90 = 4 := by kernel_rfl
  have c22 : Tryz.prog.cellsOf 22 = 1 := by kernel_rfl
  have c3 : Tryz.prog.cellsOf 3 = 1 := by kernel_rfl
  have c56 : Tryz.prog.cellsOf 87 = 1 := by kernel_rfl
  have c23 : Tryz.prog.cellsOf 52 = 1 := by kernel_rfl
  have c57 : Tryz.prog.cellsOf 88 = 1 := by kernel_rfl
  obtain ⟨a, b, c, d, rfl⟩ := arr4 (cs := cs) (by rw [hcs, c25])
  obtain ⟨xs, m, _, _, _, hxl, hfld⟩ := DataW.trod_struct Tryz.underlying90 h
  have hx4 : xs.length = 4 := hxl
  have f0 : DataW.trod enc Tryz.prog W base (fun _ => true) held m 22 (((#[a, b, c, d] : Array Value).toList.drop 0).take (Tryz.prog.cellsOf 22)) = xs[0]? := hfld 0 _ rfl
  rw [c22, List.getElem?_eq_getElem (by omega)] at f0
  have f1 : DataW.trod enc Tryz.prog W base (fun _ => true) held m 87 (((#[a, b, c, d] : Array Value).toList.drop 1).take (Tryz.prog.cellsOf 87)) = xs[1]? := hfld 1 _ rfl
  rw [c56, List.getElem?_eq_getElem (by omega)] at f1
  have f2 : DataW.trod enc Tryz.prog W base (fun _ => true) held m 52 (((#[a, b, c, d] : Array Value).toList.drop 2).take (Tryz.prog.cellsOf 52)) = xs[2]? := hfld 2 _ rfl
  rw [c23, List.getElem?_eq_getElem (by omega)] at f2
  have f3 : DataW.trod enc Tryz.prog W base (fun _ => true) held m 88 (((#[a, b, c, d] : Array Value).toList.drop 3).take (Tryz.prog.cellsOf 88)) = xs[3]? := hfld 3 _ rfl
  rw [c57, List.getElem?_eq_getElem (by omega)] at f3
  obtain ⟨vf, zs, e0, hnum, _, _⟩ := nums_old Tryz.underlying22 Tryz.underlying3 c3 f0
  obtain ⟨vo, os, e1, hov, hn0, how⟩ := overs_old f1
  obtain ⟨z1, e2, _, w1⟩ := DataW.trod_int Tryz.underlying52 f2
  obtain ⟨vt, ts, e3, hts, hmt⟩ := turns11_old f3
  obtain rfl : a = vf := by simpa using e0
  obtain rfl : b = vo := by simpa using e1
  obtain rfl : c = .int .u64 z1 := by simpa using e2
  obtain rfl : d = vt := by simpa using e3
  have b1 := wf_u64 w1
  exact ⟨a, b, d, z1, zs, os, ts, rfl, hnum, hov, hn0, how, hts, hmt, b1.1, b1.2⟩
end Go.Proofs.YtgijnebgchkenaaGreatDoor.RowKit
