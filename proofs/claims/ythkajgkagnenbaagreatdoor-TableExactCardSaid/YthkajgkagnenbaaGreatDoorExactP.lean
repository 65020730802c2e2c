/- A table's answers, all of them, dead ones and refused ones too, as functions of its state: the program's side. -/
import Derived.Test.YthkajgkagnenbaaGreatDoorExactB
import Derived.Test.YthkajgkagnenbaaGreatDoorTableX
import Derived.Test.YthkajgkagnenbaaGreatDoorTableD
set_option linter.unusedVariables false
set_option linter.unusedSimpArgs false
set_option linter.unusedSectionVars false
set_option maxRecDepth 100000
namespace Go.Proofs.YthkajgkagnenbaaGreatDoor.Exact
open Go.RowKit Go.Proofs Go.Proofs.YthkajgkagnenbaaGreatDoor.Eng Go.Proofs.YthkajgkagnenbaaGreatDoor.Ty Go.Proofs.YthkajgkagnenbaaGreatDoor.Bits Go.Proofs.YthkajgkagnenbaaGreatDoor.Mem Go.Proofs.YthkajgkagnenbaaGreatDoor.Search Go.Proofs.YthkajgkagnenbaaGreatDoor.Arena Go.Proofs.YthkajgkagnenbaaGreatDoor.CtrlB Go.Proofs.YthkajgkagnenbaaGreatDoor.Ctrl Go.Proofs.YthkajgkagnenbaaGreatDoor.Layout Go.Proofs.YthkajgkagnenbaaGreatDoor.GroupB Go.Proofs.YthkajgkagnenbaaGreatDoor.Group Go.Proofs.YthkajgkagnenbaaGreatDoor.Probe Go.Proofs.YthkajgkagnenbaaGreatDoor.TableB Go.Proofs.YthkajgkagnenbaaGreatDoor.TableI Go.Proofs.YthkajgkagnenbaaGreatDoor.Table Go.Proofs.YthkajgkagnenbaaGreatDoor.Bench Go.Proofs.YthkajgkagnenbaaGreatDoor.Cells Go.Proofs.YthkajgkagnenbaaGreatDoor.Refill

theorem FnOk.beside {P : Program} {f : FuncId} {args : Array Value} {D : List HP} {Post : Value → List HP → Prop} (h : FnOk P f args D Post) (X : HP) : FnOk P f args (X :: D) (fun v L => ∃ L0, L = X :: L0 ∧ Post v L0) :=
 ⟨h.enters, fun Fr w0 w hs he => (h.calls (X :: Fr) w0 w (hs.perm (by rw [List.cons_append]; exact List.perm_middle.symm)) he).mono fun _ _ ⟨v, L', e, p, s, x⟩ => ⟨v, X :: L', e, ⟨L', rfl, p⟩, s.perm (by rw [List.cons_append]; exact List.perm_middle), x⟩⟩

/-! ### The answers -/
section
variable (l : Lay) (x : PR)
def findX (h : Int) (key : ByteArray) : Int × Int := if x.dead then (0, 24) else if (key.size : Int) ≠ l.key then (0, 61) else ((searchR (h / 128) x.n x.T.cells (h % 128) key).slot, 0)
def probesX (h : Int) (key : ByteArray) : Int × Int := if x.dead then (0, 24) else if (key.size : Int) ≠ l.key then (0, 61) else ((searchR (h / 128) x.n x.T.cells (h % 128) key).probes, 0)
def getX (h : Int) (key : ByteArray) : Cell × Int := if x.dead then (.empty, 24) else if (key.size : Int) ≠ l.key then (.empty, 61) else (getC x.n x.T h key, 0)
def putX (h : Int) (key elem : ByteArray) (birth : Int) : Int × Int × Tb := if x.dead then (0, 24, x.T) else if (key.size : Int) ≠ l.key then (0, 61, x.T) else if (elem.size : Int) ≠ l.elem then (0, 62, x.T) else if birth < 0 then (0, 64, x.T) else ((putT x.n x.T h key elem birth).1, 0, (putT x.n x.T h key elem birth).2)
def delX (h : Int) (key : ByteArray) : Bool × Int × Tb := if x.dead then (false, 24, x.T) else if (key.size : Int) ≠ l.key then (false, 61, x.T) else ((delT x.n x.T h key).1, 0, (delT x.n x.T h key).2)
def leftX (v : Int) : Int × Tb := if x.dead then (24, x.T) else if v < -x.T.left ∨ 7 * (x.n : Int) - ((cnt isFull x.T.cells (8 * x.n) : Nat) : Int) - ((cnt isDel x.T.cells (8 * x.n) : Nat) : Int) - x.T.left < v then (82, x.T) else (0, { x.T with left := x.T.left + v })
def pinX (v : Int) : Int × Int × Tb := if x.dead then (0, 24, x.T) else if v < -x.T.pins ∨ 4611686018427387904 - x.T.pins < v then (0, 83, x.T) else (x.T.pins + v, 0, { x.T with pins := x.T.pins + v })
def retireX (v : Int) : Int × Tb := if x.dead then (24, x.T) else (0, { x.T with next := v, kind := 4 })
def nextX (v : Int) : Int × Tb := if x.dead then (24, x.T) else (0, { x.T with next := v })
def statX : Array Value × Int := if x.dead then (#[.int .i64 0, .int .i64 0, .int .i64 0, .int .i64 0, .int .i64 0, .int .i64 0, .bool false, .int .i64 0], 24) else (#[.int .i64 x.T.used, .int .i64 (8 * (x.n : Int)), .int .i64 x.T.left, .int .i64 x.T.depth, .int .i64 x.T.pins, .int .i64 x.T.next, .bool (decide (x.T.kind = 4)), .int .i64 (x.go : Nat)], 0)
def cellX (k : Int) : Cell × Int := if x.dead then (.empty, 24) else if k < 0 ∨ 8 * (x.n : Int) ≤ k then (.empty, 60) else (x.T.cells k.toNat, 0)
def freeX : Int := if x.dead then 24 else 0
end
/-- What a step does to one table and the arena. -/
structure Step (s s' : ArS) (l : Lay) (x : PR) (T' : Tb) : Prop where
 live : x.dead = false → SameBut s s' x.off x.go (x.n * gN l) ∧ TabP s' x.off x.go l x.n x.e T' ∧ TRng x.n T'
 gone : x.dead = true → s' = s ∧ T' = x.T
theorem Step.no {s : ArS} {l : Lay} {x : PR} (hO : One s l x) : Step s s l x x.T := ⟨fun hd => ⟨SameBut.refl _ _ _ _, (hO.live hd).1, hO.rng⟩, fun _ => ⟨rfl, rfl⟩⟩
theorem set_same {ps : List PR} {i : Nat} {x : PR} (hx : ps[i]? = some x) : ps.set i x = ps := by
 have hil : i < ps.length := by rcases Nat.lt_or_ge i ps.length with q | q; exact q; rw [List.getElem?_eq_none q] at hx; cases hx
 refine List.ext_getElem? fun j => ?_
 rw [List.getElem?_set]
 split
 ·next q => subst q; exact hx.symm
 ·rfl
theorem Step.all {s s' : ArS} (hs : s.ok) {l : Lay} {ps : List PR} (h : All s l ps) {i : Nat} {x : PR} (hx : ps[i]? = some x) {T' : Tb} (hS : Step s s' l x T') : All s' l (ps.set i { x with T := T' }) := by
 by_cases hd : x.dead = true
 ·obtain ⟨rfl, rfl⟩ := hS.gone hd
  rw [show ({ x with T := x.T } : PR) = x from rfl, set_same hx]
  exact h
 ·have hd : x.dead = false := by simpa using hd
  obtain ⟨a1, a2, a3⟩ := hS.live hd
  exact h.set hs hx hd a1 a2 a3
theorem Step.arena {s s' : ArS} {l : Lay} {x : PR} {T' : Tb} (hS : Step s s' l x T') : s'.limit = s.limit ∧ s'.all = s.all ∧ s'.dead = s.dead := by
 by_cases hd : x.dead = true
 ·obtain ⟨rfl, _⟩ := hS.gone hd; exact ⟨rfl, rfl, rfl⟩
 ·obtain ⟨a1, _, _⟩ := hS.live (by simpa using hd); exact ⟨a1.limit, a1.all, a1.dead⟩
section
variable (G : HP) (hG : TabOk G) (pa : Nat) (s : ArS) (hs : s.ok) (l : Lay) (hl : l.err = 0) (x : PR) (hO : One s l x) (hov : x.over = false)
include hs hl hO hov
theorem kgood {key : ByteArray} (h : ¬ (key.size : Int) ≠ l.key) : key.size = kN l := by
 have := (layN hl).k
 omega
theorem egood {key : ByteArray} (h : ¬ (key.size : Int) ≠ l.elem) : key.size = eN l := by
 have := (layN hl).e
 omega
theorem StatX : FnOk Tryz.prog 65 #[.agg #[.pointer (some ⟨pa, 0, none⟩), .int .i64 l.key, .int .i64 l.elem, .int .i64 l.ka, .int .i64 l.ea, .int .i64 l.cap, .int .i64 l.eo, .int .i64 l.bo, .int .i64 l.slot, .int .i64 l.group, .int .i64 (x.off : Nat)]] [arenaH pa s] (fun v L => v = .tuple #[.agg (statX x).1, .int .i64 (statX x).2] ∧ L = [arenaH pa s]) := by
 unfold statX
 cases hd : x.dead with
 | true =>
  obtain ⟨hng, hne⟩ := hO.not hs hd hov
  exact Stat_dead pa x.off s l hng hne hO.place
 | false => exact StatP_ok pa x.off x.go x.n x.e s l x.T (hO.live hd).1
theorem CellX (k : Int) : FnOk Tryz.prog 56 #[.agg #[.pointer (some ⟨pa, 0, none⟩), .int .i64 l.key, .int .i64 l.elem, .int .i64 l.ka, .int .i64 l.ea, .int .i64 l.cap, .int .i64 l.eo, .int .i64 l.bo, .int .i64 l.slot, .int .i64 l.group, .int .i64 (x.off : Nat)], .int .i64 k] [arenaH pa s] (fun v L => v = .tuple #[.agg #[.int .i64 (cellX x k).1.kind, .int .i64 (cellX x k).1.tagI, .string (cellX x k).1.keyS, .string (cellX x k).1.elemS, .int .i64 (cellX x k).1.birthI], .int .i64 (cellX x k).2] ∧ L = [arenaH pa s]) := by
 unfold cellX
 cases hd : x.dead with
 | true =>
  obtain ⟨hng, hne⟩ := hO.not hs hd hov
  exact Cell_dead pa x.off s l hng hne hO.place k
 | false =>
  by_cases hk : k < 0 ∨ 8 * (x.n : Int) ≤ k
  ·simp only [if_pos hk, Bool.false_eq_true, if_false]
   exact Cell_bad pa x.off x.go x.n x.e s l x.T (hO.live hd).1 k hk
  ·simp only [if_neg hk, Bool.false_eq_true, if_false]
   obtain ⟨j, rfl⟩ := Int.eq_ofNat_of_zero_le (show 0 ≤ k by omega)
   exact Cell_okP pa x.off x.go x.n x.e s l x.T (hO.live hd).1 j (by omega)
theorem NextX (v : Int) (hv : -9223372036854775808 ≤ v ∧ v ≤ 9223372036854775807) : FnOk Tryz.prog 90 #[.agg #[.pointer (some ⟨pa, 0, none⟩), .int .i64 l.key, .int .i64 l.elem, .int .i64 l.ka, .int .i64 l.ea, .int .i64 l.cap, .int .i64 l.eo, .int .i64 l.bo, .int .i64 l.slot, .int .i64 l.group, .int .i64 (x.off : Nat)], .int .i64 v] [arenaH pa s] (fun r L => ∃ s', r = .int .i64 (nextX x v).1 ∧ L = [arenaH pa s'] ∧ Step s s' l x (nextX x v).2) := by
 unfold nextX
 cases hd : x.dead with
 | true =>
  obtain ⟨hng, hne⟩ := hO.not hs hd hov
  exact (SetNext_dead pa x.off s l hng hne hO.place v).mono fun r L h => ⟨s, h.1, h.2, Step.no hO⟩
 | false =>
  exact (SetNext_ok pa x.off x.go x.n x.e s l x.T (hO.live hd).1 v hv).mono fun r L h => by
   obtain ⟨s', h1, h2, h3, h4⟩ := h
   exact ⟨s', h1, h2, fun _ => ⟨h4, h3, ⟨hO.rng.used, hO.rng.left0, hO.rng.left1, hO.rng.pins⟩⟩, fun q => by rw [hd] at q; cases q⟩
theorem RetireX (v : Int) (hv : -9223372036854775808 ≤ v ∧ v ≤ 9223372036854775807) : FnOk Tryz.prog 88 #[.agg #[.pointer (some ⟨pa, 0, none⟩), .int .i64 l.key, .int .i64 l.elem, .int .i64 l.ka, .int .i64 l.ea, .int .i64 l.cap, .int .i64 l.eo, .int .i64 l.bo, .int .i64 l.slot, .int .i64 l.group, .int .i64 (x.off : Nat)], .int .i64 v] [arenaH pa s] (fun r L => ∃ s', r = .int .i64 (retireX x v).1 ∧ L = [arenaH pa s'] ∧ Step s s' l x (retireX x v).2) := by
 unfold retireX
 cases hd : x.dead with
 | true =>
  obtain ⟨hng, hne⟩ := hO.not hs hd hov
  exact (Retire_dead pa x.off s l hng hne hO.place v).mono fun r L h => ⟨s, h.1, h.2, Step.no hO⟩
 | false =>
  exact (Retire_ok pa x.off x.go x.n x.e s l x.T (hO.live hd).1 v hv).mono fun r L h => by
   obtain ⟨s', h1, h2, h3, h4⟩ := h
   exact ⟨s', h1, h2, fun _ => ⟨h4, h3, ⟨hO.rng.used, hO.rng.left0, hO.rng.left1, hO.rng.pins⟩⟩, fun q => by rw [hd] at q; cases q⟩
theorem PinX (v : Int) (hv : -9223372036854775808 ≤ v ∧ v ≤ 9223372036854775807) : FnOk Tryz.prog 86 #[.agg #[.pointer (some ⟨pa, 0, none⟩), .int .i64 l.key, .int .i64 l.elem, .int .i64 l.ka, .int .i64 l.ea, .int .i64 l.cap, .int .i64 l.eo, .int .i64 l.bo, .int .i64 l.slot, .int .i64 l.group, .int .i64 (x.off : Nat)], .int .i64 v] [arenaH pa s] (fun r L => ∃ s', r = .tuple #[.int .i64 (pinX x v).1, .int .i64 (pinX x v).2.1] ∧ L = [arenaH pa s'] ∧ Step s s' l x (pinX x v).2.2) := by
 unfold pinX
 cases hd : x.dead with
 | true =>
  obtain ⟨hng, hne⟩ := hO.not hs hd hov
  exact (Pin_dead pa x.off s l hng hne hO.place v).mono fun r L h => ⟨s, h.1, h.2, Step.no hO⟩
 | false =>
  exact (Pin_ok pa x.off x.go x.n x.e s l x.T (hO.live hd).1 v hv hO.rng.pins).mono fun r L h => by
   rcases h with ⟨h0, h1, h2⟩ | ⟨h0, h00, s', h1, h2, h3, h4⟩
   ·simp only [if_pos h0, Bool.false_eq_true, if_false]
    exact ⟨s, h1, h2, Step.no hO⟩
   ·simp only [if_neg (show ¬ (v < -x.T.pins ∨ 4611686018427387904 - x.T.pins < v) by omega), Bool.false_eq_true, if_false]
    have := hO.rng.pins
    exact ⟨s', h1, h2, fun _ => ⟨h4, h3, ⟨hO.rng.used, hO.rng.left0, hO.rng.left1, by dsimp only; omega⟩⟩, fun q => by rw [hd] at q; cases q⟩
theorem LeftX (v : Int) (hv : -9223372036854775808 ≤ v ∧ v ≤ 9223372036854775807) : FnOk Tryz.prog 84 #[.agg #[.pointer (some ⟨pa, 0, none⟩), .int .i64 l.key, .int .i64 l.elem, .int .i64 l.ka, .int .i64 l.ea, .int .i64 l.cap, .int .i64 l.eo, .int .i64 l.bo, .int .i64 l.slot, .int .i64 l.group, .int .i64 (x.off : Nat)], .int .i64 v] [arenaH pa s] (fun r L => ∃ s', r = .int .i64 (leftX x v).1 ∧ L = [arenaH pa s'] ∧ Step s s' l x (leftX x v).2) := by
 unfold leftX
 cases hd : x.dead with
 | true =>
  obtain ⟨hng, hne⟩ := hO.not hs hd hov
  exact (AddLeft_dead pa x.off s l hng hne hO.place v).mono fun r L h => ⟨s, h.1, h.2, Step.no hO⟩
 | false =>
  exact (AddLeft_all pa x.off x.go x.n x.e s l x.T (hO.live hd).1 v hv (hO.rng.bnd (hO.live hd).1.n0.2).2).mono fun r L h => by
   rcases h with ⟨h0, h1, h2⟩ | ⟨h0, h00, s', h1, h2, h3, h4⟩
   ·simp only [if_pos h0, Bool.false_eq_true, if_false]
    exact ⟨s, h1, h2, Step.no hO⟩
   ·simp only [if_neg (show ¬ (v < -x.T.left ∨ 7 * (x.n : Int) - ((cnt isFull x.T.cells (8 * x.n) : Nat) : Int) - ((cnt isDel x.T.cells (8 * x.n) : Nat) : Int) - x.T.left < v) by omega), Bool.false_eq_true, if_false]
    have := hO.rng.left0
    exact ⟨s', h1, h2, fun _ => ⟨h4, h3, ⟨hO.rng.used, by dsimp only; omega, by dsimp only; omega, hO.rng.pins⟩⟩, fun q => by rw [hd] at q; cases q⟩
include hG
theorem FindX (h : Int) (hh : 0 ≤ h ∧ h < 18446744073709551616) (key : ByteArray) : FnOk Tryz.prog 75 #[.agg #[.pointer (some ⟨pa, 0, none⟩), .int .i64 l.key, .int .i64 l.elem, .int .i64 l.ka, .int .i64 l.ea, .int .i64 l.cap, .int .i64 l.eo, .int .i64 l.bo, .int .i64 l.slot, .int .i64 l.group, .int .i64 (x.off : Nat)], .int .u64 h, .string key] [G, arenaH pa s] (fun v L => v = .tuple #[.int .i64 (findX l x h key).1, .int .i64 (findX l x h key).2] ∧ L = [G, arenaH pa s]) := by
 unfold findX
 cases hd : x.dead with
 | true =>
  obtain ⟨hng, hne⟩ := hO.not hs hd hov
  exact (FnOk.beside (Find_dead pa x.off s l hng hne hO.place h key) G).mono fun v L ⟨L0, e, h1, h2⟩ => ⟨h1, by rw [e, h2]⟩
 | false =>
  by_cases hk : (key.size : Int) ≠ l.key
  ·simp only [if_pos hk, Bool.false_eq_true, if_false]
   exact (FnOk.beside (Find_bad pa x.off x.go x.n x.e s l x.T (hO.live hd).1 h key hk) G).mono fun v L ⟨L0, e, h1, h2⟩ => ⟨h1, by rw [e, h2]⟩
  ·simp only [if_neg hk, Bool.false_eq_true, if_false]
   exact Find_ok G hG pa x.off x.go x.n x.e s l x.T (hO.live hd).1 h hh key (kgood s hs l hl x hO hov hk)
theorem ProbesX (h : Int) (hh : 0 ≤ h ∧ h < 18446744073709551616) (key : ByteArray) : FnOk Tryz.prog 79 #[.agg #[.pointer (some ⟨pa, 0, none⟩), .int .i64 l.key, .int .i64 l.elem, .int .i64 l.ka, .int .i64 l.ea, .int .i64 l.cap, .int .i64 l.eo, .int .i64 l.bo, .int .i64 l.slot, .int .i64 l.group, .int .i64 (x.off : Nat)], .int .u64 h, .string key] [G, arenaH pa s] (fun v L => v = .tuple #[.int .i64 (probesX l x h key).1, .int .i64 (probesX l x h key).2] ∧ L = [G, arenaH pa s]) := by
 unfold probesX
 cases hd : x.dead with
 | true =>
  obtain ⟨hng, hne⟩ := hO.not hs hd hov
  exact (FnOk.beside (Probes_dead pa x.off s l hng hne hO.place h key) G).mono fun v L ⟨L0, e, h1, h2⟩ => ⟨h1, by rw [e, h2]⟩
 | false =>
  by_cases hk : (key.size : Int) ≠ l.key
  ·simp only [if_pos hk, Bool.false_eq_true, if_false]
   exact (FnOk.beside (Probes_bad pa x.off x.go x.n x.e s l x.T (hO.live hd).1 h key hk) G).mono fun v L ⟨L0, e, h1, h2⟩ => ⟨h1, by rw [e, h2]⟩
  ·simp only [if_neg hk, Bool.false_eq_true, if_false]
   exact Probes_ok G hG pa x.off x.go x.n x.e s l x.T (hO.live hd).1 h hh key (kgood s hs l hl x hO hov hk)
theorem GetX (h : Int) (hh : 0 ≤ h ∧ h < 18446744073709551616) (key : ByteArray) : FnOk Tryz.prog 77 #[.agg #[.pointer (some ⟨pa, 0, none⟩), .int .i64 l.key, .int .i64 l.elem, .int .i64 l.ka, .int .i64 l.ea, .int .i64 l.cap, .int .i64 l.eo, .int .i64 l.bo, .int .i64 l.slot, .int .i64 l.group, .int .i64 (x.off : Nat)], .int .u64 h, .string key] [G, arenaH pa s] (fun v L => v = .tuple #[.agg #[.int .i64 (getX l x h key).1.kind, .int .i64 (getX l x h key).1.tagI, .string (getX l x h key).1.keyS, .string (getX l x h key).1.elemS, .int .i64 (getX l x h key).1.birthI], .int .i64 (getX l x h key).2] ∧ L = [G, arenaH pa s]) := by
 unfold getX
 cases hd : x.dead with
 | true =>
  obtain ⟨hng, hne⟩ := hO.not hs hd hov
  exact (FnOk.beside (Get_dead pa x.off s l hng hne hO.place h key) G).mono fun v L ⟨L0, e, h1, h2⟩ => ⟨h1, by rw [e, h2]⟩
 | false =>
  by_cases hk : (key.size : Int) ≠ l.key
  ·simp only [if_pos hk, Bool.false_eq_true, if_false]
   exact (FnOk.beside (Get_bad pa x.off x.go x.n x.e s l x.T (hO.live hd).1 h key hk) G).mono fun v L ⟨L0, e, h1, h2⟩ => ⟨h1, by rw [e, h2]⟩
  ·simp only [if_neg hk, Bool.false_eq_true, if_false]
   exact TGet_ok G hG pa x.off x.go x.n x.e s l x.T (hO.live hd).1 h hh key (kgood s hs l hl x hO hov hk)
theorem PutX (h : Int) (hh : 0 ≤ h ∧ h < 18446744073709551616) (key elem : ByteArray) (birth : Int) (hb : birth < 9223372036854775808) : FnOk Tryz.prog 53 #[.agg #[.pointer (some ⟨pa, 0, none⟩), .int .i64 l.key, .int .i64 l.elem, .int .i64 l.ka, .int .i64 l.ea, .int .i64 l.cap, .int .i64 l.eo, .int .i64 l.bo, .int .i64 l.slot, .int .i64 l.group, .int .i64 (x.off : Nat)], .int .u64 h, .string key, .string elem, .int .i64 birth] [G, arenaH pa s] (fun v L => ∃ s', v = .tuple #[.int .i64 (putX l x h key elem birth).1, .int .i64 (putX l x h key elem birth).2.1] ∧ L = [G, arenaH pa s'] ∧ Step s s' l x (putX l x h key elem birth).2.2) := by
 unfold putX
 cases hd : x.dead with
 | true =>
  obtain ⟨hng, hne⟩ := hO.not hs hd hov
  exact (FnOk.beside (Put_dead pa x.off s l hng hne hO.place h key elem birth) G).mono fun v L ⟨L0, e, h1, h2⟩ => ⟨s, h1, by rw [e, h2], Step.no hO⟩
 | false =>
  have hP := (hO.live hd).1
  by_cases hk : (key.size : Int) ≠ l.key
  ·simp only [if_pos hk, Bool.false_eq_true, if_false]
   exact (FnOk.beside (Put_bad pa x.off x.go x.n x.e s l x.T hP h key hk elem birth) G).mono fun v L ⟨L0, e, h1, h2⟩ => ⟨s, h1, by rw [e, h2], Step.no hO⟩
  ·have hkg := kgood s hs l hl x hO hov hk
   by_cases he : (elem.size : Int) ≠ l.elem
   ·simp only [if_neg hk, if_pos he, Bool.false_eq_true, if_false]
    exact (Put_elem G hG pa x.off x.go x.n x.e s l x.T hP h hh key hkg elem he birth).mono fun v L ⟨h1, h2⟩ => ⟨s, h1, h2, Step.no hO⟩
   ·have heg := egood s hs l hl x hO hov he
    by_cases hbi : birth < 0
    ·simp only [if_neg hk, if_neg he, if_pos hbi, Bool.false_eq_true, if_false]
     exact (Put_birth G hG pa x.off x.go x.n x.e s l x.T hP h hh key hkg elem heg birth hbi).mono fun v L ⟨h1, h2⟩ => ⟨s, h1, h2, Step.no hO⟩
    ·simp only [if_neg hk, if_neg he, if_neg hbi, Bool.false_eq_true, if_false]
     obtain ⟨b1, b2⟩ := hO.rng.bnd hP.n0.2
     refine (Put_ok G hG pa x.off x.go x.n x.e s l x.T hP h hh key elem hkg heg birth ⟨by omega, hb⟩ b1 b2).mono fun v L ⟨s', h1, h2, h3, h4⟩ => ⟨s', h1, h2, fun _ => ⟨h4, h3, ?_⟩, fun q => by rw [hd] at q; cases q⟩
     exact hO.rng.put (putR (T := x.T) (h := h) (key := key) hP.n0.1 (fun g hg => gk_onto hP.hn hg) elem birth)
theorem DelX (h : Int) (hh : 0 ≤ h ∧ h < 18446744073709551616) (key : ByteArray) : FnOk Tryz.prog 82 #[.agg #[.pointer (some ⟨pa, 0, none⟩), .int .i64 l.key, .int .i64 l.elem, .int .i64 l.ka, .int .i64 l.ea, .int .i64 l.cap, .int .i64 l.eo, .int .i64 l.bo, .int .i64 l.slot, .int .i64 l.group, .int .i64 (x.off : Nat)], .int .u64 h, .string key] [G, arenaH pa s] (fun v L => ∃ s', v = .tuple #[.bool (delX l x h key).1, .int .i64 (delX l x h key).2.1] ∧ L = [G, arenaH pa s'] ∧ Step s s' l x (delX l x h key).2.2) := by
 unfold delX
 cases hd : x.dead with
 | true =>
  obtain ⟨hng, hne⟩ := hO.not hs hd hov
  exact (FnOk.beside (Delete_dead pa x.off s l hng hne hO.place h key) G).mono fun v L ⟨L0, e, h1, h2⟩ => ⟨s, h1, by rw [e, h2], Step.no hO⟩
 | false =>
  have hP := (hO.live hd).1
  by_cases hk : (key.size : Int) ≠ l.key
  ·simp only [if_pos hk, Bool.false_eq_true, if_false]
   exact (FnOk.beside (Delete_bad pa x.off x.go x.n x.e s l x.T hP h key hk) G).mono fun v L ⟨L0, e, h1, h2⟩ => ⟨s, h1, by rw [e, h2], Step.no hO⟩
  ·simp only [if_neg hk, Bool.false_eq_true, if_false]
   obtain ⟨b1, b2⟩ := hO.rng.bnd hP.n0.2
   refine (Delete_ok G hG pa x.off x.go x.n x.e s l x.T hP h hh key (kgood s hs l hl x hO hov hk) b1 b2).mono fun v L ⟨s', h1, h2, h3, h4⟩ => ⟨s', h1, h2, fun _ => ⟨h4, h3, ?_⟩, fun q => by rw [hd] at q; cases q⟩
   exact hO.rng.del (delR (T := x.T) (h := h) (key := key) hP.n0.1)
end
end Go.Proofs.YthkajgkagnenbaaGreatDoor.Exact
