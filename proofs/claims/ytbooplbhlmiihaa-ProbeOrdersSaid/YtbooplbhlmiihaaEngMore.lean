/- More rules for the operations: comparisons, new slices. No program. -/
import Derived.Test.YtbooplbhlmiihaaEngOwn
import Derived.Test.YtbooplbhlmiihaaEngRange
set_option linter.unusedVariables false
set_option linter.unusedSimpArgs false
namespace Go.Proofs.Ytbooplbhlmiihaa.Eng
open Go.RowKit

section
variable {P : Program} {t : TypeId} (w : World)
theorem eq_of {x y : Value} {b : Bool} (h : ∀ d, (Op.equalIn (d + 1) t x y).run P w = .ok b w) : (Op.equal t x y).run P w = .ok b w := h 9999
theorem b_eqlF0 {ps rs : Array TypeId} {v : Bool} (hu : P.underlying t = some (.func ps rs v)) {f : Fn} {a b : Array Value} : (binOp .eql t (.func f a b) .nilFunc).run P w = .ok (.bool false) w := by
  have := eq_of (P := P) (t := t) w (x := .func f a b) (y := .nilFunc) (b := false) (fun d => by simp [Op.equalIn, run_underlying hu, Result.andThen])
  simp [binOp, this, Result.andThen]
theorem b_neqF0 {ps rs : Array TypeId} {v : Bool} (hu : P.underlying t = some (.func ps rs v)) {f : Fn} {a b : Array Value} : (binOp .neq t (.func f a b) .nilFunc).run P w = .ok (.bool true) w := by
  have := eq_of (P := P) (t := t) w (x := .func f a b) (y := .nilFunc) (b := false) (fun d => by simp [Op.equalIn, run_underlying hu, Result.andThen])
  simp [binOp, this, Result.andThen]
theorem b_eqlB (hu : P.underlying t = some .bool) {a b : Bool} : (binOp .eql t (.bool a) (.bool b)).run P w = .ok (.bool (a == b)) w := by
  have := eq_of (P := P) (t := t) w (x := .bool a) (y := .bool b) (b := a == b) (fun d => by simp [Op.equalIn, run_underlying hu, Result.andThen])
  simp [binOp, this, Result.andThen]
theorem b_neqB (hu : P.underlying t = some .bool) {a b : Bool} : (binOp .neq t (.bool a) (.bool b)).run P w = .ok (.bool (!(a == b))) w := by
  have := eq_of (P := P) (t := t) w (x := .bool a) (y := .bool b) (b := a == b) (fun d => by simp [Op.equalIn, run_underlying hu, Result.andThen])
  simp [binOp, this, Result.andThen]
theorem eqP0 {e : TypeId} (hu : P.underlying t = some (.pointer e)) {a : Option Addr} : (Op.equal t (.pointer a) (.pointer none)).run P w = .ok a.isNone w :=
  eq_of w (fun d => by cases a <;> simp [Op.equalIn, run_underlying hu, Result.andThen])
theorem b_eqlP0 {e : TypeId} (hu : P.underlying t = some (.pointer e)) {a : Option Addr} : (binOp .eql t (.pointer a) (.pointer none)).run P w = .ok (.bool a.isNone) w := by
  simp [binOp, eqP0 w hu, Result.andThen]
theorem b_neqP0 {e : TypeId} (hu : P.underlying t = some (.pointer e)) {a : Option Addr} : (binOp .neq t (.pointer a) (.pointer none)).run P w = .ok (.bool (!a.isNone)) w := by
  simp [binOp, eqP0 w hu, Result.andThen]
theorem eqS0 {e : TypeId} (hu : P.underlying t = some (.slice e)) {a : Option Addr} {i j k l : Nat} : (Op.equal t (.slice a i j) (.slice none k l)).run P w = .ok a.isNone w :=
  eq_of w (fun d => by cases a <;> simp [Op.equalIn, run_underlying hu, Result.andThen])
theorem b_eqlS0 {e : TypeId} (hu : P.underlying t = some (.slice e)) {a : Option Addr} {i j k l : Nat} : (binOp .eql t (.slice a i j) (.slice none k l)).run P w = .ok (.bool a.isNone) w := by
  simp [binOp, eqS0 w hu, Result.andThen]
theorem b_neqS0 {e : TypeId} (hu : P.underlying t = some (.slice e)) {a : Option Addr} {i j k l : Nat} : (binOp .neq t (.slice a i j) (.slice none k l)).run P w = .ok (.bool (!a.isNone)) w := by
  simp [binOp, eqS0 w hu, Result.andThen]
end

section
variable {c : Cx} {fin : Exit → Act → World → Prop} {ds : List Deferred} {E : Env} {L : List HP} {ks : List KI} {ops : Array Oper} {rest : List Oper}
variable {d : Option Tmp} {ty : TypeId} {pos : String} {af : Array Edge}
theorem made_one (z : Value) (n : Nat) : (madeCells #[z] n).toList = List.replicate n z := by
  apply List.ext_getElem
  · simp [size_madeCells]
  · intro i h1 h2
    simp [madeCells, Nat.mod_one]
/-- A new slice of cells of one word. -/
theorem o_makeSlice1 {t e : TypeId} {x y : Operand} {z : Value} {bytes : Nat} {kl kc : IntKind} {l m : Int} (hd : okDst d c.N = true) (hx : ev E x = some (.int kl l)) (hy : ev E y = some (.int kc m))
    (ht : c.P.underlying t = some (.slice e)) (hinf : ∃ i, c.P.info? e = some i ∧ i.zero = some z ∧ i.size = 1 ∧ i.bytes = bytes) (hz : z.oneCell' = true) (h0 : 0 ≤ l ∧ l ≤ m) (hb : (bytes : Int) * m ≤ 281474976710656 ∧ m ≤ 9223372036854775807)
    (k : ∀ b, TL c fin ds (upd d (.slice (some ⟨b, 0, none⟩) l.toNat m.toNat) E) (ownS e 1 (.slice (some ⟨b, 0, none⟩) l.toNat m.toNat) l.toNat (List.replicate l.toNat z) :: L) ops rest ks) : TL c fin ds E L ops (⟨d, .makeSlice t x y, ty, pos, af, none⟩ :: rest) ks :=
  l_op hd (by intro k; simp) (fun b => .slice (some ⟨b, 0, none⟩) l.toNat m.toNat) (fun b => ownS e 1 (.slice (some ⟨b, 0, none⟩) l.toNat m.toNat) l.toNat (List.replicate l.toNat z) :: L) (fun a w hs => by
    obtain ⟨i, hi, hiz, hsize, hby⟩ := hinf
    have hr := run_make w t e i z ht hi hiz kl kc l m h0.1 h0.2 (by rw [hby]; exact hb.1) hb.2
    refine ⟨w.heap.size, w.alloc (.cells (madeCells z.cells (m.toNat * i.size)) e), ?_, ?_, (Ext.refl w).alloc _⟩
    · simp only [execOp, Sem.run_bind, hs.ev hx, hs.ev hy, hr, Result.andThen, Sem.run_pure]
    · refine own_of_pt (hs.sat.alloc _) (by simp) (by omega) (by simp only [maxLen]; omega) (by simp [size_madeCells, hsize]) ?_
      rw [cells_one hz, made_one, hsize, List.take_replicate]
      congr 1; omega) k
end
end Go.Proofs.Ytbooplbhlmiihaa.Eng
