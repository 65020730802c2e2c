/- Reading out of pieces of which only what they read as is known (what lay there before: arguments, package variables). No program. -/
import Derived.Test.YtgijnebgchkenaaGreatDoorEngMore
import Derived.Test.YtgijnebgchkenaaGreatDoorEngSlice
set_option linter.unusedVariables false
set_option linter.unusedSimpArgs false
namespace Go.Proofs.YtgijnebgchkenaaGreatDoor.Eng
open Go.RowKit

section
variable {c : Cx} {fin : Exit → Act → World → Prop} {ds : List Deferred} {E : Env} {L : List HP} {ks : List KI} {ops : Array Oper} {rest : List Oper}
variable {d : Option Tmp} {ty : TypeId} {pos : String} {af : Array Edge} {gd : Option (Nat × Bool)}
/-- Pieces turned. -/
theorem t_ent {L' : List HP} {x : Code} (hl : Ent L L') (h : TC c fin ds E L' x ks) : TC c fin ds E L x ks := fun a w hs => h a w ⟨hs.size, hs.defs, hs.agree, hl _ hs.sat, hs.ext⟩
theorem n_ent {L' : List HP} {x : Exit} (hl : Ent L L') (h : TN c fin ds E L' x ks) : TN c fin ds E L x ks := fun a w hs => h a w ⟨hs.size, hs.defs, hs.agree, hl _ hs.sat, hs.ext⟩
theorem l_ent {L' : List HP} {l : List Oper} (hl : Ent L L') (h : TL c fin ds E L' ops l ks) : TL c fin ds E L ops l ks := fun a w hs => h a w ⟨hs.size, hs.defs, hs.agree, hl _ hs.sat, hs.ext⟩
/-- The piece A has that cell. -/
def CellAt (A : HP) (a : Addr) (v : Value) : Prop := ∀ w, Sat A w → w.cell? a = some v
theorem q_loadR {A : HP} {t : TypeId} {x : Operand} {a0 : Addr} {v : Value} {M : List HP} (hx : ev E x = some (.pointer (some a0)))
    (ha : ∀ w, (isAgg t).run c.P w = .ok false w) (ht : Take A L M) (hv : CellAt A a0 v) : QV c ds E L ⟨d, .load t x, ty, pos, af, gd⟩ v :=
  ⟨by intro k; simp, fun a w hs => by
    have hb := hv w (hs.sat.take ht).left
    simp only [execOp, Instr.loadAt, Instr.sureAddr, hs.ev hx, Sem.run_bind, Sem.run_pure, Result.andThen, loadVar, ha]
    simp [load, Sem.run, hb]⟩
theorem run_loadCellsR {P : Program} {w : World} {a0 : Addr} : ∀ (n i : Nat) (acc : Array Value) (us : List Value), us.length = n → (∀ j u, us[j]? = some u → w.cell? (a0.add (i + j)) = some u) →
    (loadCellsFrom a0 i n acc).run P w = .ok (acc ++ us.toArray) w
  | 0, i, acc, us, hl, h => by
    have : us = [] := List.eq_nil_of_length_eq_zero hl
    subst this
    simp only [loadCellsFrom, Sem.run_pure]; simp
  | n + 1, i, acc, us, hl, h => by
    cases us with
    | nil => simp at hl
    | cons u us =>
      simp only [loadCellsFrom, Sem.run_bind]
      have h0 := h 0 u rfl
      rw [Nat.add_zero] at h0
      have hl0 : (load (a0.add i)).run P w = .ok u w := by simp [load, Sem.run, h0]
      rw [hl0]
      simp only [Result.andThen]
      rw [run_loadCellsR n (i + 1) _ us (by simpa using hl) fun j v hv => by
        have := h (j + 1) v (by simpa using hv)
        rw [show i + 1 + j = i + (j + 1) by omega]; exact this]
      simp
theorem q_loadRA {A : HP} {t : TypeId} {x : Operand} {a0 : Addr} {n : Nat} {us : List Value} {M : List HP} (hx : ev E x = some (.pointer (some a0)))
    (ha : ∀ w, (isAgg t).run c.P w = .ok true w) (hn : ∀ w, (sizeOf t).run c.P w = .ok n w) (hl : us.length = n) (ht : Take A L M) (hv : ∀ j u, us[j]? = some u → CellAt A (a0.add j) u) : QV c ds E L ⟨d, .load t x, ty, pos, af, gd⟩ (.agg us.toArray) :=
  ⟨by intro k; simp, fun a w hs => by
    have hb := (hs.sat.take ht).left
    have hr : (loadCells a0 n).run c.P w = .ok us.toArray w := by
      unfold loadCells
      rw [run_loadCellsR n 0 #[] us hl fun j u hu => by rw [Nat.zero_add]; exact hv j u hu w hb]
      simp
    simp only [execOp, Instr.loadAt, Instr.sureAddr, hs.ev hx, Sem.run_bind, Sem.run_pure, Result.andThen, loadVar, ha, hn, if_true, hr]⟩
end
end Go.Proofs.YtgijnebgchkenaaGreatDoor.Eng
