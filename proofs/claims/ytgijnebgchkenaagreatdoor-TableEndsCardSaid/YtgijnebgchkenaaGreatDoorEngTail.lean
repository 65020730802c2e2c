/- Slices that own their row from some cell on: what lies in them, what writing cells does to them. No program. -/
import Derived.Test.YtgijnebgchkenaaGreatDoorEngSlice
import Derived.Test.YtgijnebgchkenaaGreatDoorEngRead
import Derived.Laws.IdiomCopy
set_option linter.unusedVariables false
set_option linter.unusedSimpArgs false
namespace Go.Proofs.YtgijnebgchkenaaGreatDoor.Eng
open Go.RowKit

/-- Where such a slice lies. -/
structure TX where
  g : Nat
  o : Nat
  cap : Nat
  cur : Array Value
def TX.ok (v : Value) (xs : List Value) : Option TX → Prop
  | none => v = .slice none 0 0 ∧ xs = []
  | some t => v = .slice (some ⟨t.g, t.o, none⟩) xs.length t.cap ∧ xs.length ≤ t.cap ∧ t.cap ≤ maxLen ∧ t.o + t.cap ≤ t.cur.size ∧ ∀ i u, xs[i]? = some u → t.cur[t.o + i]? = some u
def TX.ps (e : TypeId) : Option TX → List HP
  | none => []
  | some t => [pt t.g (.cells t.cur e (0, 0))]
/-- The slice v (of one-word elements xs) owns its row from some cell on. -/
def ownT (e : TypeId) (v : Value) (xs : List Value) : HP := exP (TX.ok v xs) (TX.ps e)
theorem ownT_nil {e : TypeId} {L : List HP} : Ent L (ownT e (.slice none 0 0) [] :: L) := fun w h => sat_exP.2 ⟨none, ⟨rfl, rfl⟩, h⟩
theorem ownT_shape {e : TypeId} {v : Value} {xs : List Value} {L : List HP} {w : World} (h : Sat (stars (ownT e v xs :: L)) w) : ∃ a cap, v = .slice a xs.length cap ∧ (0 < xs.length → ∃ g o, a = some ⟨g, o, none⟩) ∧ xs.length ≤ cap ∧ cap ≤ maxLen := by
  obtain ⟨x, hx, _⟩ := sat_exP.1 h
  cases x with
  | none => obtain ⟨rfl, rfl⟩ := hx; exact ⟨none, 0, rfl, fun q => absurd q (by decide), Nat.le_refl _, by decide⟩
  | some t => obtain ⟨rfl, h1, h2, _⟩ := hx; exact ⟨_, _, rfl, fun _ => ⟨_, _, rfl⟩, h1, h2⟩
theorem ownT_cell {e : TypeId} {g o n cap : Nat} {xs : List Value} {i : Nat} {u : Value} (hu : xs[i]? = some u) : CellAt (ownT e (.slice (some ⟨g, o, none⟩) n cap) xs) ⟨g, o + i, none⟩ u := fun w h => by
  have h' : Sat (stars [ownT e (.slice (some ⟨g, o, none⟩) n cap) xs]) w := by
    obtain ⟨f, hf, k⟩ := h
    exact ⟨f, hf, f, Part.none, k, rfl, Part.disj_none _, (Part.join_none _).symm⟩
  obtain ⟨x, hx, hs⟩ := sat_exP.1 h'
  cases x with
  | none => obtain ⟨q, _⟩ := hx; cases q
  | some t =>
    obtain ⟨q, _, _, _, hc⟩ := hx
    cases q
    have hg := hs.block (b := t.g) .here
    have := hc i u hu
    simp [World.cell?, hg, this]
/-- Cells written one behind the other. -/
theorem sat_cellsT {g : Nat} {e : TypeId} {M : List HP} : ∀ (ys : List Value) (o : Nat) (cur : Array Value) (w : World), Sat (stars (pt g (.cells cur e (0, 0)) :: M)) w → o + ys.length ≤ cur.size →
    ∃ cur' : Array Value, Sat (stars (pt g (.cells cur' e (0, 0)) :: M)) (w.setCells g o ys) ∧ cur'.size = cur.size ∧ (∀ k, cur'[k]? = if o ≤ k ∧ k < o + ys.length then ys[k - o]? else cur[k]?) ∧ Ext w (w.setCells g o ys)
  | [], o, cur, w, h, _ => ⟨cur, h, rfl, fun k => by rw [if_neg (by simp only [List.length_nil]; omega)], Ext.refl w⟩
  | v :: r, o, cur, w, h, hl => by
    simp only [List.length_cons] at hl
    have hg := h.block (b := g) .here
    have h1 : Sat (stars (pt g (.cells (cur.setIfInBounds o v) e (0, 0)) :: M)) (w.setCell ⟨g, o, none⟩ v) :=
      Sat.setCell (A := stars M) h v
    obtain ⟨cur', a1, a2, a3, a4⟩ := sat_cellsT r (o + 1) (cur.setIfInBounds o v) (w.setCell ⟨g, o, none⟩ v) h1 (by simp; omega)
    refine ⟨cur', a1, by simpa using a2, fun k => ?_, ((Ext.refl w).setCell _ _).trans a4⟩
    rw [a3 k]
    by_cases q : k = o
    · subst q
      rw [if_neg (by omega), if_pos (by simp), Array.getElem?_setIfInBounds_self_of_lt (by omega)]
      simp
    · by_cases q2 : o + 1 ≤ k ∧ k < o + 1 + r.length
      · rw [if_pos q2, if_pos (by simp; omega), show k - o = (k - (o + 1)) + 1 by omega]
        simp
      · rw [if_neg q2, if_neg (by simp; omega), Array.getElem?_setIfInBounds_ne (Ne.symm q)]
/-- x put in at the i-th place. -/
def insL (xs : List Int) (i : Nat) (x : Int) : List Int := xs.take i ++ x :: xs.drop i
theorem insL_len {xs : List Int} {i : Nat} (h : i ≤ xs.length) (x : Int) : (insL xs i x).length = xs.length + 1 := by simp [insL]; omega
theorem insL_get {xs : List Int} {i : Nat} (h : i ≤ xs.length) (x : Int) (k : Nat) : (insL xs i x)[k]? = if k < i then xs[k]? else if k = i then some x else xs[k - 1]? := by
  unfold insL
  by_cases h1 : k < i
  · rw [if_pos h1, List.getElem?_append_left (by simp; omega), List.getElem?_take, if_pos h1]
  · rw [if_neg h1, List.getElem?_append_right (by simp; omega)]
    simp only [List.length_take, Nat.min_eq_left h]
    by_cases h2 : k = i
    · rw [if_pos h2, h2, Nat.sub_self]; rfl
    · rw [if_neg h2, show k - i = (k - 1 - i) + 1 by omega, List.getElem?_cons_succ, List.getElem?_drop]
      congr 1; omega
end Go.Proofs.YtgijnebgchkenaaGreatDoor.Eng
