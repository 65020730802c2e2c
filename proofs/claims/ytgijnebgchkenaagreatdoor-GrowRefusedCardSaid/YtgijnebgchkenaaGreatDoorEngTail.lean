import Derived.Test.YtgijnebgchkenaaGreatDoorEngMore
import Derived.Test.YtgijnebgchkenaaGreatDoorEngStr
import Derived.Laws.IdiomCopy
section
/- Reading out of pieces of which only what they read as is known (what lay there before: arguments, package variables). No program. -/
set_option linter.unusedVariables false
set_option linter.unusedSimpArgs false
namespace Go.Proofs.YtgijnebgchkenaaGreatDoor.Eng
open Go.RowKit

section
variable {c : Cx} {fin : Exit → Act → World → Prop} {ds : List Deferred} {E : Env} {L : List HP} {ks : List KI} {ops : Array Oper} {rest : List Oper}
variable {d : Option Tmp} {ty : TypeId} {pos : String} {af : Array Edge} {gd : Option (Nat × Bool)}
/-- Pieces turned. -/
theorem t_ent {L' : List HP} {x : Code} (hl : Ent L L') (h : TC c fin ds E L' x ks) : TC c fin ds E L x ks := fun a w hs => h a w ⟨hs.size, hs.defs, hs.agree, hl _ hs.sat, hs.ext⟩
theorem n_ent {L' : List HP} {x : Exit} (hl : Ent L L') (h : TN c fin ds E L' x ks) : TN c fin ds E L x ks := fun a w hs => h a w ⟨hs.size, hs.defs, hs.agree, hl _ hs.sat, hs.ext⟩
theorem l_ent {L' : List HP} {l : List Oper} (hl : Ent L L') (h : TL c fin ds E L' ops l ks) : TL c fin ds E L ops l ks := fun a w hs => h a w ⟨hs.size, hs.defs, hs.agree, hl _ hs.sat, hs.ext⟩
/-- The piece A has that cell. -/
def CellAt (A : HP) (a : Addr) (v : Value) : Prop := ∀ w, Sat A w → w.cell? a = some v
theorem q_loadR {A : HP} {t : TypeId} {x : Operand} {a0 : Addr} {v : Value} {M : List HP} (hx : ev E x = some (.pointer (some a0)))
    (ha : ∀ w, (isAgg t).run c.P w = .ok false w) (ht : Take A L M) (hv : CellAt A a0 v) : QV c ds E L ⟨d, .load t x, ty, pos, af, gd⟩ v :=
  ⟨by intro k; simp, fun a w hs => by
    have hb := hv w (hs.sat.take ht).left
    simp only [execOp, Instr.loadAt, Instr.sureAddr, hs.ev hx, Sem.run_bind, Sem.run_pure, Result.andThen, loadVar, ha]
    simp [load, Sem.run, hb]⟩
theorem run_loadCellsR {P : Program} {w : World} {a0 : Addr} : ∀ (n i : Nat) (acc : Array Value) (us : List Value), us.length = n → (∀ j u, us[j]? = some u → w.cell? (a0.add (i + j)) = some u) →
    (loadCellsFrom a0 i n acc).run P w = .ok (acc ++ us.toArray) w
  | 0, i, acc, us, hl, h => by
    have : us = [] := List.eq_nil_of_length_eq_zero hl
    subst this
    simp only [loadCellsFrom, Sem.run_pure]; simp
  | n + 1, i, acc, us, hl, h => by
    cases us with
    | nil => simp at hl
    | cons u us =>
      simp only [loadCellsFrom, Sem.run_bind]
      have h0 := h 0 u rfl
      rw [Nat.add_zero] at h0
      have hl0 : (load (a0.add i)).run P w = .ok u w := by simp [load, Sem.run, h0]
      rw [hl0]
      simp only [Result.andThen]
      rw [run_loadCellsR n (i + 1) _ us (by simpa using hl) fun j v hv => by
        have := h (j + 1) v (by simpa using hv)
        rw [show i + 1 + j = i + (j + 1) by omega]; exact this]
      simp
theorem q_loadRA {A : HP} {t : TypeId} {x : Operand} {a0 : Addr} {n : Nat} {us : List Value} {M : List HP} (hx : ev E x = some (.pointer (some a0)))
    (ha : ∀ w, (isAgg t).run c.P w = .ok true w) (hn : ∀ w, (sizeOf t).run c.P w = .ok n w) (hl : us.length = n) (ht : Take A L M) (hv : ∀ j u, us[j]? = some u → CellAt A (a0.add j) u) : QV c ds E L ⟨d, .load t x, ty, pos, af, gd⟩ (.agg us.toArray) :=
  ⟨by intro k; simp, fun a w hs => by
    have hb := (hs.sat.take ht).left
    have hr : (loadCells a0 n).run c.P w = .ok us.toArray w := by
      unfold loadCells
      rw [run_loadCellsR n 0 #[] us hl fun j u hu => by rw [Nat.zero_add]; exact hv j u hu w hb]
      simp
    simp only [execOp, Instr.loadAt, Instr.sureAddr, hs.ev hx, Sem.run_bind, Sem.run_pure, Result.andThen, loadVar, ha, hn, if_true, hr]⟩
end
end Go.Proofs.YtgijnebgchkenaaGreatDoor.Eng
end
section
/- The logic's rules for rows whose elements are of several cells. No program. -/
set_option linter.unusedVariables false
set_option linter.unusedSimpArgs false
namespace Go.Proofs.YtgijnebgchkenaaGreatDoor.Eng
open Go.RowKit

section
variable {c : Cx} {fin : Exit → Act → World → Prop} {ds : List Deferred} {E : Env} {L : List HP} {ks : List KI} {ops : Array Oper} {rest : List Oper}
variable {d : Option Tmp} {ty : TypeId} {pos : String} {af : Array Edge} {gd : Option (Nat × Bool)}

/-- A new slice without elements, with room for some. -/
theorem o_makeSlice0 {t e : TypeId} {x y : Operand} {z : Value} {sz bytes : Nat} {kl kc : IntKind} {m : Int} (xs : List Value) (hxs : xs = []) (hd : okDst d c.N = true) (hx : ev E x = some (.int kl 0)) (hy : ev E y = some (.int kc m))
    (ht : c.P.underlying t = some (.slice e)) (hinf : ∃ i, c.P.info? e = some i ∧ i.zero = some z ∧ i.size = sz ∧ i.bytes = bytes) (h0 : 0 ≤ m) (hb : (bytes : Int) * m ≤ 281474976710656 ∧ m ≤ 9223372036854775807)
    (k : ∀ b, TL c fin ds (upd d (.slice (some ⟨b, 0, none⟩) 0 m.toNat) E) (ownS e sz (.slice (some ⟨b, 0, none⟩) 0 m.toNat) 0 xs :: L) ops rest ks) : TL c fin ds E L ops (⟨d, .makeSlice t x y, ty, pos, af, none⟩ :: rest) ks := by
  subst hxs
  exact l_op hd (by intro k; simp) (fun b => .slice (some ⟨b, 0, none⟩) 0 m.toNat) (fun b => ownS e sz (.slice (some ⟨b, 0, none⟩) 0 m.toNat) 0 [] :: L) (fun a w hs => by
    obtain ⟨i, hi, hiz, hsize, hby⟩ := hinf
    have hr := run_make w t e i z ht hi hiz kl kc 0 m (Int.le_refl _) h0 (by rw [hby]; exact hb.1) hb.2
    refine ⟨w.heap.size, w.alloc (.cells (madeCells z.cells (m.toNat * i.size)) e), ?_, ?_, (Ext.refl w).alloc _⟩
    · simp only [execOp, Sem.run_bind, hs.ev hx, hs.ev hy, hr, Result.andThen, Sem.run_pure]; rfl
    · exact own_of_pt (hs.sat.alloc _) (by simp) (by omega) (by simp only [maxLen]; omega) (by simp [size_madeCells, hsize]) (by simp)) k
end
/-- A cell of a row. -/
theorem own_cell {e : TypeId} {sz g n cap o : Nat} {xs : List Value} {v : Value} (hv : xs[o]? = some v) : CellAt (ownS e sz (.slice (some ⟨g, 0, none⟩) n cap) n xs) ⟨g, o, none⟩ v := fun w hs => by
  have hs' : Sat (stars (ownS e sz (.slice (some ⟨g, 0, none⟩) n cap) n xs :: [])) w := by
    obtain ⟨f, hi, ha⟩ := hs
    exact ⟨f, hi, f, Part.none, ha, rfl, Part.disj_none _, (Part.join_none _).symm⟩
  obtain ⟨cur, _, c2, _, _, _, hsat⟩ := own_open hs'
  have hg := hsat.block (b := g) .here
  have := own_at c2 hv
  simp [World.cell?, hg, this]
/-- A list's row: each element's cells, one after the other. -/
def rowOf {A : Type} (f : A → List Value) (xs : List A) : List Value := xs.flatMap f
theorem rowOf_get {A : Type} {f : A → List Value} {sz : Nat} (hf : ∀ a, (f a).length = sz) : ∀ (xs : List A) (i j : Nat) (a : A), xs[i]? = some a → j < sz → (rowOf f xs)[i * sz + j]? = (f a)[j]?
  | [], i, j, a, h, _ => by simp at h
  | b :: xs, 0, j, a, h, hj => by
    simp at h; subst h
    have : rowOf f (b :: xs) = f b ++ rowOf f xs := by simp [rowOf]
    rw [this, Nat.zero_mul, Nat.zero_add, List.getElem?_append_left (by rw [hf]; exact hj)]
  | b :: xs, i + 1, j, a, h, hj => by
    have : rowOf f (b :: xs) = f b ++ rowOf f xs := by simp [rowOf]
    rw [this, List.getElem?_append_right (by rw [hf, Nat.add_mul]; omega), hf, show (i + 1) * sz + j - sz = i * sz + j by rw [Nat.add_mul]; omega]
    exact rowOf_get hf xs i j a (by simpa using h) hj
theorem rowOf_app {A : Type} (f : A → List Value) (xs ys : List A) : rowOf f (xs ++ ys) = rowOf f xs ++ rowOf f ys := by simp [rowOf]
/-- Strings laid one behind the other. -/
theorem b_addS {P : Program} {t : TypeId} (w : World) {a b : ByteArray} (h : a.size + b.size ≤ 9223372036854775807) : (binOp .add t (.string a) (.string b)).run P w = .ok (.string (a ++ b)) w := by
  have : ¬ (((a.size + b.size : Nat) : Int) > IntKind.i64.max) := by show ¬ (_ > (9223372036854775807 : Int)); omega
  simp only [binOp, Op.stringOp]
  rw [if_neg this]; rfl
end Go.Proofs.YtgijnebgchkenaaGreatDoor.Eng
end
section
/- Slices that own their row from some cell on: what lies in them, what writing cells does to them. No program. -/
set_option linter.unusedVariables false
set_option linter.unusedSimpArgs false
namespace Go.Proofs.YtgijnebgchkenaaGreatDoor.Eng
open Go.RowKit

/-- Where such a slice lies. -/
structure TX where
  g : Nat
  o : Nat
  cap : Nat
  cur : Array Value
def TX.ok (v : Value) (xs : List Value) : Option TX → Prop
  | none => v = .slice none 0 0 ∧ xs = []
  | some t => v = .slice (some ⟨t.g, t.o, none⟩) xs.length t.cap ∧ xs.length ≤ t.cap ∧ t.cap ≤ maxLen ∧ t.o + t.cap ≤ t.cur.size ∧ ∀ i u, xs[i]? = some u → t.cur[t.o + i]? = some u
def TX.ps (e : TypeId) : Option TX → List HP
  | none => []
  | some t => [pt t.g (.cells t.cur e (0, 0))]
/-- The slice v (of one-word elements xs) owns its row from some cell on. -/
def ownT (e : TypeId) (v : Value) (xs : List Value) : HP := exP (TX.ok v xs) (TX.ps e)
theorem ownT_nil {e : TypeId} {L : List HP} : Ent L (ownT e (.slice none 0 0) [] :: L) := fun w h => sat_exP.2 ⟨none, ⟨rfl, rfl⟩, h⟩
theorem ownT_shape {e : TypeId} {v : Value} {xs : List Value} {L : List HP} {w : World} (h : Sat (stars (ownT e v xs :: L)) w) : ∃ a cap, v = .slice a xs.length cap ∧ (0 < xs.length → ∃ g o, a = some ⟨g, o, none⟩) ∧ xs.length ≤ cap ∧ cap ≤ maxLen := by
  obtain ⟨x, hx, _⟩ := sat_exP.1 h
  cases x with
  | none => obtain ⟨rfl, rfl⟩ := hx; exact ⟨none, 0, rfl, fun q => absurd q (by decide), Nat.le_refl _, by decide⟩
  | some t => obtain ⟨rfl, h1, h2, _⟩ := hx; exact ⟨_, _, rfl, fun _ => ⟨_, _, rfl⟩, h1, h2⟩
theorem ownT_cell {e : TypeId} {g o n cap : Nat} {xs : List Value} {i : Nat} {u : Value} (hu : xs[i]? = some u) : CellAt (ownT e (.slice (some ⟨g, o, none⟩) n cap) xs) ⟨g, o + i, none⟩ u := fun w h => by
  have h' : Sat (stars [ownT e (.slice (some ⟨g, o, none⟩) n cap) xs]) w := by
    obtain ⟨f, hf, k⟩ := h
    exact ⟨f, hf, f, Part.none, k, rfl, Part.disj_none _, (Part.join_none _).symm⟩
  obtain ⟨x, hx, hs⟩ := sat_exP.1 h'
  cases x with
  | none => obtain ⟨q, _⟩ := hx; cases q
  | some t =>
    obtain ⟨q, _, _, _, hc⟩ := hx
    cases q
    have hg := hs.block (b := t.g) .here
    have := hc i u hu
    simp [World.cell?, hg, this]
/-- Cells written one behind the other. -/
theorem sat_cellsT {g : Nat} {e : TypeId} {M : List HP} : ∀ (ys : List Value) (o : Nat) (cur : Array Value) (w : World), Sat (stars (pt g (.cells cur e (0, 0)) :: M)) w → o + ys.length ≤ cur.size →
    ∃ cur' : Array Value, Sat (stars (pt g (.cells cur' e (0, 0)) :: M)) (w.setCells g o ys) ∧ cur'.size = cur.size ∧ (∀ k, cur'[k]? = if o ≤ k ∧ k < o + ys.length then ys[k - o]? else cur[k]?) ∧ Ext w (w.setCells g o ys)
  | [], o, cur, w, h, _ => ⟨cur, h, rfl, fun k => by rw [if_neg (by simp only [List.length_nil]; omega)], Ext.refl w⟩
  | v :: r, o, cur, w, h, hl => by
    simp only [List.length_cons] at hl
    have hg := h.block (b := g) .here
    have h1 : Sat (stars (pt g (.cells (cur.setIfInBounds o v) e (0, 0)) :: M)) (w.setCell ⟨g, o, none⟩ v) :=
      Sat.setCell (A := stars M) h v
    obtain ⟨cur', a1, a2, a3, a4⟩ := sat_cellsT r (o + 1) (cur.setIfInBounds o v) (w.setCell ⟨g, o, none⟩ v) h1 (by simp; omega)
    refine ⟨cur', a1, by simpa using a2, fun k => ?_, ((Ext.refl w).setCell _ _).trans a4⟩
    rw [a3 k]
    by_cases q : k = o
    · subst q
      rw [if_neg (by omega), if_pos (by simp), Array.getElem?_setIfInBounds_self_of_lt (by omega)]
      simp
    · by_cases q2 : o + 1 ≤ k ∧ k < o + 1 + r.length
      · rw [if_pos q2, if_pos (by simp; omega), show k - o = (k - (o + 1)) + 1 by omega]
        simp
      · rw [if_neg q2, if_neg (by simp; omega), Array.getElem?_setIfInBounds_ne (Ne.symm q)]
/-- x put in at the i-th place. -/
def insL (xs : List Int) (i : Nat) (x : Int) : List Int := xs.take i ++ x :: xs.drop i
theorem insL_len {xs : List Int} {i : Nat} (h : i ≤ xs.length) (x : Int) : (insL xs i x).length = xs.length + 1 := by simp [insL]; omega
theorem insL_get {xs : List Int} {i : Nat} (h : i ≤ xs.length) (x : Int) (k : Nat) : (insL xs i x)[k]? = if k < i then xs[k]? else if k = i then some x else xs[k - 1]? := by
  unfold insL
  by_cases h1 : k < i
  · rw [if_pos h1, List.getElem?_append_left (by simp; omega), List.getElem?_take, if_pos h1]
  · rw [if_neg h1, List.getElem?_append_right (by simp; omega)]
    simp only [List.length_take, Nat.min_eq_left h]
    by_cases h2 : k = i
    · rw [if_pos h2, h2, Nat.sub_self]; rfl
    · rw [if_neg h2, show k - i = (k - 1 - i) + 1 by omega, List.getElem?_cons_succ, List.getElem?_drop]
      congr 1; omega
end Go.Proofs.YtgijnebgchkenaaGreatDoor.Eng
end
