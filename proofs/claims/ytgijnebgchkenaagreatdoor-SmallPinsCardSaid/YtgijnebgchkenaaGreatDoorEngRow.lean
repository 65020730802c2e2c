import Derived.Test.YtgijnebgchkenaaGreatDoorEngStr
import Derived.Test.YtgijnebgchkenaaGreatDoorInsert
/- The logic's rules for rows whose elements are of several cells. No program. -/
set_option linter.unusedVariables false
set_option linter.unusedSimpArgs false
namespace Go.Proofs.YtgijnebgchkenaaGreatDoor.Eng
open Go.RowKit

/-- Where a slice's tail begins, its elements of n cells. -/
def tailN (n o l cap : Nat) : Nat := if cap = l then o else o + l * n
section
variable {c : Cx} {fin : Exit → Act → World → Prop} {ds : List Deferred} {E : Env} {L : List HP} {ks : List KI} {ops : Array Oper} {rest : List Oper}
variable {d : Option Tmp} {ty : TypeId} {pos : String} {af : Array Edge} {gd : Option (Nat × Bool)}

theorem run_sliceN {P : Program} {w : World} {t e : TypeId} {b o n len cap l h : Nat} {lo hi : Option Value} (hu : P.underlying t = some (.slice e)) (hn : ∀ w, (sizeOf e).run P w = .ok n w)
    (hlo : (lo = none ∧ l = 0) ∨ ∃ k, lo = some (.int k (l : Int))) (hhi : (hi = none ∧ h = len) ∨ ∃ k, hi = some (.int k (h : Int))) (hb : l ≤ h) (hc : h ≤ cap) :
    (Instr.slice t (.slice (some ⟨b, o, none⟩) len cap) lo hi none).run P w = .ok (.slice (some ⟨b, tailN n o l cap, none⟩) (h - l) (cap - l)) w := by
  have hres : (if cap = l then (some ⟨b, o, none⟩ : Option Addr) else (some (⟨b, o, none⟩ : Addr)).map (·.add (l * n))) = some ⟨b, tailN n o l cap, none⟩ := by
    unfold tailN
    split
    · rfl
    · simp [add_none]
  have h1 : (0 : Int) ≤ (l : Int) ∧ (l : Int) ≤ (h : Int) := by omega
  have h2 : (0 : Int) ≤ (h : Int) ∧ (h : Int) ≤ (cap : Int) := by omega
  unfold Instr.slice
  simp only [Sem.run_bind, run_underlying hu, Result.andThen]
  rcases hlo with ⟨rfl, rfl⟩ | ⟨k, rfl⟩ <;> rcases hhi with ⟨rfl, rfl⟩ | ⟨k', rfl⟩
  · simp only [Instr.sliceBounds, Sem.run_bind, Sem.run_pure, Result.andThen, hn, hres]
  · simp only [Instr.sliceBounds, Instr.sliceBound, asIntOf, Sem.run_bind, Sem.run_pure, Result.andThen, if_pos h2, hn, Int.toNat_natCast, hres]
  · simp only [Instr.sliceBounds, Instr.sliceBound, asIntOf, Sem.run_bind, Sem.run_pure, Result.andThen, if_pos h1, hn, Int.toNat_natCast, hres]
  · simp only [Instr.sliceBounds, Instr.sliceBound, asIntOf, Sem.run_bind, Sem.run_pure, Result.andThen, if_pos h2, if_pos h1, hn, Int.toNat_natCast, hres]
theorem q_sliceN_l {t e : TypeId} {x y : Operand} {b o n len cap : Nat} {kd : IntKind} {l : Int} (hx : ev E x = some (.slice (some ⟨b, o, none⟩) len cap)) (hy : ev E y = some (.int kd l)) (hu : c.P.underlying t = some (.slice e)) (hn : ∀ w, (sizeOf e).run c.P w = .ok n w) (hl : 0 ≤ l ∧ l ≤ (len : Int) ∧ len ≤ cap) :
    QV c ds E L ⟨d, .slice t x (some y) none none, ty, pos, af, gd⟩ (.slice (some ⟨b, tailN n o l.toNat cap, none⟩) (len - l.toNat) (cap - l.toNat)) :=
  ⟨by intro k; simp, fun a w hs => by
    obtain ⟨m, rfl⟩ := Int.eq_ofNat_of_zero_le hl.1
    have := run_sliceN (P := c.P) (w := w) (b := b) (o := o) (len := len) (cap := cap) (l := m) (h := len) (lo := some (.int kd m)) (hi := none) hu hn (.inr ⟨kd, rfl⟩) (.inl ⟨rfl, rfl⟩) (by omega) hl.2.2
    simp [execOp, Instr.sliceAt, run_underlying hu, hs.ev hx, hs.ev hy, this, Result.andThen]⟩
theorem q_sliceN_h {t e : TypeId} {x y : Operand} {b o n len cap : Nat} {kd : IntKind} {h : Int} (hx : ev E x = some (.slice (some ⟨b, o, none⟩) len cap)) (hy : ev E y = some (.int kd h)) (hu : c.P.underlying t = some (.slice e)) (hn : ∀ w, (sizeOf e).run c.P w = .ok n w) (hl : 0 ≤ h ∧ h ≤ (cap : Int)) :
    QV c ds E L ⟨d, .slice t x none (some y) none, ty, pos, af, gd⟩ (.slice (some ⟨b, o, none⟩) h.toNat cap) :=
  ⟨by intro k; simp, fun a w hs => by
    obtain ⟨m, rfl⟩ := Int.eq_ofNat_of_zero_le hl.1
    have := run_sliceN (P := c.P) (w := w) (b := b) (o := o) (len := len) (cap := cap) (l := 0) (h := m) (lo := none) (hi := some (.int kd m)) hu hn (.inl ⟨rfl, rfl⟩) (.inr ⟨kd, rfl⟩) (by omega) (by omega)
    have e0 : tailN n o 0 cap = o := by unfold tailN; split <;> simp
    rw [e0] at this
    simp [execOp, Instr.sliceAt, run_underlying hu, hs.ev hx, hs.ev hy, this, Result.andThen]⟩
theorem o_appendR {x y : Operand} {t e : TypeId} {z v : Value} {sz bytes n m cp : Nat} {a0 : Addr} {xs : List Value} (us : List Value) {M : List HP}
    (hd : okDst d c.N = true) (hx : ev E x = some v) (hy : ev E y = some (.slice (some a0) m cp)) (ht : c.P.underlying t = some (.slice e)) (hinf : ∃ i, c.P.info? e = some i ∧ i.zero = some z ∧ i.size = sz ∧ i.bytes = bytes) (hzs : z.cells.size = sz) (hsz : Nat.blt 0 sz = true) (hown : Take (ownS e sz v n xs) L M)
    (hr : Reads M a0 us) (hl : us.length = m * sz) (h1 : us.all (·.oneCell') = true)
    (h63 : n + m ≤ maxLen) (hbytes : (n + m) * bytes ≤ 140737488355328)
    (k : ∀ v', TL c fin ds (upd d v' E) (ownS e sz v' (n + m) (xs ++ us) :: M) ops rest ks) :
    TL c fin ds E L ops (⟨d, .call { callee := .builtin .append, args := #[x, y], argTypes := #[t, t] }, ty, pos, af, none⟩ :: rest) ks :=
  l_op hd (by intro k; simp) (fun v' => v') (fun v' => ownS e sz v' (n + m) (xs ++ us) :: M) (fun a w hs => by
    obtain ⟨i, hi, hz, hsize, hby⟩ := hinf
    obtain ⟨v', w', hr, hsat, hext⟩ := append_own (ty := ty) (c := cp) ht hi hz hsize hby hzs (Nat.le_of_ble_eq_true hsz) (hs.sat.take hown) (hr w (hs.sat.take hown).tail) hl h1 h63 hbytes
    refine ⟨v', w', ?_, hsat, hext⟩
    simp [execOp, resolve, invoke, builtin, hs.ev hx, hs.ev hy, hr, Result.andThen]) k
/-- An append of a slice that may be nil. -/
theorem o_appendO {x y : Operand} {t e : TypeId} {z v : Value} {sz bytes n m cp : Nat} {a : Option Addr} {xs : List Value} (us : List Value) {M : List HP}
    (hd : okDst d c.N = true) (hx : ev E x = some v) (hy : ev E y = some (.slice a m cp)) (hnil : a = none → cp = 0 ∧ us = []) (ht : c.P.underlying t = some (.slice e)) (hinf : ∃ i, c.P.info? e = some i ∧ i.zero = some z ∧ i.size = sz ∧ i.bytes = bytes) (hzs : z.cells.size = sz) (hsz : Nat.blt 0 sz = true) (hown : Take (ownS e sz v n xs) L M)
    (hr : ∀ a0, a = some a0 → Reads M a0 us) (hl : us.length = m * sz) (h1 : us.all (·.oneCell') = true)
    (h63 : n + m ≤ maxLen) (hbytes : (n + m) * bytes ≤ 140737488355328)
    (k : ∀ v', TL c fin ds (upd d v' E) (ownS e sz v' (n + m) (xs ++ us) :: M) ops rest ks) :
    TL c fin ds E L ops (⟨d, .call { callee := .builtin .append, args := #[x, y], argTypes := #[t, t] }, ty, pos, af, none⟩ :: rest) ks := by
  cases a with
  | some a0 => exact o_appendR us hd hx hy ht hinf hzs hsz hown (hr a0 rfl) hl h1 h63 hbytes k
  | none =>
    obtain ⟨rfl, rfl⟩ := hnil rfl
    have hs0 : 0 < sz := Nat.le_of_ble_eq_true hsz
    have hm : m = 0 := by
      rcases Nat.eq_zero_or_pos m with h | h
      · exact h
      · have := Nat.mul_pos h hs0; simp at hl; omega
    subst hm
    refine l_op hd (by intro k; simp) (fun v' => v') (fun v' => ownS e sz v' (n + 0) (xs ++ []) :: M) (fun a w hs => ?_) k
    obtain ⟨i, hi, hz, hsize, hby⟩ := hinf
    have hsat := hs.sat.take hown
    refine ⟨v, w, ?_, by rw [List.append_nil, Nat.add_zero]; exact hsat, Ext.refl w⟩
    have hrun : (Builtin.append_ #[t, t] ty #[v, .slice none 0 0]).run c.P w = .ok v w := by
      obtain ⟨_, ⟨rfl, rfl, _⟩ | ⟨g, cap, cur, rfl, hnc, _⟩⟩ := own_some hsat
      · simp [Builtin.append_, run_underlying ht, sizeOf, typeInfo, hi, Builtin.lenOf, Builtin.firstCells]
      · simp [Builtin.append_, run_underlying ht, sizeOf, typeInfo, hi, Builtin.lenOf, Builtin.firstCells, hnc, storeCells]
    simp [execOp, resolve, invoke, builtin, hs.ev hx, hs.ev hy, hrun, Result.andThen]
/-- A nil slice owns nothing. -/
theorem own_nil0 {e : TypeId} {sz n cap : Nat} {a : Option Addr} {xs : List Value} {L : List HP} {w : World} (h : Sat (stars (ownS e sz (.slice a n cap) n xs :: L)) w) : a = none → cap = 0 ∧ xs = [] := fun ea => by
  subst ea
  obtain ⟨hl, ⟨h1, h2, _⟩ | ⟨g, c, cur, h1, _⟩⟩ := own_some h
  · cases h1; exact ⟨rfl, by simpa using hl⟩
  · cases h1
/-- A new slice without elements, with room for some. -/
theorem o_makeSlice0 {t e : TypeId} {x y : Operand} {z : Value} {sz bytes : Nat} {kl kc : IntKind} {m : Int} (xs : List Value) (hxs : xs = []) (hd : okDst d c.N = true) (hx : ev E x = some (.int kl 0)) (hy : ev E y = some (.int kc m))
    (ht : c.P.underlying t = some (.slice e)) (hinf : ∃ i, c.P.info? e = some i ∧ i.zero = some z ∧ i.size = sz ∧ i.bytes = bytes) (h0 : 0 ≤ m) (hb : (bytes : Int) * m ≤ 281474976710656 ∧ m ≤ 9223372036854775807)
    (k : ∀ b, TL c fin ds (upd d (.slice (some ⟨b, 0, none⟩) 0 m.toNat) E) (ownS e sz (.slice (some ⟨b, 0, none⟩) 0 m.toNat) 0 xs :: L) ops rest ks) : TL c fin ds E L ops (⟨d, .makeSlice t x y, ty, pos, af, none⟩ :: rest) ks := by
  subst hxs
  exact l_op hd (by intro k; simp) (fun b => .slice (some ⟨b, 0, none⟩) 0 m.toNat) (fun b => ownS e sz (.slice (some ⟨b, 0, none⟩) 0 m.toNat) 0 [] :: L) (fun a w hs => by
    obtain ⟨i, hi, hiz, hsize, hby⟩ := hinf
    have hr := run_make w t e i z ht hi hiz kl kc 0 m (Int.le_refl _) h0 (by rw [hby]; exact hb.1) hb.2
    refine ⟨w.heap.size, w.alloc (.cells (madeCells z.cells (m.toNat * i.size)) e), ?_, ?_, (Ext.refl w).alloc _⟩
    · simp only [execOp, Sem.run_bind, hs.ev hx, hs.ev hy, hr, Result.andThen, Sem.run_pure]; rfl
    · exact own_of_pt (hs.sat.alloc _) (by simp) (by omega) (by simp only [maxLen]; omega) (by simp [size_madeCells, hsize]) (by simp)) k
/-- An empty row, owned. -/
theorem l_own0 {b : Nat} {e : TypeId} (sz : Nat) {l : List Oper} {M : List HP} (ht : Take (pt b (.cells #[] e (0, 0))) L M) (k : TL c fin ds E (ownS e sz (.slice (some ⟨b, 0, none⟩) 0 0) 0 [] :: M) ops l ks) : TL c fin ds E L ops l ks := fun a w hs =>
  k a w ⟨hs.size, hs.defs, hs.agree, own_of_pt (hs.sat.take ht) (by simp) (Nat.le_refl _) (by simp [maxLen]) (by simp) (by simp), hs.ext⟩
end
/-- A part of a row, read where it lies. -/
theorem reads_part {e : TypeId} {sz g n cap o k : Nat} {xs : List Value} {L M : List HP} (ht : Take (ownS e sz (.slice (some ⟨g, 0, none⟩) n cap) n xs) L M) : Reads L ⟨g, o, none⟩ ((xs.drop o).take k) := fun w hs j v hv => by
  obtain ⟨cur, _, c2, _, _, _, hsat⟩ := own_open (hs.take ht)
  have hg := hsat.block (b := g) .here
  rw [add_none]
  rw [List.getElem?_take] at hv
  split at hv
  · rw [List.getElem?_drop] at hv
    have := own_at c2 hv
    simp [World.cell?, hg, this]
  · cases hv
theorem reads_nil {L : List HP} {a : Addr} : Reads L a [] := fun w hs j v hv => by simp at hv
/-- A cell of a row. -/
theorem own_cell {e : TypeId} {sz g n cap o : Nat} {xs : List Value} {v : Value} (hv : xs[o]? = some v) : CellAt (ownS e sz (.slice (some ⟨g, 0, none⟩) n cap) n xs) ⟨g, o, none⟩ v := fun w hs => by
  have hs' : Sat (stars (ownS e sz (.slice (some ⟨g, 0, none⟩) n cap) n xs :: [])) w := by
    obtain ⟨f, hi, ha⟩ := hs
    exact ⟨f, hi, f, Part.none, ha, rfl, Part.disj_none _, (Part.join_none _).symm⟩
  obtain ⟨cur, _, c2, _, _, _, hsat⟩ := own_open hs'
  have hg := hsat.block (b := g) .here
  have := own_at c2 hv
  simp [World.cell?, hg, this]
/-- A list's row: each element's cells, one after the other. -/
def rowOf {A : Type} (f : A → List Value) (xs : List A) : List Value := xs.flatMap f
theorem rowOf_len {A : Type} {f : A → List Value} {sz : Nat} (hf : ∀ a, (f a).length = sz) (xs : List A) : (rowOf f xs).length = xs.length * sz := by
  induction xs with
  | nil => simp [rowOf]
  | cons a xs ih =>
    have : rowOf f (a :: xs) = f a ++ rowOf f xs := by simp [rowOf]
    rw [this, List.length_append, ih, hf, List.length_cons, Nat.add_mul]; omega
theorem rowOf_get {A : Type} {f : A → List Value} {sz : Nat} (hf : ∀ a, (f a).length = sz) : ∀ (xs : List A) (i j : Nat) (a : A), xs[i]? = some a → j < sz → (rowOf f xs)[i * sz + j]? = (f a)[j]?
  | [], i, j, a, h, _ => by simp at h
  | b :: xs, 0, j, a, h, hj => by
    simp at h; subst h
    have : rowOf f (b :: xs) = f b ++ rowOf f xs := by simp [rowOf]
    rw [this, Nat.zero_mul, Nat.zero_add, List.getElem?_append_left (by rw [hf]; exact hj)]
  | b :: xs, i + 1, j, a, h, hj => by
    have : rowOf f (b :: xs) = f b ++ rowOf f xs := by simp [rowOf]
    rw [this, List.getElem?_append_right (by rw [hf, Nat.add_mul]; omega), hf, show (i + 1) * sz + j - sz = i * sz + j by rw [Nat.add_mul]; omega]
    exact rowOf_get hf xs i j a (by simpa using h) hj
theorem rowOf_app {A : Type} (f : A → List Value) (xs ys : List A) : rowOf f (xs ++ ys) = rowOf f xs ++ rowOf f ys := by simp [rowOf]
theorem rowOf_drop {A : Type} {f : A → List Value} {sz : Nat} (hf : ∀ a, (f a).length = sz) : ∀ (xs : List A) (i : Nat), i ≤ xs.length → (rowOf f xs).drop (i * sz) = rowOf f (xs.drop i)
  | xs, 0, _ => by simp
  | [], i + 1, h => by simp at h
  | b :: xs, i + 1, h => by
    have : rowOf f (b :: xs) = f b ++ rowOf f xs := by simp [rowOf]
    rw [this, List.drop_append, List.drop_eq_nil_of_le (by rw [hf, Nat.add_mul]; omega), hf, List.nil_append, show (i + 1) * sz - sz = i * sz by rw [Nat.add_mul]; omega]
    simpa using rowOf_drop hf xs i (by simpa using h)
theorem rowOf_take {A : Type} {f : A → List Value} {sz : Nat} (hf : ∀ a, (f a).length = sz) : ∀ (xs : List A) (i : Nat), i ≤ xs.length → (rowOf f xs).take (i * sz) = rowOf f (xs.take i)
  | xs, 0, _ => by simp [rowOf]
  | [], i + 1, h => by simp at h
  | b :: xs, i + 1, h => by
    have : rowOf f (b :: xs) = f b ++ rowOf f xs := by simp [rowOf]
    have h2 : rowOf f ((b :: xs).take (i + 1)) = f b ++ rowOf f (xs.take i) := by simp [rowOf]
    rw [this, h2, List.take_append, List.take_of_length_le (by rw [hf, Nat.add_mul]; omega), hf, show (i + 1) * sz - sz = i * sz by rw [Nat.add_mul]; omega, rowOf_take hf xs i (by simpa using h)]
theorem rowOf_set {A : Type} {f : A → List Value} {sz : Nat} (hf : ∀ a, (f a).length = sz) {a' : A} {v : Value} {j : Nat} (hj : j < sz) : ∀ (xs : List A) (i : Nat) (a : A), xs[i]? = some a → f a' = (f a).set j v → (rowOf f xs).set (i * sz + j) v = rowOf f (xs.set i a')
  | [], i, a, h, _ => by simp at h
  | b :: xs, 0, a, h, he => by
    simp at h; subst h
    have : rowOf f (b :: xs) = f b ++ rowOf f xs := by simp [rowOf]
    have h2 : rowOf f ((b :: xs).set 0 a') = f a' ++ rowOf f xs := by simp [rowOf]
    rw [this, h2, Nat.zero_mul, Nat.zero_add, List.set_append_left _ _ (by rw [hf]; exact hj), he]
  | b :: xs, i + 1, a, h, he => by
    have : rowOf f (b :: xs) = f b ++ rowOf f xs := by simp [rowOf]
    have h2 : rowOf f ((b :: xs).set (i + 1) a') = f b ++ rowOf f (xs.set i a') := by simp [rowOf]
    rw [this, h2, List.set_append_right _ _ (by rw [hf, Nat.add_mul]; omega), hf, show (i + 1) * sz + j - sz = i * sz + j by rw [Nat.add_mul]; omega, rowOf_set hf hj xs i a (by simpa using h) he]
theorem rowOf_one {A : Type} {f : A → List Value} (hf : ∀ a, (f a).all (·.oneCell') = true) (xs : List A) : (rowOf f xs).all (·.oneCell') = true := by
  rw [List.all_eq_true]
  intro v hv
  obtain ⟨a, _, h⟩ := List.mem_flatMap.1 hv
  exact List.all_eq_true.1 (hf a) v h
theorem reads_head {A : Type} {f : A → List Value} {e : TypeId} {sz g n cap i : Nat} {xs : List A} {L M : List HP} (hf : ∀ a, (f a).length = sz) (ht : Take (ownS e sz (.slice (some ⟨g, 0, none⟩) n cap) n (rowOf f xs)) L M) (hi : i ≤ xs.length) : Reads L ⟨g, 0, none⟩ (rowOf f (xs.take i)) := by
  have := reads_part (o := 0) (k := i * sz) ht
  rw [List.drop_zero, rowOf_take hf xs i hi] at this
  exact this
theorem reads_tail {A : Type} {f : A → List Value} {e : TypeId} {sz g n cap i : Nat} {xs : List A} {L M : List HP} (hf : ∀ a, (f a).length = sz) (ht : Take (ownS e sz (.slice (some ⟨g, 0, none⟩) n cap) n (rowOf f xs)) L M) (hn : n = xs.length) (hi : i ≤ n) (hc : n ≤ cap) : Reads L ⟨g, tailN sz 0 i cap, none⟩ (rowOf f (xs.drop i)) := by
  by_cases q : cap = i
  · rw [List.drop_eq_nil_of_le (by omega)]; exact reads_nil
  · have := reads_part (o := i * sz) (k := (rowOf f (xs.drop i)).length) ht
    rw [rowOf_drop hf xs i (by omega), List.take_length] at this
    unfold tailN
    rw [if_neg q, Nat.zero_add]
    exact this
/-- Strings laid one behind the other. -/
theorem b_addS {P : Program} {t : TypeId} (w : World) {a b : ByteArray} (h : a.size + b.size ≤ 9223372036854775807) : (binOp .add t (.string a) (.string b)).run P w = .ok (.string (a ++ b)) w := by
  have : ¬ (((a.size + b.size : Nat) : Int) > IntKind.i64.max) := by show ¬ (_ > (9223372036854775807 : Int)); omega
  simp only [binOp, Op.stringOp]
  rw [if_neg this]; rfl
end Go.Proofs.YtgijnebgchkenaaGreatDoor.Eng
