import Derived.Test.YtjekhcojebgpnaaEngDefer
import Derived.MapKept
/- The logic's rules for maps whose keys are whole numbers or strings. No program. -/
set_option linter.unusedVariables false
set_option linter.unusedSimpArgs false
set_option linter.unusedSectionVars false
namespace Go.Proofs.Ytjekhcojebgpnaa.Eng
open Go.RowKit

section
variable {K : Type} [DecidableEq K]
/-- Keys of a kind as values. -/
structure KeyOk (d : TypeDesc) (mk : K → Value) : Prop where
 isKey : ∀ k, MapKept.IsKey d (mk k)
 same : ∀ a b, Instr.sameNow d (mk a) (mk b) = some (decide (a = b))
 bits : ∀ k, Instr.sameBits 10000 (mk k) (mk k) = true

def lkK : List (K × Value) → K → Option Value
 | [], _ => none
 | (j, v) :: r, k => if j = k then some v else lkK r k
def setK : List (K × Value) → K → Value → List (K × Value)
 | [], k, v => [(k, v)]
 | (j, u) :: r, k, v => if j = k then (j, v) :: r else (j, u) :: setK r k v
def delK : List (K × Value) → K → List (K × Value)
 | [], _ => []
 | (j, u) :: r, k => if j = k then r else (j, u) :: delK r k
theorem lk_set (m : List (K × Value)) (k k' : K) (v : Value) : lkK (setK m k v) k' = if k = k' then some v else lkK m k' := by
 induction m with
 | nil => simp [setK, lkK]
 | cons p r ih =>
  obtain ⟨j, u⟩ := p
  simp only [setK]
  by_cases h : j = k
  ·subst h
   simp only [if_true, lkK]
   by_cases q : j = k' <;> simp [q]
  ·rw [if_neg h]
   simp only [lkK, ih]
   by_cases q : j = k'
   ·subst q; simp [Ne.symm h]
   ·simp [q]
def distinctK (m : List (K × Value)) : Prop := (m.map (·.1)).Nodup
theorem keys_set (m : List (K × Value)) (k : K) (v : Value) : ∀ j, j ∈ (setK m k v).map (·.1) ↔ j = k ∨ j ∈ m.map (·.1) := by
 intro j
 induction m with
 | nil => simp [setK]
 | cons p r ih =>
  obtain ⟨i, u⟩ := p
  simp only [setK]
  by_cases h : i = k
  ·subst h; simp
  ·rw [if_neg h]
   simp only [List.map_cons, List.mem_cons, ih]
   constructor
   ·rintro (h | h | h)
    ·exact .inr (.inl h)
    ·exact .inl h
    ·exact .inr (.inr h)
   ·rintro (h | h | h)
    ·exact .inr (.inl h)
    ·exact .inl h
    ·exact .inr (.inr h)
theorem distinct_set {m : List (K × Value)} (h : distinctK m) (k : K) (v : Value) : distinctK (setK m k v) := by
 induction m with
 | nil => simp [setK, distinctK]
 | cons p r ih =>
  obtain ⟨i, u⟩ := p
  simp only [distinctK, List.map_cons, List.nodup_cons] at h
  simp only [setK]
  by_cases q : i = k
  ·rw [if_pos q]; simp only [distinctK, List.map_cons, List.nodup_cons]; exact h
  ·rw [if_neg q]
   simp only [distinctK, List.map_cons, List.nodup_cons]
   refine ⟨fun hm => ?_, ih h.2⟩
   rcases (keys_set r k v i).1 hm with e | e
   ·exact q e
   ·exact h.1 e
theorem keys_del {m : List (K × Value)} (k : K) : ∀ j, j ∈ (delK m k).map (·.1) → j ∈ m.map (·.1) := by
 intro j
 induction m with
 | nil => simp [delK]
 | cons p r ih =>
  obtain ⟨i, u⟩ := p
  simp only [delK]
  by_cases h : i = k
  ·rw [if_pos h]; intro hj; simp only [List.map_cons]; exact List.mem_cons_of_mem _ hj
  ·rw [if_neg h]
   simp only [List.map_cons, List.mem_cons]
   rintro (h | h)
   ·exact .inl h
   ·exact .inr (ih h)
theorem distinct_del {m : List (K × Value)} (h : distinctK m) (k : K) : distinctK (delK m k) := by
 induction m with
 | nil => exact h
 | cons p r ih =>
  obtain ⟨i, u⟩ := p
  simp only [distinctK, List.map_cons, List.nodup_cons] at h
  simp only [delK]
  by_cases q : i = k
  ·rw [if_pos q]; exact h.2
  ·rw [if_neg q]
   simp only [distinctK, List.map_cons, List.nodup_cons]
   exact ⟨fun hm => h.1 (keys_del k i hm), ih h.2⟩
theorem lk_none {m : List (K × Value)} {k : K} (h : k ∉ m.map (·.1)) : lkK m k = none := by
 induction m with
 | nil => rfl
 | cons p r ih =>
  obtain ⟨i, u⟩ := p
  simp only [List.map_cons, List.mem_cons, not_or] at h
  simp only [lkK]
  rw [if_neg (Ne.symm h.1)]; exact ih h.2
theorem lk_del {m : List (K × Value)} (h : distinctK m) (k k' : K) : lkK (delK m k) k' = if k = k' then none else lkK m k' := by
 induction m with
 | nil => simp [delK, lkK]
 | cons p r ih =>
  obtain ⟨i, u⟩ := p
  simp only [distinctK, List.map_cons, List.nodup_cons] at h
  simp only [delK]
  by_cases q : i = k
  ·subst q
   rw [if_pos rfl]
   by_cases e : i = k'
   ·subst e; rw [if_pos rfl]; exact lk_none h.1
   ·rw [if_neg e]; simp [lkK, e]
  ·rw [if_neg q]
   simp only [lkK, ih h.2]
   by_cases e : i = k'
   ·subst e; simp [Ne.symm q]
   ·simp [e]

theorem del_none {m : List (K × Value)} {k : K} (h : lkK m k = none) : delK m k = m := by
 induction m with
 | nil => rfl
 | cons p r ih =>
  obtain ⟨i, u⟩ := p
  simp only [lkK] at h
  by_cases q : i = k
  ·rw [if_pos q] at h; cases h
  ·rw [if_neg q] at h; simp [delK, q, ih h]
theorem map_erase {A B : Type} (f : A → B) : ∀ (l : List A) (j : Nat), (l.eraseIdx j).map f = (l.map f).eraseIdx j
 | [], j => by simp
 | x :: l, 0 => by simp
 | x :: l, j + 1 => by simp [map_erase f l j]

/-- A map's block: its entries in their order. -/
def mapH (mk : K → Value) (b : Nat) (m : List (K × Value)) : HP := fun h => distinctK m ∧ ∃ es clock, h = Part.one b (.map es clock) ∧ es.toList.map (fun e => (e.key, e.val)) = m.map fun p => (mk p.1, p.2)

theorem map_some {mk : K → Value} {b : Nat} {m : List (K × Value)} {L : List HP} {w : World} (h : Sat (stars (mapH mk b m :: L)) w) : distinctK m ∧ ∃ es clock, es.toList.map (fun e => (e.key, e.val)) = m.map (fun p => (mk p.1, p.2)) ∧ Sat (stars (pt b (.map es clock) :: L)) w := by
 obtain ⟨_, hi, f, g0, ⟨hd, es, clock, rfl, he⟩, k, d, rfl⟩ := h
 exact ⟨hd, es, clock, he, _, hi, _, g0, rfl, k, d, rfl⟩
theorem map_of {mk : K → Value} {b : Nat} {m : List (K × Value)} {L : List HP} {w : World} {es : Array MapEntry} {clock : Nat} (hd : distinctK m) (he : es.toList.map (fun e => (e.key, e.val)) = m.map fun p => (mk p.1, p.2)) (h : Sat (stars (pt b (.map es clock) :: L)) w) :
  Sat (stars (mapH mk b m :: L)) w := by
 obtain ⟨_, hi, f, g0, rfl, k, d, rfl⟩ := h
 exact ⟨_, hi, _, g0, ⟨hd, es, clock, rfl, he⟩, k, d, rfl⟩

theorem findNow_map {d : TypeDesc} {mk : K → Value} (hk : KeyOk d mk) (k : K) : ∀ (m : List (K × Value)) (l : List MapEntry) (n : Nat), l.map (fun e => (e.key, e.val)) = m.map (fun p => (mk p.1, p.2)) →
  (Instr.findNow d (mk k) l n = some none ∧ lkK m k = none ∧ setK m k = fun v => m ++ [(k, v)]) ∨
  ∃ j v e, Instr.findNow d (mk k) l n = some (some (n + j, v)) ∧ lkK m k = some v ∧ l[j]? = some e ∧ e.key = mk k ∧ m[j]? = some (k, v) ∧ (∀ u, setK m k u = m.set j (k, u)) ∧ delK m k = m.eraseIdx j
 | [], l, n, h => by
  have : l = [] := by simpa using h
  subst this
  exact .inl ⟨rfl, rfl, by funext v; rfl⟩
 | (i, u) :: r, [], n, h => by simp at h
 | (i, u) :: r, e :: l, n, h => by
  simp only [List.map_cons, List.cons.injEq, Prod.mk.injEq] at h
  obtain ⟨⟨h1, h2⟩, h3⟩ := h
  simp only [Instr.findNow, h1, hk.same]
  by_cases q : i = k
  ·subst q
   rw [decide_eq_true rfl]
   exact .inr ⟨0, u, e, by simp [h2], by simp [lkK], by simp, h1, by simp, fun v => by simp [setK], by simp [delK]⟩
  ·rw [decide_eq_false (Ne.symm q)]
   simp only
   rcases findNow_map hk k r l (n + 1) h3 with ⟨a1, a2, a3⟩ | ⟨j, v, e', a1, a2, a3, a4, a5, a6, a7⟩
   ·exact .inl ⟨a1, by simp [lkK, q, a2], by funext v; simp [setK, q, a3]⟩
   ·exact .inr ⟨j + 1, v, e', by rw [a1]; congr 3; omega, by simp [lkK, q, a2], by simpa using a3, a4, by simpa using a5, fun v => by simp [setK, q, a6], by simp [delK, q, a7]⟩
theorem keyInt : KeyOk (.int .i64) (fun k : Int => Value.int .i64 k) := ⟨fun k => by simp [MapKept.IsKey], fun a b => by simp [Instr.sameNow]; by_cases q : a = b <;> simp [q], fun k => by simp [Instr.sameBits]⟩
end

section
variable {K : Type} [DecidableEq K]
variable {c : Cx} {fin : Exit → Act → World → Prop} {ds : List Deferred} {E : Env} {L : List HP} {ks : List KI} {ops : Array Oper} {rest : List Oper}
variable {d : Option Tmp} {ty : TypeId} {pos : String} {af : Array Edge} {mk : K → Value}

theorem o_makeMap {t : TypeId} (mk : K → Value) (hd : okDst d c.N = true) (k : ∀ b, TL c fin ds (upd d (.map (some b)) E) (mapH mk b [] :: L) ops rest ks) : TL c fin ds E L ops (⟨d, .makeMap t none, ty, pos, af, none⟩ :: rest) ks :=
 l_op hd (by intro k; simp) (fun b => .map (some b)) (fun b => mapH mk b [] :: L) (fun a w hs => ⟨w.heap.size, w.alloc (.map #[] 0), by
  simp [execOp, Instr.makeMap, run_newObj_alloc, Result.andThen], map_of (by simp [distinctK]) (by simp) (hs.sat.alloc _), (Ext.refl w).alloc _⟩) k

theorem q_lookup {gd : Option (Nat × Bool)} {t kt et : TypeId} {kd : TypeDesc} {x y : Operand} {b : Nat} {m : List (K × Value)} {M : List HP} {z : Value} {k : K} (hx : ev E x = some (.map (some b))) (hy : ev E y = some (mk k)) (ht : c.P.underlying t = some (.map kt et)) (hkt : c.P.underlying kt = some kd)
  (hk : KeyOk kd mk) (hz : ∀ w, (zeroValue et).run c.P w = .ok z w) (hm : Take (mapH mk b m) L M) (ok : Bool) :
  QV c ds E L ⟨d, .lookup t x y ok, ty, pos, af, gd⟩ (if ok then .tuple #[(lkK m k).getD z, .bool (lkK m k).isSome] else (lkK m k).getD z) :=
 ⟨by intro k; simp, fun a w hs => by
  obtain ⟨_, es, clock, he, hsat⟩ := map_some (hs.sat.take hm)
  have hb := hsat.block (b := b) .here
  have hck := MapKept.run_checkKey (w := w) hkt (hk.isKey k) es.isEmpty 9999
  rcases findNow_map hk k m es.toList 0 he with ⟨a1, a2, _⟩ | ⟨j, v, e, a1, a2, _⟩
  ·have hf := MapKept.run_findKey (w := w) hkt a1
   cases ok <;> simp [execOp, Instr.lookup, hs.ev hx, hs.ev hy, run_underlying ht, MapKept.run_getObj_map hb, hck, hf, hz, a2, Result.andThen]
  ·have hf := MapKept.run_findKey (w := w) hkt a1
   cases ok <;> simp [execOp, Instr.lookup, hs.ev hx, hs.ev hy, run_underlying ht, MapKept.run_getObj_map hb, hck, hf, a2, Result.andThen]⟩

theorem q_lookup2 {gd : Option (Nat × Bool)} {t kt et : TypeId} {kd : TypeDesc} {x y : Operand} {b : Nat} {m : List (K × Value)} {M : List HP} {z : Value} {k : K} (hk : KeyOk kd mk) (hx : ev E x = some (.map (some b))) (hy : ev E y = some (mk k)) (ht : c.P.underlying t = some (.map kt et)) (hkt : c.P.underlying kt = some kd)
  (hz : ∀ w, (zeroValue et).run c.P w = .ok z w) (hm : Take (mapH mk b m) L M) :
  QV c ds E L ⟨d, .lookup t x y true, ty, pos, af, gd⟩ (.tuple #[(lkK m k).getD z, .bool (lkK m k).isSome]) := q_lookup hx hy ht hkt hk hz hm true
theorem q_lookup1 {gd : Option (Nat × Bool)} {t kt et : TypeId} {kd : TypeDesc} {x y : Operand} {b : Nat} {m : List (K × Value)} {M : List HP} {z : Value} {k : K} (hk : KeyOk kd mk) (hx : ev E x = some (.map (some b))) (hy : ev E y = some (mk k)) (ht : c.P.underlying t = some (.map kt et)) (hkt : c.P.underlying kt = some kd)
  (hz : ∀ w, (zeroValue et).run c.P w = .ok z w) (hm : Take (mapH mk b m) L M) :
  QV c ds E L ⟨d, .lookup t x y false, ty, pos, af, gd⟩ ((lkK m k).getD z) := q_lookup hx hy ht hkt hk hz hm false
theorem run_mapUpdate {P : Program} {t kt et : TypeId} {kd : TypeDesc} {b : Nat} {m : List (K × Value)} {M : List HP} {k : K} {v : Value} {w : World} (ht : P.underlying t = some (.map kt et)) (hkt : P.underlying kt = some kd) (hk : KeyOk kd mk) (h : Sat (stars (mapH mk b m :: M)) w) :
  ∃ w', (Instr.mapUpdate t (.map (some b)) (mk k) v).run P w = .ok () w' ∧ Sat (stars (mapH mk b (setK m k v) :: M)) w' ∧ Ext w w' := by
 obtain ⟨hd, es, clock, he, hsat⟩ := map_some h
 have hb := hsat.block (b := b) .here
 have hck := MapKept.run_checkKey (w := w) hkt (hk.isKey k) false 9999
 rcases findNow_map hk k m es.toList 0 he with ⟨a1, a2, a3⟩ | ⟨j, u, e, a1, a2, a3, a4, a5, a6, _⟩
 ·have hf := MapKept.run_findKey (w := w) hkt a1
  refine ⟨w.putObj b (.map (es.push { key := mk k, val := v, born := clock }) (clock + 1)), ?_, map_of (distinct_set hd k v) ?_ (Sat.putObj hsat _), (Ext.refl w).putObj _ _⟩
  ·simp [Instr.mapUpdate, run_underlying ht, MapKept.run_getObj_map hb, hck, hf, Result.andThen, MapKept.run_setObj_map _ hb, World.putObj]
  ·rw [a3]; simp [he]
 ·have hf := MapKept.run_findKey (w := w) hkt a1
  rw [Nat.zero_add] at a1 hf
  have hj : es[j]? = some e := by simpa using a3
  refine ⟨w.putObj b (.map (es.modify j fun e => { e with key := mk k, val := v }) clock), ?_, map_of (distinct_set hd k v) ?_ (Sat.putObj hsat _), (Ext.refl w).putObj _ _⟩
  ·simp [Instr.mapUpdate, run_underlying ht, MapKept.run_getObj_map hb, hck, hf, Result.andThen, MapKept.run_setObj_map _ hb, World.putObj, hj, a4, Instr.keyThatStays, hk.bits]
  ·rw [a6, List.map_set, ← he]
   apply List.ext_getElem?
   intro i
   simp only [Array.toList_modify, List.getElem?_map, List.getElem?_modify, List.getElem?_set, List.length_map]
   by_cases q : j = i
   ·subst q
    have hlt : j < es.size := (Array.getElem?_eq_some_iff.1 hj).1
    simp [hlt]
   ·simp [q]
theorem o_mapUpdate {t kt et : TypeId} {kd : TypeDesc} {x y z : Operand} {b : Nat} {m : List (K × Value)} {M : List HP} {k : K} {v : Value} (hk : KeyOk kd mk) (hd : okDst d c.N = true) (hx : ev E x = some (.map (some b))) (hy : ev E y = some (mk k)) (hz : ev E z = some v)
  (ht : c.P.underlying t = some (.map kt et)) (hkt : c.P.underlying kt = some kd) (hm : Take (mapH mk b m) L M) (kk : TL c fin ds (upd d undef E) (mapH mk b (setK m k v) :: M) ops rest ks) :
  TL c fin ds E L ops (⟨d, .mapUpdate t x y z, ty, pos, af, none⟩ :: rest) ks :=
 l_do (X := Unit) hd (by intro k; simp) (fun _ => mapH mk b (setK m k v) :: M) (fun a w hs => by
  obtain ⟨w', h1, h2, h3⟩ := run_mapUpdate (k := k) (v := v) ht hkt hk (hs.sat.take hm)
  exact ⟨(), w', by simp [execOp, hs.ev hx, hs.ev hy, hs.ev hz, h1, Result.andThen], h2, h3⟩) fun _ => kk

theorem o_delete {t kt et t2 : TypeId} {kd : TypeDesc} {x y : Operand} {b : Nat} {m : List (K × Value)} {M : List HP} {k : K} (hk : KeyOk kd mk) (hd : okDst d c.N = true) (hx : ev E x = some (.map (some b))) (hy : ev E y = some (mk k))
  (ht : c.P.underlying t = some (.map kt et)) (hkt : c.P.underlying kt = some kd) (hm : Take (mapH mk b m) L M) (kk : TL c fin ds (upd d (.tuple #[]) E) (mapH mk b (delK m k) :: M) ops rest ks) :
  TL c fin ds E L ops (⟨d, .call { callee := .builtin .delete, args := #[x, y], argTypes := #[t, t2] }, ty, pos, af, none⟩ :: rest) ks :=
 l_op (X := Unit) hd (by intro k; simp) (fun _ => .tuple #[]) (fun _ => mapH mk b (delK m k) :: M) (fun a w hs => by
  obtain ⟨hdis, es, clock, he, hsat⟩ := map_some (hs.sat.take hm)
  have hb := hsat.block (b := b) .here
  have hck := MapKept.run_checkKey (w := w) hkt (hk.isKey k) es.isEmpty 9999
  rcases findNow_map hk k m es.toList 0 he with ⟨a1, a2, a3⟩ | ⟨j, u, e, a1, a2, a3, a4, a5, a6, a7⟩
  ·have hf := MapKept.run_findKey (w := w) hkt a1
   refine ⟨(), w.putObj b (.map es clock), ?_, map_of (distinct_del hdis k) ?_ (Sat.putObj hsat _), (Ext.refl w).putObj _ _⟩
   ·simp [execOp, resolve, invoke, builtin, Builtin.delete_, hs.ev hx, hs.ev hy, run_underlying ht, MapKept.run_getObj_map hb, hck, hf, Result.andThen, MapKept.run_setObj_map _ hb, World.putObj]
   ·have : delK m k = m := del_none a2
    rw [this]; exact he
  ·have hf := MapKept.run_findKey (w := w) hkt a1
   rw [Nat.zero_add] at a1 hf
   have hlt : j < es.size := by have := (List.getElem?_eq_some_iff.1 a3).1; simpa using this
   refine ⟨(), w.putObj b (.map (es.eraseIdxIfInBounds j) clock), ?_, map_of (distinct_del hdis k) ?_ (Sat.putObj hsat _), (Ext.refl w).putObj _ _⟩
   ·simp [execOp, resolve, invoke, builtin, Builtin.delete_, hs.ev hx, hs.ev hy, run_underlying ht, MapKept.run_getObj_map hb, hck, hf, Result.andThen, MapKept.run_setObj_map _ hb, World.putObj]
   ·rw [a7, map_erase, ← he, ← map_erase]
    simp [Array.eraseIdxIfInBounds, hlt]) fun _ => kk
end
end Go.Proofs.Ytjekhcojebgpnaa.Eng
