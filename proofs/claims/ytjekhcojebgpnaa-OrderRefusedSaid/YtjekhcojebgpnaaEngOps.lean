/- The logic's rules for the operations, one a kind. No program. -/
import Derived.Test.YtjekhcojebgpnaaEngSt
import Derived.Laws.Entries
import Derived.Laws.BitsAllLaws
import Derived.Laws.BitsLemmas
import Derived.IntWalk
import Derived.WideShapes
import Derived.Laws.Strings
set_option linter.unusedVariables false
set_option linter.unusedSimpArgs false
namespace Go.Proofs.Ytjekhcojebgpnaa.Eng
open Go.RowKit

theorem add_none (b o k : Nat) : (⟨b, o, none⟩ : Addr).add k = ⟨b, o + k, none⟩ := by
 unfold Addr.add
 split
 ·next h => subst h; rfl
 ·rfl

def evp (E : Env) : List (Nat × Operand) → Option (List (Nat × Value))
 | [] => some []
 | (i, x) :: r => match ev E x, evp E r with
  | some v, some vs => some ((i, v) :: vs)
  | _, _ => none
theorem evp_map {c : Cx} {ds : List Deferred} {E : Env} {L : List HP} {a : Act} {w : World} (hs : St c ds E L a w) : ∀ {ps : List (Nat × Operand)} {vs : List (Nat × Value)}, evp E ps = some vs → ps.map (fun p => (p.1, a.eval p.2)) = vs
 | [], vs, e => by simp only [evp, Option.some.injEq] at e; exact e
 | (i, x) :: r, vs, e => by
  simp only [evp] at e
  cases hx : ev E x with
  | none => rw [hx] at e; cases e
  | some v =>
   cases hr : evp E r with
   | none => rw [hx, hr] at e; cases e
   | some us => rw [hx, hr] at e; cases e; simp only [List.map_cons, hs.ev hx, evp_map hs hr]

section
variable {c : Cx} {fin : Exit → Act → World → Prop} {ds : List Deferred} {E : Env} {L : List HP} {ks : List KI} {ops : Array Oper} {rest : List Oper}
variable {d : Option Tmp} {ty : TypeId} {pos : String} {af : Array Edge} {gd : Option (Nat × Bool)}

theorem q_move {x : Operand} {v : Value} (hx : ev E x = some v) :
  QV c ds E L ⟨d, .move x, ty, pos, af, gd⟩ v :=
 ⟨by intro k; simp, fun a w hs => by simp only [execOp, hs.ev hx]; rfl⟩
theorem q_assign {x : Operand} {v : Value} (hx : ev E x = some v) :
  QV c ds E L ⟨d, .assign x, ty, pos, af, gd⟩ v :=
 ⟨by intro k; simp, fun a w hs => by simp only [execOp, hs.ev hx]; rfl⟩
theorem q_pick_t {x y z : Operand} {v : Value} (hx : ev E x = some (.bool true)) (hy : ev E y = some v) :
  QV c ds E L ⟨d, .pick x y z, ty, pos, af, gd⟩ v :=
 ⟨by intro k; simp, fun a w hs => by simp [execOp, hs.ev hx, hs.ev hy, asBool, Result.andThen]⟩
theorem q_pick_f {x y z : Operand} {v : Value} (hx : ev E x = some (.bool false)) (hz : ev E z = some v) :
  QV c ds E L ⟨d, .pick x y z, ty, pos, af, gd⟩ v :=
 ⟨by intro k; simp, fun a w hs => by simp [execOp, hs.ev hx, hs.ev hz, asBool, Result.andThen]⟩

/-- A new variable. -/
theorem o_alloc {elem : TypeId} {z : Value} {cs : Array Value} (hd : okDst d c.N = true) (hz : ∀ w, (zeroValue elem).run c.P w = .ok z w) (hcs : z.cells = cs)
  (k : ∀ b, TL c fin ds (upd d (.pointer (some ⟨b, 0, none⟩)) E) (pt b (.cells cs elem (0, 0)) :: L) ops rest ks) : TL c fin ds E L ops (⟨d, .alloc elem, ty, pos, af, none⟩ :: rest) ks :=
 l_op hd (by intro k; simp) (fun b => .pointer (some ⟨b, 0, none⟩)) (fun b => pt b (.cells cs elem (0, 0)) :: L)
  (fun a w hs => ⟨w.heap.size, w.alloc (.cells cs elem (0, 0)), by
   simp only [execOp, Instr.alloc, Sem.run_bind, hz, Result.andThen, newVar, newRow, hcs, run_newObj_alloc, Sem.run_pure], hs.sat.alloc _, (Ext.refl w).alloc _⟩) k
theorem o_box {elem : TypeId} {x : Operand} {v : Value} {cs : Array Value} (hd : okDst d c.N = true) (hx : ev E x = some v) (hcs : v.cells = cs)
  (k : ∀ b, TL c fin ds (upd d (.pointer (some ⟨b, 0, none⟩)) E) (pt b (.cells cs elem (0, 0)) :: L) ops rest ks) : TL c fin ds E L ops (⟨d, .box elem x, ty, pos, af, none⟩ :: rest) ks :=
 l_op hd (by intro k; simp) (fun b => .pointer (some ⟨b, 0, none⟩)) (fun b => pt b (.cells cs elem (0, 0)) :: L)
  (fun a w hs => ⟨w.heap.size, w.alloc (.cells cs elem (0, 0)), by
   simp only [execOp, Instr.box, Sem.run_bind, hs.ev hx, Result.andThen, newVar, newRow, hcs, run_newObj_alloc, Sem.run_pure], hs.sat.alloc _, (Ext.refl w).alloc _⟩) k

theorem cells_one {v : Value} (hv : v.oneCell' = true) : v.cells = #[v] := by cases v <;> first | rfl | (simp [Value.oneCell'] at hv)
theorem o_alloc1 {elem : TypeId} {z : Value} (hd : okDst d c.N = true) (hz : ∀ w, (zeroValue elem).run c.P w = .ok z w) (hcs : z.oneCell' = true)
  (k : ∀ b, TL c fin ds (upd d (.pointer (some ⟨b, 0, none⟩)) E) (pt b (.cells #[z] elem (0, 0)) :: L) ops rest ks) : TL c fin ds E L ops (⟨d, .alloc elem, ty, pos, af, none⟩ :: rest) ks := o_alloc hd hz (cells_one hcs) k
theorem o_allocA {elem : TypeId} {cs : Array Value} (hd : okDst d c.N = true) (hz : ∀ w, (zeroValue elem).run c.P w = .ok (.agg cs) w)
  (k : ∀ b, TL c fin ds (upd d (.pointer (some ⟨b, 0, none⟩)) E) (pt b (.cells cs elem (0, 0)) :: L) ops rest ks) : TL c fin ds E L ops (⟨d, .alloc elem, ty, pos, af, none⟩ :: rest) ks := o_alloc hd hz rfl k
theorem o_box1 {elem : TypeId} {x : Operand} {v : Value} (hd : okDst d c.N = true) (hx : ev E x = some v) (hcs : v.oneCell' = true)
  (k : ∀ b, TL c fin ds (upd d (.pointer (some ⟨b, 0, none⟩)) E) (pt b (.cells #[v] elem (0, 0)) :: L) ops rest ks) : TL c fin ds E L ops (⟨d, .box elem x, ty, pos, af, none⟩ :: rest) ks := o_box hd hx (cells_one hcs) k
theorem o_boxA {elem : TypeId} {x : Operand} {cs : Array Value} (hd : okDst d c.N = true) (hx : ev E x = some (.agg cs))
  (k : ∀ b, TL c fin ds (upd d (.pointer (some ⟨b, 0, none⟩)) E) (pt b (.cells cs elem (0, 0)) :: L) ops rest ks) : TL c fin ds E L ops (⟨d, .box elem x, ty, pos, af, none⟩ :: rest) ks := o_box hd hx rfl k

/-- Loads: one cell; several. -/
theorem q_load {t : TypeId} {x : Operand} {b o : Nat} {v : Value} {cs : Array Value} {tt : TypeId} {fr : Nat × Nat} {M : List HP} (hx : ev E x = some (.pointer (some ⟨b, o, none⟩)))
  (ha : ∀ w, (isAgg t).run c.P w = .ok false w) (ht : Take (pt b (.cells cs tt fr)) L M) (hv : cs[o]? = some v) :
  QV c ds E L ⟨d, .load t x, ty, pos, af, gd⟩ v :=
 ⟨by intro k; simp, fun a w hs => by
  have hb := hs.sat.block ht
  simp only [execOp, Instr.loadAt, Instr.sureAddr, hs.ev hx, Sem.run_bind, Sem.run_pure, Result.andThen, loadVar, ha]
  simp [load, Sem.run, World.cell?, hb, hv]⟩

/-- A cell of a written-out row. -/
inductive GetAt : List Value → Nat → Value → Prop
 | here {x : Value} {l : List Value} : GetAt (x :: l) 0 x
 | there {x v : Value} {o : Nat} {l : List Value} : GetAt l o v → GetAt (x :: l) (o + 1) v
theorem GetAt.eq {l : List Value} {o : Nat} {v : Value} (h : GetAt l o v) : l.toArray[o]? = some v := by
 have : l[o]? = some v := by
  induction h with
  | here => rfl
  | there _ ih => simpa using ih
 simpa using this
theorem ga {l : List Value} {o : Nat} {v : Value} (h : GetAt l o v := by repeat (first | exact GetAt.here | apply GetAt.there)) : GetAt l o v := h
theorem q_loadL {t : TypeId} {x : Operand} {b o : Nat} {v : Value} {l : List Value} {tt : TypeId} {fr : Nat × Nat} {M : List HP} (hx : ev E x = some (.pointer (some ⟨b, o, none⟩)))
  (ha : ∀ w, (isAgg t).run c.P w = .ok false w) (ht : Take (pt b (.cells l.toArray tt fr)) L M) (hv : GetAt l o v) : QV c ds E L ⟨d, .load t x, ty, pos, af, gd⟩ v := q_load hx ha ht hv.eq

theorem Rv.cellL {P : Program} {E : Env} {L : List HP} {t b : Nat} {o : Nat} {ty tt : TypeId} {v : Value} {l : List Value} {fr : Nat × Nat} {M : List HP}
  (e : lk E t = some (.pointer (some ⟨b, o, none⟩))) (ht : Take (pt b (.cells l.toArray tt fr)) L M) (hv : GetAt l o v) (ha : ∀ w, (isAgg ty).run P w = .ok false w) : Rv P E L (.cell t ty) v := Rv.cell e ht hv.eq ha
theorem run_loadCellsFrom {P : Program} {w : World} {b : Nat} {cs : Array Value} {tt : TypeId} {fr : Nat × Nat} (hb : w.heap[b]? = some (.cells cs tt fr)) : ∀ (n i o : Nat) (acc : Array Value), o + i + n ≤ cs.size →
  (loadCellsFrom ⟨b, o, none⟩ i n acc).run P w = .ok (acc ++ cs.extract (o + i) (o + i + n)) w
 | 0, i, o, acc, h => by
  have : cs.extract (o + i) (o + i + 0) = #[] := by simp; omega
  simp only [loadCellsFrom, Sem.run_pure, this, Array.append_empty]
 | n + 1, i, o, acc, h => by
  have hlt : o + i < cs.size := by omega
  simp only [loadCellsFrom, Sem.run_bind, add_none]
  have hl : (load ⟨b, o + i, none⟩).run P w = .ok cs[o + i] w := by simp [load, Sem.run, World.cell?, hb, hlt]
  rw [hl]
  simp only [Result.andThen]
  rw [run_loadCellsFrom hb n (i + 1) o _ (by omega)]
  congr 1
  apply Array.ext'
  simp only [Array.toList_append, Array.toList_push, Array.toList_extract, List.append_assoc, List.extract_eq_take_drop]
  rw [show o + (i + 1) + n - (o + (i + 1)) = n by omega, show o + i + (n + 1) - (o + i) = n + 1 by omega, show o + (i + 1) = (o + i) + 1 by omega]
  rw [List.drop_eq_getElem_cons (l := cs.toList) (i := o + i) (by simpa using hlt)]
  simp
theorem run_loadCells {P : Program} {w : World} {b : Nat} {cs : Array Value} {tt : TypeId} {fr : Nat × Nat} (hb : w.heap[b]? = some (.cells cs tt fr)) (n o : Nat) (h : o + n ≤ cs.size) :
  (loadCells ⟨b, o, none⟩ n).run P w = .ok (cs.extract o (o + n)) w := by
 unfold loadCells
 rw [run_loadCellsFrom hb n 0 o #[] (by omega)]
 simp
theorem q_loadAgg {t : TypeId} {x : Operand} {b o n : Nat} {us cs : Array Value} {tt : TypeId} {fr : Nat × Nat} {M : List HP} (hx : ev E x = some (.pointer (some ⟨b, o, none⟩)))
  (ha : ∀ w, (isAgg t).run c.P w = .ok true w) (hn : ∀ w, (sizeOf t).run c.P w = .ok n w) (ht : Take (pt b (.cells cs tt fr)) L M) (hsz : Nat.ble (o + n) cs.size = true) (hv : cs.extract o (o + n) = us) :
  QV c ds E L ⟨d, .load t x, ty, pos, af, gd⟩ (.agg us) :=
 ⟨by intro k; simp, fun a w hs => by
  have hb := hs.sat.block ht
  simp only [execOp, Instr.loadAt, Instr.sureAddr, hs.ev hx, Sem.run_bind, Sem.run_pure, Result.andThen, loadVar, ha, hn, if_true, run_loadCells hb n o (Nat.le_of_ble_eq_true hsz), hv]⟩

/-- Stores: one cell; several. -/
theorem oneCell_store {P : Program} {w : World} {a : Addr} {v u : Value} (hv : v.oneCell' = true) (hc : w.cell? a = some u) (hf : w.frozen? a = false) : (store a v).run P w = .ok () (w.setCell a v) := by
 rw [run_store P w a v .plain hv]; simp [stored, hc, hf]
theorem sat_store {b o : Nat} {cs : Array Value} {tt : TypeId} {M : List HP} {w : World} (h : Sat (stars L) w) (ht : Take (pt b (.cells cs tt (0, 0))) L M) (v : Value) :
  Sat (stars (pt b (.cells (cs.setIfInBounds o v) tt (0, 0)) :: M)) (w.setCell ⟨b, o, none⟩ v) := (h.take ht).setCell v
theorem run_storeAt {P : Program} {w : World} {b o : Nat} {cs : Array Value} {tt : TypeId} (hb : w.heap[b]? = some (.cells cs tt (0, 0))) (ho : o < cs.size) {v : Value} (hv : v.oneCell' = true) :
  (store ⟨b, o, none⟩ v).run P w = .ok () (w.setCell ⟨b, o, none⟩ v) :=
 oneCell_store (u := cs[o]) hv (by simp [World.cell?, hb, ho]) (by simp [World.frozen?, hb])
theorem o_store {t : TypeId} {x y : Operand} {b o : Nat} {v : Value} {cs cs' : Array Value} {tt : TypeId} {M : List HP} (hd : okDst d c.N = true) (hx : ev E x = some (.pointer (some ⟨b, o, none⟩))) (hy : ev E y = some v)
  (hn : ∀ w, (sizeOf t).run c.P w = .ok 1 w) (hv : v.oneCell' = true) (ht : Take (pt b (.cells cs tt (0, 0))) L M) (ho : Nat.blt o cs.size = true) (hcs : cs.setIfInBounds o v = cs') (k : TL c fin ds (upd d undef E) (pt b (.cells cs' tt (0, 0)) :: M) ops rest ks) :
  TL c fin ds E L ops (⟨d, .store t x y, ty, pos, af, none⟩ :: rest) ks :=
 l_do (X := Unit) hd (by intro k; simp) (fun _ => pt b (.cells cs' tt (0, 0)) :: M) (fun a w hs => ⟨(), w.setCell ⟨b, o, none⟩ v, by
  have hb := hs.sat.block ht
  have hone : v.cells = #[v] := by cases v <;> first | rfl | (simp [Value.oneCell'] at hv)
  simp only [execOp, Instr.storeAt, Instr.sureAddr, hs.ev hx, hs.ev hy, Sem.run_bind, Sem.run_pure, Result.andThen, storeVar, hn, hone]
  simp only [List.size_toArray, List.length_cons, List.length_nil, ne_eq, not_true_eq_false, if_false, Sem.run_pure, Result.andThen, storeCells, add_none, Nat.add_zero, Sem.run_bind]
  rw [run_storeAt hb (Nat.le_of_ble_eq_true ho) hv]
  , by rw [← hcs]; exact sat_store hs.sat ht v, (Ext.refl w).setCell _ _⟩) fun _ => k

/-- The cells vs laid at o and behind. -/
def setCells (cs : Array Value) : Nat → List Value → Array Value
 | _, [] => cs
 | o, v :: r => setCells (cs.setIfInBounds o v) (o + 1) r
def setCellsW (w : World) (b : Nat) : Nat → List Value → World
 | _, [] => w
 | o, v :: r => setCellsW (w.setCell ⟨b, o, none⟩ v) b (o + 1) r
theorem sat_setCells {b : Nat} {tt : TypeId} {M : List HP} {vs : List Value} : ∀ {o : Nat} {cs : Array Value} {w : World}, Sat (stars (pt b (.cells cs tt (0, 0)) :: M)) w →
  Sat (stars (pt b (.cells (setCells cs o vs) tt (0, 0)) :: M)) (setCellsW w b o vs) ∧ Ext w (setCellsW w b o vs) := by
 induction vs with
 | nil => intro o cs w h; exact ⟨h, Ext.refl w⟩
 | cons v r ih =>
  intro o cs w h
  obtain ⟨h1, h2⟩ := ih (o := o + 1) (sat_store (o := o) h .here v)
  exact ⟨h1, ((Ext.refl w).setCell _ _).trans h2⟩
theorem run_storeCells {P : Program} {b o : Nat} {tt : TypeId} {M : List HP} {vs : List Value} : ∀ {i : Nat} {cs : Array Value} {w : World}, Sat (stars (pt b (.cells cs tt (0, 0)) :: M)) w → (∀ v ∈ vs, v.oneCell' = true) → o + i + vs.length ≤ cs.size →
  (storeCells ⟨b, o, none⟩ vs i).run P w = .ok () (setCellsW w b (o + i) vs) := by
 induction vs with
 | nil => intro i cs w _ _ _; rfl
 | cons v r ih =>
  intro i cs w hs hv hl
  simp only [List.length_cons] at hl
  simp only [storeCells, add_none, Sem.run_bind]
  rw [run_storeAt (hs.block .here) (by omega) (hv v (by simp))]
  simp only [Result.andThen, setCellsW]
  have := ih (i := i + 1) (sat_store (o := o + i) hs .here v) (fun u hu => hv u (by simp [hu])) (by simp; omega)
  rw [this]; rw [show o + i + 1 = o + (i + 1) by omega]
theorem o_storeAgg {t : TypeId} {x y : Operand} {b o n : Nat} {us : Array Value} {cs cs' : Array Value} {tt : TypeId} {M : List HP} (hd : okDst d c.N = true) (hx : ev E x = some (.pointer (some ⟨b, o, none⟩))) (hy : ev E y = some (.agg us))
  (hn : ∀ w, (sizeOf t).run c.P w = .ok n w) (hus : us.size = n) (hv : us.toList.all (·.oneCell') = true) (ht : Take (pt b (.cells cs tt (0, 0))) L M) (ho : Nat.ble (o + n) cs.size = true) (hcs : setCells cs o us.toList = cs')
  (k : TL c fin ds (upd d undef E) (pt b (.cells cs' tt (0, 0)) :: M) ops rest ks) :
  TL c fin ds E L ops (⟨d, .store t x y, ty, pos, af, none⟩ :: rest) ks :=
 l_do (X := Unit) hd (by intro k; simp) (fun _ => pt b (.cells cs' tt (0, 0)) :: M) (fun a w hs => by
  have h0 := hs.sat.take ht
  obtain ⟨h1, h2⟩ := sat_setCells (o := o) (vs := us.toList) (M := M) (cs := cs) (tt := tt) (b := b) (w := w) h0
  refine ⟨(), setCellsW w b o us.toList, ?_, by rw [hcs] at h1; exact h1, h2⟩
  have hr := run_storeCells (P := c.P) (b := b) (o := o) (i := 0) (vs := us.toList) (M := M) (cs := cs) (tt := tt) (w := w) h0 (fun v hm => List.all_eq_true.1 hv v hm) (by have := Nat.le_of_ble_eq_true ho; simp [hus]; omega)
  simp only [execOp, Instr.storeAt, Instr.sureAddr, hs.ev hx, hs.ev hy, Sem.run_bind, Sem.run_pure, Result.andThen, storeVar, hn, Value.cells, hus]
  simp only [ne_eq, not_true_eq_false, if_false, Sem.run_pure, Result.andThen]
  rw [hr]; rfl) fun _ => k

/-- A cell of a written-out row turned; several. -/
inductive SetAt : List Value → Nat → Value → List Value → Prop
 | here {x v : Value} {l : List Value} : SetAt (x :: l) 0 v (v :: l)
 | there {x v : Value} {o : Nat} {l l' : List Value} : SetAt l o v l' → SetAt (x :: l) (o + 1) v (x :: l')
inductive SetAll : List Value → Nat → List Value → List Value → Prop
 | nil {o : Nat} {l : List Value} : SetAll l o [] l
 | cons {o : Nat} {v : Value} {l l1 l2 vs : List Value} : SetAt l o v l1 → SetAll l1 (o + 1) vs l2 → SetAll l o (v :: vs) l2
theorem SetAt.eq {l l' : List Value} {o : Nat} {v : Value} (h : SetAt l o v l') : o < l.length ∧ l.toArray.setIfInBounds o v = l'.toArray ∧ l'.length = l.length := by
 have : o < l.length ∧ l.set o v = l' ∧ l'.length = l.length := by
  induction h with
  | here => simp
  | there _ ih => obtain ⟨h1, h2, h3⟩ := ih; exact ⟨by simpa using h1, by simp [h2], by simpa using h3⟩
 exact ⟨this.1, by rw [List.setIfInBounds_toArray, this.2.1], this.2.2⟩
theorem SetAll.eq {l l' vs : List Value} {o : Nat} (h : SetAll l o vs l') : (vs = [] ∨ o + vs.length ≤ l.length) ∧ setCells l.toArray o vs = l'.toArray := by
 induction h with
 | nil => exact ⟨.inl rfl, rfl⟩
 | cons h1 _ ih =>
  obtain ⟨a1, a2, a3⟩ := h1.eq
  obtain ⟨b1, b2⟩ := ih
  refine ⟨.inr ?_, by simp only [setCells, a2, b2]⟩
  rcases b1 with rfl | b1
  ·simp; omega
  ·simp; omega
theorem sa {l l' : List Value} {o : Nat} {v : Value} (h : SetAt l o v l' := by repeat (first | exact SetAt.here | apply SetAt.there)) : SetAt l o v l' := h
theorem sal {l l' vs : List Value} {o : Nat} (h : SetAll l o vs l' := by repeat (first | exact SetAll.nil | apply SetAll.cons | exact SetAt.here | apply SetAt.there)) : SetAll l o vs l' := h
theorem o_storeL {t : TypeId} {x y : Operand} {b o : Nat} {v : Value} {l l' : List Value} {tt : TypeId} {M : List HP} (hd : okDst d c.N = true) (hx : ev E x = some (.pointer (some ⟨b, o, none⟩))) (hy : ev E y = some v)
  (hn : ∀ w, (sizeOf t).run c.P w = .ok 1 w) (hv : v.oneCell' = true) (ht : Take (pt b (.cells l.toArray tt (0, 0))) L M) (hs : SetAt l o v l') (k : TL c fin ds (upd d undef E) (pt b (.cells l'.toArray tt (0, 0)) :: M) ops rest ks) :
  TL c fin ds E L ops (⟨d, .store t x y, ty, pos, af, none⟩ :: rest) ks :=
 o_store hd hx hy hn hv ht (Nat.ble_eq_true_of_le (by have := hs.eq.1; simp; omega)) hs.eq.2.1 k
theorem o_storeAggL {t : TypeId} {x y : Operand} {b o n : Nat} {us : List Value} {l l' : List Value} {tt : TypeId} {M : List HP} (hd : okDst d c.N = true) (hx : ev E x = some (.pointer (some ⟨b, o, none⟩))) (hy : ev E y = some (.agg us.toArray))
  (hn : ∀ w, (sizeOf t).run c.P w = .ok n w) (hus : us.length = n) (hv : us.all (·.oneCell') = true) (hne : us ≠ []) (ht : Take (pt b (.cells l.toArray tt (0, 0))) L M) (hs : SetAll l o us l')
  (k : TL c fin ds (upd d undef E) (pt b (.cells l'.toArray tt (0, 0)) :: M) ops rest ks) :
  TL c fin ds E L ops (⟨d, .store t x y, ty, pos, af, none⟩ :: rest) ks :=
 o_storeAgg hd hx hy hn (by simpa using hus) (by simpa using hv) ht (Nat.ble_eq_true_of_le (by
  rcases hs.eq.1 with h | h
  ·exact absurd h hne
  ·simpa [hus] using h)) (by simpa using hs.eq.2) k

theorem q_nilCheck {x : Operand} {a0 : Addr} (hx : ev E x = some (.pointer (some a0))) : QV c ds E L ⟨d, .nilCheck x, ty, pos, af, gd⟩ (.pointer (some a0)) :=
 ⟨by intro k; simp, fun a w hs => by simp only [execOp, hs.ev hx]; rfl⟩

/-- Reckoning with two operands; the rule of the reckoning is handed over. -/
theorem q_bin {op : BinOp} {t u : TypeId} {x y : Operand} {vx vy v : Value} (hx : ev E x = some vx) (hy : ev E y = some vy)
  (hg : ∀ w, (eqGuard op t x y vx vy).run c.P w = .ok () w) (hr : ∀ w, (binOp op t vx vy).run c.P w = .ok v w) :
  QV c ds E L ⟨d, .binOp op t x y u, ty, pos, af, gd⟩ v :=
 ⟨by intro k; simp, fun a w hs => by simp only [execOp, hs.ev hx, hs.ev hy, Sem.run_bind, hg, hr, Result.andThen, Sem.run_pure]⟩
theorem q_un {op : UnOp} {t : TypeId} {x : Operand} {vx v : Value} (hx : ev E x = some vx) (hr : ∀ w, (Op.unary op vx).run c.P w = .ok v w) :
  QV c ds E L ⟨d, .unOp op t x, ty, pos, af, gd⟩ v :=
 ⟨by intro k; simp, fun a w hs => by simp only [execOp, hs.ev hx, Sem.run_bind, hr, Result.andThen, Sem.run_pure]⟩
theorem q_conv {s t : TypeId} {x : Operand} {vx v : Value} (hx : ev E x = some vx) (hr : ∀ w, (convert s t vx).run c.P w = .ok v w) :
  QV c ds E L ⟨d, .convert s t x, ty, pos, af, gd⟩ v :=
 ⟨by intro k; simp, fun a w hs => by simp only [execOp, hs.ev hx, Sem.run_bind, hr, Result.andThen, Sem.run_pure]⟩
/-- Whatever else only reckons, its operand known. -/
theorem q_extract {x : Operand} {vs : Array Value} {i : Nat} {v : Value} (hx : ev E x = some (.tuple vs)) (hv : vs[i]? = some v) :
  QV c ds E L ⟨d, .extract x i, ty, pos, af, gd⟩ v :=
 ⟨by intro k; simp, fun a w hs => by simp [execOp, hs.ev hx, Instr.extract, hv, Result.andThen]⟩
theorem q_fieldAddr {s : TypeId} {x : Operand} {b o i : Nat} {fs : Array Field} {f : Field} {n : Nat} (hx : ev E x = some (.pointer (some ⟨b, o, none⟩))) (hs : c.P.underlying s = some (.struct fs)) (hf : fs[i]? = some f)
  (hn : ∀ w, (sizeOf f.type).run c.P w = .ok (n + 1) w) :
  QV c ds E L ⟨d, .fieldAddr s x i, ty, pos, af, gd⟩ (.pointer (some ⟨b, o + f.offset, none⟩)) :=
 ⟨by intro k; simp, fun a w hs' => by
  simp only [execOp, Instr.fieldAt, hs'.ev hx, Sem.run_bind, run_underlying hs, Result.andThen, hf, Instr.sureAddr, Sem.run_pure, fieldPlace, hn, add_none]
  simp [add_none]⟩
theorem q_build {t : TypeId} {ps : Array (Nat × Operand)} {vs : List (Nat × Value)} {us : Array Value} (hx : evp E ps.toList = some vs) (hr : ∀ w, (Instr.build t vs.toArray).run c.P w = .ok (.agg us) w)
  :
  QV c ds E L ⟨d, .build t ps, ty, pos, af, gd⟩ (.agg us) :=
 ⟨by intro k; simp, fun a w hs => by
  have := evp_map hs hx
  have e : ps.map (fun (i, x) => (i, a.eval x)) = vs.toArray := by apply Array.ext'; simpa using this
  simp only [execOp, Sem.run_bind, e, hr, Result.andThen, Sem.run_pure]⟩
theorem q_makeFunc {f : Fn} {first cap : Array Operand} {v1 v2 : List Value} (h1 : evl E first.toList = some v1) (h2 : evl E cap.toList = some v2) :
  QV c ds E L ⟨d, .makeFunc f first cap, ty, pos, af, gd⟩ (.func f v1.toArray v2.toArray) :=
 ⟨by intro k; simp, fun a w hs => by
  have e1 : first.map a.eval = v1.toArray := by apply Array.ext'; simpa using hs.evl h1
  have e2 : cap.map a.eval = v2.toArray := by apply Array.ext'; simpa using hs.evl h2
  simp only [execOp, Instr.makeFunc, e1, e2, Sem.run_bind, Sem.run_pure, Result.andThen]⟩
/-- A place in a slice. -/
theorem q_indexAddr {t e : TypeId} {x y : Operand} {b o len cap n : Nat} {kd : IntKind} {i : Int} (hx : ev E x = some (.slice (some ⟨b, o, none⟩) len cap)) (hy : ev E y = some (.int kd i)) (hu : c.P.underlying t = some (.slice e))
  (hn : ∀ w, (sizeOf e).run c.P w = .ok n w) (hi : 0 ≤ i ∧ i < (len : Int)) :
  QV c ds E L ⟨d, .indexAddr t x y, ty, pos, af, gd⟩ (.pointer (some ⟨b, o + i.toNat * n, none⟩)) :=
 ⟨by intro k; simp, fun a w hs => by
  simp only [execOp, Instr.indexAt, hs.ev hx, hs.ev hy, asIntOf, Sem.run_bind, Sem.run_pure, run_underlying hu, Result.andThen, if_pos hi, hn, add_none]⟩
theorem q_indexAddr1 {t e : TypeId} {x y : Operand} {b o len cap : Nat} {kd : IntKind} {i : Int} (hx : ev E x = some (.slice (some ⟨b, o, none⟩) len cap)) (hy : ev E y = some (.int kd i)) (hu : c.P.underlying t = some (.slice e))
  (hn : ∀ w, (sizeOf e).run c.P w = .ok 1 w) (hi : 0 ≤ i ∧ i < (len : Int)) : QV c ds E L ⟨d, .indexAddr t x y, ty, pos, af, gd⟩ (.pointer (some ⟨b, o + i.toNat, none⟩)) := by
 have := q_indexAddr (c := c) (ds := ds) (L := L) (d := d) (ty := ty) (pos := pos) (af := af) (gd := gd) (n := 1) hx hy hu hn hi
 rwa [Nat.mul_one] at this
/-- A place in an array behind a pointer. -/
theorem q_indexAddrA {t e : TypeId} {x y : Operand} {b o len n : Nat} {kd : IntKind} {i : Int} (hx : ev E x = some (.pointer (some ⟨b, o, none⟩))) (hy : ev E y = some (.int kd i)) (hu : c.P.underlying t = some (.array len e))
  (hn : ∀ w, (sizeOf e).run c.P w = .ok n w) (hi : 0 ≤ i ∧ i < (len : Int)) : QV c ds E L ⟨d, .indexAddr t x y, ty, pos, af, gd⟩ (.pointer (some ⟨b, o + i.toNat * n, none⟩)) :=
 ⟨by intro k; simp, fun a w hs => by
  simp only [execOp, Instr.indexAt, hs.ev hx, hs.ev hy, asIntOf, Sem.run_bind, Sem.run_pure, run_underlying hu, Result.andThen, Instr.sureAddr, if_pos hi, hn, add_none]⟩
theorem q_indexSv {t : TypeId} {x y : Operand} {s : ByteArray} {kd : IntKind} {i : Int} {u : UInt8} (hx : ev E x = some (.string s)) (hy : ev E y = some (.int kd i)) (hu : c.P.underlying t = some .string)
  (h0 : 0 ≤ i) (hv : s[i.toNat]? = some u) : QV c ds E L ⟨d, .index t x y, ty, pos, af, gd⟩ (.int .u8 u.toNat) :=
 ⟨by intro k; simp, fun a w hs => by
  simp only [execOp, Instr.index, hs.ev hx, hs.ev hy, asIntOf, Sem.run_bind, Sem.run_pure, run_underlying hu, Result.andThen, if_pos h0]
  rw [hv]; rfl⟩
theorem q_len {x : Operand} {t : TypeId} {v : Value} {n : Int} (hx : ev E x = some v) (hr : ∀ w, (Builtin.len_ #[t] ty #[v]).run c.P w = .ok (.int .i64 n) w) :
  QV c ds E L ⟨d, .call { callee := .builtin .len, args := #[x], argTypes := #[t] }, ty, pos, af, gd⟩ (.int .i64 n) :=
 ⟨by intro k; simp, fun a w hs => by simp [execOp, resolve, invoke, builtin, hs.ev hx, hr, Result.andThen]⟩
theorem q_cap {x : Operand} {t : TypeId} {v : Value} {n : Int} (hx : ev E x = some v) (hr : ∀ w, (Builtin.cap_ #[t] ty #[v]).run c.P w = .ok (.int .i64 n) w) :
  QV c ds E L ⟨d, .call { callee := .builtin .cap, args := #[x], argTypes := #[t] }, ty, pos, af, gd⟩ (.int .i64 n) :=
 ⟨by intro k; simp, fun a w hs => by simp [execOp, resolve, invoke, builtin, hs.ev hx, hr, Result.andThen]⟩
theorem len_slice {P : Program} {t e ty : TypeId} (hu : P.underlying t = some (.slice e)) {a : Option Addr} {n m : Nat} (w : World) : (Builtin.len_ #[t] ty #[.slice a n m]).run P w = .ok (.int .i64 n) w := by
 simp [Builtin.len_, run_underlying hu, Result.andThen, goInt]
theorem len_string {P : Program} {t ty : TypeId} (hu : P.underlying t = some .string) {s : ByteArray} (w : World) : (Builtin.len_ #[t] ty #[.string s]).run P w = .ok (.int .i64 s.size) w := by
 simp [Builtin.len_, run_underlying hu, Result.andThen, goInt]
theorem cap_slice {P : Program} {t e ty : TypeId} (hu : P.underlying t = some (.slice e)) {a : Option Addr} {n m : Nat} (w : World) : (Builtin.cap_ #[t] ty #[.slice a n m]).run P w = .ok (.int .i64 m) w := by
 simp [Builtin.cap_, run_underlying hu, Result.andThen, goInt]
theorem q_min2 {x y : Operand} {ats : Array TypeId} {kd : IntKind} {m n : Int} (hx : ev E x = some (.int kd m)) (hy : ev E y = some (.int kd n)) :
  QV c ds E L ⟨d, .call { callee := .builtin .min, args := #[x, y], argTypes := ats }, ty, pos, af, gd⟩ (.int kd (if n < m then n else m)) :=
 ⟨by intro k; simp, fun a w hs => by simp [execOp, resolve, invoke, builtin, hs.ev hx, hs.ev hy, Result.andThen, Builtin.min_, Builtin.min2]⟩
theorem q_max2 {x y : Operand} {ats : Array TypeId} {kd : IntKind} {m n : Int} (hx : ev E x = some (.int kd m)) (hy : ev E y = some (.int kd n)) :
  QV c ds E L ⟨d, .call { callee := .builtin .max, args := #[x, y], argTypes := ats }, ty, pos, af, gd⟩ (.int kd (if m < n then n else m)) :=
 ⟨by intro k; simp, fun a w hs => by simp [execOp, resolve, invoke, builtin, hs.ev hx, hs.ev hy, Result.andThen, Builtin.max_, Builtin.max2]⟩
end

/-! ### The reckonings' own rules -/
section
variable {P : Program} {t : TypeId} (w : World)
theorem g_int {op : BinOp} {x y : Operand} {k k' : IntKind} {a b : Int} : (eqGuard op t x y (.int k a) (.int k' b)).run P w = .ok () w := by cases op <;> rfl
theorem g_bool {op : BinOp} {x y : Operand} {a b : Bool} : (eqGuard op t x y (.bool a) (.bool b)).run P w = .ok () w := by cases op <;> rfl
theorem g_string {op : BinOp} {x y : Operand} {a b : ByteArray} : (eqGuard op t x y (.string a) (.string b)).run P w = .ok () w := by cases op <;> rfl
theorem g_pointer {op : BinOp} {x y : Operand} {a b : Option Addr} : (eqGuard op t x y (.pointer a) (.pointer b)).run P w = .ok () w := by cases op <;> rfl
theorem g_func {op : BinOp} {x y : Operand} {f : Fn} {a b : Array Value} : (eqGuard op t x y (.func f a b) .nilFunc).run P w = .ok () w := by cases op <;> rfl
theorem b_add {k : IntKind} {a b : Int} : (binOp .add t (.int k a) (.int k b)).run P w = .ok (.int k (k.wrap (a + b))) w := by simp [binOp, Op.intArith]
theorem b_sub {k : IntKind} {a b : Int} : (binOp .sub t (.int k a) (.int k b)).run P w = .ok (.int k (k.wrap (a - b))) w := by simp [binOp, Op.intArith]
theorem b_mul {k : IntKind} {a b : Int} : (binOp .mul t (.int k a) (.int k b)).run P w = .ok (.int k (k.wrap (a * b))) w := by simp [binOp, Op.intArith]
theorem wrap_i64 {n : Int} (h : -9223372036854775808 ≤ n ∧ n ≤ 9223372036854775807) : IntKind.i64.wrap n = n := by rw [IntKind.wrap_i64]; omega
theorem wrap_u64 {n : Int} (h : 0 ≤ n ∧ n < 18446744073709551616) : IntKind.u64.wrap n = n := by rw [IntKind.wrap_u64]; omega
theorem wrap_u8 {n : Int} (h : 0 ≤ n ∧ n < 256) : IntKind.u8.wrap n = n := by rw [IntKind.wrap_u8']; omega
theorem b_quo {k : IntKind} {a b : Int} (h : b ≠ 0) : (binOp .quo t (.int k a) (.int k b)).run P w = .ok (.int k (k.wrap (a.tdiv b))) w := by simp [binOp, Op.intDiv, h]
theorem b_rem {k : IntKind} {a b : Int} (h : b ≠ 0) : (binOp .rem t (.int k a) (.int k b)).run P w = .ok (.int k (a.tmod b)) w := by simp [binOp, Op.intDiv, h]
theorem b_quo_i {a b : Int} (h : 0 ≤ a ∧ 0 < b ∧ a ≤ 9223372036854775807) : (binOp .quo t (.int .i64 a) (.int .i64 b)).run P w = .ok (.int .i64 (a / b)) w := by
 rw [b_quo w (by omega), Int.tdiv_eq_ediv_of_nonneg h.1, wrap_i64]
 have h1 : 0 ≤ a / b := Int.ediv_nonneg h.1 (by omega)
 have h2 : a / b ≤ a := Int.ediv_le_self _ h.1
 omega
theorem b_rem_i {k : IntKind} {a b : Int} (h : 0 ≤ a ∧ 0 < b) : (binOp .rem t (.int k a) (.int k b)).run P w = .ok (.int k (a % b)) w := by
 rw [b_rem w (by omega), Int.tmod_eq_emod_of_nonneg h.1]
theorem b_lss {k : IntKind} {a b : Int} : (binOp .lss t (.int k a) (.int k b)).run P w = .ok (.bool (decide (a < b))) w := by simp [binOp, Op.intCmp]
theorem b_leq {k : IntKind} {a b : Int} : (binOp .leq t (.int k a) (.int k b)).run P w = .ok (.bool (decide (a ≤ b))) w := by simp [binOp, Op.intCmp]
theorem b_gtr {k : IntKind} {a b : Int} : (binOp .gtr t (.int k a) (.int k b)).run P w = .ok (.bool (decide (b < a))) w := by simp [binOp, Op.intCmp]
theorem b_geq {k : IntKind} {a b : Int} : (binOp .geq t (.int k a) (.int k b)).run P w = .ok (.bool (decide (b ≤ a))) w := by simp [binOp, Op.intCmp]
theorem b_eql {k : IntKind} {a b : Int} : (binOp .eql t (.int k a) (.int k b)).run P w = .ok (.bool (decide (a = b))) w := by
 by_cases h : a = b <;> simp [binOp, Op.intCmp, h]
theorem b_neq {k : IntKind} {a b : Int} : (binOp .neq t (.int k a) (.int k b)).run P w = .ok (.bool (decide (¬ a = b))) w := by
 by_cases h : a = b <;> simp [binOp, Op.intCmp, h]
theorem b_bits {op : BinOp} {k : IntKind} {a b : Int} (ho : (match op with | .and | .or | .xor | .andNot => true | _ => false) = true) : (binOp op t (.int k a) (.int k b)).run P w = .ok (.int k (bits op k a b)) w := by
 cases op <;> first | (simp at ho; done) | simp [binOp, Op.intBits, bits]
theorem b_shl {k yk : IntKind} {a b : Int} (h : 0 ≤ b) : (binOp .shl t (.int k a) (.int yk b)).run P w = .ok (.int k (k.wrap (a * 2 ^ min b.toNat k.bits))) w := by
 simp [binOp, Op.shift, show ¬ b < 0 by omega]
theorem b_shr {k yk : IntKind} {a b : Int} (h : 0 ≤ b) : (binOp .shr t (.int k a) (.int yk b)).run P w = .ok (.int k (a.fdiv (2 ^ min b.toNat k.bits))) w := by
 simp [binOp, Op.shift, show ¬ b < 0 by omega]
theorem b_shr_c {k yk : IntKind} {a b m : Int} (hb : 0 ≤ b) (hm : (2 : Int) ^ min b.toNat k.bits = m) (ha : 0 ≤ a) : (binOp .shr t (.int k a) (.int yk b)).run P w = .ok (.int k (a / m)) w := by
 rw [b_shr w hb, hm]
 have : 0 ≤ m := by rw [← hm]; exact Int.pow_nonneg (by decide)
 rw [Int.fdiv_eq_ediv_of_nonneg _ this]
theorem b_eqlS {a b : ByteArray} : (binOp .eql t (.string a) (.string b)).run P w = .ok (.bool (decide (a = b))) w := by
 have : (a.toList == b.toList) = decide (a = b) := by
  by_cases h : a = b
  ·simp [h]
  ·have : a.toList ≠ b.toList := fun e => h (by
    rw [ByteArray.toList_eq, ByteArray.toList_eq] at e
    exact WideShapes.bytes_inj e)
   simp [h, this]
 simp [binOp, Op.stringOp, this]
theorem b_neqS {a b : ByteArray} : (binOp .neq t (.string a) (.string b)).run P w = .ok (.bool (decide (¬ a = b))) w := by
 have : (a.toList == b.toList) = decide (a = b) := by
  by_cases h : a = b
  ·simp [h]
  ·have : a.toList ≠ b.toList := fun e => h (by
    rw [ByteArray.toList_eq, ByteArray.toList_eq] at e
    exact WideShapes.bytes_inj e)
   simp [h, this]
 simp [binOp, Op.stringOp, this]
theorem u_not {b : Bool} : (Op.unary .not (.bool b)).run P w = .ok (.bool (!b)) w := rfl
theorem c_int {s t : TypeId} {j k : IntKind} {n : Int} {u : TypeDesc} (hs : P.underlying s = some u) (h : P.underlying t = some (.int k)) : (convert s t (.int j n)).run P w = .ok (.int k (k.wrap n)) w := by
 simp [convert, run_underlying hs, run_underlying h, Result.andThen, Conv.intToInt]
end
end Go.Proofs.Ytjekhcojebgpnaa.Eng
