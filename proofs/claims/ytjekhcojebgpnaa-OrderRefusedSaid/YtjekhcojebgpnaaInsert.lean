import Derived.Test.YtjekhcojebgpnaaEngDefer
import Derived.Test.YtjekhcojebgpnaaEngStr
import Derived.Laws.IdiomCopy
import Derived.Test.YtjekhcojebgpnaaSearch
import Derived.Shelf.Spec.SlicesInsert
import Derived.Shelf.Spec.SlicesInsertGrow
section
/- Reading out of pieces of which only what they read as is known (what lay there before: arguments, package variables). No program. -/
set_option linter.unusedVariables false
set_option linter.unusedSimpArgs false
namespace Go.Proofs.Ytjekhcojebgpnaa.Eng
open Go.RowKit

section
variable {c : Cx} {fin : Exit → Act → World → Prop} {ds : List Deferred} {E : Env} {L : List HP} {ks : List KI} {ops : Array Oper} {rest : List Oper}
variable {d : Option Tmp} {ty : TypeId} {pos : String} {af : Array Edge} {gd : Option (Nat × Bool)}
/-- Pieces turned. -/
theorem t_ent {L' : List HP} {x : Code} (hl : Ent L L') (h : TC c fin ds E L' x ks) : TC c fin ds E L x ks := fun a w hs => h a w ⟨hs.size, hs.defs, hs.agree, hl _ hs.sat, hs.ext⟩
theorem n_ent {L' : List HP} {x : Exit} (hl : Ent L L') (h : TN c fin ds E L' x ks) : TN c fin ds E L x ks := fun a w hs => h a w ⟨hs.size, hs.defs, hs.agree, hl _ hs.sat, hs.ext⟩
theorem l_ent {L' : List HP} {l : List Oper} (hl : Ent L L') (h : TL c fin ds E L' ops l ks) : TL c fin ds E L ops l ks := fun a w hs => h a w ⟨hs.size, hs.defs, hs.agree, hl _ hs.sat, hs.ext⟩
/-- The piece A has that cell. -/
def CellAt (A : HP) (a : Addr) (v : Value) : Prop := ∀ w, Sat A w → w.cell? a = some v
theorem q_loadR {A : HP} {t : TypeId} {x : Operand} {a0 : Addr} {v : Value} {M : List HP} (hx : ev E x = some (.pointer (some a0)))
  (ha : ∀ w, (isAgg t).run c.P w = .ok false w) (ht : Take A L M) (hv : CellAt A a0 v) : QV c ds E L ⟨d, .load t x, ty, pos, af, gd⟩ v :=
 ⟨by intro k; simp, fun a w hs => by
  have hb := hv w (hs.sat.take ht).left
  simp only [execOp, Instr.loadAt, Instr.sureAddr, hs.ev hx, Sem.run_bind, Sem.run_pure, Result.andThen, loadVar, ha]
  simp [load, Sem.run, hb]⟩
theorem run_loadCellsR {P : Program} {w : World} {a0 : Addr} : ∀ (n i : Nat) (acc : Array Value) (us : List Value), us.length = n → (∀ j u, us[j]? = some u → w.cell? (a0.add (i + j)) = some u) →
  (loadCellsFrom a0 i n acc).run P w = .ok (acc ++ us.toArray) w
 | 0, i, acc, us, hl, h => by
  have : us = [] := List.eq_nil_of_length_eq_zero hl
  subst this
  simp only [loadCellsFrom, Sem.run_pure]; simp
 | n + 1, i, acc, us, hl, h => by
  cases us with
  | nil => simp at hl
  | cons u us =>
   simp only [loadCellsFrom, Sem.run_bind]
   have h0 := h 0 u rfl
   rw [Nat.add_zero] at h0
   have hl0 : (load (a0.add i)).run P w = .ok u w := by simp [load, Sem.run, h0]
   rw [hl0]
   simp only [Result.andThen]
   rw [run_loadCellsR n (i + 1) _ us (by simpa using hl) fun j v hv => by
    have := h (j + 1) v (by simpa using hv)
    rw [show i + 1 + j = i + (j + 1) by omega]; exact this]
   simp
theorem q_loadRA {A : HP} {t : TypeId} {x : Operand} {a0 : Addr} {n : Nat} {us : List Value} {M : List HP} (hx : ev E x = some (.pointer (some a0)))
  (ha : ∀ w, (isAgg t).run c.P w = .ok true w) (hn : ∀ w, (sizeOf t).run c.P w = .ok n w) (hl : us.length = n) (ht : Take A L M) (hv : ∀ j u, us[j]? = some u → CellAt A (a0.add j) u) : QV c ds E L ⟨d, .load t x, ty, pos, af, gd⟩ (.agg us.toArray) :=
 ⟨by intro k; simp, fun a w hs => by
  have hb := (hs.sat.take ht).left
  have hr : (loadCells a0 n).run c.P w = .ok us.toArray w := by
   unfold loadCells
   rw [run_loadCellsR n 0 #[] us hl fun j u hu => by rw [Nat.zero_add]; exact hv j u hu w hb]
   simp
  simp only [execOp, Instr.loadAt, Instr.sureAddr, hs.ev hx, Sem.run_bind, Sem.run_pure, Result.andThen, loadVar, ha, hn, if_true, hr]⟩
end
end Go.Proofs.Ytjekhcojebgpnaa.Eng
end
section
/- Slices that own their row from some cell on: what lies in them, what writing cells does to them. No program. -/
set_option linter.unusedVariables false
set_option linter.unusedSimpArgs false
namespace Go.Proofs.Ytjekhcojebgpnaa.Eng
open Go.RowKit

/-- Where such a slice lies. -/
structure TX where
 g : Nat
 o : Nat
 cap : Nat
 cur : Array Value
def TX.ok (v : Value) (xs : List Value) : Option TX → Prop
 | none => v = .slice none 0 0 ∧ xs = []
 | some t => v = .slice (some ⟨t.g, t.o, none⟩) xs.length t.cap ∧ xs.length ≤ t.cap ∧ t.cap ≤ maxLen ∧ t.o + t.cap ≤ t.cur.size ∧ ∀ i u, xs[i]? = some u → t.cur[t.o + i]? = some u
def TX.ps (e : TypeId) : Option TX → List HP
 | none => []
 | some t => [pt t.g (.cells t.cur e (0, 0))]
/-- The slice v (of one-word elements xs) owns its row from some cell on. -/
def ownT (e : TypeId) (v : Value) (xs : List Value) : HP := exP (TX.ok v xs) (TX.ps e)
theorem ownT_nil {e : TypeId} {L : List HP} : Ent L (ownT e (.slice none 0 0) [] :: L) := fun w h => sat_exP.2 ⟨none, ⟨rfl, rfl⟩, h⟩
theorem ownT_shape {e : TypeId} {v : Value} {xs : List Value} {L : List HP} {w : World} (h : Sat (stars (ownT e v xs :: L)) w) : ∃ a cap, v = .slice a xs.length cap ∧ (0 < xs.length → ∃ g o, a = some ⟨g, o, none⟩) ∧ xs.length ≤ cap ∧ cap ≤ maxLen := by
 obtain ⟨x, hx, _⟩ := sat_exP.1 h
 cases x with
 | none => obtain ⟨rfl, rfl⟩ := hx; exact ⟨none, 0, rfl, fun q => absurd q (by decide), Nat.le_refl _, by decide⟩
 | some t => obtain ⟨rfl, h1, h2, _⟩ := hx; exact ⟨_, _, rfl, fun _ => ⟨_, _, rfl⟩, h1, h2⟩
theorem ownT_cell {e : TypeId} {g o n cap : Nat} {xs : List Value} {i : Nat} {u : Value} (hu : xs[i]? = some u) : CellAt (ownT e (.slice (some ⟨g, o, none⟩) n cap) xs) ⟨g, o + i, none⟩ u := fun w h => by
 have h' : Sat (stars [ownT e (.slice (some ⟨g, o, none⟩) n cap) xs]) w := by
  obtain ⟨f, hf, k⟩ := h
  exact ⟨f, hf, f, Part.none, k, rfl, Part.disj_none _, (Part.join_none _).symm⟩
 obtain ⟨x, hx, hs⟩ := sat_exP.1 h'
 cases x with
 | none => obtain ⟨q, _⟩ := hx; cases q
 | some t =>
  obtain ⟨q, _, _, _, hc⟩ := hx
  cases q
  have hg := hs.block (b := t.g) .here
  have := hc i u hu
  simp [World.cell?, hg, this]
/-- Cells written one behind the other. -/
theorem sat_cellsT {g : Nat} {e : TypeId} {M : List HP} : ∀ (ys : List Value) (o : Nat) (cur : Array Value) (w : World), Sat (stars (pt g (.cells cur e (0, 0)) :: M)) w → o + ys.length ≤ cur.size →
  ∃ cur' : Array Value, Sat (stars (pt g (.cells cur' e (0, 0)) :: M)) (w.setCells g o ys) ∧ cur'.size = cur.size ∧ (∀ k, cur'[k]? = if o ≤ k ∧ k < o + ys.length then ys[k - o]? else cur[k]?) ∧ Ext w (w.setCells g o ys)
 | [], o, cur, w, h, _ => ⟨cur, h, rfl, fun k => by rw [if_neg (by simp only [List.length_nil]; omega)], Ext.refl w⟩
 | v :: r, o, cur, w, h, hl => by
  simp only [List.length_cons] at hl
  have hg := h.block (b := g) .here
  have h1 : Sat (stars (pt g (.cells (cur.setIfInBounds o v) e (0, 0)) :: M)) (w.setCell ⟨g, o, none⟩ v) :=
   Sat.setCell (A := stars M) h v
  obtain ⟨cur', a1, a2, a3, a4⟩ := sat_cellsT r (o + 1) (cur.setIfInBounds o v) (w.setCell ⟨g, o, none⟩ v) h1 (by simp; omega)
  refine ⟨cur', a1, by simpa using a2, fun k => ?_, ((Ext.refl w).setCell _ _).trans a4⟩
  rw [a3 k]
  by_cases q : k = o
  ·subst q
   rw [if_neg (by omega), if_pos (by simp), Array.getElem?_setIfInBounds_self_of_lt (by omega)]
   simp
  ·by_cases q2 : o + 1 ≤ k ∧ k < o + 1 + r.length
   ·rw [if_pos q2, if_pos (by simp; omega), show k - o = (k - (o + 1)) + 1 by omega]
    simp
   ·rw [if_neg q2, if_neg (by simp; omega), Array.getElem?_setIfInBounds_ne (Ne.symm q)]
/-- x put in at the i-th place. -/
def insL (xs : List Int) (i : Nat) (x : Int) : List Int := xs.take i ++ x :: xs.drop i
theorem insL_len {xs : List Int} {i : Nat} (h : i ≤ xs.length) (x : Int) : (insL xs i x).length = xs.length + 1 := by simp [insL]; omega
theorem insL_get {xs : List Int} {i : Nat} (h : i ≤ xs.length) (x : Int) (k : Nat) : (insL xs i x)[k]? = if k < i then xs[k]? else if k = i then some x else xs[k - 1]? := by
 unfold insL
 by_cases h1 : k < i
 ·rw [if_pos h1, List.getElem?_append_left (by simp; omega), List.getElem?_take, if_pos h1]
 ·rw [if_neg h1, List.getElem?_append_right (by simp; omega)]
  simp only [List.length_take, Nat.min_eq_left h]
  by_cases h2 : k = i
  ·rw [if_pos h2, h2, Nat.sub_self]; rfl
  ·rw [if_neg h2, show k - i = (k - 1 - i) + 1 by omega, List.getElem?_cons_succ, List.getElem?_drop]
   congr 1; omega
end Go.Proofs.Ytjekhcojebgpnaa.Eng
end
section
/- slices.Insert of one number, by the shelf's laws. -/
set_option linter.unusedVariables false
set_option linter.unusedSimpArgs false
set_option maxRecDepth 100000
namespace Go.Proofs.Ytjekhcojebgpnaa.Search
open Go.RowKit Go.Proofs Go.Shelf Go.Proofs.Ytjekhcojebgpnaa.Eng Go.Proofs.Ytjekhcojebgpnaa.Ty

/-- The shelf's numbers in this program. -/
def renI : Ren where
 f := fun n => match n with | 21 => 47 | 27 => 67 | 28 => 68 | 35 => 87 | 39 => 97 | _ => 0
 t := fun n => match n with | 3 => 3 | 4 => 4 | 22 => 28 | _ => 0
 g := fun _ => 0
theorem laysI : Lays2.n21 Try.prog renI where
 mixed := by kernel_rfl
 f21 := by kernel_rfl
 f27 := by kernel_rfl
 f28 := by kernel_rfl
 f35 := by kernel_rfl
 f39 := by kernel_rfl
 t0 := by kernel_rfl
 a0 := fun w => by kernel_rfl
 z0 := fun w => by kernel_rfl
 v0 := fun w => by kernel_rfl
 t3 := by kernel_rfl
 a3 := fun w => by kernel_rfl
 z3 := fun w => by kernel_rfl
 v3 := fun w => by kernel_rfl
 t4 := by kernel_rfl
 a4 := fun w => by kernel_rfl
 z4 := fun w => by kernel_rfl
 v4 := fun w => by kernel_rfl
 t22 := by kernel_rfl
 a22 := fun w => by kernel_rfl
 z22 := fun w => by kernel_rfl
 v22 := fun w => by kernel_rfl
 i3 := by kernel_rfl
theorem ints_get (xs : List Int) (k : Nat) : (ints xs)[k]? = xs[k]?.map fun x => .int .i64 x := by simp [ints]
theorem ints_one (xs : List Int) : ∀ v ∈ ints xs, v.oneCell' = true := fun v hv => by
 simp only [ints, List.mem_map] at hv
 obtain ⟨x, _, rfl⟩ := hv
 rfl
theorem Insert_ok (v : Value) (xs : List Int) (i : Nat) (x : Int) (vb : Nat) (hi : i ≤ xs.length) (hlen : xs.length ≤ 100000000) :
  FnOk Try.prog 47 #[v, .int .i64 (i : Nat), .slice (some ⟨vb, 0, none⟩) 1 1] [ownT 3 v (ints xs), pt vb (.cells #[.int .i64 x] 3 (0, 0))] (fun r L => L = [ownT 3 r (ints (insL xs i x))]) := by
 refine ⟨en47, fun Fr w0 w hs he => callsIn_wide.2 ?_⟩
 simp only [List.cons_append, List.nil_append] at hs
 obtain ⟨y, hy, hs1⟩ := sat_exP.1 hs
 have ht3 : renI.t 3 = 3 := rfl
 have hvs : ∀ j u, [Value.int .i64 x][j]? = some u → w.cell? ⟨vb, 0 + j, none⟩ = some u := fun j u hu => by
  have hb := (hs1.perm List.perm_append_comm).block (b := vb) .here
  simp only [World.cell?, hb, Nat.zero_add]
  simpa using hu
 have h1v : ∀ u ∈ [Value.int .i64 x], u.oneCell' = true := fun u hu => by rw [List.mem_singleton.1 hu]; rfl
 have hml : maxLen = 9223372036854775807 := rfl
 have hil : (insL xs i x).length = xs.length + 1 := insL_len hi x
 -- the pieces at the end
 have fin : ∀ (w' : World) (g o cap : Nat) (cur' : Array Value), Sat (stars (pt g (.cells cur' 3 (0, 0)) :: Fr)) w' → Ext w w' → xs.length + 1 ≤ cap → cap ≤ maxLen → o + cap ≤ cur'.size →
   (∀ k, k < xs.length + 1 → cur'[o + k]? = if k < i then xs[k]?.map fun x => Value.int .i64 x else if k = i then some (.int .i64 x) else xs[k - 1]?.map fun x => Value.int .i64 x) →
   ∃ r L', Ending.returned (.slice (some ⟨g, o, none⟩) (xs.length + 1) cap) = .returned r ∧ L' = [ownT 3 r (ints (insL xs i x))] ∧ Sat (stars (L' ++ Fr)) w' ∧ Ext w0 w' := fun w' g o cap cur' hsat hext h1 h2 h3 h4 =>
  ⟨_, _, rfl, rfl, sat_exP.2 ⟨some ⟨g, o, cap, cur'⟩, ⟨by rw [ints_len, hil], by rw [ints_len, hil]; exact h1, h2, h3, fun k u hu => by
   have hk : k < xs.length + 1 := by rw [← hil, ← ints_len]; exact (List.getElem?_eq_some_iff.1 hu).1
   dsimp only
   rw [h4 k hk, ← hu, ints_get, insL_get hi]
   split
   ·rfl
   ·split <;> rfl⟩, hsat⟩, he.trans hext⟩
 cases y with
 | none =>
  obtain ⟨rfl, hnil⟩ := hy
  have hx : xs = [] := by simpa [ints] using hnil
  subst hx
  obtain rfl : i = 0 := by simpa using hi
  refine (Any2.slices_Insert_int_end_grow laysI none 0 0 vb 0 1 1 [] [.int .i64 x] w (by decide) (by decide) (by decide) (by decide) rfl rfl (fun _ => rfl) (fun a h => by cases h) hvs h1v).mono fun e w' ⟨h1, h2⟩ => ?_
  rw [ht3] at h1 h2
  subst h1 h2
  have hF : Sat (stars Fr) w := (show Sat (stars (pt vb (.cells #[.int .i64 x] 3 (0, 0)) :: Fr)) w from hs1).tail
  have hge := grownCap_ge w 1 0 3
  have hle := grownCap_le_maxLen w 1 0 3 (by decide)
  refine fin _ w.heap.size 0 _ _ (Sat.alloc (A := stars Fr) hF.drew _) ((Ext.refl w).drew.alloc _) hge hle (by simp [size_zeroCells, Value.cells]; omega) fun k hk => ?_
  obtain rfl : k = 0 := by simpa using hk
  rw [Nat.zero_add, Array.getElem?_append_left (by simp)]
  rfl
 | some t =>
  obtain ⟨g, o, cap, cur⟩ := t
  obtain ⟨rfl, y1, y2, y3, y4⟩ := hy
  rw [ints_len] at y1 ⊢
  dsimp only at y1 y2 y3 y4 ⊢
  have hs2 : Sat (stars (pt g (.cells cur 3 (0, 0)) :: pt vb (.cells #[.int .i64 x] 3 (0, 0)) :: Fr)) w := hs1
  have hg := hs2.block (b := g) .here
  have hv := hs2.block (b := vb) (.there .here)
  have hne : vb ≠ g := by
   obtain ⟨_, _, f1, f2, rfl, ⟨f3, f4, rfl, _, _, rfl⟩, d, _⟩ := hs2
   rintro rfl
   rcases d vb with q | q
   ·simp [Part.one] at q
   ·rw [Part.join_eq_none] at q
    simp [Part.one] at q
  have hs3 : Sat (stars (pt g (.cells cur 3 (0, 0)) :: Fr)) w := (hs2.perm (.swap _ _ _)).tail
  have hF : Sat (stars Fr) w := hs3.tail
  have hcs : ∀ j v, (ints xs)[j]? = some v → w.cell? ⟨g, o + j, none⟩ = some v := fun j v hj => by
   simp only [World.cell?, hg]
   simpa using y4 j v hj
  have hsome : ∀ k, k < cur.size → (w.cell? ⟨g, k, none⟩).isSome = true := fun k hk => by
   simp only [World.cell?, hg]
   simp [hk]
  have hfz : ∀ k, w.frozen? ⟨g, k, none⟩ = false := fun k => by simp [World.frozen?, hg]
  have hfv : ∀ k, w.frozen? ⟨vb, k, none⟩ = false := fun k => by simp [World.frozen?, hv]
  have hold : ∀ k, k < xs.length → cur[o + k]? = xs[k]?.map fun x => Value.int .i64 x := fun k hk => by
   rw [← ints_get, y4 k _ (ints_at hk), ints_at hk]
  by_cases hroom : xs.length + 1 ≤ cap
  ·by_cases hin : i = xs.length
   ·subst hin
    refine (Any2.slices_Insert_int_end_room laysI g o xs.length cap vb 0 1 1 [.int .i64 x] w (by decide) hroom (by omega) rfl (fun j hj => hsome _ (by omega)) (fun j _ => hfz _) hvs h1v).mono fun e w' ⟨h1, h2⟩ => ?_
    subst h1 h2
    obtain ⟨cur', a1, a2, a3, a4⟩ := sat_cellsT [.int .i64 x] (o + xs.length) cur w hs3 (by simp only [List.length_cons, List.length_nil]; omega)
    refine fin _ g o cap cur' a1 a4 hroom y2 (by omega) fun k hk => ?_
    rw [a3]
    by_cases q : k < xs.length
    ·rw [if_neg (by simp only [List.length_cons, List.length_nil]; omega), if_pos q]; exact hold k q
    ·obtain rfl : k = xs.length := by omega
     rw [if_pos (by simp), if_neg q, if_pos rfl, Nat.sub_self]; rfl
   ·have hlt : i < xs.length := by omega
    refine (Any2.slices_Insert_int_shift laysI g o xs.length cap i vb 0 1 1 (ints xs) [.int .i64 x] w hlt (by decide) hroom (by omega) hne (ints_len xs) rfl hcs (fun j hj => hsome _ (by omega)) (fun j _ => hfz _) hvs (ints_one xs) h1v 3 3 1 cur.size (by simp [World.shape?, hv]) (by simp [World.shape?, hg]) (by omega) (hfv _) (hfv _)).mono fun e w' ⟨h1, h2⟩ => ?_
    subst h1 h2
    have hdl : ((ints xs).drop i).length = xs.length - i := by rw [List.length_drop, ints_len]
    obtain ⟨c1, a1, a2, a3, a4⟩ := sat_cellsT ((ints xs).drop i) (o + (i + 1)) cur w.drew hs3.drew (by rw [hdl]; omega)
    obtain ⟨c2, b1, b2, b3, b4⟩ := sat_cellsT [.int .i64 x] (o + i) c1 _ a1 (by simp only [List.length_cons, List.length_nil]; omega)
    refine fin _ g o cap c2 b1 (((Ext.refl w).drew.trans a4).trans b4) hroom y2 (by omega) fun k hk => ?_
    rw [b3, a3, hdl]
    simp only [List.length_cons, List.length_nil]
    by_cases q : k < i
    ·rw [if_neg (by omega), if_neg (by omega), if_pos q]; exact hold k (by omega)
    ·rw [if_neg q]
     by_cases q2 : k = i
     ·rw [if_pos (by omega), if_pos q2, show o + k - (o + i) = 0 by omega]; rfl
     ·rw [if_neg (by omega), if_pos (by omega), if_neg q2, List.getElem?_drop, ints_get]
      congr 2; omega
  ·have hge := grownCap_ge w (xs.length + 1) cap 3
   have hle := grownCap_le_maxLen w (xs.length + 1) cap 3 (by omega)
   by_cases hin : i = xs.length
   ·subst hin
    refine (Any2.slices_Insert_int_end_grow laysI (some ⟨g, o, none⟩) xs.length cap vb 0 1 1 (ints xs) [.int .i64 x] w (by decide) y1 (by omega) (by omega) (ints_len xs) rfl (fun h => by cases h) (fun a h j v hj => by cases h; rw [add_none]; exact hcs j v hj) hvs h1v).mono fun e w' ⟨h1, h2⟩ => ?_
    rw [ht3] at h1 h2
    subst h1 h2
    refine fin _ w.heap.size 0 _ _ (Sat.alloc (A := stars Fr) hF.drew _) ((Ext.refl w).drew.alloc _) hge hle (by simp [size_zeroCells, Value.cells, ints_len]; omega) fun k hk => ?_
    rw [Nat.zero_add]
    rw [Array.getElem?_append_left (by simp [ints_len]; omega)]
    rw [List.getElem?_toArray]
    by_cases q : k < xs.length
    ·rw [if_pos q, List.getElem?_append_left (by rw [ints_len]; exact q), ints_get]
    ·obtain rfl : k = xs.length := by omega
     rw [if_neg q, if_pos rfl, List.getElem?_append_right (by rw [ints_len]; omega), ints_len, Nat.sub_self]; rfl
   ·have hlt : i < xs.length := by omega
    refine (Any2.slices_Insert_int_grow laysI g o xs.length cap i vb 0 1 1 (ints xs) [.int .i64 x] w hlt (by decide) y1 (by omega) (by omega) (ints_len xs) rfl hcs hvs (ints_one xs) h1v).mono fun e w' ⟨h1, h2⟩ => ?_
    rw [ht3] at h1 h2
    subst h1 h2
    have hdl : ((ints xs).drop i).length = xs.length - i := by rw [List.length_drop, ints_len]
    have hA := (Sat.alloc (A := stars Fr) hF (.cells (((ints xs).take i).toArray ++ Builtin.zeroCells (Value.int .i64 0).cells (xs.length + 1 - i) ++ Builtin.zeroCells (Value.int .i64 0).cells (grownCap w (xs.length + 1) cap 3 - (xs.length + 1))) 3)).drew
    obtain ⟨cur0, hcur0⟩ : ∃ cur0, cur0 = ((ints xs).take i).toArray ++ Builtin.zeroCells (Value.int .i64 0).cells (xs.length + 1 - i) ++ Builtin.zeroCells (Value.int .i64 0).cells (grownCap w (xs.length + 1) cap 3 - (xs.length + 1)) := ⟨_, rfl⟩
    have hsz : cur0.size = grownCap w (xs.length + 1) cap 3 := by
     rw [hcur0]
     simp [size_zeroCells, Value.cells, ints_len]
     omega
    have hfst : ∀ k, k < i → cur0[k]? = xs[k]?.map fun x => Value.int .i64 x := fun k hk => by
     rw [hcur0, Array.append_assoc, Array.getElem?_append_left (by simp [ints_len]; omega), List.getElem?_toArray, List.getElem?_take, if_pos hk, ints_get]
    rw [← hcur0] at hA ⊢
    obtain ⟨c1, a1, a2, a3, a4⟩ := sat_cellsT [.int .i64 x] i cur0 _ hA (by simp only [List.length_cons, List.length_nil]; omega)
    obtain ⟨c2, b1, b2, b3, b4⟩ := sat_cellsT ((ints xs).drop i) (i + 1) c1 _ a1.drew (by rw [hdl]; omega)
    refine fin _ w.heap.size 0 _ c2 b1 ((((Ext.refl w).alloc _).drew.trans a4).drew.trans b4) hge hle (by omega) fun k hk => ?_
    rw [Nat.zero_add, b3, a3, hdl]
    simp only [List.length_cons, List.length_nil]
    by_cases q : k < i
    ·rw [if_neg (by omega), if_neg (by omega), if_pos q]; exact hfst k q
    ·rw [if_neg q]
     by_cases q2 : k = i
     ·rw [if_neg (by omega), if_pos (by omega), if_pos q2, show k - i = 0 by omega]; rfl
     ·rw [if_pos (by omega), if_neg q2, List.getElem?_drop, ints_get]
      congr 2; omega
end Go.Proofs.Ytjekhcojebgpnaa.Search
end
