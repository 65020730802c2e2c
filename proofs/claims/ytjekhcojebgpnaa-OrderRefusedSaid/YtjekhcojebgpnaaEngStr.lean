import Derived.Test.YtjekhcojebgpnaaEngDefer
import Derived.Laws.CopyRow
import Derived.Laws.IdiomStrings
import Derived.Laws.Strings2
section
/- The logic's rules for slices of slices and of strings, for copy and clear. No program. -/
set_option linter.unusedVariables false
set_option linter.unusedSimpArgs false
namespace Go.Proofs.Ytjekhcojebgpnaa.Eng
open Go.RowKit

/-- Where a slice's tail begins. -/
def tailAt (o l cap : Nat) : Nat := if cap = l then o else o + l
theorem tailAt_lt {o l cap : Nat} (h : l < cap) : tailAt o l cap = o + l := by unfold tailAt; rw [if_neg (by omega)]

section
variable {c : Cx} {fin : Exit → Act → World → Prop} {ds : List Deferred} {E : Env} {L : List HP} {ks : List KI} {ops : Array Oper} {rest : List Oper}
variable {d : Option Tmp} {ty : TypeId} {pos : String} {af : Array Edge} {gd : Option (Nat × Bool)}

theorem run_slice {P : Program} {w : World} {t e : TypeId} {b o len cap l h : Nat} {lo hi : Option Value} (hu : P.underlying t = some (.slice e)) (hn : ∀ w, (sizeOf e).run P w = .ok 1 w)
  (hlo : (lo = none ∧ l = 0) ∨ ∃ k, lo = some (.int k (l : Int))) (hhi : (hi = none ∧ h = len) ∨ ∃ k, hi = some (.int k (h : Int))) (hb : l ≤ h) (hc : h ≤ cap) :
  (Instr.slice t (.slice (some ⟨b, o, none⟩) len cap) lo hi none).run P w = .ok (.slice (some ⟨b, tailAt o l cap, none⟩) (h - l) (cap - l)) w := by
 have hres : (if cap = l then (some ⟨b, o, none⟩ : Option Addr) else (some (⟨b, o, none⟩ : Addr)).map (·.add (l * 1))) = some ⟨b, tailAt o l cap, none⟩ := by
  unfold tailAt
  split
  ·rfl
  ·simp [add_none]
 have h1 : (0 : Int) ≤ (l : Int) ∧ (l : Int) ≤ (h : Int) := by omega
 have h2 : (0 : Int) ≤ (h : Int) ∧ (h : Int) ≤ (cap : Int) := by omega
 unfold Instr.slice
 simp only [Sem.run_bind, run_underlying hu, Result.andThen]
 rcases hlo with ⟨rfl, rfl⟩ | ⟨k, rfl⟩ <;> rcases hhi with ⟨rfl, rfl⟩ | ⟨k', rfl⟩
 ·simp only [Instr.sliceBounds, Sem.run_bind, Sem.run_pure, Result.andThen, hn, hres]
 ·simp only [Instr.sliceBounds, Instr.sliceBound, asIntOf, Sem.run_bind, Sem.run_pure, Result.andThen, if_pos h2, hn, Int.toNat_natCast, hres]
 ·simp only [Instr.sliceBounds, Instr.sliceBound, asIntOf, Sem.run_bind, Sem.run_pure, Result.andThen, if_pos h1, hn, Int.toNat_natCast, hres]
 ·simp only [Instr.sliceBounds, Instr.sliceBound, asIntOf, Sem.run_bind, Sem.run_pure, Result.andThen, if_pos h2, if_pos h1, hn, Int.toNat_natCast, hres]

theorem q_slice_l {t e : TypeId} {x y : Operand} {b o len cap : Nat} {kd : IntKind} {l : Int} (hx : ev E x = some (.slice (some ⟨b, o, none⟩) len cap)) (hy : ev E y = some (.int kd l)) (hu : c.P.underlying t = some (.slice e)) (hn : ∀ w, (sizeOf e).run c.P w = .ok 1 w) (hl : 0 ≤ l ∧ l ≤ (len : Int) ∧ len ≤ cap) :
  QV c ds E L ⟨d, .slice t x (some y) none none, ty, pos, af, gd⟩ (.slice (some ⟨b, tailAt o l.toNat cap, none⟩) (len - l.toNat) (cap - l.toNat)) :=
 ⟨by intro k; simp, fun a w hs => by
  obtain ⟨m, rfl⟩ := Int.eq_ofNat_of_zero_le hl.1
  have := run_slice (P := c.P) (w := w) (b := b) (o := o) (len := len) (cap := cap) (l := m) (h := len) (lo := some (.int kd m)) (hi := none) hu hn (.inr ⟨kd, rfl⟩) (.inl ⟨rfl, rfl⟩) (by omega) hl.2.2
  simp [execOp, Instr.sliceAt, run_underlying hu, hs.ev hx, hs.ev hy, this, Result.andThen]⟩
theorem q_slice_h {t e : TypeId} {x y : Operand} {b o len cap : Nat} {kd : IntKind} {h : Int} (hx : ev E x = some (.slice (some ⟨b, o, none⟩) len cap)) (hy : ev E y = some (.int kd h)) (hu : c.P.underlying t = some (.slice e)) (hn : ∀ w, (sizeOf e).run c.P w = .ok 1 w) (hl : 0 ≤ h ∧ h ≤ (cap : Int)) :
  QV c ds E L ⟨d, .slice t x none (some y) none, ty, pos, af, gd⟩ (.slice (some ⟨b, o, none⟩) h.toNat cap) :=
 ⟨by intro k; simp, fun a w hs => by
  obtain ⟨m, rfl⟩ := Int.eq_ofNat_of_zero_le hl.1
  have := run_slice (P := c.P) (w := w) (b := b) (o := o) (len := len) (cap := cap) (l := 0) (h := m) (lo := none) (hi := some (.int kd m)) hu hn (.inl ⟨rfl, rfl⟩) (.inr ⟨kd, rfl⟩) (by omega) (by omega)
  have e0 : tailAt o 0 cap = o := by unfold tailAt; split <;> rfl
  rw [e0] at this
  simp [execOp, Instr.sliceAt, run_underlying hu, hs.ev hx, hs.ev hy, this, Result.andThen]⟩
theorem q_slice_lh {t e : TypeId} {x y z : Operand} {b o len cap : Nat} {kd kd' : IntKind} {l h : Int} (hx : ev E x = some (.slice (some ⟨b, o, none⟩) len cap)) (hy : ev E y = some (.int kd l)) (hz : ev E z = some (.int kd' h)) (hu : c.P.underlying t = some (.slice e)) (hn : ∀ w, (sizeOf e).run c.P w = .ok 1 w) (hl : 0 ≤ l ∧ l ≤ h ∧ h ≤ (cap : Int)) :
  QV c ds E L ⟨d, .slice t x (some y) (some z) none, ty, pos, af, gd⟩ (.slice (some ⟨b, tailAt o l.toNat cap, none⟩) (h.toNat - l.toNat) (cap - l.toNat)) :=
 ⟨by intro k; simp, fun a w hs => by
  obtain ⟨m, rfl⟩ := Int.eq_ofNat_of_zero_le hl.1
  obtain ⟨m', rfl⟩ := Int.eq_ofNat_of_zero_le (by omega : 0 ≤ h)
  have := run_slice (P := c.P) (w := w) (b := b) (o := o) (len := len) (cap := cap) (l := m) (h := m') (lo := some (.int kd m)) (hi := some (.int kd' m')) hu hn (.inr ⟨kd, rfl⟩) (.inr ⟨kd', rfl⟩) (by omega) (by omega)
  simp [execOp, Instr.sliceAt, run_underlying hu, hs.ev hx, hs.ev hy, hs.ev hz, this, Result.andThen]⟩

/-- The elements ys laid at o. -/
def lay (xs : List Value) (o : Nat) (ys : List Value) : List Value := xs.take o ++ ys ++ xs.drop (o + ys.length)
theorem lay_len {xs ys : List Value} {o : Nat} (h : o + ys.length ≤ xs.length) : (lay xs o ys).length = xs.length := by simp [lay]; omega
theorem lay_get {xs ys : List Value} {o : Nat} (h : o + ys.length ≤ xs.length) (i : Nat) : (lay xs o ys)[i]? = if o ≤ i ∧ i < o + ys.length then ys[i - o]? else xs[i]? := by
 unfold lay
 by_cases h1 : i < o
 ·rw [if_neg (by omega), List.append_assoc, List.getElem?_append_left (by simp; omega), List.getElem?_take, if_pos h1]
 ·by_cases h2 : i < o + ys.length
  ·rw [if_pos (by omega), List.getElem?_append_left (by simp; omega), List.getElem?_append_right (by simp; omega)]
   congr 1; simp; omega
  ·rw [if_neg (by omega), List.getElem?_append_right (by simp; omega), List.getElem?_drop]
   congr 1; simp; omega
theorem own_write {P : Program} {e : TypeId} {g n cap o : Nat} {xs ys : List Value} {M : List HP} {w : World} (hs : Sat (stars (ownS e 1 (.slice (some ⟨g, 0, none⟩) n cap) n xs :: M)) w) (hl : o + ys.length ≤ n) (h1 : ∀ v ∈ ys, v.oneCell' = true) :
  ∃ w', (storeCells ⟨g, o, none⟩ ys).run P w = .ok () w' ∧ Sat (stars (ownS e 1 (.slice (some ⟨g, 0, none⟩) n cap) n (lay xs o ys) :: M)) w' ∧ Ext w w' := by
 obtain ⟨cur, c1, c2, c3, c4, c5, hsat⟩ := own_open hs
 have hg := hsat.block (b := g) .here
 have hr := run_storeCells_at P g o e ys 0 cur w hg (by omega) h1
 rw [Nat.add_zero] at hr
 refine ⟨_, hr, ?_, ⟨rfl, rfl, rfl, by simp [World.setRow]⟩⟩
 have hx : xs.length = n := by rw [c5]; omega
 have hcl : cur.toList.length = cap := by rw [Array.length_toList, c1]; omega
 refine own_of_pt (Sat.turn (o' := .cells _ e (0, 0)) hsat (setRow_heap w g cur _ e _ hg) (fun k hk _ => setRow_other w g k _ hk)) (by rw [lay_len (by omega)]; omega) c3 c4 ?_ ?_
 ·simp only [List.size_toArray, List.length_append, List.length_take, List.length_drop, hcl]; omega
 ·have e1 : (cur.toList.take o ++ ys ++ cur.toList.drop (o + ys.length)).toArray.toList = lay cur.toList o ys := by simp [lay]
  rw [e1, Nat.mul_one]
  apply List.ext_getElem?
  intro i
  rw [List.getElem?_take]
  have hgx : ∀ i, i < n → xs[i]? = cur.toList[i]? := fun i hi => by rw [← c2, List.getElem?_take, if_pos (by omega)]
  by_cases hi : i < n
  ·rw [if_pos hi, lay_get (by omega), lay_get (by omega)]
   split
   ·rfl
   ·exact (hgx i hi).symm
  ·rw [if_neg hi]
   have : (lay xs o ys).length ≤ i := by rw [lay_len (by omega)]; omega
   rw [List.getElem?_eq_none this]

/-- What lies at an address in the pieces, cell by cell. -/
def Reads (L : List HP) (a : Addr) (ys : List Value) : Prop := ∀ w, Sat (stars L) w → ∀ j v, ys[j]? = some v → w.cell? (a.add j) = some v
theorem reads_own {e : TypeId} {g n cap o k : Nat} {xs : List Value} {M : List HP} (ht : Take (ownS e 1 (.slice (some ⟨g, 0, none⟩) n cap) n xs) L M) : Reads L ⟨g, o, none⟩ ((xs.drop o).take k) := fun w hs j v hv => by
 obtain ⟨cur, _, c2, _, _, _, hsat⟩ := own_open (hs.take ht)
 have hg := hsat.block (b := g) .here
 rw [add_none]
 rw [List.getElem?_take] at hv
 split at hv
 ·rw [List.getElem?_drop] at hv
  have := own_at c2 hv
  simp [World.cell?, hg, this]
 ·cases hv
theorem reads_pt {g o k : Nat} {cs : Array Value} {tt : TypeId} {fr : Nat × Nat} {M : List HP} (ht : Take (pt g (.cells cs tt fr)) L M) : Reads L ⟨g, o, none⟩ ((cs.toList.drop o).take k) := fun w hs j v hv => by
 have hg := hs.block ht
 rw [add_none]
 rw [List.getElem?_take] at hv
 split at hv
 ·rw [List.getElem?_drop] at hv
  simp only [World.cell?, hg]; simpa using hv
 ·cases hv

theorem o_copy {t t2 e : TypeId} {x y : Operand} {g o n cap dl dc sl sc : Nat} {a0 : Addr} {xs : List Value} (ys : List Value) {M : List HP} (hd : okDst d c.N = true) (hx : ev E x = some (.slice (some ⟨g, o, none⟩) dl dc)) (hy : ev E y = some (.slice (some a0) sl sc))
  (ht : c.P.underlying t = some (.slice e)) (hinf : ∃ i, c.P.info? e = some i ∧ i.size = 1) (hown : Take (ownS e 1 (.slice (some ⟨g, 0, none⟩) n cap) n xs) L M) (hys : ys.length = Nat.min sl dl) (hr : Reads L a0 ys) (hfit : o + ys.length ≤ n) (h1 : ∀ v ∈ ys, v.oneCell' = true)
  (k : TL c fin ds (upd d (.int .i64 (ys.length : Nat)) E) (ownS e 1 (.slice (some ⟨g, 0, none⟩) n cap) n (lay xs o ys) :: M) ops rest ks) :
  TL c fin ds E L ops (⟨d, .call { callee := .builtin .copy, args := #[x, y], argTypes := #[t, t2] }, ty, pos, af, none⟩ :: rest) ks :=
 l_op (X := Unit) hd (by intro k; simp) (fun _ => .int .i64 (ys.length : Nat)) (fun _ => ownS e 1 (.slice (some ⟨g, 0, none⟩) n cap) n (lay xs o ys) :: M) (fun a w hs => by
  obtain ⟨i, hi, hsz⟩ := hinf
  obtain ⟨w', h2, h3, h4⟩ := own_write (P := c.P) (o := o) (ys := ys) (hs.sat.take hown) hfit h1
  have hl := run_loadCells_list (P := c.P) w a0 ys (hr w hs.sat)
  refine ⟨(), w', ?_, h3, h4⟩
  simp [execOp, resolve, invoke, builtin, Builtin.copy_, hs.ev hx, hs.ev hy, run_underlying ht, Builtin.lenOf, Builtin.firstCells, sizeOf, typeInfo, hi, hsz, ← hys, hl, h2, goInt, Result.andThen]) fun _ => k
theorem o_clear {t e : TypeId} {x : Operand} {g o n cap dl dc : Nat} {z : Value} {xs : List Value} {M : List HP} (hd : okDst d c.N = true) (hx : ev E x = some (.slice (some ⟨g, o, none⟩) dl dc))
  (ht : c.P.underlying t = some (.slice e)) (hz : ∀ w, (zeroValue e).run c.P w = .ok z w) (hz1 : z.oneCell' = true) (hown : Take (ownS e 1 (.slice (some ⟨g, 0, none⟩) n cap) n xs) L M) (hfit : o + dl ≤ n)
  (k : TL c fin ds (upd d (.tuple #[]) E) (ownS e 1 (.slice (some ⟨g, 0, none⟩) n cap) n (lay xs o (List.replicate dl z)) :: M) ops rest ks) :
  TL c fin ds E L ops (⟨d, .call { callee := .builtin .clear, args := #[x], argTypes := #[t] }, ty, pos, af, none⟩ :: rest) ks :=
 l_op (X := Unit) hd (by intro k; simp) (fun _ => .tuple #[]) (fun _ => ownS e 1 (.slice (some ⟨g, 0, none⟩) n cap) n (lay xs o (List.replicate dl z)) :: M) (fun a w hs => by
  obtain ⟨w', h2, h3, h4⟩ := own_write (P := c.P) (o := o) (ys := List.replicate dl z) (hs.sat.take hown) (by simpa using hfit) (fun v hv => by rw [List.mem_replicate] at hv; rw [hv.2]; exact hz1)
  have hzc : (Builtin.zeroCells z.cells dl).toList = List.replicate dl z := by
   rw [cells_one hz1]
   unfold Builtin.zeroCells
   apply List.ext_getElem
   ·simp
   ·intro i h1 h2; simp [Nat.mod_one]
  refine ⟨(), w', ?_, h3, h4⟩
  cases dl with
  | zero =>
   simp only [List.replicate_zero] at h2
   simp [execOp, resolve, invoke, builtin, Builtin.clear_, hs.ev hx, run_underlying ht, Result.andThen]
   simpa [storeCells] using h2
  | succ dl => simp [execOp, resolve, invoke, builtin, Builtin.clear_, hs.ev hx, run_underlying ht, hz, hzc, h2, Result.andThen]) fun _ => k
end
end Go.Proofs.Ytjekhcojebgpnaa.Eng
end
section
/- The logic's rules for strings: slices of them, bytes out of them and back. No program. -/
set_option linter.unusedVariables false
set_option linter.unusedSimpArgs false
namespace Go.Proofs.Ytjekhcojebgpnaa.Eng
open Go.RowKit

/-- A string's bytes as cells. -/
def bytesV (s : ByteArray) : List Value := s.data.toList.map fun b => .int .u8 (b.toNat : Int)
theorem bytesV_len (s : ByteArray) : (bytesV s).length = s.size := by simp [bytesV]
theorem bytesV_get {s : ByteArray} {i : Nat} (h : i < s.size) : (bytesV s)[i]? = some (.int .u8 ((s[i]'h).toNat : Int)) := by
 have h' : i < s.data.toList.length := by simpa using h
 simp only [bytesV, List.getElem?_map, List.getElem?_eq_getElem h', Option.map_some]
 rfl
theorem bytesV_one (s : ByteArray) : ∀ v ∈ bytesV s, v.oneCell' = true := fun v hv => by
 simp only [bytesV, List.mem_map] at hv; obtain ⟨b, _, rfl⟩ := hv; rfl

/-- A slice that holds a string's bytes, to be read. -/
def byteS (v : Value) (s : ByteArray) : HP := fun h => ∃ b cap cs e fr, v = .slice (some ⟨b, 0, none⟩) s.size cap ∧ s.size ≤ cap ∧ cs.toList.take s.size = bytesV s ∧ h = Part.one b (.cells cs e fr)
theorem byteS_open {v : Value} {s : ByteArray} {L : List HP} {w : World} (h : Sat (stars (byteS v s :: L)) w) :
  ∃ b cap cs e fr, v = .slice (some ⟨b, 0, none⟩) s.size cap ∧ s.size ≤ cap ∧ cs.toList.take s.size = bytesV s ∧ Sat (stars (pt b (.cells cs e fr) :: L)) w := by
 obtain ⟨_, hi, f, g0, ⟨b, cap, cs, e, fr, hv, h1, h2, rfl⟩, k, d, rfl⟩ := h
 exact ⟨b, cap, cs, e, fr, hv, h1, h2, _, hi, _, g0, rfl, k, d, rfl⟩

section
variable {c : Cx} {fin : Exit → Act → World → Prop} {ds : List Deferred} {E : Env} {L : List HP} {ks : List KI} {ops : Array Oper} {rest : List Oper}
variable {d : Option Tmp} {ty : TypeId} {pos : String} {af : Array Edge} {gd : Option (Nat × Bool)}
theorem reads_byteS {b cap n : Nat} {s : ByteArray} {M : List HP} (k : Nat) (ht : Take (byteS (.slice (some ⟨b, 0, none⟩) n cap) s) L M) : Reads L ⟨b, 0, none⟩ ((bytesV s).take k) := fun w hs j v hv => by
 obtain ⟨b', cap', cs, e, fr, hv', _, h2, hsat⟩ := byteS_open (hs.take ht)
 simp only [Value.slice.injEq, Option.some.injEq, Addr.mk.injEq] at hv'
 obtain ⟨⟨rfl, _⟩, _, _⟩ := hv'
 have hg := hsat.block (b := b) .here
 rw [add_none]
 rw [List.getElem?_take] at hv
 split at hv
 ·have := own_at h2 hv
  rw [Nat.zero_add]
  simp [World.cell?, hg, this]
 ·cases hv
/-- Bytes made a string. -/
theorem q_bytesStr {t t2 e : TypeId} {x : Operand} {a0 : Addr} {n cap : Nat} (s : ByteArray) (hx : ev E x = some (.slice (some a0) n cap)) (ht : c.P.underlying t = some (.slice e)) (he : c.P.underlying e = some (.int .u8)) (ht2 : c.P.underlying t2 = some .string)
  (hn : n = s.size) (hr : Reads L a0 (bytesV s)) : QV c ds E L ⟨d, .convert t t2 x, ty, pos, af, gd⟩ (.string s) :=
 ⟨by intro k; simp, fun a w hs => by
  have := run_convert_bytes_back (P := c.P) w t t2 e a0 cap s.data.toList ht he ht2 (fun j hj => by
   refine hr w hs.sat j _ ?_
   simp [bytesV, List.getElem?_eq_getElem hj])
  have e1 : s.data.toList.length = n := by rw [hn]; simp
  rw [e1] at this
  simp [execOp, hs.ev hx, this, Result.andThen]⟩
/-- A string's bytes in a new row. -/
theorem o_strBytes {t t2 e : TypeId} {x : Operand} {s : ByteArray} (hd : okDst d c.N = true) (hx : ev E x = some (.string s)) (ht : c.P.underlying t = some .string) (ht2 : c.P.underlying t2 = some (.slice e)) (he : c.P.underlying e = some (.int .u8))
  (k : ∀ b cap, TL c fin ds (upd d (.slice (some ⟨b, 0, none⟩) s.size cap) E) (byteS (.slice (some ⟨b, 0, none⟩) s.size cap) s :: L) ops rest ks) : TL c fin ds E L ops (⟨d, .convert t t2 x, ty, pos, af, none⟩ :: rest) ks :=
 l_op (X := Nat × Nat) hd (by intro k; simp) (fun x => .slice (some ⟨x.1, 0, none⟩) s.size x.2) (fun x => byteS (.slice (some ⟨x.1, 0, none⟩) s.size x.2) s :: L) (fun a w hs => by
  have hr := run_bytes_of_string (P := c.P) w t t2 e s ht ht2 he
  have hge := grownCap_ge w s.size 0 e
  refine ⟨(w.heap.size, grownCap w s.size 0 e), _, by simp [execOp, hs.ev hx, hr, Result.andThen]; rfl, ?_, (Ext.refl w).drew.alloc _⟩
  have h2 := Sat.alloc (A := stars L) hs.sat.drew (.cells (bytesRow s (grownCap w s.size 0 e)) e ((bytesRow s (grownCap w s.size 0 e)).size, (bytesRow s (grownCap w s.size 0 e)).size + 1))
  obtain ⟨_, hi, f, g0, rfl, kk, dd, rfl⟩ := h2
  refine ⟨_, hi, _, g0, ⟨_, _, _, _, _, rfl, hge, ?_, rfl⟩, kk, dd, rfl⟩
  simp only [bytesRow, Array.toList_append, Array.toList_map]
  rw [List.take_append_of_le_length (by simp), List.take_of_length_le (by simp)]
  rfl) fun x => k x.1 x.2

theorem run_sliceS {P : Program} {w : World} {t : TypeId} {s : ByteArray} {l h : Nat} {lo hi : Option Value} (hu : P.underlying t = some .string)
  (hlo : (lo = none ∧ l = 0) ∨ ∃ k, lo = some (.int k (l : Int))) (hhi : (hi = none ∧ h = s.size) ∨ ∃ k, hi = some (.int k (h : Int))) (hb : l ≤ h) (hc : h ≤ s.size) :
  (Instr.slice t (.string s) lo hi none).run P w = .ok (.string (s.extract l h)) w := by
 have h1 : (0 : Int) ≤ (l : Int) ∧ (l : Int) ≤ (h : Int) := by omega
 have h2 : (0 : Int) ≤ (h : Int) ∧ (h : Int) ≤ (s.size : Int) := by omega
 unfold Instr.slice
 simp only [Sem.run_bind, run_underlying hu, Result.andThen]
 rcases hlo with ⟨rfl, rfl⟩ | ⟨k, rfl⟩ <;> rcases hhi with ⟨rfl, rfl⟩ | ⟨k', rfl⟩
 ·simp [Instr.sliceBounds, Result.andThen]
 ·simp [Instr.sliceBounds, Instr.sliceBound, asIntOf, Result.andThen, hc]
 ·simp [Instr.sliceBounds, Instr.sliceBound, asIntOf, Result.andThen, hb]
 ·simp [Instr.sliceBounds, Instr.sliceBound, asIntOf, Result.andThen, hc, hb]
theorem q_sliceS_l {t : TypeId} {x y : Operand} {s : ByteArray} {kd : IntKind} {l : Int} (hx : ev E x = some (.string s)) (hy : ev E y = some (.int kd l)) (hu : c.P.underlying t = some .string) (hl : 0 ≤ l ∧ l ≤ (s.size : Int)) :
  QV c ds E L ⟨d, .slice t x (some y) none none, ty, pos, af, gd⟩ (.string (s.extract l.toNat s.size)) :=
 ⟨by intro k; simp, fun a w hs => by
  obtain ⟨m, rfl⟩ := Int.eq_ofNat_of_zero_le hl.1
  have := run_sliceS (P := c.P) (w := w) (s := s) (l := m) (h := s.size) (lo := some (.int kd m)) (hi := none) hu (.inr ⟨kd, rfl⟩) (.inl ⟨rfl, rfl⟩) (by omega) (by omega)
  simp [execOp, Instr.sliceAt, run_underlying hu, hs.ev hx, hs.ev hy, this, Result.andThen]⟩
theorem q_sliceS_h {t : TypeId} {x y : Operand} {s : ByteArray} {kd : IntKind} {h : Int} (hx : ev E x = some (.string s)) (hy : ev E y = some (.int kd h)) (hu : c.P.underlying t = some .string) (hl : 0 ≤ h ∧ h ≤ (s.size : Int)) :
  QV c ds E L ⟨d, .slice t x none (some y) none, ty, pos, af, gd⟩ (.string (s.extract 0 h.toNat)) :=
 ⟨by intro k; simp, fun a w hs => by
  obtain ⟨m, rfl⟩ := Int.eq_ofNat_of_zero_le hl.1
  have := run_sliceS (P := c.P) (w := w) (s := s) (l := 0) (h := m) (lo := none) (hi := some (.int kd m)) hu (.inl ⟨rfl, rfl⟩) (.inr ⟨kd, rfl⟩) (by omega) (by omega)
  simp [execOp, Instr.sliceAt, run_underlying hu, hs.ev hx, hs.ev hy, this, Result.andThen]⟩
end
end Go.Proofs.Ytjekhcojebgpnaa.Eng
end
