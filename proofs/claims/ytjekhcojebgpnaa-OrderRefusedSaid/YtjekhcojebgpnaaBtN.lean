import Derived.Test.YtjekhcojebgpnaaArenaD
import Derived.Test.YtjekhcojebgpnaaBtD
section
/- The logic's rules for arrays that lie in written-out rows: slices of them, copies into them, parts of them. No program. -/
set_option linter.unusedVariables false
set_option linter.unusedSimpArgs false
namespace Go.Proofs.Ytjekhcojebgpnaa.Eng
open Go.RowKit
section
variable {c : Cx} {fin : Exit → Act → World → Prop} {ds : List Deferred} {E : Env} {L : List HP} {ks : List KI} {ops : Array Oper} {rest : List Oper}
variable {d : Option Tmp} {ty : TypeId} {pos : String} {af : Array Edge} {gd : Option (Nat × Bool)}

theorem run_sliceA {P : Program} {w : World} {t e : TypeId} {b o n len l h : Nat} {lo hi : Option Value} (hu : P.underlying t = some (.array len e)) (hn : ∀ w, (sizeOf e).run P w = .ok n w)
  (hlo : (lo = none ∧ l = 0) ∨ ∃ k, lo = some (.int k (l : Int))) (hhi : (hi = none ∧ h = len) ∨ ∃ k, hi = some (.int k (h : Int))) (hb : l ≤ h) (hc : h ≤ len) :
  (Instr.sliceAt t (.pointer (some ⟨b, o, none⟩)) lo hi none).run P w = .ok (.slice (some ⟨b, tailN n o l len, none⟩) (h - l) (len - l)) w := by
 have hres : (if len = l then (⟨b, o, none⟩ : Addr) else (⟨b, o, none⟩ : Addr).add (l * n)) = ⟨b, tailN n o l len, none⟩ := by
  unfold tailN
  split
  ·rfl
  ·simp [add_none]
 have h1 : (0 : Int) ≤ (l : Int) ∧ (l : Int) ≤ (h : Int) := by omega
 have h2 : (0 : Int) ≤ (h : Int) ∧ (h : Int) ≤ (len : Int) := by omega
 unfold Instr.sliceAt
 simp only [Sem.run_bind, run_underlying hu, Result.andThen, Instr.sureAddr, Sem.run_pure]
 rcases hlo with ⟨rfl, rfl⟩ | ⟨k, rfl⟩ <;> rcases hhi with ⟨rfl, rfl⟩ | ⟨k', rfl⟩
 ·simp only [Instr.sliceBounds, Sem.run_bind, Sem.run_pure, Result.andThen, hn, hres]
 ·simp only [Instr.sliceBounds, Instr.sliceBound, asIntOf, Sem.run_bind, Sem.run_pure, Result.andThen, if_pos h2, hn, Int.toNat_natCast, hres]
 ·simp only [Instr.sliceBounds, Instr.sliceBound, asIntOf, Sem.run_bind, Sem.run_pure, Result.andThen, if_pos h1, hn, Int.toNat_natCast, hres]
 ·simp only [Instr.sliceBounds, Instr.sliceBound, asIntOf, Sem.run_bind, Sem.run_pure, Result.andThen, if_pos h2, if_pos h1, hn, Int.toNat_natCast, hres]
theorem q_sliceA {t e : TypeId} {x : Operand} {b o n len : Nat} (hx : ev E x = some (.pointer (some ⟨b, o, none⟩))) (hu : c.P.underlying t = some (.array len e)) (hn : ∀ w, (sizeOf e).run c.P w = .ok n w) :
  QV c ds E L ⟨d, .slice t x none none none, ty, pos, af, gd⟩ (.slice (some ⟨b, o, none⟩) len len) :=
 ⟨by intro k; simp, fun a w hs => by
  have := run_sliceA (P := c.P) (w := w) (b := b) (o := o) (len := len) (l := 0) (h := len) (lo := none) (hi := none) hu hn (.inl ⟨rfl, rfl⟩) (.inl ⟨rfl, rfl⟩) (by omega) (Nat.le_refl _)
  have e0 : tailN n o 0 len = o := by unfold tailN; split <;> simp
  rw [e0] at this
  simp [execOp, hs.ev hx, this, Result.andThen]⟩
theorem q_sliceA_l {t e : TypeId} {x y : Operand} {b o n len : Nat} {kd : IntKind} {l : Int} (hx : ev E x = some (.pointer (some ⟨b, o, none⟩))) (hy : ev E y = some (.int kd l)) (hu : c.P.underlying t = some (.array len e)) (hn : ∀ w, (sizeOf e).run c.P w = .ok n w) (hl : 0 ≤ l ∧ l ≤ (len : Int)) :
  QV c ds E L ⟨d, .slice t x (some y) none none, ty, pos, af, gd⟩ (.slice (some ⟨b, tailN n o l.toNat len, none⟩) (len - l.toNat) (len - l.toNat)) :=
 ⟨by intro k; simp, fun a w hs => by
  obtain ⟨m, rfl⟩ := Int.eq_ofNat_of_zero_le hl.1
  have := run_sliceA (P := c.P) (w := w) (b := b) (o := o) (len := len) (l := m) (h := len) (lo := some (.int kd m)) (hi := none) hu hn (.inr ⟨kd, rfl⟩) (.inl ⟨rfl, rfl⟩) (by omega) (Nat.le_refl _)
  simp [execOp, hs.ev hx, hs.ev hy, this, Result.andThen]⟩
theorem q_sliceA_h {t e : TypeId} {x y : Operand} {b o n len : Nat} {kd : IntKind} {h : Int} (hx : ev E x = some (.pointer (some ⟨b, o, none⟩))) (hy : ev E y = some (.int kd h)) (hu : c.P.underlying t = some (.array len e)) (hn : ∀ w, (sizeOf e).run c.P w = .ok n w) (hl : 0 ≤ h ∧ h ≤ (len : Int)) :
  QV c ds E L ⟨d, .slice t x none (some y) none, ty, pos, af, gd⟩ (.slice (some ⟨b, o, none⟩) h.toNat len) :=
 ⟨by intro k; simp, fun a w hs => by
  obtain ⟨m, rfl⟩ := Int.eq_ofNat_of_zero_le hl.1
  have := run_sliceA (P := c.P) (w := w) (b := b) (o := o) (len := len) (l := 0) (h := m) (lo := none) (hi := some (.int kd m)) hu hn (.inl ⟨rfl, rfl⟩) (.inr ⟨kd, rfl⟩) (by omega) (by omega)
  have e0 : tailN n o 0 len = o := by unfold tailN; split <;> simp
  rw [e0] at this
  simp [execOp, hs.ev hx, hs.ev hy, this, Result.andThen]⟩
theorem q_sliceA_lh {t e : TypeId} {x y z : Operand} {b o n len : Nat} {kd kd' : IntKind} {l h : Int} (hx : ev E x = some (.pointer (some ⟨b, o, none⟩))) (hy : ev E y = some (.int kd l)) (hz : ev E z = some (.int kd' h)) (hu : c.P.underlying t = some (.array len e)) (hn : ∀ w, (sizeOf e).run c.P w = .ok n w) (hl : 0 ≤ l ∧ l ≤ h ∧ h ≤ (len : Int)) :
  QV c ds E L ⟨d, .slice t x (some y) (some z) none, ty, pos, af, gd⟩ (.slice (some ⟨b, tailN n o l.toNat len, none⟩) (h.toNat - l.toNat) (len - l.toNat)) :=
 ⟨by intro k; simp, fun a w hs => by
  obtain ⟨m, rfl⟩ := Int.eq_ofNat_of_zero_le hl.1
  obtain ⟨m', rfl⟩ := Int.eq_ofNat_of_zero_le (show 0 ≤ h by omega)
  have := run_sliceA (P := c.P) (w := w) (b := b) (o := o) (len := len) (l := m) (h := m') (lo := some (.int kd m)) (hi := some (.int kd' m')) hu hn (.inr ⟨kd, rfl⟩) (.inr ⟨kd', rfl⟩) (by omega) (by omega)
  simp [execOp, hs.ev hx, hs.ev hy, hs.ev hz, this, Result.andThen]⟩
/-- An element of an array at hand, of one cell. -/
theorem q_indexArr1 {t e : TypeId} {x y : Operand} {cs : Array Value} {len : Nat} {kd : IntKind} {i : Int} {v : Value} (hx : ev E x = some (.agg cs)) (hy : ev E y = some (.int kd i)) (hu : c.P.underlying t = some (.array len e))
  (ha : ∀ w, (isAgg e).run c.P w = .ok false w) (hn : ∀ w, (sizeOf e).run c.P w = .ok 1 w) (hi : 0 ≤ i ∧ i < (len : Int)) (hv : cs[i.toNat]? = some v) :
  QV c ds E L ⟨d, .index t x y, ty, pos, af, gd⟩ v :=
 ⟨by intro k; simp, fun a w hs' => by
  simp only [execOp, Instr.index, hs'.ev hx, hs'.ev hy, asIntOf, Sem.run_bind, Sem.run_pure, run_underlying hu, Result.andThen, if_pos hi, hn, part, ha]
  simp [hv, Result.andThen]⟩
/-- Cells laid into a written-out row. -/
theorem pt_write {P : Program} {g o : Nat} {xs ys : List Value} {tt : TypeId} {M : List HP} {w : World} (hs : Sat (stars (pt g (.cells xs.toArray tt (0, 0)) :: M)) w) (hl : o + ys.length ≤ xs.length) (h1 : ∀ v ∈ ys, v.oneCell' = true) :
  ∃ w', (storeCells ⟨g, o, none⟩ ys).run P w = .ok () w' ∧ Sat (stars (pt g (.cells (lay xs o ys).toArray tt (0, 0)) :: M)) w' ∧ Ext w w' := by
 have hg := hs.block (b := g) .here
 have hr := run_storeCells_at P g o tt ys 0 xs.toArray w hg (by simpa using hl) h1
 rw [Nat.add_zero] at hr
 refine ⟨_, hr, ?_, ⟨rfl, rfl, rfl, by simp [World.setRow]⟩⟩
 have e : (xs.toArray.toList.take o ++ ys ++ xs.toArray.toList.drop (o + ys.length)).toArray = (lay xs o ys).toArray := by simp [lay]
 rw [e]
 exact Sat.turn (o' := .cells (lay xs o ys).toArray tt (0, 0)) hs (setRow_heap w g xs.toArray _ tt _ hg) (fun k hk _ => setRow_other w g k _ hk)
theorem o_copyP {t t2 e : TypeId} {x y : Operand} {g o dl dc sl sc sz : Nat} {a0 : Addr} {xs xs' : List Value} {tt : TypeId} (ys : List Value) {M : List HP} (hd : okDst d c.N = true) (hx : ev E x = some (.slice (some ⟨g, o, none⟩) dl dc)) (hy : ev E y = some (.slice (some a0) sl sc))
  (ht : c.P.underlying t = some (.slice e)) (hinf : ∃ i, c.P.info? e = some i ∧ i.size = sz) (hown : Take (pt g (.cells xs.toArray tt (0, 0))) L M) (hys : ys.length = Nat.min sl dl * sz) (hr : Reads L a0 ys) (hfit : o + ys.length ≤ xs.length) (h1 : ∀ v ∈ ys, v.oneCell' = true) (hxs : lay xs o ys = xs')
  (k : TL c fin ds (upd d (.int .i64 (Nat.min sl dl : Nat)) E) (pt g (.cells xs'.toArray tt (0, 0)) :: M) ops rest ks) :
  TL c fin ds E L ops (⟨d, .call { callee := .builtin .copy, args := #[x, y], argTypes := #[t, t2] }, ty, pos, af, none⟩ :: rest) ks :=
 l_op (X := Unit) hd (by intro k; simp) (fun _ => .int .i64 (Nat.min sl dl : Nat)) (fun _ => pt g (.cells xs'.toArray tt (0, 0)) :: M) (fun a w hs => by
  obtain ⟨i, hi, hsz⟩ := hinf
  obtain ⟨w', h2, h3, h4⟩ := pt_write (P := c.P) (o := o) (ys := ys) (hs.sat.take hown) hfit h1
  have hl := run_loadCells_list (P := c.P) w a0 ys (hr w hs.sat)
  refine ⟨(), w', ?_, by rw [← hxs]; exact h3, h4⟩
  simp [execOp, resolve, invoke, builtin, Builtin.copy_, hs.ev hx, hs.ev hy, run_underlying ht, Builtin.lenOf, Builtin.firstCells, sizeOf, typeInfo, hi, hsz, ← hys, hl, h2, goInt, Result.andThen]) fun _ => k
theorem setCells_lay : ∀ {us xs : List Value} {o : Nat}, o + us.length ≤ xs.length → setCells xs.toArray o us = (lay xs o us).toArray
 | [], xs, o, h => by simp [setCells, lay]
 | u :: us, xs, o, h => by
  simp only [List.length_cons] at h
  have ih := setCells_lay (us := us) (xs := xs.set o u) (o := o + 1) (by simp; omega)
  simp only [setCells, List.setIfInBounds_toArray]
  rw [ih]
  congr 1
  apply List.ext_getElem?
  intro i
  rw [lay_get (by simp; omega), lay_get (by simp; omega), List.getElem?_set]
  simp only [List.length_cons]
  by_cases q1 : o + 1 ≤ i ∧ i < o + 1 + us.length
  ·rw [if_pos q1, if_pos (by omega), show i - o = (i - (o + 1)) + 1 by omega, List.getElem?_cons_succ]
  ·rw [if_neg q1]
   by_cases q2 : o = i
   ·subst q2
    rw [if_pos rfl, if_pos (by omega), if_pos (by omega), Nat.sub_self]; rfl
   ·rw [if_neg q2, if_neg (by omega)]
/-- A part of a written-out row, where it is not known which. -/
theorem q_loadP {t : TypeId} {x : Operand} {b o n : Nat} {xs us : List Value} {tt : TypeId} {fr : Nat × Nat} {M : List HP} (hx : ev E x = some (.pointer (some ⟨b, o, none⟩)))
  (ha : ∀ w, (isAgg t).run c.P w = .ok true w) (hn : ∀ w, (sizeOf t).run c.P w = .ok n w) (ht : Take (pt b (.cells xs.toArray tt fr)) L M) (hsz : o + n ≤ xs.length) (hv : (xs.drop o).take n = us) :
  QV c ds E L ⟨d, .load t x, ty, pos, af, gd⟩ (.agg us.toArray) :=
 q_loadAgg hx ha hn ht (Nat.ble_eq_true_of_le (by simpa using hsz)) (by
  rw [← hv]
  apply Array.ext'
  simp [Nat.add_sub_cancel_left])
theorem q_loadP1 {t : TypeId} {x : Operand} {b o : Nat} {v : Value} {xs : List Value} {tt : TypeId} {fr : Nat × Nat} {M : List HP} (hx : ev E x = some (.pointer (some ⟨b, o, none⟩)))
  (ha : ∀ w, (isAgg t).run c.P w = .ok false w) (ht : Take (pt b (.cells xs.toArray tt fr)) L M) (hv : xs[o]? = some v) : QV c ds E L ⟨d, .load t x, ty, pos, af, gd⟩ v :=
 q_load hx ha ht (by rw [List.getElem?_toArray]; exact hv)
theorem o_storeP {t : TypeId} {x y : Operand} {b o n : Nat} {us : List Value} {xs xs' : List Value} {tt : TypeId} {M : List HP} (hd : okDst d c.N = true) (hx : ev E x = some (.pointer (some ⟨b, o, none⟩))) (hy : ev E y = some (.agg us.toArray))
  (hn : ∀ w, (sizeOf t).run c.P w = .ok n w) (hus : us.length = n) (hv : us.all (·.oneCell') = true) (ht : Take (pt b (.cells xs.toArray tt (0, 0))) L M) (ho : o + n ≤ xs.length) (hcs : lay xs o us = xs')
  (k : TL c fin ds (upd d undef E) (pt b (.cells xs'.toArray tt (0, 0)) :: M) ops rest ks) :
  TL c fin ds E L ops (⟨d, .store t x y, ty, pos, af, none⟩ :: rest) ks :=
 o_storeAgg hd hx hy hn (by simpa using hus) (by simpa using hv) ht (Nat.ble_eq_true_of_le (by simpa using ho)) (by rw [← hcs]; exact setCells_lay (by rw [hus]; exact ho)) k
theorem o_storeP1 {t : TypeId} {x y : Operand} {b o : Nat} {v : Value} {xs xs' : List Value} {tt : TypeId} {M : List HP} (hd : okDst d c.N = true) (hx : ev E x = some (.pointer (some ⟨b, o, none⟩))) (hy : ev E y = some v)
  (hn : ∀ w, (sizeOf t).run c.P w = .ok 1 w) (hv : v.oneCell' = true) (ht : Take (pt b (.cells xs.toArray tt (0, 0))) L M) (ho : o < xs.length) (hcs : xs.set o v = xs') (k : TL c fin ds (upd d undef E) (pt b (.cells xs'.toArray tt (0, 0)) :: M) ops rest ks) :
  TL c fin ds E L ops (⟨d, .store t x y, ty, pos, af, none⟩ :: rest) ks :=
 o_store hd hx hy hn hv ht (by rw [Nat.blt_eq]; simpa using ho) (by rw [← hcs]; simp) k
end
theorem reads_ptP {g o k : Nat} {xs : List Value} {tt : TypeId} {fr : Nat × Nat} {L M : List HP} (ht : Take (pt g (.cells xs.toArray tt fr)) L M) : Reads L ⟨g, o, none⟩ ((xs.drop o).take k) := by
 have := reads_pt (o := o) (k := k) ht
 simpa using this
end Go.Proofs.Ytjekhcojebgpnaa.Eng
end
section
/- A node as it is read: its cells; what a put and a drop make of them. No program's code. -/
set_option linter.unusedVariables false
set_option linter.unusedSimpArgs false
set_option linter.unusedSectionVars false
namespace Go.Proofs.Ytjekhcojebgpnaa.Bt
open Go.RowKit Go.Proofs Go.Proofs.Ytjekhcojebgpnaa.Eng
section
variable {A : Type}
/-- n elements, those behind l are all a. -/
def pad (a : A) (n : Nat) (l : List A) : List A := l ++ List.replicate (n - l.length) a
/-- The elements ys laid at o. -/
def layA (xs : List A) (o : Nat) (ys : List A) : List A := xs.take o ++ ys ++ xs.drop (o + ys.length)
theorem pad_len {a : A} {n : Nat} {l : List A} (h : l.length ≤ n) : (pad a n l).length = n := by simp [pad]; omega
theorem pad_get {a : A} {n : Nat} {l : List A} (h : l.length ≤ n) (i : Nat) : (pad a n l)[i]? = if i < l.length then l[i]? else if i < n then some a else none := by
 unfold pad
 split
 ·next q => rw [List.getElem?_append_left q]
 ·next q =>
  rw [List.getElem?_append_right (by omega), List.getElem?_replicate]
  by_cases q2 : i < n
  ·rw [if_pos q2, if_pos (by omega)]
  ·rw [if_neg q2, if_neg (by omega)]
theorem layA_len {xs ys : List A} {o : Nat} (h : o + ys.length ≤ xs.length) : (layA xs o ys).length = xs.length := by simp [layA]; omega
theorem layA_get {xs ys : List A} {o : Nat} (h : o + ys.length ≤ xs.length) (i : Nat) : (layA xs o ys)[i]? = if o ≤ i ∧ i < o + ys.length then ys[i - o]? else xs[i]? := by
 unfold layA
 by_cases h1 : i < o
 ·rw [if_neg (by omega), List.append_assoc, List.getElem?_append_left (by simp; omega), List.getElem?_take, if_pos h1]
 ·by_cases h2 : i < o + ys.length
  ·rw [if_pos (by omega), List.getElem?_append_left (by simp; omega), List.getElem?_append_right (by simp; omega)]
   congr 1; simp; omega
  ·rw [if_neg (by omega), List.getElem?_append_right (by simp; omega), List.getElem?_drop]
   congr 1; simp; omega
theorem layA_nil (xs : List A) (o : Nat) : layA xs o [] = xs := by simp [layA]
theorem ins_get {l : List A} {i : Nat} {a : A} (h : i ≤ l.length) (j : Nat) : (ins l i a)[j]? = if j < i then l[j]? else if j = i then some a else l[j - 1]? := by
 unfold ins
 have ht : (l.take i).length = i := by simp; omega
 by_cases h1 : j < i
 ·rw [if_pos h1, List.getElem?_append_left (by omega), List.getElem?_take, if_pos h1]
 ·rw [if_neg h1, List.getElem?_append_right (by omega), ht]
  by_cases h2 : j = i
  ·subst h2; rw [if_pos rfl, Nat.sub_self]; rfl
  ·rw [if_neg h2, show j - i = (j - i - 1) + 1 by omega, List.getElem?_cons_succ, List.getElem?_drop]
   congr 1; omega
theorem put_pad {a : A} {n i : Nat} {l : List A} {p : A} (h : l.length < n) (hi : i ≤ l.length) : (layA (pad a n l) (i + 1) (l.drop i)).set i p = pad a n (ins l i p) := by
 have hp := pad_len (a := a) (Nat.le_of_lt h)
 have hl : i + 1 + (l.drop i).length ≤ (pad a n l).length := by simp [hp]; omega
 have hil := ins_len l i p
 apply List.ext_getElem?
 intro j
 rw [List.getElem?_set, layA_get hl, layA_len hl, pad_get (by omega), pad_get (by omega), hp, hil, ins_get hi, List.length_drop, List.getElem?_drop]
 by_cases q : i = j
 ·subst q
  rw [if_pos rfl, if_pos (by omega), if_pos (by omega), if_neg (by omega), if_pos rfl]
 ·rw [if_neg q]
  by_cases q2 : j < i
  ·rw [if_neg (by omega), if_pos (by omega), if_pos (by omega), if_pos q2]
  ·by_cases q3 : j < l.length + 1
   ·rw [if_pos (by omega), if_pos q3, if_neg q2, if_neg (Ne.symm q)]
    congr 1; omega
   ·rw [if_neg (by omega), if_neg (by omega), if_neg q3]
theorem drop_pad {a : A} {n i : Nat} {l : List A} (h : l.length ≤ n) (hi : i < l.length) : (layA (pad a n l) i (l.drop (i + 1))).set (l.length - 1) a = pad a n (l.eraseIdx i) := by
 have hp := pad_len (a := a) h
 have hl : i + (l.drop (i + 1)).length ≤ (pad a n l).length := by simp [hp]; omega
 have hel : (l.eraseIdx i).length = l.length - 1 := List.length_eraseIdx_of_lt hi
 apply List.ext_getElem?
 intro j
 rw [List.getElem?_set, layA_get hl, layA_len hl, pad_get (by omega), pad_get (by omega), hp, hel, List.getElem?_eraseIdx, List.length_drop, List.getElem?_drop]
 by_cases q : l.length - 1 = j
 ·subst q
  rw [if_pos rfl, if_pos (by omega), if_neg (by omega)]
 ·rw [if_neg q]
  by_cases q2 : j < i
  ·rw [if_neg (by omega), if_pos (by omega), if_pos (by omega), if_pos q2]
  ·by_cases q3 : j < l.length - 1
   ·rw [if_pos (by omega), if_pos q3, if_neg q2]
    congr 1; omega
   ·rw [if_neg (by omega), if_neg (by omega), if_neg q3]
theorem pad_take {a : A} {n i : Nat} {l : List A} (h : l.length ≤ n) (hi : i < l.length) {x : A} (hx : l[i]? = some x) : (pad a n (l.take i)).set i x = pad a n (l.take (i + 1)) := by
 apply List.ext_getElem?
 intro j
 rw [List.getElem?_set, pad_get (by simp; omega), pad_get (by simp; omega), pad_len (by simp; omega), List.length_take, List.length_take, List.getElem?_take, List.getElem?_take]
 by_cases q : i = j
 ·subst q; rw [if_pos rfl, if_pos (by omega), if_pos (by omega), if_pos (by omega), hx]
 ·rw [if_neg q]
  by_cases q2 : j < i
  ·rw [if_pos (by omega), if_pos q2, if_pos (by omega), if_pos (by omega)]
  ·simp only [show ¬ j < min i l.length by omega, show ¬ j < min (i + 1) l.length by omega, if_false]
theorem lay_one {xs : List A} {i : Nat} {x : A} (h : i < xs.length) : layA xs i [x] = xs.set i x := by
 apply List.ext_getElem?
 intro j
 rw [layA_get (by simp; omega), List.getElem?_set]
 simp only [List.length_cons, List.length_nil]
 by_cases q : i = j
 ·subst q; rw [if_pos (by omega), if_pos rfl, if_pos h, Nat.sub_self]; rfl
 ·rw [if_neg (by omega), if_neg q]
end
/-! ### Cells -/
def prV (p : Pr) : List Value := [.string p.1, .string p.2]
def kV (k : Nat) : Value := .int .i64 (k : Nat)
/-- No pair. -/
@[reducible] def p0 : Pr := (⟨#[]⟩, ⟨#[]⟩)
/-- The pairs' and the kids' cells. -/
def pkV (P : List Pr) (K : List Nat) : List Value := rowOf prV P ++ K.map kV
theorem prV_len (p : Pr) : (prV p).length = 2 := rfl
theorem prV_one (p : Pr) : (prV p).all (·.oneCell') = true := rfl
theorem row_len (P : List Pr) : (rowOf prV P).length = P.length * 2 := rowOf_len prV_len P
theorem pkV_len (P : List Pr) (K : List Nat) : (pkV P K).length = P.length * 2 + K.length := by simp [pkV, row_len]
theorem rowV_one (P : List Pr) : ∀ v ∈ rowOf prV P, v.oneCell' = true := fun v hv => List.all_eq_true.1 (rowOf_one prV_one P) v hv
theorem kidV_one (K : List Nat) : ∀ v ∈ K.map kV, v.oneCell' = true := fun v hv => by
 obtain ⟨k, _, rfl⟩ := List.mem_map.1 hv
 rfl
theorem row_sub (P : List Pr) (i k : Nat) (h : i + k ≤ P.length) : ((rowOf prV P).drop (i * 2)).take (k * 2) = rowOf prV ((P.drop i).take k) := by
 rw [rowOf_drop prV_len P i (by omega), rowOf_take prV_len _ k (by simp; omega)]
section
variable (a b c d : Value)
theorem four_drop (l : List Value) (n : Nat) : (a :: b :: c :: d :: l).drop (4 + n) = l.drop n := by
 rw [show 4 + n = n + 1 + 1 + 1 + 1 by omega]
 simp only [List.drop_succ_cons]
theorem four_lay (l ys : List Value) (n : Nat) : lay (a :: b :: c :: d :: l) (4 + n) ys = a :: b :: c :: d :: lay l n ys := by
 unfold lay
 rw [show 4 + n = n + 1 + 1 + 1 + 1 by omega, show n + 1 + 1 + 1 + 1 + ys.length = (n + ys.length) + 1 + 1 + 1 + 1 by omega]
 simp only [List.take_succ_cons, List.drop_succ_cons, List.cons_append]
theorem pkV_pair {P : List Pr} {K : List Nat} {i : Nat} {p : Pr} (h : P[i]? = some p) : ((a :: b :: c :: d :: pkV P K).drop (4 + i * 2)).take 2 = prV p := by
 obtain ⟨hi, rfl⟩ := List.getElem?_eq_some_iff.1 h
 rw [four_drop]
 unfold pkV
 have h1 := row_sub P i 1 (by omega)
 have h2 : (P.drop i).take 1 = [P[i]] := by
  rw [← List.getElem_cons_drop hi]; rfl
 rw [h2] at h1
 have hr := row_len P
 rw [List.drop_append_of_le_length (by omega), List.take_append_of_le_length (by rw [List.length_drop]; omega)]
 refine h1.trans ?_
 simp [rowOf]
theorem pkV_pairs {P : List Pr} {K : List Nat} {i k : Nat} (h : i + k ≤ P.length) : ((a :: b :: c :: d :: pkV P K).drop (4 + i * 2)).take (k * 2) = rowOf prV ((P.drop i).take k) := by
 rw [four_drop]
 unfold pkV
 have hr := row_len P
 rw [List.drop_append_of_le_length (by omega), List.take_append_of_le_length (by rw [List.length_drop]; omega)]
 exact row_sub P i k h
theorem pkV_kid {P : List Pr} {K : List Nat} {i k : Nat} (hP : P.length = 7) (h : K[i]? = some k) : (a :: b :: c :: d :: pkV P K)[18 + i]? = some (kV k) := by
 have hr := row_len P
 rw [show 18 + i = (14 + i) + 1 + 1 + 1 + 1 by omega]
 simp only [List.getElem?_cons_succ]
 unfold pkV
 rw [List.getElem?_append_right (by omega), hr, hP, show 14 + i - 7 * 2 = i by omega, List.getElem?_map, h]
 rfl
theorem pkV_kids {P : List Pr} {K : List Nat} {i k : Nat} (hP : P.length = 7) : ((a :: b :: c :: d :: pkV P K).drop (18 + i)).take k = ((K.drop i).take k).map kV := by
 have hr := row_len P
 rw [show 18 + i = 4 + (14 + i) by omega, four_drop]
 unfold pkV
 rw [List.drop_append, hr, hP, List.drop_eq_nil_of_le (by omega), List.nil_append, show 14 + i - 7 * 2 = i by omega, ← List.map_drop, ← List.map_take]
theorem lay_pairs {P ys : List Pr} {K : List Nat} {i : Nat} (h : i + ys.length ≤ P.length) : lay (a :: b :: c :: d :: pkV P K) (4 + i * 2) (rowOf prV ys) = a :: b :: c :: d :: pkV (layA P i ys) K := by
 rw [four_lay]
 congr 4
 unfold pkV lay layA
 have hr := row_len P
 have hy := row_len ys
 rw [List.take_append_of_le_length (by omega), List.drop_append_of_le_length (by omega), rowOf_take prV_len P i (by omega), hy, ← Nat.add_mul, rowOf_drop prV_len P _ h, ← List.append_assoc, ← rowOf_app, ← rowOf_app]
theorem lay_pair {P : List Pr} {K : List Nat} {i : Nat} {p : Pr} (h : i < P.length) : lay (a :: b :: c :: d :: pkV P K) (4 + i * 2) (prV p) = a :: b :: c :: d :: pkV (P.set i p) K := by
 have := lay_pairs a b c d (P := P) (ys := [p]) (K := K) (i := i) (by simp; omega)
 rw [lay_one h] at this
 rw [← this]
 simp [rowOf]
theorem lay_kids {P : List Pr} {K ys : List Nat} {i : Nat} (hP : P.length = 7) (h : i + ys.length ≤ K.length) : lay (a :: b :: c :: d :: pkV P K) (18 + i) (ys.map kV) = a :: b :: c :: d :: pkV P (layA K i ys) := by
 have hr := row_len P
 rw [show 18 + i = 4 + (14 + i) by omega, four_lay]
 congr 4
 unfold pkV lay layA
 rw [List.take_append, hr, hP, List.take_of_length_le (by omega), show 14 + i - 7 * 2 = i by omega, List.drop_append, hr, hP, List.drop_eq_nil_of_le (by rw [List.length_map]; omega), List.nil_append, List.length_map, show 14 + i + ys.length - 7 * 2 = i + ys.length by omega]
 simp only [List.map_append, List.map_take, List.map_drop, List.append_assoc]
theorem set_kid {P : List Pr} {K : List Nat} {i k : Nat} (hP : P.length = 7) : (a :: b :: c :: d :: pkV P K).set (18 + i) (kV k) = a :: b :: c :: d :: pkV P (K.set i k) := by
 have hr := row_len P
 rw [show 18 + i = (14 + i) + 1 + 1 + 1 + 1 by omega]
 simp only [List.set_cons_succ]
 congr 4
 unfold pkV
 rw [List.set_append_right _ _ (by omega), hr, hP, show 14 + i - 7 * 2 = i by omega, List.map_set]
theorem nd_len {P : List Pr} {K : List Nat} (hP : P.length = 7) (hK : K.length = 8) : (a :: b :: c :: d :: pkV P K).length = 26 := by simp [pkV_len, hP, hK]
end
end Go.Proofs.Ytjekhcojebgpnaa.Bt
end
