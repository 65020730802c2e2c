import Derived.Test.YthkajgkagnenbaaGreatDoorEngStr
import Derived.Test.YthkajgkagnenbaaGreatDoorCtrl
import Derived.Test.YthkajgkagnenbaaGreatDoorArenaW
import Derived.Test.YthkajgkagnenbaaGreatDoorArenaF
section
/- The logic's rules for rows whose elements are of several cells. No program. -/
set_option linter.unusedVariables false
set_option linter.unusedSimpArgs false
namespace Go.Proofs.YthkajgkagnenbaaGreatDoor.Eng
open Go.RowKit

/-- Where a slice's tail begins, its elements of n cells. -/
def tailN (n o l cap : Nat) : Nat := if cap = l then o else o + l * n
section
variable {c : Cx} {fin : Exit → Act → World → Prop} {ds : List Deferred} {E : Env} {L : List HP} {ks : List KI} {ops : Array Oper} {rest : List Oper}
variable {d : Option Tmp} {ty : TypeId} {pos : String} {af : Array Edge} {gd : Option (Nat × Bool)}

theorem run_sliceN {P : Program} {w : World} {t e : TypeId} {b o n len cap l h : Nat} {lo hi : Option Value} (hu : P.underlying t = some (.slice e)) (hn : ∀ w, (sizeOf e).run P w = .ok n w)
  (hlo : (lo = none ∧ l = 0) ∨ ∃ k, lo = some (.int k (l : Int))) (hhi : (hi = none ∧ h = len) ∨ ∃ k, hi = some (.int k (h : Int))) (hb : l ≤ h) (hc : h ≤ cap) :
  (Instr.slice t (.slice (some ⟨b, o, none⟩) len cap) lo hi none).run P w = .ok (.slice (some ⟨b, tailN n o l cap, none⟩) (h - l) (cap - l)) w := by
 have hres : (if cap = l then (some ⟨b, o, none⟩ : Option Addr) else (some (⟨b, o, none⟩ : Addr)).map (·.add (l * n))) = some ⟨b, tailN n o l cap, none⟩ := by
  unfold tailN
  split
  ·rfl
  ·simp [add_none]
 have h1 : (0 : Int) ≤ (l : Int) ∧ (l : Int) ≤ (h : Int) := by omega
 have h2 : (0 : Int) ≤ (h : Int) ∧ (h : Int) ≤ (cap : Int) := by omega
 unfold Instr.slice
 simp only [Sem.run_bind, run_underlying hu, Result.andThen]
 rcases hlo with ⟨rfl, rfl⟩ | ⟨k, rfl⟩ <;> rcases hhi with ⟨rfl, rfl⟩ | ⟨k', rfl⟩
 ·simp only [Instr.sliceBounds, Sem.run_bind, Sem.run_pure, Result.andThen, hn, hres]
 ·simp only [Instr.sliceBounds, Instr.sliceBound, asIntOf, Sem.run_bind, Sem.run_pure, Result.andThen, if_pos h2, hn, Int.toNat_natCast, hres]
 ·simp only [Instr.sliceBounds, Instr.sliceBound, asIntOf, Sem.run_bind, Sem.run_pure, Result.andThen, if_pos h1, hn, Int.toNat_natCast, hres]
 ·simp only [Instr.sliceBounds, Instr.sliceBound, asIntOf, Sem.run_bind, Sem.run_pure, Result.andThen, if_pos h2, if_pos h1, hn, Int.toNat_natCast, hres]
theorem o_appendR {x y : Operand} {t e : TypeId} {z v : Value} {sz bytes n m cp : Nat} {a0 : Addr} {xs : List Value} (us : List Value) {M : List HP}
  (hd : okDst d c.N = true) (hx : ev E x = some v) (hy : ev E y = some (.slice (some a0) m cp)) (ht : c.P.underlying t = some (.slice e)) (hinf : ∃ i, c.P.info? e = some i ∧ i.zero = some z ∧ i.size = sz ∧ i.bytes = bytes) (hzs : z.cells.size = sz) (hsz : Nat.blt 0 sz = true) (hown : Take (ownS e sz v n xs) L M)
  (hr : Reads M a0 us) (hl : us.length = m * sz) (h1 : us.all (·.oneCell') = true)
  (h63 : n + m ≤ maxLen) (hbytes : (n + m) * bytes ≤ 140737488355328)
  (k : ∀ v', TL c fin ds (upd d v' E) (ownS e sz v' (n + m) (xs ++ us) :: M) ops rest ks) :
  TL c fin ds E L ops (⟨d, .call { callee := .builtin .append, args := #[x, y], argTypes := #[t, t] }, ty, pos, af, none⟩ :: rest) ks :=
 l_op hd (by intro k; simp) (fun v' => v') (fun v' => ownS e sz v' (n + m) (xs ++ us) :: M) (fun a w hs => by
  obtain ⟨i, hi, hz, hsize, hby⟩ := hinf
  obtain ⟨v', w', hr, hsat, hext⟩ := append_own (ty := ty) (c := cp) ht hi hz hsize hby hzs (Nat.le_of_ble_eq_true hsz) (hs.sat.take hown) (hr w (hs.sat.take hown).tail) hl h1 h63 hbytes
  refine ⟨v', w', ?_, hsat, hext⟩
  simp [execOp, resolve, invoke, builtin, hs.ev hx, hs.ev hy, hr, Result.andThen]) k
/-- A new slice without elements, with room for some. -/
theorem o_makeSlice0 {t e : TypeId} {x y : Operand} {z : Value} {sz bytes : Nat} {kl kc : IntKind} {m : Int} (xs : List Value) (hxs : xs = []) (hd : okDst d c.N = true) (hx : ev E x = some (.int kl 0)) (hy : ev E y = some (.int kc m))
  (ht : c.P.underlying t = some (.slice e)) (hinf : ∃ i, c.P.info? e = some i ∧ i.zero = some z ∧ i.size = sz ∧ i.bytes = bytes) (h0 : 0 ≤ m) (hb : (bytes : Int) * m ≤ 281474976710656 ∧ m ≤ 9223372036854775807)
  (k : ∀ b, TL c fin ds (upd d (.slice (some ⟨b, 0, none⟩) 0 m.toNat) E) (ownS e sz (.slice (some ⟨b, 0, none⟩) 0 m.toNat) 0 xs :: L) ops rest ks) : TL c fin ds E L ops (⟨d, .makeSlice t x y, ty, pos, af, none⟩ :: rest) ks := by
 subst hxs
 exact l_op hd (by intro k; simp) (fun b => .slice (some ⟨b, 0, none⟩) 0 m.toNat) (fun b => ownS e sz (.slice (some ⟨b, 0, none⟩) 0 m.toNat) 0 [] :: L) (fun a w hs => by
  obtain ⟨i, hi, hiz, hsize, hby⟩ := hinf
  have hr := run_make w t e i z ht hi hiz kl kc 0 m (Int.le_refl _) h0 (by rw [hby]; exact hb.1) hb.2
  refine ⟨w.heap.size, w.alloc (.cells (madeCells z.cells (m.toNat * i.size)) e), ?_, ?_, (Ext.refl w).alloc _⟩
  ·simp only [execOp, Sem.run_bind, hs.ev hx, hs.ev hy, hr, Result.andThen, Sem.run_pure]; rfl
  ·exact own_of_pt (hs.sat.alloc _) (by simp) (by omega) (by simp only [maxLen]; omega) (by simp [size_madeCells, hsize]) (by simp)) k
end
/-- A cell of a row. -/
theorem own_cell {e : TypeId} {sz g n cap o : Nat} {xs : List Value} {v : Value} (hv : xs[o]? = some v) : CellAt (ownS e sz (.slice (some ⟨g, 0, none⟩) n cap) n xs) ⟨g, o, none⟩ v := fun w hs => by
 have hs' : Sat (stars (ownS e sz (.slice (some ⟨g, 0, none⟩) n cap) n xs :: [])) w := by
  obtain ⟨f, hi, ha⟩ := hs
  exact ⟨f, hi, f, Part.none, ha, rfl, Part.disj_none _, (Part.join_none _).symm⟩
 obtain ⟨cur, _, c2, _, _, _, hsat⟩ := own_open hs'
 have hg := hsat.block (b := g) .here
 have := own_at c2 hv
 simp [World.cell?, hg, this]
/-- A list's row: each element's cells, one after the other. -/
def rowOf {A : Type} (f : A → List Value) (xs : List A) : List Value := xs.flatMap f
theorem rowOf_len {A : Type} {f : A → List Value} {sz : Nat} (hf : ∀ a, (f a).length = sz) (xs : List A) : (rowOf f xs).length = xs.length * sz := by
 induction xs with
 | nil => simp [rowOf]
 | cons a xs ih =>
  have : rowOf f (a :: xs) = f a ++ rowOf f xs := by simp [rowOf]
  rw [this, List.length_append, ih, hf, List.length_cons, Nat.add_mul]; omega
theorem rowOf_get {A : Type} {f : A → List Value} {sz : Nat} (hf : ∀ a, (f a).length = sz) : ∀ (xs : List A) (i j : Nat) (a : A), xs[i]? = some a → j < sz → (rowOf f xs)[i * sz + j]? = (f a)[j]?
 | [], i, j, a, h, _ => by simp at h
 | b :: xs, 0, j, a, h, hj => by
  simp at h; subst h
  have : rowOf f (b :: xs) = f b ++ rowOf f xs := by simp [rowOf]
  rw [this, Nat.zero_mul, Nat.zero_add, List.getElem?_append_left (by rw [hf]; exact hj)]
 | b :: xs, i + 1, j, a, h, hj => by
  have : rowOf f (b :: xs) = f b ++ rowOf f xs := by simp [rowOf]
  rw [this, List.getElem?_append_right (by rw [hf, Nat.add_mul]; omega), hf, show (i + 1) * sz + j - sz = i * sz + j by rw [Nat.add_mul]; omega]
  exact rowOf_get hf xs i j a (by simpa using h) hj
theorem rowOf_app {A : Type} (f : A → List Value) (xs ys : List A) : rowOf f (xs ++ ys) = rowOf f xs ++ rowOf f ys := by simp [rowOf]
theorem rowOf_drop {A : Type} {f : A → List Value} {sz : Nat} (hf : ∀ a, (f a).length = sz) : ∀ (xs : List A) (i : Nat), i ≤ xs.length → (rowOf f xs).drop (i * sz) = rowOf f (xs.drop i)
 | xs, 0, _ => by simp
 | [], i + 1, h => by simp at h
 | b :: xs, i + 1, h => by
  have : rowOf f (b :: xs) = f b ++ rowOf f xs := by simp [rowOf]
  rw [this, List.drop_append, List.drop_eq_nil_of_le (by rw [hf, Nat.add_mul]; omega), hf, List.nil_append, show (i + 1) * sz - sz = i * sz by rw [Nat.add_mul]; omega]
  simpa using rowOf_drop hf xs i (by simpa using h)
theorem rowOf_take {A : Type} {f : A → List Value} {sz : Nat} (hf : ∀ a, (f a).length = sz) : ∀ (xs : List A) (i : Nat), i ≤ xs.length → (rowOf f xs).take (i * sz) = rowOf f (xs.take i)
 | xs, 0, _ => by simp [rowOf]
 | [], i + 1, h => by simp at h
 | b :: xs, i + 1, h => by
  have : rowOf f (b :: xs) = f b ++ rowOf f xs := by simp [rowOf]
  have h2 : rowOf f ((b :: xs).take (i + 1)) = f b ++ rowOf f (xs.take i) := by simp [rowOf]
  rw [this, h2, List.take_append, List.take_of_length_le (by rw [hf, Nat.add_mul]; omega), hf, show (i + 1) * sz - sz = i * sz by rw [Nat.add_mul]; omega, rowOf_take hf xs i (by simpa using h)]
theorem rowOf_set {A : Type} {f : A → List Value} {sz : Nat} (hf : ∀ a, (f a).length = sz) {a' : A} {v : Value} {j : Nat} (hj : j < sz) : ∀ (xs : List A) (i : Nat) (a : A), xs[i]? = some a → f a' = (f a).set j v → (rowOf f xs).set (i * sz + j) v = rowOf f (xs.set i a')
 | [], i, a, h, _ => by simp at h
 | b :: xs, 0, a, h, he => by
  simp at h; subst h
  have : rowOf f (b :: xs) = f b ++ rowOf f xs := by simp [rowOf]
  have h2 : rowOf f ((b :: xs).set 0 a') = f a' ++ rowOf f xs := by simp [rowOf]
  rw [this, h2, Nat.zero_mul, Nat.zero_add, List.set_append_left _ _ (by rw [hf]; exact hj), he]
 | b :: xs, i + 1, a, h, he => by
  have : rowOf f (b :: xs) = f b ++ rowOf f xs := by simp [rowOf]
  have h2 : rowOf f ((b :: xs).set (i + 1) a') = f b ++ rowOf f (xs.set i a') := by simp [rowOf]
  rw [this, h2, List.set_append_right _ _ (by rw [hf, Nat.add_mul]; omega), hf, show (i + 1) * sz + j - sz = i * sz + j by rw [Nat.add_mul]; omega, rowOf_set hf hj xs i a (by simpa using h) he]
end Go.Proofs.YthkajgkagnenbaaGreatDoor.Eng
end
section
/- The document's own arena as a list of blocks: how it keeps beside the program's. No program's code. -/
set_option linter.unusedVariables false
set_option linter.unusedSimpArgs false
set_option linter.unusedSectionVars false
set_option maxRecDepth 100000
namespace Go.Proofs.YthkajgkagnenbaaGreatDoor.RefA
open Go.RowKit Go.Proofs Go.Proofs.YthkajgkagnenbaaGreatDoor.Eng Go.Proofs.YthkajgkagnenbaaGreatDoor.Bits Go.Proofs.YthkajgkagnenbaaGreatDoor.Mem Go.Proofs.YthkajgkagnenbaaGreatDoor.Search Go.Proofs.YthkajgkagnenbaaGreatDoor.Arena

/-- A block of the document's arena: where, whether it is live, its bytes, the block of the heap that holds them. -/
structure RB where
 off : Int
 live : Bool
 c : Int
 b : Nat
def RB.cells (r : RB) : List Value := [.int .i64 r.off, .bool r.live, .slice (some ⟨r.b, 0, none⟩) r.c.toNat r.c.toNat]
theorem rb3 (r : RB) : r.cells.length = 3 := rfl
/-- The list is the arena's. -/
def RAok (s : ArS) (rs : List RB) : Prop := rs.map (fun r => (r.off, r.c)) = s.all ∧ ∀ r ∈ rs, r.live = !s.dead r.off
theorem RAok.congr {s s' : ArS} {rs : List RB} (h : RAok s rs) (h1 : s'.all = s.all) (h2 : s'.dead = s.dead) : RAok s' rs := ⟨h.1.trans h1.symm, fun r hr => by rw [h2]; exact h.2 r hr⟩
theorem RAok.len {s : ArS} {rs : List RB} (h : RAok s rs) : rs.length = s.all.length := by rw [← h.1, List.length_map]
theorem RAok.at {s : ArS} {rs : List RB} (h : RAok s rs) {i : Nat} {r : RB} (hr : rs[i]? = some r) : s.all[i]? = some (r.off, r.c) ∧ r.live = !s.dead r.off := ⟨by rw [← h.1, List.getElem?_map, hr]; rfl, h.2 r (List.mem_of_getElem? hr)⟩
/-- The live bytes of the first blocks. -/
def liveN (s : ArS) (i : Nat) : Int := ArS.sum ((s.all.take i).filter fun p => !s.dead p.1)
theorem liveN_all (s : ArS) : liveN s s.all.length = s.live := by unfold liveN; rw [List.take_length]; rfl
theorem sum_two (a b : List (Int × Int)) : ArS.sum (a ++ b) = ArS.sum a + ArS.sum b := by
 induction a with
 | nil => simp [ArS.sum]
 | cons p r ih => simp only [List.cons_append, ArS.sum, ih]; omega
theorem liveN_next {s : ArS} {i : Nat} {p : Int × Int} (h : s.all[i]? = some p) : liveN s (i + 1) = liveN s i + (if s.dead p.1 then 0 else p.2) := by
 unfold liveN
 rw [List.take_add_one, h, List.filter_append, sum_two]
 cases q : s.dead p.1 with
 | true => simp [q, ArS.sum]
 | false => simp [q, ArS.sum]
theorem liveN_bnd {s : ArS} (h : s.ok) (i : Nat) : 0 ≤ liveN s i ∧ liveN s i ≤ s.live := by
 have hp : ∀ p ∈ s.all, 0 ≤ p.2 := fun p hp => by have := (ArS.chain_pos h.chain p hp).2; omega
 have h1 := (ArS.sum_filter (f := fun p => !s.dead p.1) (l := s.all.take i) fun p hm => hp p (List.mem_of_mem_take hm)).1
 have h2 := (ArS.sum_filter (f := fun p => !s.dead p.1) (l := s.all.drop i) fun p hm => hp p (List.mem_of_mem_drop hm)).1
 have e : s.live = ArS.sum ((s.all.take i).filter fun p => !s.dead p.1) + ArS.sum ((s.all.drop i).filter fun p => !s.dead p.1) := by
  rw [← sum_two, ← List.filter_append, List.take_append_drop]; rfl
 unfold liveN
 omega
/-- The first free one of a class. -/
theorem fr_first {s : ArS} {c : Int} {i : Nat} {p : Int × Int} (hi : s.all[i]? = some p) (hd : s.dead p.1 = true) (hc : p.2 = c) (hno : ∀ (j : Nat) (q : Int × Int), j < i → s.all[j]? = some q → ¬ (s.dead q.1 = true ∧ q.2 = c)) : ∃ r, s.frL c = p.1 :: r := by
 have hil : i < s.all.length := by rcases Nat.lt_or_ge i s.all.length with q | q; exact q; rw [List.getElem?_eq_none q] at hi; cases hi
 have e : s.all = s.all.take i ++ (p :: s.all.drop (i + 1)) := by
  rw [List.getElem?_eq_getElem hil] at hi
  cases hi
  rw [← List.drop_eq_getElem_cons hil, List.take_append_drop]
 have h0 : (s.all.take i).filter (fun p => s.dead p.1 && decide (p.2 = c)) = [] := by
  rw [List.filter_eq_nil_iff]
  intro q hq
  obtain ⟨j, hj, rfl⟩ := List.getElem_of_mem hq
  rw [List.length_take] at hj
  have := hno j s.all[j] (by omega) (List.getElem?_eq_getElem (by omega))
  rw [List.getElem_take]
  simpa using this
 refine ⟨((s.all.drop (i + 1)).filter fun p => s.dead p.1 && decide (p.2 = c)).map (·.1), ?_⟩
 show (s.all.filter fun p => s.dead p.1 && decide (p.2 = c)).map (·.1) = _
 conv => lhs; rw [e]
 rw [List.filter_append, h0, List.nil_append, List.filter_cons, if_pos (by simp [hd, hc])]
 rfl
theorem fr_none {s : ArS} {c : Int} (hno : ∀ (j : Nat) (q : Int × Int), s.all[j]? = some q → ¬ (s.dead q.1 = true ∧ q.2 = c)) : s.frL c = [] := by
 unfold ArS.frL
 rw [List.map_eq_nil_iff, List.filter_eq_nil_iff]
 intro q hq
 obtain ⟨j, hj, rfl⟩ := List.getElem_of_mem hq
 have := hno j s.all[j] (List.getElem?_eq_getElem hj)
 simpa using this
/-- A free block taken. -/
theorem RAok.revive {s : ArS} {rs : List RB} (h : RAok s rs) (hs : s.ok) {i : Nat} {r : RB} (hr : rs[i]? = some r) {l : List Int} (hfr : s.frL r.c = r.off :: l) (b : Nat) : RAok (s.take r.c) (rs.set i ⟨r.off, true, r.c, b⟩) := by
 obtain ⟨e, _, h1, h2, _⟩ := take_cons hs hfr
 have hil : i < rs.length := by rcases Nat.lt_or_ge i rs.length with q | q; exact q; rw [List.getElem?_eq_none q] at hr; cases hr
 refine ⟨?_, fun x hx => ?_⟩
 ·rw [e, List.map_set]
  dsimp only
  rw [← h.1]
  refine List.ext_getElem? fun j => ?_
  rw [List.getElem?_set]
  split
  ·next q => subst q; rw [List.getElem?_map, hr]; simp [hil]
  ·rfl
 ·rw [e]
  dsimp only
  obtain ⟨j, hj, rfl⟩ := List.getElem_of_mem hx
  rw [List.getElem_set]
  rw [List.length_set] at hj
  split
  ·simp
  ·next q =>
   have hd := h.2 rs[j] (List.getElem_mem hj)
   rw [hd]
   have hne : rs[j].off ≠ r.off := fun q2 => by
    have a1 := (h.at (List.getElem?_eq_getElem hj)).1
    have a2 := (h.at hr).1
    have hjl : j < s.all.length := by rw [← h.len]; exact hj
    have hil2 : i < s.all.length := by rw [← h.len]; exact hil
    rw [List.getElem?_eq_getElem hjl] at a1
    rw [List.getElem?_eq_getElem hil2] at a2
    have e1 := Option.some.inj a1
    have e2 := Option.some.inj a2
    rcases Nat.lt_trichotomy i j with q3 | q3 | q3
    ·have := chain_gap hs.chain i j hil2 hjl q3
     have := (ArS.chain_pos hs.chain _ (List.getElem_mem hil2)).2
     rw [e1, e2] at *
     dsimp only at *
     omega
    ·exact q q3
    ·have := chain_gap hs.chain j i hjl hil2 q3
     have := (ArS.chain_pos hs.chain _ (List.getElem_mem hjl)).2
     rw [e1, e2] at *
     dsimp only at *
     omega
   simp [hne]
/-- A new block. -/
theorem RAok.new {s : ArS} {rs : List RB} (h : RAok s rs) (hs : s.ok) {c : Int} (hfr : s.frL c = []) (b : Nat) : RAok (s.take c) (rs ++ [⟨(s.stop : Nat), true, c, b⟩]) := by
 obtain ⟨e, _⟩ := take_nil hs hfr
 rw [e]
 refine ⟨by rw [List.map_append, h.1]; rfl, fun r hr => ?_⟩
 dsimp only
 rcases List.mem_append.1 hr with q | q
 ·exact h.2 r q
 ·rw [List.mem_singleton.1 q]
  dsimp only
  rw [dead_stop hs]; rfl
/-- A live block given back. -/
theorem RAok.give {s : ArS} {rs : List RB} (h : RAok s rs) (hs : s.ok) {i : Nat} {r : RB} (hr : rs[i]? = some r) : RAok (s.give r.off) (rs.set i { r with live := false }) := by
 have hil : i < rs.length := by rcases Nat.lt_or_ge i rs.length with q | q; exact q; rw [List.getElem?_eq_none q] at hr; cases hr
 refine ⟨?_, fun x hx => ?_⟩
 ·show _ = s.all
  rw [List.map_set, ← h.1]
  refine List.ext_getElem? fun j => ?_
  rw [List.getElem?_set]
  split
  ·next q => subst q; rw [List.getElem?_map, hr]; simp [hil]
  ·rfl
 ·show x.live = !(s.dead x.off || decide (x.off = r.off))
  obtain ⟨j, hj, rfl⟩ := List.getElem_of_mem hx
  rw [List.getElem_set]
  rw [List.length_set] at hj
  split
  ·simp
  ·next q =>
   have hd := h.2 rs[j] (List.getElem_mem hj)
   rw [hd]
   have hne : rs[j].off ≠ r.off := fun q2 => by
    have a1 := (h.at (List.getElem?_eq_getElem hj)).1
    have a2 := (h.at hr).1
    have hjl : j < s.all.length := by rw [← h.len]; exact hj
    have hil2 : i < s.all.length := by rw [← h.len]; exact hil
    rw [List.getElem?_eq_getElem hjl] at a1
    rw [List.getElem?_eq_getElem hil2] at a2
    have e1 := Option.some.inj a1
    have e2 := Option.some.inj a2
    rcases Nat.lt_trichotomy i j with q3 | q3 | q3
    ·have := chain_gap hs.chain i j hil2 hjl q3
     have := (ArS.chain_pos hs.chain _ (List.getElem_mem hil2)).2
     rw [e1, e2] at *
     dsimp only at *
     omega
    ·exact q q3
    ·have := chain_gap hs.chain j i hjl hil2 q3
     have := (ArS.chain_pos hs.chain _ (List.getElem_mem hjl)).2
     rw [e1, e2] at *
     dsimp only at *
     omega
   simp [hne]
/-- What a take leaves of the end. -/
theorem stop_new {s : ArS} (hs : s.ok) {c : Int} (hc : 0 ≤ c) (h : s.frL c = []) : (((s.take c).stop : Nat) : Int) = (s.stop : Nat) + c := by
 obtain ⟨e, _⟩ := take_nil hs h
 have := hs.stop_eq
 rw [e]
 unfold ArS.stop at *
 dsimp only
 rw [ArS.sum_app]
 have h0 := (ArS.sum_nonneg hs.chain).1
 omega
theorem stop_old {s : ArS} (hs : s.ok) {c o : Int} {r : List Int} (h : s.frL c = o :: r) : (s.take c).stop = s.stop := by
 obtain ⟨e, _⟩ := take_cons hs h
 rw [e]; rfl
end Go.Proofs.YthkajgkagnenbaaGreatDoor.RefA
end
section
/- The logic's rules for writing an element of several cells into a row, and for a new row of such elements. No program. -/
set_option linter.unusedVariables false
set_option linter.unusedSimpArgs false
namespace Go.Proofs.YthkajgkagnenbaaGreatDoor.Eng
open Go.RowKit

theorem own_writeN {P : Program} {e : TypeId} {sz g n cap o : Nat} {xs ys : List Value} {M : List HP} {w : World} (hs : Sat (stars (ownS e sz (.slice (some ⟨g, 0, none⟩) n cap) n xs :: M)) w) (hl : o + ys.length ≤ n * sz) (h1 : ∀ v ∈ ys, v.oneCell' = true) :
  ∃ w', (storeCells ⟨g, o, none⟩ ys).run P w = .ok () w' ∧ Sat (stars (ownS e sz (.slice (some ⟨g, 0, none⟩) n cap) n (lay xs o ys) :: M)) w' ∧ Ext w w' := by
 obtain ⟨cur, c1, c2, c3, c4, c5, hsat⟩ := own_open hs
 have hg := hsat.block (b := g) .here
 have hle : n * sz ≤ cap * sz := Nat.mul_le_mul_right _ c3
 have hr := run_storeCells_at P g o e ys 0 cur w hg (by omega) h1
 rw [Nat.add_zero] at hr
 refine ⟨_, hr, ?_, ⟨rfl, rfl, rfl, by simp [World.setRow]⟩⟩
 have hcl : cur.toList.length = cap * sz := by rw [Array.length_toList, c1]
 refine own_of_pt (Sat.turn (o' := .cells _ e (0, 0)) hsat (setRow_heap w g cur _ e _ hg) (fun k hk _ => setRow_other w g k _ hk)) (by rw [lay_len (by omega)]; exact c5) c3 c4 ?_ ?_
 ·simp only [List.size_toArray, List.length_append, List.length_take, List.length_drop, hcl]; omega
 ·have e1 : (cur.toList.take o ++ ys ++ cur.toList.drop (o + ys.length)).toArray.toList = lay cur.toList o ys := by simp [lay]
  rw [e1]
  apply List.ext_getElem?
  intro i
  rw [List.getElem?_take]
  have hgx : ∀ i, i < n * sz → xs[i]? = cur.toList[i]? := fun i hi => by rw [← c2, List.getElem?_take, if_pos hi]
  by_cases hi : i < n * sz
  ·rw [if_pos hi, lay_get (by omega), lay_get (by omega)]
   split
   ·rfl
   ·exact (hgx i hi).symm
  ·rw [if_neg hi]
   rw [List.getElem?_eq_none (by rw [lay_len (by omega)]; omega)]
section
variable {c : Cx} {fin : Exit → Act → World → Prop} {ds : List Deferred} {E : Env} {L : List HP} {ks : List KI} {ops : Array Oper} {rest : List Oper}
variable {d : Option Tmp} {ty : TypeId} {pos : String} {af : Array Edge}
theorem o_storeOwnA {t : TypeId} {x y : Operand} {g o n cap sz k : Nat} {us : List Value} {e : TypeId} {xs xs' : List Value} {M : List HP} (hd : okDst d c.N = true) (hx : ev E x = some (.pointer (some ⟨g, o, none⟩))) (hy : ev E y = some (.agg us.toArray))
  (hn : ∀ w, (sizeOf t).run c.P w = .ok k w) (hus : us.length = k) (hv : us.all (·.oneCell') = true) (ht : Take (ownS e sz (.slice (some ⟨g, 0, none⟩) n cap) n xs) L M) (ho : o + k ≤ n * sz) (hxs : lay xs o us = xs')
  (kk : TL c fin ds (upd d undef E) (ownS e sz (.slice (some ⟨g, 0, none⟩) n cap) n xs' :: M) ops rest ks) : TL c fin ds E L ops (⟨d, .store t x y, ty, pos, af, none⟩ :: rest) ks :=
 l_do (X := Unit) hd (by intro k; simp) (fun _ => ownS e sz (.slice (some ⟨g, 0, none⟩) n cap) n xs' :: M) (fun a w hs => by
  obtain ⟨w', h2, h3, h4⟩ := own_writeN (P := c.P) (o := o) (ys := us) (hs.sat.take ht) (by omega) (fun v hm => List.all_eq_true.1 hv v hm)
  refine ⟨(), w', ?_, by rw [← hxs]; exact h3, h4⟩
  have hus2 : us.toArray.size = k := by simpa using hus
  simp only [execOp, Instr.storeAt, Instr.sureAddr, hs.ev hx, hs.ev hy, Sem.run_bind, Sem.run_pure, Result.andThen, storeVar, hn, Value.cells, hus2]
  simp only [ne_eq, not_true_eq_false, if_false, Sem.run_pure, Result.andThen]
  rw [h2]) fun _ => kk
/-- A new row of elements of several cells. -/
theorem o_makeSliceN {t e : TypeId} {x y : Operand} {z : Value} {sz bytes : Nat} {kl kc : IntKind} {m : Int} (xs : List Value) (hd : okDst d c.N = true) (hx : ev E x = some (.int kl m)) (hy : ev E y = some (.int kc m))
  (ht : c.P.underlying t = some (.slice e)) (hinf : ∃ i, c.P.info? e = some i ∧ i.zero = some z ∧ i.size = sz ∧ i.bytes = bytes) (h0 : 0 ≤ m) (hb : (bytes : Int) * m ≤ 281474976710656 ∧ m ≤ 9223372036854775807) (hxs : (madeCells z.cells (m.toNat * sz)).toList = xs)
  (k : ∀ b, TL c fin ds (upd d (.slice (some ⟨b, 0, none⟩) m.toNat m.toNat) E) (ownS e sz (.slice (some ⟨b, 0, none⟩) m.toNat m.toNat) m.toNat xs :: L) ops rest ks) : TL c fin ds E L ops (⟨d, .makeSlice t x y, ty, pos, af, none⟩ :: rest) ks :=
 l_op hd (by intro k; simp) (fun b => .slice (some ⟨b, 0, none⟩) m.toNat m.toNat) (fun b => ownS e sz (.slice (some ⟨b, 0, none⟩) m.toNat m.toNat) m.toNat xs :: L) (fun a w hs => by
  obtain ⟨i, hi, hiz, hsize, hby⟩ := hinf
  have hr := run_make w t e i z ht hi hiz kl kc m m h0 (Int.le_refl _) (by rw [hby]; exact hb.1) hb.2
  refine ⟨w.heap.size, w.alloc (.cells (madeCells z.cells (m.toNat * i.size)) e), ?_, ?_, (Ext.refl w).alloc _⟩
  ·simp only [execOp, Sem.run_bind, hs.ev hx, hs.ev hy, hr, Result.andThen, Sem.run_pure]
  ·subst hxs
   refine own_of_pt (hs.sat.alloc _) (by simp [size_madeCells]) (Nat.le_refl _) (by simp only [maxLen]; omega) (by simp [size_madeCells, hsize]) ?_
   rw [hsize, List.take_of_length_le (by simp [size_madeCells])]) k
end
theorem made_get {z : Array Value} {n i : Nat} (h : i < n) (hz : 0 < z.size) : (madeCells z n).toList[i]? = z[i % z.size]? := by
 have h2 : i < (madeCells z n).size := by rw [size_madeCells]; exact h
 rw [Array.getElem?_toList, Array.getElem?_eq_getElem h2, Array.getElem?_eq_getElem (Nat.mod_lt _ hz)]
 simp only [madeCells, Option.some.injEq, Array.getElem_map, Array.getElem_range]
 exact getElem!_pos z (i % z.size) (show i % z.size < z.size from Nat.mod_lt _ hz)
/-- A row of one element over and over. -/
theorem made_rows {A : Type} {f : A → List Value} {sz n : Nat} (a : A) (z : Array Value) (hz : z.toList = f a) (hf : ∀ a, (f a).length = sz) (h0 : 0 < sz) : (madeCells z (n * sz)).toList = rowOf f (List.replicate n a) := by
 have hzs : z.size = sz := by rw [← Array.length_toList, hz, hf]
 apply List.ext_getElem?
 intro i
 by_cases h : i < n * sz
 ·rw [made_get h (by omega), hzs]
  have h1 : i / sz < n := Nat.div_lt_of_lt_mul (by rw [Nat.mul_comm]; exact h)
  have h2 := rowOf_get hf (List.replicate n a) (i / sz) (i % sz) a (by simp [h1]) (Nat.mod_lt _ h0)
  rw [show i / sz * sz + i % sz = i from Nat.div_add_mod' i sz] at h2
  rw [h2, ← hz, Array.getElem?_toList]
 ·rw [List.getElem?_eq_none (by simp [size_madeCells]; omega), List.getElem?_eq_none (by rw [rowOf_len hf]; simp; omega)]
/-- One element laid anew. -/
theorem rowOf_lay {A : Type} {f : A → List Value} {sz : Nat} (hf : ∀ a, (f a).length = sz) {xs : List A} {i : Nat} (hi : i < xs.length) (a' : A) : lay (rowOf f xs) (i * sz) (f a') = rowOf f (xs.set i a') := by
 unfold lay
 have e : xs.set i a' = xs.take i ++ a' :: xs.drop (i + 1) := by rw [List.set_eq_take_append_cons_drop, if_pos hi]
 rw [e, rowOf_app, rowOf_take hf xs i (by omega), hf, show i * sz + sz = (i + 1) * sz by rw [Nat.add_mul]; omega, rowOf_drop hf xs (i + 1) (by omega)]
 simp [rowOf, List.append_assoc]
end Go.Proofs.YthkajgkagnenbaaGreatDoor.Eng
end
