/- A balanced tree of nodes with at most 7 pairs: its list, what a put and a delete make of it. No program's code. -/
import Derived.Test.YtjekhcojebgpnaaEngOps
set_option linter.unusedVariables false
set_option linter.unusedSimpArgs false
namespace Go.Proofs.Ytjekhcojebgpnaa.Bt
open Go.RowKit Go.Proofs
/-- A pair: its key, its elem. -/
abbrev Pr := ByteArray × ByteArray
/-- A node: where it lies, its pairs, the nodes below it. -/
inductive BT where
 | nd (o : Nat) (ps : List Pr) (ks : List BT)
namespace BT
def o : BT → Nat | nd o _ _ => o
def ps : BT → List Pr | nd _ ps _ => ps
def ks : BT → List BT | nd _ _ ks => ks
end BT
/-- Lists and what stands between them, in turn. -/
def il {A : Type} : List (List A) → List A → List A
 | [], _ => []
 | a :: as, [] => a
 | a :: as, p :: ps => a ++ p :: il as ps
/-- The pairs in order; h: how many levels lie below the node. -/
def lst : Nat → BT → List Pr
 | 0, t => t.ps
 | h + 1, t => il (t.ks.map (lst h)) t.ps
/-- The nodes' places, a node's ahead of those below it. -/
def offs : Nat → BT → List Nat
 | 0, t => [t.o]
 | h + 1, t => t.o :: (t.ks.map (offs h)).flatten
/-- How many pairs. -/
def tot (h : Nat) (t : BT) : Nat := (lst h t).length
/-- What holds of a node and those below it: between lo and 7 pairs in it, at least 3 in those below. -/
def ok : Nat → Nat → BT → Prop
 | 0, lo, t => lo ≤ t.ps.length ∧ t.ps.length ≤ 7 ∧ t.ks = []
 | h + 1, lo, t => lo ≤ t.ps.length ∧ t.ps.length ≤ 7 ∧ t.ks.length = t.ps.length + 1 ∧ ∀ k ∈ t.ks, ok h 3 k
section
variable {A : Type}
theorem il_len : ∀ {ls : List (List A)} {ps : List A}, ls.length = ps.length + 1 → (il ls ps).length = ps.length + (ls.map List.length).sum
 | [], ps, h => by simp at h
 | [a], [], h => by simp [il]
 | a :: b :: ls, [], h => by simp at h
 | a :: as, p :: ps, h => by
  have := il_len (ls := as) (ps := ps) (by simpa using h)
  simp only [il, List.length_append, List.length_cons, this, List.map_cons, List.sum_cons]
  omega
/-- A list parted in two, with something between. -/
theorem il_split : ∀ {ls : List (List A)} {ps : List A} {i : Nat} {x y : List A} {q : A}, ls.length = ps.length + 1 → ls[i]? = some (x ++ q :: y) → il ((ls.take i ++ [x]) ++ y :: ls.drop (i + 1)) (ps.take i ++ q :: ps.drop i) = il ls ps
 | [], ps, i, x, y, q, h, hx => by simp at hx
 | [a], [], 0, x, y, q, h, hx => by simp at hx; subst hx; simp [il]
 | [a], [], i + 1, x, y, q, h, hx => by simp at hx
 | a :: b :: ls, [], i, x, y, q, h, hx => by simp at h
 | a :: as, p :: ps, 0, x, y, q, h, hx => by simp at hx; subst hx; simp [il]
 | a :: as, p :: ps, i + 1, x, y, q, h, hx => by
  have := il_split (ls := as) (ps := ps) (i := i) (x := x) (y := y) (q := q) (by simpa using h) (by simpa using hx)
  simp only [List.take_succ_cons, List.cons_append, List.drop_succ_cons, il]
  simp only [List.append_assoc, List.cons_append, List.nil_append] at this ⊢
  rw [this]
/-- Two rows with a pair between. -/
theorem il_two : ∀ {ls ms : List (List A)} {ps qs : List A} {q : A}, ls.length = ps.length + 1 → il (ls ++ ms) (ps ++ q :: qs) = il ls ps ++ q :: il ms qs
 | [], ms, ps, qs, q, h => by simp at h
 | [a], ms, [], qs, q, h => by simp [il]
 | a :: b :: ls, ms, [], qs, q, h => by simp at h
 | a :: as, ms, p :: ps, qs, q, h => by
  have := il_two (ls := as) (ms := ms) (ps := ps) (qs := qs) (q := q) (by simpa using h)
  simp only [List.cons_append, il, this, List.append_assoc]
end
/-! ### The keys' order -/
/-- Ahead of, by bytes. -/
def lt (a b : ByteArray) : Prop := Op.bytesLess a.toList b.toList = true
instance (a b : ByteArray) : Decidable (lt a b) := inferInstanceAs (Decidable (_ = true))
theorem bl_irr : ∀ x : List UInt8, Op.bytesLess x x = false
 | [] => rfl
 | a :: x => by simp [Op.bytesLess, bl_irr x]
theorem bl_trans : ∀ x y z : List UInt8, Op.bytesLess x y = true → Op.bytesLess y z = true → Op.bytesLess x z = true
 | _, [], _, h, _ => by cases ‹List UInt8› <;> simp [Op.bytesLess] at h
 | _, _ :: _, [], _, h => by simp [Op.bytesLess] at h
 | [], _ :: _, _ :: _, _, _ => rfl
 | a :: x, b :: y, c :: z, h1, h2 => by
  simp only [Op.bytesLess, Bool.or_eq_true, Bool.and_eq_true, decide_eq_true_eq, beq_iff_eq] at h1 h2 ⊢
  rcases h1 with h1 | ⟨rfl, h1⟩
  ·rcases h2 with h2 | ⟨rfl, h2⟩
   ·exact .inl (UInt8.lt_trans h1 h2)
   ·exact .inl h1
  ·rcases h2 with h2 | ⟨rfl, h2⟩
   ·exact .inl h2
   ·exact .inr ⟨rfl, bl_trans x y z h1 h2⟩
theorem bl_tri : ∀ x y : List UInt8, Op.bytesLess x y = false → Op.bytesLess y x = false → x = y
 | [], [], _, _ => rfl
 | [], _ :: _, h, _ => by simp [Op.bytesLess] at h
 | _ :: _, [], _, h => by simp [Op.bytesLess] at h
 | a :: x, b :: y, h1, h2 => by
  simp only [Op.bytesLess, Bool.or_eq_false_iff, Bool.and_eq_false_iff, decide_eq_false_iff_not, beq_eq_false_iff_ne] at h1 h2
  have e : a = b := by
   have := h1.1; have := h2.1
   exact UInt8.le_antisymm (UInt8.not_lt.1 h2.1) (UInt8.not_lt.1 h1.1)
  subst e
  rcases h1.2 with q | q
  ·exact absurd rfl q
  ·rcases h2.2 with r | r
   ·exact absurd rfl r
   ·rw [bl_tri x y q r]
theorem lt_irr (a : ByteArray) : ¬ lt a a := by unfold lt; rw [bl_irr]; simp
theorem lt_trans {a b c : ByteArray} (h1 : lt a b) (h2 : lt b c) : lt a c := bl_trans _ _ _ h1 h2
theorem lt_asymm {a b : ByteArray} (h1 : lt a b) (h2 : lt b a) : False := lt_irr a (lt_trans h1 h2)
theorem lt_tri (a b : ByteArray) : lt a b ∨ a = b ∨ lt b a := by
 cases h1 : Op.bytesLess a.toList b.toList with
 | true => exact .inl h1
 | false =>
  cases h2 : Op.bytesLess b.toList a.toList with
  | true => exact .inr (.inr h2)
  | false =>
   have := bl_tri _ _ h1 h2
   rw [ByteArray.toList_eq, ByteArray.toList_eq] at this
   exact .inr (.inl (WideShapes.bytes_inj this))
theorem lt_ne {a b : ByteArray} (h : lt a b) : a ≠ b := fun e => lt_irr b (e ▸ h)
/-- Rising keys. -/
def SL (L : List Pr) : Prop := L.Pairwise fun p q => lt p.1 q.1
theorem SL.app {a b : List Pr} (h : SL (a ++ b)) : SL a ∧ SL b ∧ ∀ p ∈ a, ∀ q ∈ b, lt p.1 q.1 := List.pairwise_append.1 h
/-- How many of the pairs have keys ahead of k. -/
def rk : List Pr → ByteArray → Nat
 | [], _ => 0
 | p :: r, k => if lt p.1 k then rk r k + 1 else 0
/-- The key's elem. -/
def getL (L : List Pr) (k : ByteArray) : Option ByteArray := (L.find? fun p => decide (p.1 = k)).map (·.2)
/-- The key has that elem. -/
def putL (k e : ByteArray) : List Pr → List Pr
 | [] => [(k, e)]
 | p :: r => if lt p.1 k then p :: putL k e r else if p.1 = k then (k, e) :: r else (k, e) :: p :: r
/-- The key is there no more. -/
def delL (k : ByteArray) (L : List Pr) : List Pr := L.filter fun p => decide (p.1 ≠ k)
theorem putL_app {k e : ByteArray} : ∀ {a x b : List Pr}, (∀ p ∈ a, lt p.1 k) → (∀ p ∈ b, lt k p.1) → putL k e (a ++ x ++ b) = a ++ putL k e x ++ b
 | [], [], [], _, _ => rfl
 | [], [], p :: b, _, hb => by
  have h := hb p (by simp)
  simp only [List.nil_append, List.append_nil, putL]
  rw [if_neg (fun q => lt_asymm h q), if_neg (fun q => lt_ne h q.symm)]
  rfl
 | [], p :: x, b, ha, hb => by
  have ih := putL_app (k := k) (e := e) (a := []) (x := x) (b := b) ha hb
  simp only [List.nil_append] at ih
  simp only [List.nil_append, List.cons_append, putL]
  split
  ·rw [ih]; rfl
  ·split <;> rfl
 | p :: a, x, b, ha, hb => by
  have ih := putL_app (k := k) (e := e) (a := a) (x := x) (b := b) (fun q hq => ha q (by simp [hq])) hb
  simp only [List.cons_append, putL]
  rw [if_pos (ha p (by simp)), ih]
theorem delL_app (k : ByteArray) (a x b : List Pr) (ha : ∀ p ∈ a, p.1 ≠ k) (hb : ∀ p ∈ b, p.1 ≠ k) : delL k (a ++ x ++ b) = a ++ delL k x ++ b := by
 have h1 : a.filter (fun p => decide (p.1 ≠ k)) = a := List.filter_eq_self.2 fun p hp => by simpa using ha p hp
 have h2 : b.filter (fun p => decide (p.1 ≠ k)) = b := List.filter_eq_self.2 fun p hp => by simpa using hb p hp
 unfold delL
 rw [List.filter_append, List.filter_append, h1, h2]
theorem getL_app (k : ByteArray) (a x b : List Pr) (ha : ∀ p ∈ a, p.1 ≠ k) (hb : ∀ p ∈ b, p.1 ≠ k) : getL (a ++ x ++ b) k = getL x k := by
 unfold getL
 have h1 : a.find? (fun p => decide (p.1 = k)) = none := List.find?_eq_none.2 fun p hp => by simpa using ha p hp
 have h2 : b.find? (fun p => decide (p.1 = k)) = none := List.find?_eq_none.2 fun p hp => by simpa using hb p hp
 rw [List.find?_append, List.find?_append, h1, h2]
 simp
/-- The pairs of a sorted list, about a key's rank. -/
theorem rk_le : ∀ (L : List Pr) (k : ByteArray), rk L k ≤ L.length
 | [], _ => Nat.le_refl _
 | p :: r, k => by
  have := rk_le r k
  unfold rk
  split <;> simp only [List.length_cons] <;> omega
theorem rk_lt : ∀ {L : List Pr} {k : ByteArray} {i : Nat} {p : Pr}, i < rk L k → L[i]? = some p → lt p.1 k
 | [], k, i, p, h, hp => by simp at hp
 | q :: r, k, 0, p, h, hp => by
  simp at hp; subst hp
  unfold rk at h
  split at h
  ·assumption
  ·omega
 | q :: r, k, i + 1, p, h, hp => by
  unfold rk at h
  split at h
  ·exact rk_lt (L := r) (k := k) (i := i) (by omega) (by simpa using hp)
  ·omega
theorem rk_ge : ∀ {L : List Pr} {k : ByteArray} {i : Nat} {p : Pr}, SL L → rk L k ≤ i → L[i]? = some p → ¬ lt p.1 k
 | [], k, i, p, _, h, hp => by simp at hp
 | q :: r, k, 0, p, hs, h, hp => by
  simp at hp; subst hp
  unfold rk at h
  split at h
  ·omega
  ·assumption
 | q :: r, k, i + 1, p, hs, h, hp => by
  have hs2 := List.pairwise_cons.1 hs
  have hp2 : r[i]? = some p := by simpa using hp
  unfold rk at h
  split at h
  ·exact rk_ge (L := r) hs2.2 (by omega) hp2
  ·next q1 => exact fun q2 => q1 (lt_trans (hs2.1 p (List.mem_of_getElem? hp2)) q2)
/-- Where a key belongs: below its rank, if it is not among the node's own. -/
theorem il_rank {k : ByteArray} : ∀ {ls : List (List Pr)} {ps : List Pr}, ls.length = ps.length + 1 → SL (il ls ps) → (∀ p ∈ ps, p.1 ≠ k) →
  ∃ a x b, ls[rk ps k]? = some x ∧ il ls ps = a ++ x ++ b ∧ (∀ y, il (ls.set (rk ps k) y) ps = a ++ y ++ b) ∧ (∀ p ∈ a, lt p.1 k) ∧ ∀ p ∈ b, lt k p.1
 | [], ps, h, _, _ => by simp at h
 | [a], [], h, hs, hn => ⟨[], a, [], rfl, by simp [il], fun y => by simp [il, rk], by simp, by simp⟩
 | a :: b :: ls, [], h, _, _ => by simp at h
 | a :: as, p :: ps, h, hs, hn => by
  have hs1 := SL.app (show SL (a ++ (p :: il as ps)) from hs)
  have hs2 := List.pairwise_cons.1 hs1.2.1
  by_cases hp : lt p.1 k
  ·obtain ⟨c, x, d, h1, h2, h3, h4, h5⟩ := il_rank (ls := as) (ps := ps) (by simpa using h) hs2.2 fun q hq => hn q (by simp [hq])
   refine ⟨a ++ p :: c, x, d, by simp [rk, hp, h1], by simp [il, h2], fun y => by simp [il, rk, hp, h3], fun q hq => ?_, h5⟩
   rcases List.mem_append.1 hq with q1 | q1
   ·exact lt_trans (hs1.2.2 q q1 p (by simp)) hp
   ·rcases List.mem_cons.1 q1 with rfl | q1
    ·exact hp
    ·exact h4 q q1
  ·have hpk : lt k p.1 := by
    rcases lt_tri p.1 k with q | q | q
    ·exact absurd q hp
    ·exact absurd q (hn p (by simp))
    ·exact q
   refine ⟨[], a, p :: il as ps, by simp [rk, hp], by simp [il], fun y => by simp [il, rk, hp], by simp, fun q hq => ?_⟩
   rcases List.mem_cons.1 hq with rfl | q1
   ·exact hpk
   ·exact lt_trans hpk (hs2.1 q q1)
/-- Where a key of the node's own stands. -/
theorem il_own {k : ByteArray} : ∀ {ls : List (List Pr)} {ps : List Pr} {p : Pr}, ls.length = ps.length + 1 → SL (il ls ps) → p ∈ ps → p.1 = k →
  ps[rk ps k]? = some p ∧ ∃ a b, il ls ps = a ++ p :: b ∧ (∀ q, il ls (ps.set (rk ps k) q) = a ++ q :: b) ∧ (∀ q ∈ a, lt q.1 k) ∧ ∀ q ∈ b, lt k q.1
 | [], ps, p, h, _, _, _ => by simp at h
 | [a], [], p, h, hs, hm, _ => by simp at hm
 | a :: b :: ls, [], p, h, _, _, _ => by simp at h
 | a :: as, r :: ps, p, h, hs, hm, hk => by
  have hs1 := SL.app (show SL (a ++ (r :: il as ps)) from hs)
  have hs2 := List.pairwise_cons.1 hs1.2.1
  rcases List.mem_cons.1 hm with rfl | hm2
  ·have hn : ¬ lt p.1 k := by rw [hk]; exact lt_irr k
   refine ⟨by simp [rk, hn], a, il as ps, rfl, fun q => by simp [rk, hn, il], fun q hq => ?_, fun q hq => ?_⟩
   ·rw [← hk]; exact hs1.2.2 q hq p (by simp)
   ·rw [← hk]; exact hs2.1 q hq
  ·have hl : ps.length + 1 = as.length := by simpa using h.symm
   obtain ⟨h1, c, d, h2, h3, h4, h5⟩ := il_own (ls := as) (ps := ps) (p := p) hl.symm hs2.2 hm2 hk
   have hr : lt r.1 k := by
    rw [← hk]
    refine hs2.1 p ?_
    rw [h2]; simp
   refine ⟨by simp [rk, hr, h1], a ++ r :: c, d, by simp [il, h2], fun q => by simp [il, rk, hr, h3], fun q hq => ?_, h5⟩
   rcases List.mem_append.1 hq with q1 | q1
   ·exact lt_trans (hs1.2.2 q q1 r (by simp)) hr
   ·rcases List.mem_cons.1 q1 with rfl | q1
    ·exact hr
    ·exact h4 q q1
end Go.Proofs.Ytjekhcojebgpnaa.Bt
