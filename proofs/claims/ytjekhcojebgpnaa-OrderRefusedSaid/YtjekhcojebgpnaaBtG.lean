/- A balanced tree: what a search on the way down makes of its list. No program's code. -/
import Derived.Test.YtjekhcojebgpnaaBtM
set_option linter.unusedVariables false
set_option linter.unusedSimpArgs false
set_option linter.unusedSectionVars false
namespace Go.Proofs.Ytjekhcojebgpnaa.Bt
open Go.RowKit Go.Proofs Go.Proofs.Ytjekhcojebgpnaa.Eng Go.Proofs.Ytjekhcojebgpnaa.Mem Go.Proofs.Ytjekhcojebgpnaa.Layout Go.Proofs.Ytjekhcojebgpnaa.Arena Go.Proofs.Ytjekhcojebgpnaa.GroupB
section
variable {A : Type}
/-- What stands ahead of the i-th list, and behind it. -/
def ilA : List (List A) → List A → Nat → List A
 | a :: ar, p :: ps, i + 1 => a ++ p :: ilA ar ps i
 | _, _, _ => []
def ilB : List (List A) → List A → Nat → List A
 | _ :: ar, p :: ps, 0 => p :: il ar ps
 | _ :: ar, _ :: ps, i + 1 => ilB ar ps i
 | _, _, _ => []
theorem il_parts : ∀ {ls : List (List A)} {ps : List A} {i : Nat}, ls.length = ps.length + 1 → i ≤ ps.length → ∃ x, ls[i]? = some x ∧ il ls ps = ilA ls ps i ++ x ++ ilB ls ps i ∧
  (ilA ls ps i).getLast? = (if i = 0 then none else ps[i - 1]?) ∧ (ilB ls ps i).head? = ps[i]? ∧ (ilA ls ps i).length = i + ((ls.take i).map List.length).sum
 | [], ps, i, h, _ => by simp at h
 | [a], [], 0, h, _ => ⟨a, rfl, by simp [il, ilA, ilB], rfl, rfl, rfl⟩
 | [a], [], i + 1, h, hi => by simp at hi
 | [a], p :: ps, i, h, _ => by simp at h
 | a :: b :: ls, [], i, h, _ => by simp at h
 | a :: b :: ls, p :: ps, 0, h, _ => ⟨a, rfl, by simp [il, ilA, ilB], rfl, rfl, rfl⟩
 | a :: b :: ls, p :: ps, i + 1, h, hi => by
  obtain ⟨x, h1, h2, h3, h4, h5⟩ := il_parts (ls := b :: ls) (ps := ps) (i := i) (by simpa using h) (by simpa using hi)
  refine ⟨x, by simpa using h1, by simp [il, ilA, ilB, h2], ?_, by simpa [ilB] using h4, ?_⟩
  ·simp only [ilA, List.getLast?_append, List.getLast?_cons, h3]
   cases i with
   | zero => simp [ilA]
   | succ i =>
    have : i < ps.length := by simp at hi; omega
    simp [List.getElem?_eq_getElem this]
  ·simp only [ilA, List.length_append, List.length_cons, h5, List.take_succ_cons, List.map_cons, List.sum_cons]; omega
end
/-- What the way goes on with, below the i-th place. -/
def nxt : Nat → BT → Nat → TX
 | 0, _, _ => none
 | h + 1, t, i => some (h, kid t i)
/-- How many keys are below the first i places. -/
def sumT : Nat → BT → Nat → Nat
 | 0, _, _ => 0
 | h + 1, t, i => ((t.ks.take i).map (tot h)).sum
theorem kid_at {t : BT} {i : Nat} (h : i < t.ks.length) : t.ks[i]? = some (kid t i) := by unfold kid; rw [List.getElem?_eq_getElem h]; rfl
theorem lst_parts {h i : Nat} {t : BT} (hok : ok h 1 t) (hi : i ≤ t.ps.length) : ∃ a b, lst h t = a ++ (nxt h t i).L ++ b ∧ a.getLast? = (if i = 0 then none else t.ps[i - 1]?) ∧ b.head? = t.ps[i]? ∧ a.length = i + sumT h t i := by
 cases h with
 | zero =>
  refine ⟨t.ps.take i, t.ps.drop i, ?_, ?_, List.head?_drop, ?_⟩
  ·show t.ps = t.ps.take i ++ [] ++ t.ps.drop i
   rw [List.append_nil, List.take_append_drop]
  ·split
   ·next q => subst q; rfl
   ·next q => rw [List.getLast?_take, if_neg q, List.getElem?_eq_getElem (show i - 1 < t.ps.length by omega)]; rfl
  ·simp [sumT]; omega
 | succ h =>
  obtain ⟨h1, h2, h3, h4⟩ := hok
  obtain ⟨x, q1, q2, q3, q4, q5⟩ := il_parts (ls := t.ks.map (lst h)) (ps := t.ps) (i := i) (by rw [List.length_map]; exact h3) hi
  rw [List.getElem?_map, kid_at (by omega), Option.map_some] at q1
  cases q1
  refine ⟨_, _, q2, q3, q4, ?_⟩
  rw [q5]
  unfold sumT
  rw [← List.map_take, List.map_map]
  rfl
theorem last_all {a : List Pr} {q : Pr} {k : ByteArray} (hs : SL a) (h : a.getLast? = some q) (hk : lt q.1 k) : ∀ p ∈ a, lt p.1 k := fun p hp => by
 obtain ⟨init, rfl⟩ := List.getLast?_eq_some_iff.1 h
 rcases List.mem_append.1 hp with z | z
 ·exact lt_trans ((SL.app hs).2.2 p z q (by simp)) hk
 ·rw [List.mem_singleton.1 z]; exact hk
theorem head_all {b : List Pr} {q : Pr} {k : ByteArray} (hs : SL b) (h : b.head? = some q) (hk : lt k q.1) : ∀ p ∈ b, lt k p.1 := fun p hp => by
 cases b with
 | nil => cases h
 | cons x r =>
  simp at h; subst h
  rcases List.mem_cons.1 hp with rfl | z
  ·exact hk
  ·exact lt_trans hk ((List.pairwise_cons.1 hs).1 p z)
theorem rk_app {k : ByteArray} {x : List Pr} : ∀ {a : List Pr}, (∀ p ∈ a, lt p.1 k) → rk (a ++ x) k = a.length + rk x k
 | [], _ => by simp
 | p :: a, h => by
  rw [List.cons_append, rk, if_pos (h p (by simp)), rk_app (a := a) fun q hq => h q (by simp [hq]), List.length_cons]; omega
theorem rk_stop {k : ByteArray} {b : List Pr} : ∀ {x : List Pr}, (∀ p ∈ b, ¬ lt p.1 k) → rk (x ++ b) k = rk x k
 | [], h => by
  cases b with
  | nil => rfl
  | cons p r =>
   show (if lt p.1 k then rk r k + 1 else 0) = 0
   rw [if_neg (h p (by simp))]
 | p :: x, h => by
  rw [List.cons_append, rk, rk, rk_stop (x := x) h]
theorem sl_ps {h : Nat} {t : BT} (hok : ok h 1 t) (hs : SL (lst h t)) : SL t.ps := by
 cases h with
 | zero => exact hs
 | succ h => exact mem_il_ps (ls := t.ks.map (lst h)) (by rw [List.length_map]; exact hok.2.2.1) hs
/-- The key is the node's own. -/
theorem way_own {h : Nat} {t : BT} {k : ByteArray} (hok : ok h 1 t) (hs : SL (lst h t)) (ho : own t k = true) : t.ps[rk t.ps k]? = some (pr t (rk t.ps k)) ∧ (pr t (rk t.ps k)).1 = k ∧
  ∃ a b, lst h t = a ++ pr t (rk t.ps k) :: b ∧ a.length = rk t.ps k + sumT h t (rk t.ps k) + ((nxt h t (rk t.ps k)).L).length ∧ (∀ p ∈ a, lt p.1 k) ∧ ∀ p ∈ b, lt k p.1 := by
 unfold own at ho
 rw [decide_eq_true_eq] at ho
 obtain ⟨h1, h2⟩ := ho
 have hp : t.ps[rk t.ps k]? = some (pr t (rk t.ps k)) := by unfold pr; rw [List.getElem?_eq_getElem h1]; rfl
 refine ⟨hp, h2, ?_⟩
 obtain ⟨a, b, q1, q2, q3, q4⟩ := lst_parts (i := rk t.ps k) hok (Nat.le_of_lt h1)
 rw [hp] at q3
 cases b with
 | nil => cases q3
 | cons x b =>
  simp at q3; subst q3
  rw [q1] at hs
  have hs1 := SL.app hs
  have hs2 := List.pairwise_cons.1 hs1.2.1
  refine ⟨a ++ (nxt h t (rk t.ps k)).L, b, q1, by rw [List.length_append, q4], fun p hp' => ?_, fun p hp' => ?_⟩
  ·have := hs1.2.2 p hp' (pr t (rk t.ps k)) (by simp); rwa [h2] at this
  ·have := hs2.1 p hp'; rwa [h2] at this
/-- It is not: it belongs below. -/
theorem way_on {h : Nat} {t : BT} {k : ByteArray} (hok : ok h 1 t) (hs : SL (lst h t)) (ho : own t k = false) :
  ∃ a b, lst h t = a ++ (nxt h t (rk t.ps k)).L ++ b ∧ a.getLast? = (if rk t.ps k = 0 then none else t.ps[rk t.ps k - 1]?) ∧ b.head? = t.ps[rk t.ps k]? ∧ a.length = rk t.ps k + sumT h t (rk t.ps k) ∧ (∀ p ∈ a, lt p.1 k) ∧ ∀ p ∈ b, lt k p.1 := by
 have hps := sl_ps hok hs
 have hle := rk_le t.ps k
 obtain ⟨a, b, q1, q2, q3, q4⟩ := lst_parts (i := rk t.ps k) hok hle
 rw [q1] at hs
 have hs1 := SL.app hs
 have hs2 := SL.app hs1.1
 refine ⟨a, b, q1, q2, q3, q4, fun p hp => ?_, fun p hp => ?_⟩
 ·split at q2
  ·rw [List.getLast?_eq_none_iff] at q2; subst q2; cases hp
  ·next z =>
   rw [List.getElem?_eq_getElem (by omega)] at q2
   exact last_all hs2.1 q2 (rk_lt (i := rk t.ps k - 1) (by omega) (List.getElem?_eq_getElem (by omega))) p hp
 ·rcases Nat.lt_or_ge (rk t.ps k) t.ps.length with z | z
  ·rw [List.getElem?_eq_getElem z] at q3
   refine head_all hs1.2.1 q3 ?_ p hp
   have h1 := rk_ge hps (Nat.le_refl _) (List.getElem?_eq_getElem z)
   rcases lt_tri (t.ps[rk t.ps k]'z).1 k with w | w | w
   ·exact absurd w h1
   ·exfalso
    unfold own pr at ho
    rw [decide_eq_false_iff_not] at ho
    exact ho ⟨z, by rw [List.getElem?_eq_getElem z]; exact w⟩
   ·exact w
  ·rw [List.getElem?_eq_none z] at q3
   cases b with
   | nil => cases hp
   | cons x b => cases q3
/-- The pair with the least key that is not below k; with the greatest that is not above. -/
def ceilL (L : List Pr) (k : ByteArray) : Option Pr := L[rk L k]?
theorem find_own {a b : List Pr} {p : Pr} {k : ByteArray} (h1 : ∀ q ∈ a, lt q.1 k) (h2 : p.1 = k) : rk (a ++ p :: b) k = a.length ∧ (a ++ p :: b)[a.length]? = some p ∧ getL (a ++ p :: b) k = some p.2 := by
 refine ⟨?_, by simp, ?_⟩
 ·rw [rk_app h1, rk, if_neg (by rw [h2]; exact lt_irr k)]; rfl
 ·unfold getL
  rw [List.find?_append, List.find?_eq_none.2 (fun q hq => by simpa using lt_ne (h1 q hq)), List.find?_cons]
  simp [h2]
section
variable {a x b : List Pr} {k : ByteArray} (ha : ∀ p ∈ a, lt p.1 k) (hb : ∀ p ∈ b, lt k p.1)
include ha hb
theorem mid_rk : rk (a ++ x ++ b) k = a.length + rk x k := by
 rw [List.append_assoc, rk_app ha, rk_stop fun p hp w => lt_asymm w (hb p hp)]
theorem mid_at : (a ++ x ++ b)[rk (a ++ x ++ b) k]? = (x[rk x k]?).or b.head? := by
 have hle := rk_le x k
 rw [mid_rk ha hb, List.append_assoc, List.getElem?_append_right (by omega), Nat.add_sub_cancel_left]
 rcases Nat.lt_or_ge (rk x k) x.length with z | z
 ·rw [List.getElem?_append_left z, List.getElem?_eq_getElem z]; rfl
 ·rw [List.getElem?_append_right z, List.getElem?_eq_none z, show rk x k - x.length = 0 by omega, List.head?_eq_getElem?]; rfl
theorem mid_get : getL (a ++ x ++ b) k = getL x k := getL_app k a x b (fun p hp => lt_ne (ha p hp)) fun p hp e => lt_ne (hb p hp) e.symm
theorem mid_ceil : ceilL (a ++ x ++ b) k = (ceilL x k).or b.head? := mid_at ha hb
end
/-- What holds of a tree, or of what lies below a place. -/
def SubT (l : Lay) (s : ArS) (x : TX) : Prop := ∀ h t, x = some (h, t) → ok h 1 t ∧ TreeM l s.m h t ∧ (∀ o ∈ offs h t, blkN l o ∈ s.bl) ∧ SL (lst h t) ∧ (∀ p ∈ lst h t, szs l p) ∧ (lst h t).length ≤ 1000000000
theorem offs_kid {h : Nat} {t k : BT} (hk : k ∈ t.ks) : ∀ o ∈ offs h k, o ∈ offs (h + 1) t := fun o ho => by
 simp only [offs, List.mem_cons, List.mem_flatten, List.mem_map]
 exact .inr ⟨_, ⟨k, hk, rfl⟩, ho⟩
theorem SubT.nxt {l : Lay} {s : ArS} {h : Nat} {t : BT} (H : SubT l s (some (h, t))) {i : Nat} (hi : i ≤ t.ps.length) : SubT l s (nxt h t i) := by
 obtain ⟨h1, h2, h3, h4, h5, h6⟩ := H h t O
 cases h with
 | zero => intro h' t' e; cases e
 | succ h =>
  intro h' t' e
  cases e
  have hlen : i < t.ks.length := by have := h1.2.2.1; omega
  have hm : kid t i ∈ t.ks := List.mem_of_getElem? (kid_at hlen)
  obtain ⟨a, b, q1, _⟩ := lst_parts (i := i) h1 hi
  have q1' : lst (h + 1) t = a ++ lst h (kid t i) ++ b := q1
  refine ⟨ok_mono (by omega) (h1.2.2.2 _ hm), h2.2 _ hm, fun o ho => h3 o (offs_kid hm o ho), ?_, fun p hp => h5 p (by rw [q1']; simp [hp]), ?_⟩
  ·rw [q1'] at h4
   exact (SL.app (SL.app h4).1).2.1
  ·rw [q1'] at h6
   simp only [List.length_append] at h6; omega
theorem nxt_root {h i : Nat} {t : BT} (hok : ok h 1 t) (hi : i ≤ t.ps.length) : (pad 0 8 (t.ks.map BT.o))[i]? = some (TX.root (nxt h t i)) := by
 have hl := ks_len hok
 have h7 := (ok_len hok).2
 rw [pad_get hl]
 cases h with
 | zero =>
  rw [hok.2.2]
  simp only [List.map_nil, List.length_nil, Nat.not_lt_zero, if_false]
  rw [if_pos (by omega)]; rfl
 | succ h =>
  have hlen : i < t.ks.length := by have := hok.2.2.1; omega
  rw [if_pos (by simpa using hlen), List.getElem?_map, kid_at hlen]; rfl
theorem root_ne {l : Lay} {s : ArS} (hs : s.ok) {x : TX} (H : SubT l s x) : (x.root = 0 ↔ x = none) ∧ x.root ≤ 1000000000 := by
 cases x with
 | none => exact ⟨⟨fun _ => rfl, fun _ => rfl⟩, by show 0 ≤ _; omega⟩
 | some x =>
  obtain ⟨h, t⟩ := x
  obtain ⟨h1, h2, h3, _⟩ := H h t O
  have hm : t.o ∈ offs h t := by cases h <;> simp [offs]
  have hb := (mem_bl.1 (h3 _ hm)).1
  have c1 := ArS.chain_pos hs.chain _ hb
  have c2 := chain_end hs.chain hb
  have c3 := hs.stop_eq
  simp only [blkN] at c1 c2
  refine ⟨⟨fun e => ?_, fun e => by cases e⟩, ?_⟩
  ·have e' : t.o = 0 := e
   rw [e'] at c1; omega
  ·show t.o ≤ _
   omega
/-- How many nodes there are at least. -/
theorem sum_len {A : Type} {f g : A → Nat} : ∀ {l : List A}, (∀ a ∈ l, f a ≤ 7 * g a) → (l.map f).sum ≤ 7 * (l.map g).sum
 | [], _ => by simp
 | a :: l, h => by
  have := sum_len (l := l) fun b hb => h b (by simp [hb])
  have := h a (by simp)
  simp only [List.map_cons, List.sum_cons]; omega
theorem offs_len : ∀ {h lo : Nat} {t : BT}, ok h lo t → h + 1 ≤ (offs h t).length ∧ (lst h t).length ≤ 7 * (offs h t).length
 | 0, lo, t, hk => ⟨by simp [offs], by have := hk.2.1; simp only [offs, lst, List.length_singleton]; omega⟩
 | h + 1, lo, t, hk => by
  obtain ⟨h1, h2, h3, h4⟩ := hk
  have hl : (lst (h + 1) t).length = t.ps.length + ((t.ks.map (lst h)).map List.length).sum := il_len (by rw [List.length_map]; exact h3)
  have hs := sum_len (l := t.ks) (f := fun k => (lst h k).length) (g := fun k => (offs h k).length) fun k hm => (offs_len (h4 k hm)).2
  have ho : (offs (h + 1) t).length = 1 + (t.ks.map fun k => (offs h k).length).sum := by
   simp only [offs, List.length_cons, List.length_flatten, List.map_map]
   rw [Nat.add_comm]; rfl
  rw [List.map_map] at hl
  have hl' : (lst (h + 1) t).length = t.ps.length + (t.ks.map fun k => (lst h k).length).sum := hl
  refine ⟨?_, by omega⟩
  cases hk : t.ks with
  | nil => rw [hk] at h3; simp at h3
  | cons k ks =>
   have := (offs_len (h4 k (by rw [hk]; simp))).1
   rw [hk] at ho
   simp only [List.map_cons, List.sum_cons] at ho
   omega
theorem TrOk.bnd {l : Lay} {s : ArS} {off : Nat} {x : TX} {R : List (Int × Int)} (H : TrOk l s off x R) (hs : s.ok) : SubT l s x ∧ x.offs.length ≤ 67108880 ∧ x.L.length ≤ 469762160 ∧ x.height ≤ 67108880 ∧ x.root ≤ 1000000000 ∧ off ≤ 1000000000 ∧ 16 ≤ off := by
 have c3 := hs.stop_eq
 have c4 := ArS.sum_nonneg hs.chain
 have hbl : s.bl.length ≤ s.all.length := List.length_filter_le _ _
 have hp := H.bl.length_eq
 have ho : x.offs.length ≤ 67108880 := by
  unfold ownB at hp
  simp only [List.cons_append, List.length_cons, List.length_append, List.length_map] at hp
  omega
 have hb := (mem_bl.1 H.hdr).1
 have c1 := ArS.chain_pos hs.chain _ hb
 have c2 := chain_end hs.chain hb
 dsimp only at c1 c2
 have hsub : x.L.length ≤ 7 * x.offs.length ∧ x.height ≤ x.offs.length := by
  cases x with
  | none => exact ⟨Nat.zero_le _, Nat.zero_le _⟩
  | some x =>
   obtain ⟨h, t⟩ := x
   have := offs_len (H.tree h t O).1
   exact ⟨this.2, this.1⟩
 have hS : SubT l s x := fun h t e => by
  subst e
  obtain ⟨h1, h2⟩ := H.tree h t O
  refine ⟨h1, h2, fun o ho => H.mem ho, H.sl, H.sz, ?_⟩
  have e : (TX.L (some (h, t))).length = (lst h t).length := rfl
  omega
 exact ⟨hS, ho, by omega, by omega, (root_ne hs hS).2, by omega, by omega⟩
theorem sum_range_le {T : Nat → Nat} : ∀ {j n : Nat}, j < n → ((List.range j).map T).sum + T j ≤ ((List.range n).map T).sum
 | j, 0, h => by omega
 | j, n + 1, h => by
  rw [List.range_succ, List.map_append, List.sum_append]
  simp only [List.map_cons, List.map_nil, List.sum_cons, List.sum_nil]
  rcases Nat.lt_or_ge j n with q | q
  ·have := sum_range_le (T := T) q; omega
  ·rw [show j = n by omega]; omega
/-- Nothing but zeros below. -/
theorem pad_zero {n m : Nat} (h : m ≤ n) : pad 0 n (List.replicate m 0) = pad 0 n ([] : List Nat) := by
 unfold pad
 rw [List.length_replicate, List.replicate_append_replicate]
 simp; omega
end Go.Proofs.Ytjekhcojebgpnaa.Bt
