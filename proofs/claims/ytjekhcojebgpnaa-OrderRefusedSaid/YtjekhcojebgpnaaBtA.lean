/- A balanced tree in an arena's bytes: a put, step by step from below. No program's code. -/
import Derived.Test.YtjekhcojebgpnaaBtG
set_option linter.unusedVariables false
set_option linter.unusedSimpArgs false
set_option linter.unusedSectionVars false
namespace Go.Proofs.Ytjekhcojebgpnaa.Bt
open Go.RowKit Go.Proofs Go.Proofs.Ytjekhcojebgpnaa.Eng Go.Proofs.Ytjekhcojebgpnaa.Mem Go.Proofs.Ytjekhcojebgpnaa.Layout Go.Proofs.Ytjekhcojebgpnaa.Arena Go.Proofs.Ytjekhcojebgpnaa.GroupB
/-- The way down to where a key belongs: the levels below, the node, the place. -/
def pathB : Nat → BT → ByteArray → List (Nat × BT × Nat)
 | 0, t, k => [(0, t, rk t.ps k)]
 | h + 1, t, k => (h + 1, t, rk t.ps k) :: pathB h (kid t (rk t.ps k)) k
def pathX : TX → ByteArray → List (Nat × BT × Nat)
 | none, _ => []
 | some x, k => pathB x.1 x.2 k
theorem path_len : ∀ {h : Nat} {t : BT} {k : ByteArray}, (pathB h t k).length = h + 1
 | 0, _, _ => rfl
 | h + 1, t, k => by simp [pathB, path_len (h := h)]
theorem path_cons {h : Nat} {t : BT} {k : ByteArray} : pathB h t k = (h, t, rk t.ps k) :: pathX (nxt h t (rk t.ps k)) k := by cases h <;> rfl
/-- Whatever stands on the way: what comes behind it is its own way. -/
theorem path_part {k : ByteArray} : ∀ {A : List (Nat × BT × Nat)} {H : Nat} {T : BT} {e : Nat × BT × Nat} {B : List (Nat × BT × Nat)}, pathB H T k = A ++ e :: B → e.2.2 = rk e.2.1.ps k ∧ B = pathX (nxt e.1 e.2.1 e.2.2) k
 | [], H, T, e, B, h => by
  rw [path_cons] at h
  cases h
  exact ⟨rfl, rfl⟩
 | a :: A, 0, T, e, B, h => by
  rw [path_cons] at h
  simp only [List.cons_append, List.cons.injEq] at h
  have := h.2
  simp [nxt, pathX] at this
 | a :: A, H + 1, T, e, B, h => by
  rw [path_cons] at h
  simp only [List.cons_append, List.cons.injEq] at h
  exact path_part (A := A) (H := H) (T := kid T (rk T.ps k)) h.2
theorem pathX_inj {k : ByteArray} {x y : TX} (h : pathX x k = pathX y k) : x = y := by
 cases x with
 | none => cases y with
  | none => rfl
  | some y => have := congrArg List.length h; simp [pathX, path_len] at this
 | some x => cases y with
  | none => have := congrArg List.length h; simp [pathX, path_len] at this
  | some y =>
   obtain ⟨a, b⟩ := x
   obtain ⟨c, d⟩ := y
   have h' : pathB a b k = pathB c d k := h
   rw [path_cons (h := a), path_cons (h := c)] at h'
   simp only [List.cons.injEq, Prod.mk.injEq] at h'
   rw [h'.1.1, h'.1.2.1]
/-! ### What the bytes are behind a put -/
def Away (l : Lay) (os : List Nat) (a : Nat) : Prop := ∀ o ∈ os, a < o ∨ o + nbN l ≤ a
def Apart (l : Lay) (os : List Nat) : Prop := os.Pairwise fun o o' => o + nbN l ≤ o' ∨ o' + nbN l ≤ o
theorem Away.mono {l : Lay} {os os' : List Nat} {a : Nat} (h : Away l os a) (hs : ∀ o ∈ os', o ∈ os) : Away l os' a := fun o ho => h o (hs o ho)
theorem NodeM.kids_eq {l : Lay} {m : Nat → Int} {o : Nat} {ps : List Pr} {leaf : Bool} {K K' : List Nat} {tot : Nat} (h : NodeM l m o ps leaf K tot) (e : pad 0 8 K = pad 0 8 K') : NodeM l m o ps leaf K' tot :=
 ⟨h.cnt, h.leaf, h.tot, fun i k hi => h.kid i k (by rw [e]; exact hi), h.par⟩
/-- What holds ahead of a put. -/
structure AddH (l : Lay) (m0 : Nat → Int) (os : List Nat) (k : ByteArray) (h : Nat) (t : BT) : Prop where
 ok : ok h 1 t
 tree : TreeM l m0 h t
 sl : SL (lst h t)
 new : ∀ p ∈ lst h t, p.1 ≠ k
 apart : Apart l (offs h t ++ os)
 room : (fw h t k).1 ≤ os.length
/-- What holds behind it. -/
structure AddM (l : Lay) (m0 : Nat → Int) (os : List Nat) (p : Pr) (h : Nat) (t : BT) (m : Nat → Int) : Prop where
 tree : TreeM l m h (addB h t p os).1
 up : ∀ q, (addB h t p os).2.1 = some q → TreeM l m h q.2
 same : ∀ a, Away l (offs h t ++ os) a → m a = m0 a
theorem fw_kid {h : Nat} {t : BT} {k : ByteArray} : (fw h (kid t (rk t.ps k)) k).1 ≤ (fw (h + 1) t k).1 := by
 rw [fw]
 split
 ·exact Nat.le_succ _
 ·exact Nat.le_refl _
theorem offs_sub {h : Nat} {t k : BT} (hk : k ∈ t.ks) : List.Sublist (offs h k) (offs (h + 1) t) := by
 simp only [offs]
 refine List.Sublist.cons _ ?_
 exact List.sublist_flatten_of_mem (List.mem_map.2 ⟨k, hk, rfl⟩)
section
variable {l : Lay} {m0 : Nat → Int} {os : List Nat} {k e : ByteArray} {h : Nat} {t : BT}
theorem AddH.kid_mem (H : AddH l m0 os k (h + 1) t) : kid t (rk t.ps k) ∈ t.ks := by
 have h1 := H.ok.2.2.1
 have h2 := rk_le t.ps k
 exact List.mem_of_getElem? (kid_at (by omega))
theorem AddH.kid (H : AddH l m0 os k (h + 1) t) : AddH l m0 os k h (kid t (rk t.ps k)) := by
 have hm := H.kid_mem
 obtain ⟨a, b, q1, _⟩ := lst_parts (i := rk t.ps k) H.ok (rk_le _ _)
 have q1' : lst (h + 1) t = a ++ lst h (Bt.kid t (rk t.ps k)) ++ b := q1
 have hs := H.sl
 rw [q1'] at hs
 refine ⟨ok_mono (by omega) (H.ok.2.2.2 _ hm), H.tree.2 _ hm, (SL.app (SL.app hs).1).2.1, fun p hp => H.new p (by rw [q1']; simp [hp]), ?_, Nat.le_trans fw_kid H.room⟩
 exact H.apart.sublist ((offs_sub hm).append (List.Sublist.refl _))
theorem AddH.law (H : AddH l m0 os k h t) (e : ByteArray) : lstU h (addB h t (k, e) os).1 (addB h t (k, e) os).2.1 = putL k e (lst h t) ∧ okU h 1 (addB h t (k, e) os).1 (addB h t (k, e) os).2.1 ∧
  (offsU h (addB h t (k, e) os).1 (addB h t (k, e) os).2.1).Perm (offs h t ++ os.take (fw h t k).1) ∧ (addB h t (k, e) os).2.2 = os.drop (fw h t k).1 ∧ (addB h t (k, e) os).2.1.isSome = (fw h t k).2 := put_law (k := k) (e := e) (os := os) H.ok H.sl H.new H.room
theorem putL_len : ∀ {L : List Pr}, (∀ p ∈ L, p.1 ≠ k) → (putL k e L).length = L.length + 1
 | [], _ => rfl
 | p :: L, h => by
  have ih := putL_len (L := L) fun q hq => h q (by simp [hq])
  unfold putL
  split
  ·simp [ih]
  ·rw [if_neg (h p (by simp))]; rfl
/-- The nodes that a kid's put leaves stand where the kid and the new ones stood. -/
theorem AddH.in (H : AddH l m0 os k h t) (e : ByteArray) : (∀ o ∈ offs h (addB h t (k, e) os).1, o ∈ offs h t ++ os) ∧ ∀ q, (addB h t (k, e) os).2.1 = some q → ∀ o ∈ offs h q.2, o ∈ offs h t ++ os := by
 obtain ⟨_, _, h3, _, _⟩ := H.law e
 have hsub : ∀ o ∈ offsU h (addB h t (k, e) os).1 (addB h t (k, e) os).2.1, o ∈ offs h t ++ os := fun o ho => by
  have := h3.mem_iff.1 ho
  rcases List.mem_append.1 this with q | q
  ·simp [q]
  ·exact List.mem_append_right _ (List.mem_of_mem_take q)
 cases hu : (addB h t (k, e) os).2.1 with
 | none =>
  rw [hu] at hsub
  exact ⟨hsub, fun q hq => by cases hq⟩
 | some q =>
  rw [hu] at hsub
  exact ⟨fun o ho => hsub o (by simp only [offsU, List.mem_append]; exact .inl ho), fun q' hq => by
   cases hq
   exact fun o ho => hsub o (by simp only [offsU, List.mem_append]; exact .inr ho)⟩
end
/-! ### The steps -/
def Dj (l : Lay) (o o' : Nat) : Prop := o + nbN l ≤ o' ∨ o' + nbN l ≤ o
theorem Dj.symm {l : Lay} {o o' : Nat} (h : Dj l o o') : Dj l o' o := Or.symm h
theorem sameAt_of {l : Lay} {m m' : Nat → Int} {X : List Nat} {o : Nat} (hX : ∀ a, Away l X a → m' a = m a) (hd : ∀ x ∈ X, Dj l o x) : SameAt l m m' o := fun a h1 h2 => hX a fun x hx => by
 rcases hd x hx with q | q <;> omega
theorem apart_kids {l : Lay} {os : List Nat} {h : Nat} {t : BT} (ha : Apart l (offs (h + 1) t ++ os)) :
  (∀ (j : Nat) (c : BT), t.ks[j]? = some c → ∀ o ∈ offs h c, Dj l t.o o) ∧ (∀ x ∈ os, Dj l t.o x) ∧ (∀ (i j : Nat) (c d : BT), i ≠ j → t.ks[i]? = some c → t.ks[j]? = some d → ∀ o ∈ offs h c, ∀ o' ∈ offs h d, Dj l o o') ∧ (∀ (j : Nat) (c : BT), t.ks[j]? = some c → ∀ o ∈ offs h c, ∀ x ∈ os, Dj l o x) ∧ Apart l os := by
 have h1 : Apart l (t.o :: ((t.ks.map (offs h)).flatten ++ os)) := ha
 have h2 := List.pairwise_cons.1 h1
 have h3 := List.pairwise_append.1 h2.2
 have h4 := List.pairwise_flatten.1 h3.1
 have hmem : ∀ (j : Nat) (c : BT), t.ks[j]? = some c → ∀ o ∈ offs h c, o ∈ (t.ks.map (offs h)).flatten := fun j c hc o ho => by
  simp only [List.mem_flatten, List.mem_map]
  exact ⟨_, ⟨c, List.mem_of_getElem? hc, rfl⟩, ho⟩
 refine ⟨fun j c hc o ho => h2.1 o (List.mem_append_left _ (hmem j c hc o ho)), fun x hx => h2.1 x (List.mem_append_right _ hx), fun i j c d hij hc hd o ho o' ho' => ?_, fun j c hc o ho x hx => h3.2.2 o (hmem j c hc o ho) x hx, h3.2.1⟩
 have hg : ∀ (i j : Nat) (c d : BT), i < j → t.ks[i]? = some c → t.ks[j]? = some d → ∀ o ∈ offs h c, ∀ o' ∈ offs h d, Dj l o o' := fun i j c d hij hc hd o ho o' ho' => by
  obtain ⟨hi, rfl⟩ := List.getElem?_eq_some_iff.1 hc
  obtain ⟨hj, rfl⟩ := List.getElem?_eq_some_iff.1 hd
  have := List.pairwise_iff_getElem.1 h4.2 i j (by simpa using hi) (by simpa using hj) hij
  simp only [List.getElem_map] at this
  exact this o ho o' ho'
 rcases Nat.lt_or_gt_of_ne hij with q | q
 ·exact hg i j c d q hc hd o ho o' ho'
 ·exact (hg j i d c q hd hc o' ho' o ho).symm
section
variable {l : Lay} {m0 : Nat → Int} {os : List Nat} {k e : ByteArray} {h : Nat} {t : BT}
theorem okU_fst {h lo : Nat} {t : BT} {u : Option (Pr × BT)} (hk : okU h lo t u) : ∃ lo', ok h lo' t := by cases u with
 | none => exact ⟨_, hk⟩
 | some q => exact ⟨_, hk.1⟩
theorem kids_frame (H : AddH l m0 os k (h + 1) t) {m1 m : Nat → Int} (R : AddM l m0 os (k, e) h (kid t (rk t.ps k)) m1) (X : List Nat) (hX : ∀ a, Away l X a → m a = m1 a)
  (hXr : ∀ x ∈ X, ∀ o ∈ offsU h (addB h (kid t (rk t.ps k)) (k, e) os).1 (addB h (kid t (rk t.ps k)) (k, e) os).2.1, Dj l o x) (hXk : ∀ x ∈ X, x = t.o ∨ x ∈ os) :
  TreeM l m h (addB h (kid t (rk t.ps k)) (k, e) os).1 ∧ (∀ q, (addB h (kid t (rk t.ps k)) (k, e) os).2.1 = some q → TreeM l m h q.2) ∧ (∀ (j : Nat) (c : BT), j ≠ rk t.ps k → t.ks[j]? = some c → TreeM l m h c) ∧ ∀ a, Away l (offs (h + 1) t ++ os) a → m a = m0 a := by
 have hc : t.ks[rk t.ps k]? = some (kid t (rk t.ps k)) := kid_at (by have := H.ok.2.2.1; have := rk_le t.ps k; omega)
 obtain ⟨a1, a2, a3, a4, a5⟩ := apart_kids H.apart
 obtain ⟨p1, p2, _⟩ := H.kid.law e
 obtain ⟨r1, r2, r3⟩ := R
 generalize addB h (kid t (rk t.ps k)) (k, e) os = r at *
 have hU1 : ∀ o ∈ offs h r.1, ∀ x ∈ X, Dj l o x := fun o ho x hx => hXr x hx o (by cases r.2.1 <;> simp [offsU, ho])
 refine ⟨?_, fun q hq => ?_, fun j c hj hjc => ?_, fun a ha => ?_⟩
 ·obtain ⟨lo, hlo⟩ := okU_fst p2
  exact r1.same hlo fun o ho => sameAt_of hX (hU1 o ho)
 ·rw [hq] at p2 hXr
  exact (r2 q hq).same p2.2 fun o ho => sameAt_of hX fun x hx => hXr x hx o (by simp [offsU, ho])
 ·have hcm := List.mem_of_getElem? hjc
  refine (H.tree.2 c hcm).same (H.ok.2.2.2 c hcm) fun o ho a h1 h2 => ?_
  have e1 : m a = m1 a := hX a fun x hx => by
   rcases hXk x hx with rfl | q
   ·rcases a1 j c hjc o ho with w | w <;> omega
   ·rcases a4 j c hjc o ho x q with w | w <;> omega
  rw [e1]
  refine r3 a fun x hx => ?_
  rcases List.mem_append.1 hx with q | q
  ·rcases a3 j _ c _ hj hjc hc o ho x q with w | w <;> omega
  ·rcases a4 j c hjc o ho x q with w | w <;> omega
 ·have e1 : m a = m1 a := hX a fun x hx => by
   rcases hXk x hx with rfl | q
   ·exact ha _ (by simp [offs])
   ·exact ha x (by simp [q])
  rw [e1]
  refine r3 a (ha.mono fun o ho => ?_)
  rcases List.mem_append.1 ho with q | q
  ·exact List.mem_append_left _ (offs_kid (List.mem_of_getElem? hc) o q)
  ·exact List.mem_append_right _ q
theorem addB_room0 {p : Pr} (hl : t.ps.length < 7) : addB 0 t p os = (.nd t.o (ins t.ps (rk t.ps p.1) p) [], none, os) := by
 have := ins_len t.ps (rk t.ps p.1) p
 unfold addB mkB
 simp only
 rw [if_pos (by omega)]
 rfl
theorem addB_full0 {p : Pr} (hl : t.ps.length = 7) : addB 0 t p os = (.nd t.o ((ins t.ps (rk t.ps p.1) p).take 3) [], some (((ins t.ps (rk t.ps p.1) p)[3]?).getD default, .nd (os.headD 0) ((ins t.ps (rk t.ps p.1) p).drop 4) []), os.tail) := by
 have := ins_len t.ps (rk t.ps p.1) p
 unfold addB mkB
 simp only
 rw [if_neg (by omega)]
 rfl
theorem addB_on {p : Pr} (hr : (addB h (kid t (rk t.ps p.1)) p os).2.1 = none) : addB (h + 1) t p os = (.nd t.o t.ps (t.ks.set (rk t.ps p.1) (addB h (kid t (rk t.ps p.1)) p os).1), none, (addB h (kid t (rk t.ps p.1)) p os).2.2) := by
 rw [addB]
 simp only [hr]
theorem addB_room {p : Pr} {q : Pr × BT} (hr : (addB h (kid t (rk t.ps p.1)) p os).2.1 = some q) (hl : t.ps.length < 7) :
  addB (h + 1) t p os = (.nd t.o (ins t.ps (rk t.ps p.1) q.1) (ins (t.ks.set (rk t.ps p.1) (addB h (kid t (rk t.ps p.1)) p os).1) (rk t.ps p.1 + 1) q.2), none, (addB h (kid t (rk t.ps p.1)) p os).2.2) := by
 have := ins_len t.ps (rk t.ps p.1) q.1
 rw [addB]
 simp only [hr]
 unfold mkB
 rw [if_pos (by omega)]
 rfl
theorem addB_full {p : Pr} {q : Pr × BT} (hr : (addB h (kid t (rk t.ps p.1)) p os).2.1 = some q) (hl : t.ps.length = 7) :
  addB (h + 1) t p os = (.nd t.o ((ins t.ps (rk t.ps p.1) q.1).take 3) ((ins (t.ks.set (rk t.ps p.1) (addB h (kid t (rk t.ps p.1)) p os).1) (rk t.ps p.1 + 1) q.2).take 4),
   some (((ins t.ps (rk t.ps p.1) q.1)[3]?).getD default, .nd ((addB h (kid t (rk t.ps p.1)) p os).2.2.headD 0) ((ins t.ps (rk t.ps p.1) q.1).drop 4) ((ins (t.ks.set (rk t.ps p.1) (addB h (kid t (rk t.ps p.1)) p os).1) (rk t.ps p.1 + 1) q.2).drop 4)), (addB h (kid t (rk t.ps p.1)) p os).2.2.tail) := by
 have := ins_len t.ps (rk t.ps p.1) q.1
 rw [addB]
 simp only [hr]
 unfold mkB
 rw [if_neg (by omega)]
 rfl
theorem ins_mem {A : Type} {xs : List A} {i : Nat} {a x : A} (h : x ∈ ins xs i a) : x = a ∨ x ∈ xs := by
 simp only [ins, List.mem_append, List.mem_cons] at h
 rcases h with w | rfl | w
 ·exact .inr (List.mem_of_mem_take w)
 ·exact .inl rfl
 ·exact .inr (List.mem_of_mem_drop w)
theorem ins_map {A B : Type} (f : A → B) (xs : List A) (i : Nat) (a : A) : (ins xs i a).map f = ins (xs.map f) i (f a) := by simp [ins, List.map_take, List.map_drop]
/-- Another kid of the same place stands there. -/
theorem set_o {i : Nat} {c c' : BT} (hc : t.ks[i]? = some c) (ho : c'.o = c.o) : (t.ks.set i c').map BT.o = t.ks.map BT.o := by
 rw [List.map_set, ho]
 refine List.ext_getElem? fun j => ?_
 rw [List.getElem?_set]
 split
 ·next q =>
  subst q
  obtain ⟨hi, rfl⟩ := List.getElem?_eq_some_iff.1 hc
  rw [if_pos (by simpa using hi), List.getElem?_map, List.getElem?_eq_getElem hi]; rfl
 ·rfl
theorem set_mem {A : Type} {xs : List A} {i : Nat} {a x : A} (h : x ∈ xs.set i a) : x = a ∨ ∃ j, j ≠ i ∧ xs[j]? = some x := by
 obtain ⟨j, hj⟩ := List.getElem?_of_mem h
 rw [List.getElem?_set] at hj
 split at hj
 ·next q =>
  split at hj
  ·cases hj; exact .inl rfl
  ·cases hj
 ·next q => exact .inr ⟨j, fun e => q e.symm, hj⟩
theorem AddH.tot_new (H : AddH l m0 os k h t) (e : ByteArray) : (lstU h (addB h t (k, e) os).1 (addB h t (k, e) os).2.1).length = tot h t + 1 := by
 rw [(H.law e).1, putL_len H.new]; rfl
theorem add_room0 (H : AddH l m0 os k 0 t) (hl : t.ps.length < 7) {m : Nat → Int} (hN : NodeM l m t.o (ins t.ps (rk t.ps k) (k, e)) true [] (tot 0 t + 1)) (hs : ∀ a, a < t.o ∨ t.o + nbN l ≤ a → m a = m0 a) : AddM l m0 os (k, e) 0 t m := by
 have he := addB_room0 (os := os) (p := (k, e)) hl
 have ht := H.tot_new e
 rw [he] at ht
 refine ⟨by rw [he]; show NodeM l m t.o _ true _ (tot 0 _); rw [show tot 0 _ = tot 0 t + 1 from ht]; exact hN, fun q hq => (by rw [he] at hq; cases hq), fun a ha => hs a (ha _ (by simp [offs]))⟩
theorem add_full0 (H : AddH l m0 os k 0 t) (hl : t.ps.length = 7) {m : Nat → Int} {K K' : List Nat} (hK : pad 0 8 K = pad 0 8 []) (hK' : pad 0 8 K' = pad 0 8 []) (hN : NodeM l m t.o ((ins t.ps (rk t.ps k) (k, e)).take 3) true K 3)
  (hN2 : NodeM l m (os.headD 0) ((ins t.ps (rk t.ps k) (k, e)).drop 4) true K' 4) (hs : ∀ a, (a < t.o ∨ t.o + nbN l ≤ a) → (a < os.headD 0 ∨ os.headD 0 + nbN l ≤ a) → m a = m0 a) : AddM l m0 os (k, e) 0 t m := by
 have he := addB_full0 (os := os) (p := (k, e)) hl
 have hil := ins_len t.ps (rk t.ps k) (k, e)
 have hro := H.room
 have hne : os ≠ [] := fun e => by
  rw [e] at hro
  unfold fw at hro
  rw [if_pos hl] at hro
  simp at hro
 have hh : os.headD 0 ∈ os := by cases os with
  | nil => exact absurd rfl hne
  | cons a r => simp
 refine ⟨?_, fun q hq => ?_, fun a ha => hs a (ha _ (by simp [offs])) (ha _ (List.mem_append_right _ hh))⟩
 ·rw [he]
  have e3 : tot 0 (.nd t.o ((ins t.ps (rk t.ps k) (k, e)).take 3) []) = 3 := by show ((ins t.ps (rk t.ps k) (k, e)).take 3).length = 3; rw [List.length_take]; omega
  show NodeM l m _ _ true _ (tot 0 _)
  rw [e3]; exact hN.kids_eq hK
 ·rw [he] at hq
  cases hq
  have e3 : tot 0 (.nd (os.headD 0) ((ins t.ps (rk t.ps k) (k, e)).drop 4) []) = 4 := by show ((ins t.ps (rk t.ps k) (k, e)).drop 4).length = 4; rw [List.length_drop]; omega
  show NodeM l m _ _ true _ (tot 0 _)
  rw [e3]; exact hN2.kids_eq hK'
theorem add_on (H : AddH l m0 os k (h + 1) t) {m1 m : Nat → Int} (R : AddM l m0 os (k, e) h (kid t (rk t.ps k)) m1) (hr : (addB h (kid t (rk t.ps k)) (k, e) os).2.1 = none) (hN : NodeM l m t.o t.ps false (t.ks.map BT.o) (tot (h + 1) t + 1)) (hs : ∀ a, a < t.o ∨ t.o + nbN l ≤ a → m a = m1 a) :
  AddM l m0 os (k, e) (h + 1) t m := by
 have he := addB_on (os := os) (p := (k, e)) hr
 have hc : t.ks[rk t.ps k]? = some (kid t (rk t.ps k)) := kid_at (by have := H.ok.2.2.1; have := rk_le t.ps k; omega)
 obtain ⟨a1, a2, a3, a4, a5⟩ := apart_kids H.apart
 obtain ⟨f1, f2, f3, f4⟩ := kids_frame H R [t.o] (fun a ha => hs a (ha _ (by simp))) (fun x hx o ho => by
  rw [List.mem_singleton.1 hx]
  have hin := (H.kid.in e).1
  rw [hr] at ho
  rcases List.mem_append.1 (hin o ho) with q | q
  ·exact (a1 _ _ hc o q).symm
  ·exact (a2 o q).symm) (fun x hx => .inl (List.mem_singleton.1 hx))
 have ht := H.tot_new e
 rw [he] at ht
 refine ⟨?_, fun q hq => (by rw [he] at hq; cases hq), f4⟩
 rw [he]
 refine ⟨?_, fun c hcm => ?_⟩
 ·show NodeM l m t.o t.ps false ((t.ks.set _ _).map BT.o) (tot (h + 1) _)
  rw [set_o hc put_o, show tot (h + 1) _ = tot (h + 1) t + 1 from ht]
  exact hN
 ·rcases set_mem (show c ∈ t.ks.set _ _ from hcm) with rfl | ⟨j, hj, hjc⟩
  ·exact f1
  ·exact f3 j c hj hjc
theorem add_room (H : AddH l m0 os k (h + 1) t) {m1 m : Nat → Int} (R : AddM l m0 os (k, e) h (kid t (rk t.ps k)) m1) {q : Pr × BT} (hr : (addB h (kid t (rk t.ps k)) (k, e) os).2.1 = some q) (hl : t.ps.length < 7)
  (hN : NodeM l m t.o (ins t.ps (rk t.ps k) q.1) false (ins (t.ks.map BT.o) (rk t.ps k + 1) q.2.o) (tot (h + 1) t + 1)) (hs : ∀ a, a < t.o ∨ t.o + nbN l ≤ a → m a = m1 a) : AddM l m0 os (k, e) (h + 1) t m := by
 have he := addB_room (os := os) (p := (k, e)) hr hl
 have hc : t.ks[rk t.ps k]? = some (kid t (rk t.ps k)) := kid_at (by have := H.ok.2.2.1; have := rk_le t.ps k; omega)
 obtain ⟨a1, a2, a3, a4, a5⟩ := apart_kids H.apart
 obtain ⟨i1, i2⟩ := H.kid.in e
 obtain ⟨f1, f2, f3, f4⟩ := kids_frame H R [t.o] (fun a ha => hs a (ha _ (by simp))) (fun x hx o ho => by
  rw [List.mem_singleton.1 hx]
  have hin : o ∈ offs h (kid t (rk t.ps k)) ++ os := by
   rw [hr] at ho
   rcases List.mem_append.1 ho with w | w
   ·exact i1 o w
   ·exact i2 q hr o w
  rcases List.mem_append.1 hin with w | w
  ·exact (a1 _ _ hc o w).symm
  ·exact (a2 o w).symm) (fun x hx => .inl (List.mem_singleton.1 hx))
 have ht := H.tot_new e
 rw [he] at ht
 refine ⟨?_, fun q hq => (by rw [he] at hq; cases hq), f4⟩
 rw [he]
 refine ⟨?_, fun c hcm => ?_⟩
 ·show NodeM l m t.o _ false ((ins (t.ks.set _ _) _ _).map BT.o) (tot (h + 1) _)
  rw [ins_map, set_o hc put_o, show tot (h + 1) _ = tot (h + 1) t + 1 from ht]
  exact hN
 ·rcases ins_mem (show c ∈ ins _ _ _ from hcm) with rfl | w
  ·exact f2 q hr
  ·rcases set_mem w with rfl | ⟨j, hj, hjc⟩
   ·exact f1
   ·exact f3 j c hj hjc
theorem add_full (H : AddH l m0 os k (h + 1) t) {m1 m : Nat → Int} (R : AddM l m0 os (k, e) h (kid t (rk t.ps k)) m1) {q : Pr × BT} (hr : (addB h (kid t (rk t.ps k)) (k, e) os).2.1 = some q) (hl : t.ps.length = 7) {o2 : Nat} (ho2 : (addB h (kid t (rk t.ps k)) (k, e) os).2.2.head? = some o2)
  (hN : NodeM l m t.o ((ins t.ps (rk t.ps k) q.1).take 3) false ((ins (t.ks.map BT.o) (rk t.ps k + 1) q.2.o).take 4) (tot (h + 1) (.nd t.o ((ins t.ps (rk t.ps k) q.1).take 3) ((ins (t.ks.set (rk t.ps k) (addB h (kid t (rk t.ps k)) (k, e) os).1) (rk t.ps k + 1) q.2).take 4))))
  (hN2 : NodeM l m o2 ((ins t.ps (rk t.ps k) q.1).drop 4) false ((ins (t.ks.map BT.o) (rk t.ps k + 1) q.2.o).drop 4) (tot (h + 1) (.nd o2 ((ins t.ps (rk t.ps k) q.1).drop 4) ((ins (t.ks.set (rk t.ps k) (addB h (kid t (rk t.ps k)) (k, e) os).1) (rk t.ps k + 1) q.2).drop 4))))
  (hs : ∀ a, (a < t.o ∨ t.o + nbN l ≤ a) → (a < o2 ∨ o2 + nbN l ≤ a) → m a = m1 a) : AddM l m0 os (k, e) (h + 1) t m := by
 have he := addB_full (os := os) (p := (k, e)) hr hl
 have hc : t.ks[rk t.ps k]? = some (kid t (rk t.ps k)) := kid_at (by have := H.ok.2.2.1; have := rk_le t.ps k; omega)
 obtain ⟨a1, a2, a3, a4, a5⟩ := apart_kids H.apart
 obtain ⟨_, _, l3, l4, _⟩ := H.kid.law e
 have hhd : (addB h (kid t (rk t.ps k)) (k, e) os).2.2.headD 0 = o2 := by rw [List.headD_eq_head?_getD, ho2]; rfl
 rw [l4] at ho2
 have ho2' : os[(fw h (kid t (rk t.ps k)) k).1]? = some o2 := by rw [← List.head?_drop]; exact ho2
 have hom := List.mem_of_getElem? ho2'
 have hfr : ∀ x ∈ [t.o, o2], ∀ o ∈ offsU h (addB h (kid t (rk t.ps k)) (k, e) os).1 (addB h (kid t (rk t.ps k)) (k, e) os).2.1, Dj l o x := fun x hx o ho => by
  have hin := l3.mem_iff.1 ho
  simp only [List.mem_cons, List.not_mem_nil, or_false] at hx
  rcases hx with rfl | rfl
  ·rcases List.mem_append.1 hin with w | w
   ·exact (a1 _ _ hc o w).symm
   ·exact (a2 o (List.mem_of_mem_take w)).symm
  ·rcases List.mem_append.1 hin with w | w
   ·exact a4 _ _ hc o w x hom
   ·obtain ⟨j, hj⟩ := List.getElem?_of_mem w
    rw [List.getElem?_take] at hj
    split at hj
    ·next q1 =>
     obtain ⟨hj1, rfl⟩ := List.getElem?_eq_some_iff.1 hj
     obtain ⟨hj2, rfl⟩ := List.getElem?_eq_some_iff.1 ho2'
     exact List.pairwise_iff_getElem.1 a5 _ _ hj1 hj2 q1
    ·cases hj
 obtain ⟨f1, f2, f3, f4⟩ := kids_frame H R [t.o, o2] (fun a ha => hs a (ha _ (by simp)) (ha _ (by simp))) hfr (fun x hx => by
  simp only [List.mem_cons, List.not_mem_nil, or_false] at hx
  rcases hx with rfl | rfl
  ·exact .inl rfl
  ·exact .inr hom)
 have hkids : ∀ c ∈ ins (t.ks.set (rk t.ps k) (addB h (kid t (rk t.ps k)) (k, e) os).1) (rk t.ps k + 1) q.2, TreeM l m h c := fun c hcm => by
  rcases ins_mem hcm with rfl | w
  ·exact f2 q hr
  ·rcases set_mem w with rfl | ⟨j, hj, hjc⟩
   ·exact f1
   ·exact f3 j c hj hjc
 have hmap : (ins (t.ks.set (rk t.ps k) (addB h (kid t (rk t.ps k)) (k, e) os).1) (rk t.ps k + 1) q.2).map BT.o = ins (t.ks.map BT.o) (rk t.ps k + 1) q.2.o := by rw [ins_map, set_o hc put_o]
 refine ⟨?_, fun u hu => ?_, f4⟩
 ·rw [he]
  refine ⟨?_, fun c hcm => hkids c (List.mem_of_mem_take hcm)⟩
  show NodeM l m t.o _ false ((List.take 4 _).map BT.o) (tot (h + 1) _)
  rw [List.map_take, hmap]
  exact hN
 ·rw [he] at hu
  cases hu
  dsimp only
  rw [hhd]
  refine ⟨?_, fun c hcm => hkids c (List.mem_of_mem_drop hcm)⟩
  show NodeM l m o2 _ false ((List.drop 4 _).map BT.o) (tot (h + 1) _)
  rw [List.map_drop, hmap]
  exact hN2
end
end Go.Proofs.Ytjekhcojebgpnaa.Bt
