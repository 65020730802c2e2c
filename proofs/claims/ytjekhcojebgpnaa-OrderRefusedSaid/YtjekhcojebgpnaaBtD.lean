/- A balanced tree: a pair is taken out, and what is left. No program's code. -/
import Derived.Test.YtjekhcojebgpnaaBtC
set_option linter.unusedVariables false
set_option linter.unusedSimpArgs false
set_option linter.unusedSectionVars false
namespace Go.Proofs.Ytjekhcojebgpnaa.Bt
open Go.RowKit Go.Proofs
def pr (t : BT) (i : Nat) : Pr := (t.ps[i]?).getD default
/-- The pair with the greatest key. -/
def lastB : Nat → BT → Pr
 | 0, t => t.ps.getLastD default
 | h + 1, t => lastB h (kid t t.ps.length)
/-- b's last goes up, what stood between goes down to c. -/
def rotR (b c : BT) (s : Pr) : BT × Pr × BT := (.nd b.o b.ps.dropLast b.ks.dropLast, b.ps.getLastD default, .nd c.o (s :: c.ps) (b.ks.getLast?.toList ++ c.ks))
/-- d's first goes up, what stood between goes down to c. -/
def rotL (c d : BT) (s : Pr) : BT × Pr × BT := (.nd c.o (c.ps ++ [s]) (c.ks ++ d.ks.head?.toList), d.ps.headD default, .nd d.o d.ps.tail d.ks.tail)
def joinB (c d : BT) (s : Pr) : BT := .nd c.o (c.ps ++ s :: d.ps) (c.ks ++ d.ks)
def joinAt (t : BT) (i : Nat) : BT := .nd t.o (t.ps.eraseIdx i) ((t.ks.set i (joinB (kid t i) (kid t (i + 1)) (pr t i))).eraseIdx (i + 1))
def turnAt (t : BT) (i : Nat) (r : BT × Pr × BT) : BT := .nd t.o (t.ps.set i r.2.1) ((t.ks.set i r.1).set (i + 1) r.2.2)
/-- The i-th node below gets pairs from a neighbour, or is joined with one, if it holds too few. -/
def fillB (t : BT) (i : Nat) : BT :=
 if 3 ≤ (kid t i).ps.length then t
 else if 0 < i ∧ 3 < (kid t (i - 1)).ps.length then turnAt t (i - 1) (rotR (kid t (i - 1)) (kid t i) (pr t (i - 1)))
 else if i < t.ps.length then
  if 3 < (kid t (i + 1)).ps.length then turnAt t i (rotL (kid t i) (kid t (i + 1)) (pr t i)) else joinAt t i
 else joinAt t (i - 1)
/-- The nodes that are free then. -/
def fillG (t : BT) (i : Nat) : List Nat :=
 if 3 ≤ (kid t i).ps.length then []
 else if 0 < i ∧ 3 < (kid t (i - 1)).ps.length then []
 else if i < t.ps.length then
  if 3 < (kid t (i + 1)).ps.length then [] else [(kid t (i + 1)).o]
 else [(kid t i).o]
/-- Is the key one of the node's own? -/
def own (t : BT) (k : ByteArray) : Bool := decide (rk t.ps k < t.ps.length ∧ (pr t (rk t.ps k)).1 = k)
/-- The node behind the first step of a taking: the key's own pair is replaced. -/
def takeP (h : Nat) (t : BT) (k : ByteArray) : List Pr := if own t k then t.ps.set (rk t.ps k) (lastB h (kid t (rk t.ps k))) else t.ps
def takeK (h : Nat) (t : BT) (k : ByteArray) : ByteArray := if own t k then (lastB h (kid t (rk t.ps k))).1 else k
/-- A key that is there is taken out. -/
def takeB : Nat → BT → ByteArray → BT
 | 0, t, k => .nd t.o (t.ps.eraseIdx (rk t.ps k)) []
 | h + 1, t, k => fillB (.nd t.o (takeP h t k) (t.ks.set (rk t.ps k) (takeB h (kid t (rk t.ps k)) (takeK h t k)))) (rk t.ps k)
def takeG : Nat → BT → ByteArray → List Nat
 | 0, t, k => []
 | h + 1, t, k => takeG h (kid t (rk t.ps k)) (takeK h t k) ++ fillG (.nd t.o (takeP h t k) (t.ks.set (rk t.ps k) (takeB h (kid t (rk t.ps k)) (takeK h t k)))) (rk t.ps k)
section
variable {A : Type}
/-- Two neighbours and what stands between them. -/
theorem il_mid : ∀ (a : List (List A)) (a' : List A) (b : List (List A)) (b' : List A), a.length = a'.length → b.length = b'.length →
  ∃ pre post, (∀ x s y, il (a ++ x :: y :: b) (a' ++ s :: b') = pre ++ (x ++ s :: y) ++ post) ∧ ∀ z, il (a ++ z :: b) (a' ++ b') = pre ++ z ++ post
 | [], [], [], [], _, _ => ⟨[], [], fun x s y => by simp [il], fun z => by simp [il]⟩
 | [], [], u :: b, p :: b', _, h => ⟨[], p :: il (u :: b) b', fun x s y => by simp [il], fun z => by simp [il]⟩
 | [], [], [], p :: b', _, h => by simp at h
 | [], [], u :: b, [], _, h => by simp at h
 | [], p :: a', b, b', h, _ => by simp at h
 | u :: a, [], b, b', h, _ => by simp at h
 | u :: a, p :: a', b, b', h1, h2 => by
  obtain ⟨pre, post, q1, q2⟩ := il_mid a a' b b' (by simpa using h1) h2
  exact ⟨u ++ p :: pre, post, fun x s y => by simp [il, q1], fun z => by simp [il, q2]⟩
theorem il_end : ∀ {a : List (List A)} {a' : List A}, a.length = a'.length → ∃ pre, ∀ z, il (a ++ [z]) a' = pre ++ z
 | [], [], _ => ⟨[], fun z => by simp [il]⟩
 | [], p :: a', h => by simp at h
 | u :: a, [], h => by simp at h
 | u :: a, p :: a', h => by
  obtain ⟨pre, q⟩ := il_end (a := a) (a' := a') (by simpa using h)
  exact ⟨u ++ p :: pre, fun z => by simp [il, q]⟩
theorem getLast_app : ∀ {l : List A} (d : A), l ≠ [] → l = l.dropLast ++ [l.getLastD d]
 | [], d, h => absurd rfl h
 | x :: l, d, _ => by
  rw [List.getLastD_cons, ← List.getLast_eq_getLastD (h := by simp)]
  exact (List.dropLast_concat_getLast (by simp)).symm
theorem getLast_opt : ∀ {l : List A}, l ≠ [] → ∃ x, l.getLast? = some x ∧ l = l.dropLast ++ [x]
 | l, h => ⟨l.getLast h, List.getLast?_eq_some_getLast h, (List.dropLast_concat_getLast h).symm⟩
end
theorem last_law : ∀ {h : Nat} {t : BT}, ok h 1 t → ∃ init, lst h t = init ++ [lastB h t]
 | 0, t, hok => ⟨t.ps.dropLast, getLast_app default (fun e => by have := hok.1; rw [show t.ps = [] from e] at this; simp at this)⟩
 | h + 1, .nd o ps ks, ⟨h1, h2, h3, h4⟩ => by
  dsimp only [BT.ps, BT.ks] at h1 h2 h3 h4
  obtain ⟨x, hx, e⟩ := getLast_opt (l := ks) (fun e => by rw [e] at h3; simp at h3)
  have hl : ks.dropLast.length = ps.length := by simp; omega
  have hxm : x ∈ ks := by rw [e]; simp
  have hk : kid (.nd o ps ks) ps.length = x := by
   rw [e, ← hl]; exact kid_mid _ [] x
  have hok1 : ok h 1 x := by
   have := h4 x hxm
   cases h with
   | zero => exact ⟨by have := this.1; omega, this.2⟩
   | succ h => exact ⟨by have := this.1; omega, this.2⟩
  obtain ⟨init, hi⟩ := last_law hok1
  obtain ⟨pre, hp⟩ := il_end (a := ks.dropLast.map (lst h)) (a' := ps) (by simpa using hl)
  refine ⟨pre ++ init, ?_⟩
  show il (ks.map (lst h)) ps = _ ++ [lastB h (kid (.nd o ps ks) ps.length)]
  rw [hk, e, List.map_append, List.map_singleton, hp, hi, List.append_assoc]
theorem ok_mono : ∀ {h lo lo' : Nat} {t : BT}, lo' ≤ lo → ok h lo t → ok h lo' t
 | 0, lo, lo', t, q, h => ⟨Nat.le_trans q h.1, h.2⟩
 | _ + 1, lo, lo', t, q, h => ⟨Nat.le_trans q h.1, h.2⟩
theorem ok_len : ∀ {h lo : Nat} {t : BT}, ok h lo t → lo ≤ t.ps.length ∧ t.ps.length ≤ 7
 | 0, _, _, h => ⟨h.1, h.2.1⟩
 | _ + 1, _, _, h => ⟨h.1, h.2.1⟩
/-- What holds of two neighbours that were (b, s, c) and are (b', s', c'). -/
structure Turned (h : Nat) (b : BT) (s : Pr) (c : BT) (r : BT × Pr × BT) : Prop where
 lst : lst h b ++ s :: lst h c = lst h r.1 ++ r.2.1 :: Bt.lst h r.2.2
 ok1 : ok h 3 r.1
 ok2 : ok h 3 r.2.2
 o1 : r.1.o = b.o
 o2 : r.2.2.o = c.o
 offs : (offs h b ++ offs h c).Perm (offs h r.1 ++ Bt.offs h r.2.2)
theorem rotR_law : ∀ {h : Nat} {b c : BT} (s : Pr), ok h 3 b → 3 < b.ps.length → ok h 2 c → c.ps.length < 3 → Turned h b s c (rotR b c s)
 | 0, .nd ob bp bk, .nd oc cp ck, s, ⟨b1, b2, b3⟩, hb, ⟨c1, c2, c3⟩, hc => by
  dsimp only [BT.ps, BT.ks] at b1 b2 b3 hb c1 c2 c3 hc
  subst b3; subst c3
  have hne : bp ≠ [] := fun e => by rw [e] at hb; simp at hb
  refine ⟨?_, ⟨by simp [rotR, BT.ps]; omega, by simp [rotR, BT.ps]; omega, rfl⟩, ⟨by simp [rotR, BT.ps]; omega, by simp [rotR, BT.ps]; omega, rfl⟩, rfl, rfl, .refl _⟩
  show bp ++ s :: cp = bp.dropLast ++ bp.getLastD default :: s :: cp
  have e := getLast_app default hne
  generalize bp.dropLast = d at e
  generalize bp.getLastD default = x at e
  rw [e, List.append_assoc]; rfl
 | h + 1, .nd ob bp bk, .nd oc cp ck, s, ⟨b1, b2, b3, b4⟩, hb, ⟨c1, c2, c3, c4⟩, hc => by
  dsimp only [BT.ps, BT.ks] at b1 b2 b3 b4 hb c1 c2 c3 c4 hc
  have hne : bp ≠ [] := fun e => by rw [e] at hb; simp at hb
  obtain ⟨x, hx, e2⟩ := getLast_opt (l := bk) (fun e => by rw [e] at b3; simp at b3)
  have e := getLast_app default hne
  have hdl : bp.dropLast.length = bp.length - 1 := List.length_dropLast
  have hdk : bk.dropLast.length = bk.length - 1 := List.length_dropLast
  have hxm : x ∈ bk := by rw [e2]; simp
  have hr : rotR (.nd ob bp bk) (.nd oc cp ck) s = (.nd ob bp.dropLast bk.dropLast, bp.getLastD default, .nd oc (s :: cp) (x :: ck)) := by
   unfold rotR
   dsimp only [BT.ps, BT.ks, BT.o]
   rw [hx]; rfl
  rw [hr]
  refine ⟨?_, ⟨by dsimp only [BT.ps]; omega, by dsimp only [BT.ps]; omega, by dsimp only [BT.ps, BT.ks]; omega, fun k hk => b4 k ((List.dropLast_sublist _).subset hk)⟩, ⟨by simp [BT.ps]; omega, by simp [BT.ps]; omega, by simp [BT.ps, BT.ks]; omega, fun k hk => ?_⟩, rfl, rfl, ?_⟩
  ·show il (bk.map (lst h)) bp ++ s :: il (ck.map (lst h)) cp = il (bk.dropLast.map (lst h)) bp.dropLast ++ bp.getLastD default :: (lst h x ++ s :: il (ck.map (lst h)) cp)
   have e3 := il_two (ls := bk.dropLast.map (lst h)) (ms := [lst h x]) (ps := bp.dropLast) (qs := []) (q := bp.getLastD default) (by simp; omega)
   have e4 : il (bk.map (lst h)) bp = il (bk.dropLast.map (lst h)) bp.dropLast ++ bp.getLastD default :: lst h x := by
    refine Eq.trans ?_ e3
    have : bk.map (lst h) = bk.dropLast.map (lst h) ++ [lst h x] := by
     rw [← List.map_singleton (f := lst h), ← List.map_append, ← e2]
    rw [this, ← e]
   rw [e4]
   simp
  ·rcases List.mem_cons.1 hk with rfl | q
   ·exact b4 _ hxm
   ·exact c4 k q
  ·show (ob :: (bk.map (offs h)).flatten ++ oc :: (ck.map (offs h)).flatten).Perm (ob :: (bk.dropLast.map (offs h)).flatten ++ oc :: (offs h x ++ (ck.map (offs h)).flatten))
   have : (bk.map (offs h)).flatten = (bk.dropLast.map (offs h)).flatten ++ offs h x := by
    have e5 : bk.map (offs h) = bk.dropLast.map (offs h) ++ [offs h x] := by
     rw [← List.map_singleton (f := offs h), ← List.map_append, ← e2]
    rw [e5]; simp
   rw [this]
   simp only [List.cons_append, List.append_assoc]
   refine List.Perm.cons _ (List.Perm.append_left _ ?_)
   exact List.perm_middle
theorem rotL_law : ∀ {h : Nat} {c d : BT} (s : Pr), ok h 2 c → c.ps.length < 3 → ok h 3 d → 3 < d.ps.length → Turned h c s d (rotL c d s)
 | 0, .nd oc cp ck, .nd od dp dk, s, ⟨c1, c2, c3⟩, hc, ⟨d1, d2, d3⟩, hd => by
  dsimp only [BT.ps, BT.ks] at d1 d2 d3 hd c1 c2 c3 hc
  subst d3; subst c3
  cases dp with
  | nil => simp at hd
  | cons x dp =>
   simp only [List.length_cons] at d1 d2 hd
   refine ⟨?_, ⟨by simp [rotL, BT.ps]; omega, by simp [rotL, BT.ps]; omega, rfl⟩, ⟨by simp [rotL, BT.ps]; omega, by simp [rotL, BT.ps]; omega, rfl⟩, rfl, rfl, .refl _⟩
   show cp ++ s :: x :: dp = (cp ++ [s]) ++ x :: dp
   simp
 | h + 1, .nd oc cp ck, .nd od dp dk, s, ⟨c1, c2, c3, c4⟩, hc, ⟨d1, d2, d3, d4⟩, hd => by
  dsimp only [BT.ps, BT.ks] at d1 d2 d3 d4 hd c1 c2 c3 c4 hc
  cases dp with
  | nil => simp at hd
  | cons x dp =>
   cases dk with
   | nil => simp at d3
   | cons y dk =>
    simp only [List.length_cons] at d1 d2 d3 hd
    refine ⟨?_, ⟨by simp [rotL, BT.ps]; omega, by simp [rotL, BT.ps]; omega, by simp [rotL, BT.ps, BT.ks]; omega, fun k hk => ?_⟩, ⟨by simp [rotL, BT.ps]; omega, by simp [rotL, BT.ps]; omega, by simp [rotL, BT.ps, BT.ks]; omega, fun k hk => d4 k (List.mem_cons_of_mem _ hk)⟩, rfl, rfl, ?_⟩
    ·show il (ck.map (lst h)) cp ++ s :: (lst h y ++ x :: il (dk.map (lst h)) dp) = il ((ck ++ [y]).map (lst h)) (cp ++ [s]) ++ x :: il (dk.map (lst h)) dp
     have e3 := il_two (ls := ck.map (lst h)) (ms := [lst h y]) (ps := cp) (qs := []) (q := s) (by simp; omega)
     rw [List.map_append, List.map_singleton, e3]
     simp [il]
    ·rcases List.mem_append.1 hk with q | q
     ·exact c4 k q
     ·exact d4 k (by rw [List.mem_singleton.1 q]; exact List.mem_cons_self)
    ·show (oc :: (ck.map (offs h)).flatten ++ od :: ((y :: dk).map (offs h)).flatten).Perm (oc :: ((ck ++ [y]).map (offs h)).flatten ++ od :: (dk.map (offs h)).flatten)
     simp only [List.cons_append, List.map_append, List.map_cons, List.map_nil, List.flatten_append, List.flatten_cons, List.flatten_nil, List.append_nil, List.append_assoc]
     refine List.Perm.cons _ (List.Perm.append_left _ ?_)
     exact List.perm_middle.symm
theorem join_law : ∀ {h : Nat} {c d : BT} (s : Pr), ok h 2 c → ok h 2 d → c.ps.length + d.ps.length ≤ 6 →
  lst h (joinB c d s) = lst h c ++ s :: lst h d ∧ ok h 3 (joinB c d s) ∧ (offs h c ++ offs h d).Perm (offs h (joinB c d s) ++ [d.o])
 | 0, .nd oc cp ck, .nd od dp dk, s, ⟨c1, c2, c3⟩, ⟨d1, d2, d3⟩, hl => by
  dsimp only [BT.ps, BT.ks] at d1 d2 d3 c1 c2 c3 hl
  subst d3; subst c3
  exact ⟨rfl, ⟨by simp [joinB, BT.ps]; omega, by simp [joinB, BT.ps]; omega, rfl⟩, .refl _⟩
 | h + 1, .nd oc cp ck, .nd od dp dk, s, ⟨c1, c2, c3, c4⟩, ⟨d1, d2, d3, d4⟩, hl => by
  dsimp only [BT.ps, BT.ks] at d1 d2 d3 d4 c1 c2 c3 c4 hl
  refine ⟨?_, ⟨by simp [joinB, BT.ps]; omega, by simp [joinB, BT.ps]; omega, by simp [joinB, BT.ps, BT.ks]; omega, fun k hk => ?_⟩, ?_⟩
  ·show il ((ck ++ dk).map (lst h)) (cp ++ s :: dp) = _
   rw [List.map_append, il_two (by simp; omega)]; rfl
  ·rcases List.mem_append.1 hk with q | q
   ·exact c4 k q
   ·exact d4 k q
  ·show (oc :: (ck.map (offs h)).flatten ++ od :: (dk.map (offs h)).flatten).Perm (oc :: ((ck ++ dk).map (offs h)).flatten ++ [od])
   simp only [List.cons_append, List.map_append, List.flatten_append, List.append_assoc]
   refine List.Perm.cons _ (List.Perm.append_left _ ?_)
   exact (List.perm_append_singleton _ _).symm
/-- Two neighbours in a node. -/
theorem nb {ps : List Pr} {ks : List BT} {j : Nat} (hk : ks.length = ps.length + 1) (hj : j < ps.length) : ∃ A A' B B' x s y, ps = A' ++ s :: B' ∧ ks = A ++ x :: y :: B ∧ A.length = j ∧ A'.length = j ∧ B.length = B'.length := by
 refine ⟨ks.take j, ps.take j, ks.drop (j + 2), ps.drop (j + 1), ks[j]'(by omega), ps[j], ks[j + 1]'(by omega), by simp, ?_, by simp; omega, by simp; omega, by simp; omega⟩
 have h1 : ks.drop (j + 1) = ks[j + 1]'(by omega) :: ks.drop (j + 2) := (List.getElem_cons_drop (by omega)).symm
 have h2 : ks.drop j = ks[j]'(by omega) :: ks.drop (j + 1) := (List.getElem_cons_drop (by omega)).symm
 rw [← h1, ← h2, List.take_append_drop]
theorem kid_nb {o : Nat} {ps : List Pr} (a b : List BT) (x y : BT) : kid (.nd o ps (a ++ x :: y :: b)) a.length = x ∧ kid (.nd o ps (a ++ x :: y :: b)) (a.length + 1) = y := by
 constructor
 ·exact kid_mid a (y :: b) x
 ·have := kid_mid (o := o) (ps := ps) (a ++ [x]) b y
  simpa using this
theorem pr_mid {o : Nat} {ks : List BT} (a b : List Pr) (s : Pr) : pr (.nd o (a ++ s :: b) ks) a.length = s := by simp [pr, BT.ps]
theorem turn_mid {o : Nat} (A B : List BT) (A' B' : List Pr) (x y : BT) (s : Pr) (h : A.length = A'.length) (r : BT × Pr × BT) : turnAt (.nd o (A' ++ s :: B') (A ++ x :: y :: B)) A.length r = .nd o (A' ++ r.2.1 :: B') (A ++ r.1 :: r.2.2 :: B) := by
 unfold turnAt
 dsimp only [BT.o, BT.ps, BT.ks]
 have e1 : (A' ++ s :: B').set A.length r.2.1 = A' ++ r.2.1 :: B' := by rw [h]; exact set_mid _ _ _ _
 have e2 := set_mid A (y :: B) x r.1
 have e3 := set_mid (A ++ [r.1]) B y r.2.2
 rw [e1, e2]
 simp at e3 ⊢
theorem join_mid {o : Nat} (A B : List BT) (A' B' : List Pr) (x y : BT) (s : Pr) (h : A.length = A'.length) : joinAt (.nd o (A' ++ s :: B') (A ++ x :: y :: B)) A.length = .nd o (A' ++ B') (A ++ joinB x y s :: B) := by
 unfold joinAt
 have hk := kid_nb (o := o) (ps := A' ++ s :: B') A B x y
 rw [hk.1, hk.2]
 have hp : pr (.nd o (A' ++ s :: B') (A ++ x :: y :: B)) A.length = s := by rw [h]; exact pr_mid _ _ _
 rw [hp]
 dsimp only [BT.o, BT.ps, BT.ks]
 have e1 : (A' ++ s :: B').eraseIdx A.length = A' ++ B' := by rw [h]; simp [List.eraseIdx_append_of_length_le]
 have e2 := set_mid A (y :: B) x (joinB x y s)
 rw [e1, e2]
 have e3 : (A ++ joinB x y s :: y :: B).eraseIdx (A.length + 1) = A ++ joinB x y s :: B := by simp [List.eraseIdx_append_of_length_le]
 rw [e3]
/-- Two neighbours turned: the node's list and its nodes are the same. -/
theorem turn_law {h lo o : Nat} {A B : List BT} {A' B' : List Pr} {x y : BT} {s : Pr} {r : BT × Pr × BT} (hA : A.length = A'.length) (hB : B.length = B'.length) (hl : lo ≤ (A' ++ s :: B').length) (hl2 : (A' ++ s :: B').length ≤ 7)
  (ho : ∀ k ∈ A ++ B, ok h 3 k) (ht : Turned h x s y r) :
  lst (h + 1) (.nd o (A' ++ r.2.1 :: B') (A ++ r.1 :: r.2.2 :: B)) = lst (h + 1) (.nd o (A' ++ s :: B') (A ++ x :: y :: B)) ∧ ok (h + 1) lo (.nd o (A' ++ r.2.1 :: B') (A ++ r.1 :: r.2.2 :: B)) ∧
   (offs (h + 1) (.nd o (A' ++ s :: B') (A ++ x :: y :: B))).Perm (offs (h + 1) (.nd o (A' ++ r.2.1 :: B') (A ++ r.1 :: r.2.2 :: B))) := by
 refine ⟨?_, ⟨by simpa [BT.ps] using hl, by simpa [BT.ps] using hl2, by simp [BT.ps, BT.ks]; omega, fun k hk => ?_⟩, ?_⟩
 ·obtain ⟨pre, post, q, _⟩ := il_mid (A.map (lst h)) A' (B.map (lst h)) B' (by simpa using hA) (by simpa using hB)
  show il ((A ++ r.1 :: r.2.2 :: B).map (lst h)) (A' ++ r.2.1 :: B') = il ((A ++ x :: y :: B).map (lst h)) (A' ++ s :: B')
  simp only [List.map_append, List.map_cons]
  rw [q, q, ht.lst]
 ·have hk' : k ∈ A ++ r.1 :: r.2.2 :: B := hk
  rcases List.mem_append.1 hk' with z | z
  ·exact ho k (by simp [z])
  ·rcases List.mem_cons.1 z with rfl | z
   ·exact ht.ok1
   ·rcases List.mem_cons.1 z with rfl | z
    ·exact ht.ok2
    ·exact ho k (by simp [z])
 ·show (o :: ((A ++ x :: y :: B).map (offs h)).flatten).Perm (o :: ((A ++ r.1 :: r.2.2 :: B).map (offs h)).flatten)
  simp only [List.map_append, List.map_cons, List.flatten_append, List.flatten_cons]
  refine List.Perm.cons _ (List.Perm.append_left _ ?_)
  rw [← List.append_assoc, ← List.append_assoc]
  exact ht.offs.append_right _
/-- Two neighbours joined. -/
theorem joined_law {h lo o : Nat} {A B : List BT} {A' B' : List Pr} {x y : BT} {s : Pr} (hA : A.length = A'.length) (hB : B.length = B'.length) (hl : lo ≤ (A' ++ s :: B').length) (hl2 : (A' ++ s :: B').length ≤ 7)
  (ho : ∀ k ∈ A ++ B, ok h 3 k) (hx : ok h 2 x) (hy : ok h 2 y) (hxy : x.ps.length + y.ps.length ≤ 6) :
  lst (h + 1) (.nd o (A' ++ B') (A ++ joinB x y s :: B)) = lst (h + 1) (.nd o (A' ++ s :: B') (A ++ x :: y :: B)) ∧ ok (h + 1) (lo - 1) (.nd o (A' ++ B') (A ++ joinB x y s :: B)) ∧
   (offs (h + 1) (.nd o (A' ++ s :: B') (A ++ x :: y :: B))).Perm (offs (h + 1) (.nd o (A' ++ B') (A ++ joinB x y s :: B)) ++ [y.o]) := by
 obtain ⟨j1, j2, j3⟩ := join_law s hx hy hxy
 refine ⟨?_, ⟨by simp at hl; simp [BT.ps]; omega, by simp at hl2; simp [BT.ps]; omega, by simp [BT.ps, BT.ks]; omega, fun k hk => ?_⟩, ?_⟩
 ·obtain ⟨pre, post, q, q2⟩ := il_mid (A.map (lst h)) A' (B.map (lst h)) B' (by simpa using hA) (by simpa using hB)
  show il ((A ++ joinB x y s :: B).map (lst h)) (A' ++ B') = il ((A ++ x :: y :: B).map (lst h)) (A' ++ s :: B')
  simp only [List.map_append, List.map_cons]
  rw [q, q2, j1]
 ·have hk' : k ∈ A ++ joinB x y s :: B := hk
  rcases List.mem_append.1 hk' with z | z
  ·exact ho k (by simp [z])
  ·rcases List.mem_cons.1 z with rfl | z
   ·exact j2
   ·exact ho k (by simp [z])
 ·show (o :: ((A ++ x :: y :: B).map (offs h)).flatten).Perm (o :: ((A ++ joinB x y s :: B).map (offs h)).flatten ++ [y.o])
  simp only [List.map_append, List.map_cons, List.flatten_append, List.flatten_cons, List.cons_append, List.append_assoc]
  refine List.Perm.cons _ (List.Perm.append_left _ ?_)
  rw [← List.append_assoc]
  refine (j3.append_right _).trans ?_
  rw [List.append_assoc]
  exact List.Perm.append_left _ List.perm_append_comm
/-- What a filling does: the same list, its nodes full enough. -/
theorem fill_law {h lo o i : Nat} {ps : List Pr} {ks : List BT} (h0 : 1 ≤ lo) (h1 : lo ≤ ps.length) (h2 : ps.length ≤ 7) (h3 : ks.length = ps.length + 1) (hi : i ≤ ps.length) (h4 : ∀ j, j ≠ i → ∀ k, ks[j]? = some k → ok h 3 k) (h5 : ok h 2 (kid (.nd o ps ks) i)) :
  lst (h + 1) (fillB (.nd o ps ks) i) = lst (h + 1) (.nd o ps ks) ∧ ok (h + 1) (lo - 1) (fillB (.nd o ps ks) i) ∧ (fillB (.nd o ps ks) i).o = o ∧
   (offs (h + 1) (.nd o ps ks)).Perm (offs (h + 1) (fillB (.nd o ps ks) i) ++ fillG (.nd o ps ks) i) := by
 have hall : ∀ (A B : List BT) (x y : BT), ks = A ++ x :: y :: B → (i = A.length ∨ i = A.length + 1) → ∀ k ∈ A ++ B, ok h 3 k := fun A B x y e hi k hk => by
  subst e
  rcases List.mem_append.1 hk with q | q
  ·obtain ⟨j, hj, rfl⟩ := List.getElem_of_mem q
   exact h4 j (by omega) _ (by rw [List.getElem?_append_left hj, List.getElem?_eq_getElem hj])
  ·obtain ⟨j, hj, rfl⟩ := List.getElem_of_mem q
   refine h4 (A.length + (j + 2)) (by omega) _ ?_
   rw [List.getElem?_append_right (by omega), show A.length + (j + 2) - A.length = j + 2 by omega]
   simp [hj]
 have hother : ∀ j, j ≠ i → j < ks.length → ok h 3 (kid (.nd o ps ks) j) := fun j hj hl => by
  unfold kid
  rw [show (BT.nd o ps ks).ks = ks from rfl, List.getElem?_eq_getElem hl]
  exact h4 j hj _ (List.getElem?_eq_getElem hl)
 have hL := fun j (hj : j < ps.length) => nb h3 hj
 unfold fillB fillG
 by_cases c1 : 3 ≤ (kid (.nd o ps ks) i).ps.length
 ·rw [if_pos c1, if_pos c1, List.append_nil]
  refine ⟨rfl, ⟨by dsimp only [BT.ps]; omega, h2, h3, fun k hk => ?_⟩, rfl, .refl _⟩
  obtain ⟨j, hj, rfl⟩ := List.getElem_of_mem (show k ∈ ks from hk)
  by_cases q : j = i
  ·subst q
   have e : kid (.nd o ps ks) j = ks[j] := by
    unfold kid
    rw [show (BT.nd o ps ks).ks = ks from rfl, List.getElem?_eq_getElem hj]; rfl
   rw [e] at h5 c1
   cases h with
   | zero => exact ⟨c1, h5.2⟩
   | succ h => exact ⟨c1, h5.2⟩
  ·exact h4 j q _ (List.getElem?_eq_getElem hj)
 ·rw [if_neg c1, if_neg c1]
  by_cases c2 : 0 < i ∧ 3 < (kid (.nd o ps ks) (i - 1)).ps.length
  ·rw [if_pos c2, if_pos c2, List.append_nil]
   obtain ⟨A, A', B, B', x, s, y, rfl, rfl, hA, hA', hB⟩ := hL (i - 1) (by omega)
   obtain ⟨k1, k2⟩ := kid_nb (o := o) (ps := A' ++ s :: B') A B x y
   have e1 : A.length + 1 = i := by omega
   rw [hA] at k1
   rw [e1] at k2
   rw [k2] at h5 c1
   rw [k1] at c2
   rw [k1, k2]
   rw [show pr (.nd o (A' ++ s :: B') (A ++ x :: y :: B)) (i - 1) = s by rw [← hA']; exact pr_mid _ _ _, ← hA, turn_mid A B A' B' x y s (hA.trans hA'.symm)]
   have hx : ok h 3 x := by have := hother (i - 1) (by omega) (by omega); rwa [k1] at this
   have := turn_law (o := o) (lo := lo) (hA.trans hA'.symm) hB h1 h2 (hall A B x y rfl (.inr e1.symm)) (rotR_law s hx c2.2 h5 (by omega))
   exact ⟨this.1, ok_mono (by omega) this.2.1, rfl, this.2.2⟩
  ·rw [if_neg c2, if_neg c2]
   by_cases c3 : i < (BT.nd o ps ks).ps.length
   ·rw [if_pos c3, if_pos c3]
    obtain ⟨A, A', B, B', x, s, y, rfl, rfl, hA, hA', hB⟩ := hL i c3
    obtain ⟨k1, k2⟩ := kid_nb (o := o) (ps := A' ++ s :: B') A B x y
    have hAA := hA.trans hA'.symm
    subst hA
    have hy : ok h 3 y := by have := hother (A.length + 1) (by omega) (by simp); rwa [k2] at this
    rw [k1] at h5 c1
    have hal := hall A B x y rfl (.inl rfl)
    by_cases c4 : 3 < (kid (.nd o (A' ++ s :: B') (A ++ x :: y :: B)) (A.length + 1)).ps.length
    ·rw [if_pos c4, if_pos c4, List.append_nil]
     rw [k2] at c4
     rw [k1, k2, show pr (.nd o (A' ++ s :: B') (A ++ x :: y :: B)) A.length = s by rw [hAA]; exact pr_mid _ _ _, turn_mid A B A' B' x y s hAA]
     have := turn_law (o := o) (lo := lo) hAA hB h1 h2 hal (rotL_law s h5 (by omega) hy c4)
     exact ⟨this.1, ok_mono (by omega) this.2.1, rfl, this.2.2⟩
    ·rw [if_neg c4, if_neg c4]
     rw [k2] at c4
     rw [join_mid A B A' B' x y s hAA, k2]
     have := joined_law (o := o) (lo := lo) hAA hB h1 h2 hal h5 (ok_mono (by omega) hy) (by omega)
     exact ⟨this.1, this.2.1, rfl, this.2.2⟩
   ·rw [if_neg c3, if_neg c3]
    have c3' : ¬ i < ps.length := c3
    obtain ⟨A, A', B, B', x, s, y, rfl, rfl, hA, hA', hB⟩ := hL (i - 1) (by omega)
    obtain ⟨k1, k2⟩ := kid_nb (o := o) (ps := A' ++ s :: B') A B x y
    have e1 : A.length + 1 = i := by omega
    have hx : ok h 3 x := by have := hother (i - 1) (by omega) (by omega); rwa [← hA, k1] at this
    rw [← hA, k1] at c2
    rw [← e1, k2] at h5 c1 ⊢
    rw [show A.length + 1 - 1 = A.length by omega, join_mid A B A' B' x y s (hA.trans hA'.symm)]
    have := joined_law (o := o) (lo := lo) (hA.trans hA'.symm) hB h1 h2 (hall A B x y rfl (.inr e1.symm)) (ok_mono (by omega) hx) h5 (by omega)
    exact ⟨this.1, this.2.1, rfl, this.2.2⟩
theorem delL_no {k : ByteArray} {L : List Pr} (h : ∀ p ∈ L, p.1 ≠ k) : delL k L = L := List.filter_eq_self.2 fun p hp => by simpa using h p hp
theorem delL_mid {k : ByteArray} {a b : List Pr} {p : Pr} (hs : SL (a ++ p :: b)) (hp : p.1 = k) : delL k (a ++ p :: b) = a ++ b := by
 have h1 := SL.app hs
 have h2 := List.pairwise_cons.1 h1.2.1
 have ha : ∀ q ∈ a, q.1 ≠ k := fun q hq => by rw [← hp]; exact lt_ne (h1.2.2 q hq p (by simp))
 have hb : ∀ q ∈ b, q.1 ≠ k := fun q hq => by rw [← hp]; exact fun e => lt_ne (h2.1 q hq) e.symm
 unfold delL
 rw [List.filter_append, List.filter_cons, if_neg (by simp [hp])]
 exact congr (congrArg _ (delL_no ha)) (delL_no hb)
theorem mem_il_ps {ls : List (List Pr)} {ps : List Pr} (h : ls.length = ps.length + 1) (hs : SL (il ls ps)) : SL ps := by
 have : ∀ {ls : List (List Pr)} {ps : List Pr}, ls.length = ps.length + 1 → List.Sublist ps (il ls ps) := by
  intro ls
  induction ls with
  | nil => intro ps h; simp at h
  | cons a as ih =>
   intro ps h
   cases ps with
   | nil => exact List.nil_sublist _
   | cons p ps => exact (List.Sublist.cons_cons p (ih (by simpa using h))).trans (List.sublist_append_right a _)
 exact List.Pairwise.sublist (this h) hs
/-- The key is one of the node's own just if it is among its pairs. -/
theorem own_iff {ps : List Pr} {o : Nat} {ks : List BT} {k : ByteArray} (hs : SL ps) : own (.nd o ps ks) k = true ↔ ∃ p ∈ ps, p.1 = k := by
 unfold own
 rw [decide_eq_true_eq]
 constructor
 ·rintro ⟨h1, h2⟩
  have h1' : rk ps k < ps.length := h1
  refine ⟨ps[rk ps k], List.getElem_mem _, ?_⟩
  unfold pr at h2
  rw [show (BT.nd o ps ks).ps = ps from rfl, List.getElem?_eq_getElem h1'] at h2
  exact h2
 ·rintro ⟨p, hp, he⟩
  have := (il_own (ls := List.replicate (ps.length + 1) []) (ps := ps) (k := k) (p := p) (by simp) (by
   have : ∀ ps : List Pr, il (List.replicate (ps.length + 1) []) ps = ps := by
    intro ps
    induction ps with
    | nil => rfl
    | cons a r ih => rw [List.length_cons, List.replicate_succ]; simp only [il, List.nil_append]; rw [ih]
   rw [this]; exact hs) hp he).1
  obtain ⟨h1, h2⟩ := List.getElem?_eq_some_iff.1 this
  refine ⟨h1, ?_⟩
  unfold pr
  rw [show (BT.nd o ps ks).ps = ps from rfl, this]
  exact he
theorem take_o : ∀ {h : Nat} {t : BT} {k : ByteArray}, (takeB h t k).o = t.o
 | 0, t, k => rfl
 | h + 1, t, k => by
  show (fillB _ _).o = t.o
  unfold fillB
  split
  ·rfl
  ·split
   ·rfl
   ·split
    ·split <;> rfl
    ·rfl
/-- A key that is there is taken out of the tree. -/
theorem take_law : ∀ {h lo : Nat} {t : BT} {k : ByteArray}, 1 ≤ lo → ok h lo t → SL (lst h t) → (∃ p ∈ lst h t, p.1 = k) →
  lst h (takeB h t k) = delL k (lst h t) ∧ ok h (lo - 1) (takeB h t k) ∧ (offs h t).Perm (offs h (takeB h t k) ++ takeG h t k)
 | 0, lo, .nd o ps ks, k, h0, ⟨h1, h2, h3⟩, hs, ⟨p, hp, he⟩ => by
  dsimp only [BT.ps, BT.ks] at h1 h2 h3
  have hs' : SL ps := hs
  have hp' : p ∈ ps := hp
  have ho := (own_iff (o := o) (ks := ks) hs').2 ⟨p, hp', he⟩
  unfold own at ho
  rw [decide_eq_true_eq] at ho
  obtain ⟨hi, hk⟩ := ho
  have hi' : rk ps k < ps.length := hi
  obtain ⟨a, b, hab, hal⟩ := part_at (List.getElem?_eq_getElem hi')
  have hk' : ps[rk ps k].1 = k := by
   unfold pr at hk
   rw [show (BT.nd o ps ks).ps = ps from rfl, List.getElem?_eq_getElem hi'] at hk
   exact hk
  generalize ps[rk ps k] = q at hab hk'
  have e : ps.eraseIdx (rk ps k) = a ++ b := by rw [← hal]; conv => lhs; rw [hab]; simp [List.eraseIdx_append_of_length_le]
  have hl : ps.length = a.length + b.length + 1 := by rw [hab]; simp; omega
  refine ⟨?_, ⟨?_, ?_, rfl⟩, ?_⟩
  ·show ps.eraseIdx (rk ps k) = delL k ps
   rw [e, hab]
   rw [hab] at hs'
   exact (delL_mid hs' hk').symm
  ·show lo - 1 ≤ (ps.eraseIdx (rk ps k)).length
   rw [e, List.length_append]; omega
  ·show (ps.eraseIdx (rk ps k)).length ≤ 7
   rw [e, List.length_append]; omega
  ·exact .refl _
 | h + 1, lo, .nd o ps ks, k, h0, ⟨h1, h2, h3, h4⟩, hs, hex => by
  dsimp only [BT.ps, BT.ks] at h1 h2 h3 h4
  have hlen : (ks.map (lst h)).length = ps.length + 1 := by rw [List.length_map]; exact h3
  have hsp : SL ps := mem_il_ps hlen hs
  have hrl := rk_le ps k
  obtain ⟨i, hi⟩ : ∃ i, i = rk ps k := ⟨_, rfl⟩
  have hik : i < ks.length := by omega
  obtain ⟨A, B, hAB, hAl⟩ := part_at (List.getElem?_eq_getElem hik)
  obtain ⟨c, hc⟩ : ∃ c, c = ks[i] := ⟨_, rfl⟩
  rw [← hc] at hAB
  have hkid : kid (.nd o ps ks) i = c := by rw [← hAl, hAB]; exact kid_mid A B c
  have hcm : c ∈ ks := by rw [hAB]; simp
  have hokc := h4 c hcm
  have hset : ∀ y : BT, ks.set i y = A ++ y :: B := fun y => by rw [← hAl, hAB]; exact set_mid A B c y
  -- what a filling gives, for any new pairs and any new node below
  have hfill : ∀ (ps' : List Pr) (c' : BT) (L : List Pr) (g : List Nat), ps'.length = ps.length → ok h 2 c' → lst (h + 1) (.nd o ps' (A ++ c' :: B)) = L → (offs h c).Perm (offs h c' ++ g) →
    lst (h + 1) (fillB (.nd o ps' (A ++ c' :: B)) i) = L ∧ ok (h + 1) (lo - 1) (fillB (.nd o ps' (A ++ c' :: B)) i) ∧ (offs (h + 1) (.nd o ps ks)).Perm (offs (h + 1) (fillB (.nd o ps' (A ++ c' :: B)) i) ++ (g ++ fillG (.nd o ps' (A ++ c' :: B)) i)) := by
   intro ps' c' L g hpl hokc' hL hg
   have hkl : (A ++ c' :: B).length = ps'.length + 1 := by rw [hpl, ← h3, hAB]; simp
   obtain ⟨f1, f2, f3, f4⟩ := fill_law (h := h) (lo := lo) (o := o) (i := i) (ps := ps') (ks := A ++ c' :: B) h0 (by omega) (by omega) hkl (by omega) (fun j hj y hy => by
    refine h4 y ?_
    rw [hAB]
    rcases Nat.lt_trichotomy j i with q | q | q
    ·rw [List.getElem?_append_left (by omega)] at hy
     exact List.mem_append_left _ (List.mem_of_getElem? hy)
    ·exact absurd q hj
    ·rw [List.getElem?_append_right (by omega), show j - A.length = (j - A.length - 1) + 1 by omega, List.getElem?_cons_succ] at hy
     exact List.mem_append_right _ (List.mem_cons_of_mem _ (List.mem_of_getElem? hy))) (by rw [← hAl, kid_mid]; exact hokc')
   refine ⟨f1.trans hL, f2, ?_⟩
   have hp1 : (offs (h + 1) (.nd o ps ks)).Perm (offs (h + 1) (.nd o ps' (A ++ c' :: B)) ++ g) := by
    rw [hAB]
    show (o :: ((A ++ c :: B).map (offs h)).flatten).Perm (o :: ((A ++ c' :: B).map (offs h)).flatten ++ g)
    simp only [List.map_append, List.map_cons, List.flatten_append, List.flatten_cons, List.cons_append, List.append_assoc]
    refine List.Perm.cons _ (List.Perm.append_left _ ?_)
    refine (hg.append_right _).trans ?_
    rw [List.append_assoc]
    exact List.Perm.append_left _ List.perm_append_comm
   refine hp1.trans ((f4.append_right g).trans ?_)
   rw [List.append_assoc]
   exact List.Perm.append_left _ List.perm_append_comm
  have htk : takeB (h + 1) (.nd o ps ks) k = fillB (.nd o (takeP h (.nd o ps ks) k) (A ++ takeB h c (takeK h (.nd o ps ks) k) :: B)) i := by
   show fillB (.nd o (takeP h (.nd o ps ks) k) (ks.set (rk ps k) (takeB h (kid (.nd o ps ks) (rk ps k)) (takeK h (.nd o ps ks) k)))) (rk ps k) = _
   rw [← hi, hkid, hset]
  have htg : takeG (h + 1) (.nd o ps ks) k = takeG h c (takeK h (.nd o ps ks) k) ++ fillG (.nd o (takeP h (.nd o ps ks) k) (A ++ takeB h c (takeK h (.nd o ps ks) k) :: B)) i := by
   show takeG h (kid (.nd o ps ks) (rk ps k)) _ ++ fillG (.nd o (takeP h (.nd o ps ks) k) (ks.set (rk ps k) (takeB h (kid (.nd o ps ks) (rk ps k)) (takeK h (.nd o ps ks) k)))) (rk ps k) = _
   rw [← hi, hkid, hset]
  rw [htk, htg]
  by_cases hown : own (.nd o ps ks) k = true
  ·have hK : takeK h (.nd o ps ks) k = (lastB h c).1 := by
    show (if own (.nd o ps ks) k then (lastB h (kid (.nd o ps ks) (rk ps k))).1 else k) = _
    rw [if_pos hown, ← hi, hkid]
   have hP : takeP h (.nd o ps ks) k = ps.set i (lastB h c) := by
    show (if own (.nd o ps ks) k then ps.set (rk ps k) (lastB h (kid (.nd o ps ks) (rk ps k))) else ps) = _
    rw [if_pos hown, ← hi, hkid]
   rw [hK, hP]
   have ho := hown
   unfold own at ho
   rw [decide_eq_true_eq] at ho
   obtain ⟨hil, hpk⟩ := ho
   have hil' : i < ps.length := by rw [hi]; exact hil
   obtain ⟨init, hlast⟩ := last_law (ok_mono (show 1 ≤ 3 by omega) hokc)
   obtain ⟨A1, A', B1, B', x, s, y, hps, hks, hA, hA', hB⟩ := nb h3 hil'
   have hAA : A1 = A ∧ c = x ∧ B = y :: B1 := by
    rw [hks] at hAB
    have := List.append_inj hAB (by omega)
    exact ⟨this.1, by have := this.2; simp at this; exact this.1.symm, by have := this.2; simp at this; exact this.2.symm⟩
   obtain ⟨rfl, rfl, rfl⟩ := hAA
   have hsk : s.1 = k := by
    unfold pr at hpk
    rw [show (BT.nd o ps ks).ps = ps from rfl, ← hi, hps, ← hA'] at hpk
    simpa using hpk
   obtain ⟨pre, post, q, _⟩ := il_mid (A1.map (lst h)) A' (B1.map (lst h)) B' (by simp; omega) (by simpa using hB)
   have hL : lst (h + 1) (.nd o ps ks) = pre ++ (lst h c ++ s :: lst h y) ++ post := by
    show il (ks.map (lst h)) ps = _
    rw [hks, hps]
    simp only [List.map_append, List.map_cons]
    exact q _ _ _
   have hsc : SL (lst h c) := by
    rw [hL] at hs
    exact (SL.app (SL.app (SL.app hs).1).2.1).1
   obtain ⟨t1, t2, t3⟩ := take_law (lo := 3) (t := c) (k := (lastB h c).1) (by omega) hokc hsc ⟨lastB h c, by rw [hlast]; simp, rfl⟩
   refine hfill _ _ _ _ (by rw [List.length_set]) t2 ?_ t3
   show il ((A1 ++ takeB h c (lastB h c).1 :: y :: B1).map (lst h)) (ps.set i (lastB h c)) = delL k (lst (h + 1) (.nd o ps ks))
   rw [show ps.set i (lastB h c) = A' ++ lastB h c :: B' by rw [hps, ← hA']; exact set_mid _ _ _ _]
   simp only [List.map_append, List.map_cons]
   rw [q, t1, hL]
   have hd : delL (lastB h c).1 (lst h c) = init := by
    rw [hlast] at hsc ⊢
    have := delL_mid (b := []) hsc rfl
    rwa [List.append_nil] at this
   rw [hd]
   have e1 : pre ++ (lst h c ++ s :: lst h y) ++ post = (pre ++ lst h c) ++ s :: (lst h y ++ post) := by simp
   rw [hL, e1] at hs
   rw [e1, delL_mid hs hsk, hlast]
   simp
  ·have hK : takeK h (.nd o ps ks) k = k := by
    show (if own (.nd o ps ks) k then _ else k) = _
    rw [if_neg hown]
   have hP : takeP h (.nd o ps ks) k = ps := by
    show (if own (.nd o ps ks) k then _ else ps) = _
    rw [if_neg hown]
   rw [hK, hP]
   have hnp : ∀ p ∈ ps, p.1 ≠ k := fun p hp he => hown ((own_iff hsp).2 ⟨p, hp, he⟩)
   obtain ⟨a, x, b, q1, q2, q3, q4, q5⟩ := il_rank hlen hs hnp
   rw [← hi] at q1 q3
   rw [List.getElem?_map, Option.map_eq_some_iff] at q1
   obtain ⟨c1, hc1, rfl⟩ := q1
   rw [List.getElem?_eq_getElem hik, Option.some.injEq, ← hc] at hc1
   subst hc1
   have hL : lst (h + 1) (.nd o ps ks) = a ++ lst h c ++ b := q2
   have hsc : SL (lst h c) := by
    rw [hL] at hs
    exact (SL.app (SL.app hs).1).2.1
   have hexc : ∃ p ∈ lst h c, p.1 = k := by
    obtain ⟨p, hp, he⟩ := hex
    rw [hL, List.mem_append, List.mem_append] at hp
    rcases hp with (z | z) | z
    ·exact absurd he (lt_ne (q4 p z))
    ·exact ⟨p, z, he⟩
    ·exact absurd he.symm (lt_ne (q5 p z))
   obtain ⟨t1, t2, t3⟩ := take_law (lo := 3) (t := c) (k := k) (by omega) hokc hsc hexc
   refine hfill _ _ _ _ rfl t2 ?_ t3
   show il ((A ++ takeB h c k :: B).map (lst h)) ps = delL k (lst (h + 1) (.nd o ps ks))
   rw [hL, delL_app k a _ b (fun p hp => lt_ne (q4 p hp)) (fun p hp e => lt_ne (q5 p hp) e.symm)]
   have := q3 (delL k (lst h c))
   rw [← this]
   congr 1
   rw [hAB, List.map_append, List.map_cons, List.map_append, List.map_cons, t1, ← hAl]
   have := set_mid (A.map (lst h)) (B.map (lst h)) (lst h c) (delL k (lst h c))
   rw [List.length_map] at this
   exact this.symm
end Go.Proofs.Ytjekhcojebgpnaa.Bt
