/- A balanced tree: a put and a delete, and what they make of the list. No program's code. -/
import Derived.Test.YtjekhcojebgpnaaBtB
set_option linter.unusedVariables false
set_option linter.unusedSimpArgs false
set_option linter.unusedSectionVars false
namespace Go.Proofs.Ytjekhcojebgpnaa.Bt
open Go.RowKit Go.Proofs
instance : Inhabited BT := ⟨.nd 0 [] []⟩
instance : Inhabited Pr := ⟨(⟨#[]⟩, ⟨#[]⟩)⟩
def kid (t : BT) (i : Nat) : BT := (t.ks[i]?).getD default
def ins {A : Type} (l : List A) (i : Nat) (a : A) : List A := l.take i ++ a :: l.drop i
theorem ins_len {A : Type} (l : List A) (i : Nat) (a : A) : (ins l i a).length = l.length + 1 := by simp [ins]; omega
/-- A list parted at a place. -/
theorem part_at {A : Type} {l : List A} {i : Nat} {x : A} (h : l[i]? = some x) : ∃ a b, l = a ++ x :: b ∧ a.length = i := by
 obtain ⟨hi, rfl⟩ := List.getElem?_eq_some_iff.1 h
 exact ⟨l.take i, l.drop (i + 1), by simp, by simp; omega⟩
theorem set_mid {A : Type} (a b : List A) (x y : A) : (a ++ x :: b).set a.length y = a ++ y :: b := by simp
theorem ins_mid {A : Type} (a b : List A) (x y : A) : ins (a ++ x :: b) (a.length + 1) y = a ++ x :: y :: b := by
 unfold ins
 rw [show a ++ x :: b = (a ++ [x]) ++ b by simp, List.take_left' (by simp), List.drop_left' (by simp)]
 simp
theorem kid_mid {o : Nat} {ps : List Pr} (a b : List BT) (x : BT) : kid (.nd o ps (a ++ x :: b)) a.length = x := by simp [kid, BT.ks]
/-- The upper half of a node that holds one too many stands apart. -/
def mkB (o : Nat) (ps : List Pr) (ks : List BT) (o2 : Nat) : BT × Option (Pr × BT) :=
 if ps.length ≤ 7 then (.nd o ps ks, none) else (.nd o (ps.take 3) (ks.take 4), some ((ps[3]?).getD default, .nd o2 (ps.drop 4) (ks.drop 4)))
/-- A new pair is put into the tree; os: places of new nodes, the first for the lowest. -/
def addB : Nat → BT → Pr → List Nat → BT × Option (Pr × BT) × List Nat
 | 0, t, p, os =>
  let u := mkB t.o (ins t.ps (rk t.ps p.1) p) [] (os.headD 0)
  (u.1, u.2, if u.2.isSome then os.tail else os)
 | h + 1, t, p, os =>
  let i := rk t.ps p.1
  let r := addB h (kid t i) p os
  match r.2.1 with
  | none => (.nd t.o t.ps (t.ks.set i r.1), none, r.2.2)
  | some q =>
   let u := mkB t.o (ins t.ps i q.1) (ins (t.ks.set i r.1) (i + 1) q.2) (r.2.2.headD 0)
   (u.1, u.2, if u.2.isSome then r.2.2.tail else r.2.2)
/-- How many full nodes stand at the way's lower end; are all of them full? -/
def fw : Nat → BT → ByteArray → Nat × Bool
 | 0, t, k => if t.ps.length = 7 then (1, true) else (0, false)
 | h + 1, t, k =>
  let r := fw h (kid t (rk t.ps k)) k
  if r.2 ∧ t.ps.length = 7 then (r.1 + 1, true) else (r.1, false)
/-- What a node, and perhaps its upper half, hold. -/
def lstU (h : Nat) (t : BT) : Option (Pr × BT) → List Pr
 | none => lst h t
 | some q => lst h t ++ q.1 :: lst h q.2
def offsU (h : Nat) (t : BT) : Option (Pr × BT) → List Nat
 | none => offs h t
 | some q => offs h t ++ offs h q.2
def okU (h lo : Nat) (t : BT) : Option (Pr × BT) → Prop
 | none => ok h lo t
 | some q => ok h 3 t ∧ ok h 3 q.2
theorem mk_lst0 {o o2 : Nat} {ps : List Pr} : lstU 0 (mkB o ps [] o2).1 (mkB o ps [] o2).2 = ps := by
 unfold mkB
 split
 ·rfl
 ·next h =>
  have h3 : 3 < ps.length := by omega
  show ps.take 3 ++ _ :: ps.drop 4 = ps
  rw [List.getElem?_eq_getElem h3, Option.getD_some, List.getElem_cons_drop h3, List.take_append_drop]
theorem mk_lst {h o o2 : Nat} {ps : List Pr} {ks : List BT} (hk : ks.length = ps.length + 1) : lstU (h + 1) (mkB o ps ks o2).1 (mkB o ps ks o2).2 = il (ks.map (lst h)) ps := by
 unfold mkB
 split
 ·rfl
 ·next q =>
  have h3 : 3 < ps.length := by omega
  show il ((ks.take 4).map (lst h)) (ps.take 3) ++ _ :: il ((ks.drop 4).map (lst h)) (ps.drop 4) = _
  rw [List.getElem?_eq_getElem h3, Option.getD_some, ← il_two (by simp; omega), List.getElem_cons_drop h3, List.take_append_drop, ← List.map_append, List.take_append_drop]
theorem mk_ok0 {o o2 lo : Nat} {ps : List Pr} (h1 : lo ≤ ps.length) (h2 : ps.length ≤ 8) : okU 0 lo (mkB o ps [] o2).1 (mkB o ps [] o2).2 := by
 unfold mkB
 split
 ·next h => exact ⟨h1, h, rfl⟩
 ·next h => exact ⟨⟨by simp [BT.ps]; omega, by simp [BT.ps]; omega, rfl⟩, by simp [BT.ps]; omega, by simp [BT.ps]; omega, rfl⟩
theorem mk_ok {h o o2 lo : Nat} {ps : List Pr} {ks : List BT} (h1 : lo ≤ ps.length) (h2 : ps.length ≤ 8) (hk : ks.length = ps.length + 1) (hs : ∀ k ∈ ks, ok h 3 k) : okU (h + 1) lo (mkB o ps ks o2).1 (mkB o ps ks o2).2 := by
 unfold mkB
 split
 ·next q => exact ⟨h1, q, hk, hs⟩
 ·next q => exact ⟨⟨by simp [BT.ps]; omega, by simp [BT.ps]; omega, by simp [BT.ps, BT.ks]; omega, fun k hm => hs k (List.mem_of_mem_take hm)⟩, by simp [BT.ps]; omega, by simp [BT.ps]; omega, by simp [BT.ps, BT.ks]; omega, fun k hm => hs k (List.mem_of_mem_drop hm)⟩
theorem mk_offs0 {o o2 : Nat} {ps : List Pr} : offsU 0 (mkB o ps [] o2).1 (mkB o ps [] o2).2 = o :: if ps.length ≤ 7 then [] else [o2] := by
 unfold mkB
 split <;> rfl
theorem mk_offs {h o o2 : Nat} {ps : List Pr} {ks : List BT} : (offsU (h + 1) (mkB o ps ks o2).1 (mkB o ps ks o2).2).Perm ((o :: (ks.map (offs h)).flatten) ++ if ps.length ≤ 7 then [] else [o2]) := by
 unfold mkB
 split
 ·rw [List.append_nil]; exact .refl _
 ·show (o :: ((ks.take 4).map (offs h)).flatten ++ o2 :: ((ks.drop 4).map (offs h)).flatten).Perm _
  have e : (ks.map (offs h)).flatten = ((ks.take 4).map (offs h)).flatten ++ ((ks.drop 4).map (offs h)).flatten := by
   rw [← List.flatten_append, ← List.map_append, List.take_append_drop]
  rw [e]
  simp only [List.cons_append, List.append_assoc]
  refine List.Perm.cons _ (List.Perm.append_left _ ?_)
  exact (List.perm_append_singleton _ _).symm
theorem mk_some {o o2 : Nat} {ps : List Pr} {ks : List BT} : (mkB o ps ks o2).2.isSome = !decide (ps.length ≤ 7) := by
 unfold mkB
 split
 ·next h => simp [h]
 ·next h => simp [h]
theorem mk_o {o o2 : Nat} {ps : List Pr} {ks : List BT} : (mkB o ps ks o2).1.o = o ∧ ∀ q, (mkB o ps ks o2).2 = some q → q.2.o = o2 := by
 unfold mkB
 split
 ·exact ⟨rfl, fun q h => by cases h⟩
 ·exact ⟨rfl, fun q h => by cases h; rfl⟩
/-- A pair put where a key belongs. -/
theorem put_rk {k e : ByteArray} : ∀ {L : List Pr}, (∀ p ∈ L, p.1 ≠ k) → putL k e L = ins L (rk L k) (k, e)
 | [], _ => rfl
 | p :: r, h => by
  have ih := put_rk (k := k) (e := e) (L := r) fun q hq => h q (by simp [hq])
  unfold putL rk
  split
  ·rw [ih]; rfl
  ·rw [if_neg (h p (by simp))]; rfl
theorem il_ps_mem {A : Type} {p : A} : ∀ {ls : List (List A)} {ps : List A}, ls.length = ps.length + 1 → p ∈ ps → p ∈ il ls ps
 | [], ps, h, _ => by simp at h
 | [a], [], h, hp => by cases hp
 | a :: b :: ls, [], h, _ => by simp at h
 | a :: as, q :: ps, h, hp => by
  simp only [il, List.mem_append, List.mem_cons]
  rcases List.mem_cons.1 hp with rfl | hp
  ·exact .inr (.inl rfl)
  ·exact .inr (.inr (il_ps_mem (by simpa using h) hp))
theorem put_o : ∀ {h : Nat} {t : BT} {p : Pr} {os : List Nat}, (addB h t p os).1.o = t.o
 | 0, t, p, os => mk_o.1
 | h + 1, t, p, os => by
  unfold addB
  dsimp only
  split
  ·rfl
  ·exact mk_o.1
/-- A put into a tree. -/
theorem put_law {k e : ByteArray} : ∀ {h lo : Nat} {t : BT} {os : List Nat}, ok h lo t → SL (lst h t) → (∀ p ∈ lst h t, p.1 ≠ k) → (fw h t k).1 ≤ os.length →
  lstU h (addB h t (k, e) os).1 (addB h t (k, e) os).2.1 = putL k e (lst h t) ∧ okU h lo (addB h t (k, e) os).1 (addB h t (k, e) os).2.1 ∧
  (offsU h (addB h t (k, e) os).1 (addB h t (k, e) os).2.1).Perm (offs h t ++ os.take (fw h t k).1) ∧ (addB h t (k, e) os).2.2 = os.drop (fw h t k).1 ∧ (addB h t (k, e) os).2.1.isSome = (fw h t k).2
 | 0, lo, t, os, hok, hs, hn, hos => by
  obtain ⟨h1, h2, h3⟩ := hok
  have hil := ins_len t.ps (rk t.ps k) (k, e)
  unfold addB
  dsimp only
  refine ⟨?_, mk_ok0 (by omega) (by omega), ?_, ?_, ?_⟩
  ·rw [mk_lst0]
   exact (put_rk hn).symm
  ·rw [mk_offs0]
   unfold fw at hos ⊢
   by_cases q : t.ps.length = 7
   ·rw [if_pos q] at hos ⊢
    rw [if_neg (by omega)]
    cases os with
    | nil => simp at hos
    | cons a r => exact .refl _
   ·rw [if_neg q, if_pos (by omega)]
    exact .refl _
  ·rw [mk_some]
   unfold fw
   by_cases q : t.ps.length = 7
   ·rw [if_pos q, decide_eq_false (by omega)]; cases os <;> rfl
   ·rw [if_neg q, decide_eq_true (by omega)]; rfl
  ·rw [mk_some]
   unfold fw
   by_cases q : t.ps.length = 7
   ·rw [if_pos q, decide_eq_false (by omega)]; rfl
   ·rw [if_neg q, decide_eq_true (by omega)]; rfl
 | h + 1, lo, t, os, hok, hs, hn, hos => by
  obtain ⟨h1, h2, h3, h4⟩ := hok
  obtain ⟨o, ps, ks⟩ := t
  dsimp only [BT.ps, BT.ks] at h1 h2 h3 h4
  have hlen : (ks.map (lst h)).length = ps.length + 1 := by rw [List.length_map]; exact h3
  have hnp : ∀ p ∈ ps, p.1 ≠ k := fun p hp => hn p (il_ps_mem hlen hp)
  obtain ⟨a, x, b, q1, q2, q3, q4, q5⟩ := il_rank hlen hs hnp
  obtain ⟨i, hi⟩ : ∃ i, i = rk ps k := ⟨_, rfl⟩
  rw [← hi] at q1 q3
  rw [List.getElem?_map, Option.map_eq_some_iff] at q1
  obtain ⟨c, hc, rfl⟩ := q1
  obtain ⟨A, B, hAB, hAl⟩ := part_at hc
  subst hAB
  have hcm : c ∈ A ++ c :: B := by simp
  have hq2 : lst (h + 1) (.nd o ps (A ++ c :: B)) = a ++ lst h c ++ b := q2
  have hsx : SL (lst h c) := by
   rw [hq2] at hs
   exact (SL.app (SL.app hs).1).2.1
  have hnx : ∀ p ∈ lst h c, p.1 ≠ k := fun p hp => hn p (by rw [hq2]; simp [hp])
  have hkid : kid (.nd o ps (A ++ c :: B)) i = c := by rw [← hAl]; exact kid_mid A B c
  have hkid' : kid (.nd o ps (A ++ c :: B)) (rk ps k) = c := by rw [← hi]; exact hkid
  have hfw : fw (h + 1) (.nd o ps (A ++ c :: B)) k = if (fw h c k).2 ∧ ps.length = 7 then ((fw h c k).1 + 1, true) else ((fw h c k).1, false) := by
   rw [fw]
   dsimp only [BT.ps]
   simp only [hkid']
  have hos' : (fw h c k).1 ≤ os.length := by
   rw [hfw] at hos
   split at hos
   ·dsimp only at hos; omega
   ·exact hos
  obtain ⟨e1, e2, e3, e4, e5⟩ := put_law (e := e) (os := os) (h4 c hcm) hsx hnx hos'
  have hput : putL k e (lst (h + 1) (.nd o ps (A ++ c :: B))) = a ++ putL k e (lst h c) ++ b := by rw [hq2]; exact putL_app q4 q5
  have hset : ∀ y : BT, (A ++ c :: B).set i y = A ++ y :: B := fun y => by rw [← hAl]; exact set_mid A B c y
  have hadd : addB (h + 1) (.nd o ps (A ++ c :: B)) (k, e) os = match (addB h c (k, e) os).2.1 with
    | none => (.nd o ps (A ++ (addB h c (k, e) os).1 :: B), none, (addB h c (k, e) os).2.2)
    | some q =>
     let u := mkB o (ins ps i q.1) (A ++ (addB h c (k, e) os).1 :: q.2 :: B) ((addB h c (k, e) os).2.2.headD 0)
     (u.1, u.2, if u.2.isSome then (addB h c (k, e) os).2.2.tail else (addB h c (k, e) os).2.2) := by
   rw [addB]
   dsimp only [BT.o, BT.ps, BT.ks]
   simp only [hkid', ← hi, hset]
   rw [← hAl]
   simp only [ins_mid, kid_mid]
  have hin : ∀ y ∈ A ++ B, ok h 3 y := fun y hy => h4 y (by rcases List.mem_append.1 hy with q | q <;> simp [q])
  have hAB : A.length + B.length = ps.length := by simp at h3; omega
  have hmset : ((A ++ c :: B).map (lst h)).set i (putL k e (lst h c)) = A.map (lst h) ++ putL k e (lst h c) :: B.map (lst h) := by
   rw [List.map_append, List.map_cons, ← hAl]
   have := set_mid (A.map (lst h)) (B.map (lst h)) (lst h c) (putL k e (lst h c))
   rwa [List.length_map] at this
  have hq3 := q3 (putL k e (lst h c))
  rw [hmset] at hq3
  generalize addB h c (k, e) os = r at e1 e2 e3 e4 e5 hadd
  obtain ⟨c', up, os'⟩ := r
  dsimp only at e1 e2 e3 e4 e5 hadd
  rw [hadd, hput, ← hq3, hfw]
  subst e4
  cases up with
  | none =>
   have hf2 : (fw h c k).2 = false := e5.symm
   rw [hf2, if_neg (by simp)]
   dsimp only
   refine ⟨?_, ⟨h1, h2, by simpa [BT.ks, BT.ps] using h3, fun y hy => ?_⟩, ?_, rfl, rfl⟩
   ·show il ((A ++ c' :: B).map (lst h)) ps = _
    rw [List.map_append, List.map_cons, ← (show lst h c' = putL k e (lst h c) from e1)]
   ·rcases List.mem_append.1 hy with q | q
    ·exact hin y (by simp [q])
    ·rcases List.mem_cons.1 q with rfl | q
     ·exact e2
     ·exact hin y (by simp [q])
   ·show (o :: ((A ++ c' :: B).map (offs h)).flatten).Perm (o :: ((A ++ c :: B).map (offs h)).flatten ++ _)
    simp only [List.map_append, List.map_cons, List.flatten_append, List.flatten_cons, List.cons_append, List.append_assoc]
    refine List.Perm.cons _ (List.Perm.append_left _ ?_)
    refine ((show (offs h c').Perm _ from e3).append_right _).trans ?_
    rw [List.append_assoc]
    exact List.Perm.append_left _ List.perm_append_comm
  | some q =>
   obtain ⟨q, d⟩ := q
   have hf2 : (fw h c k).2 = true := e5.symm
   have hil := ins_len ps i q
   dsimp only
   have hkl : (A ++ c' :: d :: B).length = (ins ps i q).length + 1 := by simp; omega
   have hip : i ≤ ps.length := by omega
   refine ⟨?_, mk_ok (by omega) (by omega) hkl fun y hy => ?_, ?_, ?_, ?_⟩
   ·rw [mk_lst hkl]
    have := il_split (ls := A.map (lst h) ++ putL k e (lst h c) :: B.map (lst h)) (ps := ps) (i := i) (x := lst h c') (y := lst h d) (q := q) (by simp; omega) (by rw [← (show lst h c' ++ q :: lst h d = putL k e (lst h c) from e1), ← hAl]; simp)
    have t1 : (A.map (lst h) ++ putL k e (lst h c) :: B.map (lst h)).take i = A.map (lst h) := List.take_left' (by simp; omega)
    have t2 : (A.map (lst h) ++ putL k e (lst h c) :: B.map (lst h)).drop (i + 1) = B.map (lst h) := by
     rw [show A.map (lst h) ++ putL k e (lst h c) :: B.map (lst h) = (A.map (lst h) ++ [putL k e (lst h c)]) ++ B.map (lst h) by simp]
     exact List.drop_left' (by simp; omega)
    rw [t1, t2] at this
    rw [← this]
    simp [ins]
   ·rcases List.mem_append.1 hy with z | z
    ·exact hin y (by simp [z])
    ·rcases List.mem_cons.1 z with rfl | z
     ·exact e2.1
     ·rcases List.mem_cons.1 z with rfl | z
      ·exact e2.2
      ·exact hin y (by simp [z])
   ·refine mk_offs.trans ?_
    have hp : ((o :: ((A ++ c' :: d :: B).map (offs h)).flatten)).Perm (offs (h + 1) (.nd o ps (A ++ c :: B)) ++ os.take (fw h c k).1) := by
     show (o :: ((A ++ c' :: d :: B).map (offs h)).flatten).Perm (o :: ((A ++ c :: B).map (offs h)).flatten ++ _)
     simp only [List.map_append, List.map_cons, List.flatten_append, List.flatten_cons, List.cons_append, List.append_assoc]
     refine List.Perm.cons _ (List.Perm.append_left _ ?_)
     rw [← List.append_assoc]
     refine ((show (offs h c' ++ offs h d).Perm _ from e3).append_right _).trans ?_
     rw [List.append_assoc]
     exact List.Perm.append_left _ List.perm_append_comm
    refine (hp.append_right _).trans ?_
    rw [List.append_assoc]
    refine List.Perm.append_left _ ?_
    by_cases z : ps.length = 7
    ·rw [if_neg (by omega), if_pos ⟨hf2, z⟩]
     have hlt : (fw h c k).1 < os.length := by rw [hfw, if_pos ⟨hf2, z⟩] at hos; exact hos
     dsimp only
     rw [List.take_add_one, List.getElem?_eq_getElem hlt, show (os.drop (fw h c k).1).headD 0 = os[(fw h c k).1] by rw [List.headD_eq_head?_getD, List.head?_drop, List.getElem?_eq_getElem hlt]; rfl]
     exact .refl _
    ·rw [if_pos (by omega), if_neg (fun w => z w.2), List.append_nil]
   ·rw [mk_some]
    by_cases z : ps.length = 7
    ·rw [decide_eq_false (by omega), if_pos (show (fw h c k).2 = true ∧ ps.length = 7 from ⟨hf2, z⟩)]
     simp
    ·rw [decide_eq_true (by omega), if_neg (show ¬ ((fw h c k).2 = true ∧ ps.length = 7) from fun w => z w.2)]
     simp
   ·rw [mk_some]
    by_cases z : ps.length = 7
    ·rw [decide_eq_false (by omega), if_pos (show (fw h c k).2 = true ∧ ps.length = 7 from ⟨hf2, z⟩)]
     rfl
    ·rw [decide_eq_true (by omega), if_neg (show ¬ ((fw h c k).2 = true ∧ ps.length = 7) from fun w => z w.2)]
     rfl
end Go.Proofs.Ytjekhcojebgpnaa.Bt
