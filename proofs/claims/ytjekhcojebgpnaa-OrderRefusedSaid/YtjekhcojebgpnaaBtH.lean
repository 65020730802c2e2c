/- A balanced tree in an arena's bytes: a taking, step by step. No program's code. -/
import Derived.Test.YtjekhcojebgpnaaBtQ
import Derived.Test.YtjekhcojebgpnaaBtF
set_option linter.unusedVariables false
set_option linter.unusedSimpArgs false
set_option linter.unusedSectionVars false
namespace Go.Proofs.Ytjekhcojebgpnaa.Bt
open Go.RowKit Go.Proofs Go.Proofs.Ytjekhcojebgpnaa.Eng Go.Proofs.Ytjekhcojebgpnaa.Mem Go.Proofs.Ytjekhcojebgpnaa.Layout Go.Proofs.Ytjekhcojebgpnaa.Arena Go.Proofs.Ytjekhcojebgpnaa.GroupB
/-! ### Lists -/
theorem kids_left {n kid first : Nat} {ks : List Nat} (hk : ks.length = n + 1) (hn : n ≤ 6) (hf : (pad 0 8 ks)[0]? = some first) : (((layA (pad 0 8 ks) (0 + 2) (((pad 0 8 ks).drop (0 + 1)).take (n - 0))).set (0 + 1) 0).set 0 kid).set 1 first = pad 0 8 (kid :: ks) := by
 rw [kids_put hk hn (Nat.zero_le _)]
 cases ks with
 | nil => simp at hk
 | cons f r =>
  rw [pad_at (by rw [hk]; omega) (by simp)] at hf
  cases hf
  simp [pad, ins]
theorem kids_left0 {n : Nat} (hn : n ≤ 6) : (((layA (pad 0 8 []) (0 + 2) (((pad 0 8 []).drop (0 + 1)).take (n - 0))).set (0 + 1) 0).set 0 0).set 1 0 = pad 0 8 ([] : List Nat) := by
 rw [kids_put0 hn (Nat.zero_le _)]; rfl
theorem tail_pad {A : Type} {a f : A} {N : Nat} {r : List A} (h : r.length + 1 ≤ N) : (layA (pad a N (f :: r)) 0 ((pad a N (f :: r)).drop 1)).set r.length a = pad a N r := by
 have hP : (pad a N (f :: r)).length = N := pad_len (by simpa using h)
 have hl : 0 + ((pad a N (f :: r)).drop 1).length ≤ (pad a N (f :: r)).length := by rw [List.length_drop]; omega
 apply List.ext_getElem?
 intro j
 rw [List.getElem?_set, layA_get hl, layA_len hl, hP, List.length_drop, hP, List.getElem?_drop, pad_get (by simpa using h), pad_get (by simpa using h), pad_get (by omega)]
 simp only [List.length_cons]
 by_cases q : r.length = j
 ·subst q
  rw [if_pos rfl, if_pos (by omega), if_neg (by omega)]; try rw [if_pos (by omega)]
 ·rw [if_neg q]
  rcases Nat.lt_or_ge j r.length with w | w
  ·rw [if_pos (by omega), if_pos (by omega), if_pos w, Nat.sub_zero, Nat.add_comm 1 j, List.getElem?_cons_succ]
  ·rw [if_neg (show ¬ j < r.length by omega)]
   repeat' split
   all_goals first | rfl | omega
theorem tail_zero {n : Nat} : (layA (pad 0 8 ([] : List Nat)) 0 ((pad 0 8 ([] : List Nat)).drop 1)).set n 0 = pad 0 8 [] := by
 show (List.replicate 8 0).set n 0 = List.replicate 8 0
 apply List.ext_getElem?
 intro j
 rw [List.getElem?_set]
 split
 ·next q =>
  subst q
  rw [List.getElem?_replicate, List.length_replicate]
 ·rfl
theorem erase_last {A : Type} {l : List A} {n : Nat} (h : l.length = n + 1) : l.eraseIdx n = l.dropLast := by
 rw [List.eraseIdx_eq_take_drop_succ, List.drop_of_length_le (by omega), List.append_nil, List.dropLast_eq_take, h]; rfl
theorem ins_end {A : Type} {l : List A} {n : Nat} (h : l.length = n) (a : A) : ins l n a = l ++ [a] := by
 subst h; simp [ins]
theorem ins_hd {A : Type} (l : List A) (a : A) : ins l 0 a = a :: l := by simp [ins]
theorem map_erase {A B : Type} (f : A → B) (l : List A) (i : Nat) : (l.eraseIdx i).map f = (l.map f).eraseIdx i := by
 rw [List.eraseIdx_eq_take_drop_succ, List.eraseIdx_eq_take_drop_succ, List.map_append, List.map_take, List.map_drop]
/-- A pair and a kid behind a node's last. -/
theorem kids_end {h n r : Nat} {ks : List Nat} (hn : n ≤ 6) (hk : ks.length = n + 1 ∧ h ≠ 0 ∨ ks = [] ∧ h = 0 ∧ r = 0) : (layA (pad 0 8 ks) (n + 2) (((pad 0 8 ks).drop (n + 1)).take (n - n))).set (n + 1) r = pad 0 8 (if h = 0 then [] else ks ++ [r]) := by
 rcases hk with ⟨h1, h2⟩ | ⟨rfl, rfl, rfl⟩
 ·rw [kids_put h1 hn (Nat.le_refl _), if_neg h2, ins_end h1]
 ·exact kids_put0 hn (Nat.le_refl _)
/-! ### How many keys move -/
theorem rotR_tot {h : Nat} {b c : BT} {s : Pr} (hb : ok h 3 b) (hb3 : 3 < b.ps.length) (hc : ok h 2 c) (hc3 : c.ps.length < 3) :
  tot h (rotR b c s).2.2 = tot h c + (1 + (nxt h b b.ps.length).L.length) ∧ tot h (rotR b c s).1 + (1 + (nxt h b b.ps.length).L.length) = tot h b := by
 have hT := rotR_law s hb hb3 hc hc3
 have hl := congrArg List.length hT.lst
 simp only [List.length_append, List.length_cons] at hl
 have h1 : tot h (rotR b c s).2.2 = tot h c + (1 + (nxt h b b.ps.length).L.length) := by
  cases h with
  | zero =>
   show (s :: c.ps).length = c.ps.length + _
   simp [nxt, TX.L]
  | succ h =>
   obtain ⟨x, hx, e2⟩ := getLast_opt (l := b.ks) (fun e => by have := hb.2.2.1; rw [e] at this; simp at this)
   have hkd : kid b b.ps.length = x := by
    unfold kid
    have hlen : b.ps.length = b.ks.length - 1 := by have := hb.2.2.1; omega
    rw [hlen, ← List.getLast?_eq_getElem?, hx]; rfl
   unfold rotR tot
   dsimp only
   rw [hx]
   show (lst h x ++ s :: il (c.ks.map (lst h)) c.ps).length = (il (c.ks.map (lst h)) c.ps).length + (1 + (lst h (kid b b.ps.length)).length)
   rw [hkd]
   simp; omega
 refine ⟨h1, ?_⟩
 unfold tot at h1 ⊢
 omega
theorem rotL_tot {h : Nat} {c d : BT} {s : Pr} (hc : ok h 2 c) (hc3 : c.ps.length < 3) (hd : ok h 3 d) (hd3 : 3 < d.ps.length) :
  tot h (rotL c d s).1 = tot h c + (1 + (nxt h d 0).L.length) ∧ tot h (rotL c d s).2.2 + (1 + (nxt h d 0).L.length) = tot h d := by
 have hT := rotL_law s hc hc3 hd hd3
 have hl := congrArg List.length hT.lst
 simp only [List.length_append, List.length_cons] at hl
 have h1 : tot h (rotL c d s).1 = tot h c + (1 + (nxt h d 0).L.length) := by
  cases h with
  | zero =>
   show (c.ps ++ [s]).length = c.ps.length + _
   simp [nxt, TX.L]
  | succ h =>
   have hne : 0 < d.ks.length := by have := hd.2.2.1; omega
   have hkd : d.ks.head? = some (kid d 0) := by rw [List.head?_eq_getElem?, kid_at hne]
   unfold rotL tot
   dsimp only
   rw [hkd]
   have e3 := il_two (ls := c.ks.map (lst h)) (ms := [lst h (kid d 0)]) (ps := c.ps) (qs := []) (q := s) (by rw [List.length_map]; exact hc.2.2.1)
   show (il ((c.ks ++ [kid d 0]).map (lst h)) (c.ps ++ [s])).length = (il (c.ks.map (lst h)) c.ps).length + (1 + (lst h (kid d 0)).length)
   rw [List.map_append, List.map_singleton, e3]
   simp [il]; omega
 refine ⟨h1, ?_⟩
 unfold tot at h1 ⊢
 omega
theorem rotR_sub {b c : BT} {s : Pr} : ∀ k, k ∈ (rotR b c s).1.ks ∨ k ∈ (rotR b c s).2.2.ks → k ∈ b.ks ∨ k ∈ c.ks := fun k hk => by
 rcases hk with w | w
 ·exact .inl ((List.dropLast_sublist _).subset (show k ∈ b.ks.dropLast from w))
 ·rcases List.mem_append.1 (show k ∈ b.ks.getLast?.toList ++ c.ks from w) with w | w
  ·rw [Option.mem_toList] at w
   exact .inl (List.mem_of_getLast? w)
  ·exact .inr w
theorem rotL_sub {c d : BT} {s : Pr} : ∀ k, k ∈ (rotL c d s).1.ks ∨ k ∈ (rotL c d s).2.2.ks → k ∈ c.ks ∨ k ∈ d.ks := fun k hk => by
 rcases hk with w | w
 ·rcases List.mem_append.1 (show k ∈ c.ks ++ d.ks.head?.toList from w) with w | w
  ·exact .inl w
  ·rw [Option.mem_toList] at w
   exact .inr (List.mem_of_mem_head? w)
 ·exact .inr (List.mem_of_mem_tail (show k ∈ d.ks.tail from w))
theorem turn_lst {h j : Nat} {t : BT} {r : BT × Pr × BT} (h3 : t.ks.length = t.ps.length + 1) (hj : j < t.ps.length) (hT : Turned h (kid t j) (pr t j) (kid t (j + 1)) r) : tot (h + 1) (turnAt t j r) = tot (h + 1) t := by
 obtain ⟨o, ps, ks⟩ := t
 obtain ⟨A, A', B, B', x, s, y, e1, e2, hA, hA', hB⟩ := nb h3 hj
 have e1' : ps = A' ++ s :: B' := e1
 have e2' : ks = A ++ x :: y :: B := e2
 subst e1'; subst e2'
 obtain ⟨k1, k2⟩ := kid_nb (o := o) (ps := A' ++ s :: B') A B x y
 have hp : pr (.nd o (A' ++ s :: B') (A ++ x :: y :: B)) j = s := by rw [← hA']; exact pr_mid _ _ _
 rw [hA] at k1 k2
 rw [k1, k2, hp] at hT
 unfold tot
 congr 1
 rw [← hA, turn_mid A B A' B' x y s (hA.trans hA'.symm)]
 obtain ⟨pre, post, q, _⟩ := il_mid (A.map (lst h)) A' (B.map (lst h)) B' (by simp; omega) (by simpa using hB)
 show il ((A ++ r.1 :: r.2.2 :: B).map (lst h)) (A' ++ r.2.1 :: B') = il ((A ++ x :: y :: B).map (lst h)) (A' ++ s :: B')
 simp only [List.map_append, List.map_cons]
 rw [q, q, hT.lst]
theorem join_lst {h j : Nat} {t : BT} (h3 : t.ks.length = t.ps.length + 1) (hj : j < t.ps.length) (hT : lst h (joinB (kid t j) (kid t (j + 1)) (pr t j)) = lst h (kid t j) ++ pr t j :: lst h (kid t (j + 1))) : tot (h + 1) (joinAt t j) = tot (h + 1) t := by
 obtain ⟨o, ps, ks⟩ := t
 obtain ⟨A, A', B, B', x, s, y, e1, e2, hA, hA', hB⟩ := nb h3 hj
 have e1' : ps = A' ++ s :: B' := e1
 have e2' : ks = A ++ x :: y :: B := e2
 subst e1'; subst e2'
 obtain ⟨k1, k2⟩ := kid_nb (o := o) (ps := A' ++ s :: B') A B x y
 have hp : pr (.nd o (A' ++ s :: B') (A ++ x :: y :: B)) j = s := by rw [← hA']; exact pr_mid _ _ _
 rw [hA] at k1 k2
 rw [k1, k2, hp] at hT
 unfold tot
 congr 1
 rw [← hA, join_mid A B A' B' x y s (hA.trans hA'.symm)]
 obtain ⟨pre, post, q, q2⟩ := il_mid (A.map (lst h)) A' (B.map (lst h)) B' (by simp; omega) (by simpa using hB)
 show il ((A ++ joinB x y s :: B).map (lst h)) (A' ++ B') = il ((A ++ x :: y :: B).map (lst h)) (A' ++ s :: B')
 simp only [List.map_append, List.map_cons]
 rw [q, q2, hT]
theorem two_le {h j : Nat} {t : BT} (h3 : t.ks.length = t.ps.length + 1) (hj : j < t.ps.length) : tot h (kid t j) + (1 + tot h (kid t (j + 1))) ≤ tot (h + 1) t := by
 obtain ⟨o, ps, ks⟩ := t
 obtain ⟨A, A', B, B', x, s, y, e1, e2, hA, hA', hB⟩ := nb h3 hj
 have e1' : ps = A' ++ s :: B' := e1
 have e2' : ks = A ++ x :: y :: B := e2
 subst e1'; subst e2'
 obtain ⟨k1, k2⟩ := kid_nb (o := o) (ps := A' ++ s :: B') A B x y
 rw [hA] at k1 k2
 rw [k1, k2]
 obtain ⟨pre, post, q, _⟩ := il_mid (A.map (lst h)) A' (B.map (lst h)) B' (by simp; omega) (by simpa using hB)
 show (lst h x).length + (1 + (lst h y).length) ≤ (il ((A ++ x :: y :: B).map (lst h)) (A' ++ s :: B')).length
 simp only [List.map_append, List.map_cons]
 rw [q]
 simp only [List.length_append, List.length_cons]; omega
/-- The nodes below, as far as they have been joined. -/
def jk (h : Nat) (c d : BT) (n : Nat) : List Nat := if h = 0 then [] else (c.ks ++ d.ks.take n).map BT.o
theorem jk_step {h n : Nat} {c d : BT} (hd : ok h 2 d) (hn : n ≤ d.ps.length) : (if h = 0 then [] else jk h c d n ++ [TX.root (nxt h d n)]) = jk h c d (n + 1) := by
 unfold jk
 split
 ·rfl
 ·next q =>
  obtain ⟨g, rfl⟩ : ∃ g, h = g + 1 := ⟨h - 1, by omega⟩
  have hl : n < d.ks.length := by have := hd.2.2.1; omega
  rw [List.take_add_one, kid_at hl, ← List.append_assoc, List.map_append (l₁ := c.ks ++ _)]
  rfl
theorem jk_zero {h : Nat} {c d : BT} (hc : ok h 2 c) : c.ks.map BT.o = jk h c d 0 := by
 unfold jk
 cases h with
 | zero => rw [hc.2.2]; rfl
 | succ g => simp
theorem jk_all {h : Nat} {c d : BT} {s : Pr} (hc : ok h 2 c) (hd : ok h 2 d) : jk h c d (d.ps.length + 1) = (joinB c d s).ks.map BT.o := by
 unfold jk joinB
 cases h with
 | zero => show [] = (c.ks ++ d.ks).map BT.o; rw [hc.2.2, hd.2.2]; rfl
 | succ g => rw [if_neg (by omega), List.take_of_length_le (by have := hd.2.2.1; omega)]; rfl
theorem jk_len {h n : Nat} {c d : BT} (hc : ok h 2 c) (hd : ok h 2 d) (hn : n ≤ d.ps.length + 1) : (jk h c d n).length = c.ps.length + n + 1 ∧ h ≠ 0 ∨ jk h c d n = [] ∧ h = 0 := by
 unfold jk
 cases h with
 | zero => exact .inr ⟨rfl, rfl⟩
 | succ g =>
  refine .inl ⟨?_, by omega⟩
  have := hc.2.2.1; have := hd.2.2.1
  rw [if_neg (by omega)]
  simp only [List.length_map, List.length_append, List.length_take]; omega
/-! ### A node whose i-th kid may have a pair too few -/
structure NdP (l : Lay) (s : ArS) (h : Nat) (t : BT) (i : Nat) : Prop where
 h1 : 1 ≤ t.ps.length
 h2 : t.ps.length ≤ 7
 h3 : t.ks.length = t.ps.length + 1
 hi : i ≤ t.ps.length
 h4 : ∀ j, j ≠ i → ∀ k, t.ks[j]? = some k → ok h 3 k
 h5 : ok h 2 (kid t i)
 tree : TreeM l s.m (h + 1) t
 bl : ∀ o ∈ offs (h + 1) t, blkN l o ∈ s.bl
 apart : Apart l (offs (h + 1) t)
 sl : SL (lst (h + 1) t)
 sz : ∀ p ∈ lst (h + 1) t, szs l p
 len : (lst (h + 1) t).length ≤ 1000000000
section
variable {l : Lay} {s : ArS} {h i : Nat} {t : BT}
theorem NdP.kid_at (E : NdP l s h t i) {j : Nat} (hj : j ≤ t.ps.length) : t.ks[j]? = some (kid t j) := Bt.kid_at (by have := E.h3; omega)
theorem NdP.ok2 (E : NdP l s h t i) {j : Nat} (hj : j ≤ t.ps.length) : Bt.ok h 2 (kid t j) := by
 by_cases q : j = i
 ·subst q; exact E.h5
 ·exact ok_mono (by omega) (E.h4 j q _ (E.kid_at hj))
theorem NdP.ok3 (E : NdP l s h t i) {j : Nat} (hj : j ≤ t.ps.length) (q : j ≠ i) : Bt.ok h 3 (kid t j) := E.h4 j q _ (E.kid_at hj)
/-- A node's list, whatever its nodes below hold. -/
theorem NdP.part (E : NdP l s h t i) {j : Nat} (hj : j ≤ t.ps.length) : ∃ a b, lst (h + 1) t = a ++ lst h (kid t j) ++ b := by
 obtain ⟨x, q1, q2, _⟩ := il_parts (ls := t.ks.map (lst h)) (ps := t.ps) (i := j) (by rw [List.length_map]; exact E.h3) hj
 rw [List.getElem?_map, E.kid_at hj, Option.map_some] at q1
 cases q1
 exact ⟨_, _, q2⟩
theorem NdP.ps_mem (E : NdP l s h t i) : ∀ p ∈ t.ps, p ∈ lst (h + 1) t := fun p hp => by
 have : ∀ {ls : List (List Pr)} {ps : List Pr}, ls.length = ps.length + 1 → ∀ p ∈ ps, p ∈ il ls ps := by
  intro ls
  induction ls with
  | nil => intro ps h; simp at h
  | cons a ar ih =>
   intro ps h p hp
   cases ps with
   | nil => cases hp
   | cons q ps =>
    rcases List.mem_cons.1 hp with rfl | w
    ·simp [il]
    ·simp only [il, List.mem_append, List.mem_cons]
     exact .inr (.inr (ih (by simpa using h) p w))
 exact this (by rw [List.length_map]; exact E.h3) p hp
theorem NdP.kidT (E : NdP l s h t i) {j : Nat} (hj : j ≤ t.ps.length) : SubT l s (some (h, kid t j)) := by
 intro h' t' e
 cases e
 have hm := List.mem_of_getElem? (E.kid_at hj)
 obtain ⟨a, b, q⟩ := E.part hj
 have hs := E.sl
 have hl := E.len
 rw [q] at hs hl
 simp only [List.length_append] at hl
 refine ⟨ok_mono (by omega) (E.ok2 hj), E.tree.2 _ hm, fun o ho => E.bl o (offs_kid hm o ho), (SL.app (SL.app hs).1).2.1, fun p hp => E.sz p (by rw [q]; simp [hp]), by omega⟩
theorem NdP.kid_o (E : NdP l s h t i) (hs : s.ok) : ∀ k ∈ t.ks.map BT.o, k ≤ 1000000000 := fun k hk => by
 obtain ⟨c, hc, rfl⟩ := List.mem_map.1 hk
 obtain ⟨j, hj, rfl⟩ := List.getElem_of_mem hc
 have hj' : j ≤ t.ps.length := by have := E.h3; omega
 have e : t.ks[j] = kid t j := by have := E.kid_at hj'; rw [List.getElem?_eq_getElem hj] at this; exact Option.some.inj this
 rw [e]
 exact (root_ne hs (E.kidT hj')).2
theorem NdP.own_bl (E : NdP l s h t i) : blkN l t.o ∈ s.bl := E.bl _ (by simp [offs])
theorem NdP.kid_bl (E : NdP l s h t i) {j : Nat} (hj : j ≤ t.ps.length) : blkN l (kid t j).o ∈ s.bl := E.bl _ (offs_kid (List.mem_of_getElem? (E.kid_at hj)) _ (by cases h <;> simp [offs]))
theorem NdP.dj (E : NdP l s h t i) : (∀ j, j ≤ t.ps.length → Dj l t.o (kid t j).o) ∧ ∀ j j', j ≤ t.ps.length → j' ≤ t.ps.length → j ≠ j' → Dj l (kid t j).o (kid t j').o := by
 have hap := apart_kids (os := []) (by rw [List.append_nil]; exact E.apart)
 have hm : ∀ c : BT, c.o ∈ offs h c := fun c => by cases h <;> simp [offs]
 exact ⟨fun j hj => hap.1 j _ (E.kid_at hj) _ (hm _), fun j j' hj hj' hne => hap.2.2.1 j j' _ _ hne (E.kid_at hj) (E.kid_at hj') _ (hm _) _ (hm _)⟩
/-- What stays the same where only the node and its j-th and next kid are written. -/
theorem NdP.frame (E : NdP l s h t i) {j : Nat} (hj : j < t.ps.length) {m' : Nat → Int} (hS : ∀ a, Away l [t.o, (kid t j).o, (kid t (j + 1)).o] a → m' a = s.m a) :
  (∀ jj c, jj ≠ j → jj ≠ j + 1 → t.ks[jj]? = some c → TreeM l m' h c) ∧ (∀ g k, h = g + 1 → k ∈ (kid t j).ks ∨ k ∈ (kid t (j + 1)).ks → TreeM l m' g k) ∧ ∀ a, Away l (offs (h + 1) t) a → m' a = s.m a := by
 have hap := apart_kids (os := []) (by rw [List.append_nil]; exact E.apart)
 have hx := E.kid_at (Nat.le_of_lt hj)
 have hy := E.kid_at (show j + 1 ≤ t.ps.length by omega)
 have hm : ∀ c : BT, c.o ∈ offs h c := fun c => by cases h <;> simp [offs]
 refine ⟨fun jj c h1 h2 hc => ?_, fun g k hg hk => ?_, fun a ha => hS a fun o ho => ?_⟩
 ·have hcm := List.mem_of_getElem? hc
  have hj' : jj ≤ t.ps.length := by have := (List.getElem?_eq_some_iff.1 hc).1; have := E.h3; omega
  have hok := E.ok2 hj'
  rw [E.kid_at hj'] at hc
  cases hc
  refine (E.tree.2 _ hcm).same hok fun o ho a a1 a2 => hS a fun x hx' => ?_
  simp only [List.mem_cons, List.not_mem_nil, or_false] at hx'
  rcases hx' with rfl | rfl | rfl
  ·rcases hap.1 jj _ (E.kid_at hj') o ho with w | w <;> omega
  ·rcases hap.2.2.1 jj j _ _ h1 (E.kid_at hj') hx o ho _ (hm _) with w | w <;> omega
  ·rcases hap.2.2.1 jj (j + 1) _ _ h2 (E.kid_at hj') hy o ho _ (hm _) with w | w <;> omega
 ·subst hg
  have main : ∀ (e f : Nat), e ≤ t.ps.length → f ≤ t.ps.length → e ≠ f → (∀ a, Away l [t.o, (kid t e).o, (kid t f).o] a → m' a = s.m a) → k ∈ (kid t e).ks → TreeM l m' g k := fun e f he hf hne hS' hk => by
   have hem := List.mem_of_getElem? (E.kid_at he)
   obtain ⟨q, hq⟩ := List.getElem?_of_mem hk
   have hape := apart_kids (l := l) (os := []) (h := g) (t := kid t e) (by
    rw [List.append_nil]
    exact List.Pairwise.sublist (offs_sub hem) E.apart)
   refine ((E.tree.2 _ hem).2 k hk).same ((E.ok2 he).2.2.2 k hk) fun o ho a a1 a2 => hS' a fun x hx' => ?_
   have hoe : o ∈ offs (g + 1) (kid t e) := offs_kid hk o ho
   simp only [List.mem_cons, List.not_mem_nil, or_false] at hx'
   rcases hx' with rfl | rfl | rfl
   ·rcases hap.1 e _ (E.kid_at he) o hoe with w | w <;> omega
   ·rcases hape.1 q k hq o ho with w | w <;> omega
   ·rcases hap.2.2.1 e f _ _ hne (E.kid_at he) (E.kid_at hf) o hoe _ (hm _) with w | w <;> omega
  rcases hk with hk | hk
  ·exact main j (j + 1) (by omega) (by omega) (by omega) hS hk
  ·exact main (j + 1) j (by omega) (by omega) (by omega) (fun a ha => hS a fun o ho => ha o (by simp only [List.mem_cons, List.not_mem_nil, or_false] at ho ⊢; rcases ho with w | w | w <;> simp [w])) hk
 ·simp only [List.mem_cons, List.not_mem_nil, or_false] at ho
  rcases ho with rfl | rfl | rfl
  ·exact ha _ (by simp [offs])
  ·exact ha _ (offs_kid (List.mem_of_getElem? hx) _ (hm _))
  ·exact ha _ (offs_kid (List.mem_of_getElem? hy) _ (hm _))
theorem tree_of {m : Nat → Int} {c : BT} (hN : NodeM l m c.o c.ps (decide (h = 0)) (c.ks.map BT.o) (tot h c)) (hk : ∀ g k, h = g + 1 → k ∈ c.ks → TreeM l m g k) : TreeM l m h c := by
 cases h with
 | zero => exact hN
 | succ g => exact ⟨hN, fun k hm => hk g k rfl hm⟩
theorem turn_mem (E : NdP l s h t i) {j : Nat} (hj : j < t.ps.length) {r : BT × Pr × BT} (ho1 : r.1.o = (kid t j).o) (ho2 : r.2.2.o = (kid t (j + 1)).o) (hsub : ∀ k, k ∈ r.1.ks ∨ k ∈ r.2.2.ks → k ∈ (kid t j).ks ∨ k ∈ (kid t (j + 1)).ks) {m' : Nat → Int} (htot : tot (h + 1) (turnAt t j r) = tot (h + 1) t)
  (hN : NodeM l m' t.o (t.ps.set j r.2.1) false (t.ks.map BT.o) (tot (h + 1) t)) (hx : NodeM l m' (kid t j).o r.1.ps (decide (h = 0)) (r.1.ks.map BT.o) (tot h r.1)) (hy : NodeM l m' (kid t (j + 1)).o r.2.2.ps (decide (h = 0)) (r.2.2.ks.map BT.o) (tot h r.2.2))
  (hS : ∀ a, Away l [t.o, (kid t j).o, (kid t (j + 1)).o] a → m' a = s.m a) : TreeM l m' (h + 1) (turnAt t j r) ∧ ∀ a, Away l (offs (h + 1) t) a → m' a = s.m a := by
 obtain ⟨f1, f2, f3⟩ := E.frame hj hS
 have kx := E.kid_at (Nat.le_of_lt hj)
 have ky := E.kid_at (show j + 1 ≤ t.ps.length by omega)
 refine ⟨⟨?_, fun c hc => ?_⟩, f3⟩
 ·show NodeM l m' t.o (t.ps.set j r.2.1) false (((t.ks.set j r.1).set (j + 1) r.2.2).map BT.o) (tot (h + 1) (turnAt t j r))
  rw [htot, List.map_set, set_o kx ho1, ho2]
  have : (t.ks.map BT.o).set (j + 1) (kid t (j + 1)).o = t.ks.map BT.o := by rw [← List.map_set]; exact set_o ky rfl
  rw [this]; exact hN
 ·rcases set_mem (show c ∈ (t.ks.set j r.1).set (j + 1) r.2.2 from hc) with rfl | ⟨jj, hjj, hc⟩
  ·exact tree_of (by rw [ho2]; exact hy) fun g k hg hk => f2 g k hg (hsub k (.inr hk))
  ·rw [List.getElem?_set] at hc
   split at hc
   ·split at hc
    ·cases hc
     exact tree_of (by rw [ho1]; exact hx) fun g k hg hk => f2 g k hg (hsub k (.inl hk))
    ·cases hc
   ·next q => exact f1 jj c (fun e => q e.symm) hjj hc
theorem join_mem (E : NdP l s h t i) {j : Nat} (hj : j < t.ps.length) {m' : Nat → Int} (htot : tot (h + 1) (joinAt t j) = tot (h + 1) t)
  (hN : NodeM l m' t.o (t.ps.eraseIdx j) false ((t.ks.map BT.o).eraseIdx (j + 1)) (tot (h + 1) t)) (hx : NodeM l m' (kid t j).o (joinB (kid t j) (kid t (j + 1)) (pr t j)).ps (decide (h = 0)) ((joinB (kid t j) (kid t (j + 1)) (pr t j)).ks.map BT.o) (tot h (joinB (kid t j) (kid t (j + 1)) (pr t j))))
  (hS : ∀ a, Away l [t.o, (kid t j).o, (kid t (j + 1)).o] a → m' a = s.m a) : TreeM l m' (h + 1) (joinAt t j) ∧ ∀ a, Away l (offs (h + 1) t) a → m' a = s.m a := by
 obtain ⟨f1, f2, f3⟩ := E.frame hj hS
 have kx := E.kid_at (Nat.le_of_lt hj)
 refine ⟨⟨?_, fun c hc => ?_⟩, f3⟩
 ·show NodeM l m' t.o (t.ps.eraseIdx j) false (((t.ks.set j (joinB (kid t j) (kid t (j + 1)) (pr t j))).eraseIdx (j + 1)).map BT.o) (tot (h + 1) (joinAt t j))
  rw [htot, map_erase, set_o kx (show (joinB (kid t j) (kid t (j + 1)) (pr t j)).o = (kid t j).o from rfl)]
  exact hN
 ·have hc' : c ∈ (t.ks.set j (joinB (kid t j) (kid t (j + 1)) (pr t j))).eraseIdx (j + 1) := hc
  obtain ⟨jj, hjj, hc'⟩ := List.mem_eraseIdx_iff_getElem?.1 hc'
  rw [List.getElem?_set] at hc'
  split at hc'
  ·split at hc'
   ·cases hc'
    refine tree_of hx fun g k hg hk => f2 g k hg ?_
    rcases List.mem_append.1 (show k ∈ (kid t j).ks ++ (kid t (j + 1)).ks from hk) with w | w
    ·exact .inl w
    ·exact .inr w
   ·cases hc'
  ·next q => exact f1 jj c (fun e => q e.symm) hjj hc'
end
end Go.Proofs.Ytjekhcojebgpnaa.Bt
