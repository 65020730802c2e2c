/- A balanced tree: the whole of a put, with its new root. No program's code. -/
import Derived.Test.YtjekhcojebgpnaaBtA
set_option linter.unusedVariables false
set_option linter.unusedSimpArgs false
set_option linter.unusedSectionVars false
namespace Go.Proofs.Ytjekhcojebgpnaa.Bt
open Go.RowKit Go.Proofs Go.Proofs.Ytjekhcojebgpnaa.Eng Go.Proofs.Ytjekhcojebgpnaa.Mem Go.Proofs.Ytjekhcojebgpnaa.Layout Go.Proofs.Ytjekhcojebgpnaa.Arena Go.Proofs.Ytjekhcojebgpnaa.GroupB
/-- How many new nodes a put takes, off the way down. -/
def fwL : List (Nat × BT × Nat) → Nat × Bool
 | [] => (0, true)
 | e :: r => if (fwL r).2 = true ∧ e.2.1.ps.length = 7 then ((fwL r).1 + 1, true) else ((fwL r).1, false)
theorem fw_path : ∀ {h : Nat} {t : BT} {k : ByteArray}, fw h t k = fwL (pathB h t k)
 | 0, t, k => by
  unfold fw pathB fwL fwL
  by_cases q : t.ps.length = 7
  ·rw [if_pos q, if_pos ⟨rfl, q⟩]
  ·rw [if_neg q, if_neg (fun w => q w.2)]
 | h + 1, t, k => by
  rw [fw, pathB, fwL]
  simp only [fw_path (h := h)]
theorem fwL_at : ∀ {L : List (Nat × BT × Nat)} {n : Nat}, n ≤ L.length → (∀ j e, j < n → L[L.length - 1 - j]? = some e → e.2.1.ps.length = 7) → (n = L.length ∨ ∃ e, L[L.length - 1 - n]? = some e ∧ e.2.1.ps.length ≠ 7) → fwL L = (n, decide (n = L.length))
 | [], n, h, _, _ => by simp at h; subst h; rfl
 | e :: r, n, h, h1, h2 => by
  simp only [List.length_cons] at h h1 h2 ⊢
  by_cases hn : n = r.length + 1
  ·subst hn
   have ih := fwL_at (L := r) (n := r.length) (Nat.le_refl _) (fun j e' hj he => h1 j e' (by omega) (by
    rw [show r.length + 1 - 1 - j = (r.length - 1 - j) + 1 by omega, List.getElem?_cons_succ]; exact he)) (.inl rfl)
   have he := h1 r.length e (by omega) (by rw [show r.length + 1 - 1 - r.length = 0 by omega]; rfl)
   rw [fwL, ih, if_pos ⟨by simp, he⟩]
   simp
  ·have h2' := h2.resolve_left hn
   obtain ⟨e', he1, he2⟩ := h2'
   by_cases hr : n = r.length
   ·subst hr
    rw [show r.length + 1 - 1 - r.length = 0 by omega] at he1
    cases he1
    have ih := fwL_at (L := r) (n := r.length) (Nat.le_refl _) (fun j e' hj he => h1 j e' (by omega) (by
     rw [show r.length + 1 - 1 - j = (r.length - 1 - j) + 1 by omega, List.getElem?_cons_succ]; exact he)) (.inl rfl)
    rw [fwL, ih, if_neg (fun w => he2 w.2)]
    simp
   ·have ih := fwL_at (L := r) (n := n) (by omega) (fun j e' hj he => h1 j e' hj (by
     rw [show r.length + 1 - 1 - j = (r.length - 1 - j) + 1 by omega, List.getElem?_cons_succ]; exact he)) (.inr ⟨e', by
     rw [show r.length + 1 - 1 - n = (r.length - 1 - n) + 1 by omega, List.getElem?_cons_succ] at he1; exact he1, he2⟩)
    rw [fwL, ih, if_neg (fun w => by have := w.1; simp at this; omega)]
    simp; omega
theorem fwL_le : ∀ (L : List (Nat × BT × Nat)), (fwL L).1 ≤ L.length
 | [] => Nat.le_refl _
 | e :: r => by
  have := fwL_le r
  rw [fwL]
  split <;> simp only [List.length_cons] <;> omega
theorem path_ok {k : ByteArray} : ∀ {x : TX}, (∀ h t, x = some (h, t) → ok h 1 t) → ∀ a ∈ pathX x k, ok a.1 1 a.2.1
 | none, _, a, ha => by cases ha
 | some (h, t), hx, a, ha => by
  have hk := hx h t O
  clear hx
  revert ha
  induction h generalizing t with
  | zero =>
   intro ha
   have ha' : a ∈ pathB 0 t k := ha
   simp only [pathB, List.mem_cons, List.not_mem_nil, or_false] at ha'
   subst ha'; exact hk
  | succ h ih =>
   intro ha
   have ha' : a ∈ (h + 1, t, rk t.ps k) :: pathB h (kid t (rk t.ps k)) k := ha
   rcases List.mem_cons.1 ha' with rfl | w
   ·exact hk
   ·have hm : kid t (rk t.ps k) ∈ t.ks := List.mem_of_getElem? (kid_at (by have := hk.2.2.1; have := rk_le t.ps k; omega))
    exact ih (kid t (rk t.ps k)) (ok_mono (by omega) (hk.2.2.2 _ hm)) w
/-- How many new nodes a put takes. -/
def needX (x : TX) (k : ByteArray) : Nat := (fwL (pathX x k)).1 + if (fwL (pathX x k)).2 = true then 1 else 0
/-- The tree behind a put of a new pair. -/
def addX : TX → Pr → List Nat → TX
 | none, p, os => some (0, .nd (os.headD 0) [p] [])
 | some x, p, os => match (addB x.1 x.2 p os).2.1 with
  | none => some (x.1, (addB x.1 x.2 p os).1)
  | some q => some (x.1 + 1, .nd ((addB x.1 x.2 p os).2.2.headD 0) [q.1] [(addB x.1 x.2 p os).1, q.2])
/-- What holds ahead of a put, of the whole tree. -/
structure AddX (l : Lay) (m0 : Nat → Int) (os : List Nat) (k : ByteArray) (x : TX) : Prop where
 nd : ∀ h t, x = some (h, t) → AddH l m0 os k h t
 len : os.length = needX x k
theorem addX_law {l : Lay} {m0 : Nat → Int} {os : List Nat} {k e : ByteArray} {x : TX} (H : AddX l m0 os k x) : (addX x (k, e) os).L = putL k e x.L ∧ (∀ h t, addX x (k, e) os = some (h, t) → ok h 1 t) ∧ (addX x (k, e) os).offs.Perm (x.offs ++ os) ∧ addX x (k, e) os ≠ none ∧
  (addX x (k, e) os).height = x.height + if (fwL (pathX x k)).2 = true then 1 else 0 := by
 cases x with
 | none =>
  have hl : os.length = 1 := H.len
  obtain ⟨o, rfl⟩ : ∃ o, os = [o] := List.length_eq_one_iff.1 hl
  refine ⟨rfl, fun h t ht => ?_, .refl _, by simp [addX], rfl⟩
  cases ht
  exact ⟨by simp [BT.ps], by simp [BT.ps], rfl⟩
 | some x =>
  obtain ⟨h, t⟩ := x
  have hn := H.nd h t O
  have hl := H.len
  obtain ⟨h1, h2, h3, h4, h5⟩ := hn.law e
  have hfw : fw h t k = fwL (pathX (some (h, t)) k) := fw_path
  unfold needX at hl
  rw [← hfw] at hl ⊢
  unfold addX
  dsimp only
  cases hu : (addB h t (k, e) os).2.1 with
  | none =>
   rw [hu] at h1 h2 h3 h5
   have hf : (fw h t k).2 = false := h5.symm
   rw [hf] at hl ⊢
   simp only [Bool.false_eq_true, if_false, Nat.add_zero] at hl ⊢
   refine ⟨h1, fun h' t' ht => (by cases ht; exact h2), ?_, by simp, rfl⟩
   refine (show List.Perm _ _ from h3).trans ?_
   rw [List.take_of_length_le (by omega)]; exact .refl _
  | some q =>
   rw [hu] at h1 h2 h3 h5
   have hf : (fw h t k).2 = true := h5.symm
   rw [hf] at hl ⊢
   simp only [if_true] at hl ⊢
   refine ⟨?_, fun h' t' ht => ?_, ?_, by simp, rfl⟩
   ·show il [lst h _, lst h q.2] [q.1] = _
    simp only [il]
    exact h1
   ·cases ht
    exact ⟨by simp [BT.ps], by simp [BT.ps], by simp [BT.ps, BT.ks], fun c hc => by
     simp only [BT.ks, List.mem_cons, List.not_mem_nil, or_false] at hc
     rcases hc with rfl | rfl
     ·exact h2.1
     ·exact h2.2⟩
   ·show (((addB h t (k, e) os).2.2.headD 0) :: ([offs h _, offs h q.2]).flatten).Perm _
    have e1 : (addB h t (k, e) os).2.2.headD 0 :: [] = os.drop (fw h t k).1 := by
     rw [h4]
     have : (os.drop (fw h t k).1).length = 1 := by rw [List.length_drop]; omega
     obtain ⟨o, ho⟩ := List.length_eq_one_iff.1 this
     rw [ho]; rfl
    simp only [List.flatten_cons, List.flatten_nil, List.append_nil]
    have h3' : (offs h (addB h t (k, e) os).1 ++ offs h q.2).Perm (offs h t ++ os.take (fw h t k).1) := h3
    refine (h3'.cons _).trans ?_
    refine (List.perm_append_singleton _ _).symm.trans ?_
    rw [e1, List.append_assoc, List.take_append_drop]
    exact .refl _
theorem putL_sl {k e : ByteArray} : ∀ {L : List Pr}, SL L → SL (putL k e L)
 | [], _ => List.pairwise_singleton _ _
 | p :: L, h => by
  have h1 := List.pairwise_cons.1 h
  have hm : ∀ {L : List Pr} {q : Pr}, q ∈ putL k e L → q ∈ L ∨ q.1 = k := by
   intro L
   induction L with
   | nil => intro q hq; simp [putL] at hq; exact .inr (by rw [hq])
   | cons a L ih =>
    intro q hq
    unfold putL at hq
    split at hq
    ·rcases List.mem_cons.1 hq with rfl | hq
     ·exact .inl (by simp)
     ·rcases ih hq with w | w
      ·exact .inl (by simp [w])
      ·exact .inr w
    ·split at hq
     ·rcases List.mem_cons.1 hq with rfl | hq
      ·exact .inr rfl
      ·exact .inl (by simp [hq])
     ·rcases List.mem_cons.1 hq with rfl | hq
      ·exact .inr rfl
      ·exact .inl hq
  unfold putL
  split
  ·next q =>
   refine List.pairwise_cons.2 ⟨fun x hx => ?_, putL_sl h1.2⟩
   rcases hm hx with w | w
   ·exact h1.1 x w
   ·rw [w]; exact q
  ·next q =>
   split
   ·next q2 => exact List.pairwise_cons.2 ⟨fun x hx => by have := h1.1 x hx; rw [← q2]; exact this, h1.2⟩
   ·next q2 =>
    have hk : lt k p.1 := by
     rcases lt_tri p.1 k with w | w | w
     ·exact absurd w q
     ·exact absurd w q2
     ·exact w
    refine List.pairwise_cons.2 ⟨fun x hx => ?_, h⟩
    rcases List.mem_cons.1 hx with rfl | hx
    ·exact hk
    ·exact lt_trans hk (h1.1 x hx)
theorem putL_mem {k e : ByteArray} : ∀ {L : List Pr} {q : Pr}, q ∈ putL k e L → q ∈ L ∨ q = (k, e)
 | [], q, hq => by simp [putL] at hq; exact .inr hq
 | a :: L, q, hq => by
  unfold putL at hq
  split at hq
  ·rcases List.mem_cons.1 hq with rfl | hq
   ·exact .inl (by simp)
   ·rcases putL_mem hq with w | w
    ·exact .inl (by simp [w])
    ·exact .inr w
  ·split at hq
   ·rcases List.mem_cons.1 hq with rfl | hq
    ·exact .inr rfl
    ·exact .inl (by simp [hq])
   ·rcases List.mem_cons.1 hq with rfl | hq
    ·exact .inr rfl
    ·exact .inl hq
/-! ### What a split needs to know -/
theorem sum_getD {A : Type} (f : A → Nat) : ∀ (l : List A) (n : Nat), n = l.length → ((List.range n).map fun j => ((l[j]?).map f).getD 0).sum = (l.map f).sum
 | l, n, h => by
  subst h
  congr 1
  apply List.ext_getElem?
  intro j
  rw [List.getElem?_map, List.getElem?_map]
  rcases Nat.lt_or_ge j l.length with q | q
  ·rw [List.getElem?_range q, Option.map_some, List.getElem?_eq_getElem q]; rfl
  ·rw [List.getElem?_eq_none (by simpa using q), List.getElem?_eq_none q]; rfl
theorem tot_nd {h o : Nat} {ps : List Pr} {ks : List BT} (hk : ks.length = ps.length + 1) : tot (h + 1) (.nd o ps ks) = ps.length + (ks.map (tot h)).sum := by
 unfold tot
 show (il (ks.map (lst h)) ps).length = _
 rw [il_len (by rw [List.length_map]; exact hk), List.map_map]
 rfl
section
variable {l : Lay} {m0 : Nat → Int} {os : List Nat} {k e : ByteArray} {h : Nat} {t : BT}
/-- The kids behind a kid's put. -/
def kidsN (os : List Nat) (k e : ByteArray) (h : Nat) (t : BT) (q : Pr × BT) : List BT := ins (t.ks.set (rk t.ps k) (addB h (kid t (rk t.ps k)) (k, e) os).1) (rk t.ps k + 1) q.2
theorem kidsN_facts (H : AddH l m0 os k (h + 1) t) {m1 : Nat → Int} (R : AddM l m0 os (k, e) h (kid t (rk t.ps k)) m1) {q : Pr × BT} (hr : (addB h (kid t (rk t.ps k)) (k, e) os).2.1 = some q) :
  (kidsN os k e h t q).map BT.o = ins (t.ks.map BT.o) (rk t.ps k + 1) q.2.o ∧ ∀ c ∈ kidsN os k e h t q, TreeM l m1 h c ∧ c.o ∈ offs (h + 1) t ++ os := by
 have hc : t.ks[rk t.ps k]? = some (kid t (rk t.ps k)) := kid_at (by have := H.ok.2.2.1; have := rk_le t.ps k; omega)
 obtain ⟨f1, f2, f3, _⟩ := kids_frame (m := m1) H R [] (fun a _ => rfl) (fun x hx => by cases hx) fun x hx => by cases hx
 obtain ⟨i1, i2⟩ := H.kid.in e
 have hhead : ∀ (h : Nat) (c : BT), c.o ∈ offs h c := fun h c => by cases h <;> simp [offs]
 have hk : ∀ o, o ∈ offs h (kid t (rk t.ps k)) ++ os → o ∈ offs (h + 1) t ++ os := fun o ho => by
  rcases List.mem_append.1 ho with w | w
  ·exact List.mem_append_left _ (offs_kid (List.mem_of_getElem? hc) o w)
  ·exact List.mem_append_right _ w
 unfold kidsN
 refine ⟨by rw [ins_map, set_o hc put_o], fun c hcm => ?_⟩
 rcases ins_mem hcm with rfl | w
 ·exact ⟨f2 q hr, hk _ (i2 q hr _ (hhead _ _))⟩
 ·rcases set_mem w with rfl | ⟨j, hj, hjc⟩
  ·exact ⟨f1, hk _ (i1 _ (hhead _ _))⟩
  ·exact ⟨f3 j c hj hjc, List.mem_append_left _ (offs_kid (List.mem_of_getElem? hjc) _ (hhead _ _))⟩
theorem full_tot (H : AddH l m0 os k (h + 1) t) {q : Pr × BT} (hr : (addB h (kid t (rk t.ps k)) (k, e) os).2.1 = some q) (hl : t.ps.length = 7) (o2 : Nat) :
  tot (h + 1) (.nd o2 ((ins t.ps (rk t.ps k) q.1).drop 4) ((kidsN os k e h t q).drop 4)) = 4 + ((List.range 5).map fun j => (((kidsN os k e h t q)[4 + j]?).map (tot h)).getD 0).sum ∧
  tot (h + 1) (.nd t.o ((ins t.ps (rk t.ps k) q.1).take 3) ((kidsN os k e h t q).take 4)) = tot (h + 1) t - (4 + ((List.range 5).map fun j => (((kidsN os k e h t q)[4 + j]?).map (tot h)).getD 0).sum) ∧
  4 + ((List.range 5).map fun j => (((kidsN os k e h t q)[4 + j]?).map (tot h)).getD 0).sum ≤ tot (h + 1) t := by
 have hkl := H.ok.2.2.1
 have hil := ins_len t.ps (rk t.ps k) q.1
 have hnl : (kidsN os k e h t q).length = 9 := by unfold kidsN; rw [ins_len, List.length_set]; omega
 have e1 : ((List.range 5).map fun j => (((kidsN os k e h t q)[4 + j]?).map (tot h)).getD 0).sum = (((kidsN os k e h t q).drop 4).map (tot h)).sum := by
  have := sum_getD (tot h) ((kidsN os k e h t q).drop 4) 5 (by rw [List.length_drop]; omega)
  rw [← this]
  congr 1
  refine List.map_congr_left fun j _ => ?_
  rw [List.getElem?_drop]
 have e2 : ∀ o2, tot (h + 1) (.nd o2 ((ins t.ps (rk t.ps k) q.1).drop 4) ((kidsN os k e h t q).drop 4)) = 4 + (((kidsN os k e h t q).drop 4).map (tot h)).sum := fun o2 => by
  rw [tot_nd (by rw [List.length_drop, List.length_drop]; omega), List.length_drop]; omega
 have ht := H.tot_new e
 rw [addB_full (p := (k, e)) hr hl] at ht
 have ht' : (lst (h + 1) (.nd t.o ((ins t.ps (rk t.ps k) q.1).take 3) ((kidsN os k e h t q).take 4)) ++ (((ins t.ps (rk t.ps k) q.1)[3]?).getD default) :: lst (h + 1) (.nd ((addB h (kid t (rk t.ps k)) (k, e) os).2.2.headD 0) ((ins t.ps (rk t.ps k) q.1).drop 4) ((kidsN os k e h t q).drop 4))).length = tot (h + 1) t + 1 := ht
 have ht2 : tot (h + 1) (.nd t.o ((ins t.ps (rk t.ps k) q.1).take 3) ((kidsN os k e h t q).take 4)) + (tot (h + 1) (.nd ((addB h (kid t (rk t.ps k)) (k, e) os).2.2.headD 0) ((ins t.ps (rk t.ps k) q.1).drop 4) ((kidsN os k e h t q).drop 4)) + 1) = tot (h + 1) t + 1 := by
  rw [List.length_append, List.length_cons] at ht'; exact ht'
 have e3 := e2 ((addB h (kid t (rk t.ps k)) (k, e) os).2.2.headD 0)
 rw [e1, e2]
 refine ⟨rfl, by omega, by omega⟩
end
end Go.Proofs.Ytjekhcojebgpnaa.Bt
