/- A balanced tree: the loop of a put, from below, as a state and its steps. No program's code. -/
import Derived.Test.YtjekhcojebgpnaaBtL
set_option linter.unusedVariables false
set_option linter.unusedSimpArgs false
set_option linter.unusedSectionVars false
namespace Go.Proofs.Ytjekhcojebgpnaa.Bt
open Go.RowKit Go.Proofs Go.Proofs.Ytjekhcojebgpnaa.Eng Go.Proofs.Ytjekhcojebgpnaa.Mem Go.Proofs.Ytjekhcojebgpnaa.Layout Go.Proofs.Ytjekhcojebgpnaa.Arena Go.Proofs.Ytjekhcojebgpnaa.GroupB
/-- What holds of each node of the way, ahead of the put. -/
structure AddE (l : Lay) (s : ArS) (os : List Nat) (k : ByteArray) (h : Nat) (t : BT) : Prop where
 H : AddH l s.m os k h t
 bl : ∀ o ∈ offs h t ++ os, blkN l o ∈ s.bl
 tot : tot h t ≤ 1000000000
 sz : ∀ p ∈ lst h t, szs l p
/-- The loop's state: c nodes of the way are still to come; cur: what lies below them; P, right: the pair that goes up, and the node behind it; jn new blocks are used. -/
structure AddI (l : Lay) (s : ArS) (os : List Nat) (k e : ByteArray) (path : List (Nat × BT × Nat)) (c : Nat) (cur : TX) (m : Nat → Int) (P : Pr) (right jn : Nat) : Prop where
 cl : c ≤ path.length
 rest : path.drop c = pathX cur k
 st0 : cur = none → P = (k, e) ∧ right = 0 ∧ jn = 0 ∧ m = s.m
 st1 : ∀ h t, cur = some (h, t) → AddM l s.m os (k, e) h t m ∧ os.drop jn = (addB h t (k, e) os).2.2 ∧ ((addB h t (k, e) os).2.1 = none → P = p0) ∧ ∀ q, (addB h t (k, e) os).2.1 = some q → P = q.1 ∧ right = q.2.o
section
variable {l : Lay} (hl : l.err = 0) {s : ArS} (hs : s.ok) {os : List Nat} {k e : ByteArray} (hk : k.size = kN l) (he : e.size = eN l) {x : TX} (hE : ∀ a ∈ pathX x k, AddE l s os k a.1 a.2.1)
include hl hs hk he hE
omit hl hk he hE in
theorem bl_bnd {o : Nat} (h : blkN l o ∈ s.bl) : 16 ≤ o ∧ o ≤ 1000000000 := by
 have c1 := ArS.chain_pos hs.chain _ (mem_bl.1 h).1
 have c2 := chain_end hs.chain (mem_bl.1 h).1
 have c3 := hs.stop_eq
 simp only [blkN] at c1 c2
 omega
/-- The node at hand: where it is on the way. -/
theorem AddI.at {c : Nat} {cur : TX} {m : Nat → Int} {P : Pr} {right jn : Nat} (I : AddI l s os k e (pathX x k) (c + 1) cur m P right jn) {h i : Nat} {t : BT} (ha : (pathX x k)[c]? = some (h, t, i)) :
  i = rk t.ps k ∧ cur = nxt h t (rk t.ps k) ∧ AddE l s os k h t ∧ (pathX x k).drop c = pathX (some (h, t)) k := by
 obtain ⟨hc, hce⟩ := List.getElem?_eq_some_iff.1 ha
 have hd : (pathX x k).drop c = (h, t, i) :: (pathX x k).drop (c + 1) := by rw [← hce]; exact (List.getElem_cons_drop hc).symm
 have hpart : pathX x k = (pathX x k).take c ++ (h, t, i) :: (pathX x k).drop (c + 1) := by rw [← hd, List.take_append_drop]
 have hmem : (h, t, i) ∈ pathX x k := List.mem_of_getElem? ha
 have hee := hE _ hmem
 cases x with
 | none => simp [pathX] at hc
 | some y =>
  obtain ⟨h1, h2⟩ := path_part (k := k) (H := y.1) (T := y.2) hpart
  dsimp only at h1 h2
  subst h1
  refine ⟨rfl, pathX_inj (k := k) (by rw [← I.rest]; exact h2), hee, ?_⟩
  rw [hd, h2]
  exact (path_cons (h := h) (t := t)).symm
omit hs hk he hE in
theorem szs_ne {p : Pr} (h : szs l p) : p.1 ≠ ⟨#[]⟩ := fun e => by
 have h1 := h.1
 have := (layN hl).k1
 rw [e] at h1
 have h2 : (⟨#[]⟩ : ByteArray).size = 0 := rfl
 omega
theorem up_szs {h : Nat} {t : BT} (E : AddE l s os k h t) {q : Pr × BT} (hq : (addB h t (k, e) os).2.1 = some q) : szs l q.1 ∧ 16 ≤ q.2.o ∧ q.2.o ≤ 1000000000 := by
 have h1 := (E.H.law e).1
 rw [hq] at h1
 have hm : q.1 ∈ putL k e (lst h t) := by rw [← h1]; simp [lstU]
 have h2 := (E.H.in e).2 q hq
 have hin : q.2.o ∈ offs h q.2 := by cases h <;> simp [offs]
 refine ⟨?_, bl_bnd hs (E.bl _ (h2 _ hin))⟩
 rcases putL_mem hm with w | w
 ·exact E.sz _ w
 ·rw [w]; exact ⟨hk, he⟩
/-- What is known of the pair that goes up. -/
theorem AddI.pair {c : Nat} {cur : TX} {m : Nat → Int} {P : Pr} {right jn : Nat} (I : AddI l s os k e (pathX x k) c cur m P right jn) : (P.1 = ⟨#[]⟩ ∧ ∃ h t, cur = some (h, t) ∧ (addB h t (k, e) os).2.1 = none) ∨
  P.1 ≠ ⟨#[]⟩ ∧ szs l P ∧ right ≤ 1000000000 ∧ ((cur = none ∧ P = (k, e) ∧ right = 0 ∧ jn = 0) ∨ ∃ h t q, cur = some (h, t) ∧ (addB h t (k, e) os).2.1 = some q ∧ P = q.1 ∧ right = q.2.o) := by
 cases hc : cur with
 | none =>
  obtain ⟨rfl, rfl, rfl, _⟩ := I.st0 hc
  have hz : szs l (k, e) := ⟨hk, he⟩
  exact .inr ⟨szs_ne hl hz, hz, by omega, .inl ⟨rfl, rfl, rfl, rfl⟩⟩
 | some y =>
  obtain ⟨h, t⟩ := y
  obtain ⟨_, _, h3, h4⟩ := I.st1 h t hc
  have hr := I.rest
  rw [hc] at hr
  have hmem : (h, t, rk t.ps k) ∈ pathX x k := List.mem_of_mem_drop (i := c) (by rw [hr]; show _ ∈ pathB h t k; rw [path_cons]; simp)
  have hee := hE _ hmem
  cases hu : (addB h t (k, e) os).2.1 with
  | none => exact .inl ⟨by rw [h3 hu], h, t, rfl, hu⟩
  | some q =>
   obtain ⟨rfl, rfl⟩ := h4 q hu
   obtain ⟨z1, z2, z3⟩ := up_szs hl hs hk he hE hee hu
   exact .inr ⟨szs_ne hl z1, z1, z3, .inr ⟨h, t, q, rfl, hu, rfl, rfl⟩⟩
theorem AddI.stepA {c : Nat} {cur : TX} {m m' : Nat → Int} {P : Pr} {right jn : Nat} (I : AddI l s os k e (pathX x k) (c + 1) cur m P right jn) {h i : Nat} {t : BT} (ha : (pathX x k)[c]? = some (h, t, i)) (hP : P.1 = ⟨#[]⟩)
  (hN : NodeM l m' t.o t.ps (decide (h = 0)) (t.ks.map BT.o) (Bt.tot h t + 1)) (ho : ∀ a, a < t.o ∨ t.o + nbN l ≤ a → m' a = m a) : AddI l s os k e (pathX x k) c (some (h, t)) m' P right jn := by
 obtain ⟨rfl, hcur, E, hd⟩ := I.at hl hs hk he hE ha
 rcases I.pair hl hs hk he hE with ⟨_, h', t', e1, e2⟩ | ⟨w, _⟩
 ·rw [hcur] at e1
  cases h with
  | zero => cases e1
  | succ g =>
   cases e1
   obtain ⟨r1, r2, r3, _⟩ := I.st1 _ _ hcur
   have hon := addB_on (os := os) (p := (k, e)) e2
   refine ⟨by have := I.cl; omega, hd, fun w => (by cases w), fun h1 t1 w => ?_⟩
   cases w
   refine ⟨add_on E.H r1 e2 hN ho, ?_, fun _ => r3 e2, fun q hq => ?_⟩
   ·rw [hon]; exact r2
   ·rw [hon] at hq; cases hq
 ·exact absurd hP w
/-- The kids behind a put into the node itself. -/
def kidsP (h : Nat) (t : BT) (i right : Nat) : List Nat := if h = 0 then [] else ins (t.ks.map BT.o) (i + 1) right
theorem AddI.stepB {c : Nat} {cur : TX} {m m' : Nat → Int} {P : Pr} {right jn : Nat} (I : AddI l s os k e (pathX x k) (c + 1) cur m P right jn) {h i : Nat} {t : BT} (ha : (pathX x k)[c]? = some (h, t, i)) (hP : P.1 ≠ ⟨#[]⟩) (h7 : t.ps.length < 7)
  (hN : NodeM l m' t.o (ins t.ps i P) (decide (h = 0)) (kidsP h t i right) (Bt.tot h t + 1)) (ho : ∀ a, a < t.o ∨ t.o + nbN l ≤ a → m' a = m a) : AddI l s os k e (pathX x k) c (some (h, t)) m' p0 right jn := by
 obtain ⟨rfl, hcur, E, hd⟩ := I.at hl hs hk he hE ha
 rcases I.pair hl hs hk he hE with ⟨w, _⟩ | ⟨_, _, _, ⟨e1, rfl, rfl, rfl⟩ | ⟨h', t', q, e1, e2, rfl, rfl⟩⟩
 ·exact absurd w hP
 ·rw [hcur] at e1
  cases h with
  | succ g => cases e1
  | zero =>
   obtain ⟨_, _, _, rfl⟩ := I.st0 hcur
   have hro := addB_room0 (os := os) (p := (k, e)) h7
   refine ⟨by have := I.cl; omega, hd, fun w => (by cases w), fun h1 t1 w => ?_⟩
   cases w
   refine ⟨add_room0 E.H h7 hN ho, ?_, fun _ => rfl, fun q hq => ?_⟩
   ·rw [hro]; rfl
   ·rw [hro] at hq; cases hq
 ·rw [hcur] at e1
  cases h with
  | zero => cases e1
  | succ g =>
   cases e1
   obtain ⟨r1, r2, _, _⟩ := I.st1 _ _ hcur
   have hro := addB_room (os := os) (p := (k, e)) e2 h7
   refine ⟨by have := I.cl; omega, hd, fun w => (by cases w), fun h1 t1 w => ?_⟩
   cases w
   refine ⟨add_room E.H r1 e2 h7 hN ho, ?_, fun _ => rfl, fun q hq => ?_⟩
   ·rw [hro]; exact r2
   ·rw [hro] at hq; cases hq
/-- A full node: there is a new block for its upper half. -/
theorem AddI.block {c : Nat} {cur : TX} {m : Nat → Int} {P : Pr} {right jn : Nat} (I : AddI l s os k e (pathX x k) (c + 1) cur m P right jn) {h i : Nat} {t : BT} (ha : (pathX x k)[c]? = some (h, t, i)) (hP : P.1 ≠ ⟨#[]⟩) (h7 : t.ps.length = 7) :
  ∃ o2, os[jn]? = some o2 ∧ o2 ∈ os ∧ (t.o + nbN l ≤ o2 ∨ o2 + nbN l ≤ t.o) := by
 obtain ⟨rfl, hcur, E, hd⟩ := I.at hl hs hk he hE ha
 have hro := E.H.room
 have hto : ∀ o2 ∈ os, t.o + nbN l ≤ o2 ∨ o2 + nbN l ≤ t.o := fun o2 ho2 => by
  have hap := List.pairwise_append.1 E.H.apart
  exact hap.2.2 t.o (by cases h <;> simp [offs]) o2 ho2
 have hfin : jn < os.length → ∃ o2, os[jn]? = some o2 ∧ o2 ∈ os ∧ (t.o + nbN l ≤ o2 ∨ o2 + nbN l ≤ t.o) := fun q => ⟨os[jn], List.getElem?_eq_getElem q, List.getElem_mem _, hto _ (List.getElem_mem _)⟩
 rcases I.pair hl hs hk he hE with ⟨w, _⟩ | ⟨_, _, _, ⟨e1, rfl, rfl, rfl⟩ | ⟨h', t', q, e1, e2, rfl, rfl⟩⟩
 ·exact absurd w hP
 ·rw [hcur] at e1
  cases h with
  | succ g => cases e1
  | zero =>
   refine hfin ?_
   unfold fw at hro
   rw [if_pos h7] at hro
   dsimp only at hro; omega
 ·rw [hcur] at e1
  cases h with
  | zero => cases e1
  | succ g =>
   cases e1
   obtain ⟨r1, r2, _, _⟩ := I.st1 _ _ hcur
   obtain ⟨_, _, _, l4, l5⟩ := E.H.kid.law e
   rw [e2] at l5
   have hf := l5.symm.trans (show (some q).isSome = true from rfl)
   rw [fw] at hro
   rw [if_pos ⟨hf, h7⟩] at hro
   dsimp only at hro
   rw [l4] at r2
   refine hfin ?_
   have := congrArg List.length r2
   rw [List.length_drop, List.length_drop] at this
   omega
/-- The totals below the upper half. -/
def splitT (os : List Nat) (k e : ByteArray) : Nat → BT → Nat → Nat
 | 0, _, _ => 0
 | g + 1, t, j => match (addB g (kid t (rk t.ps k)) (k, e) os).2.1 with
  | none => 0
  | some q => (((kidsN os k e g t q)[4 + j]?).map (Bt.tot g)).getD 0
def splitR (os : List Nat) (k e : ByteArray) (h : Nat) (t : BT) : Nat := 4 + (if decide (h = 0) = true then 0 else ((List.range 5).map (splitT os k e h t)).sum)
omit hl hs hk he hE in
theorem ins_zero {n i : Nat} (h : i ≤ n) : ins (List.replicate n 0) i 0 = List.replicate (n + 1) 0 := by
 unfold ins
 rw [List.take_replicate, List.drop_replicate, ← List.replicate_succ, List.replicate_append_replicate]
 congr 1; omega
theorem AddI.split {c : Nat} {cur : TX} {m : Nat → Int} {P : Pr} {right jn : Nat} (I : AddI l s os k e (pathX x k) (c + 1) cur m P right jn) {h i : Nat} {t : BT} (ha : (pathX x k)[c]? = some (h, t, i)) (hP : P.1 ≠ ⟨#[]⟩) (h7 : t.ps.length = 7) :
  (decide (h = 0) = false → ∀ j kk, (ins (pad 0 8 (t.ks.map BT.o)) (i + 1) right)[4 + j]? = some kk → goodP s (((kk : Nat) : Int) + 16) 8 ∧ loadN m (kk + 16) 8 = ((splitT os k e h t j : Nat) : Int) ∧ splitT os k e h t j ≤ 1000000000) ∧ splitR os k e h t ≤ Bt.tot h t := by
 obtain ⟨rfl, hcur, E, hd⟩ := I.at hl hs hk he hE ha
 have hnb := nb_bnd hl
 rcases I.pair hl hs hk he hE with ⟨w, _⟩ | ⟨_, _, _, ⟨e1, rfl, rfl, rfl⟩ | ⟨h', t', q, e1, e2, rfl, rfl⟩⟩
 ·exact absurd w hP
 ·rw [hcur] at e1
  cases h with
  | succ g => cases e1
  | zero =>
   refine ⟨fun w => (by cases w), ?_⟩
   show 4 + 0 ≤ t.ps.length
   omega
 ·rw [hcur] at e1
  cases h with
  | zero => cases e1
  | succ g =>
   cases e1
   obtain ⟨r1, r2, _, _⟩ := I.st1 _ _ hcur
   obtain ⟨n1, n2⟩ := kidsN_facts E.H r1 e2
   obtain ⟨_, _, t3⟩ := full_tot E.H e2 h7 0
   have hT : splitT os k e (h' + 1) t = fun j => (((kidsN os k e h' t q)[4 + j]?).map (Bt.tot h')).getD 0 := by
    funext j; show (match (addB h' (kid t (rk t.ps k)) (k, e) os).2.1 with | none => 0 | some q => _) = _; rw [e2]
   have hkl := E.H.ok.2.2.1
   refine ⟨fun _ j kk hkk => ?_, ?_⟩
   ·rw [pad_full (by rw [List.length_map]; omega), ← n1, List.getElem?_map, Option.map_eq_some_iff] at hkk
    obtain ⟨c', hc1, rfl⟩ := hkk
    obtain ⟨m1, m2⟩ := n2 c' (List.mem_of_getElem? hc1)
    have hbl := E.bl _ m2
    have hTj : splitT os k e (h' + 1) t j = Bt.tot h' c' := by rw [hT]; dsimp only; rw [hc1]; rfl
    refine ⟨good_in (show (((c'.o : Nat) : Int), nC l) ∈ s.bl from hbl) (by omega) (by omega) (by omega), by rw [hTj]; exact m1.node.tot, ?_⟩
    have hj5 : j < 5 := by
     have h1 := (List.getElem?_eq_some_iff.1 hc1).1
     unfold kidsN at h1
     rw [ins_len, List.length_set] at h1
     omega
    have := sum_range_le (T := fun j => (((kidsN os k e h' t q)[4 + j]?).map (Bt.tot h')).getD 0) hj5
    have ht := E.tot
    rw [hT]; dsimp only at this ⊢; omega
   ·unfold splitR
    rw [hT, if_neg (by simp)]
    exact t3
theorem AddI.stepC {c : Nat} {cur : TX} {m m' : Nat → Int} {P : Pr} {right jn : Nat} (I : AddI l s os k e (pathX x k) (c + 1) cur m P right jn) {h i : Nat} {t : BT} (ha : (pathX x k)[c]? = some (h, t, i)) (hP : P.1 ≠ ⟨#[]⟩) (h7 : t.ps.length = 7) {o2 : Nat} (ho2 : os[jn]? = some o2) {Q3 : Pr} (hQ : (ins t.ps i P)[3]? = some Q3)
  (hN : NodeM l m' t.o ((ins t.ps i P).take 3) (decide (h = 0)) ((ins (pad 0 8 (t.ks.map BT.o)) (i + 1) right).take 4) (Bt.tot h t - splitR os k e h t)) (hN2 : NodeM l m' o2 ((ins t.ps i P).drop 4) (decide (h = 0)) ((ins (pad 0 8 (t.ks.map BT.o)) (i + 1) right).drop 4) (splitR os k e h t))
  (ho : ∀ a, (a < t.o ∨ t.o + nbN l ≤ a) → (a < o2 ∨ o2 + nbN l ≤ a) → m' a = m a) : AddI l s os k e (pathX x k) c (some (h, t)) m' Q3 o2 (jn + 1) := by
 obtain ⟨rfl, hcur, E, hd⟩ := I.at hl hs hk he hE ha
 have hrk := rk_le t.ps k
 rcases I.pair hl hs hk he hE with ⟨w, _⟩ | ⟨_, _, _, ⟨e1, rfl, rfl, rfl⟩ | ⟨h', t', q, e1, e2, rfl, rfl⟩⟩
 ·exact absurd w hP
 ·rw [hcur] at e1
  cases h with
  | succ g => cases e1
  | zero =>
   obtain ⟨_, _, _, rfl⟩ := I.st0 hcur
   have hfl := addB_full0 (os := os) (p := (k, e)) h7
   have hz : ins (pad 0 8 (t.ks.map BT.o)) (rk t.ps k + 1) 0 = List.replicate 9 0 := by rw [E.H.ok.2.2]; exact ins_zero (n := 8) (by omega)
   rw [hz] at hN hN2
   have hR : splitR os k e 0 t = 4 := rfl
   rw [hR] at hN hN2
   have ht : Bt.tot 0 t = 7 := h7
   rw [ht] at hN
   have hhd : os.headD 0 = o2 := by rw [List.headD_eq_head?_getD, List.head?_eq_getElem?, ho2]; rfl
   refine ⟨by have := I.cl; omega, hd, fun w => (by cases w), fun h1 t1 w => ?_⟩
   cases w
   refine ⟨add_full0 E.H h7 (K := (List.replicate 9 0).take 4) (K' := (List.replicate 9 0).drop 4) (pad_zero (n := 8) (m := 4) (by decide)) (pad_zero (n := 8) (m := 5) (by decide)) hN (by rw [hhd]; exact hN2) (by rw [hhd]; exact ho), ?_, fun w => ?_, fun q hq => ?_⟩
   ·rw [hfl]; exact List.drop_one
   ·rw [hfl] at w; cases w
   ·rw [hfl] at hq; cases hq
    refine ⟨?_, hhd.symm⟩
    show Q3 = ((ins t.ps (rk t.ps k) (k, e))[3]?).getD default
    rw [hQ]; rfl
 ·rw [hcur] at e1
  cases h with
  | zero => cases e1
  | succ g =>
   cases e1
   obtain ⟨r1, r2, _, _⟩ := I.st1 _ _ hcur
   have hfl := addB_full (os := os) (p := (k, e)) e2 h7
   obtain ⟨n1, _⟩ := kidsN_facts E.H r1 e2
   have hkl := E.H.ok.2.2.1
   have hT : splitT os k e (h' + 1) t = fun j => (((kidsN os k e h' t q)[4 + j]?).map (Bt.tot h')).getD 0 := by
    funext j; show (match (addB h' (kid t (rk t.ps k)) (k, e) os).2.1 with | none => 0 | some q => _) = _; rw [e2]
   have hR : splitR os k e (h' + 1) t = 4 + ((List.range 5).map fun j => (((kidsN os k e h' t q)[4 + j]?).map (Bt.tot h')).getD 0).sum := by
    unfold splitR; rw [hT, if_neg (by simp)]
   obtain ⟨t1, t2, t3⟩ := full_tot E.H e2 h7 o2
   rw [pad_full (by rw [List.length_map]; omega), hR] at hN hN2
   rw [← t2] at hN
   rw [← t1] at hN2
   have hhd : (addB h' (kid t (rk t.ps k)) (k, e) os).2.2.head? = some o2 := by rw [← r2, List.head?_drop]; exact ho2
   refine ⟨by have := I.cl; omega, hd, fun w => (by cases w), fun h1 t1 w => ?_⟩
   cases w
   refine ⟨add_full E.H r1 e2 h7 hhd hN hN2 ho, ?_, fun w => ?_, fun q' hq => ?_⟩
   ·rw [hfl, ← List.drop_drop, r2]; exact List.drop_one
   ·rw [hfl] at w; cases w
   ·rw [hfl] at hq; cases hq
    refine ⟨?_, ?_⟩
    ·show Q3 = ((ins t.ps (rk t.ps k) q.1)[3]?).getD default
     rw [hQ]; rfl
    ·show o2 = (addB h' (kid t (rk t.ps k)) (k, e) os).2.2.headD 0
     rw [List.headD_eq_head?_getD, hhd]; rfl
/-! ### The loop's end -/
theorem AddI.fin {cur : TX} {m : Nat → Int} {P : Pr} {right jn : Nat} (I : AddI l s os k e (pathX x k) 0 cur m P right jn) : cur = x ∧ ∀ a, Away l (x.offs ++ os) a → m a = s.m a := by
 have h1 : cur = x := (pathX_inj (k := k) (by rw [← I.rest]; rfl)).symm
 subst h1
 refine ⟨rfl, fun a ha => ?_⟩
 cases hc : cur with
 | none => rw [(I.st0 hc).2.2.2]
 | some y =>
  obtain ⟨h, t⟩ := y
  rw [hc] at ha
  exact (I.st1 h t hc).1.same a ha
theorem AddI.finA {cur : TX} {m : Nat → Int} {P : Pr} {right jn : Nat} (I : AddI l s os k e (pathX x k) 0 cur m P right jn) (hP : P.1 = ⟨#[]⟩) :
  (addX x (k, e) os).root = x.root ∧ (addX x (k, e) os).height = x.height ∧ ∀ h t, addX x (k, e) os = some (h, t) → TreeM l m h t := by
 obtain ⟨rfl, _⟩ := I.fin hl hs hk he hE
 rcases I.pair hl hs hk he hE with ⟨_, h, t, rfl, e2⟩ | ⟨w, _⟩
 ·have ha : addX (some (h, t)) (k, e) os = some (h, (addB h t (k, e) os).1) := by unfold addX; dsimp only; rw [e2]
  rw [ha]
  refine ⟨put_o, rfl, fun h' t' w => ?_⟩
  cases w
  exact (I.st1 h t O).1.tree
 ·exact absurd hP w
theorem AddI.finB {cur : TX} {m : Nat → Int} {P : Pr} {right jn : Nat} (I : AddI l s os k e (pathX x k) 0 cur m P right jn) (hX : AddX l s.m os k x) (hP : P.1 ≠ ⟨#[]⟩) (hx0 : x.root = 0 ↔ x = none) :
  ∃ o2, os[jn]? = some o2 ∧ o2 ∈ os ∧ (addX x (k, e) os).root = o2 ∧ (addX x (k, e) os).height = x.height + 1 ∧
   ∀ m', NodeM l m' o2 [P] (decide (((x.root : Nat) : Int) = 0)) [x.root, right] (x.L.length + 1) → (∀ a, a < o2 ∨ o2 + nbN l ≤ a → m' a = m a) → ∀ h t, addX x (k, e) os = some (h, t) → TreeM l m' h t := by
 obtain ⟨rfl, _⟩ := I.fin hl hs hk he hE
 have hlen := hX.len
 rcases I.pair hl hs hk he hE with ⟨w, _⟩ | ⟨_, _, _, ⟨rfl, rfl, rfl, rfl⟩ | ⟨h, t, q, rfl, e2, rfl, rfl⟩⟩
 ·exact absurd w hP
 ·have hl1 : os.length = 1 := hlen
  obtain ⟨o, rfl⟩ : ∃ o, os = [o] := List.length_eq_one_iff.1 hl1
  refine ⟨o, rfl, by simp, rfl, rfl, fun m' hN _ h t w => ?_⟩
  cases w
  have e0 : decide ((((TX.root none : Nat) : Nat) : Int) = 0) = true := rfl
  rw [e0] at hN
  exact hN.kids_eq rfl
 ·obtain ⟨r1, r2, _, _⟩ := I.st1 h t O
  have hn := hX.nd h t O
  obtain ⟨l1, l2, l3, l4, l5⟩ := hn.law e
  rw [e2] at l1 l2 l3 l5
  have hfw : fw h t k = fwL (pathX (some (h, t)) k) := fw_path
  have hf : (fw h t k).2 = true := l5.symm
  unfold needX at hlen
  rw [← hfw, if_pos hf] at hlen
  have hlt : (fw h t k).1 < os.length := by omega
  have hjl : jn < os.length := by
   rw [l4] at r2
   have := congrArg List.length r2
   rw [List.length_drop, List.length_drop] at this
   omega
  have ha : addX (some (h, t)) (k, e) os = some (h + 1, .nd ((addB h t (k, e) os).2.2.headD 0) [q.1] [(addB h t (k, e) os).1, q.2]) := by unfold addX; dsimp only; rw [e2]
  have hhd : (addB h t (k, e) os).2.2.headD 0 = os[jn] := by rw [← r2, List.headD_eq_head?_getD, List.head?_drop, List.getElem?_eq_getElem hjl]; rfl
  have hlL : ((addX (some (h, t)) (k, e) os).L).length = (TX.L (some (h, t))).length + 1 := by
   rw [(addX_law (e := e) hX).1]; exact putL_len (L := lst h t) hn.new
  refine ⟨os[jn], List.getElem?_eq_getElem hjl, List.getElem_mem _, by rw [ha]; exact hhd, by rw [ha]; rfl, fun m' hN hO h' t' w => ?_⟩
  rw [ha] at w hlL
  cases w
  have hdj : ∀ o ∈ offs h (addB h t (k, e) os).1 ++ offs h q.2, Dj l o os[jn] := fun o ho => by
   have hin := l3.mem_iff.1 (show o ∈ offsU h (addB h t (k, e) os).1 (some q) from ho)
   have hap := List.pairwise_append.1 hn.apart
   rcases List.mem_append.1 hin with w | w
   ·exact hap.2.2 o w _ (List.getElem_mem _)
   ·obtain ⟨j, hj⟩ := List.getElem?_of_mem w
    rw [List.getElem?_take] at hj
    split at hj
    ·next q1 =>
     obtain ⟨hj1, rfl⟩ := List.getElem?_eq_some_iff.1 hj
     have hjj : jn = (fw h t k).1 := by
      rw [l4] at r2
      have := congrArg List.length r2
      rw [List.length_drop, List.length_drop] at this
      omega
     subst hjj
     exact List.pairwise_iff_getElem.1 hap.2.1 _ _ hj1 hjl q1
    ·cases hj
  have hsame : ∀ o, Dj l o os[jn] → SameAt l m m' o := fun o hd => sameAt_of (X := [os[jn]]) (fun a ha => hO a (ha _ (by simp))) fun x hx => by rw [List.mem_singleton.1 hx]; exact hd
  rw [hhd]
  refine ⟨?_, fun c hc => ?_⟩
  ·show NodeM l m' os[jn] [q.1] false [(addB h t (k, e) os).1.o, q.2.o] (tot (h + 1) _)
   have e0 : decide ((((TX.root (some (h, t)) : Nat) : Nat) : Int) = 0) = false := decide_eq_false fun w => by
    have := hx0.1 (by exact_mod_cast w); cases this
   rw [e0] at hN
   rw [put_o, show tot (h + 1) (.nd os[jn] [q.1] [(addB h t (k, e) os).1, q.2]) = (TX.L (some (h, t))).length + 1 from hlL]
   exact hN
  ·simp only [BT.ks, List.mem_cons, List.not_mem_nil, or_false] at hc
   rcases hc with rfl | rfl
   ·exact r1.tree.same l2.1 fun o ho => hsame o (hdj o (List.mem_append_left _ ho))
   ·exact (r1.up q e2).same l2.2 fun o ho => hsame o (hdj o (List.mem_append_right _ ho))
end
end Go.Proofs.Ytjekhcojebgpnaa.Bt
