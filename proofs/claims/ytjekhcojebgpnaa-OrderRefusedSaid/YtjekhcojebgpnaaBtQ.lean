/- A balanced tree in an arena: its blocks beside others; new blocks; an elem laid anew. No program's code. -/
import Derived.Test.YtjekhcojebgpnaaBtO
set_option linter.unusedVariables false
set_option linter.unusedSimpArgs false
set_option linter.unusedSectionVars false
namespace Go.Proofs.Ytjekhcojebgpnaa.Bt
open Go.RowKit Go.Proofs Go.Proofs.Ytjekhcojebgpnaa.Eng Go.Proofs.Ytjekhcojebgpnaa.Mem Go.Proofs.Ytjekhcojebgpnaa.Layout Go.Proofs.Ytjekhcojebgpnaa.Arena Go.Proofs.Ytjekhcojebgpnaa.GroupB
/-! ### Blocks -/
theorem bl_fst {s : ArS} (hs : s.ok) : (s.bl.map (·.1)).Nodup := by
 have h := List.Pairwise.sublist (List.Sublist.map (fun p : Int × Int => p.1) List.filter_sublist) (chain_pair hs.chain) (l₁ := s.bl.map (·.1))
 exact h.imp fun h => by omega
theorem bl_nodup {s : ArS} (hs : s.ok) : s.bl.Nodup := by
 have h := bl_fst hs
 exact (List.pairwise_map.1 h).imp fun h e => h (by rw [e])
/-- Blocks of the tree and others: each apart from each. -/
theorem apart_of {l : Lay} (hl : l.err = 0) {s : ArS} (hs : s.ok) {off : Nat} {os : List Nat} {R : List (Int × Int)} (hp : s.bl.Perm ((((off : Nat) : Int), 64) :: os.map (blkN l) ++ R)) : Apart l os ∧ (∀ o ∈ os, off + 64 ≤ o ∨ o + nbN l ≤ off) ∧ (∀ o ∈ os, blkN l o ∈ s.bl) ∧
  ∀ p ∈ R, (∀ o ∈ os, ∀ a : Nat, p.1 ≤ a → (a : Int) < p.1 + p.2 → a < o ∨ o + nbN l ≤ a) ∧ ∀ a : Nat, p.1 ≤ a → (a : Int) < p.1 + p.2 → a < off ∨ off + 64 ≤ a := by
 have hnb := nb_bnd hl
 have hmem : ∀ o ∈ os, blkN l o ∈ s.bl := fun o ho => hp.mem_iff.2 (by simp only [List.cons_append, List.mem_cons, List.mem_append, List.mem_map]; exact .inr (.inl ⟨o, ho, rfl⟩))
 have hoff : (((off : Nat) : Int), 64) ∈ s.bl := hp.mem_iff.2 (by simp)
 have hnd : (((((off : Nat) : Int), (64 : Int)) :: os.map (blkN l) ++ R).map (·.1)).Nodup := (hp.map _).nodup (bl_fst hs)
 simp only [List.cons_append, List.map_cons, List.map_append, List.map_map, List.nodup_cons, List.mem_append, not_or] at hnd
 obtain ⟨⟨n1, n2⟩, n3⟩ := hnd
 have n4 := List.nodup_append.1 n3
 have hdis : ∀ p ∈ s.bl, ∀ q ∈ s.bl, p.1 ≠ q.1 → p.1 + p.2 ≤ q.1 ∨ q.1 + q.2 ≤ p.1 := fun p h1 q h2 hne => by
  rcases chain_apart hs.chain (mem_bl.1 h1).1 (mem_bl.1 h2).1 with w | w
  ·exact absurd (by rw [w]) hne
  ·exact w
 have hpos : ∀ p ∈ s.bl, 16 ≤ p.1 := fun p h => (ArS.chain_pos hs.chain _ (mem_bl.1 h).1).1
 refine ⟨?_, fun o ho => ?_, hmem, fun p hpR => ⟨fun o ho a a1 a2 => ?_, fun a a1 a2 => ?_⟩⟩
 ·have h5 : os.Nodup := (List.pairwise_map.1 n4.1).imp fun h e => h (by rw [e])
  have : os.Pairwise fun a b => a ≠ b := h5
  refine List.Pairwise.imp_of_mem (fun {a b} ha hb hab => ?_) this
  have := hdis _ (hmem a ha) _ (hmem b hb) (by simp only [blkN]; omega)
  simp only [blkN] at this
  omega
 ·have hne : ((off : Nat) : Int) ≠ ((o : Nat) : Int) := fun e => n1 (List.mem_map.2 ⟨o, ho, by simp [blkN, e]⟩)
  have := hdis _ hoff _ (hmem o ho) (by simpa [blkN] using hne)
  simp only [blkN] at this
  omega
 ·have hpb : p ∈ s.bl := hp.mem_iff.2 (by simp [hpR])
  have hne : p.1 ≠ ((o : Nat) : Int) := fun e => by
   exact n4.2.2 ((o : Nat) : Int) (List.mem_map.2 ⟨o, ho, rfl⟩) p.1 (List.mem_map.2 ⟨p, hpR, rfl⟩) e.symm
  have := hdis _ hpb _ (hmem o ho) (by simpa [blkN] using hne)
  simp only [blkN] at this
  omega
 ·have hpb : p ∈ s.bl := hp.mem_iff.2 (by simp [hpR])
  have hne : p.1 ≠ ((off : Nat) : Int) := fun e => n2 (List.mem_map.2 ⟨p, hpR, e⟩)
  have := hdis _ hpb _ hoff hne
  simp only at this
  omega
/-- So many blocks more, each of a node. -/
theorem takes_rep {nb : Int} (h1 : 1 ≤ nb) (h2 : nb ≤ 1048576) : ∀ (n : Nat) {s : ArS}, s.ok → s.live + (n : Int) * classI nb ≤ s.limit →
  ∃ os : List Nat, os.length = n ∧ s.offs (List.replicate n nb) = os.map Int.ofNat ∧ (s.takes (List.replicate n nb)).ok ∧ (s.takes (List.replicate n nb)).bl.Perm (os.map (fun o => (((o : Nat) : Int), classI nb)) ++ s.bl) ∧
   (∀ p ∈ s.bl, ∀ a : Nat, p.1 ≤ a → (a : Int) < p.1 + p.2 → (s.takes (List.replicate n nb)).m a = s.m a) ∧ (s.takes (List.replicate n nb)).limit = s.limit
 | 0, s, hs, _ => ⟨[], rfl, rfl, hs, .refl _, fun _ _ _ _ _ => rfl, rfl⟩
 | n + 1, s, hs, hl => by
  have hc := class_mem h1 h2
  have hcp := classes_pos _ hc
  have hn0 : 0 ≤ (n : Int) * classI nb := Int.mul_nonneg (by omega) (by omega)
  have hm : ((n + 1 : Nat) : Int) * classI nb = (n : Int) * classI nb + classI nb := by rw [Int.natCast_succ, Int.add_mul, Int.one_mul]
  have hok := ArS.take_ok hs hc (by omega)
  obtain ⟨os, o1, o2, o3, o4, o5, o6⟩ := takes_rep h1 h2 n hok (by rw [ArS.take_live hs, take_limit hs]; omega)
  refine ⟨s.at (classI nb) :: os, by simp [o1], ?_, o3, ?_, fun p hp a a1 a2 => ?_, o6.trans (take_limit hs)⟩
  ·show ((s.at (classI nb) : Nat) : Int) :: (s.take (classI nb)).offs (List.replicate n nb) = _
   rw [o2]; rfl
  ·refine (show (s.takes (List.replicate (n + 1) nb)).bl.Perm (os.map _ ++ (s.take (classI nb)).bl) from o4).trans ?_
   have hb : (s.take (classI nb)).bl.Perm ((((s.at (classI nb) : Nat) : Int), classI nb) :: s.bl) := by
    refine (List.perm_ext_iff_of_nodup (bl_nodup hok) ?_).2 fun p => ?_
    ·refine List.nodup_cons.2 ⟨fun w => ?_, bl_nodup hs⟩
     rcases take_apart hs w (c := classI nb) (by omega) with z | z
     ·simp only at z; omega
     ·simp only at z; omega
    ·rw [take_bl hs, List.mem_cons]; exact or_comm
   exact (List.Perm.append_left _ hb).trans List.perm_middle
  ·have e1 := o5 p ((take_bl hs).2 (.inl hp)) a a1 a2
   have e2 := take_keep hs (c := classI nb) (by omega) hp a1 a2
   exact e1.trans e2
/-- The keys double from level to level at least. -/
theorem two_pow : ∀ {h lo : Nat} {t : BT}, 1 ≤ lo → ok h lo t → 2 ^ h ≤ (offs h t).length
 | 0, lo, t, _, _ => by simp [offs]
 | h + 1, lo, t, h1, hk => by
  obtain ⟨k1, k2, k3, k4⟩ := hk
  have ho : (offs (h + 1) t).length = 1 + (t.ks.map fun k => (offs h k).length).sum := by
   simp only [offs, List.length_cons, List.length_flatten, List.map_map]
   rw [Nat.add_comm]; rfl
  match hks : t.ks, k3 with
  | [], k3 => simp at k3
  | [_], k3 => simp only [List.length_cons, List.length_nil] at k3; omega
  | a :: b :: r, k3 =>
   have ha := two_pow (h := h) (by omega) (k4 a (by rw [hks]; simp))
   have hb := two_pow (h := h) (by omega) (k4 b (by rw [hks]; simp))
   rw [hks] at ho
   simp only [List.map_cons, List.sum_cons] at ho
   rw [Nat.pow_succ]; omega
theorem height_bnd {x : TX} (h : ∀ h t, x = some (h, t) → ok h 1 t) (hn : x.offs.length ≤ 67108880) : x.height ≤ 27 := by
 cases x with
 | none => exact Nat.zero_le _
 | some x =>
  obtain ⟨g, t⟩ := x
  have h1 := two_pow (Nat.le_refl 1) (h g t O)
  have h2 : (offs g t).length ≤ 67108880 := hn
  show g + 1 ≤ 27
  rcases Nat.lt_or_ge g 27 with q | q
  ·omega
  ·have : 2 ^ 27 ≤ 2 ^ g := Nat.pow_le_pow_right (by decide) q
   omega
/-! ### An elem laid anew -/
def setB : Nat → BT → ByteArray → ByteArray → BT
 | 0, t, k, e => .nd t.o (t.ps.set (rk t.ps k) (k, e)) t.ks
 | h + 1, t, k, e => if own t k = true then .nd t.o (t.ps.set (rk t.ps k) (k, e)) t.ks else .nd t.o t.ps (t.ks.set (rk t.ps k) (setB h (kid t (rk t.ps k)) k e))
theorem putL_own {k e : ByteArray} {b : List Pr} {p : Pr} (h2 : p.1 = k) : ∀ {a : List Pr}, (∀ q ∈ a, lt q.1 k) → putL k e (a ++ p :: b) = a ++ (k, e) :: b
 | [], _ => by
  show (if lt p.1 k then _ else if p.1 = k then _ else _) = _
  rw [if_neg (by rw [h2]; exact lt_irr k), if_pos h2]; rfl
 | q :: a, h => by
  rw [List.cons_append, putL, if_pos (h q (by simp)), putL_own h2 (a := a) fun r hr => h r (by simp [hr])]; rfl
theorem setB_o : ∀ {h : Nat} {t : BT} {k e : ByteArray}, (setB h t k e).o = t.o
 | 0, _, _, _ => rfl
 | h + 1, t, k, e => by unfold setB; split <;> rfl
theorem set_len {A : Type} {L : List A} {i : Nat} {x y : A} {a b : List A} (h : L = a ++ x :: b) (hi : i = a.length) : L.set i y = a ++ y :: b := by subst h hi; simp
theorem setB_law : ∀ {h lo : Nat} {t : BT} {k e : ByteArray}, 1 ≤ lo → ok h lo t → SL (lst h t) → (∃ p ∈ lst h t, p.1 = k) → lst h (setB h t k e) = putL k e (lst h t) ∧ ok h lo (setB h t k e) ∧ offs h (setB h t k e) = offs h t
 | 0, lo, t, k, e, h1, hk, hs, ⟨p, hp, hpk⟩ => by
  have ho := (own_iff (o := t.o) (ks := t.ks) hs).2 ⟨p, hp, hpk⟩
  have ho' : own t k = true := ho
  obtain ⟨q1, q2, a, b, q3, q4, q5, _⟩ := way_own (h := 0) (ok_mono h1 hk) hs ho'
  refine ⟨?_, ⟨by show lo ≤ (t.ps.set _ _).length; rw [List.length_set]; exact hk.1, by show (t.ps.set _ _).length ≤ 7; rw [List.length_set]; exact hk.2.1, hk.2.2⟩, rfl⟩
  show t.ps.set (rk t.ps k) (k, e) = putL k e t.ps
  have q3' : t.ps = a ++ pr t (rk t.ps k) :: b := q3
  have hl : rk t.ps k = a.length := by rw [q4]; simp [sumT, nxt, TX.L]
  rw [set_len q3' hl]
  conv => rhs; rw [q3']
  exact (putL_own q2 q5).symm
 | h + 1, lo, t, k, e, h1, hk, hs, ⟨p, hp, hpk⟩ => by
  have hk1 := ok_mono h1 hk
  have hle := rk_le t.ps k
  obtain ⟨k1, k2, k3, k4⟩ := hk
  unfold setB
  split
  ·next ho =>
   obtain ⟨q1, q2, _⟩ := way_own hk1 hs ho
   have hlt := (List.getElem?_eq_some_iff.1 q1).1
   refine ⟨?_, ⟨by show lo ≤ (t.ps.set _ _).length; rw [List.length_set]; exact k1, by show (t.ps.set _ _).length ≤ 7; rw [List.length_set]; exact k2, by show _ = (t.ps.set _ _).length + 1; rw [List.length_set]; exact k3, k4⟩, rfl⟩
   have hil : (t.ks.map (lst h)).length = t.ps.length + 1 := by rw [List.length_map]; exact k3
   obtain ⟨_, a, b, e1, e2, e3, _⟩ := il_own (k := k) hil (show SL (il (t.ks.map (lst h)) t.ps) from hs) (List.mem_of_getElem? q1) q2
   show il (t.ks.map (lst h)) (t.ps.set (rk t.ps k) (k, e)) = putL k e (il (t.ks.map (lst h)) t.ps)
   rw [e2, e1]
   exact (putL_own q2 e3).symm
  ·next ho =>
   have ho' : own t k = false := by simpa using ho
   obtain ⟨a, b, q1, _, _, _, q5, q6⟩ := way_on hk1 hs ho'
   have hlen : rk t.ps k < t.ks.length := by omega
   have hkm : kid t (rk t.ps k) ∈ t.ks := List.mem_of_getElem? (kid_at hlen)
   have q1' : lst (h + 1) t = a ++ lst h (kid t (rk t.ps k)) ++ b := q1
   have hs' := hs
   rw [q1'] at hs'
   have hsk := (SL.app (SL.app hs').1).2.1
   have hpm : ∃ p ∈ lst h (kid t (rk t.ps k)), p.1 = k := by
    rw [q1'] at hp
    rcases List.mem_append.1 hp with w | w
    ·rcases List.mem_append.1 w with w | w
     ·exact absurd hpk (lt_ne (q5 p w))
     ·exact ⟨p, w, hpk⟩
    ·exact absurd hpk.symm (lt_ne (q6 p w))
   obtain ⟨r1, r2, r3⟩ := setB_law (e := e) (by omega : 1 ≤ 3) (k4 _ hkm) hsk hpm
   have hil : (t.ks.map (lst h)).length = t.ps.length + 1 := by rw [List.length_map]; exact k3
   have hnp : ∀ p ∈ t.ps, p.1 ≠ k := fun p hp e => by
    have := (own_iff (o := t.o) (ks := t.ks) (sl_ps hk1 hs)).2 ⟨p, hp, e⟩
    have h2 : own t k = true := this
    rw [h2] at ho'; cases ho'
   obtain ⟨a', x', b', z1, z2, z3, z4, z5⟩ := il_rank (k := k) hil (show SL (il (t.ks.map (lst h)) t.ps) from hs) hnp
   rw [List.getElem?_map, kid_at hlen, Option.map_some] at z1
   cases z1
   refine ⟨?_, ⟨k1, k2, by show (t.ks.set _ _).length = _; rw [List.length_set]; exact k3, fun c hc => ?_⟩, ?_⟩
   ·show il ((t.ks.set (rk t.ps k) (setB h (kid t (rk t.ps k)) k e)).map (lst h)) t.ps = putL k e (il (t.ks.map (lst h)) t.ps)
    rw [List.map_set, z3, r1, z2, putL_app z4 z5]
   ·rcases set_mem (show c ∈ t.ks.set _ _ from hc) with rfl | ⟨j, _, hj⟩
    ·exact r2
    ·exact k4 c (List.mem_of_getElem? hj)
   ·show t.o :: ((t.ks.set (rk t.ps k) (setB h (kid t (rk t.ps k)) k e)).map (offs h)).flatten = t.o :: (t.ks.map (offs h)).flatten
    congr 2
    rw [List.map_set, r3]
    apply List.ext_getElem?
    intro j
    rw [List.getElem?_set]
    split
    ·next q => subst q; rw [if_pos (by simpa using hlen), List.getElem?_map, kid_at hlen]; rfl
    ·rfl
/-- The bytes: from a node of the way to the one above it. -/
theorem set_up {l : Lay} {m0 m : Nat → Int} {os : List Nat} {h : Nat} {t : BT} {k e : ByteArray} (hk : ok (h + 1) 1 t) (hT : TreeM l m0 (h + 1) t) (hs : SL (lst (h + 1) t)) (ha : Apart l (offs (h + 1) t ++ os)) (ho : own t k = false) (hm : ∃ p ∈ lst (h + 1) t, p.1 = k)
  (hN : TreeM l m h (setB h (kid t (rk t.ps k)) k e)) (hS : ∀ a, Away l (offs h (kid t (rk t.ps k))) a → m a = m0 a) : TreeM l m (h + 1) (setB (h + 1) t k e) ∧ ∀ a, Away l (offs (h + 1) t) a → m a = m0 a := by
 have hlen : rk t.ps k < t.ks.length := by have := hk.2.2.1; have := rk_le t.ps k; omega
 have hc := kid_at hlen
 obtain ⟨a1, a2, a3, a4, a5⟩ := apart_kids ha
 have hS' : ∀ o, (∀ x ∈ offs h (kid t (rk t.ps k)), Dj l o x) → SameAt l m0 m o := fun o hd => sameAt_of hS hd
 have htot : tot (h + 1) (setB (h + 1) t k e) = tot (h + 1) t := by
  have h1 := (setB_law (e := e) (Nat.le_refl 1) hk hs hm).1
  unfold tot; rw [h1]
  obtain ⟨p, hp, hpk⟩ := hm
  have : ∀ {L : List Pr}, SL L → (∃ p ∈ L, p.1 = k) → (putL k e L).length = L.length := by
   intro L
   induction L with
   | nil => rintro _ ⟨p, hp, _⟩; cases hp
   | cons q L ih =>
    rintro hsl ⟨p, hp, hpk⟩
    unfold putL
    split
    ·next z =>
     simp only [List.length_cons]
     rw [ih (List.pairwise_cons.1 hsl).2 ?_]
     rcases List.mem_cons.1 hp with rfl | hp
     ·rw [hpk] at z; exact absurd z (lt_irr k)
     ·exact ⟨p, hp, hpk⟩
    ·next z =>
     split
     ·rfl
     ·next z2 =>
      exfalso
      rcases List.mem_cons.1 hp with rfl | hp
      ·exact z2 hpk
      ·have := (List.pairwise_cons.1 hsl).1 p hp
       rw [hpk] at this; exact z this
  exact this hs ⟨p, hp, hpk⟩
 refine ⟨?_, fun a ha => hS a (ha.mono fun o ho => offs_kid (List.mem_of_getElem? hc) o ho)⟩
 have he : setB (h + 1) t k e = .nd t.o t.ps (t.ks.set (rk t.ps k) (setB h (kid t (rk t.ps k)) k e)) := by
  rw [setB, if_neg (by simp [ho])]
 rw [he] at htot ⊢
 refine ⟨?_, fun c hcm => ?_⟩
 ·show NodeM l m t.o t.ps false ((t.ks.set _ _).map BT.o) (tot (h + 1) _)
  rw [set_o hc setB_o, htot]
  exact hT.1.same hk.2.1 (ks_len hk) (hS' _ fun x hx => a1 _ _ hc x hx)
 ·rcases set_mem (show c ∈ t.ks.set _ _ from hcm) with rfl | ⟨j, hj, hjc⟩
  ·exact hN
  ·exact (hT.2 c (List.mem_of_getElem? hjc)).same (hk.2.2.2 c (List.mem_of_getElem? hjc)) fun o ho => hS' o fun x hx => a3 j _ c _ hj hjc hc o ho x hx
/-- The node itself. -/
theorem set_here {l : Lay} {m0 m : Nat → Int} {h : Nat} {t : BT} {k e : ByteArray} (hk : ok h 1 t) (hT : TreeM l m0 h t) (hs : SL (lst h t)) (ha : Apart l (offs h t)) (ho : own t k = true)
  (hN : NodeM l m t.o (t.ps.set (rk t.ps k) (k, e)) (decide (h = 0)) (t.ks.map BT.o) (tot h t)) (hS : ∀ a, a < t.o ∨ t.o + nbN l ≤ a → m a = m0 a) : TreeM l m h (setB h t k e) ∧ ∀ a, Away l (offs h t) a → m a = m0 a := by
 obtain ⟨q1, q2, a, b, q3, _⟩ := way_own hk hs ho
 have hm : ∃ p ∈ lst h t, p.1 = k := ⟨pr t (rk t.ps k), by rw [q3]; simp, q2⟩
 have hlt := (List.getElem?_eq_some_iff.1 q1).1
 have hto : t.o ∈ offs h t := by cases h <;> simp [offs]
 refine ⟨?_, fun a ha => hS a (ha _ hto)⟩
 cases h with
 | zero =>
  show NodeM l m t.o (t.ps.set (rk t.ps k) (k, e)) true (t.ks.map BT.o) (tot 0 _)
  have : tot 0 (setB 0 t k e) = tot 0 t := by show (t.ps.set _ _).length = t.ps.length; rw [List.length_set]
  rw [this]; exact hN
 | succ h =>
  have he : setB (h + 1) t k e = .nd t.o (t.ps.set (rk t.ps k) (k, e)) t.ks := by rw [setB, if_pos ho]
  have ht : tot (h + 1) (.nd t.o (t.ps.set (rk t.ps k) (k, e)) t.ks) = tot (h + 1) t := by
   rw [tot_nd (by rw [List.length_set]; exact hk.2.2.1), List.length_set]
   have := tot_nd (h := h) (o := t.o) (ps := t.ps) (ks := t.ks) hk.2.2.1
   rw [← this]; rfl
  rw [he]
  refine ⟨?_, fun c hc => ?_⟩
  ·show NodeM l m t.o _ false (t.ks.map BT.o) (tot (h + 1) _)
   rw [ht]; exact hN
  ·refine (hT.2 c hc).same (hk.2.2.2 c hc) fun o ho a1 h1 h2 => hS a1 ?_
   obtain ⟨j, hj⟩ := List.getElem?_of_mem (show c ∈ t.ks from hc)
   have hap := apart_kids (os := []) (by rw [List.append_nil]; exact ha)
   rcases hap.1 j c hj o ho with w | w <;> omega
/-! ### A new pair: what holds when the new blocks are there, and behind the put -/
theorem path_all {k : ByteArray} {Q : Nat → BT → Prop} (hstep : ∀ h t, Q (h + 1) t → Q h (kid t (rk t.ps k))) : ∀ {x : TX}, (∀ h t, x = some (h, t) → Q h t) → ∀ a ∈ pathX x k, Q a.1 a.2.1
 | none, _, a, ha => by cases ha
 | some (h, t), hx, a, ha => by
  have hk := hx h t O
  clear hx
  revert ha
  induction h generalizing t with
  | zero =>
   intro ha
   have ha' : a ∈ pathB 0 t k := ha
   simp only [pathB, List.mem_cons, List.not_mem_nil, or_false] at ha'
   subst ha'; exact hk
  | succ h ih =>
   intro ha
   have ha' : a ∈ (h + 1, t, rk t.ps k) :: pathB h (kid t (rk t.ps k)) k := ha
   rcases List.mem_cons.1 ha' with rfl | w
   ·exact hk
   ·exact ih (kid t (rk t.ps k)) (hstep _ _ hk) w
theorem AddE.kid {l : Lay} {s : ArS} {os : List Nat} {k : ByteArray} {h : Nat} {t : BT} (E : AddE l s os k (h + 1) t) : AddE l s os k h (Bt.kid t (rk t.ps k)) := by
 have hm := E.H.kid_mem
 obtain ⟨a, b, q1, _⟩ := lst_parts (i := rk t.ps k) E.H.ok (rk_le _ _)
 have q1' : lst (h + 1) t = a ++ lst h (Bt.kid t (rk t.ps k)) ++ b := q1
 refine ⟨E.H.kid, fun o ho => E.bl o ?_, ?_, fun p hp => E.sz p (by rw [q1']; simp [hp])⟩
 ·rcases List.mem_append.1 ho with w | w
  ·exact List.mem_append_left _ (offs_kid hm o w)
  ·exact List.mem_append_right _ w
 ·have := E.tot
  unfold Bt.tot at this ⊢
  rw [q1'] at this
  simp only [List.length_append] at this; omega
/-- s with new blocks os. -/
structure Took (l : Lay) (s s1 : ArS) (os : List Nat) : Prop where
 ok : s1.ok
 bl : s1.bl.Perm (os.map (blkN l) ++ s.bl)
 keep : ∀ p ∈ s.bl, ∀ a : Nat, p.1 ≤ a → (a : Int) < p.1 + p.2 → s1.m a = s.m a
 limit : s1.limit = s.limit
theorem Took.same {l : Lay} (hl : l.err = 0) {s s1 : ArS} {os : List Nat} (T : Took l s s1 os) {o : Nat} (ho : blkN l o ∈ s.bl) : SameAt l s.m s1.m o := fun a h1 h2 => by
 have hnb := nb_bnd hl
 exact T.keep _ ho a (by simp only [blkN]; omega) (by simp only [blkN]; omega)
theorem put_ready {l : Lay} (hl : l.err = 0) {s s1 : ArS} {off : Nat} {x : TX} {R : List (Int × Int)} {os : List Nat} {k : ByteArray} (hs : s.ok) (H : TrOk l s off x R) (T : Took l s s1 os) (hno : ∀ p ∈ x.L, p.1 ≠ k) (hlen : os.length = needX x k) :
  (∀ a ∈ pathX x k, AddE l s1 os k a.1 a.2.1) ∧ AddX l s1.m os k x ∧ s1.bl.Perm ((((off : Nat) : Int), 64) :: (x.offs ++ os).map (blkN l) ++ R) := by
 obtain ⟨hS, _, hL, _⟩ := H.bnd hs
 have hbl : s1.bl.Perm ((((off : Nat) : Int), 64) :: (x.offs ++ os).map (blkN l) ++ R) := by
  refine T.bl.trans ?_
  refine (List.Perm.append_left _ H.bl).trans ?_
  unfold ownB
  simp only [List.cons_append, List.map_append, List.append_assoc]
  refine List.perm_middle.trans (List.Perm.cons _ ?_)
  refine (List.perm_append_comm_assoc _ _ _).trans ?_
  exact .refl _
 obtain ⟨a1, a2, a3, a4⟩ := apart_of hl T.ok hbl
 have hroot : ∀ h t, x = some (h, t) → AddE l s1 os k h t := fun h t hx => by
  obtain ⟨h1, h2, h3, h4, h5, h6⟩ := hS h t hx
  subst hx
  have hfw : fw h t k = fwL (pathX (some (h, t)) k) := fw_path
  refine ⟨⟨h1, h2.same h1 fun o ho => T.same hl (h3 o ho), h4, hno, a1, ?_⟩, a3, h6, h5⟩
  rw [hlen, hfw]; unfold needX; omega
 exact ⟨path_all (fun h t E => E.kid) hroot, ⟨fun h t hx => (hroot h t hx).H, hlen⟩, hbl⟩
theorem put_fin {l : Lay} (hl : l.err = 0) {s s1 : ArS} {off : Nat} {x : TX} {R : List (Int × Int)} {os : List Nat} {k e : ByteArray} (hs : s.ok) (H : TrOk l s off x R) (T : Took l s s1 os) (hno : ∀ p ∈ x.L, p.1 ≠ k) (hlen : os.length = needX x k) (hk : k.size = kN l) (he : e.size = eN l)
  {m' : Nat → Int} (hw : loadN m' off 8 = ((x.L.length + 1 : Nat) : Int) ∧ loadN m' (off + 8) 8 = (((addX x (k, e) os).root : Nat) : Int) ∧ loadN m' (off + 16) 8 = (((addX x (k, e) os).height : Nat) : Int) ∧ loadN m' (off + 24) 8 = ((x.offs.length + needX x k : Nat) : Int))
  (hT : ∀ h t, addX x (k, e) os = some (h, t) → TreeM l m' h t) (hS : ∀ a, Away l (x.offs ++ os) a → (a < off ∨ off + 64 ≤ a) → m' a = s1.m a) :
  TrOk l { s1 with m := m' } off (addX x (k, e) os) R ∧ (∀ p ∈ R, ∀ a : Nat, p.1 ≤ a → (a : Int) < p.1 + p.2 → m' a = s.m a) ∧ (addX x (k, e) os).L = putL k e x.L ∧ (addX x (k, e) os).offs.length = x.offs.length + needX x k := by
 obtain ⟨hE, hX, hbl⟩ := put_ready hl hs H T hno hlen
 obtain ⟨a1, a2, a3, a4⟩ := apart_of hl T.ok hbl
 obtain ⟨g1, g2, g3, g4, g5⟩ := addX_law (e := e) hX
 have hLl : (addX x (k, e) os).L.length = x.L.length + 1 := by rw [g1]; exact putL_len hno
 have hol : (addX x (k, e) os).offs.length = x.offs.length + needX x k := by rw [g3.length_eq, List.length_append, hlen]
 obtain ⟨w0, w1, w2, w3⟩ := hw
 refine ⟨⟨?_, by rw [hLl]; exact w0, w1, w2, by rw [hol]; exact w3, fun h t hx => ⟨g2 h t hx, hT h t hx⟩, by rw [g1]; exact putL_sl H.sl, fun p hp => ?_⟩, fun p hp a b1 b2 => ?_, g1, hol⟩
 ·refine (show s1.bl.Perm _ from hbl).trans ?_
  unfold ownB
  exact List.Perm.append_right _ (List.Perm.cons _ (g3.symm.map _))
 ·rw [g1] at hp
  rcases putL_mem hp with w | w
  ·exact H.sz p w
  ·rw [w]; exact ⟨hk, he⟩
 ·have e1 := hS a (fun o ho => (a4 p hp).1 o ho a b1 b2) ((a4 p hp).2 a b1 b2)
  rw [e1]
  exact T.keep p (H.bl.mem_iff.2 (List.mem_append_right _ hp)) a b1 b2
end Go.Proofs.Ytjekhcojebgpnaa.Bt
