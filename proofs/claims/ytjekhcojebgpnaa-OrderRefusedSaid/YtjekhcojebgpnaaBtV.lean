/- Contracts of package order: Put. -/
import Derived.Test.YtjekhcojebgpnaaBtU
import Derived.Test.YtjekhcojebgpnaaBtQ
set_option linter.unusedVariables false
set_option linter.unusedSimpArgs false
set_option maxRecDepth 100000
namespace Go.Proofs.Ytjekhcojebgpnaa.Bt
open Go.RowKit Go.Proofs Go.Proofs.Ytjekhcojebgpnaa.Eng Go.Proofs.Ytjekhcojebgpnaa.Ty Go.Proofs.Ytjekhcojebgpnaa.Bits Go.Proofs.Ytjekhcojebgpnaa.Mem Go.Proofs.Ytjekhcojebgpnaa.Search Go.Proofs.Ytjekhcojebgpnaa.Layout Go.Proofs.Ytjekhcojebgpnaa.Arena Go.Proofs.Ytjekhcojebgpnaa.GroupB
/-! ### Cells written without a look -/
theorem setAt_of {o : Nat} {v : Value} : ∀ {cs : List Value}, o < cs.length → SetAt cs o v (cs.set o v) := by
 induction o with
 | zero => intro cs h; cases cs with
  | nil => simp at h
  | cons a r => exact SetAt.here
 | succ o ih => intro cs h; cases cs with
  | nil => simp at h
  | cons a r => exact SetAt.there (ih (by simpa using h))
theorem setAll_of : ∀ {us cs : List Value} {o : Nat}, o + us.length ≤ cs.length → SetAll cs o us (lay cs o us)
 | [], cs, o, h => by rw [lay_nil']; exact SetAll.nil
 | u :: us, cs, o, h => by
  simp only [List.length_cons] at h
  have h1 := setAt_of (o := o) (v := u) (cs := cs) (by omega)
  have h2 := setAll_of (us := us) (cs := cs.set o u) (o := o + 1) (by rw [List.length_set]; omega)
  have e : lay (cs.set o u) (o + 1) us = lay cs o (u :: us) := by
   apply List.ext_getElem?
   intro i
   rw [lay_get (by rw [List.length_set]; omega), lay_get (by simp only [List.length_cons]; omega), List.getElem?_set]
   simp only [List.length_cons]
   by_cases q1 : o + 1 ≤ i ∧ i < o + 1 + us.length
   ·rw [if_pos q1, if_pos (by omega), show i - o = (i - (o + 1)) + 1 by omega, List.getElem?_cons_succ]
   ·rw [if_neg q1]
    by_cases q2 : o = i
    ·subst q2; rw [if_pos rfl, if_pos (by omega), if_pos (by omega), Nat.sub_self]; rfl
    ·rw [if_neg q2, if_neg (by omega)]
  rw [← e]
  exact SetAll.cons h1 h2
theorem pad_set {A : Type} {a x : A} {n i : Nat} {l : List A} (h : l.length ≤ n) (hi : i < l.length) : (pad a n l).set i x = pad a n (l.set i x) := by
 unfold pad
 rw [List.set_append_left _ _ hi, List.length_set]
theorem set_snd (a b c d : Value) {P : List Pr} {K : List Nat} {i : Nat} {p : Pr} {e : ByteArray} (h : P[i]? = some p) : (a :: b :: c :: d :: pkV P K).set (4 + i * 2 + 1) (.string e) = a :: b :: c :: d :: pkV (P.set i (p.1, e)) K := by
 have hi := (List.getElem?_eq_some_iff.1 h).1
 have hr := row_len P
 rw [show 4 + i * 2 + 1 = (i * 2 + 1) + 1 + 1 + 1 + 1 by omega]
 simp only [List.set_cons_succ]
 congr 4
 unfold pkV
 rw [List.set_append_left _ _ (by omega), rowOf_set prV_len (j := 1) (by decide) P i p h (a' := (p.1, e)) rfl]
theorem step_lay {z us : List Value} {v : Value} (hz : z.length = 27) (hu : us.length = 26) : (lay z 0 us).set 26 v = us ++ [v] := by
 unfold lay
 rw [List.take_zero, List.nil_append, Nat.zero_add, hu]
 have h1 : (z.drop 26).length = 1 := by rw [List.length_drop]; omega
 obtain ⟨y, hy⟩ := List.length_eq_one_iff.1 h1
 rw [hy, List.set_append_right _ _ (by omega), hu]; rfl
theorem rep_set {A : Type} {a b : A} {i n : Nat} (h : i < n) : (List.replicate i a ++ List.replicate (n - i) b).set i a = List.replicate (i + 1) a ++ List.replicate (n - (i + 1)) b := by
 rw [List.set_append_right _ _ (by simp), List.length_replicate, Nat.sub_self, show n - i = (n - (i + 1)) + 1 by omega, List.replicate_succ, List.set_cons_zero, List.replicate_succ', List.append_assoc]
 rfl
theorem sumC_rep (n : Nat) (b : Int) : sumC (List.replicate n b) = (n : Int) * classI b := by
 induction n with
 | zero => simp [sumC]
 | succ n ih =>
  rw [List.replicate_succ', sumC_app, ih, Int.natCast_succ, Int.add_mul, Int.one_mul]
/-- A row that fills its slice. -/
theorem own_full {e : TypeId} {b n : Nat} {xs : List Value} {L : List HP} {w : World} (h : Sat (stars (ownS e 1 (.slice (some ⟨b, 0, none⟩) n n) n xs :: L)) w) : Sat (stars (pt b (.cells xs.toArray e (0, 0)) :: L)) w := by
 obtain ⟨cur, c1, c2, _, _, c5, hs⟩ := own_open h
 have : cur = xs.toArray := by
  apply Array.ext'
  rw [← c2, List.take_of_length_le (by rw [Array.length_toList, c1]; exact Nat.le_refl _)]
 rw [← this]; exact hs
def Keep (R : List (Int × Int)) (s s' : ArS) : Prop := ∀ p ∈ R, ∀ a : Nat, p.1 ≤ a → (a : Int) < p.1 + p.2 → s'.m a = s.m a
section
variable (pa off : Nat) (s : ArS) {l : Lay} (hl : l.err = 0)
include hl
omit hl in
theorem putL_len_old {k e : ByteArray} : ∀ {L : List Pr}, SL L → (∃ p ∈ L, p.1 = k) → (putL k e L).length = L.length
 | [], _, ⟨p, hp, _⟩ => by cases hp
 | q :: L, hsl, ⟨p, hp, hpk⟩ => by
  unfold putL
  split
  ·next z =>
   simp only [List.length_cons]
   rw [putL_len_old (List.pairwise_cons.1 hsl).2 ?_]
   rcases List.mem_cons.1 hp with rfl | hp
   ·rw [hpk] at z; exact absurd z (lt_irr k)
   ·exact ⟨p, hp, hpk⟩
  ·next z =>
   split
   ·rfl
   ·next z2 =>
    exfalso
    rcases List.mem_cons.1 hp with rfl | hp
    ·exact z2 hpk
    ·have := (List.pairwise_cons.1 hsl).1 p hp
     rw [hpk] at this; exact z this
/-- The way a put's search goes: what is known of where it stands. -/
structure PutI (l : Lay) (s : ArS) (k e : ByteArray) (x y : TX) (W : List (Nat × BT × Nat)) : Prop where
 path : W ++ pathX y k = pathX x k
 sub : SubT l s y
 get : getL y.L k = getL x.L k
 apart : Apart l y.offs
 up : ∀ m', (∀ h t, y = some (h, t) → TreeM l m' h (setB h t k e)) → (∀ a, Away l y.offs a → m' a = s.m a) → (∃ p ∈ y.L, p.1 = k) → (∀ h t, x = some (h, t) → TreeM l m' h (setB h t k e)) ∧ ∀ a, Away l x.offs a → m' a = s.m a
omit hl in
theorem PutI.next {k e : ByteArray} {x : TX} {W : List (Nat × BT × Nat)} {h : Nat} {t : BT} (I : PutI l s k e x (some (h, t)) W) (ho : own t k = false) : PutI l s k e x (nxt h t (rk t.ps k)) (W ++ [(h, t, rk t.ps k)]) := by
 obtain ⟨hk, h2, h3, h4, h5, h6⟩ := I.sub h t O
 refine ⟨?_, I.sub.nxt (rk_le _ _), by rw [← I.get]; exact (get_on hk h4 ho).symm, ?_, fun m' hT hS hp => ?_⟩
 ·rw [← I.path, List.append_assoc]
  show _ = W ++ pathB h t k
  rw [path_cons]; rfl
 ·cases h with
  | zero => exact List.Pairwise.nil
  | succ h =>
   have hc := kid_at (t := t) (i := rk t.ps k) (by have := hk.2.2.1; have := rk_le t.ps k; omega)
   exact I.apart.sublist (offs_sub (List.mem_of_getElem? hc))
 ·cases h with
  | zero => obtain ⟨p, hp, _⟩ := hp; cases hp
  | succ h =>
   obtain ⟨a, b, q1, _⟩ := way_on hk h4 ho
   have hp' : ∃ p ∈ lst (h + 1) t, p.1 = k := by
    obtain ⟨p, hp, hpk⟩ := hp
    exact ⟨p, by rw [q1]; simp only [List.mem_append]; exact .inl (.inr hp), hpk⟩
   obtain ⟨u1, u2⟩ := set_up (os := []) (m0 := s.m) (m := m') (e := e) hk h2 h4 (by rw [List.append_nil]; exact I.apart) ho hp' (hT _ _ rfl) hS
   exact I.up m' (fun h' t' w => by cases w; exact u1) u2 hp'
/-- Behind the search: the elem is laid anew. -/
theorem PutI.done {k e : ByteArray} {x : TX} {R : List (Int × Int)} {W : List (Nat × BT × Nat)} {h : Nat} {t : BT} (hs : s.ok) (H : TrOk l s off x R) (hkz : k.size = kN l) (hez : e.size = eN l) (I : PutI l s k e x (some (h, t)) W) (ho : own t k = true) {m' : Nat → Int}
  (hN : NodeM l m' t.o (t.ps.set (rk t.ps k) (k, e)) (decide (h = 0)) (t.ks.map BT.o) (tot h t)) (hO : ∀ a, a < t.o ∨ t.o + nbN l ≤ a → m' a = s.m a) :
  ∃ x' : TX, TrOk l (wm s m') off x' R ∧ Keep R s (wm s m') ∧ (∃ p ∈ x.L, p.1 = k) ∧ x'.L = putL k e x.L ∧ x'.offs = x.offs ∧ x'.height = x.height := by
 obtain ⟨hk, h2, h3, h4, h5, h6⟩ := I.sub h t O
 obtain ⟨a1, a2, a3, a4⟩ := apart_of hl hs H.bl
 obtain ⟨q1, q2, a, b, q3, _⟩ := way_own hk h4 ho
 have hm : ∃ p ∈ lst h t, p.1 = k := ⟨pr t (rk t.ps k), by rw [q3]; simp, q2⟩
 obtain ⟨u1, u2⟩ := set_here hk h2 h4 I.apart ho hN hO
 obtain ⟨v1, v2⟩ := I.up m' (fun h' t' w => by cases w; exact u1) u2 hm
 have hget : getL x.L k = some (pr t (rk t.ps k)).2 := by rw [← I.get]; exact get_own hk h4 ho
 have hxm : ∃ p ∈ x.L, p.1 = k := by
  unfold getL at hget
  cases hf : x.L.find? (fun p => decide (p.1 = k)) with
  | none => rw [hf] at hget; cases hget
  | some p => exact ⟨p, List.mem_of_find?_eq_some hf, by simpa using List.find?_some hf⟩
 cases x with
 | none => obtain ⟨p, hp, _⟩ := hxm; cases hp
 | some y =>
  obtain ⟨g, T⟩ := y
  obtain ⟨w1, w2⟩ := H.tree g T rfl
  obtain ⟨b1, b2, b3⟩ := setB_law (e := e) (Nat.le_refl 1) w1 H.sl hxm
  have hoff : ∀ x, x + 8 ≤ 64 → loadN m' (off + x) 8 = loadN s.m (off + x) 8 := fun x hx => loadN_congr fun i hi => v2 _ fun o ho => by rcases a2 o ho with w | w <;> omega
  have hlen : (setB g T k e) = (setB g T k e) := rfl
  have hL : TX.L (some (g, setB g T k e)) = putL k e (TX.L (some (g, T))) := b1
  have hll : (TX.L (some (g, setB g T k e))).length = (TX.L (some (g, T))).length := by
   rw [hL]
   obtain ⟨_, _⟩ := hxm
   exact putL_len_old H.sl ⟨_, ‹_›⟩
  have hofs : TX.offs (some (g, setB g T k e)) = TX.offs (some (g, T)) := b3
  refine ⟨some (g, setB g T k e), ⟨?_, ?_, ?_, ?_, ?_, fun h' t' w => ?_, ?_, fun p hp => ?_⟩, fun p hp a a5 a6 => v2 a fun o ho => (a4 p hp).1 o ho a a5 a6, hxm, hL, hofs, rfl⟩
  ·show s.bl.Perm _
   unfold ownB; rw [hofs]; exact H.bl
  ·have := hoff 0 (by omega); rw [Nat.add_zero] at this; rw [wm_m, this, hll]; exact H.w0
  ·rw [wm_m, hoff 8 (by omega)]; rw [show TX.root (some (g, setB g T k e)) = TX.root (some (g, T)) from setB_o]; exact H.w1
  ·rw [wm_m, hoff 16 (by omega)]; exact H.w2
  ·rw [wm_m, hoff 24 (by omega), hofs]; exact H.w3
  ·cases w; exact ⟨b2, v1 g T rfl⟩
  ·rw [hL]; exact putL_sl H.sl
  ·rw [hL] at hp
   rcases putL_mem hp with w | w
   ·exact H.sz p w
   ·rw [w]; exact ⟨hkz, hez⟩
theorem Put_yes {x : TX} {R : List (Int × Int)} (hs : s.ok) (H : TrOk l s off x R) (k e : ByteArray) (hkz : k.size = kN l) (hez : e.size = eN l) : FnOk Try.prog 27 #[.agg #[.pointer (some ⟨pa, 0, none⟩), .int .i64 l.key, .int .i64 l.elem, .int .i64 l.ka, .int .i64 l.ea, .int .i64 l.cap, .int .i64 l.eo, .int .i64 l.bo, .int .i64 l.slot, .int .i64 l.group, .int .i64 ((off : Nat) : Int)], .string k, .string e] [arenaH pa s] (fun v L => ∃ s' x', L = [arenaH pa s'] ∧ TrOk l s' off x' R ∧ Keep R s s' ∧ s'.limit = s.limit ∧ ((v = .tuple #[.bool false, .int .i64 0] ∧ (∃ p ∈ x.L, p.1 = k) ∧ x'.L = putL k e x.L ∧ x'.offs = x.offs ∧ x'.height = x.height) ∨ (v = .tuple #[.bool false, .int .i64 22] ∧ s' = s ∧ x' = x ∧ (∀ p ∈ x.L, p.1 ≠ k) ∧ s.limit - s.live < (needX x k : Int) * nC l) ∨ (v = .tuple #[.bool true, .int .i64 0] ∧ (∀ p ∈ x.L, p.1 ≠ k) ∧ x'.L = putL k e x.L ∧ x'.offs.length = x.offs.length + needX x k))) := by
 have hnbb := nb_bnd hl
 have hap := apart_of hl hs H.bl
 obtain ⟨hS, hob, hLb, hhb, hrb, hoffb, _⟩ := H.bnd hs
 have hh27 := height_bnd (fun h t e => (H.tree h t e).1) hob
 have hpl : (pathX x k).length = x.height := by cases x with | none => rfl | some y => exact path_len
 refine fn_intro en27 Try.func27 rfl rfl rfl fun Fr w0 => t_nm ?_
 refine sr<|o_boxA O O fun b3 => asg O O<|asg O O<|lz<|l_q O (qlda O yA27 yS27) ?_
 refine mv O O<|mv O O ?_
 refine lc1 O O O (widths_yes pa off s hl hs H k e true (by unfold widE; rw [if_neg (by omega), if_neg (by rintro ⟨_, w⟩; omega)])) ?_
 refine mv O O<|l_q O (q_extractL O ga) ?_
 refine l_q O (q_extractL O ga) ?_
 refine o_allocA O yZ57 fun b8 => sta O O O yS57 O O ?_
 refine asg O O<|lc<|t_seq<|sr<|mv O O<|l_q O (qi O O (b_neq ·))<|lc<|t_if O (fun z => ?_) fun z => ?_
 ·exact absurd rfl z
 ·refine t_skip<|nz<|asg O O<|lc<|t_seq<|sr<|l_q O (qfa 1 O yU57 O O yS3)<|l_q O (qld O yA3) ?_
  refine asg O O<|lc<|t_block ?_
  refine t_ent (L' := ownS 111 27 (.slice none 0 0) (([] : List (Nat × BT × Nat))).length (rowOf stepV (([] : List (Nat × BT × Nat)))) :: pt b8 (.cells #[.int .i64 ((x.L.length : Nat) : Int), .int .i64 ((x.root : Nat) : Int), .int .i64 ((x.height : Nat) : Int), .int .i64 ((x.offs.length : Nat) : Int)] 57 (0, 0)) :: pt b3 (.cells #[.pointer (some ⟨pa, 0, none⟩), .int .i64 l.key, .int .i64 l.elem, .int .i64 l.ka, .int .i64 l.ea, .int .i64 l.cap, .int .i64 l.eo, .int .i64 l.bo, .int .i64 l.slot, .int .i64 l.group, .int .i64 ((off : Nat) : Int)] 27 (0, 0)) :: arenaH pa s :: Fr) (fun w h => own_nil (by revert w; exact (show Ent _ _ by (exact en)))) ?_
  refine t_loop (fun y : TX × List (Nat × BT × Nat) × Value => PutI l s k e x y.1 y.2.1) (fun y => [(1, .string k), (2, .string e), (3, .pointer (some ⟨b3, 0, none⟩)), (8, .pointer (some ⟨b8, 0, none⟩)), (10, y.2.2), (11, .int .i64 ((y.1.root : Nat) : Int))]) (fun y => ownS 111 27 (y.2.2) (y.2.1).length (rowOf stepV (y.2.1)) :: pt b8 (.cells #[.int .i64 ((x.L.length : Nat) : Int), .int .i64 ((x.root : Nat) : Int), .int .i64 ((x.height : Nat) : Int), .int .i64 ((x.offs.length : Nat) : Int)] 57 (0, 0)) :: pt b3 (.cells #[.pointer (some ⟨pa, 0, none⟩), .int .i64 l.key, .int .i64 l.elem, .int .i64 l.ka, .int .i64 l.ea, .int .i64 l.cap, .int .i64 l.eo, .int .i64 l.bo, .int .i64 l.slot, .int .i64 l.group, .int .i64 ((off : Nat) : Int)] 27 (0, 0)) :: arenaH pa s :: Fr) (fun y => y.1.height) (x, [], .slice none 0 0) ⟨rfl, hS, rfl, hap.1, fun m' a b c => ⟨a, b⟩⟩ ⟨rfl, rfl, rfl, rfl, rfl, rfl, trivial⟩ (Ent.refl _) ?_
  rintro ⟨y, W, vw⟩ I
  dsimp only at I ⊢
  have hr := root_ne hs I.sub
  have hWl : W.length ≤ 27 := by have := congrArg List.length I.path; rw [List.length_append] at this; omega
  refine t_seq<|sr<|mv O O<|l_q O (qi O O (b_neq ·))<|lc<|t_if O (fun q => ?_) fun q => ?_
  ·obtain ⟨⟨h, t⟩, rfl⟩ : ∃ z, y = some z := by cases y with | none => exact absurd rfl q | some z => exact ⟨z, rfl⟩
   obtain ⟨hk, h2, h3, h4, h5, h6⟩ := I.sub h t O
   have h7 := (ok_len hk).2
   have hk8 := ks_len hk
   have hle := rk_le t.ps k
   have hto : blkN l t.o ∈ s.bl := h3 _ (by cases h <;> simp [offs])
   have htob := (bl_bnd hs hto).2
   have htot : tot h t = (lst h t).length := rfl
   refine t_skip<|n_code<|t_block<|sr<|l_q O (qlda O yA27 yS27) ?_
   refine mv O O<|lc1 O O O (readT_ok pa s hl _ hs I.sub) ?_
   refine o_allocA O yZ73 fun b12 => ?_
   apply o_storeP (us := nodeT h t) (xs' := nodeT h t) rfl rfl rfl yS73 (nodeT_len hk) (List.all_eq_true.2 (node_one _ _ _ _ _ _))
   ·exact tk
   ·decide
   ·exact lay_full (by rw [nodeT_len hk]; rfl)
   refine lz<|mv O O<|lc1 O O O (find_ok b12 _ _ _ t _ k h7 (sl_ps hk h4)) ?_
   refine mv O O<|l_q O (q_extractL O ga) ?_
   refine l_q O (q_extractL O ga) ?_
   refine asg O O<|asg O O<|lc<|t_seq<|sr<|mv O O<|lc<|t_if O (fun o1 => ?_) fun o1 => ?_
   ·have o2 : own t k = true := decide_eq_true o1
    obtain ⟨hpr, hpk, _⟩ := way_own hk h4 o2
    have hlt := (List.getElem?_eq_some_iff.1 hpr).1
    refine sr<|mv O O<|mv O O<|l_q O (qfa 4 O yU73 O O yS70)<|l_q O (q_indexAddrA O O yU70 yS69 (by omega)) ?_
    refine l_q O (qfa 1 O yU69 O O yS9) ?_
    apply o_storeP1 (v := .string e) (xs' := nodeC t.o ((t.ps.length : Nat) : Int) ((tot h t : Nat) : Int) (decide (h = 0)) (pad p0 7 (t.ps.set (rk t.ps k) (k, e))) (pad 0 8 (t.ks.map BT.o))) rfl rfl rfl yS9 rfl
    ·exact tk
    ·rw [Int.toNat_natCast, nodeT_len hk]; omega
    ·rw [Int.toNat_natCast, set_snd _ _ _ _ (p := pr t (rk t.ps k)) (by rw [pad_at h7 hlt]; exact hpr), hpk, pad_set h7 hlt]
    refine lz<|l_q O (qlda O yA27 yS27) ?_
    apply l_q O
    ·apply q_loadP (us := nodeC t.o ((t.ps.length : Nat) : Int) ((tot h t : Nat) : Int) (decide (h = 0)) (pad p0 7 (t.ps.set (rk t.ps k) (k, e))) (pad 0 8 (t.ks.map BT.o))) rfl yA73 yS73
     ·exact tk
     ·exact Nat.le_of_eq (nodeC_len (pad_len (by rw [List.length_set]; exact h7)) (pad_len hk8)).symm
     ·exact List.take_of_length_le (Nat.le_of_eq (nodeC_len (pad_len (by rw [List.length_set]; exact h7)) (pad_len hk8)))
    refine lcf O O O (writeN_ok pa ((off : Nat) : Int) s hl t.o t.ps.length (t.ps.set (rk t.ps k) (k, e)) (decide (h = 0)) (t.ks.map BT.o) (tot h t) (List.length_set ..) htob hto h7 hk8 (kids_o hs I.sub) (by omega) (fun p hp => by rcases set_mem hp with rfl | ⟨j, _, hj⟩; exact ⟨hkz, hez⟩; exact h5 p (ps_mem hk p (List.mem_of_getElem? hj)))) ?_
    rintro v L' ⟨m2, rfl, rfl, hN, hO⟩
    refine l_nm ?_
    refine lz<|asg O O<|asg O O<|lc<|rt ?_
    obtain ⟨x', t1, t2, t3, t4, t5, t6⟩ := I.done off s hl hs H hkz hez o2 hN hO
    exact fr2 O ([arenaH pa (wm s m2)]) (.tmp rfl) (.tmp rfl) (⟨wm s m2, x', rfl, t1, t2, rfl, .inl ⟨rfl, t3, t4, t5, t6⟩⟩)
   ·have o2 : own t k = false := decide_eq_false o1
    refine t_skip<|nz<|mv O O ?_
    apply l_q O
    ·apply q_loadP (us := nodeT h t) rfl yA73 yS73
     ·exact tk
     ·exact Nat.le_of_eq (nodeT_len hk).symm
     ·exact List.take_of_length_le (Nat.le_of_eq (nodeT_len hk))
    refine mv O O ?_
    refine l_q O ((q_buildS O yP111 yZ111 (FillR.all (us := nodeT h t) PlAt.here (nodeT_len hk) (by simp) (setAll_of (by rw [nodeT_len hk]; decide)) (FillR.one (PlAt.there PlAt.here) rfl (setAt_of (by rw [lay_len (by rw [nodeT_len hk]; decide)]; decide)) FillR.nil))).to (v' := .agg (stepV (h, t, rk t.ps k)).toArray) (by rw [stepV_eq hk]; congr 2; exact step_lay rfl (nodeT_len hk))) ?_
    refine o_buildSlice (us := [.agg (stepV (h, t, rk t.ps k)).toArray]) (cs := (stepV (h, t, rk t.ps k)).toArray) rfl rfl Try.underlying109 yS111 yZ111 O O O (by simp [Value.cells, stepV_len]) (by simp [Value.cells]) (fun b55 => ?_)
    apply o_append (sz := 27) rfl rfl rfl Try.underlying109 yI111 O O
    ·exact tk
    ·exact tk
    ·simp [stepV_len]
    ·exact stepV_one _
    ·simp only [maxLen]; omega
    ·omega
    intro v56
    refine asg O O<|lr<|mv O O<|l_q O (qfa 18 O yU73 O O yS71)<|l_q O (q_indexAddrA O O yU71 yS3 (by omega)) ?_
    apply l_q O
    ·apply q_loadP1 (v := .int .i64 ((TX.root (nxt h t (rk t.ps k)) : Nat) : Int)) rfl yA3
     ·exact tk
     ·rw [Int.toNat_natCast, Nat.mul_one]; exact pkV_kid _ _ _ _ (pad_len h7) (nxt_root hk (rk_le _ _))
    refine asg O O<|l_nil<|n_blk ?_
    refine n_shape (v := v56) tk fun _ hs56 => ?_
    rw [show rowOf stepV W ++ (stepV (h, t, rk t.ps k)) = rowOf stepV (W ++ [(h, t, rk t.ps k)]) by rw [rowOf_app]; simp [rowOf], show W.length + 1 = (W ++ [(h, t, rk t.ps k)]).length by simp]
    apply n_again ((nxt h t (rk t.ps k), W ++ [(h, t, rk t.ps k)], v56))
    ·exact I.next s o2
    ·exact nxt_height
    ·exact ⟨O, O, O, O, O, O, trivial⟩
    ·exact en
  ·obtain rfl : y = none := hr.1.1 (by omega)
   have hWp : W = pathX x k := by rw [← I.path]; exact (List.append_nil _).symm
   have hno : getL x.L k = none := by rw [← I.get]; rfl
   subst hWp
   refine t_shape (v := vw) tk fun _ hsh => ?_
   obtain ⟨aw, cw, rfl, haw, hcw, hcm⟩ := hsh
   have hnok : ∀ p ∈ x.L, p.1 ≠ k := fun p hp hpk => by
    unfold getL at hno
    rw [Option.map_eq_none_iff, List.find?_eq_none] at hno
    exact absurd hpk (by simpa using hno p hp)
   have hfw2 : (fwL (pathX x k)).1 ≤ 27 := by have := fwL_le (pathX x k); omega
   refine xt O<|nz<|asg O O<|lc<|t_seq ?_
   apply t_cut (p := (fun n : Nat => n ≤ (pathX x k).length ∧ fwL (pathX x k) = (n, decide (n = (pathX x k).length)))) (EE := (fun n => [(1, .string k), (2, .string e), (3, .pointer (some ⟨b3, 0, none⟩)), (8, .pointer (some ⟨b8, 0, none⟩)), (10, .slice aw (pathX x k).length cw), (15, .int .i64 ((n : Nat) : Int))])) (LL := (fun n => ownS 111 27 (.slice aw (pathX x k).length cw) (pathX x k).length (rowOf stepV (pathX x k)) :: pt b8 (.cells #[.int .i64 ((x.L.length : Nat) : Int), .int .i64 ((x.root : Nat) : Int), .int .i64 ((x.height : Nat) : Int), .int .i64 ((x.offs.length : Nat) : Int)] 57 (0, 0)) :: pt b3 (.cells #[.pointer (some ⟨pa, 0, none⟩), .int .i64 l.key, .int .i64 l.elem, .int .i64 l.ka, .int .i64 l.ea, .int .i64 l.cap, .int .i64 l.eo, .int .i64 l.bo, .int .i64 l.slot, .int .i64 l.group, .int .i64 ((off : Nat) : Int)] 27 (0, 0)) :: arenaH pa s :: Fr))
   refine t_block ?_
   refine t_loop (fun n : Nat => n ≤ (pathX x k).length ∧ ∀ j (a : Nat × BT × Nat), j < n → (pathX x k)[(pathX x k).length - 1 - j]? = some a → a.2.1.ps.length = 7) (fun n => [(1, .string k), (2, .string e), (3, .pointer (some ⟨b3, 0, none⟩)), (8, .pointer (some ⟨b8, 0, none⟩)), (10, .slice aw (pathX x k).length cw), (15, .int .i64 ((n : Nat) : Int))]) (fun n => ownS 111 27 (.slice aw (pathX x k).length cw) (pathX x k).length (rowOf stepV (pathX x k)) :: pt b8 (.cells #[.int .i64 ((x.L.length : Nat) : Int), .int .i64 ((x.root : Nat) : Int), .int .i64 ((x.height : Nat) : Int), .int .i64 ((x.offs.length : Nat) : Int)] 57 (0, 0)) :: pt b3 (.cells #[.pointer (some ⟨pa, 0, none⟩), .int .i64 l.key, .int .i64 l.elem, .int .i64 l.ka, .int .i64 l.ea, .int .i64 l.cap, .int .i64 l.eo, .int .i64 l.bo, .int .i64 l.slot, .int .i64 l.group, .int .i64 ((off : Nat) : Int)] 27 (0, 0)) :: arenaH pa s :: Fr) (fun n => (pathX x k).length - n) 0 ⟨Nat.zero_le _, fun j a hj => absurd hj (Nat.not_lt_zero _)⟩ ⟨rfl, rfl, rfl, rfl, rfl, rfl, trivial⟩ (by (exact en)) ?_
   rintro n ⟨hn, hfull⟩
   refine t_seq<|sr<|mv O O<|mv O O<|l_q O (ql O yU109)<|l_q O (qi O O (b_lss ·))<|mv O O<|l_pt (t := 65) rfl (fun c => ?_) fun c => ?_
   ·obtain ⟨gw, rfl⟩ := haw (by omega)
    have hnl : n < (pathX x k).length := by omega
    obtain ⟨⟨h, t, i⟩, ha⟩ : ∃ a, (pathX x k)[(pathX x k).length - 1 - n]? = some a := ⟨_, List.getElem?_eq_getElem (by omega)⟩
    have hok : ok h 1 t := path_ok (fun h t w => (H.tree h t w).1) _ (List.mem_of_getElem? ha)
    have hci : ((((pathX x k).length : Nat) : Int) - 1 - ((n : Nat) : Int)).toNat = (pathX x k).length - 1 - n := by omega
    refine l_on O O<|mv O O<|l_on O O<|mv O O<|l_on O O<|l_q O (ql O yU109)<|l_on O O<|l_q O (qsub O O) ?_
    refine l_on O O<|mv O O<|l_on O O<|l_q O (qsub O O) ?_
    refine l_on O O<|l_q O (q_indexAddr O O yU109 yS111 (by omega)) ?_
    refine l_on O O<|l_q O (qfa 0 O yU111 O O yS73)<|l_on O O<|l_q O (qfa 1 O yU73 O O yS3)<|l_on O O ?_
    apply l_q O
    ·apply q_loadR (A := ownS 111 27 (.slice (some ⟨gw, 0, none⟩) (pathX x k).length cw) (pathX x k).length (rowOf stepV (pathX x k))) (v := .int .i64 ((t.ps.length : Nat) : Int)) rfl yA3
     ·exact tk
     ·rw [hci, Nat.zero_add]; have := way_cell (aw := gw) (cw := cw) (n := (pathX x k).length) hok ha (j := 1) rfl; rwa [add_none] at this
    refine l_on O O<|l_q O (qi O O (b_eql ·))<|l_q O (q_pk O O)<|lc<|t_if O (fun c2 => ?_) fun c2 => ?_
    ·have h77 : t.ps.length = 7 := by omega
     have hfull' : ∀ j (a : Nat × BT × Nat), j < n + 1 → (pathX x k)[(pathX x k).length - 1 - j]? = some a → a.2.1.ps.length = 7 := (fun j a hj ha' => by rcases Nat.lt_or_ge j n with w | w; exact hfull j a w ha'; (rw [show j = n by omega, ha] at ha'; cases ha'; exact h77))
     refine t_skip<|n_code<|t_block<|t_region<|mv O O<|l_q O (qadd O O) ?_
     refine asg O O<|l_nil<|n_blk ?_
     apply n_again (n + 1)
     ·exact ⟨hnl, hfull'⟩
     ·(try dsimp only); omega
     ·exact ⟨O, O, O, O, O, O, trivial⟩
     ·exact en
    ·refine xt O ?_
     apply n_join (n)
     ·exact ⟨hn, fwL_at hn hfull (.inr ⟨_, ha, by dsimp only; omega⟩)⟩
     ·exact ⟨O, O, O, O, O, O, trivial⟩
     ·exact en
   ·refine l_off O O O O<|l_off O O O O<|l_off O O O O<|l_off O O O O<|l_off O O O O<|l_off O O O O<|l_off O O O O<|l_off O O O O<|l_off O O O O<|l_off O O O O<|l_off O O O O<|l_q O (q_pk O O)<|lc<|t_cond_f O<|xt O ?_
    apply n_join (n)
    ·exact ⟨hn, fwL_at hn hfull (.inl (by omega))⟩
    ·exact ⟨O, O, O, O, O, O, trivial⟩
    ·exact en
   rintro n ⟨hn, hfw⟩
   try dsimp only
   refine n_nm ?_
   refine nz<|mv O O<|asg O O<|lc<|t_seq<|sr<|mv O O<|mv O O<|l_q O (ql O yU109)<|l_q O (qi O O (b_eql ·))<|lc ?_
   have hneed : needX x k = n + if n = (pathX x k).length then 1 else 0 := by unfold needX; rw [hfw]; simp
   have hneedb : needX x k ≤ 28 := by rw [hneed]; split <;> omega
   apply t_cut (p := (fun _ : Unit => True)) (EE := (fun _ => [(1, .string k), (2, .string e), (3, .pointer (some ⟨b3, 0, none⟩)), (8, .pointer (some ⟨b8, 0, none⟩)), (10, .slice aw (pathX x k).length cw), (16, .int .i64 ((needX x k : Nat) : Int))])) (LL := (fun _ => ownS 111 27 (.slice aw (pathX x k).length cw) (pathX x k).length (rowOf stepV (pathX x k)) :: pt b8 (.cells #[.int .i64 ((x.L.length : Nat) : Int), .int .i64 ((x.root : Nat) : Int), .int .i64 ((x.height : Nat) : Int), .int .i64 ((x.offs.length : Nat) : Int)] 57 (0, 0)) :: pt b3 (.cells #[.pointer (some ⟨pa, 0, none⟩), .int .i64 l.key, .int .i64 l.elem, .int .i64 l.ka, .int .i64 l.ea, .int .i64 l.cap, .int .i64 l.eo, .int .i64 l.bo, .int .i64 l.slot, .int .i64 l.group, .int .i64 ((off : Nat) : Int)] 27 (0, 0)) :: arenaH pa s :: Fr))
   refine t_if O (fun c3 => ?_) fun c3 => ?_
   ·refine t_region<|mv O O<|l_q O (qadd O O) ?_
    refine asg O O<|l_nil ?_
    rw [if_pos (by omega)] at hneed
    apply n_join (())
    ·exact trivial
    ·exact ⟨rfl, rfl, rfl, rfl, rfl, congrArg (fun z => some (Value.int .i64 z)) (by omega), trivial⟩
    ·exact en
   ·refine t_skip ?_
    rw [if_neg (by omega)] at hneed
    apply n_join (())
    ·exact trivial
    ·exact ⟨rfl, rfl, rfl, rfl, rfl, congrArg (fun z => some (Value.int .i64 z)) (by omega), trivial⟩
    ·exact en
   rintro _ -
   try dsimp only
   refine n_nm ?_
   refine nz<|mv O O ?_
   apply o_makeSlice1 O O O yU28 yI3 O (by omega) (by omega)
   intro b88
   refine asg O O<|lc<|t_seq<|sr<|mv O O<|l_q O (ql O yU28)<|mv O O<|lc<|t_block ?_
   rw [Int.toNat_natCast]
   refine t_loop (fun i : Nat => i ≤ needX x k) (fun i => [(1, .string k), (2, .string e), (3, .pointer (some ⟨b3, 0, none⟩)), (8, .pointer (some ⟨b8, 0, none⟩)), (10, .slice aw (pathX x k).length cw), (16, .int .i64 ((needX x k : Nat) : Int)), (17, .slice (some ⟨b88, 0, none⟩) (needX x k) (needX x k)), (90, .int .i64 ((needX x k : Nat) : Int)), (91, .int .i64 ((i : Nat) : Int))]) (fun i => ownS 3 1 (.slice (some ⟨b88, 0, none⟩) (needX x k) (needX x k)) (needX x k) (List.replicate i (Value.int .i64 ((nbN l : Nat) : Int)) ++ List.replicate (needX x k - i) (Value.int .i64 0)) :: ownS 111 27 (.slice aw (pathX x k).length cw) (pathX x k).length (rowOf stepV (pathX x k)) :: pt b8 (.cells #[.int .i64 ((x.L.length : Nat) : Int), .int .i64 ((x.root : Nat) : Int), .int .i64 ((x.height : Nat) : Int), .int .i64 ((x.offs.length : Nat) : Int)] 57 (0, 0)) :: pt b3 (.cells #[.pointer (some ⟨pa, 0, none⟩), .int .i64 l.key, .int .i64 l.elem, .int .i64 l.ka, .int .i64 l.ea, .int .i64 l.cap, .int .i64 l.eo, .int .i64 l.bo, .int .i64 l.slot, .int .i64 l.group, .int .i64 ((off : Nat) : Int)] 27 (0, 0)) :: arenaH pa s :: Fr) (fun i => needX x k - i) 0 (Nat.zero_le _) ⟨rfl, rfl, rfl, rfl, rfl, rfl, rfl, rfl, rfl, trivial⟩ (Ent.refl _) ?_
   intro i hi
   (try dsimp only at hi ⊢)
   refine sr<|l_q O (qi O O (b_lss ·))<|lc<|t_seq<|t_if O (fun c4 => ?_) fun c4 => ?_
   ·have hi4 : i < needX x k := by omega
    refine t_skip<|n_code<|t_seq<|t_block<|sr<|mv O O<|asg O O<|lr<|mv O O<|mv O O<|l_q O (qlda O yA27 yS27) ?_
    refine lc1 O O O (nodeBytes_ok pa _ hl) ?_
    refine l_q O (q_indexAddr1 O O yU28 yS3 (by omega)) ?_
    apply o_storeOwn (xs' := List.replicate (i + 1) (Value.int .i64 ((nbN l : Nat) : Int)) ++ List.replicate (needX x k - (i + 1)) (Value.int .i64 0)) rfl rfl rfl yS3 rfl
    ·exact tk
    ·rw [Int.toNat_natCast]; omega
    ·rw [Int.toNat_natCast, Nat.zero_add]; exact rep_set hi4
    refine l_nil<|n_blk<|n_code<|t_region<|l_q O (qadd O O) ?_
    refine mv O O<|l_nil ?_
    apply n_again (i + 1)
    ·exact (show i + 1 ≤ needX x k by omega)
    ·(try dsimp only); omega
    ·exact ⟨O, O, O, O, O, O, O, O, O, trivial⟩
    ·exact en
   ·obtain rfl : i = needX x k := by omega
    refine t_ent (L' := pt b88 (.cells (ints (List.replicate (needX x k) ((nbN l : Nat) : Int))).toArray 3 (0, 0)) :: ownS 111 27 (.slice aw (pathX x k).length cw) (pathX x k).length (rowOf stepV (pathX x k)) :: pt b8 (.cells #[.int .i64 ((x.L.length : Nat) : Int), .int .i64 ((x.root : Nat) : Int), .int .i64 ((x.height : Nat) : Int), .int .i64 ((x.offs.length : Nat) : Int)] 57 (0, 0)) :: pt b3 (.cells #[.pointer (some ⟨pa, 0, none⟩), .int .i64 l.key, .int .i64 l.elem, .int .i64 l.ka, .int .i64 l.ea, .int .i64 l.cap, .int .i64 l.eo, .int .i64 l.bo, .int .i64 l.slot, .int .i64 l.group, .int .i64 ((off : Nat) : Int)] 27 (0, 0)) :: arenaH pa s :: Fr) (fun w h => ?_) ?_
    ·refine own_full (n := needX x k) ?_
     rw [Nat.sub_self, List.replicate_zero, List.append_nil] at h
     rw [show ints (List.replicate (needX x k) ((nbN l : Nat) : Int)) = List.replicate (needX x k) (Value.int .i64 ((nbN l : Nat) : Int)) by simp [ints]]
     exact h
    refine xt O<|nz<|l_q O (qfa 0 O yU27 O O yS23)<|l_q O (qld O yA23) ?_
    refine mv O O ?_
    refine lcf O O O (AllocAll_ok pa s b88 (needX x k) (List.replicate (needX x k) ((nbN l : Nat) : Int)) (by simp) (by omega) (fun n hn => by rw [(List.mem_replicate.1 hn).2]; omega)) ?_
    rintro v L' hout
    refine l_nm ?_
    rcases hout with ⟨hbad, rfl, rfl⟩ | ⟨_, hroom, vo, rfl, rfl⟩
    ·skip
     refine l_nm ?_
     refine mv O O<|l_q O (q_extractL O ga) ?_
     refine l_q O (q_extractL O ga) ?_
     refine asg O O<|asg O O<|lc<|t_seq<|sr<|mv O O<|l_q O (qi O O (b_neq ·))<|lc<|t_if O (fun z5 => ?_) fun z5 => ?_
     ·refine sr<|mv O O<|asg O O<|asg O O<|lc<|rt<|fr2 O ([arenaH pa s]) (.tmp rfl) (.tmp rfl) ?_
      refine ⟨s, x, rfl, H, fun _ _ _ _ _ => rfl, rfl, .inr (.inl ⟨rfl, rfl, rfl, hnok, ?_⟩)⟩; rcases hbad with ⟨n, hn, hb⟩ | hb; (rw [(List.mem_replicate.1 hn).2] at hb; omega); (rw [sumC_rep] at hb; exact hb)
     ·exact absurd z5 (by decide)
    ·skip
     rw [sumC_rep] at hroom
     obtain ⟨os, o1, o2, o3, o4, o5, o6⟩ := takes_rep (nb := ((nbN l : Nat) : Int)) (by omega) (by omega) (needX x k) hs hroom
     rw [o2]
     have hTk : Took l s (s.takes (List.replicate (needX x k) ((nbN l : Nat) : Int))) os := ⟨o3, o4, o5, o6⟩
     obtain ⟨hE, hX, hbl1⟩ := put_ready hl hs H hTk hnok o1
     obtain ⟨b1, b2, b3', b4⟩ := apart_of hl o3 hbl1
     generalize hs1 : s.takes (List.replicate (needX x k) ((nbN l : Nat) : Int)) = s1 at *
     refine l_nm ?_
     refine l_shape (v := vo) tk fun _ hsh => ?_
     obtain ⟨ao, co, rfl, hao, hco, _⟩ := hsh
     refine mv O O<|l_q O (q_extractL O ga) ?_
     refine l_q O (q_extractL O ga) ?_
     refine asg O O<|asg O O<|lc<|t_seq<|sr<|mv O O<|l_q O (qi O O (b_neq ·))<|lc<|t_if O (fun z5 => ?_) fun z5 => ?_
     ·exact absurd rfl z5
     ·refine t_skip<|nz<|l_q O (qfa 3 O yU57 O O yS3)<|l_q O (qld O yA3) ?_
      refine mv O O<|l_q O (qadd O O) ?_
      refine l_q O (qfa 3 O yU57 O O yS3)<|st O O O yS3 O ?_
      refine lz<|l_q O (qlda O yA27 yS27) ?_
      refine mv O O<|mv O O<|mv O O ?_
      apply l_q O
      ·apply q_buildS O yP69 yZ69
       ·apply FillR.one
        ·repeat (first | exact PlAt.here | apply PlAt.there)
        ·rfl
        ·exact sa
        apply FillR.one
        ·repeat (first | exact PlAt.here | apply PlAt.there)
        ·rfl
        ·exact sa
        exact FillR.nil
      refine mv O O ?_
      rw [show ((x.offs.length : Nat) : Int) + ((needX x k : Nat) : Int) = ((x.offs.length + needX x k : Nat) : Int) by omega]
      rw [← o1]
      refine lcf O O O (add_ok pa off s1 hl o3 b8 x k e os x.L.length (x.offs.length + os.length) cw co aw ao hkz hez hE hX (hbl1.mem_iff.2 (by simp)) hoffb b2 (fun o ho => b3' o (List.mem_append_right _ ho)) (fun o ho => (bl_bnd o3 (b3' o ho)).2) rfl (by omega) (by omega) (by omega) hrb (root_ne hs hS).1 (fun hx => haw (by rw [hpl]; cases x with | none => exact absurd rfl hx | some y => exact Nat.succ_pos _)) (fun ho => hao (by rw [← o1]; exact List.length_pos_iff.2 ho)) (by omega)) ?_
      rintro v L' ⟨m3, rfl, rfl, hw, hT, hS3⟩
      refine l_nm ?_
      refine lz<|asg O O<|asg O O<|lc<|rt ?_
      rw [o1] at hw
      obtain ⟨t1, t2, t3, t4⟩ := put_fin hl hs H hTk hnok o1 hkz hez hw hT hS3
      refine fr2 O ([arenaH pa (wm s1 m3)]) (.tmp rfl) (.tmp rfl) ?_
      exact ⟨wm s1 m3, addX x (k, e) os, rfl, t1, t2, o6, .inr (.inr ⟨rfl, hnok, t3, by rw [o1]; exact t4⟩)⟩
end
end Go.Proofs.Ytjekhcojebgpnaa.Bt
