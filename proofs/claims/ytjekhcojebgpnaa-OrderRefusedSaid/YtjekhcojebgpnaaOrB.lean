import Derived.Test.YtjekhcojebgpnaaBtZ
import Derived.Test.YtjekhcojebgpnaaArenaD
section
/- larderlaw26: what is held by numbers, and the list of pairs. No program's code. -/
set_option linter.unusedVariables false
set_option linter.unusedSimpArgs false
set_option linter.unusedSectionVars false
namespace Go.Proofs.Ytjekhcojebgpnaa.Ord
open Go.RowKit Go.Proofs Go.Proofs.Ytjekhcojebgpnaa.Eng Go.Proofs.Ytjekhcojebgpnaa.Mem Go.Proofs.Ytjekhcojebgpnaa.Layout Go.Proofs.Ytjekhcojebgpnaa.Arena Go.Proofs.Ytjekhcojebgpnaa.GroupB Go.Proofs.Ytjekhcojebgpnaa.Bt
def nameK (k : Nat) : ByteArray := ⟨#[UInt8.ofNat (k / 250), UInt8.ofNat (k % 250 + 3)]⟩
def elemK (n : Nat) : ByteArray := ⟨#[UInt8.ofNat n]⟩
def topK : ByteArray := ⟨#[255, 255, 255]⟩
theorem bl2 {a b c d : UInt8} : Op.bytesLess [a, b] [c, d] = true ↔ a < c ∨ (a = c ∧ b < d) := by simp [Op.bytesLess]
theorem name_list (k : Nat) : (nameK k).toList = [UInt8.ofNat (k / 250), UInt8.ofNat (k % 250 + 3)] := by rw [ByteArray.toList_eq]; rfl
theorem u8_lt {a b : Nat} (ha : a < 256) (hb : b < 256) : UInt8.ofNat a < UInt8.ofNat b ↔ a < b := by
 rw [UInt8.lt_iff_toNat_lt]
 simp only [UInt8.toNat_ofNat']
 rw [Nat.mod_eq_of_lt (by omega), Nat.mod_eq_of_lt (by omega)]
theorem u8_eq {a b : Nat} (ha : a < 256) (hb : b < 256) : UInt8.ofNat a = UInt8.ofNat b ↔ a = b := by
 constructor
 ·intro h
  have := congrArg UInt8.toNat h
  simp only [UInt8.toNat_ofNat'] at this
  rwa [Nat.mod_eq_of_lt (by omega), Nat.mod_eq_of_lt (by omega)] at this
 ·intro h; rw [h]
theorem name_lt {i j : Nat} (hi : i < 1000) (hj : j < 1000) : lt (nameK i) (nameK j) ↔ i < j := by
 unfold lt
 rw [name_list, name_list, bl2, u8_lt (by omega) (by omega), u8_eq (by omega) (by omega), u8_lt (by omega) (by omega)]
 omega
theorem name_inj {i j : Nat} (hi : i < 1000) (hj : j < 1000) (h : nameK i = nameK j) : i = j := by
 rcases Nat.lt_trichotomy i j with w | w | w
 ·exact absurd ((name_lt hi hj).2 w) (by rw [h]; exact lt_irr _)
 ·exact w
 ·exact absurd ((name_lt hj hi).2 w) (by rw [h]; exact lt_irr _)
theorem name_top {i : Nat} (hi : i < 1000) : lt (nameK i) topK := by
 unfold lt
 rw [name_list, show topK.toList = [255, 255, 255] by rw [ByteArray.toList_eq]; rfl]
 simp only [Op.bytesLess, Bool.or_eq_true, decide_eq_true_eq]
 left
 rw [UInt8.lt_iff_toNat_lt]
 simp only [UInt8.toNat_ofNat']
 rw [Nat.mod_eq_of_lt (by omega)]
 show i / 250 < 255
 omega
/-- The pairs that are held: by the key's number its elem and 1, or 0. -/
def prs (f : Nat → Nat) : List Pr := (List.range 1000).filterMap fun i => if f i = 0 then none else some (nameK i, elemK (f i - 1))
theorem mem_prs {f : Nat → Nat} {p : Pr} : p ∈ prs f ↔ ∃ i, i < 1000 ∧ f i ≠ 0 ∧ p = (nameK i, elemK (f i - 1)) := by
 unfold prs
 rw [List.mem_filterMap]
 constructor
 ·rintro ⟨i, hi, h⟩
  split at h
  ·cases h
  ·next q => exact ⟨i, List.mem_range.1 hi, q, (Option.some.inj h).symm⟩
 ·rintro ⟨i, hi, h, rfl⟩
  exact ⟨i, List.mem_range.2 hi, by rw [if_neg h]⟩
theorem sl_prs (f : Nat → Nat) : SL (prs f) := by
 unfold prs
 refine List.Pairwise.filterMap (R := fun i j => i < j ∧ i < 1000 ∧ j < 1000) _ ?_ ?_
 ·rintro i j ⟨h1, h2, h3⟩ p hp q hq
  split at hp
  ·cases hp
  ·split at hq
   ·cases hq
   ·cases hp; cases hq
    exact (name_lt h2 h3).2 h1
 ·refine List.Pairwise.imp_of_mem ?_ List.pairwise_lt_range
  intro a b ha hb h
  exact ⟨h, List.mem_range.1 ha, List.mem_range.1 hb⟩
/-- Two sorted lists with the same pairs are one. -/
theorem sl_ext : ∀ {a b : List Pr}, SL a → SL b → (∀ p, p ∈ a ↔ p ∈ b) → a = b
 | [], [], _, _, _ => rfl
 | [], q :: b, _, _, h => by have := (h q).2 (by simp); cases this
 | p :: a, [], _, _, h => by have := (h p).1 (by simp); cases this
 | p :: a, q :: b, ha, hb, h => by
  have ha' := List.pairwise_cons.1 ha
  have hb' := List.pairwise_cons.1 hb
  have e : p = q := by
   rcases List.mem_cons.1 ((h p).1 (by simp)) with w | w
   ·exact w
   ·rcases List.mem_cons.1 ((h q).2 (by simp)) with v | v
    ·exact v.symm
    ·exact absurd (ha'.1 q v) fun z => lt_asymm z (hb'.1 p w)
  subst e
  congr 1
  refine sl_ext ha'.2 hb'.2 fun r => ?_
  constructor
  ·intro hr
   rcases List.mem_cons.1 ((h r).1 (List.mem_cons_of_mem _ hr)) with w | w
   ·exact absurd (ha'.1 r hr) (by rw [w]; exact lt_irr _)
   ·exact w
  ·intro hr
   rcases List.mem_cons.1 ((h r).2 (List.mem_cons_of_mem _ hr)) with w | w
   ·exact absurd (hb'.1 r hr) (by rw [w]; exact lt_irr _)
   ·exact w
theorem mem_putL {k e : ByteArray} : ∀ {L : List Pr}, SL L → ∀ p, p ∈ putL k e L ↔ p = (k, e) ∨ (p ∈ L ∧ p.1 ≠ k)
 | [], _, p => by simp [putL]
 | q :: L, hs, p => by
  have hs' := List.pairwise_cons.1 hs
  have ih := mem_putL (k := k) (e := e) hs'.2 p
  unfold putL
  split
  ·next w =>
   rw [List.mem_cons, ih, List.mem_cons]
   constructor
   ·rintro (rfl | z | ⟨z, y⟩)
    ·exact .inr ⟨.inl rfl, lt_ne w⟩
    ·exact .inl z
    ·exact .inr ⟨.inr z, y⟩
   ·rintro (z | ⟨z | z, y⟩)
    ·exact .inr (.inl z)
    ·exact .inl z
    ·exact .inr (.inr ⟨z, y⟩)
  ·next w =>
   split
   ·next z =>
    rw [List.mem_cons, List.mem_cons]
    constructor
    ·rintro (h | h)
     ·exact .inl h
     ·exact .inr ⟨.inr h, fun e => lt_irr k (by have := hs'.1 p h; rw [z, e] at this; exact this)⟩
    ·rintro (h | ⟨h | h, y⟩)
     ·exact .inl h
     ·exact absurd (by rw [h]; exact z) y
     ·exact .inr h
   ·next z =>
    rw [List.mem_cons, List.mem_cons]
    constructor
    ·rintro (h | h | h)
     ·exact .inl h
     ·exact .inr ⟨.inl h, by rw [h]; exact z⟩
     ·refine .inr ⟨.inr h, fun e => ?_⟩
      have := hs'.1 p h
      rw [e] at this
      exact w this
    ·rintro (h | ⟨h, _⟩)
     ·exact .inl h
     ·exact .inr h
def upd (f : Nat → Nat) (k v : Nat) : Nat → Nat := fun i => if i = k then v else f i
theorem prs_put {f : Nat → Nat} {k e : Nat} (hk : k < 1000) : prs (upd f k (1 + e)) = putL (nameK k) (elemK e) (prs f) := by
 refine sl_ext (sl_prs _) (putL_sl (sl_prs _)) fun p => ?_
 rw [mem_putL (sl_prs f), mem_prs, mem_prs]
 constructor
 ·rintro ⟨i, hi, h, rfl⟩
  by_cases q : i = k
  ·subst q
   left; simp [upd]
  ·right
   have e1 : upd f k (1 + e) i = f i := by unfold upd; rw [if_neg q]
   rw [e1] at h ⊢
   exact ⟨⟨i, hi, h, rfl⟩, fun w => q (name_inj hi hk w)⟩
 ·rintro (rfl | ⟨⟨i, hi, h, rfl⟩, hne⟩)
  ·exact ⟨k, hk, by simp [upd], by simp [upd]⟩
  ·have q : i ≠ k := fun w => hne (by rw [w])
   have e1 : upd f k (1 + e) i = f i := by unfold upd; rw [if_neg q]
   exact ⟨i, hi, by rw [e1]; exact h, by rw [e1]⟩
theorem prs_filter {f g : Nat → Nat} {P : Pr → Bool} (h0 : ∀ i, i < 1000 → P (nameK i, elemK (f i - 1)) = true → g i = f i) (h1 : ∀ i, i < 1000 → P (nameK i, elemK (f i - 1)) = false → g i = 0) : prs g = (prs f).filter P := by
 refine sl_ext (sl_prs _) ((sl_prs _).sublist List.filter_sublist) fun p => ?_
 rw [List.mem_filter, mem_prs, mem_prs]
 constructor
 ·rintro ⟨i, hi, h, rfl⟩
  have hP : P (nameK i, elemK (f i - 1)) = true := by
   rcases Bool.eq_false_or_eq_true (P (nameK i, elemK (f i - 1))) with w | w
   ·exact w
   ·exact absurd (h1 i hi w) h
  have e := h0 i hi hP
  rw [e] at h ⊢
  exact ⟨⟨i, hi, h, rfl⟩, hP⟩
 ·rintro ⟨⟨i, hi, h, rfl⟩, hP⟩
  have e := h0 i hi hP
  exact ⟨i, hi, by rw [e]; exact h, by rw [e]⟩
theorem prs_del {f : Nat → Nat} {k : Nat} (hk : k < 1000) : prs (upd f k 0) = delL (nameK k) (prs f) := by
 unfold delL
 refine prs_filter (fun i hi h => ?_) fun i hi h => ?_
 ·unfold upd
  rw [if_neg fun w => by rw [w] at h; simp at h]
 ·unfold upd
  have : nameK i = nameK k := by simpa using h
  rw [if_pos (name_inj hi hk this)]
theorem prs_has {f : Nat → Nat} {k : Nat} (hk : k < 1000) : (∃ p ∈ prs f, p.1 = nameK k) ↔ f k ≠ 0 := by
 constructor
 ·rintro ⟨p, hp, e⟩
  obtain ⟨i, hi, h, rfl⟩ := mem_prs.1 hp
  rw [← name_inj hi hk e]; exact h
 ·intro h
  exact ⟨_, mem_prs.2 ⟨k, hk, h, rfl⟩, rfl⟩
/-- The keys from number k on, n of them, are gone. -/
def zf (f : Nat → Nat) (k n : Nat) : Nat → Nat := fun i => if k ≤ i ∧ i < k + n then 0 else f i
theorem zf_succ (f : Nat → Nat) (k n : Nat) : zf f k (n + 1) = upd (zf f k n) (k + n) 0 := by
 funext i
 unfold zf upd
 dsimp only
 by_cases h1 : i = k + n
 ·rw [if_pos h1, if_pos (by omega)]
 ·rw [if_neg h1]
  by_cases h2 : k ≤ i ∧ i < k + n
  ·rw [if_pos h2, if_pos (by omega)]
  ·rw [if_neg h2, if_neg (by omega)]
theorem zf_zero (f : Nat → Nat) (k : Nat) : zf f k 0 = f := by
 funext i
 unfold zf
 rw [if_neg (by omega)]
def toK (k : Nat) : ByteArray := if k < 1000 then nameK k else topK
theorem lt_toK {i k : Nat} (hi : i < 1000) : lt (nameK i) (toK k) ↔ i < k := by
 unfold toK
 split
 ·next h => exact name_lt hi h
 ·next h => exact ⟨fun _ => by omega, fun _ => name_top hi⟩
theorem prs_cut {f : Nat → Nat} {k n : Nat} (hk : k < 1000) (hn : k + n ≤ 1000) : prs (zf f k n) = cutL (nameK k) (toK (k + n)) (prs f) := by
 unfold cutL
 have hin : ∀ i, i < 1000 → ∀ e, (inB (nameK k) (toK (k + n)) (nameK i, e) = true ↔ k ≤ i ∧ i < k + n) := fun i hi e => by
  unfold inB
  rw [Bool.and_eq_true]
  have h1 : ((!Op.bytesLess (nameK i).toList (nameK k).toList) = true) ↔ k ≤ i := by
   have := name_lt hi hk
   unfold lt at this
   rw [Bool.not_eq_true', ← Bool.not_eq_true, this]; omega
  have h2 : (Op.bytesLess (nameK i).toList (toK (k + n)).toList = true) ↔ i < k + n := lt_toK hi
  exact and_congr h1 h2
 refine prs_filter (fun i hi h => ?_) fun i hi h => ?_
 ·have : ¬ (k ≤ i ∧ i < k + n) := fun w => by rw [(hin i hi _).2 w] at h; cases h
  unfold zf; rw [if_neg this]
 ·have : k ≤ i ∧ i < k + n := (hin i hi _).1 (by simpa using h)
  unfold zf; rw [if_pos this]
/-- How many keys there must be where there are so many nodes. -/
theorem offs_few : ∀ {h lo : Nat} {t : BT}, ok h lo t → 3 * ((offs h t).length - 1) + lo ≤ (lst h t).length
 | 0, lo, t, hk => by have := hk.1; simp only [offs, lst, List.length_singleton]; omega
 | h + 1, lo, t, hk => by
  obtain ⟨h1, h2, h3, h4⟩ := hk
  have hl : (lst (h + 1) t).length = t.ps.length + ((t.ks.map (lst h)).map List.length).sum := il_len (by rw [List.length_map]; exact h3)
  rw [List.map_map] at hl
  have hl' : (lst (h + 1) t).length = t.ps.length + (t.ks.map fun k => (lst h k).length).sum := hl
  have ho : (offs (h + 1) t).length = 1 + (t.ks.map fun k => (offs h k).length).sum := by
   simp only [offs, List.length_cons, List.length_flatten, List.map_map]
   rw [Nat.add_comm]; rfl
  have hsum : ∀ (ks : List BT), (∀ k ∈ ks, ok h 3 k) → 3 * (ks.map fun k => (offs h k).length).sum ≤ (ks.map fun k => (lst h k).length).sum := by
   intro ks
   induction ks with
   | nil => intro _; simp
   | cons k ks ih =>
    intro hm
    have i1 := ih fun c hc => hm c (by simp [hc])
    have i2 := offs_few (hm k (by simp))
    have i3 := (offs_len (hm k (by simp))).1
    simp only [List.map_cons, List.sum_cons]
    omega
  have := hsum t.ks h4
  omega
/-! ### The numbers of the keys that are held -/
def ids (f : Nat → Nat) : List Nat := (List.range 1000).filter fun i => decide (f i ≠ 0)
def prI (f : Nat → Nat) (i : Nat) : Pr := (nameK i, elemK (f i - 1))
theorem prs_ids (f : Nat → Nat) : prs f = (ids f).map (prI f) := by
 unfold prs ids
 induction List.range 1000 with
 | nil => rfl
 | cons a r ih =>
  by_cases h : f a = 0
  ·rw [List.filterMap_cons_none (by rw [if_pos h]), List.filter_cons_of_neg (by simp [h]), ih]
  ·rw [List.filterMap_cons_some (b := prI f a) (by rw [if_neg h]; rfl), List.filter_cons_of_pos (by simp [h]), List.map_cons, ih]
theorem ids_mem {f : Nat → Nat} {i : Nat} : i ∈ ids f ↔ i < 1000 ∧ f i ≠ 0 := by unfold ids; rw [List.mem_filter, List.mem_range, decide_eq_true_eq]
theorem ids_len (f : Nat → Nat) : (ids f).length ≤ 1000 := by unfold ids; exact Nat.le_trans (List.length_filter_le _ _) (by simp)
theorem ids_at {f : Nat → Nat} {m : Nat} {p : Pr} (h : (prs f)[m]? = some p) : ∃ i, (ids f)[m]? = some i ∧ i < 1000 ∧ f i ≠ 0 ∧ p = prI f i := by
 rw [prs_ids, List.getElem?_map] at h
 cases e : (ids f)[m]? with
 | none => rw [e] at h; cases h
 | some i =>
  rw [e] at h
  have := ids_mem.1 (List.mem_of_getElem? e)
  exact ⟨i, rfl, this.1, this.2, (Option.some.inj h).symm⟩
/-- What the list tells: key, elem, key, elem. -/
def flatN (f : Nat → Nat) (l : List Nat) : List Int := l.flatMap fun i => [((i : Nat) : Int), ((f i - 1 : Nat) : Int)]
theorem flat_app (f : Nat → Nat) (a b : List Nat) : flatN f (a ++ b) = flatN f a ++ flatN f b := List.flatMap_append
theorem flat_len (f : Nat → Nat) : ∀ l : List Nat, (flatN f l).length = 2 * l.length
 | [] => rfl
 | a :: l => by
  show (_ :: _ :: flatN f l).length = _
  simp only [List.length_cons, flat_len f l]; omega
theorem flat_at (f : Nat → Nat) : ∀ (l : List Nat) (m i : Nat), l[m]? = some i → (flatN f l)[2 * m]? = some ((i : Nat) : Int) ∧ (flatN f l)[2 * m + 1]? = some ((f i - 1 : Nat) : Int)
 | [], m, i, h => by simp at h
 | a :: l, 0, i, h => by cases h; exact ⟨rfl, rfl⟩
 | a :: l, m + 1, i, h => by
  have := flat_at f l m i (by simpa using h)
  exact this
/-- How far a range has come. -/
theorem rk_succ {L : List Pr} {j : Nat} {p : Pr} (hs : SL L) (hp : L[j]? = some p) : rk L (succK p.1) = j + 1 := by
 have hj := (List.getElem?_eq_some_iff.1 hp).1
 refine rk_eq (by omega) (fun i q hi hq => ?_) fun q hq => ?_
 ·rcases Nat.lt_or_ge i j with w | w
  ·exact lt_succ.2 (.inl (sl_lt hs w hq hp))
  ·rw [show i = j by omega, hp] at hq
   cases hq
   exact lt_succ.2 (.inr rfl)
 ·intro w
  have h1 := sl_lt hs (Nat.lt_succ_self j) hp hq
  rcases lt_succ.1 w with z | z
  ·exact lt_asymm z h1
  ·exact lt_irr _ (by rw [z] at h1; exact h1)
theorem rk_empty (L : List Pr) : rk L ⟨#[]⟩ = 0 := by
 cases L with
 | nil => rfl
 | cons p r =>
  unfold rk
  rw [if_neg]
  unfold lt
  rw [show (⟨#[]⟩ : ByteArray).toList = [] by rw [ByteArray.toList_eq]]
  cases p.1.toList <;> simp [Op.bytesLess]
end Go.Proofs.Ytjekhcojebgpnaa.Ord
end
section
/- Contracts of larderlaw26: within, name, elem. -/
set_option linter.unusedVariables false
set_option linter.unusedSimpArgs false
set_option maxRecDepth 100000
namespace Go.Proofs.Ytjekhcojebgpnaa.Ord
open Go.RowKit Go.Proofs Go.Proofs.Ytjekhcojebgpnaa.Eng Go.Proofs.Ytjekhcojebgpnaa.Ty Go.Proofs.Ytjekhcojebgpnaa.Bits Go.Proofs.Ytjekhcojebgpnaa.Mem Go.Proofs.Ytjekhcojebgpnaa.Search Go.Proofs.Ytjekhcojebgpnaa.Layout Go.Proofs.Ytjekhcojebgpnaa.Arena Go.Proofs.Ytjekhcojebgpnaa.GroupB Go.Proofs.Ytjekhcojebgpnaa.Bt
theorem within_ok (n : Int) (k : Nat) (hk : 0 < k) (hkb : k ≤ 1000000000) : FnOk Try.prog 14 #[.int .i64 n, .int .i64 ((k : Nat) : Int)] [] (fun v L => v = .int .i64 (n % ((k : Nat) : Int)) ∧ L = []) := by
 have h0 : 0 ≤ n % ((k : Nat) : Int) := Int.emod_nonneg _ (by omega)
 have h1 : n % ((k : Nat) : Int) < ((k : Nat) : Int) := Int.emod_lt_of_pos _ (by omega)
 have h2 : n.tmod ((k : Nat) : Int) = n % ((k : Nat) : Int) ∨ n.tmod ((k : Nat) : Int) = n % ((k : Nat) : Int) - ((k : Nat) : Int) := by
  rw [Int.tmod_eq_emod]
  split
  ·left; omega
  ·right; simp
 refine fn_intro en14 Try.func14 rfl rfl rfl fun Fr w0 => t_nm ?_
 refine sr<|asg O O<|lz<|mv O O<|mv O O<|l_q O (qrem O O) ?_
 refine asg O O<|lc<|t_seq<|sr<|mv O O<|l_q O (qi O O (b_lss ·))<|lc<|t_if O (fun z => ?_) fun z => ?_
 ·refine t_region<|mv O O<|mv O O<|l_q O (qadd O O) ?_
  refine asg O O<|lz<|mv O O<|asg O O<|lc<|rt<|fr1 O ([]) (.tmp rfl) ?_
  exact ⟨by congr 1; omega, rfl⟩
 ·refine t_skip<|nz<|mv O O<|asg O O<|lc<|rt<|fr1 O ([]) (.tmp rfl) ?_
  exact ⟨by congr 1; omega, rfl⟩
theorem name_bytes {k : Nat} (hk : k < 1000) : bytesV (nameK k) = [.int .u8 (((k : Nat) : Int) / 250), .int .u8 (((k : Nat) : Int) % 250 + 3)] := by
 have h1 : (UInt8.ofNat (k / 250)).toNat = k / 250 := by simp only [UInt8.toNat_ofNat']; omega
 have h2 : (UInt8.ofNat (k % 250 + 3)).toNat = k % 250 + 3 := by simp only [UInt8.toNat_ofNat']; omega
 show [Value.int .u8 (((UInt8.ofNat (k / 250)).toNat : Nat) : Int), Value.int .u8 (((UInt8.ofNat (k % 250 + 3)).toNat : Nat) : Int)] = _
 rw [h1, h2]
 simp
theorem elem_bytes (n : Int) : bytesV (elemK (n % 256).toNat) = [.int .u8 (IntKind.u8.wrap n)] := by
 have h0 := Int.emod_nonneg n (show (256 : Int) ≠ 0 by decide)
 have h9 := Int.emod_lt_of_pos n (show (0 : Int) < 256 by decide)
 have h1 : (UInt8.ofNat (n % 256).toNat).toNat = (n % 256).toNat := by simp only [UInt8.toNat_ofNat']; omega
 show [Value.int .u8 (((UInt8.ofNat (n % 256).toNat).toNat : Nat) : Int)] = _
 rw [h1, show IntKind.u8.wrap n = n % 256 from IntKind.wrap_u8 n]
 simp; omega
theorem name_ok (k : Nat) (hk : k < 1000) : FnOk Try.prog 7 #[.int .i64 ((k : Nat) : Int)] [] (fun v L => v = .string (nameK k) ∧ L = []) := by
 refine fn_intro en7 Try.func7 rfl rfl rfl fun Fr w0 => t_nm ?_
 refine sr<|asg O O<|lz<|mv O O<|l_q O (qquo O O) ?_
 refine l_q O (qcv O yU3 yU5) ?_
 refine mv O O<|l_q O (qrem O O) ?_
 refine l_q O (qadd O O) ?_
 refine l_q O (qcv O yU3 yU5) ?_
 refine o_buildSlice1 [_, _] rfl rfl yU63 yS5 yZ5 rfl rfl rfl rfl (fun b10 => ?_)
 apply l_q O
 ·apply q_bytesStr (nameK k) rfl Try.underlying63 Try.underlying5 Try.underlying9
  ·rfl
  ·rw [name_bytes hk]; exact reads_pt (o := 0) (k := 2) .here
 exact asg O O<|lc<|rt<|fr1 O ([]) (.tmp rfl) ⟨rfl, rfl⟩
theorem elem_ok (n : Int) : FnOk Try.prog 28 #[.int .i64 n] [] (fun v L => v = .string (elemK (n % 256).toNat) ∧ L = []) := by
 refine fn_intro en28 Try.func28 rfl rfl rfl fun Fr w0 => t_nm ?_
 refine sr<|asg O O<|lz<|mv O O<|l_q O (qcv O yU3 yU5) ?_
 refine o_buildSlice1 [_] rfl rfl yU63 yS5 yZ5 rfl rfl rfl rfl (fun b5 => ?_)
 apply l_q O
 ·apply q_bytesStr (elemK (n % 256).toNat) rfl Try.underlying63 Try.underlying5 Try.underlying9
  ·rfl
  ·rw [elem_bytes]; exact reads_pt (o := 0) (k := 1) .here
 exact asg O O<|lc<|rt<|fr1 O ([]) (.tmp rfl) ⟨rfl, rfl⟩
end Go.Proofs.Ytjekhcojebgpnaa.Ord
end
