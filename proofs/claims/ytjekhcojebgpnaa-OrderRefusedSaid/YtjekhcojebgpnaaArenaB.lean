import Derived.Test.YtjekhcojebgpnaaMemW
import Derived.Test.YtjekhcojebgpnaaSearch
import Derived.Test.YtjekhcojebgpnaaInsert
/- An arena's blocks, live ones and free ones. No program's code. -/
set_option linter.unusedVariables false
set_option linter.unusedSimpArgs false
set_option linter.unusedSectionVars false
set_option maxRecDepth 100000
namespace Go.Proofs.Ytjekhcojebgpnaa.Arena
open Go.RowKit Go.Proofs Go.Proofs.Ytjekhcojebgpnaa.Eng Go.Proofs.Ytjekhcojebgpnaa.Bits Go.Proofs.Ytjekhcojebgpnaa.Mem Go.Proofs.Ytjekhcojebgpnaa.Search

/-- The power of two from 16 on that n bytes fit into. -/
def twoI (n : Int) : Int := match (List.range 17).find? (fun e => decide (n ≤ 16 * 2 ^ e)) with | some e => 16 * 2 ^ e | none => 0
theorem two_hit {n : Int} {e : Nat} (h : n ≤ 16 * 2 ^ e) (he : e ≤ 16) (hno : ∀ j, j < e → 16 * (2 : Int) ^ j < n) : twoI n = 16 * 2 ^ e := by
 unfold twoI
 have : (List.range 17).find? (fun e => decide (n ≤ 16 * 2 ^ e)) = some e := by
  rw [List.find?_range_eq_some]
  exact ⟨by simpa using h, by simp; omega, fun j hj => by have := hno j hj; simp; omega⟩
 rw [this]
/-- The bytes of a block for n bytes. -/
def classI (n : Int) : Int := if n < 1 ∨ 1048576 < n then 0 else if 24 < twoI n / 4 * 3 ∧ n ≤ twoI n / 4 * 3 then twoI n / 4 * 3 else twoI n
theorem two_at {n : Int} (h : n ≤ 1048576) : ∃ e, e ≤ 16 ∧ twoI n = 16 * 2 ^ e ∧ n ≤ 16 * 2 ^ e := by
 unfold twoI
 cases e : (List.range 17).find? (fun e => decide (n ≤ 16 * 2 ^ e)) with
 | none =>
  rw [List.find?_range_eq_none] at e
  have := e 16 (by decide)
  simp at this; omega
 | some k =>
  rw [List.find?_range_eq_some] at e
  obtain ⟨h1, h2, _⟩ := e
  simp at h1 h2
  exact ⟨k, by omega, rfl, h1⟩
/-- All the classes there are. -/
def classes : List Int := (List.range 17).map (fun e => 16 * 2 ^ e) ++ (List.range 15).map fun e => 48 * 2 ^ e
theorem class_mem {n : Int} (h0 : 1 ≤ n) (h1 : n ≤ 1048576) : classI n ∈ classes := by
 obtain ⟨e, he, e2, _⟩ := two_at h1
 unfold classI classes
 rw [if_neg (by omega), e2]
 split
 ·next h =>
  refine List.mem_append_right _ (List.mem_map.2 ⟨e - 2, List.mem_range.2 (by omega), ?_⟩)
  have h2 : 2 ≤ e := by
   rcases Nat.lt_or_ge e 2 with q | q
   ·have : e = 0 ∨ e = 1 := by omega
    rcases this with rfl | rfl <;> exact absurd h.1 (by decide)
   ·exact q
  have : (2 : Int) ^ e = 2 ^ (e - 2) * 4 := by
   rw [show e = (e - 2) + 2 by omega, Int.pow_add]
   simp
  omega
 ·exact List.mem_append_left _ (List.mem_map.2 ⟨e, List.mem_range.2 (by omega), rfl⟩)
theorem twoI_bnd {n : Int} (h : n ≤ 1048576) : n ≤ twoI n ∧ 16 ≤ twoI n ∧ twoI n ≤ 1048576 := by
 obtain ⟨k, h2, e, h1⟩ := two_at h
 rw [e]
 have p0 := Nat.two_pow_pos k
 have pc := pow_cast k
 have p1 : 2 ^ k ≤ 2 ^ 16 := Nat.pow_le_pow_right (by decide) (by omega)
 omega
theorem classI_bnd {n : Int} (h0 : 1 ≤ n) : 0 ≤ classI n ∧ classI n ≤ 1048576 ∧ (n ≤ 1048576 → n ≤ classI n ∧ 1 ≤ classI n) := by
 unfold classI
 split
 ·omega
 ·next h =>
  have := twoI_bnd (n := n) (by omega)
  split <;> omega
theorem classes_pos : ∀ c ∈ classes, 16 ≤ c ∧ c ≤ 1048576 := by
 have : (classes.all fun c => decide (16 ≤ c ∧ c ≤ 1048576)) = true := by kernel_rfl
 exact fun c hc => of_decide_eq_true (List.all_eq_true.1 this c hc)

/-- An arena: its limit, its memory, all blocks that ever were (offset, bytes) one behind the other, which of them are free. -/
structure ArS where
 limit : Int
 m : Nat → Int
 all : List (Int × Int)
 dead : Int → Bool
namespace ArS
def sum : List (Int × Int) → Int
 | [] => 0
 | p :: r => p.2 + sum r
/-- The blocks lie one behind the other from o on. -/
def chain : Int → List (Int × Int) → Prop
 | _, [] => True
 | o, p :: r => p.1 = o ∧ 1 ≤ p.2 ∧ chain (o + p.2) r
/-- The live ones. -/
def bl (s : ArS) : List (Int × Int) := s.all.filter fun p => !s.dead p.1
def live (s : ArS) : Int := sum s.bl
def stop (s : ArS) : Nat := (16 + sum s.all).toNat
/-- The bytes of the blocks of a class. -/
def cls (c : Int) (l : List (Int × Int)) : Int := sum (l.filter fun p => decide (p.2 = c))
/-- The free ones of a class, rising. -/
def frL (s : ArS) (c : Int) : List Int := (s.all.filter fun p => s.dead p.1 && decide (p.2 = c)).map (·.1)
structure ok (s : ArS) : Prop where
 limit : 0 ≤ s.limit ∧ s.limit ≤ 2097152
 room : s.live ≤ s.limit
 chain : chain 16 s.all
 bytes : ∀ i, 0 ≤ s.m i ∧ s.m i < 256
 cls : ∀ c, ArS.cls c s.all ≤ s.limit
 isC : ∀ p ∈ s.all, p.2 ∈ classes
 deadIn : ∀ o, s.dead o = true → ∃ p ∈ s.all, p.1 = o
theorem sum_nonneg : ∀ {o : Int} {bl : List (Int × Int)}, ArS.chain o bl → 0 ≤ sum bl ∧ (bl.length : Int) ≤ sum bl
 | _, [], _ => by simp [sum]
 | o, p :: r, h => by have := sum_nonneg h.2.2; have := h.2.1; simp only [sum, List.length_cons]; omega
theorem sum_app (bl : List (Int × Int)) (p : Int × Int) : sum (bl ++ [p]) = sum bl + p.2 := by
 induction bl with
 | nil => simp [sum]
 | cons q r ih => simp only [List.cons_append, sum, ih]; omega
theorem sum_filter {f : Int × Int → Bool} : ∀ {l : List (Int × Int)}, (∀ p ∈ l, 0 ≤ p.2) → 0 ≤ sum (l.filter f) ∧ sum (l.filter f) ≤ sum l
 | [], _ => by simp [sum]
 | p :: r, h => by
  have ih := sum_filter (f := f) (l := r) fun q hq => h q (List.mem_cons_of_mem _ hq)
  have h0 := h p List.mem_cons_self
  rw [List.filter_cons]
  split
  ·simp only [sum]; omega
  ·simp only [sum]; omega
theorem sumL_app (f g : Int → Int) : ∀ l : List Int, (l.map fun c => f c + g c).sum = (l.map f).sum + (l.map g).sum
 | [] => rfl
 | x :: r => by simp only [List.map_cons, List.sum_cons, sumL_app f g r]; omega
theorem sumL_ite {x : Int} (hx : 0 ≤ x) : ∀ {l : List Int}, 0 ≤ (l.map fun c => if x = c then x else 0).sum ∧ (x ∈ l → x ≤ (l.map fun c => if x = c then x else 0).sum)
 | [] => ⟨by simp, fun h => by cases h⟩
 | y :: r => by
  obtain ⟨h1, h2⟩ := sumL_ite hx (l := r)
  simp only [List.map_cons, List.sum_cons]
  refine ⟨by split <;> omega, fun h => ?_⟩
  rcases List.mem_cons.1 h with q | q
  ·rw [if_pos q]; omega
  ·have := h2 q; split <;> omega
theorem cls_cons (c : Int) (p : Int × Int) (r : List (Int × Int)) : cls c (p :: r) = (if p.2 = c then p.2 else 0) + cls c r := by
 unfold cls
 rw [List.filter_cons]
 by_cases q : p.2 = c
 ·rw [if_pos (by simpa using q), if_pos q]; rfl
 ·rw [if_neg (by simpa using q), if_neg q]; omega
theorem sumL_zero : ∀ l : List Int, (l.map fun _ => (0 : Int)).sum = 0
 | [] => rfl
 | _ :: r => by simp only [List.map_cons, List.sum_cons, sumL_zero r]; rfl
theorem sum_cls {Cs : List Int} : ∀ {l : List (Int × Int)}, (∀ p ∈ l, p.2 ∈ Cs ∧ 0 ≤ p.2) → sum l ≤ (Cs.map fun c => cls c l).sum
 | [], _ => by
  have : (Cs.map fun c => cls c []) = Cs.map fun _ => (0 : Int) := rfl
  rw [this, sumL_zero]; exact Int.le_refl _
 | p :: r, h => by
  have ih := sum_cls (l := r) fun q hq => h q (List.mem_cons_of_mem _ hq)
  obtain ⟨h1, h0⟩ := h p List.mem_cons_self
  have e : (Cs.map fun c => cls c (p :: r)) = Cs.map fun c => (if p.2 = c then p.2 else 0) + cls c r := List.map_congr_left fun c _ => cls_cons c p r
  have := (sumL_ite h0 (l := Cs)).2 h1
  rw [e, sumL_app]
  simp only [sum]
  omega
theorem sumL_le {b : Int} {f : Int → Int} : ∀ {l : List Int}, (∀ c ∈ l, f c ≤ b) → (l.map f).sum ≤ b * (l.length : Int)
 | [], _ => by simp
 | x :: r, h => by
  have ih := sumL_le (l := r) fun c hc => h c (List.mem_cons_of_mem _ hc)
  have := h x List.mem_cons_self
  simp only [List.map_cons, List.sum_cons, List.length_cons, Int.natCast_add, Int.mul_add]
  omega
theorem chain_pos : ∀ {o : Int} {l : List (Int × Int)}, ArS.chain o l → ∀ p ∈ l, o ≤ p.1 ∧ 1 ≤ p.2
 | _, [], _, _, h => by cases h
 | o, q :: r, hc, p, h => by
  obtain ⟨h1, h2, h3⟩ := hc
  rcases List.mem_cons.1 h with rfl | h
  ·exact ⟨by omega, h2⟩
  ·have := chain_pos h3 p h; omega
theorem ok.stop_eq {s : ArS} (h : s.ok) : (s.stop : Int) = 16 + sum s.all ∧ 0 ≤ s.live ∧ s.live ≤ sum s.all ∧ s.stop ≤ 67108880 := by
 have h1 := sum_nonneg h.chain
 have h2 := h.room
 have h3 := h.limit
 have hp : ∀ p ∈ s.all, 0 ≤ p.2 := fun p hp => by have := (chain_pos h.chain p hp).2; omega
 have h4 := sum_filter (f := fun p => !s.dead p.1) hp
 have h5 := sum_cls (Cs := classes) (l := s.all) fun p hp' => ⟨h.isC p hp', hp p hp'⟩
 have h6 := sumL_le (l := classes) (f := fun c => ArS.cls c s.all) (b := s.limit) fun c _ => h.cls c
 have h7 : (classes.length : Int) = 32 := by kernel_rfl
 rw [h7] at h6
 have e : s.live = sum (s.all.filter fun p => !s.dead p.1) := rfl
 unfold stop
 omega
end ArS
/-- May one read or write there? -/
def goodP (s : ArS) (off n : Int) : Prop := 0 ≤ n ∧ ∃ p ∈ s.bl, p.1 ≤ off ∧ off + n ≤ p.1 + p.2

theorem chain_end : ∀ {o : Int} {bl : List (Int × Int)}, ArS.chain o bl → ∀ {p : Int × Int}, p ∈ bl → p.1 + p.2 ≤ o + ArS.sum bl
 | _, [], _, _, h => by cases h
 | o, q :: r, hc, p, h => by
  obtain ⟨h1, h2, h3⟩ := hc
  have := (ArS.sum_nonneg h3).1
  rcases List.mem_cons.1 h with rfl | h
  ·simp only [ArS.sum]; omega
  ·have := chain_end h3 h
   simp only [ArS.sum]; omega
theorem chain_gap : ∀ {o : Int} {bl : List (Int × Int)}, ArS.chain o bl → ∀ i j (hi : i < bl.length) (hj : j < bl.length), i < j → bl[i].1 + bl[i].2 ≤ bl[j].1
 | _, [], _, i, _, hi, _, _ => by simp at hi
 | o, q :: r, hc, i, j, hi, hj, hij => by
  obtain ⟨h1, h2, h3⟩ := hc
  cases j with
  | zero => omega
  | succ j =>
   have hj' : j < r.length := by simpa using hj
   cases i with
   | zero =>
    simp only [List.getElem_cons_zero, List.getElem_cons_succ]
    have := (ArS.chain_pos h3 _ (List.getElem_mem hj')).1
    omega
   | succ i =>
    simp only [List.getElem_cons_succ]
    exact chain_gap h3 i j (by simpa using hi) hj' (by omega)
/-- Two of the blocks: the same one, or apart. -/
theorem chain_apart {o : Int} {l : List (Int × Int)} (h : ArS.chain o l) {p q : Int × Int} (hp : p ∈ l) (hq : q ∈ l) : p = q ∨ p.1 + p.2 ≤ q.1 ∨ q.1 + q.2 ≤ p.1 := by
 obtain ⟨i, hi, rfl⟩ := List.getElem_of_mem hp
 obtain ⟨j, hj, rfl⟩ := List.getElem_of_mem hq
 rcases Nat.lt_trichotomy i j with e | e | e
 ·exact .inr (.inl (chain_gap h i j hi hj e))
 ·subst e; exact .inl rfl
 ·exact .inr (.inr (chain_gap h j i hj hi e))
theorem chain_one {o : Int} {l : List (Int × Int)} (h : ArS.chain o l) {p q : Int × Int} (hp : p ∈ l) (hq : q ∈ l) (he : p.1 = q.1) : p = q := by
 have := (ArS.chain_pos h p hp).2
 have := (ArS.chain_pos h q hq).2
 rcases chain_apart h hp hq with e | e | e
 ·exact e
 ·omega
 ·omega
theorem chain_rise {o : Int} {l : List (Int × Int)} (h : ArS.chain o l) : ∀ i j (hi : i < (l.map (·.1)).length) (hj : j < (l.map (·.1)).length), i < j → (l.map (·.1))[i] < (l.map (·.1))[j] := fun i j hi hj hij => by
 simp only [List.length_map] at hi hj
 have := chain_gap h i j hi hj hij
 have := (ArS.chain_pos h _ (List.getElem_mem hi)).2
 simp only [List.getElem_map]
 omega
theorem chain_pair : ∀ {o : Int} {l : List (Int × Int)}, ArS.chain o l → (l.map (·.1)).Pairwise (· < ·)
 | _, [], _ => List.Pairwise.nil
 | o, p :: r, h => by
  obtain ⟨h1, h2, h3⟩ := h
  refine List.Pairwise.cons (fun x hx => ?_) (chain_pair h3)
  obtain ⟨q, hq, rfl⟩ := List.mem_map.1 hx
  have := (ArS.chain_pos h3 q hq).1
  show p.1 < q.1
  omega
theorem chain_app : ∀ {o : Int} {bl : List (Int × Int)} {c : Int}, ArS.chain o bl → 1 ≤ c → ArS.chain o (bl ++ [(o + ArS.sum bl, c)])
 | o, [], c, _, hc => by simp [ArS.chain, ArS.sum]; omega
 | o, p :: r, c, h, hc => by
  obtain ⟨h1, h2, h3⟩ := h
  refine ⟨h1, h2, ?_⟩
  have := chain_app h3 hc
  rw [show o + ArS.sum (p :: r) = o + p.2 + ArS.sum r by simp only [ArS.sum]; omega]
  exact this
theorem chain_head {o : Int} {bl : List (Int × Int)} (h : ArS.chain o bl) (hp : 0 < bl.length) : bl[0].1 = o := by
 cases bl with
 | nil => simp at hp
 | cons q r => simpa using h.1
theorem mem_bl {s : ArS} {p : Int × Int} : p ∈ s.bl ↔ p ∈ s.all ∧ s.dead p.1 = false := by simp [ArS.bl]
theorem mem_fr {s : ArS} {c x : Int} : x ∈ s.frL c ↔ (x, c) ∈ s.all ∧ s.dead x = true := by
 unfold ArS.frL
 constructor
 ·intro h
  obtain ⟨⟨a, b⟩, hp, rfl⟩ := List.mem_map.1 h
  simp at hp
  obtain ⟨h1, h2, rfl⟩ := hp
  exact ⟨h1, h2⟩
 ·rintro ⟨h1, h2⟩
  exact List.mem_map.2 ⟨(x, c), by simp [h1, h2], rfl⟩
theorem fr_rise {s : ArS} (h : s.ok) (c : Int) : (s.frL c).Pairwise (· < ·) := by
 unfold ArS.frL
 exact List.Pairwise.sublist (List.Sublist.map _ List.filter_sublist) (chain_pair h.chain)
/-- Two rising lists of the same numbers. -/
theorem rise_ext : ∀ {l l' : List Int}, l.Pairwise (· < ·) → l'.Pairwise (· < ·) → (∀ x, x ∈ l ↔ x ∈ l') → l = l'
 | [], [], _, _, _ => rfl
 | [], y :: r, _, _, h => by have := (h y).2 List.mem_cons_self; cases this
 | x :: r, [], _, _, h => by have := (h x).1 List.mem_cons_self; cases this
 | x :: r, y :: r', h1, h2, h => by
  rw [List.pairwise_cons] at h1 h2
  have e : x = y := by
   rcases List.mem_cons.1 ((h x).1 List.mem_cons_self) with q | q
   ·exact q
   ·rcases List.mem_cons.1 ((h y).2 List.mem_cons_self) with q2 | q2
    ·exact q2.symm
    ·have := h1.1 y q2; have := h2.1 x q; omega
  subst e
  rw [rise_ext h1.2 h2.2 fun z => ?_]
  constructor
  ·intro hz
   rcases List.mem_cons.1 ((h z).1 (List.mem_cons_of_mem _ hz)) with q | q
   ·have := h1.1 z hz; omega
   ·exact q
  ·intro hz
   rcases List.mem_cons.1 ((h z).2 (List.mem_cons_of_mem _ hz)) with q | q
   ·have := h2.1 z hz; omega
   ·exact q

/-! ### A block taken -/
/-- Where the next block of that class will lie. -/
def ArS.at (s : ArS) (c : Int) : Nat := match s.frL c with | [] => s.stop | o :: _ => o.toNat
/-- One more block, of c bytes, all zero. -/
def ArS.take (s : ArS) (c : Int) : ArS := match s.frL c with
 | [] => { s with m := growM s.m s.stop, all := s.all ++ [(((s.stop : Nat) : Int), c)] }
 | o :: _ => { s with m := layM s.m o.toNat c.toNat fun _ => 0, dead := fun x => s.dead x && !decide (x = o) }
theorem growM_bytes {m : Nat → Int} (h : ∀ i, 0 ≤ m i ∧ m i < 256) (n : Nat) : ∀ i, 0 ≤ growM m n i ∧ growM m n i < 256 := fun i => by unfold growM; split; exact h i; omega
theorem lay_bytes {m f : Nat → Int} {o k : Nat} (hm : ∀ i, 0 ≤ m i ∧ m i < 256) (hf : ∀ i, 0 ≤ f i ∧ f i < 256) : ∀ i, 0 ≤ layM m o k f i ∧ layM m o k f i < 256 := fun i => by
 unfold layM; split
 ·exact hf _
 ·exact hm _
/-- What is live behind one block's turn. -/
theorem sum_flip {o : Int} {l : List (Int × Int)} (h : ArS.chain o l) {f g : Int → Bool} {x c : Int} (hx : (x, c) ∈ l) (hf : f x = false) (hg : g x = true) (he : ∀ y, y ≠ x → g y = f y) :
  ArS.sum (l.filter fun p => g p.1) = ArS.sum (l.filter fun p => f p.1) + c := by
 induction l generalizing o with
 | nil => cases hx
 | cons p r ih =>
  obtain ⟨h1, h2, h3⟩ := h
  rw [List.filter_cons, List.filter_cons]
  rcases List.mem_cons.1 hx with q | q
  ·subst q
   have e : (r.filter fun p => g p.1) = r.filter fun p => f p.1 := List.filter_congr fun p hp => he _ (by have := (ArS.chain_pos h3 p hp).1; dsimp only at *; omega)
   rw [if_pos hg, if_neg (by rw [hf]; decide), e]
   simp only [ArS.sum]; omega
  ·have hne : p.1 ≠ x := by have := (ArS.chain_pos h3 _ q).1; dsimp only at this; omega
   rw [he _ hne]
   have := ih h3 q
   split
   ·simp only [ArS.sum]; omega
   ·exact this
section
variable {s : ArS} (hs : s.ok) {c : Int}
include hs
theorem dead_stop : s.dead (s.stop : Nat) = false := by
 cases q : s.dead (s.stop : Nat) with
 | false => rfl
 | true =>
  obtain ⟨p, hp, e⟩ := hs.deadIn _ q
  have := chain_end hs.chain hp
  have := (ArS.chain_pos hs.chain p hp).2
  have := hs.stop_eq
  omega
theorem take_nil (h : s.frL c = []) : (s.take c) = { s with m := growM s.m s.stop, all := s.all ++ [(((s.stop : Nat) : Int), c)] } ∧ s.at c = s.stop := by
 unfold ArS.take ArS.at
 rw [h]
 exact ⟨rfl, rfl⟩
theorem take_cons {o : Int} {r : List Int} (h : s.frL c = o :: r) : (s.take c) = { s with m := layM s.m o.toNat c.toNat fun _ => 0, dead := fun x => s.dead x && !decide (x = o) } ∧ s.at c = o.toNat ∧ (o, c) ∈ s.all ∧ s.dead o = true ∧ 16 ≤ o := by
 have hm : o ∈ s.frL c := by rw [h]; exact List.mem_cons_self
 obtain ⟨h1, h2⟩ := mem_fr.1 hm
 refine ⟨?_, ?_, h1, h2, (ArS.chain_pos hs.chain _ h1).1⟩
 ·unfold ArS.take; rw [h]
 ·unfold ArS.at; rw [h]
theorem take_limit : (s.take c).limit = s.limit := by unfold ArS.take; split <;> rfl
theorem take_bl {p : Int × Int} : p ∈ (s.take c).bl ↔ p ∈ s.bl ∨ p = (((s.at c : Nat) : Int), c) := by
 rw [mem_bl, mem_bl]
 cases h : s.frL c with
 | nil =>
  obtain ⟨e, ea⟩ := take_nil hs h
  rw [e, ea]
  dsimp only
  rw [List.mem_append, List.mem_singleton]
  constructor
  ·rintro ⟨h1 | h1, h2⟩
   ·exact .inl ⟨h1, h2⟩
   ·exact .inr h1
  ·rintro (⟨h1, h2⟩ | h1)
   ·exact ⟨.inl h1, h2⟩
   ·exact ⟨.inr h1, by rw [h1]; exact dead_stop hs⟩
 | cons o r =>
  obtain ⟨e, ea, h1, h2, h3⟩ := take_cons hs h
  rw [e, ea, Int.toNat_of_nonneg (by omega)]
  dsimp only
  by_cases q : p.1 = o
  ·constructor
   ·rintro ⟨a, _⟩; exact .inr (chain_one hs.chain a h1 q)
   ·rintro (⟨a, b⟩ | a)
    ·rw [q, h2] at b; cases b
    ·rw [a]; exact ⟨h1, by simp⟩
  ·constructor
   ·rintro ⟨a, b⟩; exact .inl ⟨a, by simpa [q] using b⟩
   ·rintro (⟨a, b⟩ | a)
    ·exact ⟨a, by simp [b]⟩
    ·rw [a] at q; exact absurd rfl q
theorem ArS.take_live : (s.take c).live = s.live + c := by
 cases h : s.frL c with
 | nil =>
  obtain ⟨e, _⟩ := take_nil hs h
  rw [e]
  unfold ArS.live ArS.bl
  dsimp only
  rw [List.filter_append, List.filter_cons, if_pos (by rw [dead_stop hs]; rfl)]
  exact ArS.sum_app _ _
 | cons o r =>
  obtain ⟨e, _, h1, h2, _⟩ := take_cons hs h
  rw [e]
  unfold ArS.live ArS.bl
  exact sum_flip hs.chain (f := fun x => !s.dead x) (g := fun x => !(s.dead x && !decide (x = o))) h1 (by rw [h2]; rfl) (by simp) fun y hy => by simp [hy]
/-- Where no block of the class is free, the live ones are all there are. -/
theorem cls_live (h : s.frL c = []) : ArS.cls c s.all ≤ s.live := by
 have hp : ∀ p ∈ s.bl, 0 ≤ p.2 := fun p hp => by have := (ArS.chain_pos hs.chain p (mem_bl.1 hp).1).2; omega
 have := (ArS.sum_filter (f := fun p => decide (p.2 = c)) hp).2
 have e : s.all.filter (fun p => decide (p.2 = c)) = s.bl.filter fun p => decide (p.2 = c) := by
  unfold ArS.bl
  rw [List.filter_filter]
  refine List.filter_congr fun p hp => ?_
  by_cases q : p.2 = c
  ·have : s.dead p.1 = false := by
    cases hd : s.dead p.1 with
    | false => rfl
    | true =>
     have : p.1 ∈ s.frL c := mem_fr.2 ⟨by rw [← q]; exact hp, hd⟩
     rw [h] at this; cases this
   simp [this]
  ·simp [q]
 unfold ArS.cls
 rw [e]; exact this
theorem ArS.take_ok (hc : c ∈ classes) (hl : s.live + c ≤ s.limit) : (s.take c).ok := by
 have hcp := classes_pos c hc
 have hst := hs.stop_eq
 have hli : (s.take c).limit = s.limit := take_limit hs
 have hlv := ArS.take_live hs (c := c)
 cases h : s.frL c with
 | nil =>
  obtain ⟨e, _⟩ := take_nil hs h
  have hcl := cls_live hs h
  refine ⟨by rw [hli]; exact hs.limit, by rw [hli, hlv]; exact hl, ?_, ?_, fun d => ?_, fun p hp => ?_, fun o ho => ?_⟩
  ·rw [e]; dsimp only; rw [hst.1]; exact chain_app hs.chain (by omega)
  ·rw [e]; exact growM_bytes hs.bytes _
  ·rw [hli, e]
   unfold ArS.cls
   dsimp only
   rw [List.filter_append, List.filter_cons]
   have h1 := hs.cls d
   unfold ArS.cls at h1 hcl
   by_cases q : c = d
   ·subst q
    rw [if_pos (by simp)]
    rw [show ((s.all.filter fun p => decide (p.2 = c)) ++ ((((s.stop : Nat) : Int), c) :: List.filter (fun p => decide (p.2 = c)) [])) = (s.all.filter fun p => decide (p.2 = c)) ++ [(((s.stop : Nat) : Int), c)] from rfl, ArS.sum_app]
    omega
   ·rw [if_neg (by simpa using q)]
    simpa using h1
  ·rw [e] at hp
   rcases List.mem_append.1 hp with q | q
   ·exact hs.isC p q
   ·rw [List.mem_singleton.1 q]; exact hc
  ·rw [e] at ho ⊢
   obtain ⟨p, hp, q⟩ := hs.deadIn o ho
   exact ⟨p, List.mem_append_left _ hp, q⟩
 | cons o r =>
  obtain ⟨e, _⟩ := take_cons hs h
  refine ⟨by rw [hli]; exact hs.limit, by rw [hli, hlv]; exact hl, by rw [e]; exact hs.chain, by rw [e]; exact lay_bytes hs.bytes fun _ => ⟨Int.le_refl _, by decide⟩, fun d => by rw [hli, e]; exact hs.cls d, fun p hp => by rw [e] at hp; exact hs.isC p hp, fun x hx => ?_⟩
  rw [e] at hx ⊢
  dsimp only at hx
  rw [Bool.and_eq_true] at hx
  exact hs.deadIn x hx.1
/-- The new block is apart from the live ones. -/
theorem take_apart {p : Int × Int} (hp : p ∈ s.bl) (hc : 1 ≤ c) : p.1 + p.2 ≤ ((s.at c : Nat) : Int) ∨ ((s.at c : Nat) : Int) + c ≤ p.1 := by
 obtain ⟨hp1, hp2⟩ := mem_bl.1 hp
 have hst := hs.stop_eq
 cases h : s.frL c with
 | nil =>
  rw [(take_nil hs h).2]
  have := chain_end hs.chain hp1
  omega
 | cons o r =>
  obtain ⟨_, ea, h1, h2, h3⟩ := take_cons hs h
  rw [ea, Int.toNat_of_nonneg (by omega)]
  rcases chain_apart hs.chain hp1 h1 with q | q | q
  ·rw [q, h2] at hp2; cases hp2
  ·exact .inl q
  ·exact .inr q
theorem at_bnd (hc : c ∈ classes) (hl : s.live + c ≤ s.limit) : 16 ≤ s.at c ∧ ((s.at c : Nat) : Int) + c ≤ 67108880 := by
 have hok := ArS.take_ok hs hc hl
 have hst := hok.stop_eq
 have hm : (((s.at c : Nat) : Int), c) ∈ (s.take c).bl := (take_bl hs).2 (.inr rfl)
 have := ArS.chain_pos hok.chain _ (mem_bl.1 hm).1
 have := chain_end hok.chain (mem_bl.1 hm).1
 dsimp only at *
 omega
/-- Its bytes are zero. -/
theorem take_zero (hc : 0 ≤ c) {a : Nat} (h1 : s.at c ≤ a) (h2 : (a : Int) < ((s.at c : Nat) : Int) + c) : (s.take c).m a = 0 := by
 cases h : s.frL c with
 | nil =>
  obtain ⟨e, ea⟩ := take_nil hs h
  rw [ea] at h1
  rw [e]
  show growM s.m s.stop a = 0
  unfold growM; rw [if_neg (by omega)]
 | cons o r =>
  obtain ⟨e, ea, _⟩ := take_cons hs h
  rw [ea] at h1 h2
  rw [e]
  show layM s.m o.toNat c.toNat (fun _ => 0) a = 0
  unfold layM; rw [if_pos (by omega)]
/-- The live ones' bytes stay. -/
theorem take_keep (hc : 1 ≤ c) {p : Int × Int} (hp : p ∈ s.bl) {a : Nat} (h1 : p.1 ≤ a) (h2 : (a : Int) < p.1 + p.2) : (s.take c).m a = s.m a := by
 have hap := take_apart hs hp hc
 have hst := hs.stop_eq
 cases h : s.frL c with
 | nil =>
  obtain ⟨e, ea⟩ := take_nil hs h
  have := chain_end hs.chain (mem_bl.1 hp).1
  rw [e]
  show growM s.m s.stop a = _
  unfold growM; rw [if_pos (by omega)]
 | cons o r =>
  obtain ⟨e, ea, _⟩ := take_cons hs h
  rw [ea] at hap
  rw [e]
  show layM s.m o.toNat c.toNat (fun _ => 0) a = _
  unfold layM; rw [if_neg (by omega)]
/-- The free lists behind it. -/
theorem take_fr (hc : c ∈ classes) (hl : s.live + c ≤ s.limit) (d : Int) : (s.take c).frL d = if d = c then (s.frL c).tail else s.frL d := by
 have hok := ArS.take_ok hs hc hl
 have hcp := classes_pos c hc
 refine rise_ext (fr_rise hok d) ?_ fun x => ?_
 ·split
  ·exact (fr_rise hs c).sublist (List.tail_sublist _)
  ·exact fr_rise hs d
 ·rw [mem_fr]
  cases h : s.frL c with
  | nil =>
   obtain ⟨e, _⟩ := take_nil hs h
   rw [e]
   dsimp only
   have h0 : ∀ {b : Int}, ((x, b) ∈ s.all ++ [(((s.stop : Nat) : Int), c)] ∧ s.dead x = true) ↔ x ∈ s.frL b := fun {b} => by
    rw [mem_fr, List.mem_append, List.mem_singleton]
    constructor
    ·rintro ⟨a | a, a2⟩
     ·exact ⟨a, a2⟩
     ·have := dead_stop hs
      rw [Prod.mk.injEq] at a
      rw [a.1, this] at a2; cases a2
    ·rintro ⟨a, a2⟩; exact ⟨.inl a, a2⟩
   rw [h0]
   split
   ·next q => rw [q, h]; rfl
   ·rfl
  | cons o r =>
   obtain ⟨e, _, h1, h2, _⟩ := take_cons hs h
   rw [e]
   dsimp only
   have hr := fr_rise hs c
   rw [h, List.pairwise_cons] at hr
   have hmc : ∀ y, y ∈ o :: r ↔ (y, c) ∈ s.all ∧ s.dead y = true := fun y => by rw [← h]; exact mem_fr
   by_cases q : d = c
   ·subst q
    rw [if_pos rfl]
    constructor
    ·rintro ⟨a, b⟩
     rw [Bool.and_eq_true] at b
     rcases List.mem_cons.1 ((hmc x).2 ⟨a, b.1⟩) with z | z
     ·rw [z] at b; simp at b
     ·exact z
    ·intro z
     obtain ⟨a, b⟩ := (hmc x).1 (List.mem_cons_of_mem _ z)
     have := hr.1 x z
     exact ⟨a, by rw [b]; simp; omega⟩
   ·rw [if_neg q, mem_fr]
    constructor
    ·rintro ⟨a, b⟩
     rw [Bool.and_eq_true] at b
     exact ⟨a, b.1⟩
    ·rintro ⟨a, b⟩
     refine ⟨a, ?_⟩
     rw [b]
     simp only [Bool.true_and, Bool.not_eq_true', decide_eq_false_iff_not]
     rintro rfl
     have := chain_one hs.chain a h1 rfl
     rw [Prod.mk.injEq] at this
     exact q this.2
end

/-! ### A block given back -/
def ArS.give (s : ArS) (o : Int) : ArS := { s with dead := fun x => s.dead x || decide (x = o) }
section
variable {s : ArS} (hs : s.ok) {o c : Int} (ho : (o, c) ∈ s.bl)
include hs ho
theorem give_bl {p : Int × Int} : p ∈ (s.give o).bl ↔ p ∈ s.bl ∧ p ≠ (o, c) := by
 rw [mem_bl, mem_bl]
 show (p ∈ s.all ∧ (s.dead p.1 || decide (p.1 = o)) = false) ↔ _
 rw [Bool.or_eq_false_iff, decide_eq_false_iff_not]
 constructor
 ·rintro ⟨a, b, d⟩; exact ⟨⟨a, b⟩, fun e => d (by rw [e])⟩
 ·rintro ⟨⟨a, b⟩, d⟩; exact ⟨a, b, fun e => d (chain_one hs.chain a (mem_bl.1 ho).1 e)⟩
theorem give_live : (s.give o).live = s.live - c := by
 obtain ⟨h1, h2⟩ := mem_bl.1 ho
 have := sum_flip hs.chain (f := fun x => !(s.dead x || decide (x = o))) (g := fun x => !s.dead x) h1 (by simp) (by rw [h2]; rfl) fun y hy => by simp [hy]
 show ArS.sum (s.all.filter fun p => !(s.dead p.1 || decide (p.1 = o))) = ArS.sum (s.all.filter fun p => !s.dead p.1) - c
 omega
theorem give_ok : (s.give o).ok := by
 have hlv := give_live hs ho
 have hp := (ArS.chain_pos hs.chain _ (mem_bl.1 ho).1).2
 have hr := hs.room
 refine ⟨hs.limit, ?_, hs.chain, hs.bytes, hs.cls, hs.isC, fun x hx => ?_⟩
 ·rw [hlv]; show _ ≤ s.limit; dsimp only at hp; omega
 ·have hx : (s.dead x || decide (x = o)) = true := hx
  rw [Bool.or_eq_true] at hx
  rcases hx with q | q
  ·exact hs.deadIn x q
  ·exact ⟨_, (mem_bl.1 ho).1, (of_decide_eq_true q).symm⟩
theorem give_fr {i : Nat} (hi : placed (s.frL c) o i) (d : Int) : (s.give o).frL d = if d = c then insL (s.frL c) i o else s.frL d := by
 have hok := give_ok hs ho
 obtain ⟨h1, h2⟩ := mem_bl.1 ho
 obtain ⟨p1, p2, p3⟩ := hi
 have hr := fr_rise hs c
 have hno : o ∉ s.frL c := fun q => by have := (mem_fr.1 q).2; rw [h2] at this; cases this
 refine rise_ext (fr_rise hok d) ?_ fun x => ?_
 ·split
  ·unfold insL
   rw [List.pairwise_append, List.pairwise_cons]
   have hsp : (s.frL c).take i ++ (s.frL c).drop i = s.frL c := List.take_append_drop i _
   rw [← hsp, List.pairwise_append] at hr
   have hlo : ∀ a ∈ (s.frL c).take i, a < o := fun a ha => by
    obtain ⟨j, hj, rfl⟩ := List.getElem_of_mem ha
    rw [List.length_take] at hj
    rw [List.getElem_take]
    exact p2 j (by omega) (by omega)
   have hhi : ∀ a ∈ (s.frL c).drop i, o < a := fun a ha => by
    obtain ⟨j, hj, rfl⟩ := List.getElem_of_mem ha
    rw [List.length_drop] at hj
    rw [List.getElem_drop]
    have h4 := p3 (i + j) (by omega) (by omega)
    have h5 : (s.frL c)[i + j]'(by omega) ≠ o := fun e => hno (by rw [← e]; exact List.getElem_mem _)
    omega
   exact ⟨hr.1, ⟨hhi, hr.2.1⟩, fun a ha b hb => by
    rcases List.mem_cons.1 hb with q | q
    ·rw [q]; exact hlo a ha
    ·exact hr.2.2 a ha b q⟩
  ·exact fr_rise hs d
 ·rw [mem_fr]
  show ((x, d) ∈ s.all ∧ (s.dead x || decide (x = o)) = true) ↔ _
  rw [Bool.or_eq_true, decide_eq_true_eq]
  by_cases q : d = c
  ·subst q
   rw [if_pos rfl]
   have hm : x ∈ insL (s.frL d) i o ↔ x ∈ s.frL d ∨ x = o := by
    unfold insL
    rw [List.mem_append, List.mem_cons]
    have : x ∈ s.frL d ↔ x ∈ (s.frL d).take i ∨ x ∈ (s.frL d).drop i := by rw [← List.mem_append, List.take_append_drop]
    rw [this]
    constructor
    ·rintro (a | a | a) <;> simp [a]
    ·rintro ((a | a) | a) <;> simp [a]
   rw [hm, mem_fr]
   constructor
   ·rintro ⟨a, b | b⟩
    ·exact .inl ⟨a, b⟩
    ·exact .inr b
   ·rintro (⟨a, b⟩ | b)
    ·exact ⟨a, .inl b⟩
    ·rw [b]; exact ⟨h1, .inr rfl⟩
  ·rw [if_neg q, mem_fr]
   constructor
   ·rintro ⟨a, b | b⟩
    ·exact ⟨a, b⟩
    ·rw [b] at a
     have := chain_one hs.chain a h1 rfl
     rw [Prod.mk.injEq] at this
     exact absurd this.2 q
   ·rintro ⟨a, b⟩; exact ⟨a, .inl b⟩
end
end Go.Proofs.Ytjekhcojebgpnaa.Arena
