import Derived.Test.YthkajgkagnenbaaGreatDoorTable
import Derived.Test.YthkajgkagnenbaaGreatDoorProbe
import Derived.Test.YthkajgkagnenbaaGreatDoorRef03
section
/- A table in an arena: what is known of it, and what writing a cell or a word does to that. -/
set_option linter.unusedVariables false
set_option linter.unusedSimpArgs false
set_option maxRecDepth 100000
namespace Go.Proofs.YthkajgkagnenbaaGreatDoor.Table
open Go.RowKit Go.Proofs Go.Proofs.YthkajgkagnenbaaGreatDoor.Eng Go.Proofs.YthkajgkagnenbaaGreatDoor.Ty Go.Proofs.YthkajgkagnenbaaGreatDoor.Bits Go.Proofs.YthkajgkagnenbaaGreatDoor.Mem Go.Proofs.YthkajgkagnenbaaGreatDoor.Search Go.Proofs.YthkajgkagnenbaaGreatDoor.Arena Go.Proofs.YthkajgkagnenbaaGreatDoor.CtrlB Go.Proofs.YthkajgkagnenbaaGreatDoor.Ctrl Go.Proofs.YthkajgkagnenbaaGreatDoor.Layout Go.Proofs.YthkajgkagnenbaaGreatDoor.GroupB Go.Proofs.YthkajgkagnenbaaGreatDoor.Group Go.Proofs.YthkajgkagnenbaaGreatDoor.Probe Go.Proofs.YthkajgkagnenbaaGreatDoor.TableB Go.Proofs.YthkajgkagnenbaaGreatDoor.TableI

/-- The table T of n groups (n is 2 to the e) lies in the arena s: its header at off, its groups at go. -/
structure TabP (s : ArS) (off go : Nat) (l : Lay) (n e : Nat) (T : Tb) : Prop where
 hl : l.err = 0
 he : e ≤ 13
 hn : n = 2 ^ e
 hT : TAt s.m off go l n T
 gh : goodP s off 64
 gg : goodP s go ((n * gN l : Nat) : Int)
 hr : HOk T n go
 dj : off + 64 ≤ go ∨ go + n * gN l ≤ off
theorem TabP.n0 {s : ArS} {off go : Nat} {l : Lay} {n e : Nat} {T : Tb} (h : TabP s off go l n e T) : 0 < n ∧ n ≤ 8192 := by
 have h1 := h.hn; have h2 := Nat.two_pow_pos e
 have h3 : 2 ^ e ≤ 2 ^ 13 := Nat.pow_le_pow_right (by decide) h.he
 omega
/-- Nothing else has turned in the arena. -/
structure SameBut (s s' : ArS) (off go k : Nat) : Prop where
 all : s'.all = s.all
 dead : s'.dead = s.dead
 limit : s'.limit = s.limit
 m : ∀ a, (a < off ∨ off + 64 ≤ a) → (a < go ∨ go + k ≤ a) → s'.m a = s.m a
theorem SameBut.refl (s : ArS) (off go k : Nat) : SameBut s s off go k := ⟨rfl, rfl, rfl, fun _ _ _ => rfl⟩
theorem SameBut.bl {s s' : ArS} {off go k : Nat} (h : SameBut s s' off go k) : s'.bl = s.bl := by unfold ArS.bl; rw [h.all, h.dead]
theorem SameBut.trans {s s1 s2 : ArS} {off go k : Nat} (h : SameBut s s1 off go k) (h2 : SameBut s1 s2 off go k) : SameBut s s2 off go k :=
 ⟨h2.all.trans h.all, h2.dead.trans h.dead, h2.limit.trans h.limit, fun a h3 h4 => (h2.m a h3 h4).trans (h.m a h3 h4)⟩
theorem SameBut.good {s s' : ArS} {off go k : Nat} (h : SameBut s s' off go k) {o n : Int} (hg : goodP s o n) : goodP s' o n := by
 obtain ⟨h0, p, hp, q⟩ := hg
 exact ⟨h0, p, by rw [h.bl]; exact hp, q⟩

/-- The group's cells. -/
theorem TabP.grpAt {s : ArS} {off go : Nat} {l : Lay} {n e : Nat} {T : Tb} (h : TabP s off go l n e T) {g : Nat} (hg : g < n) :
  goodP s ((go + g * gN l : Nat) : Int) l.group ∧ GAt s.m (go + g * gN l) l (grpC T.cells g) ∧ (∀ i, i < 8 → (grpC T.cells g i).ok l) ∧ g * gN l + gN l ≤ n * gN l := by
 have hN := layN h.hl
 have hin : g * gN l + gN l ≤ n * gN l := by have := Nat.mul_le_mul_right (gN l) (show g + 1 ≤ n by omega); rw [Nat.add_mul] at this; omega
 exact ⟨by rw [← hN.g]; exact goodP.sub h.gg (by omega) (by omega) (by omega), h.hT.body g hg, fun i hi => h.hT.okc _ (by omega), hin⟩
/-- A cell written. -/
theorem TabP.cell {s : ArS} {off go : Nat} {l : Lay} {n e : Nat} {T : Tb} (h : TabP s off go l n e T) {g i : Nat} (hg : g < n) (hi : i < 8) {c : Cell} (hc : c.ok l) :
  TabP (s.put (go + g * gN l) (gN l) (encG l (updC (grpC T.cells g) i c))) off go l n e { T with cells := updC T.cells (8 * g + i) c } ∧
   SameBut s (s.put (go + g * gN l) (gN l) (encG l (updC (grpC T.cells g) i c))) off go (n * gN l) := by
 obtain ⟨h1, h2, h3, h4⟩ := h.grpAt hg
 refine ⟨⟨h.hl, h.he, h.hn, ?_, h.gh, h.gg, h.hr, h.dj⟩, ⟨rfl, rfl, rfl, fun a _ h6 => by rw [ArS.put_m, lay_out (by omega)]⟩⟩
 refine TAt.grp h.hT h.dj hg (T' := { T with cells := updC T.cells (8 * g + i) c }) (fun j hj => ?_) (fun k _ => ?_) (fun j => ?_) (layN h.hl)
 ·unfold updC; split; exact hc; exact h3 j hj
 ·unfold headV; rfl
 ·show updC T.cells (8 * g + i) c j = _
  by_cases q : j / 8 = g
  ·rw [if_pos q]
   by_cases q2 : j = 8 * g + i
   ·rw [q2, updC_same, show (8 * g + i) % 8 = i by omega, updC_same]
   ·rw [updC_ne _ q2, updC_ne _ (by omega)]
    show T.cells j = T.cells (8 * g + j % 8)
    congr 1; omega
  ·rw [if_neg q, updC_ne _ (by omega)]
/-- A word of the header written. -/
theorem TabP.word {s : ArS} {off go : Nat} {l : Lay} {n e : Nat} {T T' : Tb} (h : TabP s off go l n e T) {k : Nat} (hk : k < 8) {v : Int} (hb : -9223372036854775808 ≤ v ∧ v ≤ 9223372036854775807) (hv : headV T' n go k = v) (ho : ∀ j, j < 8 → j ≠ k → headV T' n go j = headV T n go j) (hc : T'.cells = T.cells) :
  TabP (s.put (off + 8 * k) 8 (byteN (IntKind.u64.wrap v))) off go l n e T' ∧ SameBut s (s.put (off + 8 * k) 8 (byteN (IntKind.u64.wrap v))) off go (n * gN l) := by
 refine ⟨⟨h.hl, h.he, h.hn, TAt.set h.hT h.dj hk hv ho hc, h.gh, h.gg, fun j hj => ?_, h.dj⟩, ⟨rfl, rfl, rfl, fun a h6 _ => by rw [ArS.put_m, lay_out (by omega)]⟩⟩
 by_cases q : j = k
 ·rw [q, hv]; exact hb
 ·rw [ho j hj q]; exact h.hr j hj

theorem head_ne {T T' : Tb} {n go k : Nat} (h0 : k = 0 ∨ T'.kind = T.kind) (h1 : k = 1 ∨ T'.pins = T.pins) (h2 : k = 2 ∨ T'.next = T.next) (h3 : k = 3 ∨ T'.used = T.used) (h5 : k = 5 ∨ T'.left = T.left) (h6 : k = 6 ∨ T'.depth = T.depth) :
  ∀ j, j < 8 → j ≠ k → headV T' n go j = headV T n go j := by
 intro j hj hne
 have : j = 0 ∨ j = 1 ∨ j = 2 ∨ j = 3 ∨ j = 4 ∨ j = 5 ∨ j = 6 ∨ j = 7 := by omega
 rcases this with rfl | rfl | rfl | rfl | rfl | rfl | rfl | rfl
 ·exact h0.resolve_left (Ne.symm hne)
 ·exact h1.resolve_left (Ne.symm hne)
 ·exact h2.resolve_left (Ne.symm hne)
 ·exact h3.resolve_left (Ne.symm hne)
 ·rfl
 ·exact h5.resolve_left (Ne.symm hne)
 ·exact h6.resolve_left (Ne.symm hne)
 ·rfl
/-! ### Puts and deletes -/
def reelem (c : Cell) (e : ByteArray) : Cell := match c with
 | .full t k _ b => .full t k e b
 | c => c
def putT (n : Nat) (T : Tb) (h : Int) (key elem : ByteArray) (birth : Int) : Int × Tb :=
 if 0 ≤ (searchR (h / 128) n T.cells (h % 128) key).slot then
  (1, { T with cells := updC T.cells (searchR (h / 128) n T.cells (h % 128) key).slot.toNat (reelem (T.cells (searchR (h / 128) n T.cells (h % 128) key).slot.toNat) elem) })
 else if (searchR (h / 128) n T.cells (h % 128) key).vac < 0 ∨ ((searchR (h / 128) n T.cells (h % 128) key).emp = true ∧ T.left = 0) then (3, T)
 else (2, { T with used := T.used + 1, left := if (searchR (h / 128) n T.cells (h % 128) key).emp then T.left - 1 else T.left, cells := updC T.cells (searchR (h / 128) n T.cells (h % 128) key).vac.toNat (.full (h % 128) key elem birth) })
/-- How many cells of a slot's group are empty. -/
def passedB (cells : Nat → Cell) (slot : Nat) : Bool := decide ((slotsF (empS (grpC cells (slot / 8)))).length = 0)
def delT (n : Nat) (T : Tb) (h : Int) (key : ByteArray) : Bool × Tb :=
 if 0 ≤ (searchR (h / 128) n T.cells (h % 128) key).slot then
  (true, { T with used := T.used - 1, left := if passedB T.cells (searchR (h / 128) n T.cells (h % 128) key).slot.toNat then T.left else T.left + 1, cells := updC T.cells (searchR (h / 128) n T.cells (h % 128) key).slot.toNat (if passedB T.cells (searchR (h / 128) n T.cells (h % 128) key).slot.toNat then .deleted else .empty) })
 else (false, T)
theorem search_slot {home : Int} {n : Nat} (hn : 0 < n) {cells : Nat → Cell} {tag : Int} {key : ByteArray} (h : 0 ≤ (searchR home n cells tag key).slot) :
  ∃ g i, g < n ∧ i < 8 ∧ (searchR home n cells tag key).slot = ((8 * g + i : Nat) : Int) ∧ ∃ e b, cells (8 * g + i) = .full tag key e b := by
 rcases search_cases home n cells tag key with ⟨k, _, _, hh, e⟩ | ⟨k, _, _, _, _, e⟩ | ⟨_, e⟩
 ·rw [e]
  obtain ⟨e', b', hc⟩ := hit_cell (firstF_lt hh)
  exact ⟨gk home n k, hitAt home n cells tag key k, gk_lt hn, hh, by simp, e', b', hc⟩
 ·rw [e] at h; simp at h
 ·rw [e] at h; simp at h
theorem search_vac {home : Int} {n : Nat} (hn : 0 < n) {cells : Nat → Cell} {tag : Int} {key : ByteArray} (h : 0 ≤ (searchR home n cells tag key).vac) :
  ∃ g i, g < n ∧ i < 8 ∧ (searchR home n cells tag key).vac = ((8 * g + i : Nat) : Int) ∧ isFull (cells (8 * g + i)) = false ∧ (searchR home n cells tag key).emp = isEmp (cells (8 * g + i)) := by
 have hkey : ∀ k, 0 ≤ vacI home n cells k → ∃ g i, g < n ∧ i < 8 ∧ vacI home n cells k = ((8 * g + i : Nat) : Int) ∧ isFull (cells (8 * g + i)) = false ∧ vacE home n cells k = isEmp (cells (8 * g + i)) := fun k hk => by
  obtain ⟨j, _, h1, _, h2, h3⟩ := vac_at (home := home) (n := n) (cells := cells) (k := k) (by omega)
  refine ⟨gk home n j, vacAt home n cells j, gk_lt hn, h1, by rw [h2]; simp, vac_iff.1 (firstF_lt h1), ?_⟩
  rw [h3]
  show empS _ _ = isEmp (grpC cells (gk home n j) (vacAt home n cells j))
  unfold empS isEmp
  cases grpC cells (gk home n j) (vacAt home n cells j) <;> rfl
 rcases search_cases home n cells tag key with ⟨k, _, _, _, e⟩ | ⟨k, _, _, _, _, e⟩ | ⟨_, e⟩
 ·rw [e] at h ⊢; exact hkey k h
 ·rw [e] at h ⊢; exact hkey (k + 1) h
 ·rw [e] at h ⊢; exact hkey n h
theorem putT_cases {off go n e : Nat} {s : ArS} {l : Lay} {T : Tb} (hP : TabP s off go l n e T) (h : Int) (key elem : ByteArray) (birth : Int) :
  (∃ g i e0 b0, g < n ∧ i < 8 ∧ (searchR (h / 128) n T.cells (h % 128) key).slot = ((8 * g + i : Nat) : Int) ∧ T.cells (8 * g + i) = .full (h % 128) key e0 b0 ∧ putT n T h key elem birth = (1, { T with cells := updC T.cells (8 * g + i) (.full (h % 128) key elem b0) })) ∨
  ((searchR (h / 128) n T.cells (h % 128) key).slot < 0 ∧ ((searchR (h / 128) n T.cells (h % 128) key).vac < 0 ∨ ((searchR (h / 128) n T.cells (h % 128) key).emp = true ∧ T.left = 0)) ∧ putT n T h key elem birth = (3, T)) ∨
  (∃ g i, g < n ∧ i < 8 ∧ (searchR (h / 128) n T.cells (h % 128) key).slot < 0 ∧ (searchR (h / 128) n T.cells (h % 128) key).vac = ((8 * g + i : Nat) : Int) ∧ isFull (T.cells (8 * g + i)) = false ∧ (searchR (h / 128) n T.cells (h % 128) key).emp = isEmp (T.cells (8 * g + i)) ∧ ¬ (isEmp (T.cells (8 * g + i)) = true ∧ T.left = 0) ∧
   putT n T h key elem birth = (2, { T with used := T.used + 1, left := if isEmp (T.cells (8 * g + i)) then T.left - 1 else T.left, cells := updC T.cells (8 * g + i) (.full (h % 128) key elem birth) })) := by
 have hn := hP.n0
 by_cases h1 : 0 ≤ (searchR (h / 128) n T.cells (h % 128) key).slot
 ·obtain ⟨g, i, hg, hi, h2, e0, b0, h3⟩ := search_slot hn.1 h1
  refine .inl ⟨g, i, e0, b0, hg, hi, h2, h3, ?_⟩
  unfold putT
  rw [if_pos h1, h2, Int.toNat_natCast, h3]; rfl
 ·by_cases h4 : (searchR (h / 128) n T.cells (h % 128) key).vac < 0 ∨ ((searchR (h / 128) n T.cells (h % 128) key).emp = true ∧ T.left = 0)
  ·exact .inr (.inl ⟨by omega, h4, by unfold putT; rw [if_neg h1, if_pos h4]⟩)
  ·obtain ⟨g, i, hg, hi, h2, h3, h5⟩ := search_vac (home := h / 128) (cells := T.cells) (tag := h % 128) (key := key) hn.1 (by omega)
   refine .inr (.inr ⟨g, i, hg, hi, by omega, h2, h3, h5, fun hq => h4 (.inr (by rw [h5]; exact hq)), ?_⟩)
   unfold putT
   rw [if_neg h1, if_neg h4, h2, Int.toNat_natCast, h5]
end Go.Proofs.YthkajgkagnenbaaGreatDoor.Table
end
section
/- The way through the groups, in plain numbers: every group is met, just once. No program's text. -/
set_option linter.unusedVariables false
set_option linter.unusedSimpArgs false
namespace Go.Proofs.YthkajgkagnenbaaGreatDoor.Probe
open Go.RowKit Go.Proofs Go.Proofs.YthkajgkagnenbaaGreatDoor.Eng Go.Proofs.YthkajgkagnenbaaGreatDoor.Bits

theorem pow_dvd_odd {m a b : Nat} (h : 2 ^ m ∣ a * b) (ha : a % 2 = 1) : 2 ^ m ∣ b := by
 have : Nat.Coprime (2 ^ m) a := by
  apply Nat.Coprime.pow_left
  rw [Nat.coprime_iff_gcd_eq_one, Nat.gcd_comm, Nat.gcd_comm]
  rw [Nat.gcd_rec, ha]
  simp
 exact this.dvd_of_dvd_mul_left h

/-- Two steps of the way that come to one group are one. -/
theorem tri_inj {e i j : Nat} (hi : i < 2 ^ e) (hj : j < 2 ^ e) (hij : i < j) (h : 2 ^ e ∣ j * (j + 1) / 2 - i * (i + 1) / 2) : False := by
 obtain ⟨d, rfl⟩ : ∃ d, j = i + d := ⟨j - i, by omega⟩
 have e1 : (i + d) * (i + d + 1) = i * (i + 1) + d * (2 * i + d + 1) := by
  simp only [Nat.add_mul, Nat.mul_add, Nat.mul_one, Nat.one_mul]
  rw [Nat.mul_comm i d, Nat.mul_comm d (2 * i), Nat.mul_assoc 2 i d, Nat.mul_comm i d]
  omega
 have even : ∀ n : Nat, n * (n + 1) % 2 = 0 := fun n => by
  rcases Nat.mod_two_eq_zero_or_one n with q | q <;> simp [Nat.mul_mod, Nat.add_mod, q]
 have ev1 := even i
 have ev2 := even (i + d)
 have hd2 : 2 ^ (e + 1) ∣ d * (2 * i + d + 1) := by
  obtain ⟨c, hc⟩ := h
  refine ⟨c, ?_⟩
  have : 2 ^ (e + 1) * c = 2 * (2 ^ e * c) := by rw [Nat.pow_succ, Nat.mul_comm (2 ^ e) 2, Nat.mul_assoc]
  rw [this, ← hc]
  omega
 have hp : 2 ^ (e + 1) = 2 * 2 ^ e := by rw [Nat.pow_succ]; omega
 rcases Nat.mod_two_eq_zero_or_one d with q | q
 ·have hdv : 2 ^ (e + 1) ∣ d := pow_dvd_odd (a := 2 * i + d + 1) (by rw [Nat.mul_comm]; exact hd2) (by omega)
  have := Nat.le_of_dvd (by omega) hdv
  omega
 ·have hdv := pow_dvd_odd hd2 q
  have := Nat.le_of_dvd (by omega) hdv
  omega

theorem ord_inj {home : Int} {g e i j : Nat} (hg : g = 2 ^ e) (hi : i < g) (hj : j < g) (h : ord home g i = ord home g j) : i = j := by
 have key : ∀ a b : Nat, a < g → b < g → a < b → ord home g a = ord home g b → False := fun a b ha hb hab hh => by
  unfold ord at hh
  have h2 := Int.emod_emod_of_dvd
  have h3 : ((b * (b + 1) / 2 : Nat) : Int) - ((a * (a + 1) / 2 : Nat) : Int) = (g : Int) * ((home + ((b * (b + 1) / 2 : Nat) : Int)) / g - (home + ((a * (a + 1) / 2 : Nat) : Int)) / g) := by
   have x1 := Int.mul_ediv_add_emod (home + ((a * (a + 1) / 2 : Nat) : Int)) g
   have x2 := Int.mul_ediv_add_emod (home + ((b * (b + 1) / 2 : Nat) : Int)) g
   rw [Int.mul_sub]
   omega
  have hle : a * (a + 1) / 2 ≤ b * (b + 1) / 2 := Nat.div_le_div_right (Nat.mul_le_mul (by omega) (by omega))
  have h4 : ((b * (b + 1) / 2 - a * (a + 1) / 2 : Nat) : Int) = (g : Int) * ((home + ((b * (b + 1) / 2 : Nat) : Int)) / g - (home + ((a * (a + 1) / 2 : Nat) : Int)) / g) := by
   rw [← h3]; omega
  have h5 : (g : Int) ∣ ((b * (b + 1) / 2 - a * (a + 1) / 2 : Nat) : Int) := ⟨_, h4⟩
  have h6 : g ∣ b * (b + 1) / 2 - a * (a + 1) / 2 := Int.natCast_dvd_natCast.1 h5
  subst hg
  exact tri_inj ha hb hab h6
 rcases Nat.lt_trichotomy i j with q | q | q
 ·exact (key i j hi hj q h).elim
 ·exact q
 ·exact (key j i hj hi q h.symm).elim

theorem pigeon : ∀ (n m : Nat) (f : Nat → Nat), (∀ k, k < n → f k < m) → (∀ i j, i < n → j < n → f i = f j → i = j) → n ≤ m
 | 0, m, f, _, _ => by omega
 | n + 1, m, f, h1, h2 => by
  have hv := h1 n (by omega)
  have := pigeon n (m - 1) (fun k => if f k > f n then f k - 1 else f k) (fun k hk => by
   have a := h1 k (by omega)
   have b : f k ≠ f n := fun q => by have := h2 k n (by omega) (by omega) q; omega
   try dsimp only
   split <;> omega) (fun i j hi hj hh => by
   have a : f i ≠ f n := fun q => by have := h2 i n (by omega) (by omega) q; omega
   have b : f j ≠ f n := fun q => by have := h2 j n (by omega) (by omega) q; omega
   refine h2 i j (by omega) (by omega) ?_
   try dsimp only at hh
   split at hh <;> split at hh <;> omega)
  omega
theorem onto (n : Nat) (f : Nat → Nat) (h1 : ∀ k, k < n → f k < n) (h2 : ∀ i j, i < n → j < n → f i = f j → i = j) (v : Nat) (hv : v < n) : ∃ k, k < n ∧ f k = v := by
 refine Classical.byContradiction fun hno => ?_
 have hne : ∀ k, k < n → f k ≠ v := fun k hk q => hno ⟨k, hk, q⟩
 have := pigeon n (n - 1) (fun k => if f k > v then f k - 1 else f k) (fun k hk => by
  have a := h1 k hk
  have b := hne k hk
  try dsimp only
  split <;> omega) (fun i j hi hj hh => by
  have a := hne i hi
  have b := hne j hj
  refine h2 i j hi hj ?_
  try dsimp only at hh
  split at hh <;> split at hh <;> omega)
 omega

theorem ord_bounds (home : Int) (g k : Nat) (h : 0 < g) : 0 ≤ ord home g k ∧ ord home g k < (g : Int) := by
 unfold ord
 exact ⟨Int.emod_nonneg _ (by omega), Int.emod_lt_of_pos _ (by omega)⟩
theorem ord_onto {home : Int} {g e : Nat} (hg : g = 2 ^ e) {v : Int} (h0 : 0 ≤ v) (h1 : v < g) : ∃ k, k < g ∧ ord home g k = v := by
 have hp : 0 < g := by rw [hg]; exact Nat.two_pow_pos e
 obtain ⟨k, hk, h⟩ := onto g (fun k => (ord home g k).toNat) (fun k _ => by have := ord_bounds home g k hp; (try dsimp only); omega) (fun i j hi hj hh => by
  have a := ord_bounds home g i hp
  have b := ord_bounds home g j hp
  try dsimp only at hh
  exact ord_inj (home := home) hg hi hj (by omega)) v.toNat (by omega)
 have a := ord_bounds home g k hp
 try dsimp only at h
 exact ⟨k, hk, by omega⟩

end Go.Proofs.YthkajgkagnenbaaGreatDoor.Probe
end
section
/- A table against a list: what holds behind every step of a plan. No program. -/
set_option linter.unusedVariables false
set_option linter.unusedSimpArgs false
set_option maxRecDepth 100000
namespace Go.Proofs.YthkajgkagnenbaaGreatDoor.Bench
open Go.RowKit Go.Proofs Go.Proofs.YthkajgkagnenbaaGreatDoor.Eng Go.Proofs.YthkajgkagnenbaaGreatDoor.Bits Go.Proofs.YthkajgkagnenbaaGreatDoor.Layout Go.Proofs.YthkajgkagnenbaaGreatDoor.Mem Go.Proofs.YthkajgkagnenbaaGreatDoor.CtrlB Go.Proofs.YthkajgkagnenbaaGreatDoor.GroupB Go.Proofs.YthkajgkagnenbaaGreatDoor.Probe Go.Proofs.YthkajgkagnenbaaGreatDoor.TableB Go.Proofs.YthkajgkagnenbaaGreatDoor.TableI Go.Proofs.YthkajgkagnenbaaGreatDoor.Table

theorem gk_onto {home : Int} {n e g : Nat} (hn : n = 2 ^ e) (hg : g < n) : ∃ t, t < n ∧ gk home n t = g := by
 have hn0 : 0 < n := by omega
 obtain ⟨k, hk, h⟩ := ord_onto (home := home) hn (v := (g : Int)) (by omega) (by omega)
 rw [← gk_cast hn0] at h
 exact ⟨k, hk, by omega⟩
/-! ### What a put does -/
/-- A put of a key: it was there (1); there was no room (3); it is new (2). -/
inductive PutR (n : Nat) (T : Tb) (h : Int) (key elem : ByteArray) (birth : Int) : Int × Tb → Prop
 | old (p : Nat) (e0 : ByteArray) (b0 : Int) : p < 8 * n → (searchR (h / 128) n T.cells (h % 128) key).slot = (p : Int) → T.cells p = .full (h % 128) key e0 b0 → PutR n T h key elem birth (1, { T with cells := updC T.cells p (.full (h % 128) key elem b0) })
 | no : (searchR (h / 128) n T.cells (h % 128) key).slot < 0 → ((∀ p, p < 8 * n → isFull (T.cells p) = true) ∨ (T.left = 0 ∧ ∃ j, j < n ∧ (∀ i, i < j → vacAt (h / 128) n T.cells i = 8) ∧ ∃ i, i < 8 ∧ isEmp (T.cells (8 * gk (h / 128) n j + i)) = true)) → PutR n T h key elem birth (3, T)
 | new (j i : Nat) : j < n → i < 8 → (searchR (h / 128) n T.cells (h % 128) key).slot < 0 → (∀ i, i < j → vacAt (h / 128) n T.cells i = 8) → isFull (T.cells (8 * gk (h / 128) n j + i)) = false → (isEmp (T.cells (8 * gk (h / 128) n j + i)) = true → T.left ≠ 0) →
   PutR n T h key elem birth (2, { T with used := T.used + 1, left := if isEmp (T.cells (8 * gk (h / 128) n j + i)) then T.left - 1 else T.left, cells := updC T.cells (8 * gk (h / 128) n j + i) (.full (h % 128) key elem birth) })

section
variable {n : Nat} {T : Tb} {h : Int} {key : ByteArray}
theorem search_none_k (hn : 0 < n) (h1 : (searchR (h / 128) n T.cells (h % 128) key).slot < 0) : ∃ K, K ≤ n ∧ (searchR (h / 128) n T.cells (h % 128) key).vac = vacI (h / 128) n T.cells K ∧ (searchR (h / 128) n T.cells (h % 128) key).emp = vacE (h / 128) n T.cells K ∧ (vacI (h / 128) n T.cells K < 0 → K = n) := by
 rcases search_cases (h / 128) n T.cells (h % 128) key with ⟨k, _, _, hh, e⟩ | ⟨k, hk, _, _, he, e⟩ | ⟨_, e⟩
 ·rw [e] at h1; dsimp only at h1; omega
 ·refine ⟨k + 1, by omega, by rw [e], by rw [e], ?_⟩
  intro q
  have := vac_emp (vac_no q k (by omega))
  omega
 ·exact ⟨n, Nat.le_refl _, by rw [e], by rw [e], fun _ => rfl⟩
theorem putR (hn : 0 < n) (hperm : ∀ g, g < n → ∃ j, j < n ∧ gk (h / 128) n j = g) (elem : ByteArray) (birth : Int) : PutR n T h key elem birth (putT n T h key elem birth) := by
 by_cases h1 : 0 ≤ (searchR (h / 128) n T.cells (h % 128) key).slot
 ·obtain ⟨g, i, hg, hi, h2, e0, b0, h3⟩ := search_slot hn h1
  have : putT n T h key elem birth = (1, { T with cells := updC T.cells (8 * g + i) (.full (h % 128) key elem b0) }) := by
   unfold putT
   rw [if_pos h1, h2, Int.toNat_natCast, h3]; rfl
  rw [this]
  exact .old (8 * g + i) e0 b0 (by omega) h2 h3
 ·obtain ⟨K, hK, hv, he, hl⟩ := search_none_k (T := T) (h := h) (key := key) hn (by omega)
  by_cases h4 : (searchR (h / 128) n T.cells (h % 128) key).vac < 0 ∨ ((searchR (h / 128) n T.cells (h % 128) key).emp = true ∧ T.left = 0)
  ·have : putT n T h key elem birth = (3, T) := by unfold putT; rw [if_neg h1, if_pos h4]
   rw [this]
   refine .no (by omega) ?_
   rcases h4 with h4 | h4
   ·left
    intro p hp
    rw [hv] at h4
    have hKn := hl h4
    subst hKn
    obtain ⟨j, hj, hg⟩ := hperm (p / 8) (by omega)
    have h5 := vac_no h4 j hj
    unfold vacAt at h5
    rw [firstF_none] at h5
    have h6 := h5 (p % 8) (by omega)
    cases q : isFull (T.cells p) with
    | true => rfl
    | false =>
     rw [hg, show vacS (grpC T.cells (p / 8)) (p % 8) = true from vac_iff.2 (by show isFull (T.cells (8 * (p / 8) + p % 8)) = false; rw [show 8 * (p / 8) + p % 8 = p by omega]; exact q)] at h6
     cases h6
   ·by_cases hvn : vacI (h / 128) n T.cells K < 0
    ·exfalso
     have : vacE (h / 128) n T.cells K = false := by unfold vacE; rw [vacI_nn.1 hvn]
     rw [he, this] at h4
     exact Bool.noConfusion h4.1
    ·obtain ⟨j, hj, h5, h6, h7, h8⟩ := vac_at hvn
     refine .inr ⟨h4.2, j, by omega, h6, _, h5, ?_⟩
     have h9 := h4.1
     rw [he, h8] at h9
     have h10 := emp_iff.1 h9
     show isEmp (grpC T.cells (gk (h / 128) n j) _) = true
     rw [h10]; rfl
  ·obtain ⟨j, hj, h5, h6, h7, h8⟩ := vac_at (home := h / 128) (n := n) (cells := T.cells) (k := K) (by rw [← hv]; omega)
   have hfull : isFull (T.cells (8 * gk (h / 128) n j + vacAt (h / 128) n T.cells j)) = false := vac_iff.1 (firstF_lt h5)
   have hemp : (searchR (h / 128) n T.cells (h % 128) key).emp = isEmp (T.cells (8 * gk (h / 128) n j + vacAt (h / 128) n T.cells j)) := by
    rw [he, h8]
    show empS (grpC T.cells (gk (h / 128) n j)) (vacAt (h / 128) n T.cells j) = isEmp (grpC T.cells (gk (h / 128) n j) (vacAt (h / 128) n T.cells j))
    unfold empS isEmp
    cases grpC T.cells (gk (h / 128) n j) (vacAt (h / 128) n T.cells j) <;> rfl
   have hvn : (searchR (h / 128) n T.cells (h % 128) key).vac.toNat = 8 * gk (h / 128) n j + vacAt (h / 128) n T.cells j := by rw [hv, h7]; omega
   have : putT n T h key elem birth = (2, { T with used := T.used + 1, left := if isEmp (T.cells (8 * gk (h / 128) n j + vacAt (h / 128) n T.cells j)) then T.left - 1 else T.left, cells := updC T.cells (8 * gk (h / 128) n j + vacAt (h / 128) n T.cells j) (.full (h % 128) key elem birth) }) := by
    unfold putT
    rw [if_neg h1, if_neg h4, hvn, hemp]
   rw [this]
   exact .new j _ (by omega) h5 (by omega) h6 hfull fun q q2 => h4 (.inr ⟨by rw [hemp]; exact q, q2⟩)
/-- A delete of a key. -/
inductive DelR (n : Nat) (T : Tb) (h : Int) (key : ByteArray) : Bool × Tb → Prop
 | no : (searchR (h / 128) n T.cells (h % 128) key).slot < 0 → DelR n T h key (false, T)
 | passed (p : Nat) (e0 : ByteArray) (b0 : Int) : p < 8 * n → (searchR (h / 128) n T.cells (h % 128) key).slot = (p : Int) → T.cells p = .full (h % 128) key e0 b0 → (∀ q, q / 8 = p / 8 → T.cells q ≠ .empty) →
   DelR n T h key (true, { T with used := T.used - 1, cells := updC T.cells p .deleted })
 | free (p q : Nat) (e0 : ByteArray) (b0 : Int) : p < 8 * n → (searchR (h / 128) n T.cells (h % 128) key).slot = (p : Int) → T.cells p = .full (h % 128) key e0 b0 → q / 8 = p / 8 → T.cells q = .empty →
   DelR n T h key (true, { T with used := T.used - 1, left := T.left + 1, cells := updC T.cells p .empty })
theorem passed_iff {cells : Nat → Cell} {p : Nat} : passedB cells p = true ↔ ∀ q, q / 8 = p / 8 → cells q ≠ .empty := by
 unfold passedB
 rw [decide_eq_true_iff, List.length_eq_zero_iff]
 constructor
 ·intro e q hq hc
  have : q % 8 ∈ slotsF (empS (grpC cells (p / 8))) := slotsF_mem.2 ⟨by omega, emp_iff.2 (by show cells (8 * (p / 8) + q % 8) = _; rw [show 8 * (p / 8) + q % 8 = q by omega]; exact hc)⟩
  rw [e] at this; cases this
 ·intro e
  rw [List.eq_nil_iff_forall_not_mem]
  intro i hi
  obtain ⟨h1, h2⟩ := slotsF_mem.1 hi
  exact e (8 * (p / 8) + i) (by omega) (emp_iff.1 h2)
theorem delR (hn : 0 < n) : DelR n T h key (delT n T h key) := by
 by_cases h1 : 0 ≤ (searchR (h / 128) n T.cells (h % 128) key).slot
 ·obtain ⟨g, i, hg, hi, h2, e0, b0, h3⟩ := search_slot hn h1
  unfold delT
  rw [if_pos h1, h2, Int.toNat_natCast]
  cases q : passedB T.cells (8 * g + i) with
  | true => exact .passed (8 * g + i) e0 b0 (by omega) h2 h3 (passed_iff.1 q)
  | false =>
   have : ∃ q, q / 8 = (8 * g + i) / 8 ∧ T.cells q = .empty := by
    apply Classical.byContradiction
    intro hno
    rw [passed_iff.2 fun q hq hc => hno ⟨q, hq, hc⟩] at q; cases q
   obtain ⟨q, hq, hc⟩ := this
   exact .free (8 * g + i) q e0 b0 (by omega) h2 h3 hq hc
 ·have : delT n T h key = (false, T) := by unfold delT; rw [if_neg h1]
  rw [this]; exact .no (by omega)
end

/-! ### The counts hold -/
section
variable {n : Nat} {T T' : Tb} {h : Int} {key elem : ByteArray} {birth out : Int} {b : Bool}
/-- Full and deleted slots together. -/
def took (n : Nat) (T : Tb) : Nat := cnt isFull T.cells (8 * n) + cnt isDel T.cells (8 * n)
end

/-! ### The keys hold -/
section
variable {n : Nat} {T T' : Tb} {H : ByteArray → Int} {key elem : ByteArray} {birth out : Int} {b : Bool}
end

/-! ### The list -/
structure Life where
 key : ByteArray
 elem : ByteArray
 hash : Int
 birth : Int
 slot : Nat
def Life.cells (v : Life) : List Value := [.string v.key, .string v.elem, .int .u64 v.hash, .int .i64 v.birth, .int .i64 (v.slot : Nat)]
def Life.cell (v : Life) : Cell := .full (v.hash % 128) v.key v.elem v.birth
/-- The list is what lies in the table. -/
structure BI (n : Nat) (H : ByteArray → Int) (K : ByteArray → Prop) (T : Tb) (lives : List Life) (added : Nat) : Prop where
 n0 : 0 < n
 cnt : TCnt n T
 key : TKey n H T.cells
 there : ∀ v ∈ lives, v.slot < 8 * n ∧ T.cells v.slot = v.cell ∧ v.hash = H v.key
 all : ∀ i, i < 8 * n → isFull (T.cells i) = true → ∃ v ∈ lives, v.slot = i
 uniq : ∀ (i j : Nat) (u v : Life), lives[i]? = some u → lives[j]? = some v → u.slot = v.slot → i = j
 used : T.used = (lives.length : Int)
 added : took n T ≤ added
 isK : ∀ v ∈ lives, K v.key
section
variable {n : Nat} {T T' : Tb} {H : ByteArray → Int} {K : ByteArray → Prop} {lives : List Life} {added : Nat} {key elem : ByteArray} {out : Int} {b : Bool}
end

/-! ### The plan's keys -/
end Go.Proofs.YthkajgkagnenbaaGreatDoor.Bench
end
