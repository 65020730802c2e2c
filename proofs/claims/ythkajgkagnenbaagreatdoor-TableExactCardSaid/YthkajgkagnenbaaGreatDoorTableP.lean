/- A table in an arena: what is known of it, and what writing a cell or a word does to that. -/
import Derived.Test.YthkajgkagnenbaaGreatDoorTable
set_option linter.unusedVariables false
set_option linter.unusedSimpArgs false
set_option maxRecDepth 100000
namespace Go.Proofs.YthkajgkagnenbaaGreatDoor.Table
open Go.RowKit Go.Proofs Go.Proofs.YthkajgkagnenbaaGreatDoor.Eng Go.Proofs.YthkajgkagnenbaaGreatDoor.Ty Go.Proofs.YthkajgkagnenbaaGreatDoor.Bits Go.Proofs.YthkajgkagnenbaaGreatDoor.Mem Go.Proofs.YthkajgkagnenbaaGreatDoor.Search Go.Proofs.YthkajgkagnenbaaGreatDoor.Arena Go.Proofs.YthkajgkagnenbaaGreatDoor.CtrlB Go.Proofs.YthkajgkagnenbaaGreatDoor.Ctrl Go.Proofs.YthkajgkagnenbaaGreatDoor.Layout Go.Proofs.YthkajgkagnenbaaGreatDoor.GroupB Go.Proofs.YthkajgkagnenbaaGreatDoor.Group Go.Proofs.YthkajgkagnenbaaGreatDoor.Probe Go.Proofs.YthkajgkagnenbaaGreatDoor.TableB Go.Proofs.YthkajgkagnenbaaGreatDoor.TableI

/-- The table T of n groups (n is 2 to the e) lies in the arena s: its header at off, its groups at go. -/
structure TabP (s : ArS) (off go : Nat) (l : Lay) (n e : Nat) (T : Tb) : Prop where
 hl : l.err = 0
 he : e ≤ 13
 hn : n = 2 ^ e
 hT : TAt s.m off go l n T
 gh : goodP s off 64
 gg : goodP s go ((n * gN l : Nat) : Int)
 hr : HOk T n go
 dj : off + 64 ≤ go ∨ go + n * gN l ≤ off
theorem TabP.n0 {s : ArS} {off go : Nat} {l : Lay} {n e : Nat} {T : Tb} (h : TabP s off go l n e T) : 0 < n ∧ n ≤ 8192 := by
 have h1 := h.hn; have h2 := Nat.two_pow_pos e
 have h3 : 2 ^ e ≤ 2 ^ 13 := Nat.pow_le_pow_right (by decide) h.he
 omega
/-- Nothing else has turned in the arena. -/
structure SameBut (s s' : ArS) (off go k : Nat) : Prop where
 all : s'.all = s.all
 dead : s'.dead = s.dead
 limit : s'.limit = s.limit
 m : ∀ a, (a < off ∨ off + 64 ≤ a) → (a < go ∨ go + k ≤ a) → s'.m a = s.m a
theorem SameBut.refl (s : ArS) (off go k : Nat) : SameBut s s off go k := ⟨rfl, rfl, rfl, fun _ _ _ => rfl⟩
theorem SameBut.bl {s s' : ArS} {off go k : Nat} (h : SameBut s s' off go k) : s'.bl = s.bl := by unfold ArS.bl; rw [h.all, h.dead]
theorem SameBut.live {s s' : ArS} {off go k : Nat} (h : SameBut s s' off go k) : s'.live = s.live := by unfold ArS.live; rw [h.bl]
theorem SameBut.fr {s s' : ArS} {off go k : Nat} (h : SameBut s s' off go k) (c : Int) : s'.frL c = s.frL c := by unfold ArS.frL; rw [h.all, h.dead]
theorem SameBut.trans {s s1 s2 : ArS} {off go k : Nat} (h : SameBut s s1 off go k) (h2 : SameBut s1 s2 off go k) : SameBut s s2 off go k :=
 ⟨h2.all.trans h.all, h2.dead.trans h.dead, h2.limit.trans h.limit, fun a h3 h4 => (h2.m a h3 h4).trans (h.m a h3 h4)⟩
theorem SameBut.good {s s' : ArS} {off go k : Nat} (h : SameBut s s' off go k) {o n : Int} (hg : goodP s o n) : goodP s' o n := by
 obtain ⟨h0, p, hp, q⟩ := hg
 exact ⟨h0, p, by rw [h.bl]; exact hp, q⟩

/-- The group's cells. -/
theorem TabP.grpAt {s : ArS} {off go : Nat} {l : Lay} {n e : Nat} {T : Tb} (h : TabP s off go l n e T) {g : Nat} (hg : g < n) :
  goodP s ((go + g * gN l : Nat) : Int) l.group ∧ GAt s.m (go + g * gN l) l (grpC T.cells g) ∧ (∀ i, i < 8 → (grpC T.cells g i).ok l) ∧ g * gN l + gN l ≤ n * gN l := by
 have hN := layN h.hl
 have hin : g * gN l + gN l ≤ n * gN l := by have := Nat.mul_le_mul_right (gN l) (show g + 1 ≤ n by omega); rw [Nat.add_mul] at this; omega
 exact ⟨by rw [← hN.g]; exact goodP.sub h.gg (by omega) (by omega) (by omega), h.hT.body g hg, fun i hi => h.hT.okc _ (by omega), hin⟩
/-- A cell written. -/
theorem TabP.cell {s : ArS} {off go : Nat} {l : Lay} {n e : Nat} {T : Tb} (h : TabP s off go l n e T) {g i : Nat} (hg : g < n) (hi : i < 8) {c : Cell} (hc : c.ok l) :
  TabP (s.put (go + g * gN l) (gN l) (encG l (updC (grpC T.cells g) i c))) off go l n e { T with cells := updC T.cells (8 * g + i) c } ∧
   SameBut s (s.put (go + g * gN l) (gN l) (encG l (updC (grpC T.cells g) i c))) off go (n * gN l) := by
 obtain ⟨h1, h2, h3, h4⟩ := h.grpAt hg
 refine ⟨⟨h.hl, h.he, h.hn, ?_, h.gh, h.gg, h.hr, h.dj⟩, ⟨rfl, rfl, rfl, fun a _ h6 => by rw [ArS.put_m, lay_out (by omega)]⟩⟩
 refine TAt.grp h.hT h.dj hg (T' := { T with cells := updC T.cells (8 * g + i) c }) (fun j hj => ?_) (fun k _ => ?_) (fun j => ?_) (layN h.hl)
 ·unfold updC; split; exact hc; exact h3 j hj
 ·unfold headV; rfl
 ·show updC T.cells (8 * g + i) c j = _
  by_cases q : j / 8 = g
  ·rw [if_pos q]
   by_cases q2 : j = 8 * g + i
   ·rw [q2, updC_same, show (8 * g + i) % 8 = i by omega, updC_same]
   ·rw [updC_ne _ q2, updC_ne _ (by omega)]
    show T.cells j = T.cells (8 * g + j % 8)
    congr 1; omega
  ·rw [if_neg q, updC_ne _ (by omega)]
/-- A word of the header written. -/
theorem TabP.word {s : ArS} {off go : Nat} {l : Lay} {n e : Nat} {T T' : Tb} (h : TabP s off go l n e T) {k : Nat} (hk : k < 8) {v : Int} (hb : -9223372036854775808 ≤ v ∧ v ≤ 9223372036854775807) (hv : headV T' n go k = v) (ho : ∀ j, j < 8 → j ≠ k → headV T' n go j = headV T n go j) (hc : T'.cells = T.cells) :
  TabP (s.put (off + 8 * k) 8 (byteN (IntKind.u64.wrap v))) off go l n e T' ∧ SameBut s (s.put (off + 8 * k) 8 (byteN (IntKind.u64.wrap v))) off go (n * gN l) := by
 refine ⟨⟨h.hl, h.he, h.hn, TAt.set h.hT h.dj hk hv ho hc, h.gh, h.gg, fun j hj => ?_, h.dj⟩, ⟨rfl, rfl, rfl, fun a h6 _ => by rw [ArS.put_m, lay_out (by omega)]⟩⟩
 by_cases q : j = k
 ·rw [q, hv]; exact hb
 ·rw [ho j hj q]; exact h.hr j hj

theorem head_ne {T T' : Tb} {n go k : Nat} (h0 : k = 0 ∨ T'.kind = T.kind) (h1 : k = 1 ∨ T'.pins = T.pins) (h2 : k = 2 ∨ T'.next = T.next) (h3 : k = 3 ∨ T'.used = T.used) (h5 : k = 5 ∨ T'.left = T.left) (h6 : k = 6 ∨ T'.depth = T.depth) :
  ∀ j, j < 8 → j ≠ k → headV T' n go j = headV T n go j := by
 intro j hj hne
 have : j = 0 ∨ j = 1 ∨ j = 2 ∨ j = 3 ∨ j = 4 ∨ j = 5 ∨ j = 6 ∨ j = 7 := by omega
 rcases this with rfl | rfl | rfl | rfl | rfl | rfl | rfl | rfl
 ·exact h0.resolve_left (Ne.symm hne)
 ·exact h1.resolve_left (Ne.symm hne)
 ·exact h2.resolve_left (Ne.symm hne)
 ·exact h3.resolve_left (Ne.symm hne)
 ·rfl
 ·exact h5.resolve_left (Ne.symm hne)
 ·exact h6.resolve_left (Ne.symm hne)
 ·rfl
/-! ### Puts and deletes -/
def reelem (c : Cell) (e : ByteArray) : Cell := match c with
 | .full t k _ b => .full t k e b
 | c => c
def putT (n : Nat) (T : Tb) (h : Int) (key elem : ByteArray) (birth : Int) : Int × Tb :=
 if 0 ≤ (searchR (h / 128) n T.cells (h % 128) key).slot then
  (1, { T with cells := updC T.cells (searchR (h / 128) n T.cells (h % 128) key).slot.toNat (reelem (T.cells (searchR (h / 128) n T.cells (h % 128) key).slot.toNat) elem) })
 else if (searchR (h / 128) n T.cells (h % 128) key).vac < 0 ∨ ((searchR (h / 128) n T.cells (h % 128) key).emp = true ∧ T.left = 0) then (3, T)
 else (2, { T with used := T.used + 1, left := if (searchR (h / 128) n T.cells (h % 128) key).emp then T.left - 1 else T.left, cells := updC T.cells (searchR (h / 128) n T.cells (h % 128) key).vac.toNat (.full (h % 128) key elem birth) })
/-- How many cells of a slot's group are empty. -/
def passedB (cells : Nat → Cell) (slot : Nat) : Bool := decide ((slotsF (empS (grpC cells (slot / 8)))).length = 0)
def delT (n : Nat) (T : Tb) (h : Int) (key : ByteArray) : Bool × Tb :=
 if 0 ≤ (searchR (h / 128) n T.cells (h % 128) key).slot then
  (true, { T with used := T.used - 1, left := if passedB T.cells (searchR (h / 128) n T.cells (h % 128) key).slot.toNat then T.left else T.left + 1, cells := updC T.cells (searchR (h / 128) n T.cells (h % 128) key).slot.toNat (if passedB T.cells (searchR (h / 128) n T.cells (h % 128) key).slot.toNat then .deleted else .empty) })
 else (false, T)
theorem search_slot {home : Int} {n : Nat} (hn : 0 < n) {cells : Nat → Cell} {tag : Int} {key : ByteArray} (h : 0 ≤ (searchR home n cells tag key).slot) :
  ∃ g i, g < n ∧ i < 8 ∧ (searchR home n cells tag key).slot = ((8 * g + i : Nat) : Int) ∧ ∃ e b, cells (8 * g + i) = .full tag key e b := by
 rcases search_cases home n cells tag key with ⟨k, _, _, hh, e⟩ | ⟨k, _, _, _, _, e⟩ | ⟨_, e⟩
 ·rw [e]
  obtain ⟨e', b', hc⟩ := hit_cell (firstF_lt hh)
  exact ⟨gk home n k, hitAt home n cells tag key k, gk_lt hn, hh, by simp, e', b', hc⟩
 ·rw [e] at h; simp at h
 ·rw [e] at h; simp at h
theorem search_vac {home : Int} {n : Nat} (hn : 0 < n) {cells : Nat → Cell} {tag : Int} {key : ByteArray} (h : 0 ≤ (searchR home n cells tag key).vac) :
  ∃ g i, g < n ∧ i < 8 ∧ (searchR home n cells tag key).vac = ((8 * g + i : Nat) : Int) ∧ isFull (cells (8 * g + i)) = false ∧ (searchR home n cells tag key).emp = isEmp (cells (8 * g + i)) := by
 have hkey : ∀ k, 0 ≤ vacI home n cells k → ∃ g i, g < n ∧ i < 8 ∧ vacI home n cells k = ((8 * g + i : Nat) : Int) ∧ isFull (cells (8 * g + i)) = false ∧ vacE home n cells k = isEmp (cells (8 * g + i)) := fun k hk => by
  obtain ⟨j, _, h1, _, h2, h3⟩ := vac_at (home := home) (n := n) (cells := cells) (k := k) (by omega)
  refine ⟨gk home n j, vacAt home n cells j, gk_lt hn, h1, by rw [h2]; simp, vac_iff.1 (firstF_lt h1), ?_⟩
  rw [h3]
  show empS _ _ = isEmp (grpC cells (gk home n j) (vacAt home n cells j))
  unfold empS isEmp
  cases grpC cells (gk home n j) (vacAt home n cells j) <;> rfl
 rcases search_cases home n cells tag key with ⟨k, _, _, _, e⟩ | ⟨k, _, _, _, _, e⟩ | ⟨_, e⟩
 ·rw [e] at h ⊢; exact hkey k h
 ·rw [e] at h ⊢; exact hkey (k + 1) h
 ·rw [e] at h ⊢; exact hkey n h
theorem putT_cases {off go n e : Nat} {s : ArS} {l : Lay} {T : Tb} (hP : TabP s off go l n e T) (h : Int) (key elem : ByteArray) (birth : Int) :
  (∃ g i e0 b0, g < n ∧ i < 8 ∧ (searchR (h / 128) n T.cells (h % 128) key).slot = ((8 * g + i : Nat) : Int) ∧ T.cells (8 * g + i) = .full (h % 128) key e0 b0 ∧ putT n T h key elem birth = (1, { T with cells := updC T.cells (8 * g + i) (.full (h % 128) key elem b0) })) ∨
  ((searchR (h / 128) n T.cells (h % 128) key).slot < 0 ∧ ((searchR (h / 128) n T.cells (h % 128) key).vac < 0 ∨ ((searchR (h / 128) n T.cells (h % 128) key).emp = true ∧ T.left = 0)) ∧ putT n T h key elem birth = (3, T)) ∨
  (∃ g i, g < n ∧ i < 8 ∧ (searchR (h / 128) n T.cells (h % 128) key).slot < 0 ∧ (searchR (h / 128) n T.cells (h % 128) key).vac = ((8 * g + i : Nat) : Int) ∧ isFull (T.cells (8 * g + i)) = false ∧ (searchR (h / 128) n T.cells (h % 128) key).emp = isEmp (T.cells (8 * g + i)) ∧ ¬ (isEmp (T.cells (8 * g + i)) = true ∧ T.left = 0) ∧
   putT n T h key elem birth = (2, { T with used := T.used + 1, left := if isEmp (T.cells (8 * g + i)) then T.left - 1 else T.left, cells := updC T.cells (8 * g + i) (.full (h % 128) key elem birth) })) := by
 have hn := hP.n0
 by_cases h1 : 0 ≤ (searchR (h / 128) n T.cells (h % 128) key).slot
 ·obtain ⟨g, i, hg, hi, h2, e0, b0, h3⟩ := search_slot hn.1 h1
  refine .inl ⟨g, i, e0, b0, hg, hi, h2, h3, ?_⟩
  unfold putT
  rw [if_pos h1, h2, Int.toNat_natCast, h3]; rfl
 ·by_cases h4 : (searchR (h / 128) n T.cells (h % 128) key).vac < 0 ∨ ((searchR (h / 128) n T.cells (h % 128) key).emp = true ∧ T.left = 0)
  ·exact .inr (.inl ⟨by omega, h4, by unfold putT; rw [if_neg h1, if_pos h4]⟩)
  ·obtain ⟨g, i, hg, hi, h2, h3, h5⟩ := search_vac (home := h / 128) (cells := T.cells) (tag := h % 128) (key := key) hn.1 (by omega)
   refine .inr (.inr ⟨g, i, hg, hi, by omega, h2, h3, h5, fun hq => h4 (.inr (by rw [h5]; exact hq)), ?_⟩)
   unfold putT
   rw [if_neg h1, if_neg h4, h2, Int.toNat_natCast, h5]
end Go.Proofs.YthkajgkagnenbaaGreatDoor.Table
