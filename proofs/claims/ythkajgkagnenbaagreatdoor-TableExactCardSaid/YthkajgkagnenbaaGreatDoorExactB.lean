import Derived.Test.YthkajgkagnenbaaGreatDoorBenchB
import Derived.Test.YthkajgkagnenbaaGreatDoorTableC
import Derived.Test.YthkajgkagnenbaaGreatDoorArenaF
import Derived.Test.YthkajgkagnenbaaGreatDoorTableN
/- What keeps of a table whatever is done to it; several tables in one arena. No program's code. -/
set_option linter.unusedVariables false
set_option linter.unusedSimpArgs false
set_option linter.unusedSectionVars false
set_option maxRecDepth 100000
namespace Go.Proofs.YthkajgkagnenbaaGreatDoor.Exact
open Go.RowKit Go.Proofs Go.Proofs.YthkajgkagnenbaaGreatDoor.Eng Go.Proofs.YthkajgkagnenbaaGreatDoor.Bits Go.Proofs.YthkajgkagnenbaaGreatDoor.Mem Go.Proofs.YthkajgkagnenbaaGreatDoor.Search Go.Proofs.YthkajgkagnenbaaGreatDoor.Arena Go.Proofs.YthkajgkagnenbaaGreatDoor.CtrlB Go.Proofs.YthkajgkagnenbaaGreatDoor.Layout Go.Proofs.YthkajgkagnenbaaGreatDoor.GroupB Go.Proofs.YthkajgkagnenbaaGreatDoor.Probe Go.Proofs.YthkajgkagnenbaaGreatDoor.TableB Go.Proofs.YthkajgkagnenbaaGreatDoor.TableI Go.Proofs.YthkajgkagnenbaaGreatDoor.Table Go.Proofs.YthkajgkagnenbaaGreatDoor.Bench Go.Proofs.YthkajgkagnenbaaGreatDoor.Cells Go.Proofs.YthkajgkagnenbaaGreatDoor.Refill

/-- A table's numbers. -/
structure TRng (n : Nat) (T : Tb) : Prop where
 used : T.used = ((cnt isFull T.cells (8 * n) : Nat) : Int)
 left0 : 0 ≤ T.left
 left1 : T.left + ((cnt isFull T.cells (8 * n) : Nat) : Int) + ((cnt isDel T.cells (8 * n) : Nat) : Int) ≤ 7 * (n : Int)
 pins : 0 ≤ T.pins ∧ T.pins ≤ 4611686018427387904
theorem TRng.new (n : Nat) (d : Int) : TRng n (newT n d) := by
 have h1 : ∀ N, cnt isFull (newT n d).cells N = 0 := fun N => by
  induction N with
  | zero => rfl
  | succ N ih => rw [cnt_succ, ih]; rfl
 have h2 : ∀ N, cnt isDel (newT n d).cells N = 0 := fun N => by
  induction N with
  | zero => rfl
  | succ N ih => rw [cnt_succ, ih]; rfl
 refine ⟨by rw [h1]; rfl, ?_, ?_, by show (0 : Int) ≤ 0 ∧ (0 : Int) ≤ 4611686018427387904; omega⟩
 ·show 0 ≤ 7 * (n : Int); omega
 ·rw [h1, h2]; show 7 * (n : Int) + 0 + 0 ≤ 7 * (n : Int); omega
section
variable {n : Nat} {T T' : Tb} {h : Int} {key elem : ByteArray} {birth out : Int} {b : Bool}
theorem TRng.put (hc : TRng n T) (hr : PutR n T h key elem birth (out, T')) : TRng n T' := by
 have hus := hc.used
 have hl0 := hc.left0
 have hl1 := hc.left1
 cases hr with
 | old p e0 b0 hp hs hcell =>
  have h1 := cnt_upd (p := isFull) hp (cells := T.cells) (.full (h % 128) key elem b0)
  have h2 := cnt_upd (p := isDel) hp (cells := T.cells) (.full (h % 128) key elem b0)
  rw [hcell] at h1 h2
  simp only [isFull, isDel, if_pos, Bool.false_eq_true, if_false] at h1 h2
  exact ⟨by dsimp only; omega, hl0, by dsimp only; omega, hc.pins⟩
 | no _ _ => exact hc
 | new j i hj hi hs hem hf hl =>
  have hp : 8 * gk (h / 128) n j + i < 8 * n := slot_lt (gk_lt (by omega)) hi
  revert hp hf hl
  generalize 8 * gk (h / 128) n j + i = p
  intro hf hl hp
  have h1 := cnt_upd (p := isFull) hp (cells := T.cells) (.full (h % 128) key elem birth)
  have h2 := cnt_upd (p := isDel) hp (cells := T.cells) (.full (h % 128) key elem birth)
  rw [hf] at h1
  simp only [isFull, isDel, if_pos, Bool.false_eq_true, if_false] at h1 h2
  have husd : T.used + 1 = ((cnt isFull (updC T.cells p (.full (h % 128) key elem birth)) (8 * n) : Nat) : Int) := by omega
  cases hcell : T.cells p with
  | empty =>
   rw [hcell] at h2 hl
   simp only [isDel, if_pos, Bool.false_eq_true, if_false] at h2
   have hl := hl rfl
   simp only [isEmp, if_pos]
   exact ⟨husd, by dsimp only; omega, by dsimp only; omega, hc.pins⟩
  | deleted =>
   rw [hcell] at h2
   simp only [isDel, if_pos] at h2
   simp only [isEmp, Bool.false_eq_true, if_false]
   exact ⟨husd, hl0, by dsimp only; omega, hc.pins⟩
  | full t k e b => rw [hcell] at hf; cases hf
theorem TRng.del (hc : TRng n T) (hr : DelR n T h key (b, T')) : TRng n T' := by
 have hus := hc.used
 have hl0 := hc.left0
 have hl1 := hc.left1
 cases hr with
 | no _ => exact hc
 | passed p e0 b0 hp hs hcell hno =>
  have h1 := cnt_upd (p := isFull) hp (cells := T.cells) .deleted
  have h2 := cnt_upd (p := isDel) hp (cells := T.cells) .deleted
  rw [hcell] at h1 h2
  simp only [isFull, isDel, if_pos, Bool.false_eq_true, if_false] at h1 h2
  exact ⟨by dsimp only; omega, hl0, by dsimp only; omega, hc.pins⟩
 | free p q e0 b0 hp hs hcell hq hqe =>
  have h1 := cnt_upd (p := isFull) hp (cells := T.cells) .empty
  have h2 := cnt_upd (p := isDel) hp (cells := T.cells) .empty
  rw [hcell] at h1 h2
  simp only [isFull, isDel, if_pos, Bool.false_eq_true, if_false] at h1 h2
  exact ⟨by dsimp only; omega, by show 0 ≤ T.left + 1; omega, by dsimp only; omega, hc.pins⟩
end
theorem TRng.bnd {n : Nat} {T : Tb} (h : TRng n T) (hn : n ≤ 8192) : (0 ≤ T.used ∧ T.used ≤ 1099511627776) ∧ (0 ≤ T.left ∧ T.left ≤ 1099511627776) := by
 have h1 := h.used
 have h2 := h.left0
 have h3 := h.left1
 have h4 := cnt_le isFull T.cells (8 * n)
 omega

/-! ### Several tables -/
/-- A table of the law: where the document's one lies in the heap, where both lie in the arena. -/
structure PR where
 p : Nat
 off : Nat
 go : Nat
 n : Nat
 e : Nat
 T : Tb
 dead : Bool
 over : Bool
/-- What holds of one table. -/
structure One (s : ArS) (l : Lay) (x : PR) : Prop where
 he : x.e ≤ 13
 hn : x.n = 2 ^ x.e
 rng : TRng x.n x.T
 live : x.dead = false → TabP s x.off x.go l x.n x.e x.T ∧ (((x.off : Nat) : Int), (64 : Int)) ∈ s.bl ∧ (((x.go : Nat) : Int), classI ((x.n * gN l : Nat) : Int)) ∈ s.bl ∧ ((x.n * gN l : Nat) : Int) ≤ 1048576
 gone : x.dead = true → x.over = false → s.dead (x.off : Nat) = true ∧ (∃ c, (((x.off : Nat) : Int), c) ∈ s.all)
 place : x.off ≤ 1000000000
/-- Two tables have no block in common. -/
def apart (x y : PR) : Prop := x.off ≠ y.off ∧ x.off ≠ y.go ∧ x.go ≠ y.off ∧ x.go ≠ y.go
theorem apart.symm {x y : PR} (h : apart x y) : apart y x := ⟨Ne.symm h.1, Ne.symm h.2.2.1, Ne.symm h.2.1, Ne.symm h.2.2.2⟩
/-- What holds of all of them. -/
structure All (s : ArS) (l : Lay) (ps : List PR) : Prop where
 one : ∀ x ∈ ps, One s l x
 two : ∀ (i j : Nat) (x y : PR), i ≠ j → ps[i]? = some x → ps[j]? = some y → x.dead = false → y.dead = false → apart x y
theorem All.nil (s : ArS) (l : Lay) : All s l [] := ⟨fun x hx => (by cases hx), fun i j x y _ h => by simp at h⟩
theorem All.at {s : ArS} {l : Lay} {ps : List PR} (h : All s l ps) {i : Nat} {x : PR} (hx : ps[i]? = some x) : One s l x := h.one x (List.mem_of_getElem? hx)
/-- Two live blocks are one, or lie apart. -/
theorem bl_apart {s : ArS} (hs : s.ok) {p q : Int × Int} (hp : p ∈ s.bl) (hq : q ∈ s.bl) (hne : p.1 ≠ q.1) : p.1 + p.2 ≤ q.1 ∨ q.1 + q.2 ≤ p.1 := by
 rcases chain_apart hs.chain (mem_bl.1 hp).1 (mem_bl.1 hq).1 with e | e | e
 ·rw [e] at hne; exact absurd rfl hne
 ·exact .inl e
 ·exact .inr e
theorem cls_ge {k : Nat} {c : Int} (hc : c = classI (k : Int)) (h1 : (k : Int) ≤ 1048576) : (k : Int) ≤ c := by
 rcases Nat.eq_zero_or_pos k with q | q
 ·subst q; rw [hc]; decide
 ·have := (classI_bnd (n := (k : Int)) (by omega)).2.2 h1; omega
/-- A table stays where another one's blocks turn. -/
theorem One.same {s s' : ArS} (hs : s.ok) {l : Lay} {x y : PR} (hx : One s l x) (hy : One s l y) (hdy : y.dead = false) (hap : x.dead = false → apart x y) (hS : SameBut s s' y.off y.go (y.n * gN l)) : One s' l x := by
 refine ⟨hx.he, hx.hn, hx.rng, fun hd => ?_, fun hd ho => ?_, hx.place⟩
 ·obtain ⟨h1, h2, h3, h4⟩ := hx.live hd
  obtain ⟨g1, g2, g3, g4⟩ := hy.live hdy
  obtain ⟨a1, a2, a3, a4⟩ := hap hd
  have k1 := cls_ge rfl h4
  have k2 := cls_ge rfl g4
  have b1 := bl_apart hs h2 g2 (by dsimp only; omega)
  have b2 := bl_apart hs h2 g3 (by dsimp only; omega)
  have b3 := bl_apart hs h3 g2 (by dsimp only; omega)
  have b4 := bl_apart hs h3 g3 (by dsimp only; omega)
  dsimp only at b1 b2 b3 b4
  rw [hS.bl]
  exact ⟨TabP.same h1 hS (by omega) (by omega) (by omega) (by omega), h2, h3, h4⟩
 ·obtain ⟨h1, c, h2⟩ := hx.gone hd ho
  rw [hS.dead, hS.all]
  exact ⟨h1, c, h2⟩
/-- One table turns. -/
theorem All.set {s s' : ArS} (hs : s.ok) {l : Lay} {ps : List PR} (h : All s l ps) {i : Nat} {y : PR} (hy : ps[i]? = some y) (hd : y.dead = false) (hS : SameBut s s' y.off y.go (y.n * gN l)) {T' : Tb} (hT : TabP s' y.off y.go l y.n y.e T') (hr : TRng y.n T') : All s' l (ps.set i { y with T := T' }) := by
 have hil : i < ps.length := by rcases Nat.lt_or_ge i ps.length with q | q; exact q; rw [List.getElem?_eq_none q] at hy; cases hy
 have hget : ∀ {j : Nat} {x : PR}, (ps.set i { y with T := T' })[j]? = some x → (j = i ∧ x = { y with T := T' }) ∨ (j ≠ i ∧ ps[j]? = some x) := fun {j x} hx => by
  rw [List.getElem?_set] at hx
  split at hx
  ·next q => subst q; simp only [hil, if_true, Option.some.injEq] at hx; exact .inl ⟨rfl, hx.symm⟩
  ·next q => exact .inr ⟨Ne.symm q, hx⟩
 refine ⟨fun x hx => ?_, fun j k x z hjk hx hz hdx hdz => ?_⟩
 ·obtain ⟨j, hj, rfl⟩ := List.getElem_of_mem hx
  rcases hget (List.getElem?_eq_getElem hj) with ⟨_, e⟩ | ⟨hne, hx2⟩
  ·rw [e]
   have h0 := h.at hy
   obtain ⟨g1, g2, g3, g4⟩ := h0.live hd
   exact ⟨h0.he, h0.hn, hr, fun _ => ⟨hT, by rw [hS.bl]; exact g2, by rw [hS.bl]; exact g3, g4⟩, fun q => (by rw [show ({ y with T := T' } : PR).dead = y.dead from rfl, hd] at q; cases q), h0.place⟩
  ·exact (h.at hx2).same hs (h.at hy) hd (fun q => h.two j i _ _ hne hx2 hy q hd) hS
 ·rcases hget hx with ⟨rfl, rfl⟩ | ⟨hne, hx2⟩
  ·rcases hget hz with ⟨rfl, _⟩ | ⟨hne2, hz2⟩
   ·exact absurd rfl hjk
   ·exact h.two j k y z hjk hy hz2 hd hdz
  ·rcases hget hz with ⟨rfl, rfl⟩ | ⟨hne2, hz2⟩
   ·exact h.two j k x y hjk hx2 hy hdx hd
   ·exact h.two j k x z hjk hx2 hz2 hdx hdz
/-- The dead ones are over. -/
def overP (x : PR) : PR := { x with over := x.over || x.dead }
/-- Blocks are taken: the dead ones are over. -/
theorem All.over {s s' : ArS} {l : Lay} {ps : List PR} (h : All s l ps) (hg : ∀ p ∈ s.bl, p ∈ s'.bl) (hm : ∀ p ∈ s.bl, ∀ a : Nat, p.1 ≤ a → (a : Int) < p.1 + p.2 → s'.m a = s.m a) : All s' l (ps.map overP) := by
 refine ⟨fun x hx => ?_, fun i j x y hij hx hy hdx hdy => ?_⟩
 ·obtain ⟨y, hy, rfl⟩ := List.mem_map.1 hx
  have h0 := h.one y hy
  refine ⟨h0.he, h0.hn, h0.rng, fun hd => ?_, fun hd ho => ?_, h0.place⟩
  ·obtain ⟨g1, g2, g3, g4⟩ := h0.live hd
   show TabP s' y.off y.go l y.n y.e y.T ∧ _
   refine ⟨TabP.moved g1 (fun o k hk => ?_) (fun a h1 h2 => hm _ g2 a (by dsimp only; omega) (by dsimp only; omega)) (fun a h1 h2 => hm _ g3 a (by dsimp only; omega) (by have := cls_ge (k := y.n * gN l) rfl g4; dsimp only; omega)), hg _ g2, hg _ g3, g4⟩
   obtain ⟨k0, p, hp, q⟩ := hk
   exact ⟨k0, p, hg p hp, q⟩
  ·unfold overP at hd ho
   dsimp only at hd ho
   rw [hd, Bool.or_true] at ho
   cases ho
 ·rw [List.getElem?_map] at hx hy
  obtain ⟨x', hx', rfl⟩ := Option.map_eq_some_iff.1 hx
  obtain ⟨y', hy', rfl⟩ := Option.map_eq_some_iff.1 hy
  exact h.two i j x' y' hij hx' hy' hdx hdy
theorem tab_moved {s s' : ArS} {off go : Nat} {l : Lay} {n e : Nat} {T : Tb} (h : TabP s off go l n e T) (hgh : goodP s' (off : Nat) 64) (hgg : goodP s' (go : Nat) ((n * gN l : Nat) : Int)) (hm : s'.m = s.m) : TabP s' off go l n e T := by
 refine ⟨h.hl, h.he, h.hn, ⟨fun k hk => ?_, fun g hg' j hj => ?_, h.hT.okc⟩, hgh, hgg, h.hr, h.dj⟩
 ·rw [hm]; exact h.hT.head k hk
 ·rw [hm]; exact h.hT.body g hg' j hj
theorem bl_good {s : ArS} {o : Nat} {c k : Int} (h : (((o : Nat) : Int), c) ∈ s.bl) (h0 : 0 ≤ k) (hk : k ≤ c) : goodP s (o : Nat) k := ⟨h0, _, h, Int.le_refl _, by dsimp only; omega⟩
/-- One table is freed. -/
theorem All.free {s : ArS} (hs : s.ok) {l : Lay} {ps : List PR} (h : All s l ps) {i : Nat} {y : PR} (hy : ps[i]? = some y) (hd : y.dead = false) : All (s.gives [((y.off : Nat) : Int), ((y.go : Nat) : Int)]) l (ps.set i { y with dead := true }) := by
 have hil : i < ps.length := by rcases Nat.lt_or_ge i ps.length with q | q; exact q; rw [List.getElem?_eq_none q] at hy; cases hy
 obtain ⟨g1, g2, g3, g4⟩ := (h.at hy).live hd
 have hget : ∀ {j : Nat} {x : PR}, (ps.set i { y with dead := true })[j]? = some x → (j = i ∧ x = { y with dead := true }) ∨ (j ≠ i ∧ ps[j]? = some x) := fun {j x} hx => by
  rw [List.getElem?_set] at hx
  split at hx
  ·next q => subst q; simp only [hil, if_true, Option.some.injEq] at hx; exact .inl ⟨rfl, hx.symm⟩
  ·next q => exact .inr ⟨Ne.symm q, hx⟩
 have hdead : ∀ o, s.dead o = true → (s.gives [((y.off : Nat) : Int), ((y.go : Nat) : Int)]).dead o = true := fun o ho => by rw [gives_dead, ho]; rfl
 refine ⟨fun x hx => ?_, fun j k x z hjk hx hz hdx hdz => ?_⟩
 ·obtain ⟨j, hj, rfl⟩ := List.getElem_of_mem hx
  rcases hget (List.getElem?_eq_getElem hj) with ⟨_, e⟩ | ⟨hne, hx2⟩
  ·rw [e]
   have h0 := h.at hy
   refine ⟨h0.he, h0.hn, h0.rng, fun q => (by cases q), fun _ _ => ⟨?_, 64, ?_⟩, h0.place⟩
   ·rw [gives_dead]; simp
   ·rw [gives_all]; exact (mem_bl.1 g2).1
  ·have h0 := h.at hx2
   refine ⟨h0.he, h0.hn, h0.rng, fun q => ?_, fun q1 q2 => ?_, h0.place⟩
   ·obtain ⟨f1, f2, f3, f4⟩ := h0.live q
    obtain ⟨a1, a2, a3, a4⟩ := h.two j i _ _ hne hx2 hy q hd
    have b2 : ((((ps.set i { y with dead := true })[j].off : Nat) : Int), (64 : Int)) ∈ (s.gives [((y.off : Nat) : Int), ((y.go : Nat) : Int)]).bl := gives_bl.2 ⟨f2, by simp; omega⟩
    have b3 : ((((ps.set i { y with dead := true })[j].go : Nat) : Int), classI (((ps.set i { y with dead := true })[j].n * gN l : Nat) : Int)) ∈ (s.gives [((y.off : Nat) : Int), ((y.go : Nat) : Int)]).bl := gives_bl.2 ⟨f3, by simp; omega⟩
    exact ⟨tab_moved f1 (bl_good b2 (by decide) (by decide)) (bl_good b3 (by omega) (cls_ge rfl f4)) (gives_m _ _).1, b2, b3, f4⟩
   ·obtain ⟨f1, c, f2⟩ := h0.gone q1 q2
    exact ⟨hdead _ f1, c, by rw [gives_all]; exact f2⟩
 ·rcases hget hx with ⟨rfl, rfl⟩ | ⟨hne, hx2⟩
  ·cases hdx
  ·rcases hget hz with ⟨rfl, rfl⟩ | ⟨hne2, hz2⟩
   ·cases hdz
   ·exact h.two j k x z hjk hx2 hz2 hdx hdz
/-- One more table. -/
theorem All.push {s s' : ArS} (hs : s.ok) {l : Lay} {ps : List PR} (h : All s l ps) {c : Int} (hc : 1 ≤ c) (hfit : s.live + 64 ≤ s.limit) (hN : NewS s s' c) {x : PR} (hx : One s' l x) (ho : x.off = s.at 64) (hgo : x.go = (s.take 64).at c) : All s' l (ps.map overP ++ [x]) := by
 have hA := h.over (s' := s') (fun p hp => (hN.bl p).2 (.inl hp)) hN.m
 have ok64 := ArS.take_ok hs c64 hfit
 have hap : ∀ y ∈ ps, y.dead = false → apart y x := fun y hy hd => by
  obtain ⟨_, g2, g3, g4⟩ := (h.one y hy).live hd
  have a1 := take_apart hs g2 (c := 64) (by decide)
  have a2 := take_apart hs g3 (c := 64) (by decide)
  have a3 := take_apart ok64 ((take_bl hs).2 (.inl g2)) hc
  have a4 := take_apart ok64 ((take_bl hs).2 (.inl g3)) hc
  have p3 := (ArS.chain_pos hs.chain _ (mem_bl.1 g3).1).2
  dsimp only at a1 a2 a3 a4 p3
  refine ⟨?_, ?_, ?_, ?_⟩ <;> omega
 refine ⟨fun y hy => ?_, fun i j y z hij hy hz hdy hdz => ?_⟩
 ·rcases List.mem_append.1 hy with q | q
  ·exact hA.one y q
  ·rw [List.mem_singleton.1 q]; exact hx
 ·have hcase : ∀ {i : Nat} {y : PR}, (ps.map overP ++ [x])[i]? = some y → (i < ps.length ∧ (ps.map overP)[i]? = some y) ∨ (i = ps.length ∧ y = x) := fun {i y} hy => by
   rcases Nat.lt_trichotomy i ps.length with q | q | q
   ·rw [List.getElem?_append_left (by simpa using q)] at hy; exact .inl ⟨q, hy⟩
   ·subst q
    rw [List.getElem?_append_right (by simp)] at hy
    simp at hy
    exact .inr ⟨rfl, hy.symm⟩
   ·rw [List.getElem?_eq_none (by simp; omega)] at hy; cases hy
  have hold : ∀ {i : Nat} {y : PR}, (ps.map overP)[i]? = some y → y.dead = false → apart y x := fun {i y} hy hd => by
   rw [List.getElem?_map] at hy
   obtain ⟨y', hy', rfl⟩ := Option.map_eq_some_iff.1 hy
   exact hap y' (List.mem_of_getElem? hy') hd
  rcases hcase hy with ⟨a1, a2⟩ | ⟨a1, a2⟩
  ·rcases hcase hz with ⟨b1, b2⟩ | ⟨b1, b2⟩
   ·exact hA.two i j y z hij a2 b2 hdy hdz
   ·rw [b2]; exact hold a2 hdy
  ·rcases hcase hz with ⟨b1, b2⟩ | ⟨b1, b2⟩
   ·rw [a2]; exact (hold b2 hdz).symm
   ·omega
/-- A dead table's header is in no live block. -/
theorem One.not {s : ArS} (hs : s.ok) {l : Lay} {x : PR} (h : One s l x) (hd : x.dead = true) (ho : x.over = false) : ¬ goodP s (x.off : Nat) 8 ∧ s.all ≠ [] := by
 obtain ⟨h1, c, h2⟩ := h.gone hd ho
 refine ⟨fun hg => ?_, fun e => by rw [e] at h2; cases h2⟩
 obtain ⟨_, p, hp, q1, q2⟩ := hg
 obtain ⟨hp1, hp2⟩ := mem_bl.1 hp
 have pos := (ArS.chain_pos hs.chain _ h2).2
 rcases chain_apart hs.chain hp1 h2 with e | e | e
 ·rw [e] at hp2; dsimp only at hp2; rw [h1] at hp2; cases hp2
 ·dsimp only at e; omega
 ·dsimp only at e; omega
end Go.Proofs.YthkajgkagnenbaaGreatDoor.Exact
