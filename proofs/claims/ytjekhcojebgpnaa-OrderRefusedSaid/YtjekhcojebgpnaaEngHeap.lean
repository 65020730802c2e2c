/- A logic of separate pieces of memory over the model's worlds: pieces, how they lie beside one another, what the world's own steps do to them. No program. -/
import Derived.RowKit3
import Derived.Below
import Derived.RangeFuncRecord
set_option linter.unusedVariables false
set_option linter.unusedSimpArgs false
namespace Go.Proofs.Ytjekhcojebgpnaa.Eng
theorem _root_.Go.Proofs.Ytjekhcojebgpnaa.O {A : Sort _} {a : A} : a = a := rfl
open Go.RowKit

/-- A part of the heap. -/
abbrev Part := Nat → Option Obj
/-- What can be said of a part of the heap. -/
abbrev HP := Part → Prop

def Part.disj (f g : Part) : Prop := ∀ b, f b = none ∨ g b = none
def Part.join (f g : Part) : Part := fun b => match f b with | some o => some o | none => g b
def Part.none : Part := fun _ => Option.none
def Part.one (b : Nat) (o : Obj) : Part := fun k => if k = b then some o else Option.none

theorem Part.disj_comm {f g : Part} (h : f.disj g) : g.disj f := fun b => (h b).symm
theorem Part.join_comm {f g : Part} (h : f.disj g) : f.join g = g.join f := by
  funext b; simp only [Part.join]
  rcases h b with h | h <;> rw [h] <;> cases hf : f b <;> cases hg : g b <;> simp_all
theorem Part.join_assoc (f g h : Part) : (f.join g).join h = f.join (g.join h) := by
  funext b; simp only [Part.join]; cases f b <;> rfl
theorem Part.join_none (f : Part) : f.join Part.none = f := by funext b; simp only [Part.join, Part.none]; cases f b <;> rfl
theorem Part.none_join (f : Part) : Part.none.join f = f := by funext b; rfl
theorem Part.disj_none (f : Part) : f.disj Part.none := fun b => .inr rfl
theorem Part.none_disj (f : Part) : Part.none.disj f := fun b => .inl rfl
theorem Part.join_eq_none {f g : Part} {b : Nat} : f.join g b = Option.none ↔ f b = Option.none ∧ g b = Option.none := by
  simp only [Part.join]; cases f b <;> simp
theorem Part.disj_join_right {f g h : Part} : f.disj (g.join h) ↔ f.disj g ∧ f.disj h := by
  constructor
  · intro k
    exact ⟨fun b => (k b).imp id fun e => (Part.join_eq_none.1 e).1, fun b => (k b).imp id fun e => (Part.join_eq_none.1 e).2⟩
  · rintro ⟨k1, k2⟩ b
    rcases k1 b with e | e
    · exact .inl e
    · rcases k2 b with e' | e'
      · exact .inl e'
      · exact .inr (Part.join_eq_none.2 ⟨e, e'⟩)
theorem Part.disj_join_left {f g h : Part} : (f.join g).disj h ↔ f.disj h ∧ g.disj h :=
  ⟨fun k => let ⟨a, b⟩ := Part.disj_join_right.1 (Part.disj_comm k); ⟨Part.disj_comm a, Part.disj_comm b⟩,
   fun ⟨a, b⟩ => Part.disj_comm (Part.disj_join_right.2 ⟨Part.disj_comm a, Part.disj_comm b⟩)⟩

def star (A B : HP) : HP := fun h => ∃ f g, A f ∧ B g ∧ f.disj g ∧ h = f.join g
def emp : HP := fun h => h = Part.none
def pt (b : Nat) (o : Obj) : HP := fun h => h = Part.one b o

/-- Pieces side by side. -/
def stars : List HP → HP
  | [] => emp
  | A :: L => star A (stars L)

theorem star_comm {A B : HP} {h : Part} (k : star A B h) : star B A h := by
  obtain ⟨f, g, a, b, d, rfl⟩ := k
  exact ⟨g, f, b, a, Part.disj_comm d, Part.join_comm d⟩
theorem star_assoc {A B C : HP} {h : Part} : star (star A B) C h ↔ star A (star B C) h := by
  constructor
  · rintro ⟨_, g, ⟨f1, f2, a, b, d1, rfl⟩, c, d2, rfl⟩
    obtain ⟨d3, d4⟩ := Part.disj_join_left.1 d2
    exact ⟨f1, f2.join g, a, ⟨f2, g, b, c, d4, rfl⟩, Part.disj_join_right.2 ⟨d1, d3⟩, Part.join_assoc _ _ _⟩
  · rintro ⟨f, _, a, ⟨g1, g2, b, c, d1, rfl⟩, d2, rfl⟩
    obtain ⟨d3, d4⟩ := Part.disj_join_right.1 d2
    exact ⟨f.join g1, g2, ⟨f, g1, a, b, d3, rfl⟩, c, Part.disj_join_left.2 ⟨d4, d1⟩, (Part.join_assoc _ _ _).symm⟩
theorem star_mono {A A' B B' : HP} (h1 : ∀ h, A h → A' h) (h2 : ∀ h, B h → B' h) {h : Part} (k : star A B h) : star A' B' h := by
  obtain ⟨f, g, a, b, d, rfl⟩ := k
  exact ⟨f, g, h1 _ a, h2 _ b, d, rfl⟩

theorem stars_append {L M : List HP} {h : Part} : stars (L ++ M) h ↔ star (stars L) (stars M) h := by
  induction L generalizing h with
  | nil =>
    constructor
    · intro k; exact ⟨Part.none, h, rfl, k, Part.none_disj _, (Part.none_join _).symm⟩
    · rintro ⟨f, g, rfl, b, d, rfl⟩; rw [Part.none_join]; exact b
  | cons A L ih =>
    show star A (stars (L ++ M)) h ↔ _
    rw [show stars (A :: L) = star A (stars L) from rfl, star_assoc]
    constructor
    · exact star_mono (fun _ k => k) fun _ k => ih.1 k
    · exact star_mono (fun _ k => k) fun _ k => ih.2 k

/-- The part lies in the world. -/
def Part.inW (f : Part) (w : World) : Prop := ∀ b o, f b = some o → w.heap[b]? = some o

/-- What holds of a part of the world's heap. -/
def Sat (A : HP) (w : World) : Prop := ∃ f : Part, f.inW w ∧ A f

theorem Sat.mono {A B : HP} {w : World} (h : Sat A w) (k : ∀ f, A f → B f) : Sat B w := let ⟨f, a, b⟩ := h; ⟨f, a, k f b⟩
theorem Part.inW_join {f g : Part} {w : World} (h1 : f.inW w) (h2 : g.inW w) : (f.join g).inW w := fun b o e => by
  simp only [Part.join] at e
  cases hf : f b with
  | some x => rw [hf] at e; cases e; exact h1 b o hf
  | none => rw [hf] at e; exact h2 b o e
theorem Part.inW_left {f g : Part} {w : World} (h : (f.join g).inW w) : f.inW w := fun b o e => h b o (by simp only [Part.join, e])
theorem Part.inW_right {f g : Part} {w : World} (d : f.disj g) (h : (f.join g).inW w) : g.inW w := fun b o e => h b o (by
  rcases d b with k | k
  · simp only [Part.join, k, e]
  · rw [k] at e; cases e)

theorem Sat.left {A B : HP} {w : World} (h : Sat (star A B) w) : Sat A w := by
  obtain ⟨_, hi, f, g, a, b, d, rfl⟩ := h; exact ⟨f, Part.inW_left hi, a⟩
theorem Sat.right {A B : HP} {w : World} (h : Sat (star A B) w) : Sat B w := by
  obtain ⟨_, hi, f, g, a, b, d, rfl⟩ := h; exact ⟨g, Part.inW_right d hi, b⟩
/-- Taking one piece out of a row of pieces. -/
inductive Take : HP → List HP → List HP → Prop
  | here {A : HP} {L : List HP} : Take A (A :: L) L
  | there {A B : HP} {L M : List HP} : Take A L M → Take A (B :: L) (B :: M)
/-- Taking several. -/
inductive Pick : List HP → List HP → List HP → Prop
  | nil {L : List HP} : Pick [] L L
  | cons {A : HP} {D L M R : List HP} : Take A L M → Pick D M R → Pick (A :: D) L R

theorem Take.stars {A : HP} {L M : List HP} (h : Take A L M) {f : Part} : stars L f ↔ star A (Eng.stars M) f := by
  induction h generalizing f with
  | here => exact Iff.rfl
  | @there B L M _ ih =>
    show star B (Eng.stars L) f ↔ star A (star B (Eng.stars M)) f
    rw [← star_assoc]
    constructor
    · intro k
      exact star_mono (fun _ x => star_comm x) (fun _ x => x) (star_assoc.2 (star_mono (fun _ x => x) (fun _ x => ih.1 x) k))
    · intro k
      exact star_mono (fun _ x => x) (fun _ x => ih.2 x) (star_assoc.1 (star_mono (fun _ x => star_comm x) (fun _ x => x) k))
theorem Pick.stars {D L R : List HP} (h : Pick D L R) {f : Part} : stars L f ↔ Eng.stars (D ++ R) f := by
  induction h generalizing f with
  | nil => exact Iff.rfl
  | @cons A D L M R t _ ih =>
    rw [t.stars]
    exact ⟨star_mono (fun _ x => x) fun _ x => ih.1 x, star_mono (fun _ x => x) fun _ x => ih.2 x⟩
theorem stars_perm {L M : List HP} (h : L.Perm M) : ∀ {f : Part}, stars L f ↔ Eng.stars M f := by
  induction h with
  | nil => exact Iff.rfl
  | cons A _ ih => exact ⟨star_mono (fun _ k => k) fun _ k => ih.1 k, star_mono (fun _ k => k) fun _ k => ih.2 k⟩
  | swap A B L =>
    intro f
    constructor
    · intro k; exact star_assoc.1 (star_mono (fun _ x => star_comm x) (fun _ x => x) (star_assoc.2 k))
    · intro k; exact star_assoc.1 (star_mono (fun _ x => star_comm x) (fun _ x => x) (star_assoc.2 k))
  | trans _ _ ih1 ih2 => exact ih1.trans ih2
theorem Sat.perm {L M : List HP} {w : World} (h : Sat (stars L) w) (p : L.Perm M) : Sat (Eng.stars M) w := h.mono fun _ => (stars_perm p).1
theorem Take.perm {A : HP} {L M : List HP} (h : Take A L M) : L.Perm (A :: M) := by
  induction h with
  | here => exact .refl _
  | there _ ih => exact (List.Perm.cons _ ih).trans (.swap _ _ _)
theorem Pick.perm {D L R : List HP} (h : Pick D L R) : L.Perm (D ++ R) := by
  induction h with
  | nil => exact .refl _
  | cons t _ ih => exact t.perm.trans (.cons _ ih)
theorem Sat.pick {D L R : List HP} {w : World} (h : Sat (stars L) w) (p : Pick D L R) : Sat (stars (D ++ R)) w := h.mono fun _ => p.stars.1
theorem Sat.take {A : HP} {L M : List HP} {w : World} (h : Sat (stars L) w) (t : Take A L M) : Sat (star A (stars M)) w := h.mono fun _ => t.stars.1
theorem Sat.tail {A : HP} {L : List HP} {w : World} (h : Sat (stars (A :: L)) w) : Sat (stars L) w := Sat.right h
theorem Sat.drop {L M : List HP} {w : World} (h : Sat (stars (L ++ M)) w) : Sat (stars L) w := Sat.left (h.mono fun _ => stars_append.1)

/-- Rows of pieces, the one out of the other (what is left over is let go). -/
def Ent (L M : List HP) : Prop := ∀ w, Sat (stars L) w → Sat (stars M) w
theorem Ent.refl (L : List HP) : Ent L L := fun _ h => h
theorem Ent.pick {D L R : List HP} (p : Pick D L R) : Ent L D := fun _ h => (h.pick p).drop
theorem Ent.perm {L M : List HP} (p : L.Perm M) : Ent L M := fun _ h => h.perm p
theorem Ent.trans {L M N : List HP} (h : Ent L M) (k : Ent M N) : Ent L N := fun w x => k w (h w x)

/-- Letting pieces go. -/
inductive Drop : List HP → List HP → Prop
  | refl {L : List HP} : Drop L L
  | skip {A : HP} {L M : List HP} : Drop L M → Drop (A :: L) M
theorem Drop.sat {L M : List HP} (h : Drop L M) {w : World} (hs : Sat (stars L) w) : Sat (stars M) w := by
  induction h with
  | refl => exact hs
  | skip _ ih => exact ih hs.tail
/-- One row of pieces out of another, piece by piece; the last may be a row that is not known. -/
inductive Sel : List HP → List HP → Prop
  | nil {L : List HP} : Sel [] L
  | rest {L F : List HP} : Drop L F → Sel F L
  | cons {A : HP} {D L M : List HP} : Take A L M → Sel D M → Sel (A :: D) L
theorem Drop.perm {L F : List HP} (h : Drop L F) : ∃ G, L.Perm (F ++ G) := by
  induction h with
  | refl => exact ⟨[], by simp⟩
  | @skip A L M _ ih =>
    obtain ⟨G, hG⟩ := ih
    exact ⟨A :: G, (hG.cons A).trans List.perm_middle.symm⟩
theorem Sel.perm {D L : List HP} (h : Sel D L) : ∃ G, L.Perm (D ++ G) := by
  induction h with
  | @nil L => exact ⟨L, .refl _⟩
  | rest d => exact d.perm
  | cons t _ ih =>
    obtain ⟨G, hG⟩ := ih
    exact ⟨G, t.perm.trans (hG.cons _)⟩
theorem Sel.ent {D L : List HP} (h : Sel D L) : Ent L D := fun w hs => by
  obtain ⟨G, hG⟩ := h.perm
  exact (hs.perm hG).drop

theorem pt_block {b : Nat} {o : Obj} {w : World} (h : Sat (pt b o) w) : w.heap[b]? = some o := by
  obtain ⟨f, hi, rfl⟩ := h
  exact hi b o (by simp [Part.one])
theorem Sat.block {b : Nat} {o : Obj} {L M : List HP} {w : World} (h : Sat (stars L) w) (t : Take (pt b o) L M) : w.heap[b]? = some o := pt_block (h.take t).left

/-- Two worlds whose heaps agree but at block b (which the second has as o'). -/
theorem Sat.turn {b : Nat} {o o' : Obj} {A : HP} {w w' : World} (h : Sat (star (pt b o) A) w) (hb : w'.heap[b]? = some o') (hk : ∀ k, k ≠ b → k < w.heap.size → w'.heap[k]? = w.heap[k]?) : Sat (star (pt b o') A) w' := by
  obtain ⟨_, hi, f, g, rfl, a, d, rfl⟩ := h
  refine ⟨(Part.one b o').join g, Part.inW_join (fun k x e => ?_) (fun k x e => ?_), Part.one b o', g, rfl, a, fun k => ?_, rfl⟩
  · simp only [Part.one] at e; split at e
    · next q => subst q; cases e; exact hb
    · cases e
  · have := Part.inW_right d hi k x e
    rw [hk k ?_ (Array.getElem?_eq_some_iff.1 this).1]
    · exact this
    · rintro rfl
      rcases d k with q | q
      · simp [Part.one] at q
      · rw [q] at e; cases e
  · rcases d k with q | q
    · refine .inl ?_
      simp only [Part.one] at q ⊢
      split at q
      · cases q
      · next n => rw [if_neg n]
    · exact .inr q

theorem Sat.grow {A : HP} {w w' : World} (h : Sat A w) (hk : ∀ k, k < w.heap.size → w'.heap[k]? = w.heap[k]?) : Sat A w' := by
  obtain ⟨f, hi, a⟩ := h
  exact ⟨f, fun b o e => by rw [hk b (Array.getElem?_eq_some_iff.1 (hi b o e)).1]; exact hi b o e, a⟩

theorem Sat.setCell {b off : Nat} {cs : Array Value} {t : TypeId} {fr : Nat × Nat} {A : HP} {w : World} (h : Sat (star (pt b (.cells cs t fr)) A) w) (v : Value) :
    Sat (star (pt b (.cells (cs.setIfInBounds off v) t fr)) A) (w.setCell ⟨b, off, none⟩ v) := by
  refine h.turn ?_ fun k hk _ => Below.heap_setCell _ _ _ _ hk
  simp only [World.setCell, Array.getElem?_modify, pt_block h.left]
  simp
theorem Sat.putObj {b : Nat} {o : Obj} {A : HP} {w : World} (h : Sat (star (pt b o) A) w) (o' : Obj) : Sat (star (pt b o') A) (w.putObj b o') :=
  h.turn (World.putObj_heap_same (Array.getElem?_eq_some_iff.1 (pt_block h.left)).1) fun _ hk _ => World.putObj_heap_other hk
theorem Sat.alloc {A : HP} {w : World} (h : Sat A w) (o : Obj) : Sat (star (pt w.heap.size o) A) (w.alloc o) := by
  obtain ⟨f, hi, a⟩ := h
  have hlt : ∀ b x, f b = some x → b < w.heap.size := fun b x e => (Array.getElem?_eq_some_iff.1 (hi b x e)).1
  refine ⟨(Part.one w.heap.size o).join f, Part.inW_join (fun k x e => ?_) (fun k x e => ?_), _, f, rfl, a, fun k => ?_, rfl⟩
  · simp only [Part.one] at e; split at e
    · next q => subst q; cases e; exact World.alloc_heap_new w o
    · cases e
  · rw [Below.heap_alloc _ _ _ (hlt k x e)]; exact hi k x e
  · by_cases q : k = w.heap.size
    · refine .inr ?_
      cases e : f k with
      | none => rfl
      | some x => have := hlt k x e; omega
    · exact .inl (by simp [Part.one, q])
theorem Sat.drew {A : HP} {w : World} (h : Sat A w) : Sat A w.drew := h
theorem Sat.drawn {A : HP} {w : World} (h : Sat A w) (n : Nat) : Sat A { w with drawn := n } := h

/-- What the streams and the tape were; no block has gone. -/
structure Ext (w w' : World) : Prop where
  os : w'.os = w.os
  tape : w'.tape = w.tape
  output : w'.output = w.output
  size : w.heap.size ≤ w'.heap.size
theorem Ext.refl (w : World) : Ext w w := ⟨rfl, rfl, rfl, Nat.le_refl _⟩
theorem Ext.trans {a b c : World} (h : Ext a b) (k : Ext b c) : Ext a c := ⟨k.os.trans h.os, k.tape.trans h.tape, k.output.trans h.output, Nat.le_trans h.size k.size⟩
theorem Ext.setCell {a w : World} (h : Ext a w) (p : Addr) (v : Value) : Ext a (w.setCell p v) := h.trans ⟨rfl, rfl, rfl, by simp [World.setCell]⟩
theorem Ext.alloc {a w : World} (h : Ext a w) (o : Obj) : Ext a (w.alloc o) := h.trans ⟨rfl, rfl, rfl, by simp⟩
theorem Ext.putObj {a w : World} (h : Ext a w) (b : Nat) (o : Obj) : Ext a (w.putObj b o) := h.trans ⟨rfl, rfl, rfl, by simp⟩
theorem Ext.drew {a w : World} (h : Ext a w) : Ext a w.drew := h.trans ⟨rfl, rfl, rfl, Nat.le_refl _⟩
theorem Ext.drawn {a w : World} (h : Ext a w) (n : Nat) : Ext a { w with drawn := n } := h.trans ⟨rfl, rfl, rfl, Nat.le_refl _⟩

/-- All that lay in the world at one time. -/
def old (w : World) : HP := fun f => f = fun b => w.heap[b]?
theorem Sat.old (w : World) : Sat (Eng.old w) w := ⟨_, fun _ _ e => e, rfl⟩
theorem below_of_old {w w' : World} (h : Sat (Eng.old w) w') (e : Ext w w') : Below w.heap.size w w' := by
  obtain ⟨f, hi, rfl⟩ := h
  refine ⟨e.os, e.tape, e.output, e.size, fun k hk => ?_⟩
  have : w.heap[k]? = some w.heap[k] := Array.getElem?_eq_getElem hk
  rw [this]; exact hi k _ this
/-! ### The searches, under short names (each runs its tactic where it is used) -/
theorem tk {A : HP} {L M : List HP} (h : Take A L M := by repeat (first | with_reducible exact Take.here | apply Take.there)) : Take A L M := h
theorem pk {D L R : List HP} (h : Pick D L R := by repeat (first | with_reducible exact Pick.nil | apply Pick.cons | with_reducible exact Take.here | apply Take.there)) : Pick D L R := h
theorem en {L M : List HP} (h : Ent L M := by first | exact Ent.refl _ | ((try push_cast); apply Sel.ent; (repeat (first | apply Sel.cons | with_reducible exact Sel.nil | apply Sel.rest | with_reducible exact Take.here | apply Take.there | exact Drop.refl | apply Drop.skip)))) : Ent L M := h
end Go.Proofs.Ytjekhcojebgpnaa.Eng
