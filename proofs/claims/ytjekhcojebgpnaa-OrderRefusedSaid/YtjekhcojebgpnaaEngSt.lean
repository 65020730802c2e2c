/- The logic's judgements: what is known of an activation's slots and of the pieces of memory, ahead of a piece of code; the rules of the code's own forms. No program. -/
import Derived.Test.YtjekhcojebgpnaaEngHeap
import Derived.RangeFuncLeaves
import Derived.TacticsIn
import Derived.Scope
set_option linter.unusedVariables false
set_option linter.unusedSimpArgs false
namespace Go.Proofs.Ytjekhcojebgpnaa.Eng
open Go.RowKit

theorem nbeq {i t : Nat} (q : i ≠ t) : Nat.beq i t = false := by rw [Bool.eq_false_iff]; exact fun e => q (Nat.eq_of_beq_eq_true e)

/-- What is known of the slots: the latest first. -/
abbrev Env := List (Nat × Value)
def lk : Env → Nat → Option Value
 | [], _ => none
 | (i, v) :: r, t => match Nat.beq i t with | true => some v | false => lk r t
def ev (E : Env) : Operand → Option Value
 | .tmp t => lk E t
 | .const v => some v
 | .global g => some (.pointer (some ⟨g, 0, none⟩))
 | .func f => some (.func (.func f) #[] #[])
def evl (E : Env) : List Operand → Option (List Value)
 | [] => some []
 | x :: r => match ev E x, evl E r with
  | some v, some vs => some (v :: vs)
  | _, _ => none
def upd (d : Option Tmp) (v : Value) (E : Env) : Env := match d with | some d => (d, v) :: E | none => E

/-- The fence of all functions; in a round of loop l, or in none. -/
def FW (r : Option Nat) : Fence := { Fence.wide with round := r }
theorem FW_fn (r : Option Nat) (f : FuncId) : (FW r).fn f := trivial

/-- What does not turn while an activation runs: the program, the round, the world at its beginning, the number of slots. -/
structure Cx where
 P : Program
 r : Option Nat
 w0 : World
 N : Nat

structure St (c : Cx) (ds : List Deferred) (E : Env) (L : List HP) (a : Act) (w : World) : Prop where
 size : a.tmps.size = c.N
 defs : a.defers = ds
 agree : ∀ t v, lk E t = some v → a.tmps[t]? = some v
 sat : Sat (stars L) w
 ext : Ext c.w0 w

def okDst (d : Option Tmp) (N : Nat) : Bool := match d with | some d => Nat.blt d N | none => true

section
variable {c : Cx} {ds : List Deferred} {E : Env} {L : List HP} {a : Act} {w : World}

theorem St.tmp (h : St c ds E L a w) {t : Nat} {v : Value} (e : lk E t = some v) : a.eval (.tmp t) = v := by
 simp only [Act.eval, Array.getD_eq_getD_getElem?, h.agree t v e, Option.getD_some]
theorem St.ev (h : St c ds E L a w) {x : Operand} {v : Value} (e : Eng.ev E x = some v) : a.eval x = v := by
 cases x with
 | tmp t => exact h.tmp e
 | const u => simp only [Eng.ev, Option.some.injEq] at e; exact e
 | global g => simp only [Eng.ev, Option.some.injEq] at e; exact e
 | func f => simp only [Eng.ev, Option.some.injEq] at e; exact e
theorem St.evl (h : St c ds E L a w) {xs : List Operand} {vs : List Value} (e : Eng.evl E xs = some vs) : xs.map a.eval = vs := by
 induction xs generalizing vs with
 | nil => simp only [Eng.evl, Option.some.injEq] at e; exact e
 | cons x r ih =>
  simp only [Eng.evl] at e
  cases hx : Eng.ev E x with
  | none => rw [hx] at e; cases e
  | some v =>
   cases hr : Eng.evl E r with
   | none => rw [hx, hr] at e; cases e
   | some us =>
    rw [hx, hr] at e; cases e
    simp only [List.map_cons, h.ev hx, ih hr]

theorem St.put (h : St c ds E L a w) {d : Option Tmp} (hd : okDst d c.N = true) (v : Value) {L' : List HP} {w' : World} (hs : Sat (stars L') w') (hw : Ext w w') :
  St c ds (upd d v E) L' (a.put d v) w' := by
 cases d with
 | none => exact ⟨h.size, h.defs, h.agree, hs, h.ext.trans hw⟩
 | some d =>
  have hlt : d < a.tmps.size := by rw [h.size]; simp only [okDst, Nat.blt] at hd; exact Nat.le_of_ble_eq_true hd
  refine ⟨by simp [Act.put, h.size], by simp [Act.put, h.defs], fun t u e => ?_, hs, h.ext.trans hw⟩
  simp only [upd, lk] at e
  simp only [Act.put]
  by_cases q : d = t
  ·subst q
   simp only [Nat.beq_refl, Option.some.injEq] at e
   subst e
   simp [hlt]
  ·have : Nat.beq d t = false := nbeq q
   rw [this] at e
   rw [Array.getElem?_setIfInBounds_ne q]
   exact h.agree t u e

/-- One row of known slots out of another. -/
def Subs : Env → Env → Prop
 | [], _ => True
 | (t, v) :: r, E => lk E t = some v ∧ Subs r E
theorem Subs.lk {E' E : Env} (h : Subs E' E) {t : Nat} {v : Value} (e : Eng.lk E' t = some v) : Eng.lk E t = some v := by
 induction E' with
 | nil => cases e
 | cons p r ih =>
  obtain ⟨i, u⟩ := p
  obtain ⟨h1, h2⟩ := h
  simp only [Eng.lk] at e
  by_cases q : i = t
  ·subst q; simp only [Nat.beq_refl] at e; cases e; exact h1
  ·rw [show Nat.beq i t = false from nbeq q] at e; exact ih h2 e
theorem St.weaken (h : St c ds E L a w) {E' : Env} {L' : List HP} (he : Subs E' E) (hl : Ent L L') : St c ds E' L' a w :=
 ⟨h.size, h.defs, fun _ _ e => h.agree _ _ (he.lk e), hl _ h.sat, h.ext⟩
end

/-- What stands behind the code at hand. -/
inductive KI where
 | code (c : Code)
 | blk (id : Nat)
 | lp (I : Act → World → Prop)
 | sc

def Qof (c : Cx) (fin : Exit → Act → World → Prop) : List KI → Exit → Act → World → Prop
 | [] => fin
 | .code y :: ks => Exit.then (y.wpIn (FW c.r) 0 c.P (Qof c fin ks)) (Qof c fin ks)
 | .blk id :: ks => Exit.inBlock id (Qof c fin ks)
 | .lp I :: ks => Exit.then I (Qof c fin ks)
 | .sc :: ks => Exit.noGoto (Qof c fin ks)

/-! ### A scope through which the run goes without a goto -/
section
variable {P : Program} {F : Fence} {n : Nat} {b : Frame} {a : Act} {k : List Item} {cs : List Frame} {w : World} {Q : Exit → Act → World → Prop}
end
/-- Code; a row of operations; a way out. -/
def TC (c : Cx) (fin : Exit → Act → World → Prop) (ds : List Deferred) (E : Env) (L : List HP) (x : Code) (ks : List KI) : Prop :=
 ∀ a w, St c ds E L a w → x.wpIn (FW c.r) 0 c.P (Qof c fin ks) a w
def TL (c : Cx) (fin : Exit → Act → World → Prop) (ds : List Deferred) (E : Env) (L : List HP) (ops : Array Oper) (l : List Oper) (ks : List KI) : Prop :=
 ∀ a w, St c ds E L a w → wpListIn (FW c.r) 0 c.P ops (Qof c fin ks) l a w
def TN (c : Cx) (fin : Exit → Act → World → Prop) (ds : List Deferred) (E : Env) (L : List HP) (e : Exit) (ks : List KI) : Prop :=
 ∀ a w, St c ds E L a w → Qof c fin ks e a w

section
variable {c : Cx} {fin : Exit → Act → World → Prop} {ds : List Deferred} {E : Env} {L : List HP} {ks : List KI}

theorem t_seq {x y : Code} (h : TC c fin ds E L x (.code y :: ks)) : TC c fin ds E L (.seq x y) ks := fun a w hs => wpIn_seq (h a w hs)
theorem t_block {id : Nat} {x : Code} (h : TC c fin ds E L x (.blk id :: ks)) : TC c fin ds E L (.block id x) ks := fun a w hs => wpIn_block (h a w hs)
theorem x_sc {i : Nat} (h : TN c fin ds E L (.exit i) ks) : TN c fin ds E L (.exit i) (.sc :: ks) := h
theorem r_sc (h : TN c fin ds E L .ret ks) : TN c fin ds E L .ret (.sc :: ks) := h
theorem t_region {id : Nat} {l : List Oper} (h : TL c fin ds E L l.toArray l ks) : TC c fin ds E L (.region id l.toArray false) ks := fun a w hs => wpIn_region_lit (h a w hs)
theorem t_skip (h : TN c fin ds E L .normal ks) : TC c fin ds E L .skip ks := fun a w hs => wpIn_skip (h a w hs)
theorem t_exit {id : Nat} (h : TN c fin ds E L (.exit id) ks) : TC c fin ds E L (.exit id) ks := fun a w hs => wpIn_exit (h a w hs)
theorem t_ret (h : TN c fin ds E L .ret ks) : TC c fin ds E L .ret ks := fun a w hs => wpIn_ret (h a w hs)
theorem l_nil {ops : Array Oper} (h : TN c fin ds E L .normal ks) : TL c fin ds E L ops [] ks := fun a w hs => h a w hs
theorem n_code {y : Code} (h : TC c fin ds E L y ks) : TN c fin ds E L .normal (.code y :: ks) := h
theorem n_blk {id : Nat} (h : TN c fin ds E L .normal ks) : TN c fin ds E L .normal (.blk id :: ks) := h
theorem x_code {y : Code} {i : Nat} (h : TN c fin ds E L (.exit i) ks) : TN c fin ds E L (.exit i) (.code y :: ks) := h
theorem x_lp {I : Act → World → Prop} {i : Nat} (h : TN c fin ds E L (.exit i) ks) : TN c fin ds E L (.exit i) (.lp I :: ks) := h
theorem x_hit {i : Nat} (h : TN c fin ds E L .normal ks) : TN c fin ds E L (.exit i) (.blk i :: ks) := fun a w hs => by
 show (if i = i then _ else _); rw [if_pos rfl]; exact h a w hs
theorem x_miss {i j : Nat} (hn : Nat.beq i j = false) (h : TN c fin ds E L (.exit i) ks) : TN c fin ds E L (.exit i) (.blk j :: ks) := fun a w hs => by
 show (if i = j then _ else _); rw [if_neg (fun e => by subst e; rw [Nat.beq_refl] at hn; cases hn)]; exact h a w hs
theorem r_code {y : Code} (h : TN c fin ds E L .ret ks) : TN c fin ds E L .ret (.code y :: ks) := h
theorem r_blk {id : Nat} (h : TN c fin ds E L .ret ks) : TN c fin ds E L .ret (.blk id :: ks) := h
theorem r_lp {I : Act → World → Prop} (h : TN c fin ds E L .ret ks) : TN c fin ds E L .ret (.lp I :: ks) := h

theorem t_cond {x : Operand} {p q : Code} {b : Bool} (hx : ev E x = some (.bool b)) (h1 : b = true → TC c fin ds E L p ks) (h2 : b = false → TC c fin ds E L q ks) :
  TC c fin ds E L (.cond x p q) ks := fun a w hs =>
 wpIn_cond_split (hs.ev hx) (fun e => h1 e a w hs) (fun e => h2 e a w hs)
theorem t_cond_t {x : Operand} {p q : Code} (hx : ev E x = some (.bool true)) (h1 : TC c fin ds E L p ks) : TC c fin ds E L (.cond x p q) ks := fun a w hs => wpIn_cond_true (hs.ev hx) (h1 a w hs)
theorem t_cond_f {x : Operand} {p q : Code} (hx : ev E x = some (.bool false)) (h1 : TC c fin ds E L q ks) : TC c fin ds E L (.cond x p q) ks := fun a w hs => wpIn_cond_false (hs.ev hx) (h1 a w hs)
/-- What holds at the next round's head. -/
def lpI (c : Cx) (ds : List Deferred) {X : Type} (p : X → Prop) (EE : X → Env) (LL : X → List HP) (μ : X → Nat) (x : X) : Act → World → Prop := fun a w => ∃ x', p x' ∧ μ x' < μ x ∧ St c ds (EE x') (LL x') a w
theorem t_loop {X : Type} (p : X → Prop) (EE : X → Env) (LL : X → List HP) (μ : X → Nat) {body : Code} (x0 : X) (hp : p x0) (he : Subs (EE x0) E) (hl : Ent L (LL x0))
  (hb : ∀ x, p x → TC c fin ds (EE x) (LL x) body (.lp (lpI c ds p EE LL μ x) :: ks)) :
  TC c fin ds E L (.loop body) ks := fun a w hs => by
 refine wpIn_loop (fun a w => ∃ n, ∃ x, p x ∧ μ x = n ∧ St c ds (EE x) (LL x) a w) (fun a w => open Classical in if h : ∃ n, ∃ x, p x ∧ μ x = n ∧ St c ds (EE x) (LL x) a w then Classical.choose (exists_least h) else 0) ⟨_, x0, hp, rfl, hs.weaken he hl⟩ ?_
 intro a w hI
 have hm := Classical.choose_spec (exists_least hI)
 obtain ⟨⟨x, hx, hn, hst⟩, hmin⟩ := hm
 refine wpIn_mono (hb x hx a w hst) ?_
 intro e a' w' hq
 cases e with
 | normal =>
  obtain ⟨x', hp', hlt, hst'⟩ := hq
  have hI' : ∃ n, ∃ x, p x ∧ μ x = n ∧ St c ds (EE x) (LL x) a' w' := ⟨_, x', hp', rfl, hst'⟩
  refine ⟨hI', ?_⟩
  rw [dif_pos hI', dif_pos hI]
  have h2 := (Classical.choose_spec (exists_least hI')).2 _ ⟨x', hp', rfl, hst'⟩
  omega
 | exit i => exact hq
 | goto l => exact hq
 | ret => exact hq
 | panic ch => exact hq
 | outgrown => exact hq
where
 exists_least {q : Nat → Prop} (h : ∃ n, q n) : ∃ n, q n ∧ ∀ m, q m → n ≤ m := by
  obtain ⟨n, hn⟩ := h
  induction n using Nat.strongRecOn with
  | _ n ih =>
   by_cases k : ∃ m, m < n ∧ q m
   ·obtain ⟨m, hm, hq⟩ := k; exact ih m hm hq
   ·exact ⟨n, hn, fun m hm => Nat.le_of_not_lt fun hlt => k ⟨m, hlt, hm⟩⟩

/-- A round's end: on with x'. -/
theorem n_again {X : Type} {p : X → Prop} {EE : X → Env} {LL : X → List HP} {μ : X → Nat} {x : X} (x' : X) (hp : p x') (hm : μ x' < μ x) (he : Subs (EE x') E) (hl : Ent L (LL x')) :
  TN c fin ds E L .normal (.lp (lpI c ds p EE LL μ x) :: ks) := fun a w hs => ⟨x', hp, hm, hs.weaken he hl⟩

end

/-! ### A row of pieces, written out -/
section
variable {c : Cx} {fin : Exit → Act → World → Prop} {ds : List Deferred} {E : Env} {L M : List HP} {ks : List KI} {ops : Array Oper} {l : List Oper}
theorem l_norm (k : ∀ M, M = L → TL c fin ds E M ops l ks) : TL c fin ds E L ops l ks := k L rfl
theorem t_norm {x : Code} (k : ∀ M, M = L → TC c fin ds E M x ks) : TC c fin ds E L x ks := k L rfl
theorem l_nm (k : TL c fin ds E M ops l ks) (h : L = M := by (try simp only [List.cons_append, List.nil_append, List.append_nil]) <;> rfl) : TL c fin ds E L ops l ks := h ▸ k
theorem t_nm {x : Code} (k : TC c fin ds E M x ks) (h : L = M := by (try simp only [List.cons_append, List.nil_append, List.append_nil]) <;> rfl) : TC c fin ds E L x ks := h ▸ k
theorem n_nm {e : Exit} (k : TN c fin ds E M e ks) (h : L = M := by (try simp only [List.cons_append, List.nil_append, List.append_nil]) <;> rfl) : TN c fin ds E L e ks := h ▸ k
end

/-! ### Facts off the pieces -/
section
variable {c : Cx} {fin : Exit → Act → World → Prop} {ds : List Deferred} {E : Env} {L : List HP} {ks : List KI} {ops : Array Oper} {l : List Oper} {φ : Prop}
theorem l_pure (h : ∀ w, Sat (stars L) w → φ) (k : φ → TL c fin ds E L ops l ks) : TL c fin ds E L ops l ks := fun a w hs => k (h w hs.sat) a w hs
theorem t_pure {x : Code} (h : ∀ w, Sat (stars L) w → φ) (k : φ → TC c fin ds E L x ks) : TC c fin ds E L x ks := fun a w hs => k (h w hs.sat) a w hs
/-- Pieces turned; of what has come about, x may tell. -/
theorem l_turn {X : Type} {LL : X → List HP} (h : ∀ w, Sat (stars L) w → ∃ x, Sat (stars (LL x)) w) (k : ∀ x, TL c fin ds E (LL x) ops l ks) : TL c fin ds E L ops l ks := fun a w hs =>
 let ⟨x, hx⟩ := h w hs.sat; k x a w ⟨hs.size, hs.defs, hs.agree, hx, hs.ext⟩
theorem t_turn {X : Type} {LL : X → List HP} {y : Code} (h : ∀ w, Sat (stars L) w → ∃ x, Sat (stars (LL x)) w) (k : ∀ x, TC c fin ds E (LL x) y ks) : TC c fin ds E L y ks := fun a w hs =>
 let ⟨x, hx⟩ := h w hs.sat; k x a w ⟨hs.size, hs.defs, hs.agree, hx, hs.ext⟩
end

/-! ### Operations -/
section
variable {c : Cx} {fin : Exit → Act → World → Prop} {ds : List Deferred} {E : Env} {L : List HP} {ks : List KI} {ops : Array Oper} {rest : List Oper}

theorem semAt_any {r : Option Nat} {ρ : Operand → Value} {o : Oper} (h : ∀ k, o.op ≠ .defer k) : o.semAt r ρ = execOp ρ o := Oper.semAt_eq r ρ o h

/-- An operation that hands back a value (of what has come about, x may tell). -/
theorem l_op {X : Type} {d : Option Tmp} {op : Op} {ty : TypeId} {pos : String} {af : Array Edge} (hd : okDst d c.N = true) (hop : ∀ k, op ≠ .defer k) (V : X → Value) (LL : X → List HP)
  (h : ∀ a w, St c ds E L a w → ∃ x w', (execOp a.eval ⟨d, op, ty, pos, af, none⟩).run c.P w = .ok (.value (V x)) w' ∧ Sat (stars (LL x)) w' ∧ Ext w w')
  (k : ∀ x, TL c fin ds (upd d (V x) E) (LL x) ops rest ks) : TL c fin ds E L ops (⟨d, op, ty, pos, af, none⟩ :: rest) ks := fun a w hs => by
 refine wpListIn_plain rfl fun K hK => ?_
 obtain ⟨x, w', hr, hsat, hext⟩ := h a w hs
 refine ⟨fun _ _ => FW_fn _ _, ?_⟩
 rw [semAt_any hop, hr]
 exact hK _ _ (k x _ _ (hs.put hd _ hsat hext))
/-- One that hands back nothing. -/
theorem l_do {X : Type} {d : Option Tmp} {op : Op} {ty : TypeId} {pos : String} {af : Array Edge} (hd : okDst d c.N = true) (hop : ∀ k, op ≠ .defer k) (LL : X → List HP)
  (h : ∀ a w, St c ds E L a w → ∃ x w', (execOp a.eval ⟨d, op, ty, pos, af, none⟩).run c.P w = .ok .skip w' ∧ Sat (stars (LL x)) w' ∧ Ext w w')
  (k : ∀ x, TL c fin ds (upd d undef E) (LL x) ops rest ks) : TL c fin ds E L ops (⟨d, op, ty, pos, af, none⟩ :: rest) ks := fun a w hs => by
 refine wpListIn_plain rfl fun K hK => ?_
 obtain ⟨x, w', hr, hsat, hext⟩ := h a w hs
 refine ⟨fun _ _ => FW_fn _ _, ?_⟩
 rw [semAt_any hop, hr]
 exact hK _ _ (k x _ _ (hs.put hd _ hsat hext))
/-- One that only reckons. -/
theorem l_val {d : Option Tmp} {op : Op} {ty : TypeId} {pos : String} {af : Array Edge} (hd : okDst d c.N = true) (hop : ∀ k, op ≠ .defer k) {v : Value}
  (h : ∀ a w, St c ds E L a w → (execOp a.eval ⟨d, op, ty, pos, af, none⟩).run c.P w = .ok (.value v) w)
  (k : TL c fin ds (upd d v E) L ops rest ks) : TL c fin ds E L ops (⟨d, op, ty, pos, af, none⟩ :: rest) ks :=
 l_op (X := Unit) hd hop (fun _ => v) (fun _ => L) (fun a w hs => ⟨(), w, h a w hs, hs.sat, Ext.refl w⟩) fun _ => k

/-- An operation that only reckons and reads: what it comes to. -/
def QV (c : Cx) (ds : List Deferred) (E : Env) (L : List HP) (o : Oper) (v : Value) : Prop :=
 (∀ k, o.op ≠ .defer k) ∧ ∀ a w, St c ds E L a w → (execOp a.eval o).run c.P w = .ok (.value v) w
theorem QV.to {o : Oper} {v v' : Value} (h : QV c ds E L o v) (e : v = v') : QV c ds E L o v' := e ▸ h
theorem l_q {d : Option Tmp} {op : Op} {ty : TypeId} {pos : String} {af : Array Edge} {v : Value} (hd : okDst d c.N = true) (h : QV c ds E L ⟨d, op, ty, pos, af, none⟩ v)
  (k : TL c fin ds (upd d v E) L ops rest ks) : TL c fin ds E L ops (⟨d, op, ty, pos, af, none⟩ :: rest) ks :=
 l_val hd h.1 h.2 k

/-- A guarded operation: its guard's outcome is known. -/
theorem l_on {d : Option Tmp} {op : Op} {ty : TypeId} {pos : String} {af : Array Edge} {j : Nat} {b : Bool} {t : Tmp} (ht : (ops[j]?).bind (·.dst) = some t) (hb : lk E t = some (.bool b))
  (k : TL c fin ds E L ops (⟨d, op, ty, pos, af, none⟩ :: rest) ks) : TL c fin ds E L ops (⟨d, op, ty, pos, af, some (j, b)⟩ :: rest) ks := fun a w hs => by
 have := k a w hs
 have hy : yielded ops a.tmps j = some b := by simp only [yielded, ht, Option.bind_some, hs.agree t _ hb]
 unfold wpListIn at this ⊢
 rw [if_pos (by simp [Region.wanted])] at this
 rw [if_pos (by simp [Region.wanted, hy])]
 exact this
theorem l_off {d : Option Tmp} {op : Op} {ty : TypeId} {pos : String} {af : Array Edge} {j : Nat} {b b' : Bool} {t : Tmp} (ht : (ops[j]?).bind (·.dst) = some t) (hb : lk E t = some (.bool b')) (hne : (b' == b) = false)
  (hd : okDst d c.N = true) (k : TL c fin ds (upd d undef E) L ops rest ks) : TL c fin ds E L ops (⟨d, op, ty, pos, af, some (j, b)⟩ :: rest) ks := fun a w hs => by
 have hy : yielded ops a.tmps j = some b' := by simp only [yielded, ht, Option.bind_some, hs.agree t _ hb]
 unfold wpListIn
 rw [if_neg (by simp [Region.wanted, hy]; simpa using hne)]
 exact ⟨fun _ _ => FW_fn _ _, k _ _ (hs.put hd undef hs.sat (Ext.refl w))⟩
/-- The guard itself was passed by. -/
theorem l_offu {d : Option Tmp} {op : Op} {ty : TypeId} {pos : String} {af : Array Edge} {j : Nat} {b : Bool} {t : Tmp} (ht : (ops[j]?).bind (·.dst) = some t) (hb : lk E t = some undef)
  (hd : okDst d c.N = true) (k : TL c fin ds (upd d undef E) L ops rest ks) : TL c fin ds E L ops (⟨d, op, ty, pos, af, some (j, b)⟩ :: rest) ks := fun a w hs => by
 have hy : yielded ops a.tmps j = none := by simp only [yielded, ht, Option.bind_some, hs.agree t _ hb]; rfl
 unfold wpListIn
 rw [if_neg (by simp [Region.wanted, hy])]
 exact ⟨fun _ _ => FW_fn _ _, k _ _ (hs.put hd undef hs.sat (Ext.refl w))⟩
/-- Parting on a bool in a slot. -/
theorem l_part {l : List Oper} {t : Tmp} {b : Bool} (hb : lk E t = some (.bool b)) (h1 : b = true → TL c fin ds ((t, .bool true) :: E) L ops l ks) (h2 : b = false → TL c fin ds ((t, .bool false) :: E) L ops l ks) :
  TL c fin ds E L ops l ks := fun a w hs => by
 have hag : ∀ b', b = b' → St c ds ((t, .bool b') :: E) L a w := fun b' e => ⟨hs.size, hs.defs, fun u v e' => by
  simp only [lk] at e'
  by_cases q : t = u
  ·subst q; simp only [Nat.beq_refl, Option.some.injEq] at e'; subst e'; rw [← e]; exact hs.agree _ _ hb
  ·rw [show Nat.beq t u = false from nbeq q] at e'; exact hs.agree _ _ e', hs.sat, hs.ext⟩
 cases b with
 | true => exact h1 rfl a w (hag _ rfl)
 | false => exact h2 rfl a w (hag _ rfl)
end

/-! ### Functions -/

/-- A function's contract: on the pieces D it hands back v and leaves the pieces L', as Post says; whatever lies beside is as it was. -/
structure FnOk (P : Program) (f : FuncId) (args : Array Value) (D : List HP) (Post : Value → List HP → Prop) : Prop where
 enters : ∀ args w, (callFunc f args).run P w = .ok (.enter f args) w
 calls : ∀ (Fr : List HP) (w0 w : World), Sat (stars (D ++ Fr)) w → Ext w0 w →
  CallsIn (FW none) 0 P f args w fun e w' => ∃ v L', e = .returned v ∧ Post v L' ∧ Sat (stars (L' ++ Fr)) w' ∧ Ext w0 w'

theorem FnOk.mono {P : Program} {f : FuncId} {args : Array Value} {D : List HP} {Post Post' : Value → List HP → Prop} (h : FnOk P f args D Post) (k : ∀ v L, Post v L → Post' v L) : FnOk P f args D Post' :=
 ⟨h.enters, fun Fr w0 w hs he => (h.calls Fr w0 w hs he).mono fun _ _ ⟨v, L', e, p, s, x⟩ => ⟨v, L', e, k _ _ p, s, x⟩⟩

/-- The end of a function. -/
def finF (P : Program) (fn : Func) (Fr : List HP) (w0 : World) (Post : Value → List HP → Prop) : Exit → Act → World → Prop :=
 bodyPostM (FW none) 0 P fn fun e w' => ∃ v L', e = .returned v ∧ Post v L' ∧ Sat (stars (L' ++ Fr)) w' ∧ Ext w0 w'

/-- What the slots hold at the beginning. -/
def args0 : Nat → List Value → Env
 | _, [] => []
 | i, v :: r => (i, v) :: args0 (i + 1) r
theorem args0_lk {vs : List Value} : ∀ {i t : Nat} {v : Value}, lk (args0 i vs) t = some v → i ≤ t ∧ vs[t - i]? = some v := by
 induction vs with
 | nil => intro i t v h; cases h
 | cons u r ih =>
  intro i t v h
  simp only [args0, lk] at h
  by_cases q : i = t
  ·subst q; simp only [Nat.beq_refl] at h; cases h; simp
  ·rw [show Nat.beq i t = false from nbeq q] at h
   obtain ⟨h1, h2⟩ := ih h
   refine ⟨by omega, ?_⟩
   rw [show t - i = (t - (i + 1)) + 1 by omega]; exact h2

theorem fn_intro {P : Program} {f : FuncId} {fn : Func} {x : Code} {vs : List Value} {D : List HP} {Post : Value → List HP → Prop} {N : Nat}
  (hen : ∀ args w, (callFunc f args).run P w = .ok (.enter f args) w) (hf : P.funcs[f]? = some fn) (hb : fn.body = some x) (hN : fn.ntmps = N) (hlen : Nat.ble vs.length N = true)
  (h : ∀ Fr w0, TC ⟨P, none, w0, N⟩ (finF P fn Fr w0 Post) [] (args0 0 vs) (D ++ Fr) x []) : FnOk P f vs.toArray D Post := by
 refine ⟨hen, fun Fr w0 w hs he => ?_⟩
 refine callsIn_of_wp_marks hf hb trivial ?_ rfl
 refine h Fr w0 _ w ⟨?_, rfl, ?_, hs, he⟩
 ·have := Nat.le_of_ble_eq_true hlen
  simp [hN]; omega
 ·intro t v e
  obtain ⟨_, h2⟩ := args0_lk e
  have hlt : t < vs.length := by
   rw [Nat.sub_zero] at h2
   exact (List.getElem?_eq_some_iff.1 h2).1
  simp only [Nat.sub_zero] at h2
  rw [Array.getElem?_append_left (by simpa using hlt)]
  simpa using h2

/-- What one result's variable holds. -/
def getR (tmps : Array Value) : ResultVar → Sem Value
 | .tmp t => pure (tmps.getD t undef)
 | .cell a t => do loadVar t (← asAddr (tmps.getD a undef))
inductive Rv (P : Program) (E : Env) (L : List HP) : ResultVar → Value → Prop
 | tmp {t : Tmp} {v : Value} : lk E t = some v → Rv P E L (.tmp t) v
 | cell {t b : Nat} {o : Nat} {ty tt : TypeId} {v : Value} {cs : Array Value} {fr : Nat × Nat} {M : List HP} :
   lk E t = some (.pointer (some ⟨b, o, none⟩)) → Take (pt b (.cells cs tt fr)) L M → cs[o]? = some v → (∀ w, (isAgg ty).run P w = .ok false w) → Rv P E L (.cell t ty) v
 | agg {t b : Nat} {ty tt : TypeId} {cs : Array Value} {fr : Nat × Nat} {M : List HP} :
   lk E t = some (.pointer (some ⟨b, 0, none⟩)) → Take (pt b (.cells cs tt fr)) L M → (∀ w, w.heap[b]? = some (.cells cs tt fr) → (loadVar ty ⟨b, 0, none⟩).run P w = .ok (.agg cs) w) → Rv P E L (.cell t ty) (.agg cs)

theorem Rv.run {P : Program} {E : Env} {L : List HP} {r : ResultVar} {v : Value} (h : Rv P E L r v) {c : Cx} {ds : List Deferred} {a : Act} {w : World} (hs : St c ds E L a w) : (getR a.tmps r).run P w = .ok v w := by
 cases h with
 | tmp e =>
  have := hs.tmp e
  simp only [Act.eval] at this
  simp only [getR, this]; rfl
 | cell e ht hc ha =>
  have := hs.tmp e
  simp only [Act.eval] at this
  have hb := hs.sat.block ht
  simp only [getR, this, asAddr, loadVar, Sem.run_bind, Sem.run_pure, Result.andThen, ha]
  simp [load, Sem.run, World.cell?, hb, hc]
 | agg e ht hl =>
  have := hs.tmp e
  simp only [Act.eval] at this
  have hb := hs.sat.block ht
  simp only [getR, this, asAddr, Sem.run_bind, Sem.run_pure, Result.andThen, hl w hb]

section
variable {P : Program} {fn : Func} {E : Env} {L : List HP} {c : Cx} {ds : List Deferred} {a : Act} {w : World}
def ResIs (P : Program) (fn : Func) (E : Env) (L : List HP) (v : Value) : Prop := ∀ (c : Cx) (ds : List Deferred) (a : Act) (w : World), St c ds E L a w → (results fn a.tmps).run P w = .ok v w
theorem results_eq (fn : Func) (tmps : Array Value) : results fn tmps = (do
 let vs ← fn.results.mapM (getR tmps)
 pure (if h : vs.size = 1 then vs[0] else .tuple vs)) := by
 unfold results
 congr 1
theorem res0 (h : fn.results = #[]) : ResIs P fn E L (.tuple #[]) := fun c ds a w hs => by
 rw [results_eq, h]; simp [Result.andThen]
theorem res1 {r1 : ResultVar} {v1 : Value} (h : fn.results = #[r1]) (h1 : Rv P E L r1 v1) : ResIs P fn E L v1 := fun c ds a w hs => by
 rw [results_eq, h]; simp [Result.andThen, h1.run hs]
theorem res2 {r1 r2 : ResultVar} {v1 v2 : Value} (h : fn.results = #[r1, r2]) (h1 : Rv P E L r1 v1) (h2 : Rv P E L r2 v2) : ResIs P fn E L (.tuple #[v1, v2]) := fun c ds a w hs => by
 rw [results_eq, h]; simp [Result.andThen, h1.run hs, h2.run hs]
theorem res3 {r1 r2 r3 : ResultVar} {v1 v2 v3 : Value} (h : fn.results = #[r1, r2, r3]) (h1 : Rv P E L r1 v1) (h2 : Rv P E L r2 v2) (h3 : Rv P E L r3 v3) : ResIs P fn E L (.tuple #[v1, v2, v3]) := fun c ds a w hs => by
 rw [results_eq, h]; simp [Result.andThen, h1.run hs, h2.run hs, h3.run hs]
theorem res4 {r1 r2 r3 r4 : ResultVar} {v1 v2 v3 v4 : Value} (h : fn.results = #[r1, r2, r3, r4]) (h1 : Rv P E L r1 v1) (h2 : Rv P E L r2 v2) (h3 : Rv P E L r3 v3) (h4 : Rv P E L r4 v4) : ResIs P fn E L (.tuple #[v1, v2, v3, v4]) := fun c ds a w hs => by
 rw [results_eq, h]; simp [Result.andThen, h1.run hs, h2.run hs, h3.run hs, h4.run hs]
end

/-- The marks of loops over functions among an activation's deferred calls. -/
def marksOf : List Nat → List Deferred
 | [] => []
 | b :: r => { target := .collected b, args := #[] } :: marksOf r
def markPts : List Nat → List HP
 | [] => []
 | b :: r => pt b (.deferred (some [])) :: markPts r

theorem leaves_marks {P : Program} {fn : Func} {tmps : Array Value} {R : Ending → World → Prop} {v : Value} {M : List HP} {w0 : World} :
  ∀ (bs : List Nat) (w : World), Sat (stars (markPts bs ++ M)) w → Ext w0 w → (∀ w', Sat (stars M) w' → Ext w0 w' → (results fn tmps).run P w' = .ok v w' ∧ R (.returned v) w') →
   LeavesInM (FW none) 0 P fn tmps R (marksOf bs) .returning w
 | [], w, hs, he, h => by
  obtain ⟨h1, h2⟩ := h w hs he
  exact ⟨v, h1, h2⟩
 | b :: bs, w, hs, he, h => by
  have hb : w.heap[b]? = some (Obj.deferred (some [])) := hs.block .here
  refine ⟨by simp, .inl ⟨b, _, rfl, run_takeDeferred hb, ?_⟩⟩
  exact leaves_marks bs _ (Sat.tail (Sat.putObj hs (.deferred none))) (he.putObj _ _) h

/-- A return: no loop over a function has been come through. -/
theorem f_ret {c : Cx} {fn : Func} {Fr : List HP} {Post : Value → List HP → Prop} {E : Env} {L : List HP} {e : Exit} (hx : e = .ret ∨ e = .normal) {v : Value} (L' : List HP)
  (hr : ResIs c.P fn E L v) (hp : Post v L') (hl : Ent L (L' ++ Fr)) : TN c (finF c.P fn Fr c.w0 Post) [] E L e [] := fun a w hs => by
 have hd := hs.defs
 have : LeavesInM (FW none) 0 c.P fn a.tmps (fun e w' => ∃ v L', e = .returned v ∧ Post v L' ∧ Sat (stars (L' ++ Fr)) w' ∧ Ext c.w0 w') a.defers .returning w := by
  rw [hd]
  exact ⟨v, hr c [] a w hs, v, L', rfl, hp, hl w hs.sat, hs.ext⟩
 rcases hx with rfl | rfl <;> exact this
/-- The marks' blocks among the pieces. -/
inductive TakeM : List Nat → List HP → List HP → Prop
 | nil {L : List HP} : TakeM [] L L
 | cons {b : Nat} {bs : List Nat} {L M N : List HP} : Take (pt b (.deferred (some []))) L M → TakeM bs M N → TakeM (b :: bs) L N
theorem TakeM.perm {bs : List Nat} {L M : List HP} (h : TakeM bs L M) : L.Perm (markPts bs ++ M) := by
 induction h with
 | nil => exact .refl _
 | cons t _ ih => exact t.perm.trans (ih.cons _)
/-- A return behind loops over functions. -/
theorem f_retm {c : Cx} {fn : Func} {Fr : List HP} {Post : Value → List HP → Prop} {E : Env} {L M : List HP} {e : Exit} (hx : e = .ret ∨ e = .normal) {v : Value} (bs : List Nat) (L' : List HP)
  (hm : TakeM bs L M) (hr : ResIs c.P fn E M v) (hp : Post v L') (hl : Ent M (L' ++ Fr)) : TN c (finF c.P fn Fr c.w0 Post) (marksOf bs) E L e [] := fun a w hs => by
 have : LeavesInM (FW none) 0 c.P fn a.tmps (fun e w' => ∃ v L', e = .returned v ∧ Post v L' ∧ Sat (stars (L' ++ Fr)) w' ∧ Ext c.w0 w') a.defers .returning w := by
  rw [hs.defs]
  refine leaves_marks bs w (hs.sat.perm hm.perm) hs.ext fun w' hs' he' => ⟨hr c _ { a with defers := [] } w' ⟨hs.size, rfl, hs.agree, hs', he'⟩, v, L', rfl, hp, hl w' hs', he'⟩
 rcases hx with rfl | rfl <;> exact this

/-! ### A call -/
section
variable {c : Cx} {fin : Exit → Act → World → Prop} {ds : List Deferred} {E : Env} {L : List HP} {ks : List KI} {ops : Array Oper} {rest : List Oper}

theorem l_call {d : Option Tmp} {x : Operand} {xs : Array Operand} {ats : Array TypeId} {ty : TypeId} {pos : String} {af : Array Edge} {f : FuncId} {cap : Array Value} {vs : List Value} {args : Array Value} {D R : List HP} {Post : Value → List HP → Prop}
  (hd : okDst d c.N = true) (hx : ev E x = some (.func (.func f) #[] cap)) (ha : evl E xs.toList = some vs) (hargs : vs.toArray ++ cap = args) (hc : FnOk c.P f args D Post) (hp : Pick D L R)
  (k : ∀ v L', Post v L' → TL c fin ds (upd d v E) (L' ++ R) ops rest ks) : TL c fin ds E L ops (⟨d, .call { callee := .value x, args := xs, argTypes := ats }, ty, pos, af, none⟩ :: rest) ks := fun a w hs => by
 refine wpListIn_plain rfl fun K hK => ?_
 have e1 := hs.ev hx
 have e2 : xs.map a.eval = vs.toArray := by
  have := hs.evl ha
  apply Array.ext'
  simpa using this
 refine ⟨fun _ _ => FW_fn _ _, ?_⟩
 rw [semAt_any (by intro k; simp)]
 have hr : (execOp a.eval ⟨d, .call { callee := .value x, args := xs, argTypes := ats }, ty, pos, af, none⟩).run c.P w = .ok (.enter f args) w := by
  simp only [execOp, resolve, e1, e2, Deferred.ofValue, Sem.run_bind, Sem.run_pure, Result.andThen, invoke]
  rw [show (#[] ++ vs.toArray) ++ cap = args by rw [← hargs]; simp]
  exact hc.enters args w
 rw [hr]
 refine ⟨fun h => (by cases h), (hc.calls R c.w0 w (hs.sat.pick hp) hs.ext).mono ?_⟩
 rintro e w' ⟨v, L', rfl, hpost, hsat, hext⟩
 exact hK _ _ (k v L' hpost _ _ ⟨(hs.put hd v hs.sat (Ext.refl w)).size, (hs.put hd v hs.sat (Ext.refl w)).defs, (hs.put hd v hs.sat (Ext.refl w)).agree, hsat, hext⟩)
/-- A call of a function that has captured nothing. -/
theorem l_callf {d : Option Tmp} {x : Operand} {xs : Array Operand} {ats : Array TypeId} {ty : TypeId} {pos : String} {af : Array Edge} {f : FuncId} {vs : List Value} {D R : List HP} {Post : Value → List HP → Prop}
  (hd : okDst d c.N = true) (hx : ev E x = some (.func (.func f) #[] #[])) (ha : evl E xs.toList = some vs) (hc : FnOk c.P f vs.toArray D Post) (hp : Pick D L R)
  (k : ∀ v L', Post v L' → TL c fin ds (upd d v E) (L' ++ R) ops rest ks) : TL c fin ds E L ops (⟨d, .call { callee := .value x, args := xs, argTypes := ats }, ty, pos, af, none⟩ :: rest) ks :=
 l_call hd hx ha (by simp) hc hp k
end
end Go.Proofs.Ytjekhcojebgpnaa.Eng
