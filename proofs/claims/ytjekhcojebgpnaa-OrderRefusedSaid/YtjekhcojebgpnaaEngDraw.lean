/- The logic's rules for a region that draws its order: what only reads and reckons may come at any time between its needs and the end; each effect is walked once for each place it may come at. No program. -/
import Derived.Test.YtjekhcojebgpnaaEngOwn
import Derived.OrdersIn
set_option linter.unusedVariables false
set_option linter.unusedSimpArgs false
namespace Go.Proofs.Ytjekhcojebgpnaa.Eng
open Go.RowKit

/-! ### The shape of a region, as Bools -/
def onsOf (o : Oper) : List Nat := o.after.toList.filterMap fun e => if Region.binds .any e then some e.on else none
def onsAt (ops : Array Oper) (i : Nat) : List Nat := match ops[i]? with | some o => onsOf o | none => []
def slotAt (ops : Array Oper) (i : Nat) : Option Tmp := match ops[i]? with | some o => o.dst | none => none
def looksAtI (ops : Array Oper) (i : Nat) : List Tmp := match ops[i]? with | some o => o.looksAt ops | none => []
def topoB (ops : Array Oper) (done : List Nat) : List Nat → Bool
 | [] => true
 | i :: r => (onsAt ops i).all (fun k => done.contains k || r.contains k) && Nat.blt i ops.size && !done.contains i && topoB ops done r
def pairB (ops : Array Oper) (q : List Nat) : Bool := q.all fun i => q.all fun k => match slotAt ops k with
 | some t => !(looksAtI ops i).contains t || (onsAt ops i).contains k
 | none => true
def blockB (ops : Array Oper) (done q es : List Nat) : Bool := (List.range ops.size).all fun j => done.contains j || q.contains j || es.contains j || (onsAt ops j).any fun k => !(done.contains k || q.contains k)
def esB (ops : Array Oper) (done q es : List Nat) : Bool := es.all fun e => Nat.blt e ops.size && !done.contains e && !q.contains e && (onsAt ops e).all fun k => done.contains k || q.contains k
def drawB (ops : Array Oper) (done q es : List Nat) : Bool := topoB ops done q && pairB ops q && blockB ops done q es && esB ops done q es && Region.noSelect ops
def reachB (ops : Array Oper) : List Nat → List Nat → Bool
 | _, [] => true
 | fr, i :: r => fr.any (fun k => (onsAt ops k).contains i) && reachB ops (i :: fr) r
def effB (ops : Array Oper) (e : Nat) (q q1 q2 : List Nat) (ts : List Nat) : Bool :=
 reachB ops [e] q1 && q.all (fun i => q1.contains i || q2.contains i) && q2.all (fun i => q.contains i) && ts.all fun t => q2.all fun k => match slotAt ops k with | some s => !Nat.beq s t | none => true

theorem mem_onsOf {o : Oper} {k : Nat} : k ∈ onsOf o ↔ ∃ e ∈ o.after, Region.binds .any e = true ∧ e.on = k := by
 simp only [onsOf, List.mem_filterMap, Array.mem_toList_iff]
 constructor
 ·rintro ⟨e, he, h⟩
  split at h
  ·next hb => exact ⟨e, he, hb, by simpa using h⟩
  ·cases h
 ·rintro ⟨e, he, hb, h⟩
  exact ⟨e, he, by rw [if_pos hb, h]⟩
theorem onsAt_of {ops : Array Oper} {i : Nat} {o : Oper} (h : ops[i]? = some o) : onsAt ops i = onsOf o := by simp [onsAt, h]
theorem slotAt_of {ops : Array Oper} {i : Nat} {o : Oper} (h : ops[i]? = some o) : slotAt ops i = o.dst := by simp [slotAt, h]

/-! ### What has come up -/
def Ld (l : Array Bool) (i : Nat) : Prop := l.getD i false = true
instance (l : Array Bool) (i : Nat) : Decidable (Ld l i) := inferInstanceAs (Decidable (_ = true))
def unl (l : Array Bool) : Nat := l.toList.count false
theorem count_set : ∀ (l : List Bool) (i : Nat), l[i]? = some false → (l.set i true).count false + 1 = l.count false
 | [], i, h => by simp at h
 | b :: l, 0, h => by simp at h; subst h; simp
 | b :: l, i + 1, h => by
  simp only [List.getElem?_cons_succ] at h
  have := count_set l i h
  simp only [List.set_cons_succ, List.count_cons]
  omega
theorem unl_set {l : Array Bool} {i : Nat} (h : i < l.size) (hn : ¬ Ld l i) : unl (l.setIfInBounds i true) + 1 = unl l := by
 unfold unl
 rw [Array.toList_setIfInBounds]
 refine count_set _ _ ?_
 simp only [Ld, Array.getD_eq_getD_getElem?] at hn
 rw [Array.getElem?_toList]
 cases hq : l[i]? with
 | none => rw [Array.getElem?_eq_none_iff] at hq; omega
 | some b => rw [hq] at hn; simp at hn; rw [hn]
theorem Ld_set {l : Array Bool} {i k : Nat} (h : i < l.size) : Ld (l.setIfInBounds i true) k ↔ k = i ∨ Ld l k := by
 unfold Ld
 simp only [Array.getD_eq_getD_getElem?]
 by_cases q : i = k
 ·subst q; simp [h]
 ·rw [Array.getElem?_setIfInBounds_ne q]
  constructor
  ·exact .inr
  ·rintro (h' | h')
   ·exact absurd h'.symm q
   ·exact h'

structure LdOk (ops : Array Oper) (done q : List Nat) (l : Array Bool) : Prop where
 size : l.size = ops.size
 did : ∀ i ∈ done, Ld l i
 only : ∀ i, Ld l i → i ∈ done ∨ i ∈ q
 closed : ∀ i, Ld l i → ∀ k ∈ onsAt ops i, Ld l k

theorem ready_iff {ops : Array Oper} {l : Array Bool} (hs : l.size = ops.size) {j : Nat} : j ∈ Region.ready .any ops l ↔ j < ops.size ∧ ¬ Ld l j ∧ ∀ k ∈ onsAt ops j, Ld l k := by
 rw [mem_ready]
 constructor
 ·rintro ⟨h0, o, ho, h⟩
  have hlt : j < ops.size := (Array.getElem?_eq_some_iff.1 ho).1
  refine ⟨hlt, ?_, ?_⟩
  ·simp only [Ld, Array.getD_eq_getD_getElem?] at h0 ⊢
   rw [Array.getElem?_eq_getElem (by omega)] at h0 ⊢
   simp at h0 ⊢; exact h0
  ·intro k hk
   rw [onsAt_of ho, mem_onsOf] at hk
   obtain ⟨e, he, hb, rfl⟩ := hk
   exact h e he hb
 ·rintro ⟨hlt, h0, h⟩
  refine ⟨?_, ops[j], by simp [hlt], ?_⟩
  ·simp only [Ld, Array.getD_eq_getD_getElem?] at h0 ⊢
   rw [Array.getElem?_eq_getElem (by omega)] at h0 ⊢
   simp at h0 ⊢; exact h0
  ·intro e he hb
   have : ops[j]? = some ops[j] := by simp [hlt]
   exact h e.on (by rw [onsAt_of this, mem_onsOf]; exact ⟨e, he, hb, rfl⟩)

/-! ### The judgement -/
/-- An operation that only reads and reckons, or is not wanted: what it leaves in its slot. -/
def YQ (c : Cx) (ds : List Deferred) (E : Env) (L : List HP) (ops : Array Oper) (o : Oper) (v : Value) : Prop :=
 (∀ k, o.op ≠ .defer k) ∧ ∀ a w, St c ds E L a w → (Region.wanted o (yielded ops a.tmps) = true ∧ (execOp a.eval o).run c.P w = .ok (.value v) w) ∨ (Region.wanted o (yielded ops a.tmps) = false ∧ v = undef)
def YAt (c : Cx) (ds : List Deferred) (E : Env) (L : List HP) (ops : Array Oper) (i : Nat) : Prop :=
 ∃ o t v, ops[i]? = some o ∧ o.dst = some t ∧ Nat.blt t c.N = true ∧ lk E t = some v ∧ YQ c ds E L ops o v
def AllY (c : Cx) (ds : List Deferred) (E : Env) (L : List HP) (ops : Array Oper) : List Nat → Prop
 | [] => True
 | i :: r => YAt c ds E L ops i ∧ AllY c ds E L ops r
theorem AllY.mem {c : Cx} {ds : List Deferred} {E : Env} {L : List HP} {ops : Array Oper} : ∀ {q : List Nat}, AllY c ds E L ops q → ∀ i ∈ q, YAt c ds E L ops i
 | [], _, _, h => by cases h
 | _ :: _, ⟨h, _⟩, _, .head _ => h
 | _ :: _, ⟨_, h⟩, _, .tail _ hm => h.mem _ hm

structure StD (c : Cx) (ds : List Deferred) (E : Env) (L : List HP) (ops : Array Oper) (q : List Nat) (l : Array Bool) (a : Act) (w : World) : Prop where
 size : a.tmps.size = c.N
 defs : a.defers = ds
 agree : ∀ t v, lk E t = some v → (∀ i ∈ q, slotAt ops i = some t → Ld l i) → a.tmps[t]? = some v
 sat : Sat (stars L) w
 ext : Ext c.w0 w

def TD (c : Cx) (fin : Exit → Act → World → Prop) (ds : List Deferred) (E : Env) (L : List HP) (ops : Array Oper) (done q : List Nat) (ks : List KI) : Prop :=
 AllY c ds E L ops q → ∀ fuel l a w, LdOk ops done q l → unl l ≤ fuel → StD c ds E L ops q l a w → wpAnyIn (FW c.r) 0 c.P .any ops (Qof c fin ks) fuel l a w

section
variable {c : Cx} {fin : Exit → Act → World → Prop} {ds : List Deferred} {E : Env} {L : List HP} {ks : List KI} {ops : Array Oper}

theorem t_draw {id : Nat} (hm : c.P.follows .mixedOrders = true) (k : TD c fin ds E L ops [] [] ks) : TC c fin ds E L (.region id ops true) ks := fun a w hs => by
 refine wpIn_region_any hm (k trivial ops.size _ _ _ ⟨by simp, by simp, fun i hi => ?_, fun i hi => ?_⟩ ?_ ⟨hs.size, hs.defs, fun t v e _ => hs.agree t v e, hs.sat.drawn _, hs.ext.drawn _⟩)
 ·exfalso; simp only [Ld, Array.getD_eq_getD_getElem?, Array.getElem?_replicate] at hi; split at hi <;> simp at hi
 ·exfalso; simp only [Ld, Array.getD_eq_getD_getElem?, Array.getElem?_replicate] at hi; split at hi <;> simp at hi
 ·simp [unl]

/-- An operation that only reads: its value is told ahead. -/
theorem d_q {done q : List Nat} (i : Nat) {o : Oper} {t : Tmp} {v : Value} (ho : ops[i]? = some o) (hd : o.dst = some t) (ht : Nat.blt t c.N = true) (hf : lk E t = none) (hn : (done.contains i || q.contains i) = false) (hy : YQ c ds E L ops o v)
  (k : TD c fin ds (upd (some t) v E) L ops done (i :: q) ks) : TD c fin ds E L ops done q ks := fun hq fuel l a w hl hu hs => by
 have sub : ∀ s u, lk E s = some u → lk (upd (some t) v E) s = some u := fun s u e => by
  have : t ≠ s := fun q => by subst q; rw [hf] at e; cases e
  simp only [upd, lk]
  rw [show Nat.beq t s = false from nbeq this]; exact e
 have mono : ∀ {o : Oper} {v' : Value}, YQ c ds E L ops o v' → YQ c ds (upd (some t) v E) L ops o v' := fun h =>
  ⟨h.1, fun a w hs => h.2 a w ⟨hs.size, hs.defs, fun s u e => hs.agree s u (sub s u e), hs.sat, hs.ext⟩⟩
 have all : ∀ {q : List Nat}, AllY c ds E L ops q → AllY c ds (upd (some t) v E) L ops q := fun {q} => by
  induction q with
  | nil => exact fun _ => trivial
  | cons j r ih => exact fun ⟨⟨o', t', v', h1, h2, h3, h4, h5⟩, hr⟩ => ⟨⟨o', t', v', h1, h2, h3, sub _ _ h4, mono h5⟩, ih hr⟩
 refine k ⟨⟨o, t, v, ho, hd, ht, by simp [upd, lk], mono hy⟩, all hq⟩ fuel l a w ⟨hl.size, hl.did, fun j hj => (hl.only j hj).imp id (List.mem_cons_of_mem _), hl.closed⟩ hu ⟨hs.size, hs.defs, fun s u e hc => ?_, hs.sat, hs.ext⟩
 by_cases hts : t = s
 ·subst hts
  -- the slot's operation has come up already, or the premise is void
  have hLd := hc i (List.mem_cons_self ..) (by rw [slotAt_of ho, hd])
  rcases hl.only i hLd with h | h <;> simp [h] at hn
 ·have e' : lk E s = some u := by
   simp only [upd, lk] at e; rw [show Nat.beq t s = false from nbeq hts] at e; exact e
  exact hs.agree s u e' fun j hj hsj => hc j (List.mem_cons_of_mem _ hj) hsj

theorem topo_ready {done q : List Nat} (h : topoB ops done q = true) {l : Array Bool} (hl : LdOk ops done q l) (hr : Region.ready .any ops l = []) : ∀ i ∈ q, Ld l i := by
 have no : ∀ j, j < ops.size → (∀ k ∈ onsAt ops j, Ld l k) → Ld l j := fun j hj hk => Classical.byContradiction fun hn => by
  have := (ready_iff hl.size).2 ⟨hj, hn, hk⟩
  rw [hr] at this; cases this
 have key : ∀ q' : List Nat, topoB ops done q' = true → ∀ i ∈ q', Ld l i := by
  intro q'
  induction q' with
  | nil => intro _ i hi; cases hi
  | cons j r ih =>
   intro h i hi
   simp only [topoB, Bool.and_eq_true, List.all_eq_true, Bool.or_eq_true, List.contains_iff_mem] at h
   obtain ⟨⟨⟨h1, h2⟩, _⟩, h4⟩ := h
   have hr' := ih h4
   rcases List.mem_cons.1 hi with rfl | hi
   ·refine no _ (Nat.le_of_ble_eq_true h2) fun k hk => ?_
    rcases h1 k hk with h | h
    ·exact hl.did k h
    ·exact hr' k h
   ·exact hr' i hi
 exact key q h

/-- The canonical slots laid over what is there. -/
def overA (E : Env) (a : Act) : Act := { a with tmps := Array.ofFn (n := a.tmps.size) fun t => (lk E t.1).getD (a.tmps[t]) }
theorem overA_get (E : Env) (a : Act) {t : Nat} (h : t < a.tmps.size) : (overA E a).tmps[t]? = some ((lk E t).getD a.tmps[t]) := by simp [overA, h]
theorem overA_ge (E : Env) (a : Act) {t : Nat} (h : ¬ t < a.tmps.size) : (overA E a).tmps[t]? = a.tmps[t]? := by simp [overA, h]

/-- One that only reads comes up. -/
theorem quiet_step {done q : List Nat} (hpair : pairB ops q = true) (hsel : Region.noSelect ops = true) (hq : AllY c ds E L ops q) {i : Nat} (hi : i ∈ q) {l : Array Bool} {a : Act} {w : World} (hl : LdOk ops done q l)
  (hs : StD c ds E L ops q l a w) (hons : ∀ k ∈ onsAt ops i, Ld l k) {Q : Exit → Act → World → Prop} {K : Act → World → Prop} (hi' : i < ops.size) (hn : ¬ Ld l i)
  (hK : ∀ a', StD c ds E L ops q (l.setIfInBounds i true) a' w → K a' w) : wpOpIn (FW c.r) 0 c.P ops Q i K a w := by
 obtain ⟨o, t, v, ho, hd, ht, hv, hdef, hy⟩ := hq.mem i hi
 have hne : ∀ s, s ∈ o.looksAt ops → ∀ k ∈ q, slotAt ops k = some s → Ld l k := fun s hsl k hk hks => by
  have h1 := List.all_eq_true.1 (List.all_eq_true.1 hpair i hi) k hk
  rw [hks] at h1
  simp only [looksAtI, ho, Bool.or_eq_true, Bool.not_eq_true', List.contains_iff_mem] at h1
  rcases h1 with h1 | h1
  ·rw [← List.contains_iff_mem] at hsl; rw [hsl] at h1; cases h1
  ·exact hons k h1
 have hslot : ∀ s, s ∈ o.looksAt ops → (overA E a).tmps[s]? = a.tmps[s]? := fun s hsl => by
  by_cases hlt : s < a.tmps.size
  ·rw [overA_get E a hlt]
   cases he : lk E s with
   | none => simp [hlt]
   | some u => rw [hs.agree s u he (hne s hsl)]; rfl
  ·exact overA_ge E a hlt
 have hst : St c ds E L (overA E a) w := by
  refine ⟨by simp [overA, hs.size], hs.defs, fun s u e => ?_, hs.sat, hs.ext⟩
  by_cases hc : ∀ k ∈ q, slotAt ops k = some s → Ld l k
  ·have h1 := hs.agree s u e hc
   have hlt : s < a.tmps.size := (Array.getElem?_eq_some_iff.1 h1).1
   rw [overA_get E a hlt, e]; rfl
  ·have : ∃ k ∈ q, slotAt ops k = some s := Classical.byContradiction fun hno => hc fun k hk hks => (hno ⟨k, hk, hks⟩).elim
   obtain ⟨k, hk, hks⟩ := this
   obtain ⟨ok, tk, vk, hok, hdk, htk, _, _⟩ := hq.mem k hk
   rw [slotAt_of hok, hdk] at hks
   cases hks
   have hlt : s < a.tmps.size := by rw [hs.size]; exact Nat.le_of_ble_eq_true htk
   rw [overA_get E a hlt, e]; rfl
 have hnosel : ∀ cs b, o.op ≠ .select cs b := fun cs b h => Region.noSelect_spec hsel i o cs b ho h
 have hexec : execOp (overA E a).eval o = execOp a.eval o := execOp_congr o hnosel fun x hx => by
  cases x with
  | tmp s =>
   have : s ∈ o.looksAt ops := List.mem_append_left _ (List.mem_filterMap.2 ⟨.tmp s, by simpa using hx, rfl⟩)
   simp only [Act.eval, Array.getD_eq_getD_getElem?, hslot s this]
  | _ => rfl
 have hwant : Region.wanted o (yielded ops (overA E a).tmps) = Region.wanted o (yielded ops a.tmps) := by
  unfold Region.wanted
  cases hg : o.guard with
  | none => rfl
  | some g =>
   obtain ⟨j, b⟩ := g
   simp only
   have : yielded ops (overA E a).tmps j = yielded ops a.tmps j := by
    unfold yielded
    cases hj : (ops[j]?).bind (·.dst) with
    | none => rfl
    | some s =>
     have hm : s ∈ o.looksAt ops := List.mem_append_right _ (by simp [hg, hj])
     simp only [Option.bind_some, hslot s hm]
   rw [this]
 have hput : StD c ds E L ops q (l.setIfInBounds i true) (a.put o.dst v) w := by
  rw [hd]
  have hlt : t < a.tmps.size := by rw [hs.size]; exact Nat.le_of_ble_eq_true ht
  refine ⟨by simp [Act.put, hs.size], by simp [Act.put, hs.defs], fun s u e hc => ?_, hs.sat, hs.ext⟩
  simp only [Act.put]
  by_cases hts : t = s
  ·subst hts
   rw [hv] at e; cases e
   simp [hlt]
  ·rw [Array.getElem?_setIfInBounds_ne hts]
   refine hs.agree s u e fun k hk hks => ?_
   rcases (Ld_set (by rw [hl.size]; exact hi')).1 (hc k hk hks) with rfl | h
   ·rw [slotAt_of ho, hd] at hks; cases hks; exact absurd rfl hts
   ·exact h
 have hrun := hy (overA E a) w hst
 rw [hexec, hwant] at hrun
 unfold wpOpIn
 simp only [ho]
 rcases hrun with ⟨h1, h2⟩ | ⟨h1, h2⟩
 ·rw [if_pos h1]
  unfold Oper.wpIn
  rw [semAt_any hdef, h2]
  exact ⟨fun _ _ => FW_fn _ _, hK _ hput⟩
 ·rw [if_neg (by rw [h1]; simp)]
  subst h2
  exact ⟨fun _ _ => FW_fn _ _, hK _ hput⟩

theorem LdOk.set {done q : List Nat} {l : Array Bool} (hl : LdOk ops done q l) {i : Nat} (hi : i < ops.size) (hq : i ∈ done ∨ i ∈ q) (hons : ∀ k ∈ onsAt ops i, Ld l k) : LdOk ops done q (l.setIfInBounds i true) := by
 have hs : i < l.size := by rw [hl.size]; exact hi
 refine ⟨by simp [hl.size], fun j hj => (Ld_set hs).2 (.inr (hl.did j hj)), fun j hj => ?_, fun j hj k hk => ?_⟩
 ·rcases (Ld_set hs).1 hj with rfl | h
  ·exact hq
  ·exact hl.only j h
 ·rcases (Ld_set hs).1 hj with rfl | h
  ·exact (Ld_set hs).2 (.inr (hons k hk))
  ·exact (Ld_set hs).2 (.inr (hl.closed j h k hk))

/-- What an effect is to show, whenever it comes. -/
def EffAt (c : Cx) (fin : Exit → Act → World → Prop) (ds : List Deferred) (E : Env) (L : List HP) (ops : Array Oper) (done q : List Nat) (ks : List KI) (e : Nat) : Prop :=
 AllY c ds E L ops q → ∀ fuel l a w, LdOk ops done q l → unl l ≤ fuel + 1 → StD c ds E L ops q l a w → e < ops.size → ¬ Ld l e → (∀ k ∈ onsAt ops e, Ld l k) →
  wpOpIn (FW c.r) 0 c.P ops (Qof c fin ks) e (wpAnyIn (FW c.r) 0 c.P .any ops (Qof c fin ks) fuel (l.setIfInBounds e true)) a w

theorem d_core {done q es : List Nat} (hB : drawB ops done q es = true) (heff : ∀ e ∈ es, EffAt c fin ds E L ops done q ks e) (hend : es = [] → TN c fin ds E L .normal ks) : TD c fin ds E L ops done q ks := by
 simp only [drawB, Bool.and_eq_true] at hB
 obtain ⟨⟨⟨⟨htopo, hpair⟩, hblock⟩, hes⟩, hsel⟩ := hB
 have hblk : ∀ j, j < ops.size → j ∈ done ∨ j ∈ q ∨ j ∈ es ∨ ∃ k ∈ onsAt ops j, ¬ (k ∈ done ∨ k ∈ q) := fun j hj => by
  have := List.all_eq_true.1 hblock j (List.mem_range.2 hj)
  simp only [Bool.or_eq_true, List.contains_iff_mem, List.any_eq_true, Bool.not_eq_true', Bool.or_eq_false_iff] at this
  rcases this with ((h | h) | h) | ⟨k, hk, h1, h2⟩
  ·exact .inl h
  ·exact .inr (.inl h)
  ·exact .inr (.inr (.inl h))
  ·refine .inr (.inr (.inr ⟨k, hk, ?_⟩))
   rintro (h | h)
   ·rw [← List.contains_iff_mem] at h; rw [h] at h1; cases h1
   ·rw [← List.contains_iff_mem] at h; rw [h] at h2; cases h2
 have hese : ∀ e ∈ es, e < ops.size ∧ e ∉ done ∧ e ∉ q ∧ ∀ k ∈ onsAt ops e, k ∈ done ∨ k ∈ q := fun e he => by
  have := List.all_eq_true.1 hes e he
  simp only [Bool.and_eq_true, Bool.not_eq_true', List.all_eq_true, Bool.or_eq_true, List.contains_iff_mem] at this
  obtain ⟨⟨⟨h1, h2⟩, h3⟩, h4⟩ := this
  refine ⟨Nat.le_of_ble_eq_true h1, fun h => ?_, fun h => ?_, h4⟩
  ·rw [← List.contains_iff_mem] at h; rw [h] at h2; cases h2
  ·rw [← List.contains_iff_mem] at h; rw [h] at h3; cases h3
 have hqs : ∀ i ∈ q, i < ops.size := fun i hi => by
  have key : ∀ q' : List Nat, topoB ops done q' = true → ∀ i ∈ q', i < ops.size := by
   intro q'
   induction q' with
   | nil => intro _ i hi; cases hi
   | cons j r ih =>
    intro h i hi
    simp only [topoB, Bool.and_eq_true] at h
    rcases List.mem_cons.1 hi with rfl | hi
    ·exact Nat.le_of_ble_eq_true h.1.1.2
    ·exact ih h.2 i hi
  exact key q htopo i hi
 intro hq
 have stop : ∀ l a w, LdOk ops done q l → StD c ds E L ops q l a w → Region.ready .any ops l = [] → Qof c fin ks .normal a w := fun l a w hl hs hr => by
  have hall := topo_ready htopo hl hr
  have hnil : es = [] := by
   cases hes' : es with
   | nil => rfl
   | cons e r =>
    exfalso
    obtain ⟨h1, h2, h3, h4⟩ := hese e (by rw [hes']; simp)
    have hn : ¬ Ld l e := fun h => (hl.only e h).elim h2 h3
    have := (ready_iff hl.size).2 ⟨h1, hn, fun k hk => (h4 k hk).elim (hl.did k) (hall k)⟩
    rw [hr] at this; cases this
  exact hend hnil a w ⟨hs.size, hs.defs, fun t v e => hs.agree t v e fun i hi _ => hall i hi, hs.sat, hs.ext⟩
 intro fuel
 induction fuel with
 | zero =>
  intro l a w hl hu hs
  have hr : Region.ready .any ops l = [] := by
   cases hrd : Region.ready .any ops l with
   | nil => rfl
   | cons j r =>
    exfalso
    have hj : j ∈ Region.ready .any ops l := by rw [hrd]; simp
    obtain ⟨h1, h2, _⟩ := (ready_iff hl.size).1 hj
    have := unl_set (l := l) (i := j) (by rw [hl.size]; exact h1) h2
    omega
  exact ⟨hr, stop l a w hl hs hr⟩
 | succ fuel ih =>
  intro l a w hl hu hs
  refine ⟨stop l a w hl hs, fun i hi => ?_⟩
  obtain ⟨h1, h2, h3⟩ := (ready_iff hl.size).1 hi
  rcases hblk i h1 with h | h | h | ⟨k, hk, hno⟩
  ·exact absurd (hl.did i h) h2
  ·refine quiet_step hpair hsel hq h hl hs h3 h1 h2 fun a' hs' => ?_
   have := unl_set (l := l) (i := i) (by rw [hl.size]; exact h1) h2
   exact ih _ _ _ (hl.set h1 (.inr h) h3) (by omega) hs'
  ·exact heff i h hq fuel l a w hl hu hs h1 h2 h3
  ·exact absurd (hl.only k (h3 k hk)) hno

/-- All have come up. -/
theorem d_end {done q : List Nat} (hB : drawB ops done q [] = true) (k : TN c fin ds E L .normal ks) : TD c fin ds E L ops done q ks :=
 d_core hB (fun e he => by cases he) fun _ => k

/-! ### Effects -/
theorem op_of_list {F : Fence} {n : Nat} {P : Program} {Q Q' : Exit → Act → World → Prop} {K : Act → World → Prop} {o : Oper} {a : Act} {w : World} (hK : ∀ a w, Q' .normal a w → K a w) (hno : ∀ e a w, Q' e a w → e = .normal)
  (h : wpListIn F n P ops Q' [o] a w) : if Region.wanted o (yielded ops a.tmps) then o.wpIn F n P a w K Q else (∀ f, o.about P w a.eval = some f → F.fn f) ∧ K (a.put o.dst undef) w := by
 unfold wpListIn at h
 split at h
 ·next hw =>
  rw [if_pos hw]
  unfold Oper.wpIn at h ⊢
  refine ⟨h.1, ?_⟩
  have h2 := h.2
  generalize (o.semAt F.round a.eval).run P w = r at h2 ⊢
  have nl : ¬ LetsOut Q' := fun ⟨a, w, hq⟩ => by have := hno _ _ _ hq; cases this
  cases r with
  | ok x w' =>
   cases x <;> simp only [Oper.uponIn] at h2 ⊢ <;>
    first
     | exact hK _ _ h2
     | exact ⟨h2.1, CallsIn.mono h2.2 (fun e w'' he => by
       cases e with
       | returned v => exact hK _ _ he
       | panicked ch => have := hno _ _ _ he; cases this
       | outgrown => exact (nl he).elim)⟩
     | exact ⟨h2.1, RowsIn.mono h2.2 (fun _ _ he => hK _ _ he)⟩
     | exact ⟨h2.1, RoundIn.mono h2.2 (fun e w'' he => by
       cases e with
       | returned v => exact hK _ _ he
       | panicked ch => have := hno _ _ _ he; cases this
       | outgrown => exact (nl he).elim)⟩
  | halt x w' =>
   cases x <;> simp only [Oper.uponIn] at h2 ⊢
   have := hno _ _ _ h2; cases this
 ·next hw =>
  rw [if_neg hw]
  refine ⟨h.1, ?_⟩
  have := h.2
  unfold wpListIn at this
  exact hK _ _ this

def finD (c : Cx) (fin : Exit → Act → World → Prop) (ds : List Deferred) (E : Env) (ops : Array Oper) (done q : List Nat) (ks : List KI) (d : Option Tmp) (E0 : Env) : Exit → Act → World → Prop := fun e a' w' =>
 e = .normal ∧ ∃ v L', St c ds (upd d v E0) L' a' w' ∧ AllY c ds (upd d v E) L' ops q ∧ TD c fin ds (upd d v E) L' ops done q ks
theorem n_d {done q : List Nat} {d : Option Tmp} {v : Value} {E0 : Env} (hy : AllY c ds (upd d v E) L ops q) (k : TD c fin ds (upd d v E) L ops done q ks) :
  TN c (finD c fin ds E ops done q ks d E0) ds (upd d v E0) L .normal [] := fun a w hs => ⟨rfl, v, L, hs, hy, k⟩

theorem lk_app {E1 E2 : Env} {t : Nat} {v : Value} (h : lk (E1 ++ E2) t = some v) : lk E1 t = some v ∨ (lk E1 t = none ∧ lk E2 t = some v) := by
 induction E1 with
 | nil => exact .inr ⟨rfl, h⟩
 | cons p r ih =>
  obtain ⟨s, u⟩ := p
  simp only [List.cons_append, lk] at h ⊢
  by_cases q : Nat.beq s t = true
  ·rw [q] at h ⊢; exact .inl h
  ·rw [Bool.eq_false_iff.2 q] at h ⊢; exact ih h
theorem lk_app_l {E1 E2 : Env} {t : Nat} {v : Value} (h : lk E1 t = some v) : lk (E1 ++ E2) t = some v := by
 induction E1 with
 | nil => cases h
 | cons p r ih =>
  obtain ⟨s, u⟩ := p
  simp only [List.cons_append, lk] at h ⊢
  by_cases q : Nat.beq s t = true
  ·rw [q] at h ⊢; exact h
  ·rw [Bool.eq_false_iff.2 q] at h ⊢; exact ih h
theorem lk_app_r {E1 E2 : Env} {t : Nat} {v : Value} (h1 : lk E1 t = none) (h : lk E2 t = some v) : lk (E1 ++ E2) t = some v := by
 induction E1 with
 | nil => exact h
 | cons p r ih =>
  obtain ⟨s, u⟩ := p
  simp only [List.cons_append, lk] at h1 ⊢
  by_cases q : Nat.beq s t = true
  ·rw [q] at h1; cases h1
  ·rw [Bool.eq_false_iff.2 q] at h1 ⊢; exact ih h1
theorem lk_filter (kb : Nat → Bool) : ∀ (E : Env) (t : Nat), lk (E.filter fun p => kb p.1) t = if kb t then lk E t else none
 | [], t => by simp [lk]
 | (s, u) :: r, t => by
  by_cases hk : kb s
  ·rw [List.filter_cons_of_pos (by simpa using hk)]
   simp only [lk]
   by_cases q : s = t
   ·subst q; simp [hk]
   ·rw [show Nat.beq s t = false from nbeq q]; exact lk_filter kb r t
  ·rw [List.filter_cons_of_neg (by simpa using hk), lk_filter kb r t]
   simp only [lk]
   by_cases q : s = t
   ·subst q; simp [hk]
   ·rw [show Nat.beq s t = false from nbeq q]
theorem Subs_mem {E' E : Env} (h : Subs E' E) {t : Nat} {v : Value} (e : lk E' t = some v) : t ∈ E'.map (·.1) := by
 clear h
 induction E' with
 | nil => cases e
 | cons p r ih =>
  obtain ⟨s, u⟩ := p
  simp only [lk] at e
  by_cases q : s = t
  ·subst q; simp
  ·rw [show Nat.beq s t = false from nbeq q] at e
   simp only [List.map_cons]; exact List.mem_cons_of_mem _ (ih e)

theorem reach_ld {l : Array Bool} (hc : ∀ i, Ld l i → ∀ k ∈ onsAt ops i, Ld l k) : ∀ (q1 fr : List Nat), reachB ops fr q1 = true → (∀ f ∈ fr, ∀ k ∈ onsAt ops f, Ld l k) → ∀ i ∈ q1, Ld l i
 | [], _, _, _, _, h => by cases h
 | j :: r, fr, h, hf, i, hi => by
  simp only [reachB, Bool.and_eq_true, List.any_eq_true, List.contains_iff_mem] at h
  obtain ⟨⟨f, hfm, hj⟩, h2⟩ := h
  have hld : Ld l j := hf f hfm j hj
  rcases List.mem_cons.1 hi with rfl | hi
  ·exact hld
  ·refine reach_ld hc r (j :: fr) h2 (fun f hf' => ?_) i hi
   rcases List.mem_cons.1 hf' with rfl | hf'
   ·exact hc _ hld
   ·exact hf f hf'

/-- An effect's walk, over just the slots that it looks at. -/
theorem effAt {done q q1 q2 : List Nat} {e : Nat} {d : Option Tmp} {op : Op} {ty : TypeId} {pos : String} {af : Array Edge} {gd : Option (Nat × Bool)} (E0 : Env) (ho : ops[e]? = some ⟨d, op, ty, pos, af, gd⟩) (hE : Subs E0 E)
  (hf : effB ops e q q1 q2 (E0.map (·.1)) = true) (k : ∀ Ex, TL c (finD c fin ds E ops (e :: (q1 ++ done)) q2 ks d (E0 ++ Ex)) ds (E0 ++ Ex) L ops [⟨d, op, ty, pos, af, gd⟩] []) : EffAt c fin ds E L ops done q ks e := by
 simp only [effB, Bool.and_eq_true, List.all_eq_true, Bool.or_eq_true, List.contains_iff_mem] at hf
 obtain ⟨⟨⟨hreach, hq12⟩, hq2⟩, hts⟩ := hf
 intro hq fuel l a w hl hu hs he hn hons
 have hlsize : e < l.size := by rw [hl.size]; exact he
 -- the slots that hold now
 let kb : Nat → Bool := fun t => q.all fun i => match slotAt ops i with | some s => !Nat.beq s t || decide (Ld l i) | none => true
 have hkb : ∀ t, kb t = true ↔ ∀ i ∈ q, slotAt ops i = some t → Ld l i := fun t => by
  simp only [kb, List.all_eq_true]
  constructor
  ·intro h i hi hsl
   have := h i hi
   rw [hsl] at this
   simpa using this
  ·intro h i hi
   cases hsl : slotAt ops i with
   | none => rfl
   | some s =>
    simp only [Bool.or_eq_true, Bool.not_eq_true', decide_eq_true_eq]
    by_cases q : s = t
    ·subst q; exact .inr (h i hi hsl)
    ·exact .inl (nbeq q)
 have h1 : ∀ i ∈ q1, Ld l i := reach_ld hl.closed q1 [e] hreach (fun f hf => by rw [List.mem_singleton] at hf; subst hf; exact hons)
 have hst : St c ds (E0 ++ E.filter fun p => kb p.1) L a w := by
  refine ⟨hs.size, hs.defs, fun t v hlk => ?_, hs.sat, hs.ext⟩
  rcases lk_app hlk with h | ⟨_, h⟩
  ·refine hs.agree t v (hE.lk h) fun i hi hsl => ?_
   rcases hq12 i hi with h' | h'
   ·exact h1 i h'
   ·have := hts t (Subs_mem hE h) i h'
    rw [hsl] at this
    simp at this
  ·rw [lk_filter] at h
   split at h
   ·next hk => exact hs.agree t v h ((hkb t).1 hk)
   ·cases h
 have hw := k (E.filter fun p => kb p.1) a w hst
 unfold wpOpIn
 simp only [ho]
 refine op_of_list (Q' := finD c fin ds E ops (e :: (q1 ++ done)) q2 ks d (E0 ++ E.filter fun p => kb p.1)) ?_ (fun e a w h => h.1) hw
 rintro a' w' ⟨_, v, L', hst', hy', hT⟩
 have hun := unl_set hlsize hn
 refine hT hy' fuel _ a' w' ⟨by simp [hl.size], fun i hi => ?_, fun i hi => ?_, fun i hi kk hkk => ?_⟩ (by omega) ⟨hst'.size, hst'.defs, fun t u hlk hc => ?_, hst'.sat, hst'.ext⟩
 ·refine (Ld_set hlsize).2 ?_
  rcases List.mem_cons.1 hi with rfl | hi
  ·exact .inl rfl
  ·rcases List.mem_append.1 hi with hi | hi
   ·exact .inr (h1 i hi)
   ·exact .inr (hl.did i hi)
 ·rcases (Ld_set hlsize).1 hi with rfl | hi
  ·exact .inl (by simp)
  ·rcases hl.only i hi with h | h
   ·exact .inl (by simp [h])
   ·rcases hq12 i h with h | h
    ·exact .inl (by simp [h])
    ·exact .inr h
 ·refine (Ld_set hlsize).2 (.inr ?_)
  rcases (Ld_set hlsize).1 hi with rfl | hi
  ·exact hons kk hkk
  ·exact hl.closed i hi kk hkk
 ·-- a slot behind it
  have main : ∀ u, lk E t = some u → kb t = true → lk (E0 ++ E.filter fun p => kb p.1) t = some u := fun u hE' hk => by
   cases h0 : lk E0 t with
   | some u' =>
    have := hE.lk h0
    rw [hE'] at this; cases this
    exact lk_app_l h0
   | none => exact lk_app_r h0 (by rw [lk_filter, if_pos hk]; exact hE')
  have hkt : kb t = true ∨ d = some t := by
   by_cases hd : d = some t
   ·exact .inr hd
   ·refine .inl ((hkb t).2 fun i hi hsl => ?_)
    rcases hq12 i hi with h' | h'
    ·exact h1 i h'
    ·rcases (Ld_set hlsize).1 (hc i h' hsl) with h | h
     ·exfalso
      rw [h, slotAt_of ho] at hsl
      exact hd hsl
     ·exact h
  refine hst'.agree t u ?_
  cases d with
  | none =>
   rcases hkt with hk | hk
   ·exact main u hlk hk
   ·cases hk
  | some d =>
   simp only [upd, lk] at hlk ⊢
   by_cases q : d = t
   ·subst q; simp only [Nat.beq_refl] at hlk ⊢; exact hlk
   ·rw [show Nat.beq d t = false from nbeq q] at hlk ⊢
    rcases hkt with hk | hk
    ·exact main u hlk hk
    ·cases hk; exact absurd rfl q

theorem d_eff1 {done q : List Nat} (q1 q2 : List Nat) (e : Nat) (E0 : Env) {d : Option Tmp} {op : Op} {ty : TypeId} {pos : String} {af : Array Edge} {gd : Option (Nat × Bool)} (ho : ops[e]? = some ⟨d, op, ty, pos, af, gd⟩) (hE : Subs E0 E)
  (hB : drawB ops done q [e] = true) (hf : effB ops e q q1 q2 (E0.map (·.1)) = true) (k : ∀ Ex, TL c (finD c fin ds E ops (e :: (q1 ++ done)) q2 ks d (E0 ++ Ex)) ds (E0 ++ Ex) L ops [⟨d, op, ty, pos, af, gd⟩] []) : TD c fin ds E L ops done q ks :=
 d_core hB (fun e' he' => by rw [List.mem_singleton] at he'; subst he'; exact effAt E0 ho hE hf k) (fun h => by cases h)
/-- Either of two may come first. -/
theorem d_eff2 {done q : List Nat} (e e' : Nat) (hB : drawB ops done q [e, e'] = true) (k : EffAt c fin ds E L ops done q ks e) (k' : EffAt c fin ds E L ops done q ks e') : TD c fin ds E L ops done q ks :=
 d_core hB (fun e'' he => by
  rcases List.mem_cons.1 he with rfl | he
  ·exact k
  ·rw [List.mem_singleton] at he; subst he; exact k') (fun h => by cases h)

/-! ### What a quiet operation comes to -/
variable {d : Option Tmp} {op : Op} {ty : TypeId} {pos : String} {af : Array Edge} {v : Value}
theorem yq (h : QV c ds E L ⟨d, op, ty, pos, af, none⟩ v) : YQ c ds E L ops ⟨d, op, ty, pos, af, none⟩ v := ⟨h.1, fun a w hs => .inl ⟨by simp [Region.wanted], h.2 a w hs⟩⟩
theorem yq_on {j : Nat} {b : Bool} {t : Tmp} (ht : (ops[j]?).bind (·.dst) = some t) (hb : lk E t = some (.bool b)) (h : QV c ds E L ⟨d, op, ty, pos, af, none⟩ v) : YQ c ds E L ops ⟨d, op, ty, pos, af, some (j, b)⟩ v := ⟨h.1, fun a w hs => by
 have hy : yielded ops a.tmps j = some b := by simp only [yielded, ht, Option.bind_some, hs.agree t _ hb]
 exact .inl ⟨by simp [Region.wanted, hy], h.2 a w hs⟩⟩
theorem yq_off {j : Nat} {b b' : Bool} {t : Tmp} (ht : (ops[j]?).bind (·.dst) = some t) (hb : lk E t = some (.bool b')) (hne : (b' == b) = false) (hop : ∀ k, op ≠ .defer k) : YQ c ds E L ops ⟨d, op, ty, pos, af, some (j, b)⟩ undef := ⟨hop, fun a w hs => by
 have hy : yielded ops a.tmps j = some b' := by simp only [yielded, ht, Option.bind_some, hs.agree t _ hb]
 exact .inr ⟨by simp [Region.wanted, hy]; simpa using hne, rfl⟩⟩
theorem yat {i : Nat} {o : Oper} {t : Tmp} (ho : ops[i]? = some o) (hd : o.dst = some t) (ht : Nat.blt t c.N = true) (hv : lk E t = some v) (hy : YQ c ds E L ops o v) : YAt c ds E L ops i := ⟨o, t, v, ho, hd, ht, hv, hy⟩

/-- An operation of a written-out row. -/
inductive GetO : List Oper → Nat → Oper → Prop
 | here {x : Oper} {l : List Oper} : GetO (x :: l) 0 x
 | there {x v : Oper} {o : Nat} {l : List Oper} : GetO l o v → GetO (x :: l) (o + 1) v
theorem GetO.eq {l : List Oper} {o : Nat} {v : Oper} (h : GetO l o v) : l.toArray[o]? = some v := by
 have : l[o]? = some v := by
  induction h with
  | here => rfl
  | there _ ih => simpa using ih
 simpa using this

theorem gO {l : List Oper} {o : Nat} {v : Oper} (h : GetO l o v := by repeat (first | exact GetO.here | apply GetO.there)) : l.toArray[o]? = some v := h.eq

theorem d_part {done q : List Nat} {t : Tmp} {b : Bool} (hb : lk E t = some (.bool b)) (h1 : b = true → TD c fin ds ((t, .bool true) :: E) L ops done q ks) (h2 : b = false → TD c fin ds ((t, .bool false) :: E) L ops done q ks) : TD c fin ds E L ops done q ks := by
 have key : ∀ b', b = b' → TD c fin ds ((t, .bool b') :: E) L ops done q ks → TD c fin ds E L ops done q ks := fun b' hbb h hy fuel l a w hl hu hs => by
  subst hbb
  have same : ∀ s, lk ((t, .bool b) :: E) s = lk E s := fun s => by
   simp only [lk]
   by_cases q : t = s
   ·subst q; simp [hb]
   ·rw [show Nat.beq t s = false from nbeq q]
  have st : ∀ {a w}, St c ds ((t, .bool b) :: E) L a w → St c ds E L a w := fun hs => ⟨hs.size, hs.defs, fun s v e => hs.agree s v (by rw [same]; exact e), hs.sat, hs.ext⟩
  have all : ∀ q' : List Nat, AllY c ds E L ops q' → AllY c ds ((t, .bool b) :: E) L ops q' := by
   intro q'
   induction q' with
   | nil => exact fun _ => trivial
   | cons i r ih =>
    rintro ⟨⟨o, t', v, h1, h2, h3, h4, h5, h6⟩, hr⟩
    exact ⟨⟨o, t', v, h1, h2, h3, by rw [same]; exact h4, h5, fun a w hs => h6 a w (st hs)⟩, ih hr⟩
  exact h (all q hy) fuel l a w hl hu ⟨hs.size, hs.defs, fun s v e hc => hs.agree s v (by rw [← same]; exact e) hc, hs.sat, hs.ext⟩
 cases b with
 | true => exact key true rfl (h1 rfl)
 | false => exact key false rfl (h2 rfl)
end
end Go.Proofs.Ytjekhcojebgpnaa.Eng
