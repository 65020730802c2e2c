import Derived.Test.YtjekhcojebgpnaaEngSt
import Derived.RangeFuncNested
section
/- The logic's rules for a range over a function: the iterator's contract, its calls of yield; the loop and its rounds. No program. -/
set_option linter.unusedVariables false
set_option linter.unusedSimpArgs false
namespace Go.Proofs.Ytjekhcojebgpnaa.Eng
open Go.RowKit

/-- Some x of which p holds, with its pieces. -/
def exP {X : Type} (p : X → Prop) (f : X → List HP) : HP := fun h => ∃ x, p x ∧ stars (f x) h
theorem sat_exP {X : Type} {p : X → Prop} {f : X → List HP} {L : List HP} {w : World} : Sat (stars (exP p f :: L)) w ↔ ∃ x, p x ∧ Sat (stars (f x ++ L)) w := by
 constructor
 ·rintro ⟨h, hi, f1, g1, ⟨x, hp, hx⟩, hg, d, rfl⟩
  exact ⟨x, hp, _, hi, stars_append.2 ⟨f1, g1, hx, hg, d, rfl⟩⟩
 ·rintro ⟨x, hp, h, hi, hs⟩
  obtain ⟨f1, g1, a, b, d, rfl⟩ := stars_append.1 hs
  exact ⟨_, hi, f1, g1, ⟨x, hp, a⟩, b, d, rfl⟩

theorem sat_all {M L : List HP} {w : World} : Sat (stars (stars M :: L)) w ↔ Sat (stars (M ++ L)) w :=
 ⟨fun h => h.mono fun _ k => stars_append.2 k, fun h => h.mono fun _ k => stars_append.1 k⟩

/-- One call of yield: on the pieces D it says b and leaves L'; beside them lie the pieces Sh, lent to the round. -/
def YieldOk (P : Program) (l : Nat) (args : Array Value) (D : List HP) (Post : Bool → List HP → Prop) (Sh : List HP := []) : Prop :=
 ∀ (Fr : List HP) (w0 w : World), Sat (stars (D ++ (Sh ++ Fr))) w → Ext w0 w → ∃ fn tmps assign body, (Instr.yield l args).run P w = .ok (.round l fn tmps assign body) w ∧
  RoundIn (FW none) 0 P l fn tmps assign body w fun e w' => ∃ b L', e = .returned (.bool b) ∧ Post b L' ∧ Sat (stars (L' ++ (Sh ++ Fr))) w' ∧ Ext w0 w'

section
variable {c : Cx} {fin : Exit → Act → World → Prop} {ds : List Deferred} {E : Env} {L : List HP} {ks : List KI} {ops : Array Oper} {rest : List Oper}
theorem l_yield {d : Option Tmp} {x : Operand} {xs : Array Operand} {ats : Array TypeId} {ty : TypeId} {pos : String} {af : Array Edge} {l : Nat} {vs : List Value} {D Sh R1 R : List HP} {Post : Bool → List HP → Prop}
  (hd : okDst d c.N = true) (hx : ev E x = some (.func (.yield l) #[] #[])) (ha : evl E xs.toList = some vs) (hc : YieldOk c.P l vs.toArray D Post Sh) (hp : Pick D L R1) (hq : Pick Sh R1 R)
  (k : ∀ b L', Post b L' → TL c fin ds (upd d (.bool b) E) (L' ++ (Sh ++ R)) ops rest ks) : TL c fin ds E L ops (⟨d, .call { callee := .value x, args := xs, argTypes := ats }, ty, pos, af, none⟩ :: rest) ks := fun a w hs => by
 refine wpListIn_plain rfl fun K hK => ?_
 have e1 := hs.ev hx
 have e2 : xs.map a.eval = vs.toArray := by
  have := hs.evl ha
  apply Array.ext'
  simpa using this
 refine ⟨fun _ _ => FW_fn _ _, ?_⟩
 obtain ⟨fn, tmps, assign, body, hy, hR⟩ := hc R c.w0 w ((hs.sat.pick hp).perm (List.Perm.append_left D hq.perm)) hs.ext
 have hr : (Oper.semAt (FW c.r).round a.eval ⟨d, .call { callee := .value x, args := xs, argTypes := ats }, ty, pos, af, none⟩).run c.P w = .ok (.round l fn tmps assign body) w := by
  rw [semAt_any (by intro k; simp)]
  simp only [execOp, resolve, e1, e2, Deferred.ofValue, Sem.run_bind, Sem.run_pure, Result.andThen, invoke]
  rw [show #[] ++ vs.toArray = vs.toArray by simp]
  exact hy
 rw [hr]
 refine ⟨fun h => (by cases h), hR.mono ?_⟩
 rintro e w' ⟨b, L', rfl, hpost, hsat, hext⟩
 have h0 := hs.put hd (.bool b) hs.sat (Ext.refl w)
 exact hK _ _ (k b L' hpost _ _ ⟨h0.size, h0.defs, h0.agree, hsat, hext⟩)
end

/-- An iterator's contract: on D it hands over the rows of values xs, one a round, and leaves D'; what it lends to the rounds is Sh. -/
structure IterOk (P : Program) (g : FuncId) (cap : Array Value) (D : List HP) (xs : List (List Value)) (D' : List HP) (Sh : List HP := []) : Prop where
 enters : ∀ args w, (callFunc g args).run P w = .ok (.enter g args) w
 calls : ∀ (l : Nat) (B S : Nat → HP), (∀ k x, xs[k]? = some x → YieldOk P l x.toArray [B k] (fun b L' => (b = true ∧ L' = [B (k + 1)]) ∨ (b = false ∧ L' = [S (k + 1)])) Sh) →
  FnOk P g (#[.func (.yield l) #[] #[]] ++ cap) (D ++ [B 0]) fun _ L' => L' = D' ++ [B xs.length] ∨ ∃ k, k < xs.length ∧ L' = D' ++ [S (k + 1)]

theorem IterOk.plain {P : Program} {g : FuncId} {cap : Array Value} {D : List HP} {xs : List (List Value)} {D' Sh : List HP} (h : IterOk P g cap D xs D' Sh) : IterOk P g cap D xs D' :=
 ⟨h.enters, fun l B S hY => h.calls l B S fun k x hx Fr w0 w hs he => hY k x hx (Sh ++ Fr) w0 w hs he⟩

/-- The slots at a round's beginning: yield's arguments in the parameters. -/
def parE : List Tmp → List Value → Env → Env
 | p :: ps, v :: vs, E => parE ps vs ((p, v) :: E)
 | _, _, E => E

theorem st_par {c : Cx} : ∀ (ps : List Tmp) (vs : List Value) {E : Env} {L : List HP} {tmps : Array Value} {w : World}, ps.all (fun p => Nat.blt p c.N) = true → St c [] E L ⟨tmps, []⟩ w →
  St c [] (parE ps vs E) L ⟨(ps.zip vs).foldl (fun t (pv : Tmp × Value) => t.setIfInBounds pv.1 pv.2) tmps, []⟩ w
 | [], _, E, L, tmps, w, _, hs => hs
 | p :: ps, [], E, L, tmps, w, _, hs => hs
 | p :: ps, v :: vs, E, L, tmps, w, hp, hs => by
  simp only [List.all_cons, Bool.and_eq_true] at hp
  have h1 := hs.put (d := some p) hp.1 v hs.sat (Ext.refl w)
  exact st_par ps vs hp.2 h1

/-- A round: how it may end. -/
def roundR (w0 : World) (Fr : List HP) (Bk Sk : List HP) : Ending → World → Prop := fun e w' => ∃ b L', e = .returned (.bool b) ∧ ((b = true ∧ L' = [stars Bk]) ∨ (b = false ∧ L' = [stars Sk])) ∧ Sat (stars (L' ++ Fr)) w' ∧ Ext w0 w'
def finR (P : Program) (l : Nat) (w0 : World) (Fr : List HP) (Bk Sk : List HP) : Exit → Act → World → Prop := roundPost P l (roundR w0 Fr Bk Sk)
def finA (P : Program) (l : Nat) (w0 : World) (Fr : List HP) (Bk Sk : List HP) (body : Code) : Exit → Act → World → Prop :=
 Exit.then (fun a₁ w₁ => ∃ w₂, (Instr.beginRound l).run P w₁ = .ok () w₂ ∧ body.wpIn (FW (some l)) 0 P (finR P l w0 Fr Bk Sk) a₁ w₂) fun _ _ _ => False

/-- The variables are laid: the round begins. -/
theorem n_begin {P : Program} {l N : Nat} {w0 : World} {Fr Bk Sk : List HP} {body : Code} {ds : List Deferred} {E : Env} {L M : List HP} {rc : Loop} (ht : Take (pt l (.loop rc)) L M) (hrc : rc.state = .ready)
  (h : TC ⟨P, some l, w0, N⟩ (finR P l w0 Fr Bk Sk) ds E (pt l (.loop { rc with state := .busy }) :: M) body []) : TN ⟨P, some l, w0, N⟩ (finA P l w0 Fr Bk Sk body) ds E L .normal [] := fun a w hs => by
 have hl := hs.sat.block ht
 refine ⟨_, run_beginRound hl hrc, ?_⟩
 exact h a _ ⟨hs.size, hs.defs, hs.agree, Sat.putObj (hs.sat.take ht) _, hs.ext.putObj _ _⟩

section
variable {P : Program} {l N k : Nat} {w0 : World} {Fr : List HP} {ds : List Deferred} {E : Env} {L : List HP} {rc : Loop} {X Y : Type} {p : X → Prop} {J : X → List HP} {q : Code × Y → Prop} {Jx : Code × Y → List HP}

/-- What lies between two rounds; behind a round that has left. -/
def betw (l : Nat) (rc : Loop) (p : X → Prop) (J : X → List HP) : List HP := [pt l (.loop rc), exP p J]
def left (l : Nat) (rc : Loop) (q : Code × Y → Prop) (Jx : Code × Y → List HP) : List HP := [exP q fun y => pt l (.loop { rc with state := .done, pending := some y.1 }) :: Jx y]

theorem end_round (jump : Option Code) {M : List HP} {w : World} (hs : Sat (stars (pt l (.loop { rc with state := .busy }) :: M)) w) :
  ∃ w', (Instr.endRound l jump).run P w = .ok (.bool jump.isNone) w' ∧ Sat (stars (pt l (.loop { rc with state := if jump.isNone then .ready else .done, pending := jump }) :: M)) w' ∧ Ext w w' :=
 ⟨_, run_endRound jump (hs.block .here), Sat.putObj hs _, (Ext.refl w).putObj _ _⟩

/-- A round's end: on to the next. -/
theorem r_next {S : List HP} (hr : rc.state = .ready) (hpn : rc.pending = none) (x : X) (hp : p x) (hl : Ent L (pt l (.loop { rc with state := .busy }) :: (J x ++ Fr))) :
  TN ⟨P, some l, w0, N⟩ (finR P l w0 Fr (betw l rc p J) S) ds E L .normal [] := fun a w hs => by
 obtain ⟨w', h1, h2, h3⟩ := end_round (P := P) none (hl w hs.sat)
 refine ⟨_, w', h1, true, _, rfl, .inl ⟨rfl, rfl⟩, ?_, hs.ext.trans h3⟩
 have e : ({ rc with state := if (none : Option Code).isNone then .ready else .done, pending := none } : Loop) = rc := by
  cases rc; simp only at hr hpn; subst hr; subst hpn; rfl
 rw [e] at h2
 show Sat (stars (stars (betw l rc p J) :: Fr)) w'
 refine sat_all.2 ?_
 show Sat (stars (pt l (.loop rc) :: exP p J :: Fr)) w'
 have h4 : Sat (stars (exP p J :: pt l (.loop rc) :: Fr)) w' := sat_exP.2 ⟨x, hp, by
  refine h2.pick (D := J x) (R := pt l (.loop rc) :: Fr) ?_
  have : ∀ (D : List HP) (A : HP) (R : List HP), Pick D (A :: (D ++ R)) (A :: R) := by
   intro D
   induction D with
   | nil => intro A R; exact .nil
   | cons B D ih => intro A R; exact .cons (.there .here) (ih A R)
  exact this _ _ _⟩
 exact h4.pick (D := [pt l (.loop rc)]) (.cons (.there .here) .nil)

end

/-- What a yield's rounds are, for the loop at hand. -/
def RoundsOk (P : Program) (l : Nat) (xs : List (List Value)) (B S : Nat → HP) (Sh : List HP) : Prop := ∀ k x, xs[k]? = some x → YieldOk P l x.toArray [B k] (fun b L' => (b = true ∧ L' = [B (k + 1)]) ∨ (b = false ∧ L' = [S (k + 1)])) Sh
/-- An iterator that reads the pieces H ahead of its first round, and leaves them to the rounds (C: what else the rounds have). -/
structure IterH (P : Program) (g : FuncId) (cap : Array Value) (D H : List HP) (xs : List (List Value)) (D' : List HP) (Sh : List HP := []) : Prop where
 enters : ∀ args w, (callFunc g args).run P w = .ok (.enter g args) w
 calls : ∀ (l : Nat) (B S : Nat → HP) (C : List HP), (∀ F w, Sat (stars (H ++ (C ++ F))) w → Sat (stars (B 0 :: F)) w) → RoundsOk P l xs B S Sh →
  FnOk P g (#[.func (.yield l) #[] #[]] ++ cap) (D ++ (H ++ C)) fun _ L' => L' = D' ++ [B xs.length] ∨ ∃ k, k < xs.length ∧ L' = D' ++ [S (k + 1)]
theorem IterH.plain {P : Program} {g : FuncId} {cap : Array Value} {D H : List HP} {xs : List (List Value)} {D' Sh : List HP} (h : IterH P g cap D H xs D' Sh) : IterH P g cap D H xs D' :=
 ⟨h.enters, fun l B S C hC hY => h.calls l B S C hC fun k x hx Fr w0 w hs he => hY k x hx (Sh ++ Fr) w0 w hs he⟩
end Go.Proofs.Ytjekhcojebgpnaa.Eng
end
section
/- The logic's rules for a range over a function whose rounds turn what the iterator looks at: what is handed over depends on how things stand then. No program. -/
set_option linter.unusedVariables false
set_option linter.unusedSimpArgs false
namespace Go.Proofs.Ytjekhcojebgpnaa.Eng
open Go.RowKit

/-- An iterator's contract: i: how far it is; σ: how the pieces G stand, which the rounds may turn as Inv lets them; row: what it hands over then, and how far it is then. -/
structure IterG (P : Program) (g : FuncId) (cap : Array Value) (D D' : List HP) {I S : Type} (Inv : I → S → Prop) (G : S → List HP) (row : I → S → Option (List Value × I)) (i0 : I) : Prop where
 enters : ∀ args w, (callFunc g args).run P w = .ok (.enter g args) w
 calls : ∀ (l : Nat) (B : I → HP) (Bo : I → S → HP) (Z : HP), (∀ i F w, Sat (stars (B i :: F)) w → ∃ x : { s : S // Inv i s }, Sat (stars (G x.1 ++ (Bo i x.1 :: F))) w) →
  (∀ i s x i', Inv i s → row i s = some (x, i') → YieldOk P l x.toArray (G s ++ [Bo i s]) (fun b L' => (b = true ∧ L' = [B i']) ∨ (b = false ∧ L' = [Z]))) →
  ∀ s0, Inv i0 s0 → FnOk P g (#[.func (.yield l) #[] #[]] ++ cap) (D ++ (G s0 ++ [Bo i0 s0])) fun _ L' => (∃ i s, Inv i s ∧ row i s = none ∧ L' = D' ++ (G s ++ [Bo i s])) ∨ L' = D' ++ [Z]

section
variable {c : Cx} {fin : Exit → Act → World → Prop} {ds : List Deferred} {E : Env} {ks : List KI} {ps : Array Tmp} {assign body : Code} {gf : FuncId} {cap : Array Value} {D D' L R R' : List HP}
variable {I S X Y : Type} {Inv : I → S → Prop} {G : S → List HP} {row : I → S → Option (List Value × I)} {i0 : I}

theorem range_coreG {X0 : List HP} (p : I → S → X → Prop) (J : I → S → X → List HP) (q : Code × Y → Prop) (Jx : Code × Y → List HP)
  (hc : IterG c.P gf cap D D' Inv G row i0) (s0 : S) (hs0 : Inv i0 s0) (x0 : X) (hp0 : p i0 s0 x0) (hJ0 : Pick (G s0 ++ J i0 s0 x0) R R')
  (hps : ps.toList.all (fun p => Nat.blt p c.N) = true) (hxs : ∀ i s x i', Inv i s → row i s = some (x, i') → x.length = ps.size)
  (hround : ∀ (l : Nat) (rc : Loop) (Fr : List HP) (w0 : World) (i : I) (s : S) (x : List Value) (i' : I) (j : X), rc.state = .ready → rc.pending = none → Inv i s → row i s = some (x, i') → p i s j →
   TC ⟨c.P, some l, w0, c.N⟩ (finA c.P l w0 Fr (betw l rc (fun y : S × X => Inv i' y.1 ∧ p i' y.1 y.2) (fun y => G y.1 ++ J i' y.1 y.2)) (left l rc q Jx) body) [] (parE ps.toList x E) (pt l (.loop rc) :: (G s ++ (J i s j ++ Fr))) assign [])
  (hdone : ∀ (i : I) (s : S) (j : X), Inv i s → row i s = none → p i s j → TN c fin ds E (X0 ++ (D' ++ (G s ++ (J i s j ++ R')))) .normal ks)
  (hstop : ∀ (y : Code × Y), q y → TC c fin ds E (X0 ++ (D' ++ (Jx y ++ R'))) y.1 ks)
  {fn : FuncId} {a a' : Act} {W : World} {l dl : Nat} {rc : Loop} (hrc : rc = { state := .ready, pending := none, fn, tmps := a.tmps, params := ps, assign, body, defers := dl })
  (hsat : Sat (stars (pt l (.loop rc) :: (X0 ++ (D ++ R)))) W) (hext : Ext c.w0 W) (hsize : a.tmps.size = c.N) (hagree : ∀ t v, lk E t = some v → a.tmps[t]? = some v) (ha' : a'.tmps = a.tmps) (hd' : a'.defers = ds) :
  CallsIn (FW c.r) 0 c.P gf (#[.func (.yield l) #[] #[]] ++ cap) W (rangePost (FW c.r) 0 c.P l (Qof c fin ks) a') := by
 have hst : rc.state ≠ .busy := by rw [hrc]; simp
 have hcall := hc.calls l (fun i => stars (betw l rc (fun y : S × X => Inv i y.1 ∧ p i y.1 y.2) (fun y => G y.1 ++ J i y.1 y.2))) (fun i s => stars (betw l rc (p i s) (J i s))) (stars (left l rc q Jx)) ?_ ?_ s0 hs0
 ·have h1 : Sat (stars (D ++ (G s0 ++ [stars (betw l rc (p i0 s0) (J i0 s0))]) ++ (X0 ++ R'))) W := by
   have h2 : Sat (stars (J i0 s0 x0 ++ (pt l (.loop rc) :: (X0 ++ (D ++ (G s0 ++ R')))))) W := by
    refine hsat.perm ?_
    refine ((List.Perm.append_left X0 (List.Perm.append_left D hJ0.perm)).cons _).trans ?_
    simp only [List.append_assoc]
    refine List.Perm.trans ?_ List.perm_middle.symm
    refine List.Perm.cons _ ?_
    refine (List.Perm.append_left X0 (List.Perm.append_left D (List.perm_append_comm_assoc (G s0) (J i0 s0 x0) R'))).trans ?_
    refine (List.Perm.append_left X0 (List.perm_append_comm_assoc D (J i0 s0 x0) _)).trans ?_
    exact List.perm_append_comm_assoc _ _ _
   have h3 : Sat (stars (exP (p i0 s0) (J i0 s0) :: (pt l (.loop rc) :: (X0 ++ (D ++ (G s0 ++ R')))))) W := sat_exP.2 ⟨x0, hp0, h2⟩
   have h4 : Sat (stars (stars (betw l rc (p i0 s0) (J i0 s0)) :: (X0 ++ (D ++ (G s0 ++ R'))))) W := sat_all.2 (h3.perm (.swap _ _ _))
   refine h4.perm ?_
   simp only [List.append_assoc, List.cons_append, List.nil_append]
   refine ((List.perm_append_comm_assoc X0 D _).cons _).trans ?_
   refine List.perm_middle.symm.trans (List.Perm.append_left D ?_)
   refine ((List.perm_append_comm_assoc X0 (G s0) R').cons _).trans ?_
   exact List.perm_middle.symm
  refine (hcall.calls (X0 ++ R') c.w0 W h1 hext).mono ?_
  rintro e w3 ⟨v, L', rfl, (⟨i, s, hi, hrow, rfl⟩ | rfl), hs3, he3⟩
  ·-- there is no more
   have h5 : Sat (stars (stars (betw l rc (p i s) (J i s)) :: (D' ++ (G s ++ (X0 ++ R'))))) w3 := hs3.perm (by
    simp only [List.append_assoc, List.cons_append, List.nil_append]
    refine (List.Perm.append_left D' List.perm_middle).trans ?_
    exact List.perm_middle)
   have h0 : Sat (stars (pt l (.loop rc) :: exP (p i s) (J i s) :: (D' ++ (G s ++ (X0 ++ R'))))) w3 := sat_all.1 h5
   refine ⟨rc.pending, _, run_endLoop (h0.block .here) hst, ?_⟩
   have h6 := Sat.tail (Sat.putObj h0 (.loop { rc with state := .exhausted }))
   obtain ⟨x, hpx, h7⟩ := sat_exP.1 h6
   split
   ·refine hdone i s x hi hrow hpx _ _ ⟨by rw [ha']; exact hsize, hd', by rw [ha']; exact hagree, h7.perm ?_, he3.putObj _ _⟩
    refine (List.perm_append_comm_assoc (J i s x) D' _).trans ?_
    refine (List.Perm.append_left D' ((List.perm_append_comm_assoc (J i s x) (G s) _).trans (List.Perm.append_left (G s) (List.perm_append_comm_assoc (J i s x) X0 R')))).trans ?_
    refine (List.Perm.append_left D' (List.perm_append_comm_assoc (G s) X0 _)).trans ?_
    exact List.perm_append_comm_assoc _ _ _
   ·next hne => rw [hrc] at hne; cases hne
  ·-- a round has left
   have h5 : Sat (stars (stars (left l rc q Jx) :: (D' ++ (X0 ++ R')))) w3 := hs3.perm (by
    simp only [List.append_assoc, List.cons_append, List.nil_append]
    exact List.perm_middle)
   obtain ⟨y, hqy, h6⟩ := (sat_exP (L := D' ++ (X0 ++ R'))).1 (sat_all.1 h5)
   refine ⟨some y.1, _, run_endLoop (h6.block .here) (by simp), ?_⟩
   have h2 := Sat.tail (Sat.putObj h6 (.loop { { rc with state := .done, pending := some y.1 } with state := .exhausted }))
   refine hstop y hqy _ _ ⟨by rw [ha']; exact hsize, hd', by rw [ha']; exact hagree, h2.perm ?_, he3.putObj _ _⟩
   refine (List.Perm.append_left _ (List.perm_append_comm_assoc D' X0 R')).trans ?_
   refine (List.perm_append_comm_assoc _ _ _).trans ?_
   exact List.Perm.append_left X0 (List.perm_append_comm_assoc _ _ _)
 ·-- between two rounds
  intro i F w hw
  have h1 : Sat (stars (pt l (.loop rc) :: exP (fun y : S × X => Inv i y.1 ∧ p i y.1 y.2) (fun y => G y.1 ++ J i y.1 y.2) :: F)) w := sat_all.1 hw
  obtain ⟨⟨s, x⟩, ⟨hi, hp⟩, h2⟩ := sat_exP.1 (h1.perm (.swap _ _ _))
  refine ⟨⟨s, hi⟩, ?_⟩
  have h3 : Sat (stars (J i s x ++ (pt l (.loop rc) :: (G s ++ F)))) w := h2.perm (by
   rw [List.append_assoc]
   refine (List.perm_append_comm_assoc (G s) (J i s x) _).trans (List.Perm.append_left _ ?_)
   exact List.perm_middle)
  have h4 : Sat (stars (exP (p i s) (J i s) :: (pt l (.loop rc) :: (G s ++ F)))) w := sat_exP.2 ⟨x, hp, h3⟩
  have h5 : Sat (stars (stars (betw l rc (p i s) (J i s)) :: (G s ++ F))) w := sat_all.2 (h4.perm (.swap _ _ _))
  exact h5.perm List.perm_middle.symm
 ·-- one round
  intro i s x i' hi hrow Fr w0 w' hs' he'
  have h0 : Sat (stars (stars (betw l rc (p i s) (J i s)) :: (G s ++ Fr))) w' := hs'.perm (by
   simp only [List.append_assoc, List.nil_append, List.cons_append]
   exact List.perm_middle)
  obtain ⟨j, hj, h1⟩ := sat_exP.1 ((sat_all.1 h0).perm (M := exP (p i s) (J i s) :: pt l (.loop rc) :: (G s ++ Fr)) (.swap _ _ _))
  have h2 := h1.perm (M := pt l (.loop rc) :: (G s ++ (J i s j ++ Fr))) (List.perm_middle.trans ((List.perm_append_comm_assoc _ _ _).cons _))
  have hlen : x.toArray.size = rc.params.size := by
   rw [hrc]; simp only [List.size_toArray]
   exact hxs i s x i' hi hrow
  refine ⟨fn, _, assign, body, by rw [run_yield (h2.block .here) hlen]; rw [hrc], roundIn_of_wpIn (F := FW none) trivial ?_⟩
  have hst : St ⟨c.P, some l, w0, c.N⟩ [] E (pt l (.loop rc) :: (G s ++ (J i s j ++ Fr))) ⟨a.tmps, []⟩ w' := ⟨hsize, rfl, hagree, h2, he'⟩
  have hst2 := st_par (c := ⟨c.P, some l, w0, c.N⟩) ps.toList x hps hst
  have := hround l rc Fr w0 i s x i' j (by rw [hrc]) (by rw [hrc]) hi hrow hj _ w' hst2
  have e : (ps.zip x.toArray).foldl (fun t (pv : Tmp × Value) => t.setIfInBounds pv.1 pv.2) a.tmps = (ps.toList.zip x).foldl (fun t (pv : Tmp × Value) => t.setIfInBounds pv.1 pv.2) a.tmps := by
   rw [← Array.foldl_toList]; simp
  rw [hrc] at this ⊢
  simp only [List.nil_append]
  rw [e]
  exact this

theorem t_rangeG {g : Operand} (p : I → S → X → Prop) (J : I → S → X → List HP) (q : Code × Y → Prop) (Jx : Code × Y → List HP)
  (hr : c.r = none) (hg : ev E g = some (.func (.func gf) #[] cap)) (hc : IterG c.P gf cap D D' Inv G row i0) (hp : Pick D L R) (s0 : S) (hs0 : Inv i0 s0) (x0 : X) (hp0 : p i0 s0 x0) (hJ0 : Pick (G s0 ++ J i0 s0 x0) R R')
  (hps : ps.toList.all (fun p => Nat.blt p c.N) = true) (hxs : ∀ i s x i', Inv i s → row i s = some (x, i') → x.length = ps.size)
  (hround : ∀ (l : Nat) (rc : Loop) (Fr : List HP) (w0 : World) (i : I) (s : S) (x : List Value) (i' : I) (j : X), rc.state = .ready → rc.pending = none → Inv i s → row i s = some (x, i') → p i s j →
   TC ⟨c.P, some l, w0, c.N⟩ (finA c.P l w0 Fr (betw l rc (fun y : S × X => Inv i' y.1 ∧ p i' y.1 y.2) (fun y => G y.1 ++ J i' y.1 y.2)) (left l rc q Jx) body) [] (parE ps.toList x E) (pt l (.loop rc) :: (G s ++ (J i s j ++ Fr))) assign [])
  (hdone : ∀ (b : Nat) (i : I) (s : S) (j : X), Inv i s → row i s = none → p i s j → TN c fin ({ target := .collected b, args := #[] } :: ds) E (pt b (.deferred (some [])) :: (D' ++ (G s ++ (J i s j ++ R')))) .normal ks)
  (hstop : ∀ (b : Nat) (y : Code × Y), q y → TC c fin ({ target := .collected b, args := #[] } :: ds) E (pt b (.deferred (some [])) :: (D' ++ (Jx y ++ R'))) y.1 ks) :
  TC c fin ds E L (.rangeFunc g ps assign body) ks := fun a w hs => by
 refine wpIn_rangeFunc fun fn hfn => ?_
 rw [show (FW c.r).round = none from hr]
 obtain ⟨rc, hrc⟩ : ∃ rc : Loop, rc = { state := .ready, pending := none, fn, tmps := a.tmps, params := ps, assign, body, defers := w.heap.size } := ⟨_, rfl⟩
 have hsat : Sat (stars (pt (w.heap.size + 1) (.loop rc) :: pt w.heap.size (.deferred (some [])) :: L)) ((w.alloc (.deferred (some []))).alloc (.loop rc)) := by
  have h2 := Sat.alloc (A := stars (pt w.heap.size (.deferred (some [])) :: L)) (hs.sat.alloc (.deferred (some []))) (.loop rc)
  rw [World.size_alloc] at h2
  exact h2
 have e1 := hs.ev hg
 obtain ⟨W, hW⟩ : ∃ W, W = (w.alloc (.deferred (some []))).alloc (.loop rc) := ⟨_, rfl⟩
 refine ⟨w.heap.size + 1, [{ target := .collected w.heap.size, args := #[] }], W, { target := .fn (.func gf) cap, args := #[.func (.yield (w.heap.size + 1)) #[] #[]] }, W, gf, #[.func (.yield (w.heap.size + 1)) #[] #[]] ++ cap, W, ?_, ?_, fun f' _ => FW_fn _ _, ?_, fun h => (by cases h), ?_⟩
 ·rw [run_enterLoop_outer, hW, hrc]
 ·simp only [resolve, e1]
  simp [go_sem, Deferred.ofValue, Act.eval]
 ·simp [invoke]; exact hc.enters _ _
 ·rw [← hW] at hsat
  refine range_coreG (X0 := [pt w.heap.size (.deferred (some []))]) p J q Jx hc s0 hs0 x0 hp0 hJ0 hps hxs hround (hdone w.heap.size) (hstop w.heap.size) hrc (hsat.perm ?_) (by rw [hW]; exact (hs.ext.alloc _).alloc _) hs.size hs.agree rfl (by simp [hs.defs])
  exact (hp.perm.cons _).cons _

end
theorem b_lssS {P : Program} {t : TypeId} (w : World) {a b : ByteArray} : (binOp .lss t (.string a) (.string b)).run P w = .ok (.bool (Op.bytesLess a.toList b.toList)) w := by simp [binOp, Op.stringOp]
end Go.Proofs.Ytjekhcojebgpnaa.Eng
end
