/- The logic's rules for a deferred call of a function. No program. -/
import Derived.Test.YtgijnebgchkenaaGreatDoorEngMore
set_option linter.unusedVariables false
set_option linter.unusedSimpArgs false
namespace Go.Proofs.YtgijnebgchkenaaGreatDoor.Eng
open Go.RowKit

/-- The contract of a function that is entered as a deferred call, at a return. -/
structure DefOk (P : Program) (f : FuncId) (args : Array Value) (D : List HP) (Post : List HP → Prop) : Prop where
  enters : ∀ args w, (callFunc f args).run P w = .ok (.enter f args) w
  calls : ∀ (Fr : List HP) (w0 w : World), Sat (stars (D ++ Fr)) w → Ext w0 w →
    CallsDIn (FW none) 0 P f args .returning w fun e u' w' => u' = .returning ∧ ∃ v L', e = .returned v ∧ Post L' ∧ Sat (stars (L' ++ Fr)) w' ∧ Ext w0 w'
def finB (P : Program) (fn : Func) (Fr : List HP) (w0 : World) (Post : List HP → Prop) : Exit → Act → World → Prop :=
  bodyPost P fn fun e w' => ∃ v L', e = .returned v ∧ Post L' ∧ Sat (stars (L' ++ Fr)) w' ∧ Ext w0 w'
theorem def_intro {P : Program} {f : FuncId} {fn : Func} {x : Code} {vs : List Value} {D : List HP} {Post : List HP → Prop} {N : Nat}
    (hen : ∀ args w, (callFunc f args).run P w = .ok (.enter f args) w) (hf : P.funcs[f]? = some fn) (hb : fn.body = some x) (hN : fn.ntmps = N) (hlen : Nat.ble vs.length N = true)
    (h : ∀ Fr w0, TC ⟨P, none, w0, N⟩ (finB P fn Fr w0 Post) [] (args0 0 vs) (D ++ Fr) x []) : DefOk P f vs.toArray D Post := by
  refine ⟨hen, fun Fr w0 w hs he => ?_⟩
  refine callsDIn_of_wp hf hb trivial ?_ rfl
  refine h Fr w0 _ w ⟨?_, rfl, ?_, hs, he⟩
  · have := Nat.le_of_ble_eq_true hlen
    simp [hN]; omega
  · intro t v e
    obtain ⟨_, h2⟩ := args0_lk e
    have hlt : t < vs.length := by
      rw [Nat.sub_zero] at h2
      exact (List.getElem?_eq_some_iff.1 h2).1
    simp only [Nat.sub_zero] at h2
    rw [Array.getElem?_append_left (by simpa using hlt)]
    simpa using h2
theorem f_retB {c : Cx} {fn : Func} {Fr : List HP} {Post : List HP → Prop} {E : Env} {L : List HP} {e : Exit} (hx : e = .ret ∨ e = .normal) {v : Value} (L' : List HP)
    (hr : ResIs c.P fn E L v) (hp : Post L') (hl : Ent L (L' ++ Fr)) : TN c (finB c.P fn Fr c.w0 Post) [] E L e [] := fun a w hs => by
  have : a.defers = [] ∧ ∃ v, (results fn a.tmps).run c.P w = .ok v w ∧ ∃ v' L', Ending.returned v = .returned v' ∧ Post L' ∧ Sat (stars (L' ++ Fr)) w ∧ Ext c.w0 w :=
    ⟨hs.defs, v, hr c [] a w hs, v, L', rfl, hp, hl w hs.sat, hs.ext⟩
  rcases hx with rfl | rfl <;> exact this
section
variable {c : Cx} {fin : Exit → Act → World → Prop} {ds : List Deferred} {E : Env} {L : List HP} {ks : List KI} {ops : Array Oper} {rest : List Oper}
/-- A defer statement, in no round. -/
theorem o_defer {d : Option Tmp} {x : Operand} {xs : Array Operand} {ats : Array TypeId} {ty : TypeId} {pos : String} {af : Array Edge} {f : FuncId} {cap : Array Value} {vs : List Value}
    (hd : okDst d c.N = true) (hro : c.r = none) (hx : ev E x = some (.func (.func f) #[] cap)) (ha : evl E xs.toList = some vs)
    (k : TL c fin ({ target := .fn (.func f) cap, args := vs.toArray } :: ds) (upd d undef E) L ops rest ks) :
    TL c fin ds E L ops (⟨d, .defer { callee := .value x, args := xs, argTypes := ats }, ty, pos, af, none⟩ :: rest) ks := fun a w hs => by
  refine wpListIn_plain rfl fun K hK => ?_
  have e1 := hs.ev hx
  have e2 : xs.map a.eval = vs.toArray := by
    have := hs.evl ha
    apply Array.ext'
    simpa using this
  refine ⟨fun _ _ => FW_fn _ _, ?_⟩
  rw [show (FW c.r).round = none from hro, Oper.semAt_none]
  have hr : (execOp a.eval ⟨d, .defer { callee := .value x, args := xs, argTypes := ats }, ty, pos, af, none⟩).run c.P w = .ok (.defer { target := .fn (.func f) cap, args := vs.toArray }) w := by
    simp [execOp, resolve, e1, e2, Deferred.ofValue, Result.andThen]
  rw [hr, Oper.uponIn_defer]
  have h0 := hs.put hd undef hs.sat (Ext.refl w)
  refine hK _ _ (k _ w ⟨?_, ?_, ?_, h0.sat, h0.ext⟩)
  · have := h0.size; cases d <;> simpa [Act.put] using this
  · cases d <;> simp [Act.put, hs.defs]
  · have := h0.agree; cases d <;> simpa [Act.put] using this
end
theorem leaves_one {P : Program} {fn : Func} {tmps : Array Value} {R : Ending → World → Prop} {M D S : List HP} {w0 : World} {f : FuncId} {cap dargs args : Array Value} {Post : List HP → Prop} (hargs : dargs ++ cap = args) (hc : DefOk P f args D Post) (hp : Pick D M S)
    (h : ∀ L' w', Post L' → Sat (stars (L' ++ S)) w' → Ext w0 w' → ∃ v, (results fn tmps).run P w' = .ok v w' ∧ R (.returned v) w') :
    ∀ (bs : List Nat) (w : World), Sat (stars (markPts bs ++ M)) w → Ext w0 w → LeavesInM (FW none) 0 P fn tmps R (marksOf bs ++ [{ target := .fn (.func f) cap, args := dargs }]) .returning w
  | [], w, hs, he => by
    refine ⟨by simp, .inr ⟨fun h => (by cases h), .func f, cap, f, args, rfl, ?_, fun g _ => FW_fn _ _, ?_⟩⟩
    · simp only [invoke]; rw [hargs]; exact hc.enters args w
    · refine (hc.calls S w0 w (hs.pick hp) he).mono ?_
      rintro e u' w' ⟨rfl, v, L', rfl, hpo, hsat, hext⟩
      obtain ⟨v2, h1, h2⟩ := h L' w' hpo hsat hext
      exact ⟨v2, h1, h2⟩
  | b :: bs, w, hs, he => by
    have hb : w.heap[b]? = some (Obj.deferred (some [])) := hs.block .here
    refine ⟨by simp, .inl ⟨b, _, rfl, run_takeDeferred hb, ?_⟩⟩
    exact leaves_one hargs hc hp h bs _ (Sat.tail (Sat.putObj hs (.deferred none))) (he.putObj _ _)
/-- A return with one deferred call ahead of it, behind loops over functions. -/
theorem f_retd {c : Cx} {fn : Func} {Fr : List HP} {Post : Value → List HP → Prop} {E : Env} {L M D S : List HP} {e : Exit} (hx : e = .ret ∨ e = .normal) (bs : List Nat) (hm : TakeM bs L M) {f : FuncId} {cap dargs args : Array Value} {PostD : List HP → Prop}
    (hargs : dargs ++ cap = args) (hc : DefOk c.P f args D PostD) (hp : Pick D M S) (h : ∀ L', PostD L' → ∃ v L'', ResIs c.P fn E (L' ++ S) v ∧ Post v L'' ∧ Ent (L' ++ S) (L'' ++ Fr)) :
    TN c (finF c.P fn Fr c.w0 Post) (marksOf bs ++ [{ target := .fn (.func f) cap, args := dargs }]) E L e [] := fun a w hs => by
  have : LeavesInM (FW none) 0 c.P fn a.tmps (fun e w' => ∃ v L', e = .returned v ∧ Post v L' ∧ Sat (stars (L' ++ Fr)) w' ∧ Ext c.w0 w') a.defers .returning w := by
    rw [hs.defs]
    refine leaves_one hargs hc hp (fun L' w' hpo hsat hext => ?_) bs w (hs.sat.perm hm.perm) hs.ext
    obtain ⟨v, L'', h1, h2, h3⟩ := h L' hpo
    exact ⟨v, h1 c _ { a with defers := [] } w' ⟨hs.size, rfl, hs.agree, hsat, hext⟩, v, L'', rfl, h2, h3 w' hsat, hext⟩
  rcases hx with rfl | rfl <;> exact this
section
variable {c : Cx} {fin : Exit → Act → World → Prop} {ds : List Deferred} {E : Env} {L : List HP} {ks : List KI}
/-- What holds behind a piece of code, whatever way it went. -/
def cutI (c : Cx) (ds : List Deferred) {X : Type} (p : X → Prop) (EE : X → Env) (LL : X → List HP) : Act → World → Prop := fun a w => ∃ x, p x ∧ St c ds (EE x) (LL x) a w
theorem t_cut {X : Type} {p : X → Prop} {EE : X → Env} {LL : X → List HP} {x : Code} (h1 : TC c fin ds E L x (.lp (cutI c ds p EE LL) :: ks)) (h2 : ∀ y, p y → TN c fin ds (EE y) (LL y) .normal ks) : TC c fin ds E L x ks := fun a w hs => by
  refine wpIn_mono (h1 a w hs) ?_
  intro e a' w' hq
  cases e with
  | normal => obtain ⟨y, hp, hst⟩ := hq; exact h2 y hp a' w' hst
  | _ => exact hq
theorem n_join {X : Type} {p : X → Prop} {EE : X → Env} {LL : X → List HP} (x : X) (hp : p x) (he : Subs (EE x) E) (hl : Ent L (LL x)) : TN c fin ds E L .normal (.lp (cutI c ds p EE LL) :: ks) := fun a w hs => ⟨x, hp, hs.weaken he hl⟩
end
section
variable {c : Cx} {ds : List Deferred} {E : Env} {L : List HP} {d : Option Tmp} {ty : TypeId} {pos : String} {af : Array Edge} {gd : Option (Nat × Bool)}
/-- An array of two. -/
theorem q_build2 {t e : TypeId} {len n : Nat} {ps : Array (Nat × Operand)} {z us : List Value} {v0 v1 : Value} (hx : evp E ps.toList = some [(0, v0), (1, v1)]) (hu : c.P.underlying t = some (.array len e)) (hs : ∀ w, (sizeOf e).run c.P w = .ok n w)
    (hz : ∀ w, (zeroValue t).run c.P w = .ok (.agg z.toArray) w) (hf : FillR [(0, n), (n, n)] z [(0, v0), (1, v1)] us) : QV c ds E L ⟨d, .build t ps, ty, pos, af, gd⟩ (.agg us.toArray) :=
  q_build hx fun w => by
    have h3 : Instr.fill (fun i => some (i * n, n)) z.toArray [(0, v0), (1, v1)] = some us.toArray := by
      rw [← hf.eq]; simp [Instr.fill]
    have e1 : Value.cells (.agg z.toArray) = z.toArray := rfl
    unfold Instr.build
    simp only [Sem.run_bind, hz w, Result.andThen, run_underlying hu, hs w, e1, h3, Sem.run_pure]
end
/-- A pointer against itself. -/
theorem eqPs {P : Program} {t e : TypeId} {n : Nat} (w : World) (hu : P.underlying t = some (.pointer e)) (hs : ∀ w, (sizeOf e).run P w = .ok n w) {a : Addr} : (Op.equal t (.pointer (some a)) (.pointer (some a))).run P w = .ok true w :=
  eq_of w fun d => by
    by_cases h : n = 0 <;> simp [Op.equalIn, run_underlying hu, hs w, sameAddr, h, Result.andThen]
theorem b_neqPs {P : Program} {t e : TypeId} {n : Nat} (w : World) (hu : P.underlying t = some (.pointer e)) (hs : ∀ w, (sizeOf e).run P w = .ok n w) {a : Addr} : (binOp .neq t (.pointer (some a)) (.pointer (some a))).run P w = .ok (.bool false) w := by
  simp [binOp, eqPs w hu hs, Result.andThen]
end Go.Proofs.YtgijnebgchkenaaGreatDoor.Eng
