/- Slices that own their row of cells: what append does to them. No program. -/
import Derived.Test.YtjekhcojebgpnaaEngOps
import Derived.Laws.AppendOwn
import Derived.Laws.MakeOwn
set_option linter.unusedVariables false
set_option linter.unusedSimpArgs false
namespace Go.Proofs.Ytjekhcojebgpnaa.Eng
open Go.RowKit

/-- The slice v, of n elements (sz cells each, all told xs), owns its row from the row's head on. -/
def ownS (e : TypeId) (sz : Nat) (v : Value) (n : Nat) (xs : List Value) : HP := fun h => xs.length = n * sz ∧
  ((v = .slice none 0 0 ∧ n = 0 ∧ h = Part.none) ∨
   ∃ g cap cur, v = .slice (some ⟨g, 0, none⟩) n cap ∧ n ≤ cap ∧ cap ≤ maxLen ∧ cur.size = cap * sz ∧ cur.toList.take (n * sz) = xs ∧ h = Part.one g (.cells cur e (0, 0)))

theorem own_nil {e : TypeId} {sz : Nat} {L : List HP} {w : World} (h : Sat (stars L) w) : Sat (stars (ownS e sz (.slice none 0 0) 0 [] :: L)) w := by
  obtain ⟨f, hi, k⟩ := h
  exact ⟨f, hi, Part.none, f, ⟨by simp, .inl ⟨rfl, rfl, rfl⟩⟩, k, Part.none_disj _, (Part.none_join _).symm⟩
theorem own_some {e : TypeId} {sz : Nat} {v : Value} {n : Nat} {xs : List Value} {L : List HP} {w : World} (h : Sat (stars (ownS e sz v n xs :: L)) w) :
    xs.length = n * sz ∧ ((v = .slice none 0 0 ∧ n = 0 ∧ Sat (stars L) w) ∨ ∃ g cap cur, v = .slice (some ⟨g, 0, none⟩) n cap ∧ n ≤ cap ∧ cap ≤ maxLen ∧ cur.size = cap * sz ∧ cur.toList.take (n * sz) = xs ∧ Sat (stars (pt g (.cells cur e (0, 0)) :: L)) w) := by
  obtain ⟨_, hi, f, g0, ⟨hl, hc⟩, b, d, rfl⟩ := h
  refine ⟨hl, ?_⟩
  rcases hc with ⟨hv, hn, rfl⟩ | ⟨g, cap, cur, hv, h1, h2, h3, h4, rfl⟩
  · exact .inl ⟨hv, hn, g0, by rw [Part.none_join] at hi; exact hi, b⟩
  · exact .inr ⟨g, cap, cur, hv, h1, h2, h3, h4, _, hi, _, g0, rfl, b, d, rfl⟩
theorem own_of_pt {e : TypeId} {sz : Nat} {g n cap : Nat} {cur : Array Value} {xs : List Value} {L : List HP} {w : World} (h : Sat (stars (pt g (.cells cur e (0, 0)) :: L)) w)
    (hl : xs.length = n * sz) (h1 : n ≤ cap) (h2 : cap ≤ maxLen) (h3 : cur.size = cap * sz) (h4 : cur.toList.take (n * sz) = xs) : Sat (stars (ownS e sz (.slice (some ⟨g, 0, none⟩) n cap) n xs :: L)) w := by
  obtain ⟨_, hi, f, g0, rfl, b, d, rfl⟩ := h
  exact ⟨_, hi, _, g0, ⟨hl, .inr ⟨g, cap, cur, rfl, h1, h2, h3, h4, rfl⟩⟩, b, d, rfl⟩
theorem info_parts {P : Program} {t : TypeId} {z : Value} {n b : Nat} (h : (P.info? t).map (fun i => (i.zero, i.size, i.bytes)) = some (some z, n, b)) : ∃ i, P.info? t = some i ∧ i.zero = some z ∧ i.size = n ∧ i.bytes = b := by
  cases hi : P.info? t with
  | none => rw [hi] at h; cases h
  | some i => rw [hi] at h; simp only [Option.map_some, Option.some.injEq, Prod.mk.injEq] at h; exact ⟨i, rfl, h.1, h.2.1, h.2.2⟩

theorem cell_row {w : World} {b : Nat} {us : Array Value} {t : TypeId} {fr : Nat × Nat} (h : w.heap[b]? = some (.cells us t fr)) : ∀ j u, us.toList[j]? = some u → w.cell? ((⟨b, 0, none⟩ : Addr).add j) = some u := fun j u hu => by
  rw [add_none]; simp only [World.cell?, h]; simpa using hu

theorem append_own {P : Program} {t ty e : TypeId} {i : TypeInfo} {z : Value} {sz bytes : Nat} (ht : P.underlying t = some (.slice e)) (hi : P.info? e = some i) (hz : i.zero = some z)
    (hsize : i.size = sz) (hby : i.bytes = bytes) (hzs : z.cells.size = sz) (hsz : 0 < sz) {v : Value} {n : Nat} {xs : List Value} {M : List HP} {w : World} (hs : Sat (stars (ownS e sz v n xs :: M)) w)
    {a0 : Addr} {us : List Value} (hrow : ∀ j u, us[j]? = some u → w.cell? (a0.add j) = some u) {m c : Nat} (hl : us.length = m * sz) (h1 : us.all (·.oneCell') = true)
    (h63 : n + m ≤ maxLen) (hbytes : (n + m) * bytes ≤ 140737488355328) :
    ∃ v' w', (Builtin.append_ #[t, t] ty #[v, .slice (some a0) m c]).run P w = .ok v' w' ∧ Sat (stars (ownS e sz v' (n + m) (xs ++ us) :: M)) w' ∧ Ext w w' := by
  subst hsize hby
  have hsmall : n + m ≤ 9223372036854775807 := by simp only [maxLen] at h63; omega
  obtain ⟨hlen, hc⟩ := own_some hs
  have hlu : us.length = m * i.size := hl
  have hlen2 : (xs ++ us).length = (n + m) * i.size := by rw [List.length_append, hlen, hlu, Nat.add_mul]
  -- a new row
  have grown : ∀ (old : Nat), Sat (stars M) w → Sat (stars (ownS e i.size (.slice (some ⟨w.heap.size, 0, none⟩) (n + m) (grownCap w (n + m) old e)) (n + m) (xs ++ us) :: M))
      (w.drew.alloc (.cells (xs.toArray ++ us.toArray ++ Builtin.zeroCells z.cells (grownCap w (n + m) old e - (n + m))) e)) := by
    intro old hM
    have hge := grownCap_ge w (n + m) old e
    have hcm : grownCap w (n + m) old e ≤ maxLen := grownCap_le_maxLen w (n + m) old e h63
    refine own_of_pt (Sat.alloc (A := stars M) hM.drew _) hlen2 hge hcm ?_ ?_
    · simp only [Array.size_append, List.size_toArray, size_zeroCells, hzs, hlen, hlu, ← Nat.add_mul]
      congr 1
      omega
    · simp only [Array.toList_append, List.append_assoc]
      rw [← List.append_assoc, ← hlen2]
      exact List.take_left
  rcases hc with ⟨rfl, rfl, hM⟩ | ⟨g, cap, cur, rfl, hnc, hcm, hcs, htake, hM⟩
  · have hx : xs = [] := List.eq_nil_of_length_eq_zero (by simpa using hlen)
    subst hx
    by_cases hm : m = 0
    · subst hm
      have hn : us = [] := List.eq_nil_of_length_eq_zero (by simpa using hlu)
      refine ⟨.slice none 0 0, w, ?_, by rw [hn]; exact own_nil hM, Ext.refl w⟩
      simp [Builtin.append_, run_underlying ht, sizeOf, typeInfo, hi, Builtin.lenOf, Builtin.firstCells, loadCells, loadCellsFrom]
    · have hr := run_append_nil (P := P) w t ty e i z ht hi hz a0 m c us hlu hrow (by omega) (by omega) (by have hb := hbytes; simp only [Nat.zero_add] at hb; omega)
      have hgr := grown 0 hM
      simp only [Nat.zero_add, List.nil_append, Array.empty_append] at hgr ⊢
      exact ⟨_, _, hr, hgr, (Ext.refl w).drew.alloc _⟩
  · have hg := hM.block (b := g) .here
    by_cases hroom : n + m ≤ cap
    · have hfit : n * i.size + us.length ≤ cur.size := by rw [hlu, hcs, ← Nat.add_mul]; exact Nat.mul_le_mul_right _ hroom
      have hr := run_append_room (P := P) w t ty e i ht hi g n cap cur hg a0 m c us hlu hrow (fun u hu => List.all_eq_true.1 h1 u hu) hroom hfit
      refine ⟨_, _, hr, ?_, ⟨rfl, rfl, rfl, by simp [World.setRow]⟩⟩
      refine own_of_pt (Sat.turn (o' := .cells _ e (0, 0)) hM (setRow_heap w g cur _ e _ hg) (fun k hk _ => setRow_other w g k _ hk)) hlen2 hroom hcm ?_ ?_
      · simp only [List.size_toArray, List.length_append, List.length_take, List.length_drop, Array.length_toList]
        omega
      · rw [htake, ← hlen2]
        exact List.take_left
    · have holds : ∀ j u, xs[j]? = some u → w.cell? ((⟨g, 0, none⟩ : Addr).add j) = some u := fun j u hu => by
        refine cell_row hg j u ?_
        rw [← htake, List.getElem?_take] at hu
        split at hu
        · exact hu
        · cases hu
      have hr := run_append_grow (P := P) w t ty e i z ht hi hz ⟨g, 0, none⟩ n cap xs hlen holds a0 m c us hlu hrow (by omega) (by omega) (growslice_fits (by omega) hbytes)
      exact ⟨_, _, hr, grown cap hM.tail, (Ext.refl w).drew.alloc _⟩

section
variable {c : Cx} {fin : Exit → Act → World → Prop} {ds : List Deferred} {E : Env} {L : List HP} {ks : List KI} {ops : Array Oper} {rest : List Oper}
variable {d : Option Tmp} {ty : TypeId} {pos : String} {af : Array Edge}

theorem o_append {x y : Operand} {t e : TypeId} {z v : Value} {sz bytes n m cp b2 : Nat} {xs : List Value} {us : Array Value} {t2 : TypeId} {fr2 : Nat × Nat} {M M2 : List HP}
    (hd : okDst d c.N = true) (hx : ev E x = some v) (hy : ev E y = some (.slice (some ⟨b2, 0, none⟩) m cp)) (ht : c.P.underlying t = some (.slice e)) (hinf : ∃ i, c.P.info? e = some i ∧ i.zero = some z ∧ i.size = sz ∧ i.bytes = bytes) (hzs : z.cells.size = sz) (hsz : Nat.blt 0 sz = true) (hown : Take (ownS e sz v n xs) L M) (hsrc : Take (pt b2 (.cells us t2 fr2)) M M2) (hl : us.size = m * sz) (h1 : us.toList.all (·.oneCell') = true)
    (h63 : n + m ≤ maxLen) (hbytes : (n + m) * bytes ≤ 140737488355328)
    (k : ∀ v', TL c fin ds (upd d v' E) (ownS e sz v' (n + m) (xs ++ us.toList) :: M) ops rest ks) :
    TL c fin ds E L ops (⟨d, .call { callee := .builtin .append, args := #[x, y], argTypes := #[t, t] }, ty, pos, af, none⟩ :: rest) ks :=
  l_op hd (by intro k; simp) (fun v' => v') (fun v' => ownS e sz v' (n + m) (xs ++ us.toList) :: M) (fun a w hs => by
    obtain ⟨i, hi, hz, hsize, hby⟩ := hinf
    obtain ⟨v', w', hr, hsat, hext⟩ := append_own (ty := ty) (c := cp) ht hi hz hsize hby hzs (Nat.le_of_ble_eq_true hsz) (hs.sat.take hown) (cell_row ((hs.sat.take hown).tail.block hsrc)) (by simpa using hl) h1 h63 hbytes
    refine ⟨v', w', ?_, hsat, hext⟩
    simp [execOp, resolve, invoke, builtin, hs.ev hx, hs.ev hy, hr, Result.andThen]) k

theorem foldl_set : ∀ (us : List Value) (pre junk : List Value) (j : Nat), us.length ≤ junk.length → ∀ cs : Array Value, cs.toList = pre ++ junk → pre.length = j →
    ((us.zipIdx 0).foldl (fun (cs : Array Value) (p : Value × Nat) => cs.setIfInBounds (j + p.2) p.1) cs).toList = pre ++ us ++ junk.drop us.length := by
  have key : ∀ (us : List Value) (k : Nat) (pre junk : List Value) (j : Nat) (cs : Array Value), us.length ≤ junk.length → cs.toList = pre ++ junk → pre.length = j + k →
      ((us.zipIdx k).foldl (fun (cs : Array Value) (p : Value × Nat) => cs.setIfInBounds (j + p.2) p.1) cs).toList = pre ++ us ++ junk.drop us.length := by
    intro us
    induction us with
    | nil => intro k pre junk j cs _ h _; simp [h]
    | cons u r ih =>
      intro k pre junk j cs hl h hp
      simp only [List.zipIdx_cons, List.foldl_cons]
      cases junk with
      | nil => simp at hl
      | cons q junk =>
        rw [ih (k + 1) (pre ++ [u]) junk j _ (by simpa using hl) ?_ (by simp; omega)]
        · simp
        · rw [Array.toList_setIfInBounds, h, ← hp]
          simp
  intro us pre junk j hl cs h hp
  exact key us 0 pre junk j cs hl h (by omega)

theorem fill_all {sz : Nat} : ∀ (vs : List Value) (k : Nat) (pre junk : List Value) (cs : Array Value), cs.toList = pre ++ junk → pre.length = k * sz → junk.length = vs.length * sz → (∀ v ∈ vs, v.cells.size = sz) →
    Instr.fill (fun i => some (i * sz, sz)) cs ((vs.zipIdx k).map fun p => (p.2, p.1)) = some (pre ++ vs.flatMap (·.cells.toList)).toArray
  | [], k, pre, junk, cs, h, hp, hj, _ => by
    have : junk = [] := List.eq_nil_of_length_eq_zero (by simpa using hj)
    subst this
    simp only [List.zipIdx_nil, List.map_nil, Instr.fill, List.flatMap_nil]
    congr 1
    apply Array.ext'
    simpa using h
  | v :: vs, k, pre, junk, cs, h, hp, hj, hv => by
    simp only [List.zipIdx_cons, List.map_cons, Instr.fill]
    have h1 := hv v (by simp)
    have hcs : cs.size = k * sz + junk.length := by rw [← Array.length_toList, h, List.length_append, hp]
    rw [List.length_cons, Nat.add_mul, Nat.one_mul] at hj
    rw [if_neg (by simp only [ne_eq, Bool.or_eq_true, decide_eq_true_eq, not_or, Classical.not_not]; exact ⟨h1, by omega⟩)]
    have h2 := foldl_set v.cells.toList pre junk (k * sz) (by simp [h1]; omega) cs h hp
    have e : ∀ cs : Array Value, v.cells.zipIdx.foldl (fun (cs : Array Value) (p : Value × Nat) => cs.setIfInBounds (k * sz + p.2) p.1) cs = (v.cells.toList.zipIdx 0).foldl (fun (cs : Array Value) (p : Value × Nat) => cs.setIfInBounds (k * sz + p.2) p.1) cs := by
      intro cs; rw [← Array.foldl_toList]; simp
    rw [e]
    rw [fill_all vs (k + 1) (pre ++ v.cells.toList) (junk.drop v.cells.toList.length) _ h2 (by simp [hp, h1, Nat.add_mul]) (by simp [h1]; omega) (fun u hu => hv u (by simp [hu]))]
    simp

/-- A slice literal: all its elements told, in their order. -/
theorem o_buildSlice {t e : TypeId} {len sz : Nat} {z : Value} {ps : Array (Nat × Operand)} {us : List Value} {cs : Array Value} (hd : okDst d c.N = true) (hx : evp E ps.toList = some ((us.zipIdx 0).map fun p => (p.2, p.1)))
    (ht : c.P.underlying t = some (.slice e)) (hn : ∀ w, (sizeOf e).run c.P w = .ok sz w) (hz : ∀ w, (zeroValue e).run c.P w = .ok z w) (hzs : z.cells.size = sz) (hlen : us.length = len) (hsm : Nat.ble (len * sz) 16777216 = true) (hsz : us.all (fun v => v.cells.size == sz) = true)
    (hcs : (us.flatMap (·.cells.toList)).toArray = cs)
    (k : ∀ b, TL c fin ds (upd d (.slice (some ⟨b, 0, none⟩) len len) E) (pt b (.cells cs e (0, 0)) :: L) ops rest ks) : TL c fin ds E L ops (⟨d, .buildSlice t len ps, ty, pos, af, none⟩ :: rest) ks :=
  l_op hd (by intro k; simp) (fun b => .slice (some ⟨b, 0, none⟩) len len) (fun b => pt b (.cells cs e (0, 0)) :: L) (fun a w hs => by
    have := evp_map hs hx
    have e1 : ps.map (fun (i, x) => (i, a.eval x)) = ((us.zipIdx 0).map fun p => (p.2, p.1)).toArray := by apply Array.ext'; simpa using this
    have hsm' := Nat.le_of_ble_eq_true hsm
    have hall : ∀ v ∈ us, v.cells.size = sz := fun v hv => by simpa using List.all_eq_true.1 hsz v hv
    have hr : (Instr.buildSlice t len ((us.zipIdx 0).map fun p => (p.2, p.1)).toArray).run c.P w = .ok (.slice (some ⟨w.heap.size, 0, none⟩) len len) (w.alloc (.cells cs e (0, 0))) := by
      unfold Instr.buildSlice
      simp only [Sem.run_bind, run_underlying ht, hn, Result.andThen, List.toList_toArray]
      rw [if_neg (by simpa using hsm')]
      by_cases h0 : len * sz = 0
      · rw [if_pos h0]
        have hf := fill_all us 0 [] [] #[] rfl (by simp) (by simp [hlen, h0]) hall
        simp only [Sem.run_bind, Sem.run_pure, Result.andThen]
        rw [show (Array.range (len * sz)).map (fun x => (#[] : Array Value)[x % (#[] : Array Value).size]!) = #[] by rw [h0]; simp, hf]
        simp only [List.nil_append, hcs, newRow, Sem.run_bind, run_newObj_alloc, Sem.run_pure, Result.andThen]
      · rw [if_neg h0]
        simp only [Sem.run_bind, hz, Result.andThen, Sem.run_pure]
        have hf := fill_all us 0 [] ((Array.range (len * sz)).map (z.cells[· % z.cells.size]!)).toList ((Array.range (len * sz)).map (z.cells[· % z.cells.size]!)) rfl (by simp) (by simp [hlen]) hall
        simp only [hf, List.nil_append, hcs, newRow, Sem.run_bind, run_newObj_alloc, Sem.run_pure, Result.andThen]
    exact ⟨w.heap.size, _, by simp only [execOp, Sem.run_bind, e1, hr, Result.andThen, Sem.run_pure], hs.sat.alloc _, (Ext.refl w).alloc _⟩) k

/-- The shape of such a slice. -/
def shapeS (v : Value) (n : Nat) : Prop := ∃ a cap, v = .slice a n cap ∧ (0 < n → ∃ g, a = some ⟨g, 0, none⟩) ∧ n ≤ cap ∧ cap ≤ maxLen
theorem own_shape {e : TypeId} {sz : Nat} {v : Value} {n : Nat} {xs : List Value} {L : List HP} {w : World} (h : Sat (stars (ownS e sz v n xs :: L)) w) : xs.length = n * sz ∧ shapeS v n := by
  obtain ⟨hl, h⟩ := own_some h
  refine ⟨hl, ?_⟩
  rcases h with ⟨hv, hn, _⟩ | ⟨g, cap, cur, hv, h1, h2, _⟩
  · exact ⟨none, 0, by rw [hv, hn], by omega, by omega, by simp [maxLen]⟩
  · exact ⟨_, cap, hv, fun _ => ⟨g, rfl⟩, h1, h2⟩
theorem l_shape {l : List Oper} {e : TypeId} {sz n : Nat} {v : Value} {xs : List Value} {M : List HP} (ht : Take (ownS e sz v n xs) L M) (k : xs.length = n * sz → shapeS v n → TL c fin ds E L ops l ks) : TL c fin ds E L ops l ks :=
  fun a w hs => by obtain ⟨h1, h2⟩ := own_shape (hs.sat.take ht); exact k h1 h2 a w hs
theorem t_shape {x : Code} {e : TypeId} {sz n : Nat} {v : Value} {xs : List Value} {M : List HP} (ht : Take (ownS e sz v n xs) L M) (k : xs.length = n * sz → shapeS v n → TC c fin ds E L x ks) : TC c fin ds E L x ks :=
  fun a w hs => by obtain ⟨h1, h2⟩ := own_shape (hs.sat.take ht); exact k h1 h2 a w hs
theorem n_shape {x : Exit} {e : TypeId} {sz n : Nat} {v : Value} {xs : List Value} {M : List HP} (ht : Take (ownS e sz v n xs) L M) (k : xs.length = n * sz → shapeS v n → TN c fin ds E L x ks) : TN c fin ds E L x ks :=
  fun a w hs => by obtain ⟨h1, h2⟩ := own_shape (hs.sat.take ht); exact k h1 h2 a w hs

/-- The row behind such a slice. -/
theorem own_open {e : TypeId} {sz g cap n : Nat} {xs : List Value} {L : List HP} {w : World} (h : Sat (stars (ownS e sz (.slice (some ⟨g, 0, none⟩) n cap) n xs :: L)) w) :
    ∃ cur, cur.size = cap * sz ∧ cur.toList.take (n * sz) = xs ∧ n ≤ cap ∧ cap ≤ maxLen ∧ xs.length = n * sz ∧ Sat (stars (pt g (.cells cur e (0, 0)) :: L)) w := by
  obtain ⟨hl, h⟩ := own_some h
  rcases h with ⟨hv, _⟩ | ⟨g', cap', cur, hv, h1, h2, h3, h4, h5⟩
  · cases hv
  · cases hv; exact ⟨cur, h3, h4, h1, h2, hl, h5⟩
theorem own_at {cur : Array Value} {k o : Nat} {xs : List Value} {v : Value} (h : cur.toList.take k = xs) (hv : xs[o]? = some v) : cur[o]? = some v := by
  rw [← h, List.getElem?_take] at hv
  split at hv
  · simpa using hv
  · cases hv
theorem q_loadOwn {gd : Option (Nat × Bool)} {t : TypeId} {x : Operand} {g o n cap sz : Nat} {v : Value} {e : TypeId} {xs : List Value} {M : List HP} (hx : ev E x = some (.pointer (some ⟨g, o, none⟩)))
    (ha : ∀ w, (isAgg t).run c.P w = .ok false w) (ht : Take (ownS e sz (.slice (some ⟨g, 0, none⟩) n cap) n xs) L M) (hv : xs[o]? = some v) : QV c ds E L ⟨d, .load t x, ty, pos, af, gd⟩ v :=
  ⟨by intro k; simp, fun a w hs => by
    obtain ⟨cur, _, h2, _, _, _, h5⟩ := own_open (hs.sat.take ht)
    have hb := h5.block (b := g) .here
    have hc := own_at h2 hv
    simp only [execOp, Instr.loadAt, Instr.sureAddr, hs.ev hx, Sem.run_bind, Sem.run_pure, Result.andThen, loadVar, ha]
    simp [load, Sem.run, World.cell?, hb, hc]⟩
theorem o_storeOwn {t : TypeId} {x y : Operand} {g o n cap sz : Nat} {v : Value} {e : TypeId} {xs xs' : List Value} {M : List HP} (hd : okDst d c.N = true) (hx : ev E x = some (.pointer (some ⟨g, o, none⟩))) (hy : ev E y = some v)
    (hn : ∀ w, (sizeOf t).run c.P w = .ok 1 w) (hv : v.oneCell' = true) (ht : Take (ownS e sz (.slice (some ⟨g, 0, none⟩) n cap) n xs) L M) (ho : o < n * sz) (hxs : xs.set o v = xs')
    (k : TL c fin ds (upd d undef E) (ownS e sz (.slice (some ⟨g, 0, none⟩) n cap) n xs' :: M) ops rest ks) : TL c fin ds E L ops (⟨d, .store t x y, ty, pos, af, none⟩ :: rest) ks :=
  l_do (X := Unit) hd (by intro k; simp) (fun _ => ownS e sz (.slice (some ⟨g, 0, none⟩) n cap) n xs' :: M) (fun a w hs => by
    obtain ⟨cur, h1, h2, h3, h4, h6, h5⟩ := own_open (hs.sat.take ht)
    have hle : n * sz ≤ cap * sz := Nat.mul_le_mul_right _ h3
    refine ⟨(), w.setCell ⟨g, o, none⟩ v, ?_, ?_, (Ext.refl w).setCell _ _⟩
    · have hb := h5.block (b := g) .here
      have hone : v.cells = #[v] := by cases v <;> first | rfl | (simp [Value.oneCell'] at hv)
      simp only [execOp, Instr.storeAt, Instr.sureAddr, hs.ev hx, hs.ev hy, Sem.run_bind, Sem.run_pure, Result.andThen, storeVar, hn, hone]
      simp only [List.size_toArray, List.length_cons, List.length_nil, ne_eq, not_true_eq_false, if_false, Sem.run_pure, Result.andThen, storeCells, add_none, Nat.add_zero, Sem.run_bind]
      rw [run_storeAt hb (by omega) hv]
    · refine own_of_pt (sat_store h5 .here v) (by rw [← hxs]; simpa using h6) h3 h4 (by simpa using h1) ?_
      rw [Array.toList_setIfInBounds, List.take_set, h2, hxs]) fun _ => k
end
/-- What the pieces tell may be said with the result. -/
theorem FnOk.know {P : Program} {f : FuncId} {args : Array Value} {D : List HP} {Post : Value → List HP → Prop} {K : Value → List HP → Prop} (h : FnOk P f args D Post) (k : ∀ v L, Post v L → ∀ Fr w, Sat (stars (L ++ Fr)) w → K v L) : FnOk P f args D fun v L => Post v L ∧ K v L :=
  ⟨h.enters, fun Fr w0 w hs he => (h.calls Fr w0 w hs he).mono fun _ _ ⟨v, L', e, p, s, x⟩ => ⟨v, L', e, ⟨p, k v L' p Fr _ s⟩, s, x⟩⟩
end Go.Proofs.Ytjekhcojebgpnaa.Eng
