import Derived.Test.YtjekhcojebgpnaaEngOwn
import Derived.Test.YtjekhcojebgpnaaEngShare
import Derived.Laws.StructEq
section
/- More rules for the operations: comparisons, new slices. No program. -/
set_option linter.unusedVariables false
set_option linter.unusedSimpArgs false
namespace Go.Proofs.Ytjekhcojebgpnaa.Eng
open Go.RowKit

section
variable {P : Program} {t : TypeId} (w : World)
theorem eq_of {x y : Value} {b : Bool} (h : ∀ d, (Op.equalIn (d + 1) t x y).run P w = .ok b w) : (Op.equal t x y).run P w = .ok b w := h 9999
theorem b_eqlF0 {ps rs : Array TypeId} {v : Bool} (hu : P.underlying t = some (.func ps rs v)) {f : Fn} {a b : Array Value} : (binOp .eql t (.func f a b) .nilFunc).run P w = .ok (.bool false) w := by
 have := eq_of (P := P) (t := t) w (x := .func f a b) (y := .nilFunc) (b := false) (fun d => by simp [Op.equalIn, run_underlying hu, Result.andThen])
 simp [binOp, this, Result.andThen]
theorem b_eqlB (hu : P.underlying t = some .bool) {a b : Bool} : (binOp .eql t (.bool a) (.bool b)).run P w = .ok (.bool (a == b)) w := by
 have := eq_of (P := P) (t := t) w (x := .bool a) (y := .bool b) (b := a == b) (fun d => by simp [Op.equalIn, run_underlying hu, Result.andThen])
 simp [binOp, this, Result.andThen]
theorem eqP0 {e : TypeId} (hu : P.underlying t = some (.pointer e)) {a : Option Addr} : (Op.equal t (.pointer a) (.pointer none)).run P w = .ok a.isNone w :=
 eq_of w (fun d => by cases a <;> simp [Op.equalIn, run_underlying hu, Result.andThen])
theorem b_eqlP0 {e : TypeId} (hu : P.underlying t = some (.pointer e)) {a : Option Addr} : (binOp .eql t (.pointer a) (.pointer none)).run P w = .ok (.bool a.isNone) w := by
 simp [binOp, eqP0 w hu, Result.andThen]
/-- A struct of cells of one word each: its values fit its fields. -/
def fitsB (P : Program) : List Field → Nat → List Value → Bool
 | [], _, [] => true
 | f :: fs, n, x :: xs => Nat.beq f.offset n && !(f.name == "_") && (match P.underlying f.type, x with
  | some (.int k), .int k' _ => k == k'
  | some .bool, .bool _ => true
  | some .string, .string _ => true
  | _, _ => false) && fitsB P fs (n + 1) xs
 | _, _, _ => false
theorem bytes_beq (a b : ByteArray) : (a == b) = true ↔ a = b := by
 cases a with | mk a => cases b with | mk b =>
 have h : ((ByteArray.mk a) == (ByteArray.mk b)) = (a == b) := rfl
 rw [h]; simp
theorem eq_fields (d : Nat) : ∀ (fs : List Field) (n : Nat) (pre pre' xs ys : List Value), fitsB P fs n xs = true → fitsB P fs n ys = true → pre.length = n → pre'.length = n →
  ∃ r : Bool, (Op.eqFields (d + 1) (pre ++ xs).toArray (pre' ++ ys).toArray fs).run P w = .ok r w ∧ (r = true ↔ xs = ys)
 | [], n, pre, pre', xs, ys, hx, hy, _, _ => by
  cases xs with
  | cons _ _ => simp [fitsB] at hx
  | nil =>
   cases ys with
   | cons _ _ => simp [fitsB] at hy
   | nil => exact ⟨true, by simp [Op.eqFields], by simp⟩
 | f :: fs, n, pre, pre', xs, ys, hx, hy, hp, hp' => by
  cases xs with
  | nil => simp [fitsB] at hx
  | cons x xs =>
   cases ys with
   | nil => simp [fitsB] at hy
   | cons y ys =>
    simp only [fitsB, Bool.and_eq_true] at hx hy
    obtain ⟨⟨⟨h1, h2⟩, h3⟩, h4⟩ := hx
    obtain ⟨⟨_, k3⟩, k4⟩ := hy
    have ho : f.offset = n := Nat.eq_of_beq_eq_true h1
    have hname : f.name ≠ "_" := by simpa using h2
    obtain ⟨r', hr', hiff'⟩ := eq_fields d fs (n + 1) (pre ++ [x]) (pre' ++ [y]) xs ys h4 k4 (by simp [hp]) (by simp [hp'])
    simp only [List.append_assoc, List.singleton_append] at hr'
    have gx : (pre ++ x :: xs).toArray[f.offset]? = some x := by rw [ho, ← hp]; simp
    have gy : (pre' ++ y :: ys).toArray[f.offset]? = some y := by rw [ho, ← hp']; simp
    have done : ∀ r : Bool, (isAgg f.type).run P w = .ok false w → (Op.equalIn (d + 1) f.type x y).run P w = .ok r w → (r = true ↔ x = y) →
      ∃ r : Bool, (Op.eqFields (d + 1) (pre ++ x :: xs).toArray (pre' ++ y :: ys).toArray (f :: fs)).run P w = .ok r w ∧ (r = true ↔ x :: xs = y :: ys) := fun r ha he hiff => by
     have px : (part f.type (pre ++ x :: xs).toArray f.offset).run P w = .ok x w := by unfold part; simp only [Sem.run_bind, ha, Result.andThen, Bool.false_eq_true, if_false, gx, Sem.run_pure]
     have py : (part f.type (pre' ++ y :: ys).toArray f.offset).run P w = .ok y w := by unfold part; simp only [Sem.run_bind, ha, Result.andThen, Bool.false_eq_true, if_false, gy, Sem.run_pure]
     simp only [Op.eqFields, hname, ne_eq, not_false_eq_true, if_true, Sem.run_bind, px, py, he, Result.andThen]
     cases r
     ·exact ⟨false, by simp, by simp; intro e; exact absurd (hiff.2 e) (by simp)⟩
     ·refine ⟨r', by simpa using hr', ?_⟩
      rw [hiff']
      simp [hiff.1 rfl]
    split at h3
    ·next k k' a hu =>
     rw [hu] at k3
     cases y <;> simp at k3 h3
     next k'' b =>
      subst h3; subst k3
      refine done (decide (a = b)) (by simp [isAgg, run_underlying hu, Result.andThen]) ?_ (by simp)
      simp [Op.equalIn, run_underlying hu, Result.andThen]
      by_cases q : a = b <;> simp [q]
    ·next a hu =>
     rw [hu] at k3
     cases y <;> simp at k3
     next b =>
      refine done (a == b) (by simp [isAgg, run_underlying hu, Result.andThen]) ?_ (by simp)
      simp [Op.equalIn, run_underlying hu, Result.andThen]
    ·next a hu =>
     rw [hu] at k3
     cases y <;> simp at k3
     next b =>
      refine done (a == b) (by simp [isAgg, run_underlying hu, Result.andThen]) ?_ (by rw [bytes_beq]; simp)
      simp [Op.equalIn, run_underlying hu, Result.andThen]
    ·cases h3
open Classical in
theorem eq_flat {fs : Array Field} (hu : P.underlying t = some (.struct fs)) (hst : P.stoodInHeld t = false) {xs ys : List Value} (hx : fitsB P fs.toList 0 xs = true) (hy : fitsB P fs.toList 0 ys = true) :
  (Op.equal t (.agg xs.toArray) (.agg ys.toArray)).run P w = .ok (decide (xs = ys)) w := by
 have hfs : P.fieldsOf t = fs := by simp [Program.fieldsOf, hu]
 obtain ⟨r, hr, hiff⟩ := eq_fields (P := P) w 9998 fs.toList 0 [] [] xs ys hx hy rfl rfl
 have := run_equalIn_struct (P := P) w 9999 t xs.toArray ys.toArray (by rw [hfs]; exact hu) hst
 show (Op.equalIn (9999 + 1) t _ _).run P w = _
 rw [this, hfs]
 simp only [List.nil_append] at hr
 rw [hr]
 congr 1
 by_cases q : xs = ys
 ·rw [decide_eq_true q]; exact hiff.2 q
 ·rw [decide_eq_false q]; cases r with
  | false => rfl
  | true => exact absurd (hiff.1 rfl) q
open Classical in
theorem b_eqlFlat {fs : Array Field} (hu : P.underlying t = some (.struct fs)) (hst : P.stoodInHeld t = false) {xs ys : List Value} (hx : fitsB P fs.toList 0 xs = true) (hy : fitsB P fs.toList 0 ys = true) :
  (binOp .eql t (.agg xs.toArray) (.agg ys.toArray)).run P w = .ok (.bool (decide (xs = ys))) w := by
 simp [binOp, eq_flat w hu hst hx hy, Result.andThen]
open Classical in
theorem g_flat {op : BinOp} {x y : Operand} {xs ys : Array Value} (h : P.eqGuardType P.depth t = false) : (eqGuard op t x y (.agg xs) (.agg ys)).run P w = .ok () w := by
 unfold eqGuard
 cases op <;> simp [Result.andThen, h]
end

section
variable {c : Cx} {fin : Exit → Act → World → Prop} {ds : List Deferred} {E : Env} {L : List HP} {ks : List KI} {ops : Array Oper} {rest : List Oper}
variable {d : Option Tmp} {ty : TypeId} {pos : String} {af : Array Edge}
/-- Where a struct's fields lie. -/
def placesOf (t : TypeId) : Sem (Array (Nat × Nat)) := do
 match ← underlying t with
 | .struct fields => fields.mapM fun f => do pure (f.offset, ← sizeOf f.type)
 | _ => stuck "no struct"
inductive PlAt : List (Nat × Nat) → Nat → Nat → Nat → Prop
 | here {o n : Nat} {l : List (Nat × Nat)} : PlAt ((o, n) :: l) 0 o n
 | there {x : Nat × Nat} {i o n : Nat} {l : List (Nat × Nat)} : PlAt l i o n → PlAt (x :: l) (i + 1) o n
theorem PlAt.eq {l : List (Nat × Nat)} {i o n : Nat} (h : PlAt l i o n) : l.toArray[i]? = some (o, n) := by
 have : l[i]? = some (o, n) := by
  induction h with
  | here => rfl
  | there _ ih => simpa using ih
 simpa using this
/-- A struct's cells out of its parts. -/
inductive FillR (pl : List (Nat × Nat)) : List Value → List (Nat × Value) → List Value → Prop
 | nil {cs : List Value} : FillR pl cs [] cs
 | one {cs cs1 cs2 : List Value} {i o : Nat} {v : Value} {r : List (Nat × Value)} : PlAt pl i o 1 → v.oneCell' = true → SetAt cs o v cs1 → FillR pl cs1 r cs2 → FillR pl cs ((i, v) :: r) cs2
 | all {cs cs1 cs2 us : List Value} {i o n : Nat} {r : List (Nat × Value)} : PlAt pl i o n → us.length = n → us ≠ [] → SetAll cs o us cs1 → FillR pl cs1 r cs2 → FillR pl cs ((i, .agg us.toArray) :: r) cs2
theorem setCells_fold {b : Nat} : ∀ (us : List Value) (k o : Nat) (cs : Array Value), (us.zipIdx k).foldl (fun (cs : Array Value) (p : Value × Nat) => cs.setIfInBounds (o + p.2) p.1) cs = setCells cs (o + k) us
 | [], _, _, _ => rfl
 | u :: r, k, o, cs => by
  simp only [List.zipIdx_cons, List.foldl_cons, setCells]
  rw [setCells_fold (b := b) r (k + 1) o, Nat.add_assoc]
theorem SetAll.len {l l' vs : List Value} {o : Nat} (h : SetAll l o vs l') : l'.length = l.length := by
 induction h with
 | nil => rfl
 | cons h1 _ ih => rw [ih, h1.eq.2.2]
theorem FillR.eq {pl : List (Nat × Nat)} {cs cs' : List Value} {ps : List (Nat × Value)} (h : FillR pl cs ps cs') : Instr.fill (pl.toArray[·]?) cs.toArray ps = some cs'.toArray := by
 induction h with
 | nil => rfl
 | @one cs cs1 cs2 i o v r h1 h2 h3 _ ih =>
  obtain ⟨a1, a2, a3⟩ := h3.eq
  simp only [Instr.fill, h1.eq, cells_one h2]
  rw [if_neg (by simp; omega)]
  rw [← ih, ← a2]
  congr 1
 | @all cs cs1 cs2 us i o n r h1 h2 hne h3 _ ih =>
  obtain ⟨b1, b2⟩ := h3.eq
  have e : Value.cells (.agg us.toArray) = us.toArray := rfl
  simp only [Instr.fill, h1.eq, e]
  have hfold : us.toArray.zipIdx.foldl (fun (cs : Array Value) (p : Value × Nat) => cs.setIfInBounds (o + p.2) p.1) cs.toArray = cs1.toArray := by
   have := setCells_fold (b := 0) us 0 o cs.toArray
   rw [Nat.add_zero, b2] at this
   rw [← this, ← Array.foldl_toList]; simp
  rcases b1 with rfl | b1
  ·exact absurd rfl hne
  ·rw [if_neg (by simp [h2]; omega), ← ih, ← hfold]
theorem q_buildS {gd : Option (Nat × Bool)} {t : TypeId} {ps : Array (Nat × Operand)} {pl : List (Nat × Nat)} {z us : List Value} {vs : List (Nat × Value)} (hx : evp E ps.toList = some vs) (hp : ∀ w, (placesOf t).run c.P w = .ok pl.toArray w)
  (hz : ∀ w, (zeroValue t).run c.P w = .ok (.agg z.toArray) w) (hf : FillR pl z vs us) : QV c ds E L ⟨d, .build t ps, ty, pos, af, gd⟩ (.agg us.toArray) :=
 q_build hx fun w => by
  have h1 := hp w
  have h2 := hz w
  unfold placesOf at h1
  unfold Instr.build
  simp only [Sem.run_bind, h2, Result.andThen] at h1 ⊢
  generalize (underlying t).run c.P w = r at h1 ⊢
  cases r with
  | halt x w' => simp only at h1; cases h1
  | ok dsc w' =>
   simp only at h1 ⊢
   cases dsc <;> simp only [Sem.run_bind, Result.andThen] at h1 ⊢ <;> first | (cases h1; done) | skip
   next fields =>
    have e : Value.cells (.agg z.toArray) = z.toArray := rfl
    rw [h1]
    simp only [e, hf.eq, Sem.run_pure]
/-- Parting on a bool in a slot, ahead of code. -/
theorem t_part {x : Code} {t : Tmp} {b : Bool} (hb : lk E t = some (.bool b)) (h1 : b = true → TC c fin ds ((t, .bool true) :: E) L x ks) (h2 : b = false → TC c fin ds ((t, .bool false) :: E) L x ks) : TC c fin ds E L x ks := fun a w hs => by
 have hag : ∀ b', b = b' → St c ds ((t, .bool b') :: E) L a w := fun b' e => ⟨hs.size, hs.defs, fun u v e' => by
  simp only [lk] at e'
  by_cases q : t = u
  ·subst q; simp only [Nat.beq_refl, Option.some.injEq] at e'; subst e'; rw [← e]; exact hs.agree _ _ hb
  ·rw [show Nat.beq t u = false from nbeq q] at e'; exact hs.agree _ _ e', hs.sat, hs.ext⟩
 cases b with
 | true => exact h1 rfl a w (hag _ rfl)
 | false => exact h2 rfl a w (hag _ rfl)
theorem q_extractL {gd : Option (Nat × Bool)} {x : Operand} {i : Nat} {l : List Value} {v : Value} (hx : ev E x = some (.tuple l.toArray)) (hv : GetAt l i v) : QV c ds E L ⟨d, .extract x i, ty, pos, af, gd⟩ v := q_extract hx hv.eq
/-- A stretch of a written-out row. -/
inductive SubL : List Value → Nat → Nat → List Value → Prop
 | nil {l : List Value} : SubL l 0 0 []
 | take {x : Value} {l us : List Value} {n : Nat} : SubL l 0 n us → SubL (x :: l) 0 (n + 1) (x :: us)
 | skip {x : Value} {l us : List Value} {o n : Nat} : SubL l o n us → SubL (x :: l) (o + 1) n us
theorem SubL.eq {l us : List Value} {o n : Nat} (h : SubL l o n us) : l.toArray.extract o (o + n) = us.toArray ∧ o + n ≤ l.length := by
 have : (l.drop o).take n = us ∧ o + n ≤ l.length := by
  induction h with
  | nil => simp
  | take _ ih => obtain ⟨h1, h2⟩ := ih; exact ⟨by simpa using h1, by simpa using h2⟩
  | skip _ ih => obtain ⟨h1, h2⟩ := ih; exact ⟨by simpa using h1, by simp; omega⟩
 refine ⟨?_, this.2⟩
 apply Array.ext'
 simp only [Array.toList_extract, List.extract_eq_take_drop]
 rw [show o + n - o = n by omega]; exact this.1
theorem sb {l us : List Value} {o n : Nat} (h : SubL l o n us := by repeat (first | exact SubL.nil | apply SubL.take | apply SubL.skip)) : SubL l o n us := h
theorem q_loadAggL {gd : Option (Nat × Bool)} {t : TypeId} {x : Operand} {b o n : Nat} {us l : List Value} {tt : TypeId} {fr : Nat × Nat} {M : List HP} (hx : ev E x = some (.pointer (some ⟨b, o, none⟩)))
  (ha : ∀ w, (isAgg t).run c.P w = .ok true w) (hn : ∀ w, (sizeOf t).run c.P w = .ok n w) (ht : Take (pt b (.cells l.toArray tt fr)) L M) (hv : SubL l o n us) : QV c ds E L ⟨d, .load t x, ty, pos, af, gd⟩ (.agg us.toArray) :=
 q_loadAgg hx ha hn ht (Nat.ble_eq_true_of_le (by simpa using hv.eq.2)) hv.eq.1
/-- A field's place, its offset written out. -/
theorem q_fieldAddrK {gd : Option (Nat × Bool)} {s : TypeId} {x : Operand} {b o i n : Nat} (k : Nat) {fields : Array Field} {f : Field} (hx : ev E x = some (.pointer (some ⟨b, o, none⟩))) (hs : c.P.underlying s = some (.struct fields)) (hf : fields[i]? = some f) (hk : f.offset = k)
  (hn : ∀ w, (sizeOf f.type).run c.P w = .ok (n + 1) w) : QV c ds E L ⟨d, .fieldAddr s x i, ty, pos, af, gd⟩ (.pointer (some ⟨b, o + k, none⟩)) := by
 subst hk; exact q_fieldAddr hx hs hf hn
/-- An element at a written-out index of a row that begins at its block's head. -/
theorem q_indexAddrC {gd : Option (Nat × Bool)} {t e : TypeId} {x y : Operand} {b len cap : Nat} {kd : IntKind} (n : Nat) (hx : ev E x = some (.slice (some ⟨b, 0, none⟩) len cap)) (hy : ev E y = some (.int kd (n : Int))) (hu : c.P.underlying t = some (.slice e))
  (hn : ∀ w, (sizeOf e).run c.P w = .ok 1 w) (hi : n < len) : QV c ds E L ⟨d, .indexAddr t x y, ty, pos, af, gd⟩ (.pointer (some ⟨b, n, none⟩)) := by
 have := q_indexAddr1 (c := c) (ds := ds) (L := L) (d := d) (ty := ty) (pos := pos) (af := af) (gd := gd) hx hy hu hn (by omega)
 rwa [Nat.zero_add, Int.toNat_natCast] at this
theorem made_one (z : Value) (n : Nat) : (madeCells #[z] n).toList = List.replicate n z := by
 apply List.ext_getElem
 ·simp [size_madeCells]
 ·intro i h1 h2
  simp [madeCells, Nat.mod_one]
theorem flat_one : ∀ {us : List Value}, us.all (·.oneCell') = true → us.flatMap (·.cells.toList) = us
 | [], _ => rfl
 | u :: r, h => by
  simp only [List.all_cons, Bool.and_eq_true] at h
  rw [List.flatMap_cons, flat_one h.2, cells_one h.1]; rfl
/-- A slice literal of cells of one word. -/
theorem o_buildSlice1 {t e : TypeId} {len : Nat} {z : Value} {ps : Array (Nat × Operand)} (us : List Value) (hd : okDst d c.N = true) (hx : evp E ps.toList = some ((us.zipIdx 0).map fun p => (p.2, p.1)))
  (ht : c.P.underlying t = some (.slice e)) (hn : ∀ w, (sizeOf e).run c.P w = .ok 1 w) (hz : ∀ w, (zeroValue e).run c.P w = .ok z w) (hzs : z.oneCell' = true) (hlen : us.length = len) (hsm : Nat.ble len 16777216 = true) (hone : us.all (·.oneCell') = true)
  (k : ∀ b, TL c fin ds (upd d (.slice (some ⟨b, 0, none⟩) len len) E) (pt b (.cells us.toArray e (0, 0)) :: L) ops rest ks) : TL c fin ds E L ops (⟨d, .buildSlice t len ps, ty, pos, af, none⟩ :: rest) ks := by
 refine o_buildSlice (us := us) (cs := us.toArray) hd hx ht hn hz (by rw [cells_one hzs]; rfl) hlen (by rw [Nat.mul_one]; exact hsm) ?_ (by rw [flat_one hone]) k
 rw [List.all_eq_true] at hone ⊢
 intro v hv
 rw [cells_one (hone v hv)]; rfl
/-- A new slice of cells of one word. -/
theorem o_makeSlice1 {t e : TypeId} {x y : Operand} {z : Value} {bytes : Nat} {kl kc : IntKind} {l m : Int} (hd : okDst d c.N = true) (hx : ev E x = some (.int kl l)) (hy : ev E y = some (.int kc m))
  (ht : c.P.underlying t = some (.slice e)) (hinf : ∃ i, c.P.info? e = some i ∧ i.zero = some z ∧ i.size = 1 ∧ i.bytes = bytes) (hz : z.oneCell' = true) (h0 : 0 ≤ l ∧ l ≤ m) (hb : (bytes : Int) * m ≤ 281474976710656 ∧ m ≤ 9223372036854775807)
  (k : ∀ b, TL c fin ds (upd d (.slice (some ⟨b, 0, none⟩) l.toNat m.toNat) E) (ownS e 1 (.slice (some ⟨b, 0, none⟩) l.toNat m.toNat) l.toNat (List.replicate l.toNat z) :: L) ops rest ks) : TL c fin ds E L ops (⟨d, .makeSlice t x y, ty, pos, af, none⟩ :: rest) ks :=
 l_op hd (by intro k; simp) (fun b => .slice (some ⟨b, 0, none⟩) l.toNat m.toNat) (fun b => ownS e 1 (.slice (some ⟨b, 0, none⟩) l.toNat m.toNat) l.toNat (List.replicate l.toNat z) :: L) (fun a w hs => by
  obtain ⟨i, hi, hiz, hsize, hby⟩ := hinf
  have hr := run_make w t e i z ht hi hiz kl kc l m h0.1 h0.2 (by rw [hby]; exact hb.1) hb.2
  refine ⟨w.heap.size, w.alloc (.cells (madeCells z.cells (m.toNat * i.size)) e), ?_, ?_, (Ext.refl w).alloc _⟩
  ·simp only [execOp, Sem.run_bind, hs.ev hx, hs.ev hy, hr, Result.andThen, Sem.run_pure]
  ·refine own_of_pt (hs.sat.alloc _) (by simp) (by omega) (by simp only [maxLen]; omega) (by simp [size_madeCells, hsize]) ?_
   rw [cells_one hz, made_one, hsize, List.take_replicate]
   congr 1; omega) k
/-- A struct's variable read whole. -/
theorem run_loadAll {P : Program} {t : TypeId} {b n : Nat} {cs : Array Value} {tt : TypeId} {fr : Nat × Nat} (ha : ∀ w, (isAgg t).run P w = .ok true w) (hn : ∀ w, (sizeOf t).run P w = .ok n w) (h : cs.size = n) :
  ∀ w, w.heap[b]? = some (.cells cs tt fr) → (loadVar t ⟨b, 0, none⟩).run P w = .ok (.agg cs) w := fun w hb => by
 have := run_loadCells (P := P) hb n 0 (by omega)
 simp only [loadVar, Sem.run_bind, ha, Result.andThen, if_true, hn, this, Sem.run_pure]
 congr 2
 rw [Nat.zero_add, ← h]; simp
end
end Go.Proofs.Ytjekhcojebgpnaa.Eng
end
section
/- The logic's rules for a deferred call of a function. No program. -/
set_option linter.unusedVariables false
set_option linter.unusedSimpArgs false
namespace Go.Proofs.Ytjekhcojebgpnaa.Eng
open Go.RowKit

/-- The contract of a function that is entered as a deferred call, at a return. -/
structure DefOk (P : Program) (f : FuncId) (args : Array Value) (D : List HP) (Post : List HP → Prop) : Prop where
 enters : ∀ args w, (callFunc f args).run P w = .ok (.enter f args) w
 calls : ∀ (Fr : List HP) (w0 w : World), Sat (stars (D ++ Fr)) w → Ext w0 w →
  CallsDIn (FW none) 0 P f args .returning w fun e u' w' => u' = .returning ∧ ∃ v L', e = .returned v ∧ Post L' ∧ Sat (stars (L' ++ Fr)) w' ∧ Ext w0 w'
def finB (P : Program) (fn : Func) (Fr : List HP) (w0 : World) (Post : List HP → Prop) : Exit → Act → World → Prop :=
 bodyPost P fn fun e w' => ∃ v L', e = .returned v ∧ Post L' ∧ Sat (stars (L' ++ Fr)) w' ∧ Ext w0 w'
section
variable {c : Cx} {fin : Exit → Act → World → Prop} {ds : List Deferred} {E : Env} {L : List HP} {ks : List KI} {ops : Array Oper} {rest : List Oper}
end
section
variable {c : Cx} {fin : Exit → Act → World → Prop} {ds : List Deferred} {E : Env} {L : List HP} {ks : List KI}
/-- What holds behind a piece of code, whatever way it went. -/
def cutI (c : Cx) (ds : List Deferred) {X : Type} (p : X → Prop) (EE : X → Env) (LL : X → List HP) : Act → World → Prop := fun a w => ∃ x, p x ∧ St c ds (EE x) (LL x) a w
theorem t_cut {X : Type} {p : X → Prop} {EE : X → Env} {LL : X → List HP} {x : Code} (h1 : TC c fin ds E L x (.lp (cutI c ds p EE LL) :: ks)) (h2 : ∀ y, p y → TN c fin ds (EE y) (LL y) .normal ks) : TC c fin ds E L x ks := fun a w hs => by
 refine wpIn_mono (h1 a w hs) ?_
 intro e a' w' hq
 cases e with
 | normal => obtain ⟨y, hp, hst⟩ := hq; exact h2 y hp a' w' hst
 | _ => exact hq
theorem n_join {X : Type} {p : X → Prop} {EE : X → Env} {LL : X → List HP} (x : X) (hp : p x) (he : Subs (EE x) E) (hl : Ent L (LL x)) : TN c fin ds E L .normal (.lp (cutI c ds p EE LL) :: ks) := fun a w hs => ⟨x, hp, hs.weaken he hl⟩
end
section
variable {c : Cx} {ds : List Deferred} {E : Env} {L : List HP} {d : Option Tmp} {ty : TypeId} {pos : String} {af : Array Edge} {gd : Option (Nat × Bool)}
end
end Go.Proofs.Ytjekhcojebgpnaa.Eng
end
