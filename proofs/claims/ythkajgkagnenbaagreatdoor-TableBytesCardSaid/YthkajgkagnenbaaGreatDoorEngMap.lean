import Derived.Test.YthkajgkagnenbaaGreatDoorEngOwn
import Derived.Test.YthkajgkagnenbaaGreatDoorEngRange
import Derived.Laws.StructEq
import Derived.MapKept
section
/- More rules for the operations: comparisons, new slices. No program. -/
set_option linter.unusedVariables false
set_option linter.unusedSimpArgs false
namespace Go.Proofs.YthkajgkagnenbaaGreatDoor.Eng
open Go.RowKit

section
variable {P : Program} {t : TypeId} (w : World)
theorem eq_of {x y : Value} {b : Bool} (h : ∀ d, (Op.equalIn (d + 1) t x y).run P w = .ok b w) : (Op.equal t x y).run P w = .ok b w := h 9999
theorem b_eqlF0 {ps rs : Array TypeId} {v : Bool} (hu : P.underlying t = some (.func ps rs v)) {f : Fn} {a b : Array Value} : (binOp .eql t (.func f a b) .nilFunc).run P w = .ok (.bool false) w := by
 have := eq_of (P := P) (t := t) w (x := .func f a b) (y := .nilFunc) (b := false) (fun d => by simp [Op.equalIn, run_underlying hu, Result.andThen])
 simp [binOp, this, Result.andThen]
theorem b_eqlB (hu : P.underlying t = some .bool) {a b : Bool} : (binOp .eql t (.bool a) (.bool b)).run P w = .ok (.bool (a == b)) w := by
 have := eq_of (P := P) (t := t) w (x := .bool a) (y := .bool b) (b := a == b) (fun d => by simp [Op.equalIn, run_underlying hu, Result.andThen])
 simp [binOp, this, Result.andThen]
theorem b_neqB (hu : P.underlying t = some .bool) {a b : Bool} : (binOp .neq t (.bool a) (.bool b)).run P w = .ok (.bool (!(a == b))) w := by
 have := eq_of (P := P) (t := t) w (x := .bool a) (y := .bool b) (b := a == b) (fun d => by simp [Op.equalIn, run_underlying hu, Result.andThen])
 simp [binOp, this, Result.andThen]
theorem eqP0 {e : TypeId} (hu : P.underlying t = some (.pointer e)) {a : Option Addr} : (Op.equal t (.pointer a) (.pointer none)).run P w = .ok a.isNone w :=
 eq_of w (fun d => by cases a <;> simp [Op.equalIn, run_underlying hu, Result.andThen])
theorem b_eqlP0 {e : TypeId} (hu : P.underlying t = some (.pointer e)) {a : Option Addr} : (binOp .eql t (.pointer a) (.pointer none)).run P w = .ok (.bool a.isNone) w := by
 simp [binOp, eqP0 w hu, Result.andThen]
/-- A struct of cells of one word each: its values fit its fields. -/
def fitsB (P : Program) : List Field → Nat → List Value → Bool
 | [], _, [] => true
 | f :: fs, n, x :: xs => Nat.beq f.offset n && !(f.name == "_") && (match P.underlying f.type, x with
  | some (.int k), .int k' _ => k == k'
  | some .bool, .bool _ => true
  | some .string, .string _ => true
  | _, _ => false) && fitsB P fs (n + 1) xs
 | _, _, _ => false
theorem bytes_beq (a b : ByteArray) : (a == b) = true ↔ a = b := by
 cases a with | mk a => cases b with | mk b =>
 have h : ((ByteArray.mk a) == (ByteArray.mk b)) = (a == b) := rfl
 rw [h]; simp
theorem eq_fields (d : Nat) : ∀ (fs : List Field) (n : Nat) (pre pre' xs ys : List Value), fitsB P fs n xs = true → fitsB P fs n ys = true → pre.length = n → pre'.length = n →
  ∃ r : Bool, (Op.eqFields (d + 1) (pre ++ xs).toArray (pre' ++ ys).toArray fs).run P w = .ok r w ∧ (r = true ↔ xs = ys)
 | [], n, pre, pre', xs, ys, hx, hy, _, _ => by
  cases xs with
  | cons _ _ => simp [fitsB] at hx
  | nil =>
   cases ys with
   | cons _ _ => simp [fitsB] at hy
   | nil => exact ⟨true, by simp [Op.eqFields], by simp⟩
 | f :: fs, n, pre, pre', xs, ys, hx, hy, hp, hp' => by
  cases xs with
  | nil => simp [fitsB] at hx
  | cons x xs =>
   cases ys with
   | nil => simp [fitsB] at hy
   | cons y ys =>
    simp only [fitsB, Bool.and_eq_true] at hx hy
    obtain ⟨⟨⟨h1, h2⟩, h3⟩, h4⟩ := hx
    obtain ⟨⟨_, k3⟩, k4⟩ := hy
    have ho : f.offset = n := Nat.eq_of_beq_eq_true h1
    have hname : f.name ≠ "_" := by simpa using h2
    obtain ⟨r', hr', hiff'⟩ := eq_fields d fs (n + 1) (pre ++ [x]) (pre' ++ [y]) xs ys h4 k4 (by simp [hp]) (by simp [hp'])
    simp only [List.append_assoc, List.singleton_append] at hr'
    have gx : (pre ++ x :: xs).toArray[f.offset]? = some x := by rw [ho, ← hp]; simp
    have gy : (pre' ++ y :: ys).toArray[f.offset]? = some y := by rw [ho, ← hp']; simp
    have done : ∀ r : Bool, (isAgg f.type).run P w = .ok false w → (Op.equalIn (d + 1) f.type x y).run P w = .ok r w → (r = true ↔ x = y) →
      ∃ r : Bool, (Op.eqFields (d + 1) (pre ++ x :: xs).toArray (pre' ++ y :: ys).toArray (f :: fs)).run P w = .ok r w ∧ (r = true ↔ x :: xs = y :: ys) := fun r ha he hiff => by
     have px : (part f.type (pre ++ x :: xs).toArray f.offset).run P w = .ok x w := by unfold part; simp only [Sem.run_bind, ha, Result.andThen, Bool.false_eq_true, if_false, gx, Sem.run_pure]
     have py : (part f.type (pre' ++ y :: ys).toArray f.offset).run P w = .ok y w := by unfold part; simp only [Sem.run_bind, ha, Result.andThen, Bool.false_eq_true, if_false, gy, Sem.run_pure]
     simp only [Op.eqFields, hname, ne_eq, not_false_eq_true, if_true, Sem.run_bind, px, py, he, Result.andThen]
     cases r
     ·exact ⟨false, by simp, by simp; intro e; exact absurd (hiff.2 e) (by simp)⟩
     ·refine ⟨r', by simpa using hr', ?_⟩
      rw [hiff']
      simp [hiff.1 rfl]
    split at h3
    ·next k k' a hu =>
     rw [hu] at k3
     cases y <;> simp at k3 h3
     next k'' b =>
      subst h3; subst k3
      refine done (decide (a = b)) (by simp [isAgg, run_underlying hu, Result.andThen]) ?_ (by simp)
      simp [Op.equalIn, run_underlying hu, Result.andThen]
      by_cases q : a = b <;> simp [q]
    ·next a hu =>
     rw [hu] at k3
     cases y <;> simp at k3
     next b =>
      refine done (a == b) (by simp [isAgg, run_underlying hu, Result.andThen]) ?_ (by simp)
      simp [Op.equalIn, run_underlying hu, Result.andThen]
    ·next a hu =>
     rw [hu] at k3
     cases y <;> simp at k3
     next b =>
      refine done (a == b) (by simp [isAgg, run_underlying hu, Result.andThen]) ?_ (by rw [bytes_beq]; simp)
      simp [Op.equalIn, run_underlying hu, Result.andThen]
    ·cases h3
open Classical in
theorem eq_flat {fs : Array Field} (hu : P.underlying t = some (.struct fs)) (hst : P.stoodInHeld t = false) {xs ys : List Value} (hx : fitsB P fs.toList 0 xs = true) (hy : fitsB P fs.toList 0 ys = true) :
  (Op.equal t (.agg xs.toArray) (.agg ys.toArray)).run P w = .ok (decide (xs = ys)) w := by
 have hfs : P.fieldsOf t = fs := by simp [Program.fieldsOf, hu]
 obtain ⟨r, hr, hiff⟩ := eq_fields (P := P) w 9998 fs.toList 0 [] [] xs ys hx hy rfl rfl
 have := run_equalIn_struct (P := P) w 9999 t xs.toArray ys.toArray (by rw [hfs]; exact hu) hst
 show (Op.equalIn (9999 + 1) t _ _).run P w = _
 rw [this, hfs]
 simp only [List.nil_append] at hr
 rw [hr]
 congr 1
 by_cases q : xs = ys
 ·rw [decide_eq_true q]; exact hiff.2 q
 ·rw [decide_eq_false q]; cases r with
  | false => rfl
  | true => exact absurd (hiff.1 rfl) q
open Classical in
theorem b_eqlFlat {fs : Array Field} (hu : P.underlying t = some (.struct fs)) (hst : P.stoodInHeld t = false) {xs ys : List Value} (hx : fitsB P fs.toList 0 xs = true) (hy : fitsB P fs.toList 0 ys = true) :
  (binOp .eql t (.agg xs.toArray) (.agg ys.toArray)).run P w = .ok (.bool (decide (xs = ys))) w := by
 simp [binOp, eq_flat w hu hst hx hy, Result.andThen]
open Classical in
theorem b_neqFlat {fs : Array Field} (hu : P.underlying t = some (.struct fs)) (hst : P.stoodInHeld t = false) {xs ys : List Value} (hx : fitsB P fs.toList 0 xs = true) (hy : fitsB P fs.toList 0 ys = true) :
  (binOp .neq t (.agg xs.toArray) (.agg ys.toArray)).run P w = .ok (.bool (decide (¬ xs = ys))) w := by
 simp [binOp, eq_flat w hu hst hx hy, Result.andThen]
theorem g_flat {op : BinOp} {x y : Operand} {xs ys : Array Value} (h : P.eqGuardType P.depth t = false) : (eqGuard op t x y (.agg xs) (.agg ys)).run P w = .ok () w := by
 unfold eqGuard
 cases op <;> simp [Result.andThen, h]
end

section
variable {c : Cx} {fin : Exit → Act → World → Prop} {ds : List Deferred} {E : Env} {L : List HP} {ks : List KI} {ops : Array Oper} {rest : List Oper}
variable {d : Option Tmp} {ty : TypeId} {pos : String} {af : Array Edge}
/-- Where a struct's fields lie. -/
def placesOf (t : TypeId) : Sem (Array (Nat × Nat)) := do
 match ← underlying t with
 | .struct fields => fields.mapM fun f => do pure (f.offset, ← sizeOf f.type)
 | _ => stuck "no struct"
inductive PlAt : List (Nat × Nat) → Nat → Nat → Nat → Prop
 | here {o n : Nat} {l : List (Nat × Nat)} : PlAt ((o, n) :: l) 0 o n
 | there {x : Nat × Nat} {i o n : Nat} {l : List (Nat × Nat)} : PlAt l i o n → PlAt (x :: l) (i + 1) o n
theorem PlAt.eq {l : List (Nat × Nat)} {i o n : Nat} (h : PlAt l i o n) : l.toArray[i]? = some (o, n) := by
 have : l[i]? = some (o, n) := by
  induction h with
  | here => rfl
  | there _ ih => simpa using ih
 simpa using this
/-- A struct's cells out of its parts. -/
inductive FillR (pl : List (Nat × Nat)) : List Value → List (Nat × Value) → List Value → Prop
 | nil {cs : List Value} : FillR pl cs [] cs
 | one {cs cs1 cs2 : List Value} {i o : Nat} {v : Value} {r : List (Nat × Value)} : PlAt pl i o 1 → v.oneCell' = true → SetAt cs o v cs1 → FillR pl cs1 r cs2 → FillR pl cs ((i, v) :: r) cs2
 | all {cs cs1 cs2 us : List Value} {i o n : Nat} {r : List (Nat × Value)} : PlAt pl i o n → us.length = n → us ≠ [] → SetAll cs o us cs1 → FillR pl cs1 r cs2 → FillR pl cs ((i, .agg us.toArray) :: r) cs2
theorem setCells_fold {b : Nat} : ∀ (us : List Value) (k o : Nat) (cs : Array Value), (us.zipIdx k).foldl (fun (cs : Array Value) (p : Value × Nat) => cs.setIfInBounds (o + p.2) p.1) cs = setCells cs (o + k) us
 | [], _, _, _ => rfl
 | u :: r, k, o, cs => by
  simp only [List.zipIdx_cons, List.foldl_cons, setCells]
  rw [setCells_fold (b := b) r (k + 1) o, Nat.add_assoc]
theorem SetAll.len {l l' vs : List Value} {o : Nat} (h : SetAll l o vs l') : l'.length = l.length := by
 induction h with
 | nil => rfl
 | cons h1 _ ih => rw [ih, h1.eq.2.2]
theorem FillR.eq {pl : List (Nat × Nat)} {cs cs' : List Value} {ps : List (Nat × Value)} (h : FillR pl cs ps cs') : Instr.fill (pl.toArray[·]?) cs.toArray ps = some cs'.toArray := by
 induction h with
 | nil => rfl
 | @one cs cs1 cs2 i o v r h1 h2 h3 _ ih =>
  obtain ⟨a1, a2, a3⟩ := h3.eq
  simp only [Instr.fill, h1.eq, cells_one h2]
  rw [if_neg (by simp; omega)]
  rw [← ih, ← a2]
  congr 1
 | @all cs cs1 cs2 us i o n r h1 h2 hne h3 _ ih =>
  obtain ⟨b1, b2⟩ := h3.eq
  have e : Value.cells (.agg us.toArray) = us.toArray := rfl
  simp only [Instr.fill, h1.eq, e]
  have hfold : us.toArray.zipIdx.foldl (fun (cs : Array Value) (p : Value × Nat) => cs.setIfInBounds (o + p.2) p.1) cs.toArray = cs1.toArray := by
   have := setCells_fold (b := 0) us 0 o cs.toArray
   rw [Nat.add_zero, b2] at this
   rw [← this, ← Array.foldl_toList]; simp
  rcases b1 with rfl | b1
  ·exact absurd rfl hne
  ·rw [if_neg (by simp [h2]; omega), ← ih, ← hfold]
theorem q_buildS {gd : Option (Nat × Bool)} {t : TypeId} {ps : Array (Nat × Operand)} {pl : List (Nat × Nat)} {z us : List Value} {vs : List (Nat × Value)} (hx : evp E ps.toList = some vs) (hp : ∀ w, (placesOf t).run c.P w = .ok pl.toArray w)
  (hz : ∀ w, (zeroValue t).run c.P w = .ok (.agg z.toArray) w) (hf : FillR pl z vs us) : QV c ds E L ⟨d, .build t ps, ty, pos, af, gd⟩ (.agg us.toArray) :=
 q_build hx fun w => by
  have h1 := hp w
  have h2 := hz w
  unfold placesOf at h1
  unfold Instr.build
  simp only [Sem.run_bind, h2, Result.andThen] at h1 ⊢
  generalize (underlying t).run c.P w = r at h1 ⊢
  cases r with
  | halt x w' => simp only at h1; cases h1
  | ok dsc w' =>
   simp only at h1 ⊢
   cases dsc <;> simp only [Sem.run_bind, Result.andThen] at h1 ⊢ <;> first | (cases h1; done) | skip
   next fields =>
    have e : Value.cells (.agg z.toArray) = z.toArray := rfl
    rw [h1]
    simp only [e, hf.eq, Sem.run_pure]
/-- Parting on a bool in a slot, ahead of code. -/
theorem t_part {x : Code} {t : Tmp} {b : Bool} (hb : lk E t = some (.bool b)) (h1 : b = true → TC c fin ds ((t, .bool true) :: E) L x ks) (h2 : b = false → TC c fin ds ((t, .bool false) :: E) L x ks) : TC c fin ds E L x ks := fun a w hs => by
 have hag : ∀ b', b = b' → St c ds ((t, .bool b') :: E) L a w := fun b' e => ⟨hs.size, hs.defs, fun u v e' => by
  simp only [lk] at e'
  by_cases q : t = u
  ·subst q; simp only [Nat.beq_refl, Option.some.injEq] at e'; subst e'; rw [← e]; exact hs.agree _ _ hb
  ·rw [show Nat.beq t u = false from nbeq q] at e'; exact hs.agree _ _ e', hs.sat, hs.ext⟩
 cases b with
 | true => exact h1 rfl a w (hag _ rfl)
 | false => exact h2 rfl a w (hag _ rfl)
theorem q_extractL {gd : Option (Nat × Bool)} {x : Operand} {i : Nat} {l : List Value} {v : Value} (hx : ev E x = some (.tuple l.toArray)) (hv : GetAt l i v) : QV c ds E L ⟨d, .extract x i, ty, pos, af, gd⟩ v := q_extract hx hv.eq
/-- A stretch of a written-out row. -/
inductive SubL : List Value → Nat → Nat → List Value → Prop
 | nil {l : List Value} : SubL l 0 0 []
 | take {x : Value} {l us : List Value} {n : Nat} : SubL l 0 n us → SubL (x :: l) 0 (n + 1) (x :: us)
 | skip {x : Value} {l us : List Value} {o n : Nat} : SubL l o n us → SubL (x :: l) (o + 1) n us
theorem SubL.eq {l us : List Value} {o n : Nat} (h : SubL l o n us) : l.toArray.extract o (o + n) = us.toArray ∧ o + n ≤ l.length := by
 have : (l.drop o).take n = us ∧ o + n ≤ l.length := by
  induction h with
  | nil => simp
  | take _ ih => obtain ⟨h1, h2⟩ := ih; exact ⟨by simpa using h1, by simpa using h2⟩
  | skip _ ih => obtain ⟨h1, h2⟩ := ih; exact ⟨by simpa using h1, by simp; omega⟩
 refine ⟨?_, this.2⟩
 apply Array.ext'
 simp only [Array.toList_extract, List.extract_eq_take_drop]
 rw [show o + n - o = n by omega]; exact this.1
theorem sb {l us : List Value} {o n : Nat} (h : SubL l o n us := by repeat (first | exact SubL.nil | apply SubL.take | apply SubL.skip)) : SubL l o n us := h
theorem q_loadAggL {gd : Option (Nat × Bool)} {t : TypeId} {x : Operand} {b o n : Nat} {us l : List Value} {tt : TypeId} {fr : Nat × Nat} {M : List HP} (hx : ev E x = some (.pointer (some ⟨b, o, none⟩)))
  (ha : ∀ w, (isAgg t).run c.P w = .ok true w) (hn : ∀ w, (sizeOf t).run c.P w = .ok n w) (ht : Take (pt b (.cells l.toArray tt fr)) L M) (hv : SubL l o n us) : QV c ds E L ⟨d, .load t x, ty, pos, af, gd⟩ (.agg us.toArray) :=
 q_loadAgg hx ha hn ht (Nat.ble_eq_true_of_le (by simpa using hv.eq.2)) hv.eq.1
theorem q_field1L {gd : Option (Nat × Bool)} {s : TypeId} {x : Operand} {l : List Value} {i : Nat} (k : Nat) {fs : Array Field} {f : Field} {v : Value} (hx : ev E x = some (.agg l.toArray)) (hs : c.P.underlying s = some (.struct fs)) (hf : fs[i]? = some f)
  (ha : ∀ w, (isAgg f.type).run c.P w = .ok false w) (hk : f.offset = k) (hv : GetAt l k v) : QV c ds E L ⟨d, .field s x i, ty, pos, af, gd⟩ v := q_field1 hx hs hf ha (by rw [hk]; exact hv.eq)
/-- A field's place, its offset written out. -/
theorem q_fieldAddrK {gd : Option (Nat × Bool)} {s : TypeId} {x : Operand} {b o i n : Nat} (k : Nat) {fields : Array Field} {f : Field} (hx : ev E x = some (.pointer (some ⟨b, o, none⟩))) (hs : c.P.underlying s = some (.struct fields)) (hf : fields[i]? = some f) (hk : f.offset = k)
  (hn : ∀ w, (sizeOf f.type).run c.P w = .ok (n + 1) w) : QV c ds E L ⟨d, .fieldAddr s x i, ty, pos, af, gd⟩ (.pointer (some ⟨b, o + k, none⟩)) := by
 subst hk; exact q_fieldAddr hx hs hf hn
/-- An element at a written-out index of a row that begins at its block's head. -/
theorem q_indexAddrC {gd : Option (Nat × Bool)} {t e : TypeId} {x y : Operand} {b len cap : Nat} {kd : IntKind} (n : Nat) (hx : ev E x = some (.slice (some ⟨b, 0, none⟩) len cap)) (hy : ev E y = some (.int kd (n : Int))) (hu : c.P.underlying t = some (.slice e))
  (hn : ∀ w, (sizeOf e).run c.P w = .ok 1 w) (hi : n < len) : QV c ds E L ⟨d, .indexAddr t x y, ty, pos, af, gd⟩ (.pointer (some ⟨b, n, none⟩)) := by
 have := q_indexAddr1 (c := c) (ds := ds) (L := L) (d := d) (ty := ty) (pos := pos) (af := af) (gd := gd) hx hy hu hn (by omega)
 rwa [Nat.zero_add, Int.toNat_natCast] at this
theorem made_one (z : Value) (n : Nat) : (madeCells #[z] n).toList = List.replicate n z := by
 apply List.ext_getElem
 ·simp [size_madeCells]
 ·intro i h1 h2
  simp [madeCells, Nat.mod_one]
theorem flat_one : ∀ {us : List Value}, us.all (·.oneCell') = true → us.flatMap (·.cells.toList) = us
 | [], _ => rfl
 | u :: r, h => by
  simp only [List.all_cons, Bool.and_eq_true] at h
  rw [List.flatMap_cons, flat_one h.2, cells_one h.1]; rfl
/-- A slice literal of cells of one word. -/
theorem o_buildSlice1 {t e : TypeId} {len : Nat} {z : Value} {ps : Array (Nat × Operand)} (us : List Value) (hd : okDst d c.N = true) (hx : evp E ps.toList = some ((us.zipIdx 0).map fun p => (p.2, p.1)))
  (ht : c.P.underlying t = some (.slice e)) (hn : ∀ w, (sizeOf e).run c.P w = .ok 1 w) (hz : ∀ w, (zeroValue e).run c.P w = .ok z w) (hzs : z.oneCell' = true) (hlen : us.length = len) (hsm : Nat.ble len 16777216 = true) (hone : us.all (·.oneCell') = true)
  (k : ∀ b, TL c fin ds (upd d (.slice (some ⟨b, 0, none⟩) len len) E) (pt b (.cells us.toArray e (0, 0)) :: L) ops rest ks) : TL c fin ds E L ops (⟨d, .buildSlice t len ps, ty, pos, af, none⟩ :: rest) ks := by
 refine o_buildSlice (us := us) (cs := us.toArray) hd hx ht hn hz (by rw [cells_one hzs]; rfl) hlen (by rw [Nat.mul_one]; exact hsm) ?_ (by rw [flat_one hone]) k
 rw [List.all_eq_true] at hone ⊢
 intro v hv
 rw [cells_one (hone v hv)]; rfl
/-- A new slice of cells of one word. -/
theorem o_makeSlice1 {t e : TypeId} {x y : Operand} {z : Value} {bytes : Nat} {kl kc : IntKind} {l m : Int} (hd : okDst d c.N = true) (hx : ev E x = some (.int kl l)) (hy : ev E y = some (.int kc m))
  (ht : c.P.underlying t = some (.slice e)) (hinf : ∃ i, c.P.info? e = some i ∧ i.zero = some z ∧ i.size = 1 ∧ i.bytes = bytes) (hz : z.oneCell' = true) (h0 : 0 ≤ l ∧ l ≤ m) (hb : (bytes : Int) * m ≤ 281474976710656 ∧ m ≤ 9223372036854775807)
  (k : ∀ b, TL c fin ds (upd d (.slice (some ⟨b, 0, none⟩) l.toNat m.toNat) E) (ownS e 1 (.slice (some ⟨b, 0, none⟩) l.toNat m.toNat) l.toNat (List.replicate l.toNat z) :: L) ops rest ks) : TL c fin ds E L ops (⟨d, .makeSlice t x y, ty, pos, af, none⟩ :: rest) ks :=
 l_op hd (by intro k; simp) (fun b => .slice (some ⟨b, 0, none⟩) l.toNat m.toNat) (fun b => ownS e 1 (.slice (some ⟨b, 0, none⟩) l.toNat m.toNat) l.toNat (List.replicate l.toNat z) :: L) (fun a w hs => by
  obtain ⟨i, hi, hiz, hsize, hby⟩ := hinf
  have hr := run_make w t e i z ht hi hiz kl kc l m h0.1 h0.2 (by rw [hby]; exact hb.1) hb.2
  refine ⟨w.heap.size, w.alloc (.cells (madeCells z.cells (m.toNat * i.size)) e), ?_, ?_, (Ext.refl w).alloc _⟩
  ·simp only [execOp, Sem.run_bind, hs.ev hx, hs.ev hy, hr, Result.andThen, Sem.run_pure]
  ·refine own_of_pt (hs.sat.alloc _) (by simp) (by omega) (by simp only [maxLen]; omega) (by simp [size_madeCells, hsize]) ?_
   rw [cells_one hz, made_one, hsize, List.take_replicate]
   congr 1; omega) k
/-- A struct's variable read whole. -/
theorem run_loadAll {P : Program} {t : TypeId} {b n : Nat} {cs : Array Value} {tt : TypeId} {fr : Nat × Nat} (ha : ∀ w, (isAgg t).run P w = .ok true w) (hn : ∀ w, (sizeOf t).run P w = .ok n w) (h : cs.size = n) :
  ∀ w, w.heap[b]? = some (.cells cs tt fr) → (loadVar t ⟨b, 0, none⟩).run P w = .ok (.agg cs) w := fun w hb => by
 have := run_loadCells (P := P) hb n 0 (by omega)
 simp only [loadVar, Sem.run_bind, ha, Result.andThen, if_true, hn, this, Sem.run_pure]
 congr 2
 rw [Nat.zero_add, ← h]; simp
end
end Go.Proofs.YthkajgkagnenbaaGreatDoor.Eng
end
section
/- The logic's rules for maps whose keys are whole numbers or strings. No program. -/
set_option linter.unusedVariables false
set_option linter.unusedSimpArgs false
set_option linter.unusedSectionVars false
namespace Go.Proofs.YthkajgkagnenbaaGreatDoor.Eng
open Go.RowKit

section
variable {K : Type} [DecidableEq K]
/-- Keys of a kind as values. -/
structure KeyOk (d : TypeDesc) (mk : K → Value) : Prop where
 isKey : ∀ k, MapKept.IsKey d (mk k)
 same : ∀ a b, Instr.sameNow d (mk a) (mk b) = some (decide (a = b))
 bits : ∀ k, Instr.sameBits 10000 (mk k) (mk k) = true

def lkK : List (K × Value) → K → Option Value
 | [], _ => none
 | (j, v) :: r, k => if j = k then some v else lkK r k
def setK : List (K × Value) → K → Value → List (K × Value)
 | [], k, v => [(k, v)]
 | (j, u) :: r, k, v => if j = k then (j, v) :: r else (j, u) :: setK r k v
def delK : List (K × Value) → K → List (K × Value)
 | [], _ => []
 | (j, u) :: r, k => if j = k then r else (j, u) :: delK r k
theorem lk_set (m : List (K × Value)) (k k' : K) (v : Value) : lkK (setK m k v) k' = if k = k' then some v else lkK m k' := by
 induction m with
 | nil => simp [setK, lkK]
 | cons p r ih =>
  obtain ⟨j, u⟩ := p
  simp only [setK]
  by_cases h : j = k
  ·subst h
   simp only [if_true, lkK]
   by_cases q : j = k' <;> simp [q]
  ·rw [if_neg h]
   simp only [lkK, ih]
   by_cases q : j = k'
   ·subst q; simp [Ne.symm h]
   ·simp [q]
def distinctK (m : List (K × Value)) : Prop := (m.map (·.1)).Nodup
theorem keys_set (m : List (K × Value)) (k : K) (v : Value) : ∀ j, j ∈ (setK m k v).map (·.1) ↔ j = k ∨ j ∈ m.map (·.1) := by
 intro j
 induction m with
 | nil => simp [setK]
 | cons p r ih =>
  obtain ⟨i, u⟩ := p
  simp only [setK]
  by_cases h : i = k
  ·subst h; simp
  ·rw [if_neg h]
   simp only [List.map_cons, List.mem_cons, ih]
   constructor
   ·rintro (h | h | h)
    ·exact .inr (.inl h)
    ·exact .inl h
    ·exact .inr (.inr h)
   ·rintro (h | h | h)
    ·exact .inr (.inl h)
    ·exact .inl h
    ·exact .inr (.inr h)
theorem distinct_set {m : List (K × Value)} (h : distinctK m) (k : K) (v : Value) : distinctK (setK m k v) := by
 induction m with
 | nil => simp [setK, distinctK]
 | cons p r ih =>
  obtain ⟨i, u⟩ := p
  simp only [distinctK, List.map_cons, List.nodup_cons] at h
  simp only [setK]
  by_cases q : i = k
  ·rw [if_pos q]; simp only [distinctK, List.map_cons, List.nodup_cons]; exact h
  ·rw [if_neg q]
   simp only [distinctK, List.map_cons, List.nodup_cons]
   refine ⟨fun hm => ?_, ih h.2⟩
   rcases (keys_set r k v i).1 hm with e | e
   ·exact q e
   ·exact h.1 e
theorem keys_del {m : List (K × Value)} (k : K) : ∀ j, j ∈ (delK m k).map (·.1) → j ∈ m.map (·.1) := by
 intro j
 induction m with
 | nil => simp [delK]
 | cons p r ih =>
  obtain ⟨i, u⟩ := p
  simp only [delK]
  by_cases h : i = k
  ·rw [if_pos h]; intro hj; simp only [List.map_cons]; exact List.mem_cons_of_mem _ hj
  ·rw [if_neg h]
   simp only [List.map_cons, List.mem_cons]
   rintro (h | h)
   ·exact .inl h
   ·exact .inr (ih h)
theorem distinct_del {m : List (K × Value)} (h : distinctK m) (k : K) : distinctK (delK m k) := by
 induction m with
 | nil => exact h
 | cons p r ih =>
  obtain ⟨i, u⟩ := p
  simp only [distinctK, List.map_cons, List.nodup_cons] at h
  simp only [delK]
  by_cases q : i = k
  ·rw [if_pos q]; exact h.2
  ·rw [if_neg q]
   simp only [distinctK, List.map_cons, List.nodup_cons]
   exact ⟨fun hm => h.1 (keys_del k i hm), ih h.2⟩
theorem lk_none {m : List (K × Value)} {k : K} (h : k ∉ m.map (·.1)) : lkK m k = none := by
 induction m with
 | nil => rfl
 | cons p r ih =>
  obtain ⟨i, u⟩ := p
  simp only [List.map_cons, List.mem_cons, not_or] at h
  simp only [lkK]
  rw [if_neg (Ne.symm h.1)]; exact ih h.2
theorem lk_del {m : List (K × Value)} (h : distinctK m) (k k' : K) : lkK (delK m k) k' = if k = k' then none else lkK m k' := by
 induction m with
 | nil => simp [delK, lkK]
 | cons p r ih =>
  obtain ⟨i, u⟩ := p
  simp only [distinctK, List.map_cons, List.nodup_cons] at h
  simp only [delK]
  by_cases q : i = k
  ·subst q
   rw [if_pos rfl]
   by_cases e : i = k'
   ·subst e; rw [if_pos rfl]; exact lk_none h.1
   ·rw [if_neg e]; simp [lkK, e]
  ·rw [if_neg q]
   simp only [lkK, ih h.2]
   by_cases e : i = k'
   ·subst e; simp [Ne.symm q]
   ·simp [e]

theorem del_none {m : List (K × Value)} {k : K} (h : lkK m k = none) : delK m k = m := by
 induction m with
 | nil => rfl
 | cons p r ih =>
  obtain ⟨i, u⟩ := p
  simp only [lkK] at h
  by_cases q : i = k
  ·rw [if_pos q] at h; cases h
  ·rw [if_neg q] at h; simp [delK, q, ih h]
theorem map_erase {A B : Type} (f : A → B) : ∀ (l : List A) (j : Nat), (l.eraseIdx j).map f = (l.map f).eraseIdx j
 | [], j => by simp
 | x :: l, 0 => by simp
 | x :: l, j + 1 => by simp [map_erase f l j]

/-- A map's block: its entries in their order. -/
def mapH (mk : K → Value) (b : Nat) (m : List (K × Value)) : HP := fun h => distinctK m ∧ ∃ es clock, h = Part.one b (.map es clock) ∧ es.toList.map (fun e => (e.key, e.val)) = m.map fun p => (mk p.1, p.2)

theorem map_some {mk : K → Value} {b : Nat} {m : List (K × Value)} {L : List HP} {w : World} (h : Sat (stars (mapH mk b m :: L)) w) : distinctK m ∧ ∃ es clock, es.toList.map (fun e => (e.key, e.val)) = m.map (fun p => (mk p.1, p.2)) ∧ Sat (stars (pt b (.map es clock) :: L)) w := by
 obtain ⟨_, hi, f, g0, ⟨hd, es, clock, rfl, he⟩, k, d, rfl⟩ := h
 exact ⟨hd, es, clock, he, _, hi, _, g0, rfl, k, d, rfl⟩
theorem map_of {mk : K → Value} {b : Nat} {m : List (K × Value)} {L : List HP} {w : World} {es : Array MapEntry} {clock : Nat} (hd : distinctK m) (he : es.toList.map (fun e => (e.key, e.val)) = m.map fun p => (mk p.1, p.2)) (h : Sat (stars (pt b (.map es clock) :: L)) w) :
  Sat (stars (mapH mk b m :: L)) w := by
 obtain ⟨_, hi, f, g0, rfl, k, d, rfl⟩ := h
 exact ⟨_, hi, _, g0, ⟨hd, es, clock, rfl, he⟩, k, d, rfl⟩

theorem findNow_map {d : TypeDesc} {mk : K → Value} (hk : KeyOk d mk) (k : K) : ∀ (m : List (K × Value)) (l : List MapEntry) (n : Nat), l.map (fun e => (e.key, e.val)) = m.map (fun p => (mk p.1, p.2)) →
  (Instr.findNow d (mk k) l n = some none ∧ lkK m k = none ∧ setK m k = fun v => m ++ [(k, v)]) ∨
  ∃ j v e, Instr.findNow d (mk k) l n = some (some (n + j, v)) ∧ lkK m k = some v ∧ l[j]? = some e ∧ e.key = mk k ∧ m[j]? = some (k, v) ∧ (∀ u, setK m k u = m.set j (k, u)) ∧ delK m k = m.eraseIdx j
 | [], l, n, h => by
  have : l = [] := by simpa using h
  subst this
  exact .inl ⟨rfl, rfl, by funext v; rfl⟩
 | (i, u) :: r, [], n, h => by simp at h
 | (i, u) :: r, e :: l, n, h => by
  simp only [List.map_cons, List.cons.injEq, Prod.mk.injEq] at h
  obtain ⟨⟨h1, h2⟩, h3⟩ := h
  simp only [Instr.findNow, h1, hk.same]
  by_cases q : i = k
  ·subst q
   rw [decide_eq_true rfl]
   exact .inr ⟨0, u, e, by simp [h2], by simp [lkK], by simp, h1, by simp, fun v => by simp [setK], by simp [delK]⟩
  ·rw [decide_eq_false (Ne.symm q)]
   simp only
   rcases findNow_map hk k r l (n + 1) h3 with ⟨a1, a2, a3⟩ | ⟨j, v, e', a1, a2, a3, a4, a5, a6, a7⟩
   ·exact .inl ⟨a1, by simp [lkK, q, a2], by funext v; simp [setK, q, a3]⟩
   ·exact .inr ⟨j + 1, v, e', by rw [a1]; congr 3; omega, by simp [lkK, q, a2], by simpa using a3, a4, by simpa using a5, fun v => by simp [setK, q, a6], by simp [delK, q, a7]⟩
theorem keyInt : KeyOk (.int .i64) (fun k : Int => Value.int .i64 k) := ⟨fun k => by simp [MapKept.IsKey], fun a b => by simp [Instr.sameNow]; by_cases q : a = b <;> simp [q], fun k => by simp [Instr.sameBits]⟩
end

section
variable {K : Type} [DecidableEq K]
variable {c : Cx} {fin : Exit → Act → World → Prop} {ds : List Deferred} {E : Env} {L : List HP} {ks : List KI} {ops : Array Oper} {rest : List Oper}
variable {d : Option Tmp} {ty : TypeId} {pos : String} {af : Array Edge} {mk : K → Value}

theorem o_makeMap {t : TypeId} (mk : K → Value) (hd : okDst d c.N = true) (k : ∀ b, TL c fin ds (upd d (.map (some b)) E) (mapH mk b [] :: L) ops rest ks) : TL c fin ds E L ops (⟨d, .makeMap t none, ty, pos, af, none⟩ :: rest) ks :=
 l_op hd (by intro k; simp) (fun b => .map (some b)) (fun b => mapH mk b [] :: L) (fun a w hs => ⟨w.heap.size, w.alloc (.map #[] 0), by
  simp [execOp, Instr.makeMap, run_newObj_alloc, Result.andThen], map_of (by simp [distinctK]) (by simp) (hs.sat.alloc _), (Ext.refl w).alloc _⟩) k

theorem q_lookup {gd : Option (Nat × Bool)} {t kt et : TypeId} {kd : TypeDesc} {x y : Operand} {b : Nat} {m : List (K × Value)} {M : List HP} {z : Value} {k : K} (hx : ev E x = some (.map (some b))) (hy : ev E y = some (mk k)) (ht : c.P.underlying t = some (.map kt et)) (hkt : c.P.underlying kt = some kd)
  (hk : KeyOk kd mk) (hz : ∀ w, (zeroValue et).run c.P w = .ok z w) (hm : Take (mapH mk b m) L M) (ok : Bool) :
  QV c ds E L ⟨d, .lookup t x y ok, ty, pos, af, gd⟩ (if ok then .tuple #[(lkK m k).getD z, .bool (lkK m k).isSome] else (lkK m k).getD z) :=
 ⟨by intro k; simp, fun a w hs => by
  obtain ⟨_, es, clock, he, hsat⟩ := map_some (hs.sat.take hm)
  have hb := hsat.block (b := b) .here
  have hck := MapKept.run_checkKey (w := w) hkt (hk.isKey k) es.isEmpty 9999
  rcases findNow_map hk k m es.toList 0 he with ⟨a1, a2, _⟩ | ⟨j, v, e, a1, a2, _⟩
  ·have hf := MapKept.run_findKey (w := w) hkt a1
   cases ok <;> simp [execOp, Instr.lookup, hs.ev hx, hs.ev hy, run_underlying ht, MapKept.run_getObj_map hb, hck, hf, hz, a2, Result.andThen]
  ·have hf := MapKept.run_findKey (w := w) hkt a1
   cases ok <;> simp [execOp, Instr.lookup, hs.ev hx, hs.ev hy, run_underlying ht, MapKept.run_getObj_map hb, hck, hf, a2, Result.andThen]⟩

theorem q_lookup2 {gd : Option (Nat × Bool)} {t kt et : TypeId} {kd : TypeDesc} {x y : Operand} {b : Nat} {m : List (K × Value)} {M : List HP} {z : Value} {k : K} (hk : KeyOk kd mk) (hx : ev E x = some (.map (some b))) (hy : ev E y = some (mk k)) (ht : c.P.underlying t = some (.map kt et)) (hkt : c.P.underlying kt = some kd)
  (hz : ∀ w, (zeroValue et).run c.P w = .ok z w) (hm : Take (mapH mk b m) L M) :
  QV c ds E L ⟨d, .lookup t x y true, ty, pos, af, gd⟩ (.tuple #[(lkK m k).getD z, .bool (lkK m k).isSome]) := q_lookup hx hy ht hkt hk hz hm true
theorem q_lookup1 {gd : Option (Nat × Bool)} {t kt et : TypeId} {kd : TypeDesc} {x y : Operand} {b : Nat} {m : List (K × Value)} {M : List HP} {z : Value} {k : K} (hk : KeyOk kd mk) (hx : ev E x = some (.map (some b))) (hy : ev E y = some (mk k)) (ht : c.P.underlying t = some (.map kt et)) (hkt : c.P.underlying kt = some kd)
  (hz : ∀ w, (zeroValue et).run c.P w = .ok z w) (hm : Take (mapH mk b m) L M) :
  QV c ds E L ⟨d, .lookup t x y false, ty, pos, af, gd⟩ ((lkK m k).getD z) := q_lookup hx hy ht hkt hk hz hm false
theorem run_mapUpdate {P : Program} {t kt et : TypeId} {kd : TypeDesc} {b : Nat} {m : List (K × Value)} {M : List HP} {k : K} {v : Value} {w : World} (ht : P.underlying t = some (.map kt et)) (hkt : P.underlying kt = some kd) (hk : KeyOk kd mk) (h : Sat (stars (mapH mk b m :: M)) w) :
  ∃ w', (Instr.mapUpdate t (.map (some b)) (mk k) v).run P w = .ok () w' ∧ Sat (stars (mapH mk b (setK m k v) :: M)) w' ∧ Ext w w' := by
 obtain ⟨hd, es, clock, he, hsat⟩ := map_some h
 have hb := hsat.block (b := b) .here
 have hck := MapKept.run_checkKey (w := w) hkt (hk.isKey k) false 9999
 rcases findNow_map hk k m es.toList 0 he with ⟨a1, a2, a3⟩ | ⟨j, u, e, a1, a2, a3, a4, a5, a6, _⟩
 ·have hf := MapKept.run_findKey (w := w) hkt a1
  refine ⟨w.putObj b (.map (es.push { key := mk k, val := v, born := clock }) (clock + 1)), ?_, map_of (distinct_set hd k v) ?_ (Sat.putObj hsat _), (Ext.refl w).putObj _ _⟩
  ·simp [Instr.mapUpdate, run_underlying ht, MapKept.run_getObj_map hb, hck, hf, Result.andThen, MapKept.run_setObj_map _ hb, World.putObj]
  ·rw [a3]; simp [he]
 ·have hf := MapKept.run_findKey (w := w) hkt a1
  rw [Nat.zero_add] at a1 hf
  have hj : es[j]? = some e := by simpa using a3
  refine ⟨w.putObj b (.map (es.modify j fun e => { e with key := mk k, val := v }) clock), ?_, map_of (distinct_set hd k v) ?_ (Sat.putObj hsat _), (Ext.refl w).putObj _ _⟩
  ·simp [Instr.mapUpdate, run_underlying ht, MapKept.run_getObj_map hb, hck, hf, Result.andThen, MapKept.run_setObj_map _ hb, World.putObj, hj, a4, Instr.keyThatStays, hk.bits]
  ·rw [a6, List.map_set, ← he]
   apply List.ext_getElem?
   intro i
   simp only [Array.toList_modify, List.getElem?_map, List.getElem?_modify, List.getElem?_set, List.length_map]
   by_cases q : j = i
   ·subst q
    have hlt : j < es.size := (Array.getElem?_eq_some_iff.1 hj).1
    simp [hlt]
   ·simp [q]
theorem o_mapUpdate {t kt et : TypeId} {kd : TypeDesc} {x y z : Operand} {b : Nat} {m : List (K × Value)} {M : List HP} {k : K} {v : Value} (hk : KeyOk kd mk) (hd : okDst d c.N = true) (hx : ev E x = some (.map (some b))) (hy : ev E y = some (mk k)) (hz : ev E z = some v)
  (ht : c.P.underlying t = some (.map kt et)) (hkt : c.P.underlying kt = some kd) (hm : Take (mapH mk b m) L M) (kk : TL c fin ds (upd d undef E) (mapH mk b (setK m k v) :: M) ops rest ks) :
  TL c fin ds E L ops (⟨d, .mapUpdate t x y z, ty, pos, af, none⟩ :: rest) ks :=
 l_do (X := Unit) hd (by intro k; simp) (fun _ => mapH mk b (setK m k v) :: M) (fun a w hs => by
  obtain ⟨w', h1, h2, h3⟩ := run_mapUpdate (k := k) (v := v) ht hkt hk (hs.sat.take hm)
  exact ⟨(), w', by simp [execOp, hs.ev hx, hs.ev hy, hs.ev hz, h1, Result.andThen], h2, h3⟩) fun _ => kk

theorem o_delete {t kt et t2 : TypeId} {kd : TypeDesc} {x y : Operand} {b : Nat} {m : List (K × Value)} {M : List HP} {k : K} (hk : KeyOk kd mk) (hd : okDst d c.N = true) (hx : ev E x = some (.map (some b))) (hy : ev E y = some (mk k))
  (ht : c.P.underlying t = some (.map kt et)) (hkt : c.P.underlying kt = some kd) (hm : Take (mapH mk b m) L M) (kk : TL c fin ds (upd d (.tuple #[]) E) (mapH mk b (delK m k) :: M) ops rest ks) :
  TL c fin ds E L ops (⟨d, .call { callee := .builtin .delete, args := #[x, y], argTypes := #[t, t2] }, ty, pos, af, none⟩ :: rest) ks :=
 l_op (X := Unit) hd (by intro k; simp) (fun _ => .tuple #[]) (fun _ => mapH mk b (delK m k) :: M) (fun a w hs => by
  obtain ⟨hdis, es, clock, he, hsat⟩ := map_some (hs.sat.take hm)
  have hb := hsat.block (b := b) .here
  have hck := MapKept.run_checkKey (w := w) hkt (hk.isKey k) es.isEmpty 9999
  rcases findNow_map hk k m es.toList 0 he with ⟨a1, a2, a3⟩ | ⟨j, u, e, a1, a2, a3, a4, a5, a6, a7⟩
  ·have hf := MapKept.run_findKey (w := w) hkt a1
   refine ⟨(), w.putObj b (.map es clock), ?_, map_of (distinct_del hdis k) ?_ (Sat.putObj hsat _), (Ext.refl w).putObj _ _⟩
   ·simp [execOp, resolve, invoke, builtin, Builtin.delete_, hs.ev hx, hs.ev hy, run_underlying ht, MapKept.run_getObj_map hb, hck, hf, Result.andThen, MapKept.run_setObj_map _ hb, World.putObj]
   ·have : delK m k = m := del_none a2
    rw [this]; exact he
  ·have hf := MapKept.run_findKey (w := w) hkt a1
   rw [Nat.zero_add] at a1 hf
   have hlt : j < es.size := by have := (List.getElem?_eq_some_iff.1 a3).1; simpa using this
   refine ⟨(), w.putObj b (.map (es.eraseIdxIfInBounds j) clock), ?_, map_of (distinct_del hdis k) ?_ (Sat.putObj hsat _), (Ext.refl w).putObj _ _⟩
   ·simp [execOp, resolve, invoke, builtin, Builtin.delete_, hs.ev hx, hs.ev hy, run_underlying ht, MapKept.run_getObj_map hb, hck, hf, Result.andThen, MapKept.run_setObj_map _ hb, World.putObj]
   ·rw [a7, map_erase, ← he, ← map_erase]
    simp [Array.eraseIdxIfInBounds, hlt]) fun _ => kk
end
end Go.Proofs.YthkajgkagnenbaaGreatDoor.Eng
end
section
/- The logic's rules for a deferred call of a function. No program. -/
set_option linter.unusedVariables false
set_option linter.unusedSimpArgs false
namespace Go.Proofs.YthkajgkagnenbaaGreatDoor.Eng
open Go.RowKit

/-- The contract of a function that is entered as a deferred call, at a return. -/
structure DefOk (P : Program) (f : FuncId) (args : Array Value) (D : List HP) (Post : List HP → Prop) : Prop where
 enters : ∀ args w, (callFunc f args).run P w = .ok (.enter f args) w
 calls : ∀ (Fr : List HP) (w0 w : World), Sat (stars (D ++ Fr)) w → Ext w0 w →
  CallsDIn (FW none) 0 P f args .returning w fun e u' w' => u' = .returning ∧ ∃ v L', e = .returned v ∧ Post L' ∧ Sat (stars (L' ++ Fr)) w' ∧ Ext w0 w'
section
variable {c : Cx} {fin : Exit → Act → World → Prop} {ds : List Deferred} {E : Env} {L : List HP} {ks : List KI} {ops : Array Oper} {rest : List Oper}
end
section
variable {c : Cx} {fin : Exit → Act → World → Prop} {ds : List Deferred} {E : Env} {L : List HP} {ks : List KI}
/-- What holds behind a piece of code, whatever way it went. -/
def cutI (c : Cx) (ds : List Deferred) {X : Type} (p : X → Prop) (EE : X → Env) (LL : X → List HP) : Act → World → Prop := fun a w => ∃ x, p x ∧ St c ds (EE x) (LL x) a w
theorem t_cut {X : Type} {p : X → Prop} {EE : X → Env} {LL : X → List HP} {x : Code} (h1 : TC c fin ds E L x (.lp (cutI c ds p EE LL) :: ks)) (h2 : ∀ y, p y → TN c fin ds (EE y) (LL y) .normal ks) : TC c fin ds E L x ks := fun a w hs => by
 refine wpIn_mono (h1 a w hs) ?_
 intro e a' w' hq
 cases e with
 | normal => obtain ⟨y, hp, hst⟩ := hq; exact h2 y hp a' w' hst
 | _ => exact hq
theorem n_join {X : Type} {p : X → Prop} {EE : X → Env} {LL : X → List HP} (x : X) (hp : p x) (he : Subs (EE x) E) (hl : Ent L (LL x)) : TN c fin ds E L .normal (.lp (cutI c ds p EE LL) :: ks) := fun a w hs => ⟨x, hp, hs.weaken he hl⟩
end
section
variable {c : Cx} {ds : List Deferred} {E : Env} {L : List HP} {d : Option Tmp} {ty : TypeId} {pos : String} {af : Array Edge} {gd : Option (Nat × Bool)}
end
/-- A pointer against itself. -/
theorem eqPs {P : Program} {t e : TypeId} {n : Nat} (w : World) (hu : P.underlying t = some (.pointer e)) (hs : ∀ w, (sizeOf e).run P w = .ok n w) {a : Addr} : (Op.equal t (.pointer (some a)) (.pointer (some a))).run P w = .ok true w :=
 eq_of w fun d => by
  by_cases h : n = 0 <;> simp [Op.equalIn, run_underlying hu, hs w, sameAddr, h, Result.andThen]
end Go.Proofs.YthkajgkagnenbaaGreatDoor.Eng
end
