import Derived.Test.YtgijnebgchkenaaGreatDoorRefill
import Derived.Test.YtgijnebgchkenaaGreatDoorGrowA
import Derived.Test.YtgijnebgchkenaaGreatDoorRow11
section
/- larderlaw09's worlds: what holds of a table behind a life's touches; a table filled anew. No program's code. -/
set_option linter.unusedVariables false
set_option linter.unusedSimpArgs false
set_option maxRecDepth 100000
namespace Go.Proofs.YtgijnebgchkenaaGreatDoor.Grow
open Go.RowKit Go.Proofs Go.Proofs.YtgijnebgchkenaaGreatDoor.Eng Go.Proofs.YtgijnebgchkenaaGreatDoor.Ty Go.Proofs.YtgijnebgchkenaaGreatDoor.Bits Go.Proofs.YtgijnebgchkenaaGreatDoor.Mem Go.Proofs.YtgijnebgchkenaaGreatDoor.Search Go.Proofs.YtgijnebgchkenaaGreatDoor.Arena Go.Proofs.YtgijnebgchkenaaGreatDoor.CtrlB Go.Proofs.YtgijnebgchkenaaGreatDoor.Ctrl Go.Proofs.YtgijnebgchkenaaGreatDoor.Layout Go.Proofs.YtgijnebgchkenaaGreatDoor.GroupB Go.Proofs.YtgijnebgchkenaaGreatDoor.Group Go.Proofs.YtgijnebgchkenaaGreatDoor.Probe Go.Proofs.YtgijnebgchkenaaGreatDoor.TableB Go.Proofs.YtgijnebgchkenaaGreatDoor.TableI Go.Proofs.YtgijnebgchkenaaGreatDoor.Table Go.Proofs.YtgijnebgchkenaaGreatDoor.Bench Go.Proofs.YtgijnebgchkenaaGreatDoor.Cells Go.Proofs.YtgijnebgchkenaaGreatDoor.Refill Go.Proofs.YtgijnebgchkenaaGreatDoor.Oracle Go.Proofs.YtgijnebgchkenaaGreatDoor.Ref03

/-- The layout of these laws: 1, 1, 1, 1, 64. -/
def l64 : Lay := ⟨1, 1, 1, 1, 64⟩
theorem l64_ok : l64.err = 0 := by kernel_rfl
/-- What holds of the table behind any touches. -/
structure LT (n : Nat) (H : ByteArray → Int) (T : Tb) : Prop where
  cnt : TCnt n T
  key : TKey n H T.cells
  let' : ∀ p, p < 8 * n → isFull (T.cells p) = true → isLetter (T.cells p).keyS
theorem LT.new {n : Nat} (hn : 0 < n) (H : ByteArray → Int) (d : Int) : LT n H (newT n d) := by
  have hb := bi_new hn H (fun _ => True) (T := newT n d) rfl rfl rfl
  exact ⟨hb.cnt, hb.key, fun p _ h => by cases h⟩
section
variable {n : Nat} {H : ByteArray → Int} {T T' : Tb} {key elem : ByteArray} {birth out : Int}
theorem LT.put (h : LT n H T) (hk : isLetter key) (hr : PutR n T (H key) key elem birth (out, T')) : LT n H T' ∧ 1 ≤ out ∧ out ≤ 3 := by
  refine ⟨⟨TCnt.put h.cnt hr, TKey.put h.key hr, fun p hp hf => ?_⟩, ?_⟩
  · cases hr with
    | old q e0 b0 hq hs hc =>
      by_cases e : p = q
      · subst e; dsimp only; rw [updC_same]; exact hk
      · dsimp only at hf ⊢; rw [updC_ne _ e] at hf ⊢; exact h.let' p hp hf
    | no hs hq => exact h.let' p hp hf
    | new j i hj hi hs hv hf2 hl =>
      by_cases e : p = 8 * gk (H key / 128) n j + i
      · subst e; dsimp only; rw [updC_same]; exact hk
      · dsimp only at hf ⊢; rw [updC_ne _ e] at hf ⊢; exact h.let' p hp hf
  · cases hr <;> decide
theorem LT.del {b : Bool} (h : LT n H T) (hr : DelR n T (H key) key (b, T')) : LT n H T' ∧ b = decide (0 ≤ (searchR (H key / 128) n T.cells (H key % 128) key).slot) := by
  refine ⟨⟨TCnt.del h.cnt hr, TKey.del h.key hr, fun p hp hf => ?_⟩, ?_⟩
  · cases hr with
    | no hs => exact h.let' p hp hf
    | passed q e0 b0 hq hs hc hno =>
      by_cases e : p = q
      · subst e; dsimp only at hf; rw [updC_same] at hf; cases hf
      · dsimp only at hf ⊢; rw [updC_ne _ e] at hf ⊢; exact h.let' p hp hf
    | free q r e0 b0 hq hs hc hqr he =>
      by_cases e : p = q
      · subst e; dsimp only at hf; rw [updC_same] at hf; cases hf
      · dsimp only at hf ⊢; rw [updC_ne _ e] at hf ⊢; exact h.let' p hp hf
  · cases hr with
    | no hs => rw [decide_eq_false (by omega)]
    | passed q e0 b0 hq hs hc hno => rw [decide_eq_true (by omega)]
    | free q r e0 b0 hq hs hc hqr he => rw [decide_eq_true (by omega)]
/-- Each key once. -/
theorem LT.once (h : LT n H T) : onceC T.cells (8 * n) := fun i j hi hj h1 h2 he => by
  obtain ⟨t1, e1⟩ := full_of (kind_full.1 h1)
  obtain ⟨t2, e2⟩ := full_of (kind_full.1 h2)
  rw [← he] at e2
  exact h.key.uniq i j hi hj _ _ _ _ _ _ _ e1 e2
/-- What Get tells: the key's cell, or none. -/
theorem LT.get (h : LT n H T) {i : Nat} (hi : i < 8 * n) (hf : isFull (T.cells i) = true) : getC n T (H (T.cells i).keyS) (T.cells i).keyS = .full (H (T.cells i).keyS % 128) (T.cells i).keyS (T.cells i).elemS (T.cells i).birthI := by
  obtain ⟨t, e⟩ := full_of hf
  obtain ⟨_, _, _, _, k, _, _, hs⟩ := find_there h.key hi e rfl
  have ht := h.key.tag i hi _ _ _ _ e
  unfold getC
  rw [hs]
  dsimp only
  rw [if_pos (by omega), Int.toNat_natCast, ← ht]
  exact e
theorem LT.get_no (h : LT n H T) (hn : 0 < n) {key : ByteArray} (hno : ∀ i, i < 8 * n → isFull (T.cells i) = true → (T.cells i).keyS ≠ key) : getC n T (H key) key = .empty := by
  have := (find_not (h := H key) (key := key) (cells := T.cells) hn fun i hi e b hc => hno i hi (by rw [hc]; rfl) (by rw [hc]; rfl)).1
  unfold getC
  rw [this, if_neg (by decide)]
/-- Is the key there? -/
theorem LT.has (h : LT n H T) (hn : 0 < n) (key : ByteArray) : (∃ i, i < 8 * n ∧ isFull (T.cells i) = true ∧ (T.cells i).keyS = key) ∨ (getC n T (H key) key = .empty ∧ ∀ i, i < 8 * n → isFull (T.cells i) = true → (T.cells i).keyS ≠ key) := by
  by_cases q : ∃ i, i < 8 * n ∧ isFull (T.cells i) = true ∧ (T.cells i).keyS = key
  · exact .inl q
  · have hno : ∀ i, i < 8 * n → isFull (T.cells i) = true → (T.cells i).keyS ≠ key := fun i h1 h2 h3 => q ⟨i, h1, h2, h3⟩
    exact .inr ⟨h.get_no hn hno, hno⟩
/-- A table filled with all the full cells answers as the old one. -/
theorem RF.same {N : Nat} {U : Tb} {lives : List Life} (h : LT n H T) (hn : 0 < n) (hR : RF H T.cells (8 * n) N U lives (cnt isFull T.cells (8 * n))) (key : ByteArray) : getC N U (H key) key = getC n T (H key) key := by
  rcases h.has hn key with ⟨i, h1, h2, rfl⟩ | ⟨h1, h2⟩
  · rw [h.get h1 h2]
    refine hR.get h1 h2 ?_
    have a := cnt_succ isFull T.cells i
    rw [if_pos h2] at a
    have := cnt_mono (p := isFull) (cs := T.cells) (show i + 1 ≤ 8 * n by omega)
    omega
  · rw [h1]
    exact hR.get_no (Nat.le_refl _) h2
end

/-! ### Worlds -/
/-- The groups of a table of that size. -/
def eOf (size : Int) : Nat := (size % 3).toNat + 1
def nOf (size : Int) : Nat := 2 ^ eOf size
theorem eOf_le (size : Int) : 1 ≤ eOf size ∧ eOf size ≤ 3 := by unfold eOf; omega
theorem nOf_le (size : Int) : 2 ≤ nOf size ∧ nOf size ≤ 8 := by
  have := eOf_le size
  unfold nOf
  have : eOf size = 1 ∨ eOf size = 2 ∨ eOf size = 3 := by omega
  rcases this with e | e | e <;> rw [e] <;> decide
theorem shl_size (size : Int) : IntKind.i64.wrap (16 * 2 ^ min (size % 3).toNat IntKind.i64.bits) = 8 * ((nOf size : Nat) : Int) := by
  have : (size % 3).toNat = 0 ∨ (size % 3).toNat = 1 ∨ (size % 3).toNat = 2 := by omega
  unfold nOf eOf
  rcases this with e | e | e <;> rw [e] <;> decide
/-- The overrides of a life. -/
def osOf (hs : List Int) : List (ByteArray × Int) := (List.range (min hs.length 62)).map fun i => (letter i, hs.getD i 0)
theorem osOf_len (hs : List Int) : (osOf hs).length = min hs.length 62 := by simp [osOf]
theorem osOf_get {hs : List Int} {i : Nat} (h1 : i < hs.length) (h2 : i < 62) : (osOf hs)[i]? = some (letter i, hs[i]) := by
  unfold osOf
  rw [List.getElem?_map, List.getElem?_range (by omega)]
  simp [h1]
theorem osOf_good (hs : List Int) : goodO (osOf hs) := by
  refine ⟨by rw [osOf_len]; omega, fun i o ho => ?_⟩
  have hi := (List.getElem?_eq_some_iff.1 ho).1
  rw [osOf_len] at hi
  rw [osOf_get (by omega) (by omega)] at ho
  cases ho
  refine ⟨by rw [letter_size (by omega)]; decide, by rw [letter_size (by omega)]; decide, fun j p hj hp e => ?_⟩
  rw [osOf_get (by omega) (by omega)] at hp
  cases hp
  have := letter_inj (by omega) (by omega) e
  omega
theorem osOf_ok {hs : List Int} (h : ∀ x ∈ hs, 0 ≤ x ∧ x < 18446744073709551616) : OverOk (mapO (osOf hs)) := mapO_ok fun o ho => by
  obtain ⟨i, hi⟩ := List.getElem?_of_mem ho
  have hil := (List.getElem?_eq_some_iff.1 hi).1
  rw [osOf_len] at hil
  rw [osOf_get (by omega) (by omega)] at hi
  cases hi
  exact h _ (List.getElem_mem _)
/-- A touch: its key's number, its birth, whether it is a delete. -/
def touchC (t : Int × Int × Bool) : List Value := [.int .i64 t.1, .int .i64 t.2.1, .bool t.2.2]
def touchWf (t : Int × Int × Bool) : Prop := (-9223372036854775808 ≤ t.1 ∧ t.1 ≤ 9223372036854775807) ∧ (-9223372036854775808 ≤ t.2.1 ∧ t.2.1 ≤ 9223372036854775807)
/-- A slice of touches that can be read in the piece A. -/
def TouchAt (A : HP) (v : Value) (ts : List (Int × Int × Bool)) : Prop := ∃ a cap, v = .slice a ts.length cap ∧ (0 < ts.length → ∃ b o, a = some ⟨b, o, none⟩ ∧ ∀ (i : Nat) t, ts[i]? = some t → ∀ (j : Nat) x, (touchC t)[j]? = some x → CellAt A ⟨b, o + i * 3 + j, none⟩ x)
theorem touch_cell {A : HP} {ts : List (Int × Int × Bool)} {b o i : Nat} {t : Int × Int × Bool} (h : ∀ (i : Nat) t, ts[i]? = some t → ∀ (j : Nat) x, (touchC t)[j]? = some x → CellAt A ⟨b, o + i * 3 + j, none⟩ x) (ht : ts[i]? = some t) :
    CellAt A ⟨b, o + (i : Int).toNat * 3 + 0, none⟩ (.int .i64 t.1) ∧ CellAt A ⟨b, o + (i : Int).toNat * 3 + 1, none⟩ (.int .i64 t.2.1) ∧ CellAt A ⟨b, o + (i : Int).toNat * 3 + 2, none⟩ (.bool t.2.2) := by
  rw [Int.toNat_natCast]
  exact ⟨h i t ht 0 _ rfl, h i t ht 1 _ rfl, h i t ht 2 _ rfl⟩
/-- What a life is made of. -/
structure LifeAt (A : HP) (seed size depth : Int) (vh vs : Value) (hs : List Int) (ts : List (Int × Int × Bool)) : Prop where
  seed : 0 ≤ seed ∧ seed < 18446744073709551616
  size : -9223372036854775808 ≤ size ∧ size ≤ 9223372036854775807
  depth : -9223372036854775808 ≤ depth ∧ depth ≤ 9223372036854775807
  hash : NumsAt .u64 A vh hs
  hashWf : ∀ x ∈ hs, 0 ≤ x ∧ x < 18446744073709551616
  step : TouchAt A vs ts
  stepWf : ∀ t ∈ ts, touchWf t
  hlen : hs.length ≤ 9223372036854775807
  slen : ts.length ≤ 9223372036854775807
/-- A world: a table of these laws in its arena. -/
structure WP (s : ArS) (off go n e : Nat) (H : ByteArray → Int) (T : Tb) : Prop where
  tab : TabP s off go l64 n e T
  lt : LT n H T
  hd : (((off : Nat) : Int), (64 : Int)) ∈ s.bl
  blk : (((go : Nat) : Int), classI ((n * gN l64 : Nat) : Int)) ∈ s.bl
theorem gN64 : gN l64 = 136 := by kernel_rfl
end Go.Proofs.YtgijnebgchkenaaGreatDoor.Grow
end
section
/- The arguments of larderlaw09's statements over lives, as facts on what lay there before. -/
set_option linter.unusedVariables false
set_option linter.unusedSimpArgs false
set_option maxRecDepth 100000
namespace Go.Proofs.YtgijnebgchkenaaGreatDoor.RowKit
open Go.ChangeShapes Go.WideShapes Go.ChangeAt Go.RowKit Go.Proofs Go.Proofs.YtgijnebgchkenaaGreatDoor.Eng Go.Proofs.YtgijnebgchkenaaGreatDoor.Ref03 Go.Proofs.YtgijnebgchkenaaGreatDoor.Ctrl Go.Proofs.YtgijnebgchkenaaGreatDoor.CtrlB Go.Proofs.YtgijnebgchkenaaGreatDoor.Grow

theorem arr5 {cs : Array Value} (h : cs.toList.length = 5) : ∃ a b c d e, cs = #[a, b, c, d, e] := by
  obtain ⟨l⟩ := cs
  match l, h with
  | [a, b, c, d, e], _ => exact ⟨a, b, c, d, e, rfl⟩
/-- A slice of touches among the arguments. -/
theorem touches_old {H : Type} {enc : TypeId × Value → H} {W : World} {base : Nat} {held : Bool} {fuel : Nat} {sp : Nat → Bool} {cs : List Value} {x : DataW H × List MemPlace}
    (h : DataW.trod enc Tryz.prog W base sp held fuel 70 cs = some x) : ∃ v ts, cs = [v] ∧ TouchAt (Eng.old W) v ts ∧ ts.length ≤ maxLen ∧ ∀ t ∈ ts, touchWf t := by
  obtain ⟨v, rows, rfl, hR, hm, hrow⟩ := rows_old (sz := 3) Tryz.underlying70 (by kernel_rfl) (by decide) h
  have c3 : Tryz.prog.cellsOf 3 = 1 := by kernel_rfl
  have c4 : Tryz.prog.cellsOf 4 = 1 := by kernel_rfl
  obtain ⟨ts, rfl, hw⟩ := rows_map (f := touchC) (Q := touchWf) rows fun r hr => by
    obtain ⟨m, y, hy⟩ := hrow r hr
    obtain ⟨xs, m', _, _, hcl, hxl, hfld⟩ := DataW.trod_struct Tryz.underlying158 hy
    have hx3 : xs.length = 3 := hxl
    have f0 : DataW.trod enc Tryz.prog W base sp held m' 3 ((r.drop 0).take (Tryz.prog.cellsOf 3)) = xs[0]? := hfld 0 _ rfl
    have f1 : DataW.trod enc Tryz.prog W base sp held m' 3 ((r.drop 1).take (Tryz.prog.cellsOf 3)) = xs[1]? := hfld 1 _ rfl
    have f2 : DataW.trod enc Tryz.prog W base sp held m' 4 ((r.drop 2).take (Tryz.prog.cellsOf 4)) = xs[2]? := hfld 2 _ rfl
    rw [c3, List.getElem?_eq_getElem (by omega)] at f0 f1
    rw [c4, List.getElem?_eq_getElem (by omega)] at f2
    obtain ⟨z0, e0, _, w0⟩ := DataW.trod_int Tryz.underlying3 f0
    obtain ⟨z1, e1, _, w1⟩ := DataW.trod_int Tryz.underlying3 f1
    obtain ⟨z2, e2, _⟩ := DataW.trod_bool Tryz.underlying4 f2
    have hl3 : r.length = 3 := hcl.trans (by kernel_rfl)
    match r, hl3 with
    | [a, b, c], _ =>
      refine ⟨(z0, z1, z2), ?_, wf_i64 w0, wf_i64 w1⟩
      simp at e0 e1 e2
      rw [e0, e1, e2]; rfl
  obtain ⟨a, cap, rfl, hA, _⟩ := hR
  refine ⟨_, ts, rfl, ⟨a, cap, by rw [List.length_map], fun q => ?_⟩, by simpa using hm, hw⟩
  obtain ⟨b, o, rfl, hA1⟩ := hA (by simpa using q)
  exact ⟨b, o, rfl, fun i t ht j x hx => hA1 i (touchC t) (by rw [List.getElem?_map, ht]; rfl) j x hx⟩
/-- A life among the arguments. -/
theorem life_old {H : Type} {enc : TypeId × Value → H} {W : World} {base : Nat} {held : Bool} {fuel : Nat} {sp : Nat → Bool} {cs : Array Value} {x : DataW H × List MemPlace} (hcs : cs.toList.length = Tryz.prog.cellsOf 72) (hsp : sp = fun _ => true)
    (h : DataW.trod enc Tryz.prog W base sp held fuel 72 cs.toList = some x) : ∃ seed size depth vh vs hs ts, cs = #[.int .u64 seed, .int .i64 size, .int .i64 depth, vh, vs] ∧ LifeAt (Eng.old W) seed size depth vh vs hs ts := by
  subst hsp
  have c25 : Tryz.prog.cellsOf 72 = 5 := by kernel_rfl
  have c3 : Tryz.prog.cellsOf 3 = 1 := by kernel_rfl
  have c56 : Tryz.prog.cellsOf 23 = 1 := by kernel_rfl
  have c23 : Tryz.prog.cellsOf 52 = 1 := by kernel_rfl
  have c57 : Tryz.prog.cellsOf 70 = 1 := by kernel_rfl
  obtain ⟨a, b, c, d, e, rfl⟩ := arr5 (cs := cs) (by rw [hcs, c25])
  obtain ⟨xs, m, _, _, _, hxl, hfld⟩ := DataW.trod_struct Tryz.underlying72 h
  have hx5 : xs.length = 5 := hxl
  have f0 : DataW.trod enc Tryz.prog W base (fun _ => true) held m 52 (((#[a, b, c, d, e] : Array Value).toList.drop 0).take (Tryz.prog.cellsOf 52)) = xs[0]? := hfld 0 _ rfl
  rw [c23, List.getElem?_eq_getElem (by omega)] at f0
  have f1 : DataW.trod enc Tryz.prog W base (fun _ => true) held m 3 (((#[a, b, c, d, e] : Array Value).toList.drop 1).take (Tryz.prog.cellsOf 3)) = xs[1]? := hfld 1 _ rfl
  rw [c3, List.getElem?_eq_getElem (by omega)] at f1
  have f2 : DataW.trod enc Tryz.prog W base (fun _ => true) held m 3 (((#[a, b, c, d, e] : Array Value).toList.drop 2).take (Tryz.prog.cellsOf 3)) = xs[2]? := hfld 2 _ rfl
  rw [c3, List.getElem?_eq_getElem (by omega)] at f2
  have f3 : DataW.trod enc Tryz.prog W base (fun _ => true) held m 23 (((#[a, b, c, d, e] : Array Value).toList.drop 3).take (Tryz.prog.cellsOf 23)) = xs[3]? := hfld 3 _ rfl
  rw [c56, List.getElem?_eq_getElem (by omega)] at f3
  have f4 : DataW.trod enc Tryz.prog W base (fun _ => true) held m 70 (((#[a, b, c, d, e] : Array Value).toList.drop 4).take (Tryz.prog.cellsOf 70)) = xs[4]? := hfld 4 _ rfl
  rw [c57, List.getElem?_eq_getElem (by omega)] at f4
  obtain ⟨z0, e0, _, w0⟩ := DataW.trod_int Tryz.underlying52 f0
  obtain ⟨z1, e1, _, w1⟩ := DataW.trod_int Tryz.underlying3 f1
  obtain ⟨z2, e2, _, w2⟩ := DataW.trod_int Tryz.underlying3 f2
  obtain ⟨vh, hs, e3, hhs, hwf, hmx⟩ := nums_old Tryz.underlying23 Tryz.underlying52 c23 f3
  obtain ⟨vt, ts, e4, hts, hmt, htw⟩ := touches_old f4
  obtain rfl : a = .int .u64 z0 := by simpa using e0
  obtain rfl : b = .int .i64 z1 := by simpa using e1
  obtain rfl : c = .int .i64 z2 := by simpa using e2
  obtain rfl : d = vh := by simpa using e3
  obtain rfl : e = vt := by simpa using e4
  exact ⟨z0, z1, z2, d, e, hs, ts, rfl, wf_u64 w0, wf_i64 w1, wf_i64 w2, hhs, fun x hx => wf_u64 (hwf x hx), hts, htw, by simpa [maxLen] using hmx, by simpa [maxLen] using hmt⟩
end Go.Proofs.YtgijnebgchkenaaGreatDoor.RowKit
end
section
/- A table's cells parted by a bit of their hashes; tables filled with either part. No program's code. -/
set_option linter.unusedVariables false
set_option linter.unusedSimpArgs false
set_option maxRecDepth 100000
namespace Go.Proofs.YtgijnebgchkenaaGreatDoor.Grow
open Go.RowKit Go.Proofs Go.Proofs.YtgijnebgchkenaaGreatDoor.Eng Go.Proofs.YtgijnebgchkenaaGreatDoor.Ty Go.Proofs.YtgijnebgchkenaaGreatDoor.Bits Go.Proofs.YtgijnebgchkenaaGreatDoor.Mem Go.Proofs.YtgijnebgchkenaaGreatDoor.Search Go.Proofs.YtgijnebgchkenaaGreatDoor.Arena Go.Proofs.YtgijnebgchkenaaGreatDoor.CtrlB Go.Proofs.YtgijnebgchkenaaGreatDoor.Ctrl Go.Proofs.YtgijnebgchkenaaGreatDoor.Layout Go.Proofs.YtgijnebgchkenaaGreatDoor.GroupB Go.Proofs.YtgijnebgchkenaaGreatDoor.Group Go.Proofs.YtgijnebgchkenaaGreatDoor.Probe Go.Proofs.YtgijnebgchkenaaGreatDoor.TableB Go.Proofs.YtgijnebgchkenaaGreatDoor.TableI Go.Proofs.YtgijnebgchkenaaGreatDoor.Table Go.Proofs.YtgijnebgchkenaaGreatDoor.Bench Go.Proofs.YtgijnebgchkenaaGreatDoor.Cells Go.Proofs.YtgijnebgchkenaaGreatDoor.Refill Go.Proofs.YtgijnebgchkenaaGreatDoor.Oracle Go.Proofs.YtgijnebgchkenaaGreatDoor.Ref03

/-- The bit of a hash behind its top d bits. -/
def bitF (h d : Int) : Int := h / 2 ^ (63 - d).toNat % 2
theorem bitF_two (h d : Int) : bitF h d = 0 ∨ bitF h d = 1 := by
  unfold bitF
  omega
/-- The full cells whose keys' hashes have that bit. -/
def side (H : ByteArray → Int) (d : Int) (cs : Nat → Cell) (b : Int) (i : Nat) : Cell := if isFull (cs i) = true ∧ bitF (H (cs i).keyS) d = b then cs i else .empty
section
variable {H : ByteArray → Int} {d d0 b : Int} {cs : Nat → Cell} {n N i j : Nat} {U : Tb} {lives : List Life}
theorem side_full (h : isFull (side H d cs b i) = true) : isFull (cs i) = true ∧ bitF (H (cs i).keyS) d = b ∧ side H d cs b i = cs i := by
  unfold side at h ⊢
  split at h
  · next q => exact ⟨q.1, q.2, by rw [if_pos q]⟩
  · cases h
theorem side_at (h1 : isFull (cs i) = true) (h2 : bitF (H (cs i).keyS) d = b) : side H d cs b i = cs i := if_pos ⟨h1, h2⟩
theorem side_no (h2 : bitF (H (cs i).keyS) d ≠ b) : side H d cs b i = .empty := if_neg fun q => h2 q.2
theorem side_once (h : onceC cs N) : onceC (side H d cs b) N := fun i j hi hj h1 h2 he => by
  obtain ⟨a1, _, a3⟩ := side_full (kind_full.1 h1)
  obtain ⟨b1, _, b3⟩ := side_full (kind_full.1 h2)
  rw [a3, b3] at he
  exact h i j hi hj (kind_full.2 a1) (kind_full.2 b1) he
theorem side_cnt : ∀ N, cnt isFull (side H d cs 0) N + cnt isFull (side H d cs 1) N = cnt isFull cs N
  | 0 => rfl
  | N + 1 => by
    have ih := side_cnt N
    rw [cnt_succ, cnt_succ, cnt_succ]
    by_cases hf : isFull (cs N) = true
    · rcases bitF_two (H (cs N).keyS) d with e | e
      · rw [side_at hf e, side_no (b := 1) (by omega), if_pos hf, show isFull Cell.empty = false from rfl]; simp; omega
      · rw [side_at hf e, side_no (b := 0) (by omega), if_pos hf, show isFull Cell.empty = false from rfl]; simp; omega
    · have g : ∀ b, isFull (side H d cs b N) = false := fun b => by
        cases q : isFull (side H d cs b N) with
        | false => rfl
        | true => exact absurd (side_full q).1 hf
      rw [g, g, if_neg hf]; simp; omega
/-- No full cell between two places of one count. -/
theorem cnt_gap {p : Cell → Bool} (hjk : j ≤ N) (h : cnt p cs N = cnt p cs j) (h1 : j ≤ i) (h2 : i < N) : p (cs i) = false := by
  cases q : p (cs i) with
  | false => rfl
  | true =>
    have a := cnt_succ p cs i
    rw [if_pos q] at a
    have b1 := cnt_mono (p := p) (cs := cs) (show j ≤ i from h1)
    have b2 := cnt_mono (p := p) (cs := cs) (show i + 1 ≤ N from h2)
    omega
/-- A table filled with a row's full cells up to a place. -/
def fillT (n : Nat) (H : ByteArray → Int) (cs : Nat → Cell) (d0 : Int) : Nat → Tb
  | 0 => newT n d0
  | i + 1 => if isFull (cs i) = true then (putT n (fillT n H cs d0 i) (H (cs i).keyS) (cs i).keyS (cs i).elemS (cs i).birthI).2 else fillT n H cs d0 i
theorem fill_skip (h : ∀ i, j ≤ i → i < N → isFull (cs i) = false) : j ≤ N → fillT n H cs d0 N = fillT n H cs d0 j := by
  intro hj
  induction N with
  | zero => obtain rfl : j = 0 := by omega
            rfl
  | succ N ih =>
    by_cases e : j = N + 1
    · rw [e]
    · show (if isFull (cs N) = true then _ else _) = _
      rw [h N (by omega) (by omega), if_neg (by simp)]
      exact ih (fun i h1 h2 => h i h1 (by omega)) (by omega)
/-- The table U holds the full cells of that bit ahead of place j. -/
structure SS (H : ByteArray → Int) (d d0 : Int) (cs : Nat → Cell) (N n : Nat) (b : Int) (U : Tb) (lives : List Life) (j : Nat) : Prop where
  rf : RF H (side H d cs b) N n U lives (cnt isFull (side H d cs b) j)
  fill : U = fillT n H (side H d cs b) d0 j
  keeps : Keeps (newT n d0) U
theorem SS.new (hn : 0 < n) : SS H d d0 cs N n b (newT n d0) [] 0 := ⟨RF.new hn d0, rfl, Keeps.refl _⟩
theorem SS.to (h : SS H d d0 cs N n b U lives j) {k : Nat} (hjk : j ≤ k) (hc : cnt isFull cs k = cnt isFull cs j) : SS H d d0 cs N n b U lives k := by
  have hno : ∀ i, j ≤ i → i < k → isFull (side H d cs b i) = false := fun i h1 h2 => by
    cases q : isFull (side H d cs b i) with
    | false => rfl
    | true => have := (side_full q).1; rw [cnt_gap hjk hc h1 h2] at this; cases this
  have e : ∀ k, j ≤ k → (∀ i, j ≤ i → i < k → isFull (side H d cs b i) = false) → cnt isFull (side H d cs b) k = cnt isFull (side H d cs b) j := fun k => by
    induction k with
    | zero => intro h1 _; obtain rfl : j = 0 := by omega
              rfl
    | succ k ih =>
      intro h1 h2
      by_cases q : j = k + 1
      · rw [q]
      · rw [cnt_succ, h2 k (by omega) (by omega), ih (by omega) fun i a b => h2 i a (by omega)]; rfl
  exact ⟨by rw [e k hjk hno]; exact h.rf, by rw [fill_skip hno hjk]; exact h.fill, h.keeps⟩
theorem cnt_le_at {p : Cell → Bool} (h : cnt p cs j = cnt p cs i) (hf : p (cs i) = true) : j ≤ i := by
  rcases Nat.lt_or_ge i j with q | q
  · have a := cnt_succ p cs i
    rw [if_pos hf] at a
    have := cnt_mono (p := p) (cs := cs) (show i + 1 ≤ j from q)
    omega
  · exact q
theorem SS.put (h : SS H d d0 cs N n b U lives j) (hj : cnt isFull cs j = cnt isFull cs i) (hi : i < N) (hf : isFull (cs i) = true) (hb : bitF (H (cs i).keyS) d = b) (hroom : cnt isFull (side H d cs b) N ≤ 7 * n) (ho : onceC cs N) {e : Nat} (hn : n = 2 ^ e) :
    ∃ v, SS H d d0 cs N n b (putT n U (H (cs i).keyS) (cs i).keyS (cs i).elemS (cs i).birthI).2 (lives ++ [v]) (i + 1) := by
  have h2 := h.to (cnt_le_at hj hf) hj.symm
  have hs := side_at (H := H) hf hb
  have hfs : isFull (side H d cs b i) = true := by rw [hs]; exact hf
  have hsu := cnt_succ isFull (side H d cs b) i
  rw [if_pos hfs] at hsu
  have hmo := cnt_mono (p := isFull) (cs := side H d cs b) (show i + 1 ≤ N from hi)
  have hpr := putR (T := U) (h := H (cs i).keyS) (key := (cs i).keyS) (by rw [hn]; exact Nat.two_pow_pos e) (fun g hg => gk_onto hn hg) (cs i).elemS (cs i).birthI
  obtain ⟨_, v, h3⟩ := h2.rf.put (out := (putT n U (H (cs i).keyS) (cs i).keyS (cs i).elemS (cs i).birthI).1) (U' := (putT n U (H (cs i).keyS) (cs i).keyS (cs i).elemS (cs i).birthI).2) (side_once ho) hi hfs rfl (by omega) (by rw [hs]; exact hpr)
  refine ⟨v, by rw [hsu]; exact h3, ?_, h2.keeps.trans (keeps_put hpr)⟩
  show _ = if isFull (side H d cs b i) = true then _ else _
  rw [if_pos hfs, hs, ← h2.fill]
theorem SS.pass (h : SS H d d0 cs N n b U lives j) (hj : cnt isFull cs j = cnt isFull cs i) (hf : isFull (cs i) = true) (hb : bitF (H (cs i).keyS) d ≠ b) : SS H d d0 cs N n b U lives (i + 1) := by
  have h2 := h.to (cnt_le_at hj hf) hj.symm
  have hs := side_no hb
  have hsu := cnt_succ isFull (side H d cs b) i
  rw [hs, show isFull Cell.empty = false from rfl] at hsu
  refine ⟨by rw [hsu]; exact h2.rf, ?_, h2.keeps⟩
  show _ = if isFull (side H d cs b i) = true then _ else _
  rw [hs, show isFull Cell.empty = false from rfl, if_neg (by simp)]
  exact h2.fill
end
end Go.Proofs.YtgijnebgchkenaaGreatDoor.Grow
end
