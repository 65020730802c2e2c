import Derived.Test.YtgijnebgchkenaaGreatDoorTableG
import Derived.Test.YtgijnebgchkenaaGreatDoorTableN
import Derived.Test.YtgijnebgchkenaaGreatDoorOver
import Derived.KernelRfl
import Derived.Test.YtgijnebgchkenaaGreatDoorRefill
section
/- Contracts of larderlaw09: keys and births; of arena.Size, table.Off, Arena and Layout. -/
set_option linter.unusedVariables false
set_option linter.unusedSimpArgs false
set_option maxRecDepth 100000
namespace Go.Proofs.YtgijnebgchkenaaGreatDoor.Grow
open Go.RowKit Go.Proofs Go.Proofs.YtgijnebgchkenaaGreatDoor.Eng Go.Proofs.YtgijnebgchkenaaGreatDoor.Ty Go.Proofs.YtgijnebgchkenaaGreatDoor.Bits Go.Proofs.YtgijnebgchkenaaGreatDoor.Mem Go.Proofs.YtgijnebgchkenaaGreatDoor.Search Go.Proofs.YtgijnebgchkenaaGreatDoor.Arena Go.Proofs.YtgijnebgchkenaaGreatDoor.CtrlB Go.Proofs.YtgijnebgchkenaaGreatDoor.Ctrl Go.Proofs.YtgijnebgchkenaaGreatDoor.Layout Go.Proofs.YtgijnebgchkenaaGreatDoor.GroupB Go.Proofs.YtgijnebgchkenaaGreatDoor.Group Go.Proofs.YtgijnebgchkenaaGreatDoor.TableB Go.Proofs.YtgijnebgchkenaaGreatDoor.TableI Go.Proofs.YtgijnebgchkenaaGreatDoor.Table Go.Proofs.YtgijnebgchkenaaGreatDoor.Oracle


/-! ### Letters -/
def letters : ByteArray := ⟨#[48, 49, 50, 51, 52, 53, 54, 55, 56, 57, 97, 98, 99, 100, 101, 102, 103, 104, 105, 106, 107, 108, 109, 110, 111, 112, 113, 114, 115, 116, 117, 118, 119, 120, 121, 122, 65, 66, 67, 68, 69, 70, 71, 72, 73, 74, 75, 76, 77, 78, 79, 80, 81, 82, 83, 84, 85, 86, 87, 88, 89, 90]⟩
def letter (i : Nat) : ByteArray := letters.extract i (i + 1)
theorem letters_all : ((List.range 62).all fun i => (letter i).size == 1 && (List.range 62).all fun j => i == j || !((letter i).data == (letter j).data)) = true := by kernel_rfl
theorem letter_size {i : Nat} (h : i < 62) : (letter i).size = 1 := by
  have := List.all_eq_true.1 letters_all i (List.mem_range.2 h)
  simp only [Bool.and_eq_true, beq_iff_eq] at this
  exact this.1
theorem letter_inj {i j : Nat} (hi : i < 62) (hj : j < 62) (h : letter i = letter j) : i = j := by
  have := List.all_eq_true.1 letters_all i (List.mem_range.2 hi)
  rw [Bool.and_eq_true] at this
  have := List.all_eq_true.1 this.2 j (List.mem_range.2 hj)
  rw [h] at this
  simpa using this
/-- A key of these laws. -/
def isLetter (key : ByteArray) : Prop := ∃ i, i < 62 ∧ key = letter i

theorem mod_ok (n m : Int) (hn : -9223372036854775808 ≤ n ∧ n ≤ 9223372036854775807) (hm : 0 < m ∧ m ≤ 1000) : FnOk Tryz.prog 30 #[.int .i64 n, .int .i64 m] [] (fun v L => v = .int .i64 (n % m) ∧ L = []) := by
  have h1 := Int.emod_nonneg n (show m ≠ 0 by omega)
  have h2 := Int.emod_lt_of_pos n hm.1
  have h3 := Int.tmod_eq_emod (a := n) (b := m)
  have h4 : n.tmod m = n % m ∨ n.tmod m = n % m - m := by split at h3 <;> omega
  have hm0 : m ≠ 0 := by omega
  refine fn_intro en30 Tryz.func30 rfl rfl rfl fun Fr w0 => t_nm ?_
  refine sr <| asg rfl rfl <| lz <| mv rfl rfl <| mv rfl rfl <| l_q rfl (qrem rfl rfl) ?_
  refine asg rfl rfl <| lc <| t_seq <| sr <| mv rfl rfl <| l_q rfl (qi rfl rfl (b_lss ·)) <| lc <| t_if rfl (fun z => ?_) fun z => ?_
  · refine t_region <| mv rfl rfl <| mv rfl rfl <| l_q rfl (qadd rfl rfl) ?_
    refine asg rfl rfl <| lz <| mv rfl rfl <| asg rfl rfl <| lc <| rt <| fr1 rfl ([]) (.tmp rfl) ?_
    exact ⟨by congr 1; omega, rfl⟩
  · refine t_skip <| nz <| mv rfl rfl <| asg rfl rfl <| lc <| rt <| fr1 rfl ([]) (.tmp rfl) ?_
    exact ⟨by congr 1; omega, rfl⟩

theorem key_ok (n : Int) (hn : -9223372036854775808 ≤ n ∧ n ≤ 9223372036854775807) : FnOk Tryz.prog 79 #[.int .i64 n] [] (fun v L => v = .string (letter (n % 62).toNat) ∧ L = []) := by
  have h1 := Int.emod_nonneg n (show (62 : Int) ≠ 0 by omega)
  have h2 := Int.emod_lt_of_pos n (show (0 : Int) < 62 by omega)
  refine fn_intro en79 Tryz.func79 rfl rfl rfl fun Fr w0 => t_nm ?_
  refine sr <| asg rfl rfl <| lz <| mv rfl rfl <| lc1 rfl rfl rfl (mod_ok _ _ hn (by decide)) ?_
  refine asg rfl rfl <| lz <| mv rfl rfl <| mv rfl rfl <| l_q rfl (qadd rfl rfl) ?_
  apply l_q rfl
  · refine QV.to (v' := .string (letter (n % 62).toNat)) (q_sliceS_lh (s := letters) rfl rfl rfl Tryz.underlying9 ⟨by omega, by omega, by show _ ≤ (62 : Int); omega⟩) (by rw [show (n % 62 + 1).toNat = (n % 62).toNat + 1 by omega]; rfl)
  exact asg rfl rfl <| lc <| rt <| fr1 rfl ([]) (.tmp rfl) ⟨rfl, rfl⟩

/-- The birth of a number. -/
def birthI (n : Int) : Int := if n < 0 then -(n + 1) else n
theorem birth_bnd {n : Int} (hn : -9223372036854775808 ≤ n ∧ n ≤ 9223372036854775807) : 0 ≤ birthI n ∧ birthI n < 9223372036854775808 := by unfold birthI; split <;> omega
theorem birth_ok (n : Int) (hn : -9223372036854775808 ≤ n ∧ n ≤ 9223372036854775807) : FnOk Tryz.prog 80 #[.int .i64 n] [] (fun v L => v = .int .i64 (birthI n) ∧ L = []) := by
  refine fn_intro en80 Tryz.func80 rfl rfl rfl fun Fr w0 => t_nm ?_
  refine sr <| asg rfl rfl <| lc <| t_seq <| sr <| mv rfl rfl <| l_q rfl (qi rfl rfl (b_lss ·)) <| lc <| t_if rfl (fun z => ?_) fun z => ?_
  · refine sr <| mv rfl rfl <| l_q rfl (qadd rfl rfl) ?_
    refine l_q rfl (q_un rfl (u_neg ·)) <| asg rfl rfl <| lc <| rt <| fr1 rfl ([]) (.tmp rfl) ?_
    exact ⟨by unfold birthI; rw [if_pos z, wrap_i64 (by omega)]; congr 1; omega, rfl⟩
  · refine t_skip <| nz <| mv rfl rfl <| asg rfl rfl <| lc <| rt <| fr1 rfl ([]) (.tmp rfl) ?_
    exact ⟨by unfold birthI; rw [if_neg z], rfl⟩

/-! ### The arena's and the table's small ones -/
theorem Size_ok (pa : Nat) (s : ArS) (off c : Int) (hm : (off, c) ∈ s.bl) : FnOk Tryz.prog 81 #[.pointer (some ⟨pa, 0, none⟩), .int .i64 off] [arenaH pa s] (fun v L => v = .tuple #[.int .i64 c, .int .i64 0] ∧ L = [arenaH pa s]) := by
  refine fn_intro en81 Tryz.func81 rfl rfl rfl fun Fr w0 => t_nm ?_
  refine arena_open fun x hx => ?_
  refine t_norm fun M hM => ?_
  simp only [List.cons_append, List.nil_append] at hM
  subst M
  obtain ⟨hb1, hb2, hlk⟩ := chain_lk hx.1.chain hm
  refine sr <| asg rfl rfl <| asg rfl rfl <| lz <| mv rfl rfl <| l_q rfl (q_nilCheck rfl) <| l_q rfl (qfa 5 rfl yU128 rfl rfl yS125) <| l_q rfl (qld rfl yA125) ?_
  refine mv rfl rfl ?_
  apply l_q rfl
  · refine QV.to (v' := .tuple #[.int .i64 c, .bool true]) (q_lookup2 keyInt rfl rfl Tryz.underlying125 Tryz.underlying3 yZ3 (by exact tk)) (by rw [hlk]; rfl)
  refine mv rfl rfl <| l_q rfl (q_extractL rfl ga) ?_
  refine l_q rfl (q_extractL rfl ga) ?_
  refine asg rfl rfl <| asg rfl rfl <| lc <| t_seq <| sr <| mv rfl rfl <| l_q rfl (q_un rfl (u_not ·)) <| lc <| t_if rfl (fun z => ?_) fun z => ?_
  · cases z
  · refine t_skip <| nz <| mv rfl rfl <| asg rfl rfl <| asg rfl rfl <| lc <| rt ?_
    apply f_ret (.inl rfl) ([arenaH pa s])
    · apply res2 rfl
      · exact .tmp rfl
      · exact .tmp rfl
    · exact ⟨rfl, rfl⟩
    · refine arena_close hx ?_; dsimp only [arP]; (exact en)
theorem TOff_ok (pa : Nat) (l : Lay) (off : Int) : FnOk Tryz.prog 12 #[.agg #[.pointer (some ⟨pa, 0, none⟩), .int .i64 l.key, .int .i64 l.elem, .int .i64 l.ka, .int .i64 l.ea, .int .i64 l.cap, .int .i64 l.eo, .int .i64 l.bo, .int .i64 l.slot, .int .i64 l.group, .int .i64 off]] [] (fun v L => v = .int .i64 off ∧ L = []) := by
  refine fn_intro en12 Tryz.func12 rfl rfl rfl fun Fr w0 => t_nm ?_
  refine sr <| o_boxA rfl rfl fun b1 => asg rfl rfl <| lz <| l_q rfl (qfa 10 rfl yU34 rfl rfl yS3) <| l_q rfl (qld rfl yA3) ?_
  exact asg rfl rfl <| lc <| rt <| fr1 rfl ([]) (.tmp rfl) ⟨rfl, rfl⟩
theorem TArena_ok (pa : Nat) (l : Lay) (off : Int) : FnOk Tryz.prog 77 #[.agg #[.pointer (some ⟨pa, 0, none⟩), .int .i64 l.key, .int .i64 l.elem, .int .i64 l.ka, .int .i64 l.ea, .int .i64 l.cap, .int .i64 l.eo, .int .i64 l.bo, .int .i64 l.slot, .int .i64 l.group, .int .i64 off]] [] (fun v L => v = .pointer (some ⟨pa, 0, none⟩) ∧ L = []) := by
  refine fn_intro en77 Tryz.func77 rfl rfl rfl fun Fr w0 => t_nm ?_
  refine sr <| o_boxA rfl rfl fun b1 => asg rfl rfl <| lz <| l_q rfl (qfa 0 rfl yU34 rfl rfl yS30) <| l_q rfl (qld rfl yA30) ?_
  exact asg rfl rfl <| lc <| rt <| fr1 rfl ([]) (.tmp rfl) ⟨rfl, rfl⟩
theorem TLayout_ok (pa : Nat) (l : Lay) (off : Int) : FnOk Tryz.prog 34 #[.agg #[.pointer (some ⟨pa, 0, none⟩), .int .i64 l.key, .int .i64 l.elem, .int .i64 l.ka, .int .i64 l.ea, .int .i64 l.cap, .int .i64 l.eo, .int .i64 l.bo, .int .i64 l.slot, .int .i64 l.group, .int .i64 off]] [] (fun v L => v = .agg l.cells ∧ L = []) := by
  refine fn_intro en34 Tryz.func34 rfl rfl rfl fun Fr w0 => t_nm ?_
  refine sr <| o_boxA rfl rfl fun b1 => o_allocA rfl yZ32 fun b2 => lz <| l_q rfl (qfa 1 rfl yU34 rfl rfl yS32) <| l_q rfl (qlda rfl yA32 yS32) ?_
  refine sta rfl rfl rfl yS32 rfl rfl ?_
  refine lc <| rt ?_
  apply f_ret (.inl rfl) ([])
  · apply res1 rfl
    · apply Rv.agg rfl
      · exact tk
      · exact run_loadAll yA32 yS32 rfl
  · exact ⟨rfl, rfl⟩
  · exact en
end Go.Proofs.YtgijnebgchkenaaGreatDoor.Grow
end
section
/- larderlaw09's worlds: what holds of a table behind a life's touches; a table filled anew. No program's code. -/
set_option linter.unusedVariables false
set_option linter.unusedSimpArgs false
set_option maxRecDepth 100000
namespace Go.Proofs.YtgijnebgchkenaaGreatDoor.Grow
open Go.RowKit Go.Proofs Go.Proofs.YtgijnebgchkenaaGreatDoor.Eng Go.Proofs.YtgijnebgchkenaaGreatDoor.Ty Go.Proofs.YtgijnebgchkenaaGreatDoor.Bits Go.Proofs.YtgijnebgchkenaaGreatDoor.Mem Go.Proofs.YtgijnebgchkenaaGreatDoor.Search Go.Proofs.YtgijnebgchkenaaGreatDoor.Arena Go.Proofs.YtgijnebgchkenaaGreatDoor.CtrlB Go.Proofs.YtgijnebgchkenaaGreatDoor.Ctrl Go.Proofs.YtgijnebgchkenaaGreatDoor.Layout Go.Proofs.YtgijnebgchkenaaGreatDoor.GroupB Go.Proofs.YtgijnebgchkenaaGreatDoor.Group Go.Proofs.YtgijnebgchkenaaGreatDoor.Probe Go.Proofs.YtgijnebgchkenaaGreatDoor.TableB Go.Proofs.YtgijnebgchkenaaGreatDoor.TableI Go.Proofs.YtgijnebgchkenaaGreatDoor.Table Go.Proofs.YtgijnebgchkenaaGreatDoor.Bench Go.Proofs.YtgijnebgchkenaaGreatDoor.Cells Go.Proofs.YtgijnebgchkenaaGreatDoor.Refill Go.Proofs.YtgijnebgchkenaaGreatDoor.Oracle Go.Proofs.YtgijnebgchkenaaGreatDoor.Ref03

/-- The layout of these laws: 1, 1, 1, 1, 64. -/
def l64 : Lay := ⟨1, 1, 1, 1, 64⟩
theorem l64_ok : l64.err = 0 := by kernel_rfl
/-- What holds of the table behind any touches. -/
structure LT (n : Nat) (H : ByteArray → Int) (T : Tb) : Prop where
  cnt : TCnt n T
  key : TKey n H T.cells
  let' : ∀ p, p < 8 * n → isFull (T.cells p) = true → isLetter (T.cells p).keyS
theorem LT.new {n : Nat} (hn : 0 < n) (H : ByteArray → Int) (d : Int) : LT n H (newT n d) := by
  have hb := bi_new hn H (fun _ => True) (T := newT n d) rfl rfl rfl
  exact ⟨hb.cnt, hb.key, fun p _ h => by cases h⟩
section
variable {n : Nat} {H : ByteArray → Int} {T T' : Tb} {key elem : ByteArray} {birth out : Int}
theorem LT.put (h : LT n H T) (hk : isLetter key) (hr : PutR n T (H key) key elem birth (out, T')) : LT n H T' ∧ 1 ≤ out ∧ out ≤ 3 := by
  refine ⟨⟨TCnt.put h.cnt hr, TKey.put h.key hr, fun p hp hf => ?_⟩, ?_⟩
  · cases hr with
    | old q e0 b0 hq hs hc =>
      by_cases e : p = q
      · subst e; dsimp only; rw [updC_same]; exact hk
      · dsimp only at hf ⊢; rw [updC_ne _ e] at hf ⊢; exact h.let' p hp hf
    | no hs hq => exact h.let' p hp hf
    | new j i hj hi hs hv hf2 hl =>
      by_cases e : p = 8 * gk (H key / 128) n j + i
      · subst e; dsimp only; rw [updC_same]; exact hk
      · dsimp only at hf ⊢; rw [updC_ne _ e] at hf ⊢; exact h.let' p hp hf
  · cases hr <;> decide
theorem LT.del {b : Bool} (h : LT n H T) (hr : DelR n T (H key) key (b, T')) : LT n H T' ∧ b = decide (0 ≤ (searchR (H key / 128) n T.cells (H key % 128) key).slot) := by
  refine ⟨⟨TCnt.del h.cnt hr, TKey.del h.key hr, fun p hp hf => ?_⟩, ?_⟩
  · cases hr with
    | no hs => exact h.let' p hp hf
    | passed q e0 b0 hq hs hc hno =>
      by_cases e : p = q
      · subst e; dsimp only at hf; rw [updC_same] at hf; cases hf
      · dsimp only at hf ⊢; rw [updC_ne _ e] at hf ⊢; exact h.let' p hp hf
    | free q r e0 b0 hq hs hc hqr he =>
      by_cases e : p = q
      · subst e; dsimp only at hf; rw [updC_same] at hf; cases hf
      · dsimp only at hf ⊢; rw [updC_ne _ e] at hf ⊢; exact h.let' p hp hf
  · cases hr with
    | no hs => rw [decide_eq_false (by omega)]
    | passed q e0 b0 hq hs hc hno => rw [decide_eq_true (by omega)]
    | free q r e0 b0 hq hs hc hqr he => rw [decide_eq_true (by omega)]
/-- Each key once. -/
theorem LT.once (h : LT n H T) : onceC T.cells (8 * n) := fun i j hi hj h1 h2 he => by
  obtain ⟨t1, e1⟩ := full_of (kind_full.1 h1)
  obtain ⟨t2, e2⟩ := full_of (kind_full.1 h2)
  rw [← he] at e2
  exact h.key.uniq i j hi hj _ _ _ _ _ _ _ e1 e2
/-- What Get tells: the key's cell, or none. -/
theorem LT.get (h : LT n H T) {i : Nat} (hi : i < 8 * n) (hf : isFull (T.cells i) = true) : getC n T (H (T.cells i).keyS) (T.cells i).keyS = .full (H (T.cells i).keyS % 128) (T.cells i).keyS (T.cells i).elemS (T.cells i).birthI := by
  obtain ⟨t, e⟩ := full_of hf
  obtain ⟨_, _, _, _, k, _, _, hs⟩ := find_there h.key hi e rfl
  have ht := h.key.tag i hi _ _ _ _ e
  unfold getC
  rw [hs]
  dsimp only
  rw [if_pos (by omega), Int.toNat_natCast, ← ht]
  exact e
theorem LT.get_no (h : LT n H T) (hn : 0 < n) {key : ByteArray} (hno : ∀ i, i < 8 * n → isFull (T.cells i) = true → (T.cells i).keyS ≠ key) : getC n T (H key) key = .empty := by
  have := (find_not (h := H key) (key := key) (cells := T.cells) hn fun i hi e b hc => hno i hi (by rw [hc]; rfl) (by rw [hc]; rfl)).1
  unfold getC
  rw [this, if_neg (by decide)]
/-- Is the key there? -/
theorem LT.has (h : LT n H T) (hn : 0 < n) (key : ByteArray) : (∃ i, i < 8 * n ∧ isFull (T.cells i) = true ∧ (T.cells i).keyS = key) ∨ (getC n T (H key) key = .empty ∧ ∀ i, i < 8 * n → isFull (T.cells i) = true → (T.cells i).keyS ≠ key) := by
  by_cases q : ∃ i, i < 8 * n ∧ isFull (T.cells i) = true ∧ (T.cells i).keyS = key
  · exact .inl q
  · have hno : ∀ i, i < 8 * n → isFull (T.cells i) = true → (T.cells i).keyS ≠ key := fun i h1 h2 h3 => q ⟨i, h1, h2, h3⟩
    exact .inr ⟨h.get_no hn hno, hno⟩
/-- A table filled with all the full cells answers as the old one. -/
theorem RF.same {N : Nat} {U : Tb} {lives : List Life} (h : LT n H T) (hn : 0 < n) (hR : RF H T.cells (8 * n) N U lives (cnt isFull T.cells (8 * n))) (key : ByteArray) : getC N U (H key) key = getC n T (H key) key := by
  rcases h.has hn key with ⟨i, h1, h2, rfl⟩ | ⟨h1, h2⟩
  · rw [h.get h1 h2]
    refine hR.get h1 h2 ?_
    have a := cnt_succ isFull T.cells i
    rw [if_pos h2] at a
    have := cnt_mono (p := isFull) (cs := T.cells) (show i + 1 ≤ 8 * n by omega)
    omega
  · rw [h1]
    exact hR.get_no (Nat.le_refl _) h2
/-- The cells that Get tells of the letters. -/
def tellC (n : Nat) (H : ByteArray → Int) (T : Tb) (i : Nat) : Cell := getC n T (H (letter i)) (letter i)
theorem cnt_len (p : Cell → Bool) (cs : Nat → Cell) (N : Nat) : cnt p cs N = ((List.range N).filter fun i => p (cs i)).length := by unfold cnt; exact List.countP_eq_length_filter
/-- As many letters are found as there are full cells. -/
theorem lt_count (h : LT n H T) (hn : 0 < n) : cnt isFull (tellC n H T) 62 = cnt isFull T.cells (8 * n) := by
  rw [cnt_len, cnt_len, ← List.length_map (f := letter), ← List.length_map (f := fun i => (T.cells i).keyS)]
  refine List.Perm.length_eq ((List.perm_ext_iff_of_nodup ?_ ?_).2 fun key => ⟨fun hk => ?_, fun hk => ?_⟩)
  · refine List.pairwise_map.2 ((List.Nodup.sublist List.filter_sublist List.nodup_range).imp_of_mem fun {a b} ha hb hab he => hab ?_)
    rw [List.mem_filter, List.mem_range] at ha hb
    exact letter_inj ha.1 hb.1 he
  · refine List.pairwise_map.2 ((List.Nodup.sublist List.filter_sublist List.nodup_range).imp_of_mem fun {a b} ha hb hab he => hab ?_)
    rw [List.mem_filter, List.mem_range] at ha hb
    exact h.once a b ha.1 hb.1 (kind_full.2 ha.2) (kind_full.2 hb.2) he
  · obtain ⟨i, hi, rfl⟩ := List.mem_map.1 hk
    rw [List.mem_filter, List.mem_range] at hi
    rcases h.has hn (letter i) with ⟨j, h1, h2, h3⟩ | ⟨h1, _⟩
    · exact List.mem_map.2 ⟨j, List.mem_filter.2 ⟨List.mem_range.2 h1, h2⟩, h3⟩
    · have := hi.2
      unfold tellC at this
      rw [h1] at this; cases this
  · obtain ⟨j, hj, rfl⟩ := List.mem_map.1 hk
    rw [List.mem_filter, List.mem_range] at hj
    obtain ⟨i, hi, e⟩ := h.let' j hj.1 hj.2
    refine List.mem_map.2 ⟨i, List.mem_filter.2 ⟨List.mem_range.2 hi, ?_⟩, e.symm⟩
    have := h.get hj.1 hj.2
    rw [e] at this
    unfold tellC
    rw [this]; rfl
end

/-! ### Worlds -/
/-- The groups of a table of that size. -/
def eOf (size : Int) : Nat := (size % 3).toNat + 1
def nOf (size : Int) : Nat := 2 ^ eOf size
theorem eOf_le (size : Int) : 1 ≤ eOf size ∧ eOf size ≤ 3 := by unfold eOf; omega
theorem nOf_le (size : Int) : 2 ≤ nOf size ∧ nOf size ≤ 8 := by
  have := eOf_le size
  unfold nOf
  have : eOf size = 1 ∨ eOf size = 2 ∨ eOf size = 3 := by omega
  rcases this with e | e | e <;> rw [e] <;> decide
theorem shl_size (size : Int) : IntKind.i64.wrap (16 * 2 ^ min (size % 3).toNat IntKind.i64.bits) = 8 * ((nOf size : Nat) : Int) := by
  have : (size % 3).toNat = 0 ∨ (size % 3).toNat = 1 ∨ (size % 3).toNat = 2 := by omega
  unfold nOf eOf
  rcases this with e | e | e <;> rw [e] <;> decide
/-- The overrides of a life. -/
def osOf (hs : List Int) : List (ByteArray × Int) := (List.range (min hs.length 62)).map fun i => (letter i, hs.getD i 0)
theorem osOf_len (hs : List Int) : (osOf hs).length = min hs.length 62 := by simp [osOf]
theorem osOf_get {hs : List Int} {i : Nat} (h1 : i < hs.length) (h2 : i < 62) : (osOf hs)[i]? = some (letter i, hs[i]) := by
  unfold osOf
  rw [List.getElem?_map, List.getElem?_range (by omega)]
  simp [h1]
theorem osOf_good (hs : List Int) : goodO (osOf hs) := by
  refine ⟨by rw [osOf_len]; omega, fun i o ho => ?_⟩
  have hi := (List.getElem?_eq_some_iff.1 ho).1
  rw [osOf_len] at hi
  rw [osOf_get (by omega) (by omega)] at ho
  cases ho
  refine ⟨by rw [letter_size (by omega)]; decide, by rw [letter_size (by omega)]; decide, fun j p hj hp e => ?_⟩
  rw [osOf_get (by omega) (by omega)] at hp
  cases hp
  have := letter_inj (by omega) (by omega) e
  omega
theorem osOf_ok {hs : List Int} (h : ∀ x ∈ hs, 0 ≤ x ∧ x < 18446744073709551616) : OverOk (mapO (osOf hs)) := mapO_ok fun o ho => by
  obtain ⟨i, hi⟩ := List.getElem?_of_mem ho
  have hil := (List.getElem?_eq_some_iff.1 hi).1
  rw [osOf_len] at hil
  rw [osOf_get (by omega) (by omega)] at hi
  cases hi
  exact h _ (List.getElem_mem _)
/-- A touch: its key's number, its birth, whether it is a delete. -/
def touchC (t : Int × Int × Bool) : List Value := [.int .i64 t.1, .int .i64 t.2.1, .bool t.2.2]
def touchWf (t : Int × Int × Bool) : Prop := (-9223372036854775808 ≤ t.1 ∧ t.1 ≤ 9223372036854775807) ∧ (-9223372036854775808 ≤ t.2.1 ∧ t.2.1 ≤ 9223372036854775807)
/-- A slice of touches that can be read in the piece A. -/
def TouchAt (A : HP) (v : Value) (ts : List (Int × Int × Bool)) : Prop := ∃ a cap, v = .slice a ts.length cap ∧ (0 < ts.length → ∃ b o, a = some ⟨b, o, none⟩ ∧ ∀ (i : Nat) t, ts[i]? = some t → ∀ (j : Nat) x, (touchC t)[j]? = some x → CellAt A ⟨b, o + i * 3 + j, none⟩ x)
theorem touch_cell {A : HP} {ts : List (Int × Int × Bool)} {b o i : Nat} {t : Int × Int × Bool} (h : ∀ (i : Nat) t, ts[i]? = some t → ∀ (j : Nat) x, (touchC t)[j]? = some x → CellAt A ⟨b, o + i * 3 + j, none⟩ x) (ht : ts[i]? = some t) :
    CellAt A ⟨b, o + (i : Int).toNat * 3 + 0, none⟩ (.int .i64 t.1) ∧ CellAt A ⟨b, o + (i : Int).toNat * 3 + 1, none⟩ (.int .i64 t.2.1) ∧ CellAt A ⟨b, o + (i : Int).toNat * 3 + 2, none⟩ (.bool t.2.2) := by
  rw [Int.toNat_natCast]
  exact ⟨h i t ht 0 _ rfl, h i t ht 1 _ rfl, h i t ht 2 _ rfl⟩
/-- What a life is made of. -/
structure LifeAt (A : HP) (seed size depth : Int) (vh vs : Value) (hs : List Int) (ts : List (Int × Int × Bool)) : Prop where
  seed : 0 ≤ seed ∧ seed < 18446744073709551616
  size : -9223372036854775808 ≤ size ∧ size ≤ 9223372036854775807
  depth : -9223372036854775808 ≤ depth ∧ depth ≤ 9223372036854775807
  hash : NumsAt .u64 A vh hs
  hashWf : ∀ x ∈ hs, 0 ≤ x ∧ x < 18446744073709551616
  step : TouchAt A vs ts
  stepWf : ∀ t ∈ ts, touchWf t
  hlen : hs.length ≤ 9223372036854775807
  slen : ts.length ≤ 9223372036854775807
/-- A world: a table of these laws in its arena. -/
structure WP (s : ArS) (off n e : Nat) (H : ByteArray → Int) (T : Tb) : Prop where
  tab : TabP s off (off + 64) l64 n e T
  lt : LT n H T
  blk : (((off + 64 : Nat) : Int), classI ((n * gN l64 : Nat) : Int)) ∈ s.bl
theorem gN64 : gN l64 = 136 := by kernel_rfl
end Go.Proofs.YtgijnebgchkenaaGreatDoor.Grow
end
section
/- A table's cells parted by a bit of their hashes; tables filled with either part. No program's code. -/
set_option linter.unusedVariables false
set_option linter.unusedSimpArgs false
set_option maxRecDepth 100000
namespace Go.Proofs.YtgijnebgchkenaaGreatDoor.Grow
open Go.RowKit Go.Proofs Go.Proofs.YtgijnebgchkenaaGreatDoor.Eng Go.Proofs.YtgijnebgchkenaaGreatDoor.Ty Go.Proofs.YtgijnebgchkenaaGreatDoor.Bits Go.Proofs.YtgijnebgchkenaaGreatDoor.Mem Go.Proofs.YtgijnebgchkenaaGreatDoor.Search Go.Proofs.YtgijnebgchkenaaGreatDoor.Arena Go.Proofs.YtgijnebgchkenaaGreatDoor.CtrlB Go.Proofs.YtgijnebgchkenaaGreatDoor.Ctrl Go.Proofs.YtgijnebgchkenaaGreatDoor.Layout Go.Proofs.YtgijnebgchkenaaGreatDoor.GroupB Go.Proofs.YtgijnebgchkenaaGreatDoor.Group Go.Proofs.YtgijnebgchkenaaGreatDoor.Probe Go.Proofs.YtgijnebgchkenaaGreatDoor.TableB Go.Proofs.YtgijnebgchkenaaGreatDoor.TableI Go.Proofs.YtgijnebgchkenaaGreatDoor.Table Go.Proofs.YtgijnebgchkenaaGreatDoor.Bench Go.Proofs.YtgijnebgchkenaaGreatDoor.Cells Go.Proofs.YtgijnebgchkenaaGreatDoor.Refill Go.Proofs.YtgijnebgchkenaaGreatDoor.Oracle Go.Proofs.YtgijnebgchkenaaGreatDoor.Ref03

/-- The bit of a hash behind its top d bits. -/
def bitF (h d : Int) : Int := h / 2 ^ (63 - d).toNat % 2
theorem bitF_two (h d : Int) : bitF h d = 0 ∨ bitF h d = 1 := by
  unfold bitF
  omega
/-- The full cells whose keys' hashes have that bit. -/
def side (H : ByteArray → Int) (d : Int) (cs : Nat → Cell) (b : Int) (i : Nat) : Cell := if isFull (cs i) = true ∧ bitF (H (cs i).keyS) d = b then cs i else .empty
section
variable {H : ByteArray → Int} {d d0 b : Int} {cs : Nat → Cell} {n N i j : Nat} {U : Tb} {lives : List Life}
theorem side_full (h : isFull (side H d cs b i) = true) : isFull (cs i) = true ∧ bitF (H (cs i).keyS) d = b ∧ side H d cs b i = cs i := by
  unfold side at h ⊢
  split at h
  · next q => exact ⟨q.1, q.2, by rw [if_pos q]⟩
  · cases h
theorem side_at (h1 : isFull (cs i) = true) (h2 : bitF (H (cs i).keyS) d = b) : side H d cs b i = cs i := if_pos ⟨h1, h2⟩
theorem side_no (h2 : bitF (H (cs i).keyS) d ≠ b) : side H d cs b i = .empty := if_neg fun q => h2 q.2
theorem side_once (h : onceC cs N) : onceC (side H d cs b) N := fun i j hi hj h1 h2 he => by
  obtain ⟨a1, _, a3⟩ := side_full (kind_full.1 h1)
  obtain ⟨b1, _, b3⟩ := side_full (kind_full.1 h2)
  rw [a3, b3] at he
  exact h i j hi hj (kind_full.2 a1) (kind_full.2 b1) he
theorem side_cnt : ∀ N, cnt isFull (side H d cs 0) N + cnt isFull (side H d cs 1) N = cnt isFull cs N
  | 0 => rfl
  | N + 1 => by
    have ih := side_cnt N
    rw [cnt_succ, cnt_succ, cnt_succ]
    by_cases hf : isFull (cs N) = true
    · rcases bitF_two (H (cs N).keyS) d with e | e
      · rw [side_at hf e, side_no (b := 1) (by omega), if_pos hf, show isFull Cell.empty = false from rfl]; simp; omega
      · rw [side_at hf e, side_no (b := 0) (by omega), if_pos hf, show isFull Cell.empty = false from rfl]; simp; omega
    · have g : ∀ b, isFull (side H d cs b N) = false := fun b => by
        cases q : isFull (side H d cs b N) with
        | false => rfl
        | true => exact absurd (side_full q).1 hf
      rw [g, g, if_neg hf]; simp; omega
/-- No full cell between two places of one count. -/
theorem cnt_gap {p : Cell → Bool} (hjk : j ≤ N) (h : cnt p cs N = cnt p cs j) (h1 : j ≤ i) (h2 : i < N) : p (cs i) = false := by
  cases q : p (cs i) with
  | false => rfl
  | true =>
    have a := cnt_succ p cs i
    rw [if_pos q] at a
    have b1 := cnt_mono (p := p) (cs := cs) (show j ≤ i from h1)
    have b2 := cnt_mono (p := p) (cs := cs) (show i + 1 ≤ N from h2)
    omega
/-- A table filled with a row's full cells up to a place. -/
def fillT (n : Nat) (H : ByteArray → Int) (cs : Nat → Cell) (d0 : Int) : Nat → Tb
  | 0 => newT n d0
  | i + 1 => if isFull (cs i) = true then (putT n (fillT n H cs d0 i) (H (cs i).keyS) (cs i).keyS (cs i).elemS (cs i).birthI).2 else fillT n H cs d0 i
theorem fill_skip (h : ∀ i, j ≤ i → i < N → isFull (cs i) = false) : j ≤ N → fillT n H cs d0 N = fillT n H cs d0 j := by
  intro hj
  induction N with
  | zero => obtain rfl : j = 0 := by omega
            rfl
  | succ N ih =>
    by_cases e : j = N + 1
    · rw [e]
    · show (if isFull (cs N) = true then _ else _) = _
      rw [h N (by omega) (by omega), if_neg (by simp)]
      exact ih (fun i h1 h2 => h i h1 (by omega)) (by omega)
/-- The table U holds the full cells of that bit ahead of place j. -/
structure SS (H : ByteArray → Int) (d d0 : Int) (cs : Nat → Cell) (N n : Nat) (b : Int) (U : Tb) (lives : List Life) (j : Nat) : Prop where
  rf : RF H (side H d cs b) N n U lives (cnt isFull (side H d cs b) j)
  fill : U = fillT n H (side H d cs b) d0 j
  keeps : Keeps (newT n d0) U
theorem SS.new (hn : 0 < n) : SS H d d0 cs N n b (newT n d0) [] 0 := ⟨RF.new hn d0, rfl, Keeps.refl _⟩
theorem SS.to (h : SS H d d0 cs N n b U lives j) {k : Nat} (hjk : j ≤ k) (hc : cnt isFull cs k = cnt isFull cs j) : SS H d d0 cs N n b U lives k := by
  have hno : ∀ i, j ≤ i → i < k → isFull (side H d cs b i) = false := fun i h1 h2 => by
    cases q : isFull (side H d cs b i) with
    | false => rfl
    | true => have := (side_full q).1; rw [cnt_gap hjk hc h1 h2] at this; cases this
  have e : ∀ k, j ≤ k → (∀ i, j ≤ i → i < k → isFull (side H d cs b i) = false) → cnt isFull (side H d cs b) k = cnt isFull (side H d cs b) j := fun k => by
    induction k with
    | zero => intro h1 _; obtain rfl : j = 0 := by omega
              rfl
    | succ k ih =>
      intro h1 h2
      by_cases q : j = k + 1
      · rw [q]
      · rw [cnt_succ, h2 k (by omega) (by omega), ih (by omega) fun i a b => h2 i a (by omega)]; rfl
  exact ⟨by rw [e k hjk hno]; exact h.rf, by rw [fill_skip hno hjk]; exact h.fill, h.keeps⟩
theorem cnt_le_at {p : Cell → Bool} (h : cnt p cs j = cnt p cs i) (hf : p (cs i) = true) : j ≤ i := by
  rcases Nat.lt_or_ge i j with q | q
  · have a := cnt_succ p cs i
    rw [if_pos hf] at a
    have := cnt_mono (p := p) (cs := cs) (show i + 1 ≤ j from q)
    omega
  · exact q
theorem SS.put (h : SS H d d0 cs N n b U lives j) (hj : cnt isFull cs j = cnt isFull cs i) (hi : i < N) (hf : isFull (cs i) = true) (hb : bitF (H (cs i).keyS) d = b) (hroom : cnt isFull (side H d cs b) N ≤ 7 * n) (ho : onceC cs N) {e : Nat} (hn : n = 2 ^ e) :
    ∃ v, SS H d d0 cs N n b (putT n U (H (cs i).keyS) (cs i).keyS (cs i).elemS (cs i).birthI).2 (lives ++ [v]) (i + 1) := by
  have h2 := h.to (cnt_le_at hj hf) hj.symm
  have hs := side_at (H := H) hf hb
  have hfs : isFull (side H d cs b i) = true := by rw [hs]; exact hf
  have hsu := cnt_succ isFull (side H d cs b) i
  rw [if_pos hfs] at hsu
  have hmo := cnt_mono (p := isFull) (cs := side H d cs b) (show i + 1 ≤ N from hi)
  have hpr := putR (T := U) (h := H (cs i).keyS) (key := (cs i).keyS) (by rw [hn]; exact Nat.two_pow_pos e) (fun g hg => gk_onto hn hg) (cs i).elemS (cs i).birthI
  obtain ⟨_, v, h3⟩ := h2.rf.put (out := (putT n U (H (cs i).keyS) (cs i).keyS (cs i).elemS (cs i).birthI).1) (U' := (putT n U (H (cs i).keyS) (cs i).keyS (cs i).elemS (cs i).birthI).2) (side_once ho) hi hfs rfl (by omega) (by rw [hs]; exact hpr)
  refine ⟨v, by rw [hsu]; exact h3, ?_, h2.keeps.trans (keeps_put hpr)⟩
  show _ = if isFull (side H d cs b i) = true then _ else _
  rw [if_pos hfs, hs, ← h2.fill]
theorem SS.pass (h : SS H d d0 cs N n b U lives j) (hj : cnt isFull cs j = cnt isFull cs i) (hf : isFull (cs i) = true) (hb : bitF (H (cs i).keyS) d ≠ b) : SS H d d0 cs N n b U lives (i + 1) := by
  have h2 := h.to (cnt_le_at hj hf) hj.symm
  have hs := side_no hb
  have hsu := cnt_succ isFull (side H d cs b) i
  rw [hs, show isFull Cell.empty = false from rfl] at hsu
  refine ⟨by rw [hsu]; exact h2.rf, ?_, h2.keeps⟩
  show _ = if isFull (side H d cs b i) = true then _ else _
  rw [hs, show isFull Cell.empty = false from rfl, if_neg (by simp)]
  exact h2.fill
end
/-- What the half of a table answers. -/
theorem side_get {n N : Nat} {H : ByteArray → Int} {T U : Tb} {d b : Int} {lives : List Life} (h : LT n H T) (hn : 0 < n) (hR : RF H (side H d T.cells b) (8 * n) N U lives (cnt isFull (side H d T.cells b) (8 * n))) (key : ByteArray) :
    getC N U (H key) key = if bitF (H key) d = b then getC n T (H key) key else .empty := by
  have hno : (bitF (H key) d = b → ∀ i, i < 8 * n → isFull (T.cells i) = true → (T.cells i).keyS ≠ key) → getC N U (H key) key = .empty := fun q => hR.get_no (Nat.le_refl _) fun i hi hf he => by
    obtain ⟨a1, a2, a3⟩ := side_full hf
    rw [a3] at he
    rw [he] at a2
    exact q a2 i hi a1 he
  by_cases hb : bitF (H key) d = b
  · rw [if_pos hb]
    rcases h.has hn key with ⟨i, h1, h2, rfl⟩ | ⟨h1, h2⟩
    · have hs := side_at (H := H) h2 hb
      have hfs : isFull (side H d T.cells b i) = true := by rw [hs]; exact h2
      have hsu := cnt_succ isFull (side H d T.cells b) i
      rw [if_pos hfs] at hsu
      have hmo := cnt_mono (p := isFull) (cs := side H d T.cells b) (show i + 1 ≤ 8 * n from h1)
      have := hR.get h1 hfs (by omega)
      rw [hs] at this
      rw [this, h.get h1 h2]
    · rw [h1, hno fun _ => h2]
  · rw [if_neg hb, hno fun q => absurd q hb]
end Go.Proofs.YtgijnebgchkenaaGreatDoor.Grow
end
