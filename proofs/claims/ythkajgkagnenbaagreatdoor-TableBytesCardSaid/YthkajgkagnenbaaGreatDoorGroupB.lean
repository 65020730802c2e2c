import Derived.Test.YthkajgkagnenbaaGreatDoorMem
import Derived.Test.YthkajgkagnenbaaGreatDoorLayout
import Derived.Test.YthkajgkagnenbaaGreatDoorCtrlB
section
/- mem.Write: several slices of bytes laid one behind the other. -/
set_option linter.unusedVariables false
set_option linter.unusedSimpArgs false
set_option maxRecDepth 100000
namespace Go.Proofs.YthkajgkagnenbaaGreatDoor.Mem
open Go.RowKit Go.Proofs Go.Proofs.YthkajgkagnenbaaGreatDoor.Eng Go.Proofs.YthkajgkagnenbaaGreatDoor.Ty Go.Proofs.YthkajgkagnenbaaGreatDoor.Bits

/-- Slices that hold the bytes of these strings. -/
def bytesAll (vs : List Value) (ss : List ByteArray) : HP := stars (List.zipWith byteS vs ss)
theorem all_at {vs : List Value} {ss : List ByteArray} {M : List HP} {w : World} (h : Sat (stars (bytesAll vs ss :: M)) w) {i : Nat} {v : Value} {s : ByteArray} (hv : vs[i]? = some v) (hs : ss[i]? = some s) : ∃ M', Sat (stars (byteS v s :: M')) w := by
 have h1 := sat_all.1 h
 have hm : byteS v s ∈ List.zipWith byteS vs ss := by
  have : (List.zipWith byteS vs ss)[i]? = some (byteS v s) := by rw [List.getElem?_zipWith]; simp [hv, hs]
  exact List.mem_of_getElem? this
 obtain ⟨A, B, hAB⟩ := List.append_of_mem hm
 rw [hAB] at h1
 exact ⟨A ++ B ++ M, h1.perm (by
  rw [List.append_assoc, List.append_assoc]
  exact List.perm_middle)⟩
theorem reads_all {L M : List HP} {vs : List Value} {ss : List ByteArray} {i b cap n : Nat} {s : ByteArray} (ht : Take (bytesAll vs ss) L M) (hv : vs[i]? = some (.slice (some ⟨b, 0, none⟩) n cap)) (hs : ss[i]? = some s) : Reads L ⟨b, 0, none⟩ (bytesV s) := fun w hw j u hu => by
 obtain ⟨M', h⟩ := all_at (hw.take ht) hv hs
 have := reads_byteS (L := byteS (.slice (some ⟨b, 0, none⟩) n cap) s :: M') s.size .here w h j u
 rw [List.take_of_length_le (by rw [bytesV_len]; omega)] at this
 exact this hu

/-- The strings' bytes, one behind the other. -/
def byteAt (s : ByteArray) (i : Nat) : Int := if h : i < s.size then ((s[i]'h).toNat : Int) else 0
def catM : List ByteArray → Nat → Int
 | [], _ => 0
 | s :: r, i => if i < s.size then byteAt s i else catM r (i - s.size)
def totS : List ByteArray → Nat
 | [] => 0
 | s :: r => s.size + totS r
theorem tot_take {ss : List ByteArray} {j : Nat} {s : ByteArray} (h : ss[j]? = some s) : totS (ss.take (j + 1)) = totS (ss.take j) + s.size := by
 induction ss generalizing j with
 | nil => simp at h
 | cons x r ih =>
  cases j with
  | zero => simp at h; subst h; simp [totS]
  | succ j => simp only [List.getElem?_cons_succ] at h; simp only [List.take_succ_cons, totS, ih h]; omega
theorem tot_le (ss : List ByteArray) (j : Nat) : totS (ss.take j) ≤ totS ss := by
 induction ss generalizing j with
 | nil => simp [totS]
 | cons x r ih =>
  cases j with
  | zero => simp [totS]
  | succ j => simp only [List.take_succ_cons, totS]; have := ih j; omega
theorem cat_at {ss : List ByteArray} {j : Nat} {s : ByteArray} (h : ss[j]? = some s) {i : Nat} (hi : i < s.size) : catM ss (totS (ss.take j) + i) = byteAt s i := by
 induction ss generalizing j with
 | nil => simp at h
 | cons x r ih =>
  cases j with
  | zero => simp at h; subst h; simp [totS, catM, hi]
  | succ j =>
   simp only [List.getElem?_cons_succ] at h
   simp only [List.take_succ_cons, totS, catM]
   rw [if_neg (by omega), show x.size + totS (List.take j r) + i - x.size = totS (List.take j r) + i by omega]
   exact ih h
theorem bytesV_memV (s : ByteArray) : bytesV s = memV (byteAt s) s.size := by
 apply List.ext_getElem?
 intro i
 by_cases h : i < s.size
 ·rw [bytesV_get h, memV_at h]; simp [byteAt, h]
 ·rw [List.getElem?_eq_none (by rw [bytesV_len]; omega), List.getElem?_eq_none (by rw [memV_len]; omega)]
/-- The next string behind those that have been laid. -/
theorem lay_cat {m : Nat → Int} {ss : List ByteArray} {j o n cap : Nat} {s : ByteArray} (h : ss[j]? = some s) (hn : o + totS ss ≤ n) (hc : n ≤ cap) :
  lay (memV (layM m o (totS (ss.take j)) (catM ss)) n) (tailAt 0 (o + totS (ss.take j)) cap) (bytesV s) = memV (layM m o (totS (ss.take (j + 1))) (catM ss)) n := by
 have ht := tot_take h
 have hle := tot_le ss (j + 1)
 rw [bytesV_memV, lay_tail (by omega) hc]
 congr 1
 funext i
 simp only [layM, ht]
 by_cases q : o + totS (ss.take j) ≤ i ∧ i < o + totS (ss.take j) + s.size
 ·rw [if_pos q, if_pos (by omega)]
  have := cat_at h (i := i - (o + totS (ss.take j))) (by omega)
  rw [show totS (ss.take j) + (i - (o + totS (ss.take j))) = i - o by omega] at this
  exact this.symm
 ·rw [if_neg q]
  by_cases q2 : o ≤ i ∧ i < o + totS (ss.take j)
  ·rw [if_pos q2, if_pos (by omega)]
  ·rw [if_neg q2, if_neg (by omega)]

theorem Write_ok (pm g n cap off p k kc : Nat) (m : Nat → Int) (vs : List Value) (ss : List ByteArray) (hn : n ≤ 134217728) (hc : n ≤ cap) (hk : ss.length = k) (hkb : k ≤ 1000000) (ho : off + totS ss ≤ n) :
  FnOk Tryz.prog 227 #[.pointer (some ⟨pm, 0, none⟩), .int .i64 off, .slice (some ⟨p, 0, none⟩) k kc] [pt pm (.cells #[.slice (some ⟨g, 0, none⟩) n cap] 189 (0, 0)), ownS 5 1 (.slice (some ⟨g, 0, none⟩) n cap) n (memV m n), ownS 117 1 (.slice (some ⟨p, 0, none⟩) k kc) k vs, bytesAll vs ss]
   (fun r L => r = .int .i64 0 ∧ L = [pt pm (.cells #[.slice (some ⟨g, 0, none⟩) n cap] 189 (0, 0)), ownS 5 1 (.slice (some ⟨g, 0, none⟩) n cap) n (memV (layM m off (totS ss) (catM ss)) n), ownS 117 1 (.slice (some ⟨p, 0, none⟩) k kc) k vs, bytesAll vs ss]) := by
 refine fn_intro en227 Tryz.func227 rfl rfl rfl fun Fr w0 => t_nm ?_
 refine t_pure (φ := vs.length = k ∧ ∀ (i : Nat) (s : ByteArray), ss[i]? = some s → ∃ b c, vs[i]? = some (Value.slice (some ⟨b, 0, none⟩) s.size c)) (fun w hw => ?_) fun ⟨hvl, hsh⟩ => ?_
 ·obtain ⟨h1, _⟩ := own_shape (hw.take (.there (.there .here)))
  rw [Nat.mul_one] at h1
  refine ⟨h1, fun i s hs => ?_⟩
  have hlt := (List.getElem?_eq_some_iff.1 hs).1
  have hv : vs[i]? = some (vs[i]'(by omega)) := List.getElem?_eq_getElem _
  obtain ⟨M', h2⟩ := all_at (hw.take (.there (.there (.there .here)))) hv hs
  obtain ⟨b, c, _, _, _, h3, _⟩ := byteS_open h2
  exact ⟨b, c, by rw [hv, h3]⟩
 refine sr<|asg O O<|lz<|asg O O<|lc<|t_seq<|sr<|mv O O<|l_q O (ql O yU290)<|mv O O<|lc<|t_block ?_
 refine t_loop (fun j : Nat => j ≤ k) (fun j => [(0, .pointer (some ⟨pm, 0, none⟩)), (1, .int .i64 off), (2, .slice (some ⟨p, 0, none⟩) k kc), (12, .slice (some ⟨p, 0, none⟩) k kc), (13, .int .i64 k), (14, .int .i64 j), (7, .int .i64 (totS (ss.take j)))]) (fun _ => pt pm (.cells #[.slice (some ⟨g, 0, none⟩) n cap] 189 (0, 0)) :: ownS 5 1 (.slice (some ⟨g, 0, none⟩) n cap) n (memV m n) :: ownS 117 1 (.slice (some ⟨p, 0, none⟩) k kc) k vs :: bytesAll vs ss :: Fr) (fun j => k - j) 0 (by omega) ⟨rfl, rfl, rfl, rfl, rfl, rfl, rfl, trivial⟩ (Ent.refl _) ?_
 intro j hj
 have hle := tot_le ss (j + 1)
 refine sr<|l_q O (qi O O (b_lss ·))<|lc<|t_seq<|t_if O (fun h => ?_) fun h => ?_
 ·have hjl : j < ss.length := by omega
  obtain ⟨b, c', hvj⟩ := hsh j ss[j] (List.getElem?_eq_getElem hjl)
  have htt := tot_take (List.getElem?_eq_getElem hjl)
  refine t_skip<|n_code<|t_seq<|t_block<|sr<|l_q O (q_indexAddr1 O O yU290 yS117 (by omega)) ?_
  apply l_q O
  ·apply q_loadOwn O yA117
   ·exact tk
   ·rw [Nat.zero_add, Int.toNat_natCast]; exact hvj
  refine asg O O<|lr<|mv O O<|mv O O<|l_q O (ql O yU117)<|l_q O (qadd O O) ?_
  refine asg O O<|l_nil<|n_blk<|n_code<|t_region<|l_q O (qadd O O) ?_
  refine mv O O<|l_nil ?_
  apply n_again ((j + 1))
  ·exact (show j + 1 ≤ k by omega)
  ·omega
  ·exact ⟨rfl, rfl, rfl, rfl, rfl, rfl, by rw [htt, Int.natCast_add]; rfl, trivial⟩
  ·exact en
 ·refine xt O<|n_code<|t_seq<|sr<|mv O O<|mv O O<|mv O O ?_
  obtain rfl : j = k := by omega
  rw [← hk, List.take_length]
  refine lc1 O O O (inside_ok pm g n cap m _ _ hn) ?_
  refine l_q O (q_un O (u_not ·))<|lc<|t_if O (fun z => ?_) fun z => ?_
  ·simp at z; omega
  ·refine t_skip<|n_code<|t_seq<|sr<|mv O O<|l_q O (ql O yU290)<|mv O O<|lc<|t_block ?_
   refine t_loop (fun i : Nat => i ≤ ss.length) (fun i => [(0, .pointer (some ⟨pm, 0, none⟩)), (1, .int .i64 (off + (totS (ss.take i) : Nat))), (28, .slice (some ⟨p, 0, none⟩) ss.length kc), (29, .int .i64 ss.length), (30, .int .i64 i)]) (fun i => pt pm (.cells #[.slice (some ⟨g, 0, none⟩) n cap] 189 (0, 0)) :: ownS 5 1 (.slice (some ⟨g, 0, none⟩) n cap) n (memV (layM m off (totS (ss.take i)) (catM ss)) n) :: ownS 117 1 (.slice (some ⟨p, 0, none⟩) ss.length kc) ss.length vs :: bytesAll vs ss :: Fr) (fun i => ss.length - i) 0 (by omega) ⟨rfl, by simp [totS]; rfl, rfl, rfl, rfl, trivial⟩ (by simp only [List.take_zero, totS, lay_zero]; exact Ent.refl _) ?_
   intro j hj
   have hle := tot_le ss (j + 1)
   refine sr<|l_q O (qi O O (b_lss ·))<|lc<|t_seq<|t_if O (fun h => ?_) fun h => ?_
   ·have hjl : j < ss.length := by omega
    obtain ⟨b, c', hvj⟩ := hsh j ss[j] (List.getElem?_eq_getElem hjl)
    have htt := tot_take (List.getElem?_eq_getElem hjl)
    have hbl := bytesV_len ss[j]
    have hbl' : (ss[j].size : Int) = ((bytesV ss[j]).length : Int) := by rw [hbl]
    refine t_skip<|n_code<|t_seq<|t_block<|sr<|l_q O (q_indexAddr1 O O yU290 yS117 (by omega)) ?_
    apply l_q O
    ·apply q_loadOwn O yA117
     ·exact tk
     ·rw [Nat.zero_add, Int.toNat_natCast]; exact hvj
    refine asg O O<|lr<|mv O O<|mv O O<|l_q O (q_nilCheck O)<|l_q O (qfa 0 rfl yU189 O O yS117)<|l_q O (qld O yA117) ?_
    refine mv O O<|l_q O (q_slice_l O O  yU117 yS5 (by omega)) ?_
    refine mv O O ?_
    apply o_copy (bytesV ss[j]) rfl rfl rfl Tryz.underlying117 (by obtain ⟨i, h1, _, h2, _⟩ := yI5; exact ⟨i, h1, h2⟩)
    ·exact tk
    ·rw [bytesV_len, show ((off : Int) + (totS (ss.take j) : Nat)).toNat = off + totS (ss.take j) by omega]; exact (Nat.min_eq_left (by omega)).symm
    ·exact reads_all (i := j) (.there (.there (.there .here))) hvj (List.getElem?_eq_getElem hjl)
    ·rw [bytesV_len, show ((off : Int) + (totS (ss.take j) : Nat)).toNat = off + totS (ss.take j) by omega]; exact tail_le (by omega) hc
    ·exact bytesV_one _
    refine l_q O (qadd O O) ?_
    refine asg O O<|l_nil<|n_blk<|n_code<|t_region<|l_q O (qadd O O) ?_
    refine mv O O<|l_nil ?_
    rw [show ((off : Int) + (totS (ss.take j) : Nat)).toNat = off + totS (ss.take j) by omega, lay_cat (List.getElem?_eq_getElem hjl) ho hc]
    apply n_again ((j + 1))
    ·exact (show j + 1 ≤ ss.length by omega)
    ·omega
    ·exact ⟨rfl, by rw [htt, Int.natCast_add, hbl', ← Int.add_assoc]; rfl, rfl, rfl, rfl, trivial⟩
    ·exact en
   ·refine xt O<|nz<|asg O O<|lc<|rt ?_
    obtain rfl : j = ss.length := by omega
    rw [List.take_length]
    exact fr1 O ([pt pm (.cells #[.slice (some ⟨g, 0, none⟩) n cap] 189 (0, 0)), ownS 5 1 (.slice (some ⟨g, 0, none⟩) n cap) n (memV (layM m off (totS ss) (catM ss)) n), ownS 117 1 (.slice (some ⟨p, 0, none⟩) ss.length kc) ss.length vs, bytesAll vs ss]) (.tmp rfl) ⟨rfl, rfl⟩
end Go.Proofs.YthkajgkagnenbaaGreatDoor.Mem
end
section
/- A group's bytes as a function of what its eight slots hold. No program. -/
set_option linter.unusedVariables false
set_option linter.unusedSimpArgs false
set_option maxRecDepth 100000
namespace Go.Proofs.YthkajgkagnenbaaGreatDoor.GroupB
open Go.RowKit Go.Proofs Go.Proofs.YthkajgkagnenbaaGreatDoor.Eng Go.Proofs.YthkajgkagnenbaaGreatDoor.Bits Go.Proofs.YthkajgkagnenbaaGreatDoor.Layout Go.Proofs.YthkajgkagnenbaaGreatDoor.Mem Go.Proofs.YthkajgkagnenbaaGreatDoor.CtrlB

/-- The layout's numbers as natural ones. -/
def kN (l : Lay) : Nat := l.key.toNat
def eN (l : Lay) : Nat := l.elem.toNat
def eoN (l : Lay) : Nat := l.eo.toNat
def boN (l : Lay) : Nat := l.bo.toNat
def sN (l : Lay) : Nat := l.slot.toNat
def gN (l : Lay) : Nat := l.group.toNat
structure LayN (l : Lay) : Prop where
 k : ((kN l : Nat) : Int) = l.key
 e : ((eN l : Nat) : Int) = l.elem
 eo : ((eoN l : Nat) : Int) = l.eo
 bo : ((boN l : Nat) : Int) = l.bo
 s : ((sN l : Nat) : Int) = l.slot
 g : ((gN l : Nat) : Int) = l.group
 s_eq : sN l = boN l + 8
 g_eq : gN l = 8 + 8 * sN l
 k1 : 1 ≤ kN l ∧ kN l ≤ 128
 e1 : eN l ≤ 128
 eo1 : kN l ≤ eoN l ∧ eoN l ≤ kN l + 7
 bo1 : eoN l + eN l ≤ boN l ∧ boN l ≤ eoN l + eN l + 7
theorem layN {l : Lay} (h : l.err = 0) : LayN l := by
 have b := Lay.bnd h
 have e1 := raise_bnd (n := l.key) (a := l.ea) (by omega) (by omega)
 have e2 := raise_bnd (n := l.eo + l.elem) (a := 8) (by omega) (by omega)
 have q1 : l.eo = raiseI l.key l.ea := rfl
 have q2 : l.bo = raiseI (l.eo + l.elem) 8 := rfl
 constructor <;> simp only [kN, eN, eoN, boN, sN, gN] <;> omega

/-- What a slot holds. -/
inductive Cell where
 | empty
 | deleted
 | full (tag : Int) (key elem : ByteArray) (birth : Int)
def Cell.ok (l : Lay) : Cell → Prop
 | .full t k e b => 0 ≤ t ∧ t < 128 ∧ k.size = kN l ∧ e.size = eN l ∧ 0 ≤ b ∧ b < 9223372036854775808
 | _ => True
def Cell.ctrl : Cell → Int
 | .empty => 128
 | .deleted => 254
 | .full t _ _ _ => t
theorem Cell.ctrl_bnd {l : Lay} {c : Cell} (h : c.ok l) : 0 ≤ c.ctrl ∧ c.ctrl < 256 := by cases c <;> simp only [Cell.ctrl, Cell.ok] at h ⊢ <;> omega
/-- So many zero bytes; a number's eight bytes. -/
def zeroS (n : Nat) : ByteArray := ⟨(List.replicate n (0 : UInt8)).toArray⟩
def numS (b : Int) : ByteArray := strM (byteN b) 0 8
theorem zeroS_size (n : Nat) : (zeroS n).size = n := by simp [zeroS, ByteArray.size]
theorem strM_size (m : Nat → Int) (o k : Nat) : (strM m o k).size = k := by simp [strM, ByteArray.size]
theorem numS_size (b : Int) : (numS b).size = 8 := strM_size _ _ _
theorem byteAt_zero (n i : Nat) : byteAt (zeroS n) i = 0 := by
 unfold byteAt
 split
 ·next h => simp [zeroS, ByteArray.getElem_eq_getElem_data]
 ·rfl
theorem byteN_bnd (v : Int) (i : Nat) : 0 ≤ byteN v i ∧ byteN v i < 256 := by unfold byteN; omega
theorem byteAt_strM {m : Nat → Int} (hm : ∀ i, 0 ≤ m i ∧ m i < 256) (o k : Nat) {i : Nat} (h : i < k) : byteAt (strM m o k) i = m (o + i) := by
 unfold byteAt
 rw [dif_pos (by rw [strM_size]; exact h)]
 have := hm (o + i)
 simp only [strM, ByteArray.getElem_eq_getElem_data, List.getElem_toArray, List.getElem_map, List.getElem_range, UInt8.toNat_ofNat']
 omega
theorem byteAt_num (b : Int) {i : Nat} (h : i < 8) : byteAt (numS b) i = byteN b i := by
 unfold numS; rw [byteAt_strM (byteN_bnd b) _ _ h, Nat.zero_add]
theorem byteAt_bnd (s : ByteArray) (i : Nat) : 0 ≤ byteAt s i ∧ byteAt s i < 256 := by
 unfold byteAt
 split
 ·next h => have := (s[i]'h).toNat_lt; omega
 ·omega
/-- Strings are equal where their bytes are. -/
theorem str_ext {s t : ByteArray} (hs : s.size = t.size) (h : ∀ i, i < s.size → byteAt s i = byteAt t i) : s = t := by
 apply ByteArray.ext
 apply Array.ext
 ·exact hs
 ·intro i h1 h2
  have := h i h1
  unfold byteAt at this
  rw [dif_pos (show i < s.size from h1), dif_pos (show i < t.size from h2)] at this
  simp only [ByteArray.getElem_eq_getElem_data] at this
  exact UInt8.toNat_inj.1 (by exact_mod_cast this)
theorem strM_eq {m : Nat → Int} (hm : ∀ i, 0 ≤ m i ∧ m i < 256) {o : Nat} {s : ByteArray} (h : ∀ i, i < s.size → m (o + i) = byteAt s i) : strM m o s.size = s :=
 str_ext (strM_size _ _ _) fun i hi => by rw [strM_size] at hi; rw [byteAt_strM hm _ _ hi]; exact h i hi

theorem cat_bnd (ss : List ByteArray) : ∀ i, 0 ≤ catM ss i ∧ catM ss i < 256 := by
 induction ss with
 | nil => intro i; simp [catM]
 | cons s r ih => intro i; simp only [catM]; split; exact byteAt_bnd _ _; exact ih _

/-- The parts of a full slot. -/
def parts (l : Lay) (k e : ByteArray) (b : Int) : List ByteArray := [k, zeroS (eoN l - kN l), e, zeroS (boN l - eoN l - eN l), numS b]
theorem tot_parts {l : Lay} (h : LayN l) {k e : ByteArray} (hk : k.size = kN l) (he : e.size = eN l) (b : Int) : totS (parts l k e b) = sN l := by
 have := h.eo1; have := h.bo1; have := h.s_eq
 simp only [parts, totS, hk, he, zeroS_size, numS_size]; omega
/-- A slot's bytes. -/
def encS (l : Lay) (c : Cell) (r : Nat) : Int := match c with
 | .full _ k e b => catM (parts l k e b) r
 | _ => 0
/-- A group's bytes. -/
def encG (l : Lay) (cs : Nat → Cell) (j : Nat) : Int := if j < 8 then (cs j).ctrl else encS l (cs ((j - 8) / sN l)) ((j - 8) % sN l)
theorem encS_bnd (l : Lay) (c : Cell) (r : Nat) : 0 ≤ encS l c r ∧ encS l c r < 256 := by
 unfold encS
 split
 ·exact cat_bnd _ _
 ·omega
theorem encG_bnd {l : Lay} {cs : Nat → Cell} (h : ∀ i, i < 8 → (cs i).ok l) (j : Nat) : 0 ≤ encG l cs j ∧ encG l cs j < 256 := by
 unfold encG
 split
 ·exact Cell.ctrl_bnd (h j (by assumption))
 ·exact encS_bnd _ _ _
theorem encG_ctrl {l : Lay} (cs : Nat → Cell) {i : Nat} (h : i < 8) : encG l cs i = (cs i).ctrl := by unfold encG; rw [if_pos h]
theorem slot_div {s i r : Nat} (hr : r < s) : (i * s + r) / s = i ∧ (i * s + r) % s = r := by
 constructor
 ·rw [Nat.add_comm, Nat.add_mul_div_right _ _ (by omega), Nat.div_eq_of_lt hr]; omega
 ·rw [Nat.add_comm, Nat.add_mul_mod_self_right, Nat.mod_eq_of_lt hr]
theorem encG_slot {l : Lay} (cs : Nat → Cell) {i r : Nat} (hr : r < sN l) : encG l cs (8 + i * sN l + r) = encS l (cs i) r := by
 unfold encG
 obtain ⟨h1, h2⟩ := slot_div (i := i) hr
 rw [if_neg (by omega), show 8 + i * sN l + r - 8 = i * sN l + r by omega, h1, h2]
/-- The bytes of the parts. -/
theorem encS_key {l : Lay} (h : LayN l) {t : Int} {k e : ByteArray} {b : Int} (hk : k.size = kN l) {i : Nat} (hi : i < k.size) : encS l (.full t k e b) i = byteAt k i := by
 have := cat_at (ss := parts l k e b) (j := 0) (s := k) rfl hi
 simpa [encS, parts, totS] using this
theorem encS_elem {l : Lay} (h : LayN l) {t : Int} {k e : ByteArray} {b : Int} (hk : k.size = kN l) {i : Nat} (hi : i < e.size) : encS l (.full t k e b) (eoN l + i) = byteAt e i := by
 have := cat_at (ss := parts l k e b) (j := 2) (s := e) rfl hi
 have h1 := h.eo1
 simp only [parts, List.take_succ_cons, List.take_zero, totS, zeroS_size, hk] at this
 rw [show kN l + (eoN l - kN l + 0) + i = eoN l + i by omega] at this
 exact this
theorem encS_birth {l : Lay} (h : LayN l) {t : Int} {k e : ByteArray} {b : Int} (hk : k.size = kN l) (he : e.size = eN l) {i : Nat} (hi : i < 8) : encS l (.full t k e b) (boN l + i) = byteN b i := by
 have := cat_at (ss := parts l k e b) (j := 4) (s := numS b) rfl (by rw [numS_size]; exact hi)
 have h1 := h.eo1; have h2 := h.bo1
 simp only [parts, List.take_succ_cons, List.take_zero, totS, zeroS_size, hk, he] at this
 rw [show kN l + (eoN l - kN l + (eN l + (boN l - eoN l - eN l + 0))) + i = boN l + i by omega, byteAt_num b hi] at this
 exact this

/-- The group's bytes lie at off. -/
def GAt (m : Nat → Int) (off : Nat) (l : Lay) (cs : Nat → Cell) : Prop := ∀ j, j < gN l → m (off + j) = encG l cs j
/-- Other cells in the place of some. -/
def updC (cs : Nat → Cell) (i : Nat) (c : Cell) : Nat → Cell := fun j => if j = i then c else cs j
theorem updC_same (cs : Nat → Cell) (i : Nat) (c : Cell) : updC cs i c i = c := by simp [updC]
theorem updC_ne (cs : Nat → Cell) {i j : Nat} (h : j ≠ i) (c : Cell) : updC cs i c j = cs j := by simp [updC, h]
theorem GAt.ctrl {m : Nat → Int} {off : Nat} {l : Lay} {cs : Nat → Cell} (h : GAt m off l cs) (hl : LayN l) {i : Nat} (hi : i < 8) : m (off + i) = (cs i).ctrl := by
 rw [h i (by have := hl.g_eq; have := hl.s_eq; omega), encG_ctrl cs hi]
theorem slot_in {l : Lay} (hl : LayN l) {i r : Nat} (hi : i < 8) (hr : r < sN l) : 8 + i * sN l + r < gN l := by
 have h1 : i * sN l ≤ 7 * sN l := Nat.mul_le_mul_right _ (by omega)
 have := hl.g_eq
 omega
theorem GAt.slot {m : Nat → Int} {off : Nat} {l : Lay} {cs : Nat → Cell} (h : GAt m off l cs) (hl : LayN l) {i r : Nat} (hi : i < 8) (hr : r < sN l) : m (off + (8 + i * sN l + r)) = encS l (cs i) r := by
 rw [h _ (slot_in hl hi hr), encG_slot cs hr]
theorem lay_at {m f : Nat → Int} {o k a : Nat} (h1 : o ≤ a) (h2 : a < o + k) : layM m o k f a = f (a - o) := by unfold layM; rw [if_pos ⟨h1, h2⟩]
theorem lay_out {m f : Nat → Int} {o k a : Nat} (h : a < o ∨ o + k ≤ a) : layM m o k f a = m a := by unfold layM; rw [if_neg (by omega)]
/-- A place in a group beyond the control word: whose slot, where in it. -/
theorem slot_of {l : Lay} (hl : LayN l) {j : Nat} (h1 : 8 ≤ j) (h2 : j < gN l) : ∃ i r, i < 8 ∧ r < sN l ∧ j = 8 + i * sN l + r := by
 have hs := hl.s_eq
 have hg := hl.g_eq
 refine ⟨(j - 8) / sN l, (j - 8) % sN l, ?_, Nat.mod_lt _ (by omega), ?_⟩
 ·exact Nat.div_lt_of_lt_mul (by rw [Nat.mul_comm]; omega)
 ·have := Nat.div_add_mod (j - 8) (sN l)
  rw [Nat.mul_comm] at this
  omega
/-- One slot written, and its control byte. -/
theorem put_slot {m f w : Nat → Int} {off : Nat} {l : Lay} {cs : Nat → Cell} (hl : LayN l) (h : GAt m off l cs) {i : Nat} (hi : i < 8) (c : Cell) (hf : ∀ r, r < sN l → f r = encS l c r) (hw : ∀ j, j < 8 → w j = if j = i then c.ctrl else (cs j).ctrl) :
  layM (layM m (off + (8 + i * sN l)) (sN l) f) off 8 w = layM m off (gN l) (encG l (updC cs i c)) := by
 funext a
 have hg := hl.g_eq
 by_cases q1 : a < off ∨ off + gN l ≤ a
 ·have h1 : i * sN l ≤ 7 * sN l := Nat.mul_le_mul_right _ (by omega)
  rw [lay_out (by omega), lay_out (by omega), lay_out q1]
 ·rw [lay_at (o := off) (k := gN l) (by omega) (by omega)]
  by_cases q2 : a - off < 8
  ·rw [lay_at (by omega) (by omega), hw _ q2, encG_ctrl _ q2]
   by_cases q3 : a - off = i
   ·rw [if_pos q3, q3, updC_same]
   ·rw [if_neg q3, updC_ne _ q3]
  ·obtain ⟨i', r, hi', hr, e⟩ := slot_of hl (by omega : 8 ≤ a - off) (by omega)
   rw [lay_out (by omega), e, encG_slot _ hr]
   by_cases q3 : i' = i
   ·subst q3
    rw [lay_at (by omega) (by omega), updC_same, show a - (off + (8 + i' * sN l)) = r by omega, hf r hr]
   ·rw [updC_ne _ q3, lay_out, show a = off + (8 + i' * sN l + r) by omega, h.slot hl hi' hr]
    rcases Nat.lt_or_ge i' i with q4 | q4
    ·have := Nat.mul_le_mul_right (sN l) (show i' + 1 ≤ i by omega); rw [Nat.add_mul] at this; omega
    ·have := Nat.mul_le_mul_right (sN l) (show i + 1 ≤ i' by omega); rw [Nat.add_mul] at this; omega
/-- A full slot's elem written. -/
theorem put_elem {m : Nat → Int} {off : Nat} {l : Lay} {cs : Nat → Cell} (hl : LayN l) (h : GAt m off l cs) {i : Nat} (hi : i < 8) {t : Int} {k e e' : ByteArray} {b : Int} (hc : cs i = .full t k e b) (hk : k.size = kN l) (he : e.size = eN l) (he' : e'.size = eN l) :
  layM m (off + (8 + i * sN l + eoN l)) (eN l) (byteAt e') = layM m off (gN l) (encG l (updC cs i (.full t k e' b))) := by
 funext a
 have hg := hl.g_eq; have hs := hl.s_eq; have he1 := hl.eo1; have hb1 := hl.bo1
 have h1 : i * sN l ≤ 7 * sN l := Nat.mul_le_mul_right _ (by omega)
 by_cases q1 : a < off ∨ off + gN l ≤ a
 ·rw [lay_out (by omega), lay_out q1]
 ·rw [lay_at (o := off) (k := gN l) (by omega) (by omega)]
  by_cases q2 : a - off < 8
  ·rw [lay_out (by omega), encG_ctrl _ q2, show a = off + (a - off) by omega, h.ctrl hl q2, show off + (a - off) - off = a - off by omega]
   by_cases q3 : a - off = i
   ·rw [q3, updC_same, hc]; rfl
   ·rw [updC_ne _ q3]
  ·obtain ⟨i', r, hi', hr, e0⟩ := slot_of hl (by omega : 8 ≤ a - off) (by omega)
   rw [e0, encG_slot _ hr]
   have ha : a = off + (8 + i' * sN l + r) := by omega
   by_cases q3 : i' = i
   ·subst q3
    rw [updC_same]
    by_cases q4 : eoN l ≤ r ∧ r < eoN l + eN l
    ·rw [lay_at (by omega) (by omega), show a - (off + (8 + i' * sN l + eoN l)) = r - eoN l by omega]
     have := encS_elem hl (t := t) (k := k) (e := e') (b := b) hk (i := r - eoN l) (by omega)
     rw [show eoN l + (r - eoN l) = r by omega] at this
     exact this.symm
    ·rw [lay_out (by omega), ha, h.slot hl hi' hr, hc]
     simp only [encS, parts, catM]
     rw [hk, zeroS_size, he, he']
     by_cases q5 : r < kN l
     ·rw [if_pos q5, if_pos q5]
     ·rw [if_neg q5, if_neg q5]
      by_cases q6 : r - kN l < eoN l - kN l
      ·rw [if_pos q6, if_pos q6]
      ·have q7 : ¬ r - kN l - (eoN l - kN l) < eN l := by omega
       rw [if_neg q6, if_neg q6, if_neg q7, if_neg q7]
   ·rw [updC_ne _ q3, lay_out, ha, h.slot hl hi' hr]
    rcases Nat.lt_or_ge i' i with q4 | q4
    ·have := Nat.mul_le_mul_right (sN l) (show i' + 1 ≤ i by omega); rw [Nat.add_mul] at this; omega
    ·have := Nat.mul_le_mul_right (sN l) (show i + 1 ≤ i' by omega); rw [Nat.add_mul] at this; omega
/-- All slots made empty. -/
theorem put_reset {m w : Nat → Int} {off : Nat} {l : Lay} (hl : LayN l) (hw : ∀ j, j < 8 → w j = 128) : layM (layM m off (gN l) (fun _ => 0)) off 8 w = layM m off (gN l) (encG l fun _ => .empty) := by
 funext a
 have hg := hl.g_eq
 by_cases q1 : a < off ∨ off + gN l ≤ a
 ·rw [lay_out (by omega), lay_out q1, lay_out q1]
 ·rw [lay_at (o := off) (k := gN l) (f := encG l fun _ => .empty) (by omega) (by omega)]
  by_cases q2 : a - off < 8
  ·rw [lay_at (by omega) (by omega), hw _ q2, encG_ctrl _ q2]; rfl
  ·rw [lay_out (by omega), lay_at (by omega) (by omega)]
   unfold encG; rw [if_neg q2]; try rfl
theorem GAt.lay {m : Nat → Int} {off : Nat} {l : Lay} (cs : Nat → Cell) : GAt (layM m off (gN l) (encG l cs)) off l cs := fun j hj => by
 rw [lay_at (by omega) (by omega)]; congr 1; omega
theorem GAt.out {m f : Nat → Int} {off o k : Nat} {l : Lay} {cs : Nat → Cell} (h : GAt m off l cs) (hd : off + gN l ≤ o ∨ o + k ≤ off) : GAt (layM m o k f) off l cs := fun j hj => by
 rw [lay_out (by omega)]; exact h j hj

/-- A number's bytes give it again. -/
theorem loadN_congr {m m' : Nat → Int} {o o' : Nat} : ∀ {k : Nat}, (∀ i, i < k → m (o + i) = m' (o' + i)) → loadN m o k = loadN m' o' k
 | 0, _ => rfl
 | k + 1, h => by simp only [loadN]; rw [h k (by omega), loadN_congr (k := k) fun i hi => h i (by omega)]
theorem loadN_byteN (v : Int) : ∀ k, loadN (byteN v) 0 k = v % 2 ^ (8 * k)
 | 0 => by simp [loadN]
 | k + 1 => by
  simp only [loadN, Nat.zero_add]
  rw [loadN_byteN v k]
  have hp : (0 : Int) < 2 ^ (8 * k) := Int.pow_pos (by decide)
  have e : (2 : Int) ^ (8 * (k + 1)) = 2 ^ (8 * k) * 256 := by rw [show 8 * (k + 1) = 8 * k + 8 by omega, Int.pow_add]; rfl
  rw [e]
  unfold byteN
  generalize (2 : Int) ^ (8 * k) = p at *
  have h1 := Int.mul_ediv_add_emod v p
  have h2 := Int.mul_ediv_add_emod (v / p) 256
  have h3 := Int.emod_nonneg v (by omega : p ≠ 0)
  have h4 := Int.emod_lt_of_pos v hp
  have h5 := Int.emod_nonneg (v / p) (by omega : (256 : Int) ≠ 0)
  have h6 := Int.emod_lt_of_pos (v / p) (by omega : (0 : Int) < 256)
  have key : v = p * 256 * (v / p / 256) + (v % p + v / p % 256 * p) := by
   have : p * (v / p) = p * (256 * (v / p / 256)) + p * (v / p % 256) := by rw [← Int.mul_add, h2]
   have a1 : p * (256 * (v / p / 256)) = p * 256 * (v / p / 256) := (Int.mul_assoc _ _ _).symm
   have a2 : p * (v / p % 256) = v / p % 256 * p := Int.mul_comm _ _
   omega
  have b1 : 0 ≤ v / p % 256 * p := Int.mul_nonneg h5 (by omega)
  have b2 : v / p % 256 * p ≤ 255 * p := Int.mul_le_mul_of_nonneg_right (by omega) (by omega)
  have hq : v % (p * 256) = v % p + v / p % 256 * p := by
   conv => lhs; rw [key]
   rw [Int.add_emod, Int.mul_emod_right, Int.zero_add, Int.emod_emod]
   exact Int.emod_eq_of_lt (by omega) (by omega)
  exact hq.symm
end Go.Proofs.YthkajgkagnenbaaGreatDoor.GroupB
end
