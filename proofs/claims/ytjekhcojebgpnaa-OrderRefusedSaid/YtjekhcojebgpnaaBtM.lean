import Derived.Test.YtjekhcojebgpnaaLayout
import Derived.Test.YtjekhcojebgpnaaMemW
import Derived.Test.YtjekhcojebgpnaaSearch
import Derived.Test.YtjekhcojebgpnaaBtN
import Derived.Test.YtjekhcojebgpnaaArenaF
section
/- A group's bytes as a function of what its eight slots hold. No program. -/
set_option linter.unusedVariables false
set_option linter.unusedSimpArgs false
set_option maxRecDepth 100000
namespace Go.Proofs.Ytjekhcojebgpnaa.GroupB
open Go.RowKit Go.Proofs Go.Proofs.Ytjekhcojebgpnaa.Eng Go.Proofs.Ytjekhcojebgpnaa.Bits Go.Proofs.Ytjekhcojebgpnaa.Layout Go.Proofs.Ytjekhcojebgpnaa.Mem Go.Proofs.Ytjekhcojebgpnaa.CtrlB

/-- The layout's numbers as natural ones. -/
def kN (l : Lay) : Nat := l.key.toNat
def eN (l : Lay) : Nat := l.elem.toNat
def eoN (l : Lay) : Nat := l.eo.toNat
def boN (l : Lay) : Nat := l.bo.toNat
def sN (l : Lay) : Nat := l.slot.toNat
def gN (l : Lay) : Nat := l.group.toNat
structure LayN (l : Lay) : Prop where
  k : ((kN l : Nat) : Int) = l.key
  e : ((eN l : Nat) : Int) = l.elem
  eo : ((eoN l : Nat) : Int) = l.eo
  bo : ((boN l : Nat) : Int) = l.bo
  s : ((sN l : Nat) : Int) = l.slot
  g : ((gN l : Nat) : Int) = l.group
  s_eq : sN l = boN l + 8
  g_eq : gN l = 8 + 8 * sN l
  k1 : 1 ≤ kN l ∧ kN l ≤ 128
  e1 : eN l ≤ 128
  eo1 : kN l ≤ eoN l ∧ eoN l ≤ kN l + 7
  bo1 : eoN l + eN l ≤ boN l ∧ boN l ≤ eoN l + eN l + 7
theorem layN {l : Lay} (h : l.err = 0) : LayN l := by
  have b := Lay.bnd h
  have e1 := raise_bnd (n := l.key) (a := l.ea) (by omega) (by omega)
  have e2 := raise_bnd (n := l.eo + l.elem) (a := 8) (by omega) (by omega)
  have q1 : l.eo = raiseI l.key l.ea := rfl
  have q2 : l.bo = raiseI (l.eo + l.elem) 8 := rfl
  constructor <;> simp only [kN, eN, eoN, boN, sN, gN] <;> omega

/-- What a slot holds. -/
inductive Cell where
  | empty
  | deleted
  | full (tag : Int) (key elem : ByteArray) (birth : Int)
def Cell.ok (l : Lay) : Cell → Prop
  | .full t k e b => 0 ≤ t ∧ t < 128 ∧ k.size = kN l ∧ e.size = eN l ∧ 0 ≤ b ∧ b < 9223372036854775808
  | _ => True
def Cell.ctrl : Cell → Int
  | .empty => 128
  | .deleted => 254
  | .full t _ _ _ => t
/-- So many zero bytes; a number's eight bytes. -/
def zeroS (n : Nat) : ByteArray := ⟨(List.replicate n (0 : UInt8)).toArray⟩
def numS (b : Int) : ByteArray := strM (byteN b) 0 8
theorem strM_size (m : Nat → Int) (o k : Nat) : (strM m o k).size = k := by simp [strM, ByteArray.size]
theorem byteAt_strM {m : Nat → Int} (hm : ∀ i, 0 ≤ m i ∧ m i < 256) (o k : Nat) {i : Nat} (h : i < k) : byteAt (strM m o k) i = m (o + i) := by
  unfold byteAt
  rw [dif_pos (by rw [strM_size]; exact h)]
  have := hm (o + i)
  simp only [strM, ByteArray.getElem_eq_getElem_data, List.getElem_toArray, List.getElem_map, List.getElem_range, UInt8.toNat_ofNat']
  omega
theorem byteAt_bnd (s : ByteArray) (i : Nat) : 0 ≤ byteAt s i ∧ byteAt s i < 256 := by
  unfold byteAt
  split
  · next h => have := (s[i]'h).toNat_lt; omega
  · omega
/-- Strings are equal where their bytes are. -/
theorem str_ext {s t : ByteArray} (hs : s.size = t.size) (h : ∀ i, i < s.size → byteAt s i = byteAt t i) : s = t := by
  apply ByteArray.ext
  apply Array.ext
  · exact hs
  · intro i h1 h2
    have := h i h1
    unfold byteAt at this
    rw [dif_pos (show i < s.size from h1), dif_pos (show i < t.size from h2)] at this
    simp only [ByteArray.getElem_eq_getElem_data] at this
    exact UInt8.toNat_inj.1 (by exact_mod_cast this)
theorem strM_eq {m : Nat → Int} (hm : ∀ i, 0 ≤ m i ∧ m i < 256) {o : Nat} {s : ByteArray} (h : ∀ i, i < s.size → m (o + i) = byteAt s i) : strM m o s.size = s :=
  str_ext (strM_size _ _ _) fun i hi => by rw [strM_size] at hi; rw [byteAt_strM hm _ _ hi]; exact h i hi

/-- The parts of a full slot. -/
def parts (l : Lay) (k e : ByteArray) (b : Int) : List ByteArray := [k, zeroS (eoN l - kN l), e, zeroS (boN l - eoN l - eN l), numS b]
/-- A slot's bytes. -/
def encS (l : Lay) (c : Cell) (r : Nat) : Int := match c with
  | .full _ k e b => catM (parts l k e b) r
  | _ => 0
/-- A group's bytes. -/
def encG (l : Lay) (cs : Nat → Cell) (j : Nat) : Int := if j < 8 then (cs j).ctrl else encS l (cs ((j - 8) / sN l)) ((j - 8) % sN l)
theorem encG_ctrl {l : Lay} (cs : Nat → Cell) {i : Nat} (h : i < 8) : encG l cs i = (cs i).ctrl := by unfold encG; rw [if_pos h]
theorem slot_div {s i r : Nat} (hr : r < s) : (i * s + r) / s = i ∧ (i * s + r) % s = r := by
  constructor
  · rw [Nat.add_comm, Nat.add_mul_div_right _ _ (by omega), Nat.div_eq_of_lt hr]; omega
  · rw [Nat.add_comm, Nat.add_mul_mod_self_right, Nat.mod_eq_of_lt hr]
theorem encG_slot {l : Lay} (cs : Nat → Cell) {i r : Nat} (hr : r < sN l) : encG l cs (8 + i * sN l + r) = encS l (cs i) r := by
  unfold encG
  obtain ⟨h1, h2⟩ := slot_div (i := i) hr
  rw [if_neg (by omega), show 8 + i * sN l + r - 8 = i * sN l + r by omega, h1, h2]
/-- The group's bytes lie at off. -/
def GAt (m : Nat → Int) (off : Nat) (l : Lay) (cs : Nat → Cell) : Prop := ∀ j, j < gN l → m (off + j) = encG l cs j
theorem GAt.ctrl {m : Nat → Int} {off : Nat} {l : Lay} {cs : Nat → Cell} (h : GAt m off l cs) (hl : LayN l) {i : Nat} (hi : i < 8) : m (off + i) = (cs i).ctrl := by
  rw [h i (by have := hl.g_eq; have := hl.s_eq; omega), encG_ctrl cs hi]
theorem slot_in {l : Lay} (hl : LayN l) {i r : Nat} (hi : i < 8) (hr : r < sN l) : 8 + i * sN l + r < gN l := by
  have h1 : i * sN l ≤ 7 * sN l := Nat.mul_le_mul_right _ (by omega)
  have := hl.g_eq
  omega
theorem GAt.slot {m : Nat → Int} {off : Nat} {l : Lay} {cs : Nat → Cell} (h : GAt m off l cs) (hl : LayN l) {i r : Nat} (hi : i < 8) (hr : r < sN l) : m (off + (8 + i * sN l + r)) = encS l (cs i) r := by
  rw [h _ (slot_in hl hi hr), encG_slot cs hr]
theorem lay_at {m f : Nat → Int} {o k a : Nat} (h1 : o ≤ a) (h2 : a < o + k) : layM m o k f a = f (a - o) := by unfold layM; rw [if_pos ⟨h1, h2⟩]
theorem lay_out {m f : Nat → Int} {o k a : Nat} (h : a < o ∨ o + k ≤ a) : layM m o k f a = m a := by unfold layM; rw [if_neg (by omega)]
theorem GAt.lay {m : Nat → Int} {off : Nat} {l : Lay} (cs : Nat → Cell) : GAt (layM m off (gN l) (encG l cs)) off l cs := fun j hj => by
  rw [lay_at (by omega) (by omega)]; congr 1; omega
theorem GAt.out {m f : Nat → Int} {off o k : Nat} {l : Lay} {cs : Nat → Cell} (h : GAt m off l cs) (hd : off + gN l ≤ o ∨ o + k ≤ off) : GAt (layM m o k f) off l cs := fun j hj => by
  rw [lay_out (by omega)]; exact h j hj

/-- A number's bytes give it again. -/
theorem loadN_congr {m m' : Nat → Int} {o o' : Nat} : ∀ {k : Nat}, (∀ i, i < k → m (o + i) = m' (o' + i)) → loadN m o k = loadN m' o' k
  | 0, _ => rfl
  | k + 1, h => by simp only [loadN]; rw [h k (by omega), loadN_congr (k := k) fun i hi => h i (by omega)]
theorem loadN_byteN (v : Int) : ∀ k, loadN (byteN v) 0 k = v % 2 ^ (8 * k)
  | 0 => by simp [loadN]
  | k + 1 => by
    simp only [loadN, Nat.zero_add]
    rw [loadN_byteN v k]
    have hp : (0 : Int) < 2 ^ (8 * k) := Int.pow_pos (by decide)
    have e : (2 : Int) ^ (8 * (k + 1)) = 2 ^ (8 * k) * 256 := by rw [show 8 * (k + 1) = 8 * k + 8 by omega, Int.pow_add]; rfl
    rw [e]
    unfold byteN
    generalize (2 : Int) ^ (8 * k) = p at *
    have h1 := Int.mul_ediv_add_emod v p
    have h2 := Int.mul_ediv_add_emod (v / p) 256
    have h3 := Int.emod_nonneg v (by omega : p ≠ 0)
    have h4 := Int.emod_lt_of_pos v hp
    have h5 := Int.emod_nonneg (v / p) (by omega : (256 : Int) ≠ 0)
    have h6 := Int.emod_lt_of_pos (v / p) (by omega : (0 : Int) < 256)
    have key : v = p * 256 * (v / p / 256) + (v % p + v / p % 256 * p) := by
      have : p * (v / p) = p * (256 * (v / p / 256)) + p * (v / p % 256) := by rw [← Int.mul_add, h2]
      have a1 : p * (256 * (v / p / 256)) = p * 256 * (v / p / 256) := (Int.mul_assoc _ _ _).symm
      have a2 : p * (v / p % 256) = v / p % 256 * p := Int.mul_comm _ _
      omega
    have b1 : 0 ≤ v / p % 256 * p := Int.mul_nonneg h5 (by omega)
    have b2 : v / p % 256 * p ≤ 255 * p := Int.mul_le_mul_of_nonneg_right (by omega) (by omega)
    have hq : v % (p * 256) = v % p + v / p % 256 * p := by
      conv => lhs; rw [key]
      rw [Int.add_emod, Int.mul_emod_right, Int.zero_add, Int.emod_emod]
      exact Int.emod_eq_of_lt (by omega) (by omega)
    exact hq.symm
end Go.Proofs.Ytjekhcojebgpnaa.GroupB
end
section
/- A balanced tree in an arena's bytes: what its nodes' blocks hold. No program's code. -/
set_option linter.unusedVariables false
set_option linter.unusedSimpArgs false
set_option linter.unusedSectionVars false
namespace Go.Proofs.Ytjekhcojebgpnaa.Bt
open Go.RowKit Go.Proofs Go.Proofs.Ytjekhcojebgpnaa.Eng Go.Proofs.Ytjekhcojebgpnaa.Bits Go.Proofs.Ytjekhcojebgpnaa.Mem Go.Proofs.Ytjekhcojebgpnaa.Layout Go.Proofs.Ytjekhcojebgpnaa.Arena Go.Proofs.Ytjekhcojebgpnaa.GroupB
theorem pad_full {A : Type} {a : A} {n : Nat} {l : List A} (h : l.length = n) : pad a n l = l := by simp [pad, h]
theorem pad_bnd {K : List Nat} {i k B : Nat} (hK : K.length ≤ 8) (hB : 0 < B) (h : ∀ k ∈ K, k < B) (hk : (pad 0 8 K)[i]? = some k) : k < B := by
  rw [pad_get hK] at hk
  split at hk
  · exact h k (List.mem_of_getElem? hk)
  · split at hk
    · cases hk; exact hB
    · cases hk
/-- The bytes of a pair; of a node; of a node's block. -/
def wN (l : Lay) : Nat := kN l + eN l
def nbN (l : Lay) : Nat := 96 + 7 * wN l
def nC (l : Lay) : Int := classI ((nbN l : Nat) : Int)
/-- A pair of the layout's widths. -/
def szs (l : Lay) (p : Pr) : Prop := p.1.size = kN l ∧ p.2.size = eN l
theorem wN_bnd {l : Lay} (hl : l.err = 0) : 1 ≤ wN l ∧ wN l ≤ 256 ∧ ((wN l : Nat) : Int) = l.key + l.elem := by
  have h := layN hl
  have := h.k; have := h.e; have := h.k1; have := h.e1
  unfold wN
  omega
theorem nb_bnd {l : Lay} (hl : l.err = 0) : 103 ≤ nbN l ∧ nbN l ≤ 1888 ∧ ((nbN l : Nat) : Int) ≤ nC l ∧ nC l ≤ 2048 ∧ 103 ≤ nC l ∧ nC l ∈ classes := by
  have h := wN_bnd hl
  have h1 : 103 ≤ nbN l ∧ nbN l ≤ 1888 := by unfold nbN; omega
  have h2 := classI_bnd (n := ((nbN l : Nat) : Int)) (by omega)
  have h3 : nC l ≤ 2048 := by
    unfold nC
    have : ∀ n : Int, n ≤ 2048 → classI n ≤ 2048 := fun n hn => by
      have ht : twoI n ≤ 2048 := by
        unfold twoI
        cases e : (List.range 17).find? (fun e => decide (n ≤ 16 * 2 ^ e)) with
        | none => simp
        | some k =>
          rw [List.find?_range_eq_some] at e
          have h7 := e.2.2 7
          rcases Nat.lt_or_ge 7 k with q | q
          · have := h7 q; simp at this; omega
          · show (16 : Int) * 2 ^ k ≤ 2048
            have : (2 : Nat) ^ k ≤ 2 ^ 7 := Nat.pow_le_pow_right (by decide) q
            have hc := pow_cast k
            omega
      unfold classI
      split
      · omega
      · split <;> omega
    exact this _ (by omega)
  have h4 := h2.2.2 (by omega)
  refine ⟨h1.1, h1.2, h4.1, h3, ?_, class_mem (by omega) (by omega)⟩
  show (103 : Int) ≤ classI _
  have := h4.1
  omega
section
variable {m m' f : Nat → Int} {o o' k n : Nat}
theorem load_at {v : Int} (hv : 0 ≤ v ∧ v < 18446744073709551616) : loadN (layM m o 8 (byteN v)) o 8 = v := by
  have h : loadN (layM m o 8 (byteN v)) o 8 = loadN (byteN v) 0 8 := loadN_congr fun i hi => by rw [lay_at (by omega) (by omega)]; congr 1; omega
  rw [h, loadN_byteN]
  exact Int.emod_eq_of_lt hv.1 (by have : (2 : Int) ^ (8 * 8) = 18446744073709551616 := by decide
                                   omega)
theorem load_out (h : o + n ≤ o' ∨ o' + k ≤ o) : loadN (layM m o' k f) o n = loadN m o n := loadN_congr fun i hi => by rw [lay_out (by omega)]
theorem strM_same (h : ∀ i, i < k → m (o + i) = m' (o + i)) : strM m o k = strM m' o k := by
  unfold strM
  congr 2
  refine List.map_congr_left fun i hi => ?_
  rw [h i (List.mem_range.1 hi)]
end
/-- A node's bytes: its pairs, whether it is a leaf, the nodes below it, how many keys are in it and below. -/
structure NodeM (l : Lay) (m : Nat → Int) (o : Nat) (ps : List Pr) (leaf : Bool) (K : List Nat) (tot : Nat) : Prop where
  cnt : loadN m o 8 = ((ps.length : Nat) : Int)
  leaf : loadN m (o + 8) 8 = if leaf then 1 else 0
  tot : loadN m (o + 16) 8 = ((tot : Nat) : Int)
  kid : ∀ i k, (pad 0 8 K)[i]? = some k → loadN m (o + 24 + 8 * i) 8 = ((k : Nat) : Int)
  par : ∀ i p, ps[i]? = some p → strM m (o + 96 + i * wN l) (wN l) = p.1 ++ p.2
/-- The bytes of a block are the same. -/
def SameAt (l : Lay) (m m' : Nat → Int) (o : Nat) : Prop := ∀ a, o ≤ a → a < o + nbN l → m' a = m a
theorem NodeM.same {l : Lay} {m m' : Nat → Int} {o : Nat} {ps : List Pr} {leaf : Bool} {K : List Nat} {tot : Nat} (h : NodeM l m o ps leaf K tot) (hp : ps.length ≤ 7) (hk : K.length ≤ 8) (he : SameAt l m m' o) : NodeM l m' o ps leaf K tot := by
  have h1 : ∀ x, x + 8 ≤ nbN l → loadN m' (o + x) 8 = loadN m (o + x) 8 := fun x hx => loadN_congr fun i hi => he _ (by omega) (by omega)
  have hn : nbN l = 96 + 7 * wN l := rfl
  refine ⟨?_, ?_, ?_, fun i k hi => ?_, fun i p hi => ?_⟩
  · have := h1 0 (by omega); rw [Nat.add_zero] at this; rw [this]; exact h.cnt
  · rw [h1 8 (by omega)]; exact h.leaf
  · rw [h1 16 (by omega)]; exact h.tot
  · have hi8 : i < 8 := by have := (List.getElem?_eq_some_iff.1 hi).1; rw [pad_len hk] at this; exact this
    rw [Nat.add_assoc, h1 _ (by omega), ← Nat.add_assoc]; exact h.kid i k hi
  · have hi7 : i < 7 := by have := (List.getElem?_eq_some_iff.1 hi).1; omega
    have hm : i * wN l + wN l ≤ 7 * wN l := by rw [← Nat.succ_mul]; exact Nat.mul_le_mul_right _ (by omega)
    rw [strM_same (m' := m) fun j hj => he _ (by omega) (by omega)]
    exact h.par i p hi
/-- A tree's bytes; h: how many levels lie below the node. -/
def TreeM (l : Lay) (m : Nat → Int) : Nat → BT → Prop
  | 0, t => NodeM l m t.o t.ps true (t.ks.map BT.o) (tot 0 t)
  | h + 1, t => NodeM l m t.o t.ps false (t.ks.map BT.o) (tot (h + 1) t) ∧ ∀ k ∈ t.ks, TreeM l m h k
theorem TreeM.node {l : Lay} {m : Nat → Int} : ∀ {h : Nat} {t : BT}, TreeM l m h t → NodeM l m t.o t.ps (decide (h = 0)) (t.ks.map BT.o) (tot h t)
  | 0, _, q => q
  | _ + 1, _, q => q.1
theorem ks_len : ∀ {h lo : Nat} {t : BT}, ok h lo t → (t.ks.map BT.o).length ≤ 8
  | 0, lo, t, q => by rw [q.2.2]; simp
  | h + 1, lo, t, q => by have := q.2.1; have := q.2.2.1; rw [List.length_map]; omega
theorem TreeM.same {l : Lay} {m m' : Nat → Int} : ∀ {h lo : Nat} {t : BT}, TreeM l m h t → ok h lo t → (∀ o ∈ offs h t, SameAt l m m' o) → TreeM l m' h t
  | 0, lo, t, q, hk, he => NodeM.same q hk.2.1 (ks_len hk) (he _ (by simp [offs]))
  | h + 1, lo, t, q, hk, he => ⟨NodeM.same q.1 hk.2.1 (ks_len hk) (he _ (by simp [offs])), fun k hm => TreeM.same (q.2 k hm) (hk.2.2.2 k hm) fun o ho => he o (by
      simp only [offs, List.mem_cons, List.mem_flatten, List.mem_map]
      exact .inr ⟨_, ⟨k, hm, rfl⟩, ho⟩)⟩
/-- The tree: none, or how many levels lie below its root, and the root. -/
abbrev TX := Option (Nat × BT)
namespace TX
def L : TX → List Pr | none => [] | some x => lst x.1 x.2
def root : TX → Nat | none => 0 | some x => x.2.o
def height : TX → Nat | none => 0 | some x => x.1 + 1
def offs : TX → List Nat | none => [] | some x => Bt.offs x.1 x.2
end TX
def blkN (l : Lay) (o : Nat) : Int × Int := (((o : Nat) : Int), nC l)
/-- The tree's own blocks. -/
def ownB (l : Lay) (off : Nat) (x : TX) : List (Int × Int) := (((off : Nat) : Int), 64) :: x.offs.map (blkN l)
/-- What holds of a tree whose header lies at off; R: the arena's other blocks. -/
structure TrOk (l : Lay) (s : ArS) (off : Nat) (x : TX) (R : List (Int × Int)) : Prop where
  bl : s.bl.Perm (ownB l off x ++ R)
  w0 : loadN s.m off 8 = ((x.L.length : Nat) : Int)
  w1 : loadN s.m (off + 8) 8 = ((x.root : Nat) : Int)
  w2 : loadN s.m (off + 16) 8 = ((x.height : Nat) : Int)
  w3 : loadN s.m (off + 24) 8 = ((x.offs.length : Nat) : Int)
  tree : ∀ h t, x = some (h, t) → ok h 1 t ∧ TreeM l s.m h t
  sl : SL x.L
  sz : ∀ p ∈ x.L, szs l p
section
variable {l : Lay} {s : ArS} {off : Nat} {x : TX} {R : List (Int × Int)}
theorem good_in {o c : Int} {a k : Int} (h : (o, c) ∈ s.bl) (h1 : o ≤ a) (hk : 0 ≤ k) (h2 : a + k ≤ o + c) : goodP s a k := ⟨hk, (o, c), h, h1, h2⟩
theorem TrOk.hdr (h : TrOk l s off x R) : (((off : Nat) : Int), 64) ∈ s.bl := h.bl.mem_iff.2 (by simp [ownB])
theorem TrOk.mem (h : TrOk l s off x R) {o : Nat} (ho : o ∈ x.offs) : blkN l o ∈ s.bl := h.bl.mem_iff.2 (by simp only [ownB, List.cons_append, List.mem_cons, List.mem_append, List.mem_map]; exact .inr (.inl ⟨o, ho, rfl⟩))
end
end Go.Proofs.Ytjekhcojebgpnaa.Bt
end
