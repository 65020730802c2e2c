/- mem.Write: several slices of bytes laid one behind the other. -/
import Derived.Test.YtjekhcojebgpnaaMem
set_option linter.unusedVariables false
set_option linter.unusedSimpArgs false
set_option maxRecDepth 100000
namespace Go.Proofs.Ytjekhcojebgpnaa.Mem
open Go.RowKit Go.Proofs Go.Proofs.Ytjekhcojebgpnaa.Eng Go.Proofs.Ytjekhcojebgpnaa.Ty Go.Proofs.Ytjekhcojebgpnaa.Bits

/-- Slices that hold the bytes of these strings. -/
def bytesAll (vs : List Value) (ss : List ByteArray) : HP := stars (List.zipWith byteS vs ss)
theorem all_at {vs : List Value} {ss : List ByteArray} {M : List HP} {w : World} (h : Sat (stars (bytesAll vs ss :: M)) w) {i : Nat} {v : Value} {s : ByteArray} (hv : vs[i]? = some v) (hs : ss[i]? = some s) : ∃ M', Sat (stars (byteS v s :: M')) w := by
 have h1 := sat_all.1 h
 have hm : byteS v s ∈ List.zipWith byteS vs ss := by
  have : (List.zipWith byteS vs ss)[i]? = some (byteS v s) := by rw [List.getElem?_zipWith]; simp [hv, hs]
  exact List.mem_of_getElem? this
 obtain ⟨A, B, hAB⟩ := List.append_of_mem hm
 rw [hAB] at h1
 exact ⟨A ++ B ++ M, h1.perm (by
  rw [List.append_assoc, List.append_assoc]
  exact List.perm_middle)⟩
theorem reads_all {L M : List HP} {vs : List Value} {ss : List ByteArray} {i b cap n : Nat} {s : ByteArray} (ht : Take (bytesAll vs ss) L M) (hv : vs[i]? = some (.slice (some ⟨b, 0, none⟩) n cap)) (hs : ss[i]? = some s) : Reads L ⟨b, 0, none⟩ (bytesV s) := fun w hw j u hu => by
 obtain ⟨M', h⟩ := all_at (hw.take ht) hv hs
 have := reads_byteS (L := byteS (.slice (some ⟨b, 0, none⟩) n cap) s :: M') s.size .here w h j u
 rw [List.take_of_length_le (by rw [bytesV_len]; omega)] at this
 exact this hu

/-- The strings' bytes, one behind the other. -/
def byteAt (s : ByteArray) (i : Nat) : Int := if h : i < s.size then ((s[i]'h).toNat : Int) else 0
def catM : List ByteArray → Nat → Int
 | [], _ => 0
 | s :: r, i => if i < s.size then byteAt s i else catM r (i - s.size)
def totS : List ByteArray → Nat
 | [] => 0
 | s :: r => s.size + totS r
theorem tot_take {ss : List ByteArray} {j : Nat} {s : ByteArray} (h : ss[j]? = some s) : totS (ss.take (j + 1)) = totS (ss.take j) + s.size := by
 induction ss generalizing j with
 | nil => simp at h
 | cons x r ih =>
  cases j with
  | zero => simp at h; subst h; simp [totS]
  | succ j => simp only [List.getElem?_cons_succ] at h; simp only [List.take_succ_cons, totS, ih h]; omega
theorem tot_le (ss : List ByteArray) (j : Nat) : totS (ss.take j) ≤ totS ss := by
 induction ss generalizing j with
 | nil => simp [totS]
 | cons x r ih =>
  cases j with
  | zero => simp [totS]
  | succ j => simp only [List.take_succ_cons, totS]; have := ih j; omega
theorem cat_at {ss : List ByteArray} {j : Nat} {s : ByteArray} (h : ss[j]? = some s) {i : Nat} (hi : i < s.size) : catM ss (totS (ss.take j) + i) = byteAt s i := by
 induction ss generalizing j with
 | nil => simp at h
 | cons x r ih =>
  cases j with
  | zero => simp at h; subst h; simp [totS, catM, hi]
  | succ j =>
   simp only [List.getElem?_cons_succ] at h
   simp only [List.take_succ_cons, totS, catM]
   rw [if_neg (by omega), show x.size + totS (List.take j r) + i - x.size = totS (List.take j r) + i by omega]
   exact ih h
theorem bytesV_memV (s : ByteArray) : bytesV s = memV (byteAt s) s.size := by
 apply List.ext_getElem?
 intro i
 by_cases h : i < s.size
 ·rw [bytesV_get h, memV_at h]; simp [byteAt, h]
 ·rw [List.getElem?_eq_none (by rw [bytesV_len]; omega), List.getElem?_eq_none (by rw [memV_len]; omega)]
/-- The next string behind those that have been laid. -/
theorem lay_cat {m : Nat → Int} {ss : List ByteArray} {j o n cap : Nat} {s : ByteArray} (h : ss[j]? = some s) (hn : o + totS ss ≤ n) (hc : n ≤ cap) :
  lay (memV (layM m o (totS (ss.take j)) (catM ss)) n) (tailAt 0 (o + totS (ss.take j)) cap) (bytesV s) = memV (layM m o (totS (ss.take (j + 1))) (catM ss)) n := by
 have ht := tot_take h
 have hle := tot_le ss (j + 1)
 rw [bytesV_memV, lay_tail (by omega) hc]
 congr 1
 funext i
 simp only [layM, ht]
 by_cases q : o + totS (ss.take j) ≤ i ∧ i < o + totS (ss.take j) + s.size
 ·rw [if_pos q, if_pos (by omega)]
  have := cat_at h (i := i - (o + totS (ss.take j))) (by omega)
  rw [show totS (ss.take j) + (i - (o + totS (ss.take j))) = i - o by omega] at this
  exact this.symm
 ·rw [if_neg q]
  by_cases q2 : o ≤ i ∧ i < o + totS (ss.take j)
  ·rw [if_pos q2, if_pos (by omega)]
  ·rw [if_neg q2, if_neg (by omega)]

theorem Write_ok (pm g n cap off p k kc : Nat) (m : Nat → Int) (vs : List Value) (ss : List ByteArray) (hn : n ≤ 134217728) (hc : n ≤ cap) (hk : ss.length = k) (hkb : k ≤ 1000000) (ho : off + totS ss ≤ n) :
  FnOk Try.prog 75 #[.pointer (some ⟨pm, 0, none⟩), .int .i64 off, .slice (some ⟨p, 0, none⟩) k kc] [pt pm (.cells #[.slice (some ⟨g, 0, none⟩) n cap] 116 (0, 0)), ownS 5 1 (.slice (some ⟨g, 0, none⟩) n cap) n (memV m n), ownS 63 1 (.slice (some ⟨p, 0, none⟩) k kc) k vs, bytesAll vs ss]
   (fun r L => r = .int .i64 0 ∧ L = [pt pm (.cells #[.slice (some ⟨g, 0, none⟩) n cap] 116 (0, 0)), ownS 5 1 (.slice (some ⟨g, 0, none⟩) n cap) n (memV (layM m off (totS ss) (catM ss)) n), ownS 63 1 (.slice (some ⟨p, 0, none⟩) k kc) k vs, bytesAll vs ss]) := by
 refine fn_intro en75 Try.func75 rfl rfl rfl fun Fr w0 => t_nm ?_
 refine t_pure (φ := vs.length = k ∧ ∀ (i : Nat) (s : ByteArray), ss[i]? = some s → ∃ b c, vs[i]? = some (Value.slice (some ⟨b, 0, none⟩) s.size c)) (fun w hw => ?_) fun ⟨hvl, hsh⟩ => ?_
 ·obtain ⟨h1, _⟩ := own_shape (hw.take (.there (.there .here)))
  rw [Nat.mul_one] at h1
  refine ⟨h1, fun i s hs => ?_⟩
  have hlt := (List.getElem?_eq_some_iff.1 hs).1
  have hv : vs[i]? = some (vs[i]'(by omega)) := List.getElem?_eq_getElem _
  obtain ⟨M', h2⟩ := all_at (hw.take (.there (.there (.there .here)))) hv hs
  obtain ⟨b, c, _, _, _, h3, _⟩ := byteS_open h2
  exact ⟨b, c, by rw [hv, h3]⟩
 refine sr<|asg O O<|lz<|asg O O<|lc<|t_seq<|sr<|mv O O<|l_q O (ql O yU137)<|mv O O<|lc<|t_block ?_
 refine t_loop (fun j : Nat => j ≤ k) (fun j => [(0, .pointer (some ⟨pm, 0, none⟩)), (1, .int .i64 off), (2, .slice (some ⟨p, 0, none⟩) k kc), (12, .slice (some ⟨p, 0, none⟩) k kc), (13, .int .i64 k), (14, .int .i64 j), (7, .int .i64 (totS (ss.take j)))]) (fun _ => pt pm (.cells #[.slice (some ⟨g, 0, none⟩) n cap] 116 (0, 0)) :: ownS 5 1 (.slice (some ⟨g, 0, none⟩) n cap) n (memV m n) :: ownS 63 1 (.slice (some ⟨p, 0, none⟩) k kc) k vs :: bytesAll vs ss :: Fr) (fun j => k - j) 0 (by omega) ⟨rfl, rfl, rfl, rfl, rfl, rfl, rfl, trivial⟩ (Ent.refl _) ?_
 intro j hj
 have hle := tot_le ss (j + 1)
 refine sr<|l_q O (qi O O (b_lss ·))<|lc<|t_seq<|t_if O (fun h => ?_) fun h => ?_
 ·have hjl : j < ss.length := by omega
  obtain ⟨b, c', hvj⟩ := hsh j ss[j] (List.getElem?_eq_getElem hjl)
  have htt := tot_take (List.getElem?_eq_getElem hjl)
  refine t_skip<|n_code<|t_seq<|t_block<|sr<|l_q O (q_indexAddr1 O O yU137 yS63 (by omega)) ?_
  apply l_q O
  ·apply q_loadOwn O yA63
   ·exact tk
   ·rw [Nat.zero_add, Int.toNat_natCast]; exact hvj
  refine asg O O<|lr<|mv O O<|mv O O<|l_q O (ql O yU63)<|l_q O (qadd O O) ?_
  refine asg O O<|l_nil<|n_blk<|n_code<|t_region<|l_q O (qadd O O) ?_
  refine mv O O<|l_nil ?_
  apply n_again ((j + 1))
  ·exact (show j + 1 ≤ k by omega)
  ·omega
  ·exact ⟨rfl, rfl, rfl, rfl, rfl, rfl, by rw [htt, Int.natCast_add]; rfl, trivial⟩
  ·exact en
 ·refine xt O<|n_code<|t_seq<|sr<|mv O O<|mv O O<|mv O O ?_
  obtain rfl : j = k := by omega
  rw [← hk, List.take_length]
  refine lc1 O O O (inside_ok pm g n cap m _ _ hn) ?_
  refine l_q O (q_un O (u_not ·))<|lc<|t_if O (fun z => ?_) fun z => ?_
  ·simp at z; omega
  ·refine t_skip<|n_code<|t_seq<|sr<|mv O O<|l_q O (ql O yU137)<|mv O O<|lc<|t_block ?_
   refine t_loop (fun i : Nat => i ≤ ss.length) (fun i => [(0, .pointer (some ⟨pm, 0, none⟩)), (1, .int .i64 (off + (totS (ss.take i) : Nat))), (28, .slice (some ⟨p, 0, none⟩) ss.length kc), (29, .int .i64 ss.length), (30, .int .i64 i)]) (fun i => pt pm (.cells #[.slice (some ⟨g, 0, none⟩) n cap] 116 (0, 0)) :: ownS 5 1 (.slice (some ⟨g, 0, none⟩) n cap) n (memV (layM m off (totS (ss.take i)) (catM ss)) n) :: ownS 63 1 (.slice (some ⟨p, 0, none⟩) ss.length kc) ss.length vs :: bytesAll vs ss :: Fr) (fun i => ss.length - i) 0 (by omega) ⟨rfl, by simp [totS]; rfl, rfl, rfl, rfl, trivial⟩ (by simp only [List.take_zero, totS, lay_zero]; exact Ent.refl _) ?_
   intro j hj
   have hle := tot_le ss (j + 1)
   refine sr<|l_q O (qi O O (b_lss ·))<|lc<|t_seq<|t_if O (fun h => ?_) fun h => ?_
   ·have hjl : j < ss.length := by omega
    obtain ⟨b, c', hvj⟩ := hsh j ss[j] (List.getElem?_eq_getElem hjl)
    have htt := tot_take (List.getElem?_eq_getElem hjl)
    have hbl := bytesV_len ss[j]
    have hbl' : (ss[j].size : Int) = ((bytesV ss[j]).length : Int) := by rw [hbl]
    refine t_skip<|n_code<|t_seq<|t_block<|sr<|l_q O (q_indexAddr1 O O yU137 yS63 (by omega)) ?_
    apply l_q O
    ·apply q_loadOwn O yA63
     ·exact tk
     ·rw [Nat.zero_add, Int.toNat_natCast]; exact hvj
    refine asg O O<|lr<|mv O O<|mv O O<|l_q O (q_nilCheck O)<|l_q O (qfa 0 O yU116 O O yS63)<|l_q O (qld O yA63) ?_
    refine mv O O<|l_q O (q_slice_l O O  yU63 yS5 (by omega)) ?_
    refine mv O O ?_
    apply o_copy (bytesV ss[j]) rfl rfl rfl Try.underlying63 (by obtain ⟨i, h1, _, h2, _⟩ := yI5; exact ⟨i, h1, h2⟩)
    ·exact tk
    ·rw [bytesV_len, show ((off : Int) + (totS (ss.take j) : Nat)).toNat = off + totS (ss.take j) by omega]; exact (Nat.min_eq_left (by omega)).symm
    ·exact reads_all (i := j) (.there (.there (.there .here))) hvj (List.getElem?_eq_getElem hjl)
    ·rw [bytesV_len, show ((off : Int) + (totS (ss.take j) : Nat)).toNat = off + totS (ss.take j) by omega]; exact tail_le (by omega) hc
    ·exact bytesV_one _
    refine l_q O (qadd O O) ?_
    refine asg O O<|l_nil<|n_blk<|n_code<|t_region<|l_q O (qadd O O) ?_
    refine mv O O<|l_nil ?_
    rw [show ((off : Int) + (totS (ss.take j) : Nat)).toNat = off + totS (ss.take j) by omega, lay_cat (List.getElem?_eq_getElem hjl) ho hc]
    apply n_again ((j + 1))
    ·exact (show j + 1 ≤ ss.length by omega)
    ·omega
    ·exact ⟨rfl, by rw [htt, Int.natCast_add, hbl', ← Int.add_assoc]; rfl, rfl, rfl, rfl, trivial⟩
    ·exact en
   ·refine xt O<|nz<|asg O O<|lc<|rt ?_
    obtain rfl : j = ss.length := by omega
    rw [List.take_length]
    exact fr1 O ([pt pm (.cells #[.slice (some ⟨g, 0, none⟩) n cap] 116 (0, 0)), ownS 5 1 (.slice (some ⟨g, 0, none⟩) n cap) n (memV (layM m off (totS ss) (catM ss)) n), ownS 63 1 (.slice (some ⟨p, 0, none⟩) ss.length kc) ss.length vs, bytesAll vs ss]) (.tmp rfl) ⟨rfl, rfl⟩
end Go.Proofs.Ytjekhcojebgpnaa.Mem
