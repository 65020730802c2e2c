/- Contracts of package order: a node as it is read, as it is laid; the header. -/
import Derived.Test.YtjekhcojebgpnaaBtF
import Derived.Test.YtjekhcojebgpnaaBtM
import Derived.Test.YtjekhcojebgpnaaArenaD
import Derived.Test.YtjekhcojebgpnaaEngDefer
set_option linter.unusedVariables false
set_option linter.unusedSimpArgs false
set_option maxRecDepth 100000
namespace Go.Proofs.Ytjekhcojebgpnaa.Bt
open Go.RowKit Go.Proofs Go.Proofs.Ytjekhcojebgpnaa.Eng Go.Proofs.Ytjekhcojebgpnaa.Ty Go.Proofs.Ytjekhcojebgpnaa.Bits Go.Proofs.Ytjekhcojebgpnaa.Mem Go.Proofs.Ytjekhcojebgpnaa.Search Go.Proofs.Ytjekhcojebgpnaa.Layout Go.Proofs.Ytjekhcojebgpnaa.Arena Go.Proofs.Ytjekhcojebgpnaa.GroupB
/-- The same arena with other bytes. -/
def wm (s : ArS) (m : Nat → Int) : ArS := { s with m := m }
theorem put_wm (s : ArS) (m : Nat → Int) (o k : Nat) (f : Nat → Int) : (wm s m).put o k f = wm s (layM m o k f) := rfl
theorem wm_self (s : ArS) : wm s s.m = s := rfl
theorem wm_bl (s : ArS) (m : Nat → Int) : (wm s m).bl = s.bl := rfl
theorem wm_m (s : ArS) (m : Nat → Int) : (wm s m).m = m := rfl
theorem wm_wm (s : ArS) (m m' : Nat → Int) : wm (wm s m) m' = wm s m' := rfl
theorem good_wm {s : ArS} {m : Nat → Int} {a k : Int} (h : goodP s a k) : goodP (wm s m) a k := h
section
variable (pa : Nat) (off : Int) (s : ArS) (l : Lay)
theorem word_okT (oI : Int) (o : Nat) (x : Int) (ho : oI = (o : Nat)) (hg : goodP s oI 8) (hx : loadN s.m o 8 = x) (hb : 0 ≤ x ∧ x < 9223372036854775808) :
  FnOk Try.prog 42 #[.agg #[.pointer (some ⟨pa, 0, none⟩), .int .i64 l.key, .int .i64 l.elem, .int .i64 l.ka, .int .i64 l.ea, .int .i64 l.cap, .int .i64 l.eo, .int .i64 l.bo, .int .i64 l.slot, .int .i64 l.group, .int .i64 off], .int .i64 oI] [arenaH pa s] (fun v L => v = .int .i64 x ∧ L = [arenaH pa s]) := by
 subst hx
 refine fn_intro en42 Try.func42 rfl rfl rfl fun Fr w0 => t_nm ?_
 refine sr<|o_boxA O O fun b2 => asg O O<|lz<|l_q O (qfa 0 O yU27 O O yS23)<|l_q O (qld O yA23) ?_
 refine mv O O ?_
 refine lc1 O O O (Load_okI pa s oI 8 o 8 ho rfl (by unfold wid; omega) hg) ?_
 refine mv O O<|l_q O (q_extractL O ga) ?_
 refine l_q O (q_extractL O ga) ?_
 refine asg O O<|asg O O<|lz<|mv O O<|l_q O (qcv O yU91 yU3) ?_
 exact asg O O<|lc<|rt<|fr1 O ([arenaH pa s]) (.tmp rfl) ⟨rfl, rfl⟩
theorem total_ok (oI : Int) (o : Nat) (x : Int) (ho : oI = (o : Nat)) (hob : o ≤ 1000000000) (hg : goodP s (oI + 16) 8) (hx : loadN s.m (o + 16) 8 = x) (hb : 0 ≤ x ∧ x < 9223372036854775808) :
  FnOk Try.prog 82 #[.agg #[.pointer (some ⟨pa, 0, none⟩), .int .i64 l.key, .int .i64 l.elem, .int .i64 l.ka, .int .i64 l.ea, .int .i64 l.cap, .int .i64 l.eo, .int .i64 l.bo, .int .i64 l.slot, .int .i64 l.group, .int .i64 off], .int .i64 oI] [arenaH pa s] (fun v L => v = .int .i64 x ∧ L = [arenaH pa s]) := by
 refine fn_intro en82 Try.func82 rfl rfl rfl fun Fr w0 => t_nm ?_
 refine sr<|o_boxA O O fun b2 => asg O O<|lz<|l_q O (qlda O yA27 yS27) ?_
 refine mv O O<|l_q O (qadd O O) ?_
 refine lc1 O O O (word_okT pa off s l _ (o + 16) x (by omega) hg hx hb) ?_
 exact asg O O<|lc<|rt<|fr1 O ([arenaH pa s]) (.tmp rfl) ⟨rfl, rfl⟩
variable {l} (hl : l.err = 0)
include hl
theorem width_ok : FnOk Try.prog 44 #[.agg #[.pointer (some ⟨pa, 0, none⟩), .int .i64 l.key, .int .i64 l.elem, .int .i64 l.ka, .int .i64 l.ea, .int .i64 l.cap, .int .i64 l.eo, .int .i64 l.bo, .int .i64 l.slot, .int .i64 l.group, .int .i64 off]] [] (fun v L => v = .int .i64 (wN l : Nat) ∧ L = []) := by
 have hw := wN_bnd hl
 have hb := Lay.bnd hl
 refine fn_intro en44 Try.func44 rfl rfl rfl fun Fr w0 => t_nm ?_
 refine sr<|o_boxA O O fun b1 => asg O O<|lz<|l_q O (qfa 1 O yU27 O O yS25)<|l_q O (qfa 0 O yU25 O O yS3)<|l_q O (qld O yA3) ?_
 refine l_q O (qfa 1 O yU27 O O yS25)<|l_q O (qfa 1 O yU25 O O yS3)<|l_q O (qld O yA3) ?_
 refine l_q O (qadd O O) ?_
 refine asg O O<|lc<|rt ?_
 rw [← hw.2.2]
 exact fr1 O ([]) (.tmp rfl) ⟨rfl, rfl⟩
theorem nodeBytes_ok : FnOk Try.prog 49 #[.agg #[.pointer (some ⟨pa, 0, none⟩), .int .i64 l.key, .int .i64 l.elem, .int .i64 l.ka, .int .i64 l.ea, .int .i64 l.cap, .int .i64 l.eo, .int .i64 l.bo, .int .i64 l.slot, .int .i64 l.group, .int .i64 off]] [] (fun v L => v = .int .i64 (nbN l : Nat) ∧ L = []) := by
 have hw := wN_bnd hl
 refine fn_intro en49 Try.func49 rfl rfl rfl fun Fr w0 => t_nm ?_
 refine sr<|o_boxA O O fun b1 => asg O O<|lz<|l_q O (qlda O yA27 yS27) ?_
 refine lc1 O O O (width_ok pa off hl) ?_
 refine l_q O (qmul O O) ?_
 refine l_q O (qadd O O) ?_
 refine asg O O<|lc<|rt ?_
 rw [show (96 : Int) + 7 * ((wN l : Nat) : Int) = ((nbN l : Nat) : Int) by unfold nbN; omega]
 exact fr1 O ([]) (.tmp rfl) ⟨rfl, rfl⟩
end
theorem leaf_eq (b : Bool) : decide ((if b = true then (1 : Int) else 0) = 1) = b := by cases b <;> rfl
theorem nodeC_len {o n tot : Int} {leaf : Bool} {P : List Pr} {K : List Nat} (hP : P.length = 7) (hK : K.length = 8) : (nodeC o n tot leaf P K).length = 26 := nd_len _ _ _ _ hP hK
theorem node_one (o n tot : Int) (leaf : Bool) (P : List Pr) (K : List Nat) : ∀ v ∈ nodeC o n tot leaf P K, v.oneCell' = true := fun v hv => by
 simp only [nodeC, pkV, List.mem_cons, List.mem_append] at hv
 rcases hv with rfl | rfl | rfl | rfl | hv | hv
 ·rfl
 ·rfl
 ·rfl
 ·rfl
 ·exact rowV_one _ v hv
 ·exact kidV_one _ v hv
theorem byteAt_app (a b : ByteArray) (j : Nat) : byteAt (a ++ b) j = if j < a.size then byteAt a j else byteAt b (j - a.size) := by
 unfold byteAt
 simp only [ByteArray.size_append]
 by_cases h : j < a.size
 ·rw [if_pos h, dif_pos (by omega), dif_pos h, ByteArray.getElem_append_left h]
 ·rw [if_neg h]
  by_cases h2 : j - a.size < b.size
  ·rw [dif_pos (by omega), dif_pos h2, ByteArray.getElem_append_right (by omega)]
  ·rw [dif_neg (by omega), dif_neg h2]
/-- Strings of pairs, one behind the other. -/
def prS (ps : List Pr) : List ByteArray := ps.flatMap fun p => [p.1, p.2]
theorem prS_cons (p : Pr) (ps : List Pr) : prS (p :: ps) = p.1 :: p.2 :: prS ps := rfl
theorem prS_app (ps qs : List Pr) : prS (ps ++ qs) = prS ps ++ prS qs := by simp [prS]
theorem prS_len : ∀ ps : List Pr, (prS ps).length = 2 * ps.length
 | [] => rfl
 | p :: ps => by rw [prS_cons, List.length_cons, List.length_cons, prS_len ps, List.length_cons]; omega
theorem totS_app (a b : List ByteArray) : totS (a ++ b) = totS a + totS b := by
 induction a with
 | nil => simp [totS]
 | cons x r ih => simp only [List.cons_append, totS, ih]; omega
theorem totS_pr {w : Nat} : ∀ {ps : List Pr}, (∀ p ∈ ps, p.1.size + p.2.size = w) → totS (prS ps) = ps.length * w
 | [], _ => by simp [prS, totS]
 | p :: ps, h => by
  have h1 := h p (by simp)
  rw [prS_cons]
  simp only [totS, List.length_cons]
  rw [totS_pr (ps := ps) fun q hq => h q (by simp [hq]), Nat.succ_mul]
  omega
theorem cat_pairs {w : Nat} {tl : List ByteArray} : ∀ {ps : List Pr} {i j : Nat} {p : Pr}, (∀ p ∈ ps, p.1.size + p.2.size = w) → ps[i]? = some p → j < w → catM (prS ps ++ tl) (i * w + j) = byteAt (p.1 ++ p.2) j
 | [], i, j, p, _, h, _ => by simp at h
 | q :: ps, 0, j, p, hs, h, hj => by
  simp at h; subst h
  have h1 := hs q (by simp)
  rw [Nat.zero_mul, Nat.zero_add, byteAt_app, prS_cons]
  simp only [List.cons_append, catM]
  split
  ·rfl
  ·rw [if_pos (by omega)]
 | q :: ps, i + 1, j, p, hs, h, hj => by
  have h1 := hs q (by simp)
  have ih := cat_pairs (tl := tl) (ps := ps) (i := i) (j := j) (p := p) (fun r hr => hs r (by simp [hr])) (by simpa using h) hj
  have hm : (i + 1) * w = i * w + w := Nat.succ_mul i w
  rw [prS_cons]
  simp only [List.cons_append, catM]
  rw [if_neg (by omega), if_neg (by omega), show (i + 1) * w + j - q.1.size - q.2.size = i * w + j by omega]
  exact ih
theorem str_pair {l : Lay} {p : Pr} (h : szs l p) : (p.1 ++ p.2).size = wN l := by unfold wN; rw [ByteArray.size_append, h.1, h.2]
theorem str_left {l : Lay} {p : Pr} (h : szs l p) : (p.1 ++ p.2).extract 0 (kN l) = p.1 := by
 rw [← h.1]
 apply ByteArray.ext
 simp [ByteArray.data_extract]
theorem str_right {l : Lay} {p : Pr} (h : szs l p) : (p.1 ++ p.2).extract (kN l) (wN l) = p.2 := by
 unfold wN
 rw [← h.1, ← h.2]
 apply ByteArray.ext
 rw [ByteArray.data_extract, ByteArray.data_append, Array.extract_append]
 simp only [ByteArray.size_data, Nat.sub_self, Nat.add_sub_cancel_left]
 rw [Array.extract_eq_empty_of_le (by simp), Array.empty_append]
 exact Array.extract_size
section
variable (pa : Nat) (off : Int) (s : ArS) {l : Lay} (hl : l.err = 0)
include hl
theorem read_ok (o : Nat) (oI : Int) (ps : List Pr) (leaf : Bool) (K : List Nat) (tot : Nat) (ho : oI = (o : Nat)) (hob : o ≤ 1000000000) (hbl : (((o : Nat) : Int), nC l) ∈ s.bl) (hM : NodeM l s.m o ps leaf K tot) (hp7 : ps.length ≤ 7) (hk8 : K.length ≤ 8) (hkb : ∀ k ∈ K, k < 9223372036854775808) (htb : tot < 9223372036854775808) (hsz : ∀ p ∈ ps, szs l p) :
  FnOk Try.prog 23 #[.agg #[.pointer (some ⟨pa, 0, none⟩), .int .i64 l.key, .int .i64 l.elem, .int .i64 l.ka, .int .i64 l.ea, .int .i64 l.cap, .int .i64 l.eo, .int .i64 l.bo, .int .i64 l.slot, .int .i64 l.group, .int .i64 off], .int .i64 oI] [arenaH pa s] (fun v L => v = .agg (nodeC (((o : Nat) : Int)) (((ps.length : Nat) : Int)) (((tot : Nat) : Int)) (leaf) (pad p0 7 ps) (pad 0 8 K)).toArray ∧ L = [arenaH pa s]) := by
 subst ho
 have hw := wN_bnd hl
 have hnb := nb_bnd hl
 have hb := Lay.bnd hl
 have hn := layN hl
 have hnb2 : nbN l = 96 + 7 * wN l := rfl
 have hgood : ∀ (x : Nat) (k : Nat), x + k ≤ nbN l → goodP s (((o + x : Nat)) : Int) k := fun x k hx => good_in hbl (by omega) (by omega) (by omega)
 refine fn_intro en23 Try.func23 rfl rfl rfl fun Fr w0 => t_nm ?_
 refine sr<|o_boxA O O fun b2 => o_allocA O yZ73 fun b4 => lz<|mv O O ?_
 apply l_q O
 ·apply q_buildS O yP73 yZ73
  ·apply FillR.one
   ·repeat (first | exact PlAt.here | apply PlAt.there)
   ·rfl
   ·exact sa
   exact FillR.nil
 refine o_allocA O yZ73 fun b5 => sta O O O yS73 O O ?_
 refine lz<|l_q O (qlda O yA27 yS27) ?_
 refine mv O O<|lc1 O O O (word_okT pa off s l _ o _ rfl (by simpa using hgood 0 8 (by omega)) hM.cnt (by omega)) ?_
 refine l_q O (qfa 1 O yU73 O O yS3)<|st O O O yS3 O ?_
 refine lz<|l_q O (qlda O yA27 yS27) ?_
 refine mv O O<|l_q O (qadd O O) ?_
 refine lc1 O O O (word_okT pa off s l _ (o + 8) _ (by omega) (by simpa using hgood 8 8 (by omega)) hM.leaf (by split <;> omega)) ?_
 refine l_q O (qi O O (b_eql ·))<|l_q O (qfa 3 O yU73 O O yS4)<|st O O O yS4 O ?_
 refine lz<|l_q O (qlda O yA27 yS27) ?_
 refine mv O O<|l_q O (qadd O O) ?_
 rw [leaf_eq]
 refine lc1 O O O (word_okT pa off s l _ (o + 16) _ (by omega) (by simpa using hgood 16 8 (by omega)) hM.tot (by omega)) ?_
 refine l_q O (qfa 2 O yU73 O O yS3)<|st O O O yS3 O ?_
 refine lz<|l_q O (qfa 1 O yU73 O O yS3)<|l_q O (qld O yA3) ?_
 refine l_q O (q_min2 O O)<|l_q O (q_max2 O O)<|l_q O (qfa 1 O yU73 O O yS3)<|st O O O yS3 O ?_
 refine lc<|t_seq<|sr<|mv O O<|lc<|t_block ?_
 rw [show (if (0 : Int) < (if (7 : Int) < ((ps.length : Nat) : Int) then 7 else ((ps.length : Nat) : Int)) then (if (7 : Int) < ((ps.length : Nat) : Int) then 7 else ((ps.length : Nat) : Int)) else 0) = ((ps.length : Nat) : Int) by split <;> split <;> omega]
 refine t_ent (L' := pt b5 (.cells (nodeC (((o : Nat) : Int)) (((ps.length : Nat) : Int)) (((tot : Nat) : Int)) (leaf) (pad p0 7 []) (pad 0 8 ((pad 0 8 K).take 0))).toArray 73 (0, 0)) :: arenaH pa s :: pt b4 (.cells (nodeC (0) (0) (0) (false) (pad p0 7 []) (pad 0 8 [])).toArray 73 (0, 0)) :: pt b2 (.cells #[.pointer (some ⟨pa, 0, none⟩), .int .i64 l.key, .int .i64 l.elem, .int .i64 l.ka, .int .i64 l.ea, .int .i64 l.cap, .int .i64 l.eo, .int .i64 l.bo, .int .i64 l.slot, .int .i64 l.group, .int .i64 off] 27 (0, 0)) :: Fr) (Ent.refl _) ?_
 refine t_loop (fun i : Nat => i ≤ 8) (fun i => [(1, .int .i64 (o : Nat)), (2, .pointer (some ⟨b2, 0, none⟩)), (4, .pointer (some ⟨b4, 0, none⟩)), (5, .pointer (some ⟨b5, 0, none⟩)), (32, .int .i64 (i : Nat))]) (fun i => pt b5 (.cells (nodeC (((o : Nat) : Int)) (((ps.length : Nat) : Int)) (((tot : Nat) : Int)) (leaf) (pad p0 7 []) (pad 0 8 ((pad 0 8 K).take i))).toArray 73 (0, 0)) :: arenaH pa s :: pt b4 (.cells (nodeC (0) (0) (0) (false) (pad p0 7 []) (pad 0 8 [])).toArray 73 (0, 0)) :: pt b2 (.cells #[.pointer (some ⟨pa, 0, none⟩), .int .i64 l.key, .int .i64 l.elem, .int .i64 l.ka, .int .i64 l.ea, .int .i64 l.cap, .int .i64 l.eo, .int .i64 l.bo, .int .i64 l.slot, .int .i64 l.group, .int .i64 off] 27 (0, 0)) :: Fr) (fun i => 8 - i) 0 (by omega) ⟨rfl, rfl, rfl, rfl, rfl, trivial⟩ (Ent.refl _) ?_
 intro i hi
 (try dsimp only at hi ⊢)
 have hkl := pad_len (a := 0) hk8
 refine sr<|l_q O (qi O O (b_lss ·))<|lc<|t_seq<|t_if O (fun h => ?_) fun h => ?_
 ·have hi8 : i < 8 := by omega
  obtain ⟨k, hk⟩ : ∃ k, (pad 0 8 K)[i]? = some k := ⟨_, List.getElem?_eq_getElem (by rw [hkl]; exact hi8)⟩
  have hkb2 := pad_bnd hk8 (by decide) hkb hk
  refine t_skip<|n_code<|t_seq<|t_block<|sr<|mv O O<|asg O O<|lr<|mv O O<|l_q O (qlda O yA27 yS27) ?_
  refine mv O O<|l_q O (qadd O O) ?_
  refine mv O O<|l_q O (qmul O O) ?_
  refine l_q O (qadd O O) ?_
  refine lc1 O O O (word_okT pa off s l _ (o + 24 + 8 * i) _ (by omega) (by rw [show (o : Int) + 24 + 8 * (i : Int) = ((o + (24 + 8 * i) : Nat) : Int) by omega]; exact hgood _ 8 (by omega)) (hM.kid i k hk) (by omega)) ?_
  refine l_q O (qfa 18 O yU73 O O yS71)<|l_q O (q_indexAddrA O O yU71 yS3 (by omega)) ?_
  apply o_storeP1 (v := kV k) (xs' := nodeC o ((ps.length : Nat) : Int) tot leaf (pad p0 7 []) ((pad 0 8 ((pad 0 8 K).take i)).set i k)) rfl rfl rfl yS3 rfl
  ·exact tk
  ·rw [Int.toNat_natCast, nodeC_len (pad_len (by simp)) (pad_len (by simp; omega))]; omega
  ·rw [Int.toNat_natCast, Nat.mul_one]; exact set_kid _ _ _ _ (pad_len (by simp))
  refine l_nil<|n_blk<|n_code<|t_region<|l_q O (qadd O O) ?_
  refine mv O O<|l_nil ?_
  rw [pad_take (by rw [hkl]; omega) (by rw [hkl]; exact hi8) hk]
  apply n_again (i + 1)
  ·exact (show i + 1 ≤ 8 by omega)
  ·(try dsimp only); omega
  ·exact ⟨O, O, O, O, O, trivial⟩
  ·exact en
 ·obtain rfl : i = 8 := by omega
  rw [List.take_of_length_le (by rw [hkl]; omega), pad_full hkl]
  refine xt O<|n_code<|t_seq<|sr<|l_q O (qfa 1 O yU73 O O yS3)<|l_q O (qld O yA3) ?_
  refine mv O O<|lc<|t_block ?_
  refine t_ent (L' := pt b5 (.cells (nodeC (((o : Nat) : Int)) (((ps.length : Nat) : Int)) (((tot : Nat) : Int)) (leaf) (pad p0 7 (ps.take 0)) (pad 0 8 K)).toArray 73 (0, 0)) :: arenaH pa s :: pt b4 (.cells (nodeC (0) (0) (0) (false) (pad p0 7 []) (pad 0 8 [])).toArray 73 (0, 0)) :: pt b2 (.cells #[.pointer (some ⟨pa, 0, none⟩), .int .i64 l.key, .int .i64 l.elem, .int .i64 l.ka, .int .i64 l.ea, .int .i64 l.cap, .int .i64 l.eo, .int .i64 l.bo, .int .i64 l.slot, .int .i64 l.group, .int .i64 off] 27 (0, 0)) :: Fr) (Ent.refl _) ?_
  refine t_loop (fun i : Nat => i ≤ ps.length) (fun i => [(1, .int .i64 (o : Nat)), (2, .pointer (some ⟨b2, 0, none⟩)), (4, .pointer (some ⟨b4, 0, none⟩)), (5, .pointer (some ⟨b5, 0, none⟩)), (47, .int .i64 (ps.length : Nat)), (48, .int .i64 (i : Nat))]) (fun i => pt b5 (.cells (nodeC (((o : Nat) : Int)) (((ps.length : Nat) : Int)) (((tot : Nat) : Int)) (leaf) (pad p0 7 (ps.take i)) (pad 0 8 K)).toArray 73 (0, 0)) :: arenaH pa s :: pt b4 (.cells (nodeC (0) (0) (0) (false) (pad p0 7 []) (pad 0 8 [])).toArray 73 (0, 0)) :: pt b2 (.cells #[.pointer (some ⟨pa, 0, none⟩), .int .i64 l.key, .int .i64 l.elem, .int .i64 l.ka, .int .i64 l.ea, .int .i64 l.cap, .int .i64 l.eo, .int .i64 l.bo, .int .i64 l.slot, .int .i64 l.group, .int .i64 off] 27 (0, 0)) :: Fr) (fun i => ps.length - i) 0 (by omega) ⟨rfl, rfl, rfl, rfl, rfl, rfl, trivial⟩ (Ent.refl _) ?_
  intro i hi
  (try dsimp only at hi ⊢)
  refine sr<|l_q O (qi O O (b_lss ·))<|lc<|t_seq<|t_if O (fun h => ?_) fun h => ?_
  ·have hi8 : i < ps.length := by omega
   obtain ⟨p, hp⟩ : ∃ p, ps[i]? = some p := ⟨_, List.getElem?_eq_getElem hi8⟩
   have hpz := hsz p (List.mem_of_getElem? hp)
   have hmw : i * wN l + wN l ≤ 7 * wN l := (by rw [← Nat.succ_mul]; exact Nat.mul_le_mul_right _ (by omega))
   refine t_skip<|n_code<|t_seq<|t_block<|sr<|mv O O<|asg O O<|lc<|t_seq<|t_draw mixed ?_
   apply dq 0 O
   ·exact yq (qfa 0 O yU27 O O yS23)
   apply dq 1 O
   ·exact yq (qld O yA23)
   apply dq 2 O
   ·exact yq (q_move O)
   apply dq 3 O
   ·exact yq (qadd O O)
   apply dq 4 O
   ·exact yq (q_move O)
   apply dq 5 O
   ·exact yq (qlda O yA27 yS27)
   apply dq 9 O
   ·exact yq (qlda O yA27 yS27)
   refine d_eff1 [5] [9, 4, 3, 2, 1, 0] 6 [(57, _)] gO ⟨rfl, trivial⟩ (by kernel_rfl) (by kernel_rfl) fun Ex => ?_
   refine lc1 O O O (width_ok pa off hl) ?_
   refine l_nil ?_
   apply n_d
   ·refine ⟨?_, ?_, ?_, ?_, ?_, ?_, trivial⟩
    ·apply ya O O; exact yq (qlda O yA27 yS27)
    ·apply ya O O; exact yq (q_move O)
    ·apply ya O O; exact yq (qadd O O)
    ·apply ya O O; exact yq (q_move O)
    ·apply ya O O; exact yq (qld O yA23)
    ·apply ya O O; exact yq (qfa 0 O yU27 O O yS23)
   apply dq 7 O
   ·exact yq (qmul O O)
   apply dq 8 O
   ·exact yq (qadd O O)
   refine d_eff1 [9] [8, 7, 4, 3, 2, 1, 0] 10 [(61, _)] gO ⟨rfl, trivial⟩ (by kernel_rfl) (by kernel_rfl) fun Ex => ?_
   have hsp := str_pair hpz
   have hw0 : ((wN l : Nat) : Int) = ((kN l : Nat) : Int) + l.elem := by rw [hw.2.2, hn.k]
   have hnk := hn.k
   refine lc1 O O O (width_ok pa off hl) ?_
   refine l_nil ?_
   apply n_d
   ·refine ⟨?_, ?_, ?_, ?_, ?_, ?_, ?_, trivial⟩
    ·apply ya O O; exact yq (qadd O O)
    ·apply ya O O; exact yq (qmul O O)
    ·apply ya O O; exact yq (q_move O)
    ·apply ya O O; exact yq (qadd O O)
    ·apply ya O O; exact yq (q_move O)
    ·apply ya O O; exact yq (qld O yA23)
    ·apply ya O O; exact yq (qfa 0 O yU27 O O yS23)
   refine d_eff1 [1, 8, 0, 3, 7, 2, 4] [] 11 [(53, _), (60, _), (62, _)] gO ⟨rfl, rfl, rfl, trivial⟩ (by kernel_rfl) (by kernel_rfl) fun Ex => ?_
   refine lc1 O O O (Read_okI pa s _ _ (o + 96 + i * wN l) (wN l) (by push_cast; omega) rfl (by rw [show (o : Int) + 96 + (i : Int) * ((wN l : Nat) : Int) = ((o + (96 + i * wN l) : Nat) : Int) by push_cast; omega]; exact hgood _ _ (by omega))) ?_
   rw [hM.par i p hp]
   refine l_nil ?_
   apply n_d
   ·exact trivial
   apply dq 12 O
   ·exact yq (q_move O)
   apply dq 13 O
   ·exact yq (q_extractL O ga)
   apply dq 14 O
   ·exact yq (q_extractL O ga)
   refine d_eff1 [13, 12] [14] 15 [(64, _)] gO ⟨rfl, trivial⟩ (by kernel_rfl) (by kernel_rfl) fun Ex => ?_
   refine asg O O<|l_nil ?_
   apply n_d
   ·refine ⟨?_, trivial⟩
    ·apply ya O O; exact yq (q_extractL O ga)
   refine d_eff1 [14] [] 16 [(65, _)] gO ⟨rfl, trivial⟩ (by kernel_rfl) (by kernel_rfl) fun Ex => ?_
   refine asg O O<|l_nil ?_
   apply n_d
   ·exact trivial
   refine d_end (by kernel_rfl) ?_
   refine nz<|mv O O<|l_q O (qls O yU9)<|l_q O (qlda O yA27 yS27) ?_
   refine lc1 O O O (width_ok pa off hl) ?_
   refine l_q O (qi O O (b_eql ·))<|lc<|t_if O (fun z => ?_) fun z => ?_
   ·refine t_draw mixed ?_
    apply dq 0 O
    ·exact yq (q_move O)
    apply dq 1 O
    ·exact yq (q_move O)
    apply dq 2 O
    ·exact yq (qfa 1 O yU27 O O yS25)
    apply dq 3 O
    ·exact yq (qfa 0 O yU25 O O yS3)
    apply dq 4 O
    ·exact yq (qld O yA3)
    apply dq 5 O
    ·exact yq ((q_sliceS_h O O Try.underlying9 (by rw [hsp]; omega)).to (v' := .string p.1) (by rw [show l.key.toNat = kN l from rfl, str_left hpz]))
    apply dq 6 O
    ·exact yq (q_move O)
    apply dq 7 O
    ·exact yq (qfa 1 O yU27 O O yS25)
    apply dq 8 O
    ·exact yq (qfa 0 O yU25 O O yS3)
    apply dq 9 O
    ·exact yq (qld O yA3)
    apply dq 10 O
    ·exact yq ((q_sliceS_l O O Try.underlying9 (by rw [hsp]; omega)).to (v' := .string p.2) (by rw [show l.key.toNat = kN l from rfl, hsp, str_right hpz]))
    apply dq 11 O
    ·apply yq
     apply q_buildS O yP69 yZ69
     ·apply FillR.one
      ·repeat (first | exact PlAt.here | apply PlAt.there)
      ·rfl
      ·exact sa
      apply FillR.one
      ·repeat (first | exact PlAt.here | apply PlAt.there)
      ·rfl
      ·exact sa
      exact FillR.nil
    apply dq 12 O
    ·exact yq (qfa 4 O yU73 O O yS70)
    apply dq 13 O
    ·exact yq (q_indexAddrA O O yU70 yS69 (by omega))
    refine d_eff1 [13, 11, 0, 1, 2, 3, 4, 5, 6, 7, 8, 9, 10, 12] [] 14 [(84, _), (82, _)] gO ⟨rfl, rfl, trivial⟩ (by kernel_rfl) (by kernel_rfl) fun Ex => ?_
    apply o_storeP (us := prV p) (xs' := nodeC o ((ps.length : Nat) : Int) tot leaf ((pad p0 7 (ps.take i)).set i p) (pad 0 8 K)) rfl rfl rfl yS69 rfl rfl
    ·exact tk
    ·rw [Int.toNat_natCast, nodeC_len (pad_len (by simp; omega)) (pad_len hk8)]; simp only [prV_len]; omega
    ·rw [Int.toNat_natCast]; exact lay_pair _ _ _ _ (by rw [pad_len (by simp; omega)]; omega)
    refine l_nil ?_
    apply n_d
    ·exact trivial
    refine d_end (by kernel_rfl) ?_
    refine n_blk<|n_code<|t_region<|l_q O (qadd O O) ?_
    refine mv O O<|l_nil ?_
    rw [pad_take (n := 7) hp7 hi8 hp]
    apply n_again (i + 1)
    ·exact (show i + 1 ≤ ps.length by omega)
    ·(try dsimp only); omega
    ·exact ⟨O, O, O, O, O, O, trivial⟩
    ·exact en
   ·exact absurd (by rw [hsp]) z
  ·obtain rfl : i = ps.length := by omega
   rw [List.take_length]
   refine xt O<|nz ?_
   apply l_q O
   ·apply q_loadP (us := nodeC o ((ps.length : Nat) : Int) tot leaf (pad p0 7 ps) (pad 0 8 K)) rfl yA73 yS73
    ·exact tk
    ·rw [nodeC_len (pad_len hp7) (pad_len hk8)]; omega
    ·rw [List.drop_zero, List.take_of_length_le (by rw [nodeC_len (pad_len hp7) (pad_len hk8)]; omega)]
   apply o_storeP (us := nodeC o ((ps.length : Nat) : Int) tot leaf (pad p0 7 ps) (pad 0 8 K)) (xs' := nodeC o ((ps.length : Nat) : Int) tot leaf (pad p0 7 ps) (pad 0 8 K)) rfl rfl rfl yS73 (nodeC_len (pad_len hp7) (pad_len hk8)) (List.all_eq_true.2 (node_one _ _ _ _ _ _))
   ·exact tk
   ·decide
   ·exact lay_full (by rw [nodeC_len (pad_len hp7) (pad_len hk8)]; rfl)
   refine lc<|rt ?_
   refine f_ret (.inl rfl) ([arenaH pa s]) (res1 O (Rv.agg rfl tk (run_loadAll yA73 yS73 (nodeC_len (pad_len hp7) (pad_len hk8))))) ⟨rfl, rfl⟩ en
theorem write_ok (o : Nat) (ps : List Pr) (leaf : Bool) (K : List Nat) (tot : Nat) (hob : o ≤ 1000000000) (hbl : (((o : Nat) : Int), nC l) ∈ s.bl) (hp7 : ps.length ≤ 7) (hk8 : K.length ≤ 8) (hkb : ∀ k ∈ K, k < 9223372036854775808) (htb : tot < 9223372036854775808) (hsz : ∀ p ∈ ps, szs l p) :
  FnOk Try.prog 39 #[.agg #[.pointer (some ⟨pa, 0, none⟩), .int .i64 l.key, .int .i64 l.elem, .int .i64 l.ka, .int .i64 l.ea, .int .i64 l.cap, .int .i64 l.eo, .int .i64 l.bo, .int .i64 l.slot, .int .i64 l.group, .int .i64 off], .agg (nodeC (((o : Nat) : Int)) (((ps.length : Nat) : Int)) (((tot : Nat) : Int)) (leaf) (pad p0 7 ps) (pad 0 8 K)).toArray] [arenaH pa s] (fun v L => ∃ m', v = .tuple #[] ∧ L = [arenaH pa (wm s m')] ∧ NodeM l m' o ps leaf K tot ∧ ∀ a, a < o ∨ o + nbN l ≤ a → m' a = s.m a) := by
 have hw := wN_bnd hl
 have hnb := nb_bnd hl
 have hnb2 : nbN l = 96 + 7 * wN l := rfl
 have hkl := pad_len (a := 0) hk8
 have hpl := pad_len (a := p0) hp7
 have hgood : ∀ (x : Nat) (k : Nat), x + k ≤ nbN l → goodP s (((o + x : Nat)) : Int) k := fun x k hx => good_in hbl (by omega) (by omega) (by omega)
 have hmul : ps.length * wN l + (7 - ps.length) * wN l = 7 * wN l := by rw [← Nat.add_mul]; congr 1; omega
 refine fn_intro en39 Try.func39 rfl rfl rfl fun Fr w0 => t_nm ?_
 refine sr<|o_boxA O O fun b2 => o_boxA O O fun b3 => lz<|asg O O<|lc<|t_seq<|sr<|l_q O (qfa 3 O yU73 O O yS4)<|l_q O (qld O yA4) ?_
 refine lc ?_
 apply t_cut (p := (fun _ : Unit => True)) (EE := (fun _ => [(2, .pointer (some ⟨b2, 0, none⟩)), (3, .pointer (some ⟨b3, 0, none⟩)), (4, .int .i64 (if leaf then 1 else 0))])) (LL := (fun _ => pt b3 (.cells (nodeC (((o : Nat) : Int)) (((ps.length : Nat) : Int)) (((tot : Nat) : Int)) (leaf) (pad p0 7 ps) (pad 0 8 K)).toArray 73 (0, 0)) :: pt b2 (.cells #[.pointer (some ⟨pa, 0, none⟩), .int .i64 l.key, .int .i64 l.elem, .int .i64 l.ka, .int .i64 l.ea, .int .i64 l.cap, .int .i64 l.eo, .int .i64 l.bo, .int .i64 l.slot, .int .i64 l.group, .int .i64 off] 27 (0, 0)) :: arenaH pa s :: Fr))
 refine t_if O (fun hlf => ?_) fun hlf => ?_
 ·refine t_region<|asg O O<|l_nil ?_
  apply n_join (())
  ·exact trivial
  ·exact ⟨rfl, rfl, by rw [if_pos hlf]; rfl, trivial⟩
  ·exact en
 ·refine t_skip ?_
  apply n_join (())
  ·exact trivial
  ·exact ⟨rfl, rfl, by rw [if_neg (by simpa using hlf)]; rfl, trivial⟩
  ·exact en
 rintro _ -
 try dsimp only
 refine n_nm ?_
 refine nz<|l_q O (qfa 0 O yU27 O O yS23)<|l_q O (qld O yA23) ?_
 refine l_q O (qfa 0 O yU73 O O yS3)<|l_q O (qld O yA3) ?_
 refine l_q O (qfa 1 O yU73 O O yS3)<|l_q O (qld O yA3) ?_
 refine l_q O (qcv O yU3 yU91) ?_
 have hlb : 0 ≤ (if leaf then (1 : Int) else 0) ∧ (if leaf then (1 : Int) else 0) < 9223372036854775808 := by split <;> omega
 refine lc1 O O O (Store_okI pa s _ 8 o 8 _ rfl rfl (by omega) (by unfold wid; omega) (by simpa using hgood 0 8 (by omega))) ?_
 refine lz<|l_q O (qfa 0 O yU27 O O yS23)<|l_q O (qld O yA23) ?_
 refine l_q O (qfa 0 O yU73 O O yS3)<|l_q O (qld O yA3) ?_
 refine l_q O (qadd O O) ?_
 refine mv O O<|l_q O (qcv O yU3 yU91) ?_
 rw [show s.put o 8 (byteN ((ps.length : Nat) : Int)) = wm s (layM s.m o 8 (byteN ((ps.length : Nat) : Int))) from rfl]
 refine lc1 O O O (Store_okI pa (wm s _) _ 8 (o + 8) 8 _ (by omega) rfl (by omega) (by unfold wid; omega) (good_wm (by simpa using hgood 8 8 (by omega)))) ?_
 refine lz<|l_q O (qfa 0 O yU27 O O yS23)<|l_q O (qld O yA23) ?_
 refine l_q O (qfa 0 O yU73 O O yS3)<|l_q O (qld O yA3) ?_
 refine l_q O (qadd O O) ?_
 refine l_q O (qfa 2 O yU73 O O yS3)<|l_q O (qld O yA3) ?_
 refine l_q O (qcv O yU3 yU91) ?_
 rw [put_wm]
 refine lc1 O O O (Store_okI pa (wm s _) _ 8 (o + 16) 8 _ (by omega) rfl (by omega) (by unfold wid; omega) (good_wm (by simpa using hgood 16 8 (by omega)))) ?_
 refine lc<|t_seq<|sr<|l_q O (qfa 18 O yU73 O O yS71) ?_
 apply l_q O
 ·apply q_loadP (us := (pad 0 8 K).map kV) rfl yA71 yS71
  ·exact tk
  ·rw [nodeC_len hpl hkl]; decide
  ·have := pkV_kids (.int .i64 o) (.int .i64 ps.length) (.int .i64 tot) (.bool leaf) (K := pad 0 8 K) (i := 0) (k := 8) hpl; rw [List.drop_zero, show (pad 0 8 K).take 8 = pad 0 8 K from List.take_of_length_le (by omega)] at this; exact this
 refine mv O O<|lc<|t_block ?_
 rw [put_wm]
 refine t_loop (fun x : Nat × (Nat → Int) => x.1 ≤ 8 ∧ loadN (x.2) o 8 = ((ps.length : Nat) : Int) ∧ loadN (x.2) (o + 8) 8 = (if leaf then 1 else 0) ∧ loadN (x.2) (o + 16) 8 = ((tot : Nat) : Int) ∧ (∀ jj kk, jj < x.1 → (pad 0 8 K)[jj]? = some kk → loadN (x.2) (o + 24 + 8 * jj) 8 = ((kk : Nat) : Int)) ∧ ∀ aa, aa < o ∨ o + nbN l ≤ aa → (x.2) aa = s.m aa) (fun x => [(2, .pointer (some ⟨b2, 0, none⟩)), (3, .pointer (some ⟨b3, 0, none⟩)), (39, .agg ((pad 0 8 K).map kV).toArray), (40, .int .i64 (x.1 : Nat))]) (fun x => pt b3 (.cells (nodeC (((o : Nat) : Int)) (((ps.length : Nat) : Int)) (((tot : Nat) : Int)) (leaf) (pad p0 7 ps) (pad 0 8 K)).toArray 73 (0, 0)) :: pt b2 (.cells #[.pointer (some ⟨pa, 0, none⟩), .int .i64 l.key, .int .i64 l.elem, .int .i64 l.ka, .int .i64 l.ea, .int .i64 l.cap, .int .i64 l.eo, .int .i64 l.bo, .int .i64 l.slot, .int .i64 l.group, .int .i64 off] 27 (0, 0)) :: arenaH pa (wm s x.2) :: Fr) (fun x => 8 - x.1) (0, layM (layM (layM s.m o 8 (byteN ((ps.length : Nat) : Int))) (o + 8) 8 (byteN (if leaf then 1 else 0))) (o + 16) 8 (byteN ((tot : Nat) : Int))) ⟨(by decide : (0 : Nat) ≤ 8), ?_, ?_, ?_, ?_, ?_⟩ ⟨rfl, rfl, rfl, rfl, trivial⟩ (by (exact en)) ?_
 ·rw [load_out (by omega), load_out (by omega), load_at (by omega)]
 ·rw [load_out (by omega), load_at (by omega)]
 ·exact load_at (by omega)
 ·intro j k hj; exact absurd hj (Nat.not_lt_zero _)
 ·intro a ha; dsimp only; rw [lay_out (by omega), lay_out (by omega), lay_out (by omega)]
 rintro ⟨i, m⟩ ⟨hi, m1, m2, m3, m4, m5⟩
 dsimp only at hi m1 m2 m3 m4 m5 ⊢
 refine sr<|l_q O (qi O O (b_lss ·))<|lc<|t_seq<|t_if O (fun h => ?_) fun h => ?_
 ·have hi8 : i < 8 := by omega
  obtain ⟨k, hk⟩ : ∃ k, (pad 0 8 K)[i]? = some k := ⟨_, List.getElem?_eq_getElem (by rw [hkl]; exact hi8)⟩
  have hkb2 := pad_bnd hk8 (by decide) hkb hk
  refine t_skip<|n_code<|t_seq<|t_block<|sr<|mv O O ?_
  apply l_q O
  ·apply q_indexArr1 (v := kV k) rfl rfl Try.underlying71 yA3 yS3 (by omega)
   rw [Int.toNat_natCast, List.getElem?_toArray, List.getElem?_map, hk]; rfl
  refine asg O O<|asg O O<|lr<|l_q O (qfa 0 O yU27 O O yS23)<|l_q O (qld O yA23) ?_
  refine l_q O (qfa 0 O yU73 O O yS3)<|l_q O (qld O yA3) ?_
  refine l_q O (qadd O O) ?_
  refine mv O O<|l_q O (qmul O O) ?_
  refine l_q O (qadd O O) ?_
  refine mv O O<|l_q O (qcv O yU3 yU91) ?_
  refine lc1 O O O (Store_okI pa (wm s m) _ 8 (o + (24 + 8 * i)) 8 _ (by omega) rfl (by omega) (by unfold wid; omega) (by rw [show (o : Int) + 24 + 8 * (i : Int) = ((o + (24 + 8 * i) : Nat) : Int) by omega]; exact good_wm (hgood _ 8 (by omega)))) ?_
  refine l_nil<|n_blk<|n_code<|t_region<|l_q O (qadd O O) ?_
  refine mv O O<|l_nil ?_
  rw [put_wm]
  have hP' : i + 1 ≤ 8 ∧ loadN (layM m (o + (24 + 8 * i)) 8 (byteN ((k : Nat) : Int))) o 8 = ((ps.length : Nat) : Int) ∧ loadN (layM m (o + (24 + 8 * i)) 8 (byteN ((k : Nat) : Int))) (o + 8) 8 = (if leaf then 1 else 0) ∧ loadN (layM m (o + (24 + 8 * i)) 8 (byteN ((k : Nat) : Int))) (o + 16) 8 = ((tot : Nat) : Int) ∧ (∀ jj kk, jj < i + 1 → (pad 0 8 K)[jj]? = some kk → loadN (layM m (o + (24 + 8 * i)) 8 (byteN ((k : Nat) : Int))) (o + 24 + 8 * jj) 8 = ((kk : Nat) : Int)) ∧ ∀ aa, aa < o ∨ o + nbN l ≤ aa → (layM m (o + (24 + 8 * i)) 8 (byteN ((k : Nat) : Int))) aa = s.m aa := by
   refine ⟨by omega, ?_, ?_, ?_, fun j k' hj hk' => ?_, fun a ha => ?_⟩
   ·rw [load_out (by omega)]; exact m1
   ·rw [load_out (by omega)]; exact m2
   ·rw [load_out (by omega)]; exact m3
   ·rcases Nat.lt_or_ge j i with q | q
    ·rw [load_out (by omega)]; exact m4 j k' q hk'
    ·have : j = i := by omega
     subst this
     rw [hk] at hk'; cases hk'
     rw [show o + 24 + 8 * j = o + (24 + 8 * j) by omega]
     exact load_at (by omega)
   ·rw [lay_out (by omega)]; exact m5 a ha
  apply n_again ((i + 1, layM m (o + (24 + 8 * i)) 8 (byteN ((k : Nat) : Int))))
  ·exact hP'
  ·(try dsimp only); omega
  ·exact ⟨O, O, O, O, trivial⟩
  ·exact en
 ·obtain rfl : i = 8 := by omega
  refine xt O<|nz<|asg O O<|lc<|t_seq<|sr<|l_q O (qfa 4 O yU73 O O yS70)<|l_q O (qfa 1 O yU73 O O yS3)<|l_q O (qld O yA3) ?_
  refine l_q O (q_sliceA_h rfl rfl yU70 yS69 (by omega)) ?_
  refine l_q O (ql O yU120)<|mv O O<|lc<|t_block ?_
  rw [Int.toNat_natCast]
  refine t_ent (L' := ownS 9 1 (.slice none 0 0) 0 (strs (prS (ps.take 0))) :: pt b3 (.cells (nodeC (((o : Nat) : Int)) (((ps.length : Nat) : Int)) (((tot : Nat) : Int)) (leaf) (pad p0 7 ps) (pad 0 8 K)).toArray 73 (0, 0)) :: pt b2 (.cells #[.pointer (some ⟨pa, 0, none⟩), .int .i64 l.key, .int .i64 l.elem, .int .i64 l.ka, .int .i64 l.ea, .int .i64 l.cap, .int .i64 l.eo, .int .i64 l.bo, .int .i64 l.slot, .int .i64 l.group, .int .i64 off] 27 (0, 0)) :: arenaH pa (wm s m) :: Fr) (fun w h => own_nil h) ?_
  refine t_loop (fun x : Nat × Value => x.1 ≤ ps.length) (fun x => [(2, .pointer (some ⟨b2, 0, none⟩)), (3, .pointer (some ⟨b3, 0, none⟩)), (7, x.2), (59, .slice (some ⟨b3, 4, none⟩) ps.length 7), (60, .int .i64 (ps.length : Nat)), (61, .int .i64 (x.1 : Nat))]) (fun x => ownS 9 1 x.2 (2 * x.1) (strs (prS (ps.take x.1))) :: pt b3 (.cells (nodeC (((o : Nat) : Int)) (((ps.length : Nat) : Int)) (((tot : Nat) : Int)) (leaf) (pad p0 7 ps) (pad 0 8 K)).toArray 73 (0, 0)) :: pt b2 (.cells #[.pointer (some ⟨pa, 0, none⟩), .int .i64 l.key, .int .i64 l.elem, .int .i64 l.ka, .int .i64 l.ea, .int .i64 l.cap, .int .i64 l.eo, .int .i64 l.bo, .int .i64 l.slot, .int .i64 l.group, .int .i64 off] 27 (0, 0)) :: arenaH pa (wm s m) :: Fr) (fun x => ps.length - x.1) (0, .slice none 0 0) (Nat.zero_le _) ⟨rfl, rfl, rfl, rfl, rfl, rfl, trivial⟩ (Ent.refl _) ?_
  rintro ⟨i, v7⟩ hi
  dsimp only at hi ⊢
  refine sr<|l_q O (qi O O (b_lss ·))<|lc<|t_seq<|t_if O (fun h => ?_) fun h => ?_
  ·have hi8 : i < ps.length := by omega
   obtain ⟨p, hp⟩ : ∃ p, ps[i]? = some p := ⟨_, List.getElem?_eq_getElem hi8⟩
   have hnx : strs (prS (ps.take i)) ++ [Value.string p.1, .string p.2] = strs (prS (ps.take (i + 1))) := (by rw [List.take_add_one, hp, prS_app]; simp [strs, prS])
   refine t_skip<|n_code<|t_seq<|t_block<|sr<|l_q O (q_indexAddr O O yU120 yS69 (by omega)) ?_
   apply l_q O
   ·apply q_loadP (us := [.string p.1, .string p.2]) rfl yA69 yS69
    ·exact tk
    ·rw [Int.toNat_natCast, nodeC_len hpl hkl]; omega
    ·rw [Int.toNat_natCast]; exact pkV_pair _ _ _ _ (by rw [pad_at hp7 hi8, hp])
   refine o_allocA O yZ69 fun b9 => sta O O O yS69 O O ?_
   refine lr<|mv O O<|l_q O (qfa 0 O yU69 O O yS9)<|l_q O (qld O yA9) ?_
   refine l_q O (qfa 1 O yU69 O O yS9)<|l_q O (qld O yA9) ?_
   refine o_buildSlice1 [_, _] rfl rfl yU123 yS9 yZ9 rfl rfl rfl rfl (fun b70 => ?_)
   apply o_append (sz := 1) rfl rfl rfl yU123 yI9 rfl rfl
   ·exact tk
   ·exact tk
   ·rfl
   ·rfl
   ·simp only [maxLen]; omega
   ·omega
   intro v71
   refine asg O O<|l_nil<|n_blk<|n_code<|t_region<|l_q O (qadd O O) ?_
   refine mv O O<|l_nil ?_
   rw [show strs (prS (ps.take i)) ++ #[Value.string p.1, .string p.2].toList = strs (prS (ps.take (i + 1))) from hnx, show 2 * i + 2 = 2 * (i + 1) by omega]
   apply n_again ((i + 1, v71))
   ·exact (show i + 1 ≤ ps.length by omega)
   ·dsimp only; omega
   ·exact ⟨O, O, O, O, O, O, trivial⟩
   ·exact en
  ·obtain rfl : i = ps.length := by omega
   rw [List.take_length]
   have hml : (7 - ps.length) * wN l ≤ 7 * wN l := Nat.mul_le_mul_right _ (by omega)
   have hme : (7 - ((ps.length : Nat) : Int)) * ((wN l : Nat) : Int) = (((7 - ps.length) * wN l : Nat) : Int) := by rw [Int.natCast_mul, Int.natCast_sub hp7]; rfl
   have hmb : 0 ≤ (7 - ((ps.length : Nat) : Int)) * ((wN l : Nat) : Int) ∧ (7 - ((ps.length : Nat) : Int)) * ((wN l : Nat) : Int) ≤ 10000 := by rw [hme]; omega
   refine xt O<|n_code<|t_seq<|t_draw mixed ?_
   apply dq 0 O
   ·exact yq (qfa 1 O yU73 O O yS3)
   apply dq 1 O
   ·exact yq (qld O yA3)
   apply dq 2 O
   ·exact yq (qsub O O)
   apply dq 3 O
   ·exact yq (qlda O yA27 yS27)
   refine d_eff1 [3] [2, 1, 0] 4 [(76, _)] gO ⟨rfl, trivial⟩ (by kernel_rfl) (by kernel_rfl) fun Ex => ?_
   refine lc1 O O O (width_ok pa off hl) ?_
   refine l_nil ?_
   apply n_d
   ·refine ⟨?_, ?_, ?_, trivial⟩
    ·apply ya O O; exact yq (qsub O O)
    ·apply ya O O; exact yq (qld O yA3)
    ·apply ya O O; exact yq (qfa 1 O yU73 O O yS3)
   apply dq 5 O
   ·exact yq (qmul O O)
   refine d_eff1 [5, 0, 1, 2] [] 6 [(78, _)] gO ⟨rfl, trivial⟩ (by kernel_rfl) (by kernel_rfl) fun Ex => ?_
   refine asg O O<|l_nil ?_
   apply n_d
   ·exact trivial
   refine d_end (by kernel_rfl) ?_
   refine n_code<|t_draw mixed ?_
   apply dq 0 O
   ·exact yq (qfa 0 O yU27 O O yS23)
   apply dq 1 O
   ·exact yq (qld O yA23)
   apply dq 2 O
   ·exact yq (qfa 0 O yU73 O O yS3)
   apply dq 3 O
   ·exact yq (qld O yA3)
   apply dq 4 O
   ·exact yq (qadd O O)
   apply dq 5 O
   ·exact yq (q_move O)
   apply dq 6 O
   ·exact yq (q_move O)
   refine d_eff1 [6] [5, 4, 3, 2, 1, 0] 7 [(85, _)] gO ⟨rfl, trivial⟩ (by kernel_rfl) (by kernel_rfl) fun Ex => ?_
   rw [hme]
   refine lc1 O O O (Shelved.Repeat_ok ⟨#[0]⟩ ((7 - ps.length) * wN l) (by omega) (by decide)) ?_
   refine l_nil ?_
   apply n_d
   ·refine ⟨?_, ?_, ?_, ?_, ?_, ?_, trivial⟩
    ·apply ya O O; exact yq (q_move O)
    ·apply ya O O; exact yq (qadd O O)
    ·apply ya O O; exact yq (qld O yA3)
    ·apply ya O O; exact yq (qfa 0 O yU73 O O yS3)
    ·apply ya O O; exact yq (qld O yA23)
    ·apply ya O O; exact yq (qfa 0 O yU27 O O yS23)
   refine d_eff1 [] [5, 4, 3, 2, 1, 0] 8 [(86, _)] gO ⟨rfl, trivial⟩ (by kernel_rfl) (by kernel_rfl) fun Ex => ?_
   refine o_buildSlice1 [_] rfl rfl yU123 yS9 yZ9 rfl rfl rfl rfl (fun b87 => ?_)
   refine l_nil ?_
   apply n_d
   ·refine ⟨?_, ?_, ?_, ?_, ?_, ?_, trivial⟩
    ·apply ya O O; exact yq (q_move O)
    ·apply ya O O; exact yq (qadd O O)
    ·apply ya O O; exact yq (qld O yA3)
    ·apply ya O O; exact yq (qfa 0 O yU73 O O yS3)
    ·apply ya O O; exact yq (qld O yA23)
    ·apply ya O O; exact yq (qfa 0 O yU27 O O yS23)
   refine d_eff1 [5] [4, 3, 2, 1, 0] 9 [(84, _), (87, _)] gO ⟨rfl, rfl, trivial⟩ (by kernel_rfl) (by kernel_rfl) fun Ex => ?_
   apply o_append (sz := 1) rfl rfl rfl yU123 yI9 rfl rfl
   ·exact tk
   ·exact tk
   ·rfl
   ·rfl
   ·simp only [maxLen]; omega
   ·omega
   intro v88
   refine l_nil ?_
   apply n_d
   ·refine ⟨?_, ?_, ?_, ?_, ?_, trivial⟩
    ·apply ya O O; exact yq (qadd O O)
    ·apply ya O O; exact yq (qld O yA3)
    ·apply ya O O; exact yq (qfa 0 O yU73 O O yS3)
    ·apply ya O O; exact yq (qld O yA23)
    ·apply ya O O; exact yq (qfa 0 O yU27 O O yS23)
   refine d_eff1 [1, 4, 0, 3, 2] [] 10 [(80, _), (83, _), (88, _)] gO ⟨rfl, rfl, rfl, trivial⟩ (by kernel_rfl) (by kernel_rfl) fun Ex => ?_
   rw [show strs (prS ps) ++ #[Value.string (Shelved.copies ⟨#[0]⟩ ((7 - ps.length) * wN l))].toList = strs (prS ps ++ [Shelved.copies ⟨#[0]⟩ ((7 - ps.length) * wN l)]) by simp [strs]]
   refine l_shape tk fun _ hsh => ?_
   obtain ⟨a8, c8, rfl, ha8, hc8, hcm8⟩ := hsh
   obtain ⟨g8, rfl⟩ := ha8 (by omega)
   have hws : ∀ p ∈ ps, p.1.size + p.2.size = wN l := fun p hp => by have := hsz p hp; unfold wN; rw [this.1, this.2]
   have hcs : (Shelved.copies ⟨#[0]⟩ ((7 - ps.length) * wN l)).size = (7 - ps.length) * wN l := by simp [Shelved.copies, ByteArray.size, Lib.repeatL_length]
   have htt : totS (prS ps ++ [Shelved.copies ⟨#[0]⟩ ((7 - ps.length) * wN l)]) = 7 * wN l := by rw [totS_app, totS_pr hws]; simp only [totS, hcs]; omega
   refine lc1 O O O (WriteO_ok pa (wm s m) g8 (2 * ps.length + 1) c8 (o + 96) _ (prS ps ++ [Shelved.copies ⟨#[0]⟩ ((7 - ps.length) * wN l)]) (by omega) (by simp [prS_len]) (by omega) (by omega) (by rw [htt, show (o : Int) + 96 = ((o + 96 : Nat) : Int) by omega]; exact good_wm (hgood 96 _ (by omega)))) ?_
   refine l_nil ?_
   apply n_d
   ·exact trivial
   refine d_end (by kernel_rfl) ?_
   rw [put_wm, htt]
   have hN : NodeM l (layM m (o + 96) (7 * wN l) (catM (prS ps ++ [Shelved.copies ⟨#[0]⟩ ((7 - ps.length) * wN l)]))) o ps leaf K tot := by
    refine ⟨?_, ?_, ?_, fun i k hi => ?_, fun i p hi => ?_⟩
    ·rw [load_out (by omega)]; exact m1
    ·rw [load_out (by omega)]; exact m2
    ·rw [load_out (by omega)]; exact m3
    ·have hi8 : i < 8 := by have := (List.getElem?_eq_some_iff.1 hi).1; omega
     rw [load_out (by omega)]; exact m4 i k hi8 hi
    ·have hi7 : i < ps.length := (List.getElem?_eq_some_iff.1 hi).1
     have hpz := hsz p (List.mem_of_getElem? hi)
     have hsp := str_pair hpz
     have hmw : i * wN l + wN l ≤ 7 * wN l := by rw [← Nat.succ_mul]; exact Nat.mul_le_mul_right _ (by omega)
     have e : strM (layM m (o + 96) (7 * wN l) (catM (prS ps ++ [Shelved.copies ⟨#[0]⟩ ((7 - ps.length) * wN l)]))) (o + 96 + i * wN l) (wN l) = strM (byteAt (p.1 ++ p.2)) 0 (wN l) := by
      unfold strM
      congr 2
      refine List.map_congr_left fun j hj => ?_
      have hj' := List.mem_range.1 hj
      rw [lay_at (by omega) (by omega), show o + 96 + i * wN l + j - (o + 96) = i * wN l + j by omega, cat_pairs hws hi hj', Nat.zero_add]
     rw [e]
     have := strM_eq (m := byteAt (p.1 ++ p.2)) (byteAt_bnd _) (o := 0) (s := p.1 ++ p.2) fun i _ => by rw [Nat.zero_add]
     rwa [hsp] at this
   have hK : ∀ a, a < o ∨ o + nbN l ≤ a → layM m (o + 96) (7 * wN l) (catM (prS ps ++ [Shelved.copies ⟨#[0]⟩ ((7 - ps.length) * wN l)])) a = s.m a := fun a ha => by
    rw [lay_out (by omega)]; exact m5 a ha
   apply f_ret (.inr rfl) ([arenaH pa (wm s (layM m (o + 96) (7 * wN l) (catM (prS ps ++ [Shelved.copies ⟨#[0]⟩ ((7 - ps.length) * wN l)]))))])
   ·exact res0 O
   ·exact ⟨_, rfl, rfl, hN, hK⟩
   ·exact en
end
/-! ### The header -/
def w4 (a b c d : Nat) (j : Nat) : Nat := match j with | 0 => a | 1 => b | 2 => c | _ => d
def ws4 (W : Nat → Nat) (i : Nat) : List Value := (List.range 4).map fun j => .int .i64 ((if j < i then W j else 0 : Nat) : Int)
theorem ws4_set {W : Nat → Nat} : ∀ {i : Nat}, i < 4 → (ws4 W i).set i (.int .i64 ((W i : Nat) : Int)) = ws4 W (i + 1)
 | 0, _ => rfl
 | 1, _ => rfl
 | 2, _ => rfl
 | 3, _ => rfl
section
variable (pa off : Nat) (s : ArS) (l : Lay) (u0 u1 u2 u3 : Nat)
theorem head_ok (hb : (((off : Nat) : Int), 64) ∈ s.bl) (ho : off ≤ 1000000000) (h0 : loadN s.m off 8 = ((u0 : Nat) : Int)) (h1 : loadN s.m (off + 8) 8 = ((u1 : Nat) : Int)) (h2 : loadN s.m (off + 16) 8 = ((u2 : Nat) : Int)) (h3 : loadN s.m (off + 24) 8 = ((u3 : Nat) : Int))
  (n0 : u0 < 9223372036854775808) (n1 : u1 < 9223372036854775808) (n2 : u2 < 9223372036854775808) (n3 : u3 < 9223372036854775808) :
  FnOk Try.prog 18 #[.agg #[.pointer (some ⟨pa, 0, none⟩), .int .i64 l.key, .int .i64 l.elem, .int .i64 l.ka, .int .i64 l.ea, .int .i64 l.cap, .int .i64 l.eo, .int .i64 l.bo, .int .i64 l.slot, .int .i64 l.group, .int .i64 ((off : Nat) : Int)]] [arenaH pa s] (fun v L => v = .tuple #[.agg #[.int .i64 ((u0 : Nat) : Int), .int .i64 ((u1 : Nat) : Int), .int .i64 ((u2 : Nat) : Int), .int .i64 ((u3 : Nat) : Int)], .int .i64 0] ∧ L = [arenaH pa s]) := by
 obtain ⟨W, hW⟩ : ∃ W, W = w4 u0 u1 u2 u3 := ⟨_, rfl⟩
 have hWl : ∀ i, i < 4 → loadN s.m (off + 8 * i) 8 = ((W i : Nat) : Int) ∧ W i < 9223372036854775808 := fun i hi => by
  subst hW
  match i, hi with
  | 0, _ => exact ⟨h0, n0⟩
  | 1, _ => exact ⟨h1, n1⟩
  | 2, _ => exact ⟨h2, n2⟩
  | 3, _ => exact ⟨h3, n3⟩
 refine fn_intro en18 Try.func18 rfl rfl rfl fun Fr w0 => t_nm ?_
 refine sr<|o_boxA O O fun b1 => o_allocA O yZ57 fun b2 => asg O O<|lz<|o_allocA O yZ90 fun b4 => lc<|t_seq<|sr<|mv O O<|lc<|t_block ?_
 refine t_loop (fun i : Nat => i ≤ 4) (fun i => [(1, .pointer (some ⟨b1, 0, none⟩)), (2, .pointer (some ⟨b2, 0, none⟩)), (4, .pointer (some ⟨b4, 0, none⟩)), (8, .int .i64 (i : Nat))]) (fun i => pt b4 (.cells (ws4 W i).toArray 90 (0, 0)) :: pt b2 (.cells #[.int .i64 0, .int .i64 0, .int .i64 0, .int .i64 0] 57 (0, 0)) :: pt b1 (.cells #[.pointer (some ⟨pa, 0, none⟩), .int .i64 l.key, .int .i64 l.elem, .int .i64 l.ka, .int .i64 l.ea, .int .i64 l.cap, .int .i64 l.eo, .int .i64 l.bo, .int .i64 l.slot, .int .i64 l.group, .int .i64 ((off : Nat) : Int)] 27 (0, 0)) :: arenaH pa s :: Fr) (fun i => 4 - i) 0 (by omega) ⟨rfl, rfl, rfl, rfl, trivial⟩ (Ent.refl _) ?_
 intro i hi
 (try dsimp only at hi ⊢)
 refine sr<|l_q O (qi O O (b_lss ·))<|lc<|t_seq<|t_if O (fun h => ?_) fun h => ?_
 ·have hi4 : i < 4 := by omega
  obtain ⟨hwl, hwb⟩ := hWl i hi4
  refine t_skip<|n_code<|t_seq<|t_block<|sr<|mv O O<|asg O O<|lz<|l_q O (qfa 0 O yU27 O O yS23)<|l_q O (qld O yA23) ?_
  refine l_q O (qfa 10 O yU27 O O yS3)<|l_q O (qld O yA3) ?_
  refine mv O O<|l_q O (qmul O O) ?_
  refine l_q O (qadd O O) ?_
  refine lc1 O O O (Load_okI pa s _ 8 (off + 8 * i) 8 (by omega) rfl (by unfold wid; omega) (good_in hb (by omega) (by omega) (by omega))) ?_
  refine mv O O<|l_q O (q_extractL O ga) ?_
  refine l_q O (q_extractL O ga) ?_
  refine asg O O<|asg O O<|lc<|t_seq<|sr<|mv O O<|l_q O (qi O O (b_neq ·))<|lc ?_
  rw [hwl]
  refine t_if O (fun z => ?_) fun z => ?_
  ·exact absurd rfl z
  ·refine t_skip<|n_code<|t_region<|mv O O<|mv O O<|l_q O (qcv O yU91 yU3) ?_
   refine l_q O (q_indexAddrA O O yU90 yS3 (by omega)) ?_
   apply o_storeP1 (xs' := ws4 W (i + 1)) rfl rfl rfl yS3 rfl
   ·exact tk
   ·rw [Int.toNat_natCast]; simp [ws4]; omega
   ·rw [Int.toNat_natCast, Nat.mul_one, Nat.zero_add]; exact ws4_set hi4
   refine l_nil<|n_blk<|n_code<|t_region<|l_q O (qadd O O) ?_
   refine mv O O<|l_nil ?_
   apply n_again (i + 1)
   ·exact (show i + 1 ≤ 4 by omega)
   ·(try dsimp only); omega
   ·exact ⟨O, O, O, O, trivial⟩
   ·exact en
 ·obtain rfl : i = 4 := by omega
  refine t_ent (L' := pt b4 (.cells #[.int .i64 ((u0 : Nat) : Int), .int .i64 ((u1 : Nat) : Int), .int .i64 ((u2 : Nat) : Int), .int .i64 ((u3 : Nat) : Int)] 90 (0, 0)) :: pt b2 (.cells #[.int .i64 0, .int .i64 0, .int .i64 0, .int .i64 0] 57 (0, 0)) :: pt b1 (.cells #[.pointer (some ⟨pa, 0, none⟩), .int .i64 l.key, .int .i64 l.elem, .int .i64 l.ka, .int .i64 l.ea, .int .i64 l.cap, .int .i64 l.eo, .int .i64 l.bo, .int .i64 l.slot, .int .i64 l.group, .int .i64 ((off : Nat) : Int)] 27 (0, 0)) :: arenaH pa s :: Fr) (by subst hW; exact Ent.refl _) ?_
  refine xt O<|nz<|l_q O (q_indexAddrA O O yU90 yS3 (by omega)) ?_
  refine l_q O (qld O yA3) ?_
  refine l_q O (q_indexAddrA O O yU90 yS3 (by omega)) ?_
  refine l_q O (qld O yA3) ?_
  refine l_q O (q_indexAddrA O O yU90 yS3 (by omega)) ?_
  refine l_q O (qld O yA3) ?_
  refine l_q O (q_indexAddrA O O yU90 yS3 (by omega)) ?_
  refine l_q O (qld O yA3) ?_
  apply l_q O
  ·apply q_buildS O yP57 yZ57
   ·apply FillR.one
    ·repeat (first | exact PlAt.here | apply PlAt.there)
    ·rfl
    ·exact sa
    apply FillR.one
    ·repeat (first | exact PlAt.here | apply PlAt.there)
    ·rfl
    ·exact sa
    apply FillR.one
    ·repeat (first | exact PlAt.here | apply PlAt.there)
    ·rfl
    ·exact sa
    apply FillR.one
    ·repeat (first | exact PlAt.here | apply PlAt.there)
    ·rfl
    ·exact sa
    exact FillR.nil
  refine sta O O O yS57 O O ?_
  refine asg O O<|lc<|rt ?_
  apply f_ret (.inl rfl) ([arenaH pa s])
  ·apply res2 O
   ·apply Rv.agg rfl
    ·exact tk
    ·exact run_loadAll yA57 yS57 O
   ·exact .tmp rfl
  ·exact ⟨rfl, rfl⟩
  ·exact en
theorem setHead_ok (hb : (((off : Nat) : Int), 64) ∈ s.bl) (ho : off ≤ 1000000000) (n0 : u0 < 9223372036854775808) (n1 : u1 < 9223372036854775808) (n2 : u2 < 9223372036854775808) (n3 : u3 < 9223372036854775808) :
  FnOk Try.prog 25 #[.agg #[.pointer (some ⟨pa, 0, none⟩), .int .i64 l.key, .int .i64 l.elem, .int .i64 l.ka, .int .i64 l.ea, .int .i64 l.cap, .int .i64 l.eo, .int .i64 l.bo, .int .i64 l.slot, .int .i64 l.group, .int .i64 ((off : Nat) : Int)], .agg #[.int .i64 ((u0 : Nat) : Int), .int .i64 ((u1 : Nat) : Int), .int .i64 ((u2 : Nat) : Int), .int .i64 ((u3 : Nat) : Int)]] [arenaH pa s] (fun v L => ∃ m', v = .tuple #[] ∧ L = [arenaH pa (wm s m')] ∧ (loadN m' off 8 = ((u0 : Nat) : Int) ∧ loadN m' (off + 8) 8 = ((u1 : Nat) : Int) ∧ loadN m' (off + 16) 8 = ((u2 : Nat) : Int) ∧ loadN m' (off + 24) 8 = ((u3 : Nat) : Int)) ∧ ∀ a, a < off ∨ off + 64 ≤ a → m' a = s.m a) := by
 obtain ⟨W, hW⟩ : ∃ W, W = w4 u0 u1 u2 u3 := ⟨_, rfl⟩
 have hWb : ∀ i, i < 4 → W i < 9223372036854775808 := fun i hi => by
  subst hW
  match i, hi with
  | 0, _ => exact n0
  | 1, _ => exact n1
  | 2, _ => exact n2
  | 3, _ => exact n3
 have hWv : ∀ i, i < 4 → (#[.int .i64 ((u0 : Nat) : Int), .int .i64 ((u1 : Nat) : Int), .int .i64 ((u2 : Nat) : Int), .int .i64 ((u3 : Nat) : Int)] : Array Value)[i]? = some (.int .i64 ((W i : Nat) : Int)) := fun i hi => by
  subst hW
  match i, hi with
  | 0, _ => rfl
  | 1, _ => rfl
  | 2, _ => rfl
  | 3, _ => rfl
 refine fn_intro en25 Try.func25 rfl rfl rfl fun Fr w0 => t_nm ?_
 refine sr<|o_boxA O O fun b2 => o_boxA O O fun b3 => lz<|l_q O (qfa 0 O yU57 O O yS3)<|l_q O (qld O yA3) ?_
 refine l_q O (qfa 1 O yU57 O O yS3)<|l_q O (qld O yA3) ?_
 refine l_q O (qfa 2 O yU57 O O yS3)<|l_q O (qld O yA3) ?_
 refine l_q O (qfa 3 O yU57 O O yS3)<|l_q O (qld O yA3) ?_
 refine l_q O (q_build (us := #[.int .i64 ((u0 : Nat) : Int), .int .i64 ((u1 : Nat) : Int), .int .i64 ((u2 : Nat) : Int), .int .i64 ((u3 : Nat) : Int)]) rfl (fun w => by kernel_rfl)) ?_
 refine mv O O<|lc<|t_block ?_
 refine t_loop (fun x : Nat × (Nat → Int) => x.1 ≤ 4 ∧ (∀ j, j < x.1 → loadN x.2 (off + 8 * j) 8 = ((W j : Nat) : Int)) ∧ ∀ a, a < off ∨ off + 64 ≤ a → x.2 a = s.m a) (fun x => [(2, .pointer (some ⟨b2, 0, none⟩)), (14, .agg #[.int .i64 ((u0 : Nat) : Int), .int .i64 ((u1 : Nat) : Int), .int .i64 ((u2 : Nat) : Int), .int .i64 ((u3 : Nat) : Int)]), (15, .int .i64 (x.1 : Nat))]) (fun x => pt b2 (.cells #[.pointer (some ⟨pa, 0, none⟩), .int .i64 l.key, .int .i64 l.elem, .int .i64 l.ka, .int .i64 l.ea, .int .i64 l.cap, .int .i64 l.eo, .int .i64 l.bo, .int .i64 l.slot, .int .i64 l.group, .int .i64 ((off : Nat) : Int)] 27 (0, 0)) :: arenaH pa (wm s x.2) :: Fr) (fun x => 4 - x.1) (0, s.m) ⟨Nat.zero_le _, fun j hj => absurd hj (Nat.not_lt_zero _), fun a _ => rfl⟩ ⟨rfl, rfl, rfl, trivial⟩ (by rw [wm_self]; (exact en)) ?_
 rintro ⟨i, m⟩ ⟨hi, m1, m2⟩
 dsimp only at hi m1 m2 ⊢
 refine sr<|l_q O (qi O O (b_lss ·))<|lc<|t_seq<|t_if O (fun h => ?_) fun h => ?_
 ·have hi4 : i < 4 := by omega
  have hwb := hWb i hi4
  refine t_skip<|n_code<|t_seq<|t_block<|sr<|mv O O ?_
  apply l_q O
  ·apply q_indexArr1 (v := .int .i64 ((W i : Nat) : Int)) rfl rfl Try.underlying90 yA3 yS3 (by omega)
   rw [Int.toNat_natCast]; exact hWv i hi4
  refine asg O O<|asg O O<|lr<|l_q O (qfa 0 O yU27 O O yS23)<|l_q O (qld O yA23) ?_
  refine l_q O (qfa 10 O yU27 O O yS3)<|l_q O (qld O yA3) ?_
  refine mv O O<|l_q O (qmul O O) ?_
  refine l_q O (qadd O O) ?_
  refine mv O O<|l_q O (qcv O yU3 yU91) ?_
  refine lc1 O O O (Store_okI pa (wm s m) _ 8 (off + 8 * i) 8 _ (by omega) rfl (by omega) (by unfold wid; omega) (good_wm (good_in hb (by omega) (by omega) (by omega)))) ?_
  refine l_nil<|n_blk<|n_code<|t_region<|l_q O (qadd O O) ?_
  refine mv O O<|l_nil ?_
  rw [put_wm]
  have hP' : i + 1 ≤ 4 ∧ (∀ j, j < i + 1 → loadN (layM m (off + 8 * i) 8 (byteN ((W i : Nat) : Int))) (off + 8 * j) 8 = ((W j : Nat) : Int)) ∧ ∀ a, a < off ∨ off + 64 ≤ a → layM m (off + 8 * i) 8 (byteN ((W i : Nat) : Int)) a = s.m a := by
   refine ⟨by omega, fun j hj => ?_, fun a ha => ?_⟩
   ·rcases Nat.lt_or_ge j i with q | q
    ·rw [load_out (by omega)]; exact m1 j q
    ·have : j = i := by omega
     subst this
     exact load_at (by omega)
   ·rw [lay_out (by omega)]; exact m2 a ha
  apply n_again ((i + 1, layM m (off + 8 * i) 8 (byteN ((W i : Nat) : Int))))
  ·exact hP'
  ·(try dsimp only); omega
  ·exact ⟨O, O, O, trivial⟩
  ·exact en
 ·obtain rfl : i = 4 := by omega
  have q0 := m1 0 (by decide)
  have q1 := m1 1 (by decide)
  have q2 := m1 2 (by decide)
  have q3 := m1 3 (by decide)
  subst hW
  refine xt O ?_
  apply f_ret (.inr rfl) ([arenaH pa (wm s m)])
  ·exact res0 O
  ·exact ⟨m, rfl, rfl, ⟨q0, q1, q2, q3⟩, m2⟩
  ·exact en
end
end Go.Proofs.Ytjekhcojebgpnaa.Bt
