/- Contracts of package order: a full node is split. -/
import Derived.Test.YtjekhcojebgpnaaBtS
set_option linter.unusedVariables false
set_option linter.unusedSimpArgs false
set_option maxRecDepth 100000
namespace Go.Proofs.Ytjekhcojebgpnaa.Bt
open Go.RowKit Go.Proofs Go.Proofs.Ytjekhcojebgpnaa.Eng Go.Proofs.Ytjekhcojebgpnaa.Ty Go.Proofs.Ytjekhcojebgpnaa.Bits Go.Proofs.Ytjekhcojebgpnaa.Mem Go.Proofs.Ytjekhcojebgpnaa.Search Go.Proofs.Ytjekhcojebgpnaa.Layout Go.Proofs.Ytjekhcojebgpnaa.Arena Go.Proofs.Ytjekhcojebgpnaa.GroupB
/-! ### Arrays of pairs, of numbers -/
section
variable {A : Type}
theorem lay_padA {a : A} {n : Nat} {l : List A} (h : l.length ≤ n) : layA (List.replicate n a) 0 l = pad a n l := by
 unfold layA pad
 rw [List.take_zero, List.nil_append, Nat.zero_add, List.drop_replicate]
theorem build_ins {l : List A} {n i : Nat} {z a : A} (hl : l.length = n) (hi : i ≤ n) : layA ((layA (List.replicate (n + 1) z) 0 (l.take i)).set i a) (i + 1) (l.drop i) = ins l i a := by
 have h0 : 0 + (l.take i).length ≤ (List.replicate (n + 1) z).length := by simp; omega
 have h1 : (layA (List.replicate (n + 1) z) 0 (l.take i)).length = n + 1 := by rw [layA_len h0]; simp
 have h2 : i + 1 + (l.drop i).length ≤ ((layA (List.replicate (n + 1) z) 0 (l.take i)).set i a).length := by rw [List.length_set, h1, List.length_drop]; omega
 apply List.ext_getElem?
 intro j
 rw [layA_get h2, List.getElem?_set, layA_get h0, h1, ins_get (by omega), List.length_drop, List.getElem?_drop, List.length_take, List.getElem?_take]
 by_cases q : j < i
 ·rw [if_neg (by omega), if_neg (by omega), if_pos (by omega), if_pos q, Nat.sub_zero, if_pos q]
 ·by_cases q2 : j = i
  ·subst q2
   rw [if_neg (by omega), if_pos rfl, if_pos (by omega), if_neg q, if_pos rfl]
  ·rw [if_neg q, if_neg q2]
   by_cases q3 : j < n + 1
   ·rw [if_pos (by omega)]; congr 1; omega
   ·rw [if_neg (by omega), if_neg (Ne.symm q2), if_neg (by omega), List.getElem?_eq_none (by simp; omega), List.getElem?_eq_none (by omega)]
end
section
variable {Q ys : List Pr} {K zs : List Nat} {g i k n : Nat} {tt : TypeId} {fr : Nat × Nat} {L M : List HP}
theorem row_lay (hn : Q.length = n) (h : i + ys.length ≤ n) : lay (rowOf prV Q) (tailN 2 0 i n) (rowOf prV ys) = rowOf prV (layA Q i ys) := by
 have hr := row_len Q
 have hy := row_len ys
 by_cases q : n = i
 ·have : ys = [] := List.eq_nil_of_length_eq_zero (by omega)
  subst this
  rw [show rowOf prV [] = [] from rfl, lay_nil', layA_nil]
 ·unfold tailN
  rw [if_neg q, Nat.zero_add]
  unfold lay layA
  rw [rowOf_take prV_len Q i (by omega), hy, ← Nat.add_mul, rowOf_drop prV_len Q _ (by omega), rowOf_app, rowOf_app]
theorem kid_lay (hn : K.length = n) (h : i + zs.length ≤ n) : lay (K.map kV) (tailN 1 0 i n) (zs.map kV) = (layA K i zs).map kV := by
 by_cases q : n = i
 ·have : zs = [] := List.eq_nil_of_length_eq_zero (by omega)
  subst this
  rw [show ([] : List Nat).map kV = [] from rfl, lay_nil', layA_nil]
 ·unfold tailN
  rw [if_neg q, Nat.zero_add, Nat.mul_one]
  unfold lay layA
  simp only [List.map_append, List.map_take, List.map_drop, List.length_map]
theorem row_fit (hn : Q.length = n) (h : i + ys.length ≤ n) : tailN 2 0 i n + (rowOf prV ys).length ≤ (rowOf prV Q).length := by
 rw [row_len, row_len, hn]; unfold tailN; split <;> omega
theorem kid_fit (hn : K.length = n) (h : i + zs.length ≤ n) : tailN 1 0 i n + (zs.map kV).length ≤ (K.map kV).length := by
 rw [List.length_map, List.length_map, hn]; unfold tailN; split <;> omega
theorem row_reads (hn : Q.length = n) (h : i + k ≤ n) (ht : Take (pt g (.cells (rowOf prV Q).toArray tt fr)) L M) : Reads L ⟨g, tailN 2 0 i n, none⟩ (rowOf prV ((Q.drop i).take k)) := by
 by_cases q : n = i
 ·have : k = 0 := by omega
  subst this
  rw [List.take_zero]; exact reads_nil
 ·unfold tailN
  rw [if_neg q, Nat.zero_add, ← row_sub Q i k (by omega)]
  exact reads_ptP ht
theorem kid_reads (hn : K.length = n) (h : i + k ≤ n) (ht : Take (pt g (.cells (K.map kV).toArray tt fr)) L M) : Reads L ⟨g, tailN 1 0 i n, none⟩ (((K.drop i).take k).map kV) := by
 by_cases q : n = i
 ·have : k = 0 := by omega
  subst this
  rw [List.take_zero]; exact reads_nil
 ·unfold tailN
  rw [if_neg q, Nat.zero_add, Nat.mul_one, List.map_take, List.map_drop]
  exact reads_ptP ht
theorem row_pair {p : Pr} (hp : Q[i]? = some p) : ((rowOf prV Q).drop (i * 2)).take 2 = prV p := by
 obtain ⟨hi, rfl⟩ := List.getElem?_eq_some_iff.1 hp
 have h1 := row_sub Q i 1 (by omega)
 have h2 : (Q.drop i).take 1 = [Q[i]] := by rw [← List.getElem_cons_drop hi]; rfl
 rw [h2] at h1
 refine h1.trans ?_
 simp [rowOf]
theorem row_setp {p : Pr} (hi : i < Q.length) : lay (rowOf prV Q) (i * 2) (prV p) = rowOf prV (Q.set i p) := by
 have := row_lay (Q := Q) (ys := [p]) (i := i) rfl (by simp; omega)
 rw [lay_one hi] at this
 rw [← this]
 unfold tailN
 rw [if_neg (by omega), Nat.zero_add]
 simp [rowOf]
end
theorem lay_all {A : Type} {xs ys : List A} (h : ys.length = xs.length) : layA xs 0 ys = ys := by
 unfold layA
 rw [List.take_zero, List.nil_append, Nat.zero_add, List.drop_eq_nil_of_le (by omega), List.append_nil]
section
variable {c : Cx} {fin : Exit → Act → World → Prop} {ds : List Deferred} {E : Env} {L : List HP} {ks : List KI} {ops : Array Oper} {rest : List Oper}
variable {d : Option Tmp} {ty : TypeId} {pos : String} {af : Array Edge}
/-- A copy; how many elements it took. -/
theorem o_copyC {t t2 e : TypeId} {x y : Operand} {g o dl dc sl sc sz : Nat} {a0 : Addr} {xs xs' : List Value} {tt : TypeId} (n : Nat) (hn : Nat.min sl dl = n) (ys : List Value) {M : List HP} (hd : okDst d c.N = true) (hx : ev E x = some (.slice (some ⟨g, o, none⟩) dl dc)) (hy : ev E y = some (.slice (some a0) sl sc))
  (ht : c.P.underlying t = some (.slice e)) (hinf : ∃ i, c.P.info? e = some i ∧ i.size = sz) (hown : Take (pt g (.cells xs.toArray tt (0, 0))) L M) (hys : ys.length = n * sz) (hr : Reads L a0 ys) (hfit : o + ys.length ≤ xs.length) (h1 : ∀ v ∈ ys, v.oneCell' = true) (hxs : lay xs o ys = xs')
  (k : TL c fin ds (upd d (.int .i64 (n : Nat)) E) (pt g (.cells xs'.toArray tt (0, 0)) :: M) ops rest ks) :
  TL c fin ds E L ops (⟨d, .call { callee := .builtin .copy, args := #[x, y], argTypes := #[t, t2] }, ty, pos, af, none⟩ :: rest) ks := by
 subst hn
 exact o_copyP ys hd hx hy ht hinf hown hys hr hfit h1 hxs k
end
section
variable (pa : Nat) (offI : Int) (s : ArS) {l : Lay} (hl : l.err = 0)
include hl
theorem writeN_ok (o n : Nat) (ps : List Pr) (leaf : Bool) (K : List Nat) (tot : Nat) (hn : ps.length = n) (hob : o ≤ 1000000000) (hbl : blkN l o ∈ s.bl) (hp7 : n ≤ 7) (hk8 : K.length ≤ 8) (hkb : ∀ k ∈ K, k < 9223372036854775808) (htb : tot < 9223372036854775808) (hsz : ∀ p ∈ ps, szs l p) :
  FnOk Try.prog 39 #[.agg #[.pointer (some ⟨pa, 0, none⟩), .int .i64 l.key, .int .i64 l.elem, .int .i64 l.ka, .int .i64 l.ea, .int .i64 l.cap, .int .i64 l.eo, .int .i64 l.bo, .int .i64 l.slot, .int .i64 l.group, .int .i64 offI], .agg (nodeC ((o : Nat) : Int) ((n : Nat) : Int) ((tot : Nat) : Int) leaf (pad p0 7 ps) (pad 0 8 K)).toArray] [arenaH pa s] (fun v L => ∃ m', v = .tuple #[] ∧ L = [arenaH pa (wm s m')] ∧ NodeM l m' o ps leaf K tot ∧ ∀ a, a < o ∨ o + nbN l ≤ a → m' a = s.m a) := by
 subst hn
 exact write_ok pa offI s hl o ps leaf K tot hob hbl hp7 hk8 hkb htb hsz
theorem split_ok (g1 g2 o1 o2 : Nat) (tot i : Nat) (leaf : Bool) (ps : List Pr) (K8 : List Nat) (p : Pr) (right : Nat) (T : Nat → Nat) (h1 : ps.length = 7) (h2 : K8.length = 8) (hi : i ≤ 7)
  (ho1 : o1 ≤ 1000000000) (ho2 : o2 ≤ 1000000000) (hb1 : blkN l o1 ∈ s.bl) (hb2 : blkN l o2 ∈ s.bl) (hne : o1 + nbN l ≤ o2 ∨ o2 + nbN l ≤ o1) (hkb : ∀ k ∈ K8, k ≤ 1000000000) (hrb : right ≤ 1000000000) (htb : tot ≤ 1000000000) (hsz : ∀ q ∈ ps, szs l q) (hszp : szs l p)
  (hT : leaf = false → ∀ j k, (ins K8 (i + 1) right)[4 + j]? = some k → goodP s (((k : Nat) : Int) + 16) 8 ∧ loadN s.m (k + 16) 8 = ((T j : Nat) : Int) ∧ T j ≤ 1000000000)
  (hTs : 4 + (if leaf then 0 else ((List.range 5).map T).sum) ≤ tot) :
  FnOk Try.prog 72 #[.agg #[.pointer (some ⟨pa, 0, none⟩), .int .i64 l.key, .int .i64 l.elem, .int .i64 l.ka, .int .i64 l.ea, .int .i64 l.cap, .int .i64 l.eo, .int .i64 l.bo, .int .i64 l.slot, .int .i64 l.group, .int .i64 offI], .pointer (some ⟨g1, 0, none⟩), .pointer (some ⟨g2, 0, none⟩), .int .i64 i, .agg #[.string p.1, .string p.2], .int .i64 right] [pt g1 (.cells (nodeC (o1) ((7 : Nat)) (tot) leaf (ps) (K8)).toArray 73 (0, 0)), pt g2 (.cells (nodeC (o2) (0) (0) leaf (List.replicate 7 p0) (List.replicate 8 0)).toArray 73 (0, 0)), arenaH pa s]
   (fun v L => ∃ m' q, (ins ps i p)[3]? = some q ∧ v = .agg #[.string q.1, .string q.2] ∧ L = [pt g2 (.cells (nodeC (o2) ((4 : Nat)) ((4 + (if leaf then 0 else ((List.range 5).map T).sum) : Nat)) leaf (pad p0 7 ((ins ps i p).drop 4)) (pad 0 8 ((ins K8 (i + 1) right).drop 4))).toArray 73 (0, 0)), arenaH pa (wm s m')] ∧
    NodeM l m' o1 ((ins ps i p).take 3) leaf ((ins K8 (i + 1) right).take 4) (tot - (4 + (if leaf then 0 else ((List.range 5).map T).sum))) ∧ NodeM l m' o2 ((ins ps i p).drop 4) leaf ((ins K8 (i + 1) right).drop 4) (4 + (if leaf then 0 else ((List.range 5).map T).sum)) ∧
    ∀ a, (a < o1 ∨ o1 + nbN l ≤ a) → (a < o2 ∨ o2 + nbN l ≤ a) → m' a = s.m a) := by
 have hQ : (ins ps i p).length = 8 := by rw [ins_len]; omega
 have hK : (ins K8 (i + 1) right).length = 9 := by rw [ins_len]; omega
 have hP1 := build_ins (z := p0) (a := p) h1 hi
 have hK1 := build_ins (z := 0) (a := right) h2 (show i + 1 ≤ 8 by omega)
 have hQa := layA_len (xs := List.replicate 8 p0) (o := 0) (ys := ps.take i) (by rw [List.length_take, List.length_replicate]; omega)
 have hKa := layA_len (xs := List.replicate 9 0) (o := 0) (ys := K8.take (i + 1)) (by rw [List.length_take, List.length_replicate]; omega)
 rw [List.length_replicate] at hQa hKa
 have e1 : ((i : Int) + 1).toNat = i + 1 := by omega
 have e2 : ((i : Int) + 2).toNat = i + 2 := by omega
 generalize hQe : ins ps i p = Q at *
 generalize hKe : ins K8 (i + 1) right = K9 at *
 generalize hRT : (4 + (if leaf then 0 else ((List.range 5).map T).sum)) = RT at *
 obtain ⟨q3, hq3⟩ : ∃ q, Q[3]? = some q := ⟨_, List.getElem?_eq_getElem (by omega)⟩
 have hpi : ∃ i', Try.prog.info? 69 = some i' ∧ i'.size = 2 := by obtain ⟨i', z1, _, z2, _⟩ := yI69; exact ⟨i', z1, z2⟩
 have hii : ∃ i', Try.prog.info? 3 = some i' ∧ i'.size = 1 := by obtain ⟨i', z1, _, z2, _⟩ := yI3; exact ⟨i', z1, z2⟩
 refine fn_intro en72 Try.func72 rfl rfl rfl fun Fr w0 => t_nm ?_
 have hn7 : (nodeC ((o1 : Nat) : Int) ((7 : Nat) : Int) ((tot : Nat) : Int) leaf ps K8).length = 26 := nodeC_len h1 h2
 have hl7 : (pad p0 7 (Q.take 3)).length = 7 := pad_len (by simp; omega)
 have hl8 : (pad 0 8 (K9.take 4)).length = 8 := pad_len (by simp; omega)
 have hr7 : (pad p0 7 (Q.drop 4)).length = 7 := pad_len (by simp; omega)
 have hr8 : (pad 0 8 (K9.drop 4)).length = 8 := pad_len (by simp; omega)
 have hQz : ∀ q ∈ Q, szs l q := fun q hq => by
  rw [← hQe] at hq
  simp only [ins, List.mem_append, List.mem_cons] at hq
  rcases hq with w | rfl | w
  ·exact hsz q (List.mem_of_mem_take w)
  ·exact hszp
  ·exact hsz q (List.mem_of_mem_drop w)
 have hKz : ∀ k ∈ K9, k ≤ 1000000000 := fun q hq => by
  rw [← hKe] at hq
  simp only [ins, List.mem_append, List.mem_cons] at hq
  rcases hq with w | rfl | w
  ·exact hkb q (List.mem_of_mem_take w)
  ·exact hrb
  ·exact hkb q (List.mem_of_mem_drop w)
 have hTe : ((tot : Nat) : Int) + 1 - ((RT : Nat) : Int) - 1 = ((tot - RT : Nat) : Int) := by omega
 refine sr<|o_boxA O O fun b6 => o_boxA O O fun b10 => o_allocA O yZ69 fun b12 => lz<|o_allocA O yZ151 fun b13 => lz<|o_allocA O yZ152 fun b14 => lc<|t_seq<|t_draw mixed ?_
 apply dq 0 O
 ·exact yq (q_sliceA rfl yU151 yS69)
 apply dq 1 O
 ·exact yq (q_move O)
 apply dq 2 O
 ·exact yq (q_nilCheck O)
 apply dq 3 O
 ·exact yq (qfa 4 O yU73 O O yS70)
 apply dq 4 O
 ·exact yq (q_move O)
 apply dq 5 O
 ·exact yq (q_sliceA_h rfl rfl yU70 yS69 (by omega))
 refine d_eff1 [0, 5, 3, 4, 2, 1] [] 6 [(17, _), (22, _)] gO ⟨rfl, rfl, trivial⟩ (by kernel_rfl) (by kernel_rfl) fun Ex => ?_
 apply o_copyP (rowOf prV (ps.take i)) (xs' := rowOf prV (layA (List.replicate 8 p0) 0 (ps.take i))) rfl rfl rfl Try.underlying120 hpi
 ·exact tk
 ·rw [row_len, List.length_take, Int.toNat_natCast, h1, Nat.min_eq_left hi]; exact congrArg (· * 2) (Nat.min_eq_left (by omega)).symm
 ·exact (show Reads _ ⟨g1, tailN 2 4 0 7, none⟩ (rowOf prV ((ps.drop 0).take i)) from reads_pairsT _ _ _ _ h1 (by omega) tk)
 ·rw [row_len, List.length_take, h1]; simp only [List.length_cons, List.length_nil]; omega
 ·exact rowV_one _
 ·exact (show lay (rowOf prV (List.replicate 8 p0)) (tailN 2 0 0 8) _ = _ from row_lay (by simp) (by simp; omega))
 refine l_nil ?_
 apply n_d
 ·exact trivial
 refine d_end (by kernel_rfl) ?_
 refine nz<|mv O O<|l_q O (qlda O yA69 yS69) ?_
 refine l_q O (q_indexAddrA O O yU151 yS69 (by omega)) ?_
 apply o_storeP (us := prV p) (xs' := rowOf prV ((layA (List.replicate 8 p0) 0 (ps.take i)).set i p)) rfl rfl rfl yS69 rfl rfl
 ·exact tk
 ·rw [Int.toNat_natCast, row_len, hQa]; simp only [prV_len]; omega
 ·rw [Int.toNat_natCast, Nat.zero_add]; exact row_setp (by rw [hQa]; omega)
 refine lc<|t_seq<|t_draw mixed ?_
 apply dq 0 O
 ·exact yq (q_move O)
 apply dq 1 O
 ·exact yq (qadd O O)
 apply dq 2 O
 ·exact yq (q_sliceA_l rfl rfl yU151 yS69 (by omega))
 apply dq 3 O
 ·exact yq (q_move O)
 apply dq 4 O
 ·exact yq (q_nilCheck O)
 apply dq 5 O
 ·exact yq (qfa 4 O yU73 O O yS70)
 apply dq 6 O
 ·exact yq (q_move O)
 apply dq 7 O
 ·exact yq (q_sliceA_l rfl rfl yU70 yS69 (by omega))
 refine d_eff1 [2, 7, 1, 5, 6, 0, 4, 3] [] 8 [(29, _), (34, _)] gO ⟨rfl, rfl, trivial⟩ (by kernel_rfl) (by kernel_rfl) fun Ex => ?_
 apply o_copyP (rowOf prV (ps.drop i)) (xs' := rowOf prV Q) rfl rfl rfl Try.underlying120 hpi
 ·exact tk
 ·rw [row_len, List.length_drop, e1, Int.toNat_natCast, h1]; exact congrArg (· * 2) (Nat.min_eq_left (by omega)).symm
 ·rw [Int.toNat_natCast, show rowOf prV (ps.drop i) = rowOf prV ((ps.drop i).take (7 - i)) by rw [List.take_of_length_le (by simp; omega)]]; exact reads_pairsT _ _ _ _ h1 (by omega) tk
 ·rw [e1]; exact row_fit (by rw [List.length_set, hQa]) (by rw [List.length_drop]; omega)
 ·exact rowV_one _
 ·rw [e1, row_lay (by rw [List.length_set, hQa]) (by rw [List.length_drop]; omega), hP1]
 refine l_nil ?_
 apply n_d
 ·exact trivial
 refine d_end (by kernel_rfl) ?_
 refine n_code<|t_seq<|t_draw mixed ?_
 apply dq 0 O
 ·exact yq (q_sliceA rfl yU152 yS3)
 apply dq 1 O
 ·exact yq (q_move O)
 apply dq 2 O
 ·exact yq (q_nilCheck O)
 apply dq 3 O
 ·exact yq (qfa 18 O yU73 O O yS71)
 apply dq 4 O
 ·exact yq (q_move O)
 apply dq 5 O
 ·exact yq (qadd O O)
 apply dq 6 O
 ·exact yq (q_sliceA_h rfl rfl yU71 yS3 (by omega))
 refine d_eff1 [0, 6, 3, 5, 2, 4, 1] [] 7 [(36, _), (42, _)] gO ⟨rfl, rfl, trivial⟩ (by kernel_rfl) (by kernel_rfl) fun Ex => ?_
 apply o_copyP ((K8.take (i + 1)).map kV) (xs' := (layA (List.replicate 9 0) 0 (K8.take (i + 1))).map kV) rfl rfl rfl Try.underlying28 hii
 ·exact tk
 ·rw [List.length_map, List.length_take, e1, h2, Nat.min_eq_left (by omega)]; exact ((Nat.mul_one _).trans (Nat.min_eq_left (by omega))).symm
 ·exact (show Reads _ ⟨g1, tailN 1 18 0 8, none⟩ (((K8.drop 0).take (i + 1)).map kV) from reads_kidsT _ _ _ _ h1 h2 (by omega) tk)
 ·rw [List.length_map, List.length_take, h2]; simp only [List.length_cons, List.length_nil]; omega
 ·exact kidV_one _
 ·exact (show lay ((List.replicate 9 0).map kV) (tailN 1 0 0 9) _ = _ from kid_lay (by simp) (by simp; omega))
 refine l_nil ?_
 apply n_d
 ·exact trivial
 refine d_end (by kernel_rfl) ?_
 refine nz<|mv O O<|l_q O (qadd O O) ?_
 refine mv O O<|l_q O (q_indexAddrA O O yU152 yS3 (by omega)) ?_
 apply o_storeP1 (v := kV right) (xs' := ((layA (List.replicate 9 0) 0 (K8.take (i + 1))).set (i + 1) right).map kV) rfl rfl rfl yS3 rfl
 ·exact tk
 ·rw [e1, List.length_map, hKa]; omega
 ·rw [e1, Nat.mul_one, Nat.zero_add, List.map_set]
 refine lc<|t_seq<|t_draw mixed ?_
 apply dq 0 O
 ·exact yq (q_move O)
 apply dq 1 O
 ·exact yq (qadd O O)
 apply dq 2 O
 ·exact yq (q_sliceA_l rfl rfl yU152 yS3 (by omega))
 apply dq 3 O
 ·exact yq (q_move O)
 apply dq 4 O
 ·exact yq (q_nilCheck O)
 apply dq 5 O
 ·exact yq (qfa 18 O yU73 O O yS71)
 apply dq 6 O
 ·exact yq (q_move O)
 apply dq 7 O
 ·exact yq (qadd O O)
 apply dq 8 O
 ·exact yq (q_sliceA_l rfl rfl yU71 yS3 (by omega))
 refine d_eff1 [2, 8, 1, 5, 7, 0, 4, 6, 3] [] 9 [(50, _), (56, _)] gO ⟨rfl, rfl, trivial⟩ (by kernel_rfl) (by kernel_rfl) fun Ex => ?_
 apply o_copyP ((K8.drop (i + 1)).map kV) (xs' := K9.map kV) rfl rfl rfl Try.underlying28 hii
 ·exact tk
 ·rw [List.length_map, List.length_drop, e1, e2, h2]; exact ((Nat.mul_one _).trans (Nat.min_eq_left (by omega))).symm
 ·rw [e1, show (K8.drop (i + 1)).map kV = ((K8.drop (i + 1)).take (8 - (i + 1))).map kV by rw [List.take_of_length_le (by simp; omega)]]; exact reads_kidsT _ _ _ _ h1 h2 (by omega) tk
 ·rw [e2]; exact kid_fit (by rw [List.length_set, hKa]) (by rw [List.length_drop]; omega)
 ·exact kidV_one _
 ·rw [e2, kid_lay (by rw [List.length_set, hKa]) (by rw [List.length_drop]; omega), hK1]
 refine l_nil ?_
 apply n_d
 ·exact trivial
 refine d_end (by kernel_rfl) ?_
 refine nz<|mv O O<|l_q O (q_nilCheck O)<|l_q O (qfa 2 O yU73 O O yS3)<|l_q O (qld O yA3) ?_
 refine l_q O (qadd O O) ?_
 refine asg O O<|lz<|mv O O<|mv O O<|l_q O (q_build (us := (rowOf prV (List.replicate 7 p0)).toArray) rfl (fun w => by kernel_rfl)) ?_
 refine l_q O (q_build (us := ((List.replicate 8 0).map kV).toArray) rfl (fun w => by kernel_rfl)) ?_
 refine l_q O (q_nilCheck O)<|l_q O (qfa 4 O yU73 O O yS70) ?_
 apply o_storeP (us := rowOf prV (List.replicate 7 p0)) (xs' := nodeC o1 ((7 : Nat) : Int) tot leaf (List.replicate 7 p0) K8) rfl rfl rfl yS70 rfl rfl
 ·exact tk
 ·rw [hn7]; decide
 ·exact (show lay (nodeC o1 ((7 : Nat) : Int) tot leaf ps K8) (tailN 2 4 0 7) (rowOf prV (List.replicate 7 p0)) = _ from (lay_pairsT _ _ _ _ h1 (by simp)).trans (by rw [lay_all (by simp [h1])]))
 refine l_q O (q_nilCheck O)<|l_q O (qfa 18 O yU73 O O yS71) ?_
 apply o_storeP (us := (List.replicate 8 0).map kV) (xs' := nodeC o1 ((7 : Nat) : Int) tot leaf (List.replicate 7 p0) (List.replicate 8 0)) rfl rfl rfl yS71 rfl rfl
 ·exact tk
 ·rw [nodeC_len (by simp) h2]; decide
 ·exact (show lay (nodeC o1 ((7 : Nat) : Int) tot leaf (List.replicate 7 p0) K8) (tailN 1 18 0 8) ((List.replicate 8 0).map kV) = _ from (lay_kidsT _ _ _ _ (by simp) h2 (by simp)).trans (by rw [lay_all (by simp [h2])]))
 refine lc<|t_seq<|t_draw mixed ?_
 apply dq 0 O
 ·exact yq (q_move O)
 apply dq 1 O
 ·exact yq (q_move O)
 apply dq 2 O
 ·exact yq (q_nilCheck O)
 apply dq 3 O
 ·exact yq (qfa 4 O yU73 O O yS70)
 apply dq 4 O
 ·exact yq (q_sliceA rfl yU70 yS69)
 apply dq 5 O
 ·exact yq (q_sliceA_h rfl rfl yU151 yS69 (by omega))
 refine d_eff1 [4, 5, 3, 2, 1] [0] 6 [(75, _), (76, _)] gO ⟨rfl, rfl, trivial⟩ (by kernel_rfl) (by kernel_rfl) fun Ex => ?_
 apply o_copyC 3 rfl (rowOf prV (Q.take 3)) (xs' := nodeC o1 ((7 : Nat) : Int) tot leaf (pad p0 7 (Q.take 3)) (List.replicate 8 0)) rfl rfl rfl Try.underlying120 hpi
 ·exact tk
 ·rw [row_len, List.length_take, hQ]; try rfl
 ·exact (show Reads _ ⟨b13, tailN 2 0 0 8, none⟩ (rowOf prV ((Q.drop 0).take 3)) from row_reads hQ (by omega) tk)
 ·rw [row_len, List.length_take, hQ, nodeC_len (by simp) (by simp)]; decide
 ·exact rowV_one _
 ·exact (show lay (nodeC o1 ((7 : Nat) : Int) tot leaf (List.replicate 7 p0) (List.replicate 8 0)) (tailN 2 4 0 7) (rowOf prV (Q.take 3)) = _ from (lay_pairsT _ _ _ _ (by simp) (by simp; omega)).trans (by rw [lay_padA (by simp; omega)]))
 refine l_nil ?_
 apply n_d
 ·refine ⟨?_, trivial⟩
  ·apply ya O O; exact yq (q_move O)
 apply dq 7 O
 ·exact yq (q_nilCheck O)
 apply dq 8 O
 ·exact yq (qfa 1 O yU73 O O yS3)
 refine d_eff1 [8, 0, 7] [] 9 [(79, _), (77, _)] gO ⟨rfl, rfl, trivial⟩ (by kernel_rfl) (by kernel_rfl) fun Ex => ?_
 refine st O O O yS3 O ?_
 refine l_nil ?_
 apply n_d
 ·exact trivial
 refine d_end (by kernel_rfl) ?_
 refine n_code<|t_seq<|t_draw mixed ?_
 apply dq 0 O
 ·exact yq (q_move O)
 apply dq 1 O
 ·exact yq (q_nilCheck O)
 apply dq 2 O
 ·exact yq (qfa 18 O yU73 O O yS71)
 apply dq 3 O
 ·exact yq (q_sliceA rfl yU71 yS3)
 apply dq 4 O
 ·exact yq (q_sliceA_h rfl rfl yU152 yS3 (by omega))
 refine d_eff1 [3, 4, 2, 1, 0] [] 5 [(83, _), (84, _)] gO ⟨rfl, rfl, trivial⟩ (by kernel_rfl) (by kernel_rfl) fun Ex => ?_
 apply o_copyC 4 rfl ((K9.take 4).map kV) (xs' := nodeC o1 ((3 : Nat) : Int) tot leaf (pad p0 7 (Q.take 3)) (pad 0 8 (K9.take 4))) rfl rfl rfl Try.underlying28 hii
 ·exact tk
 ·rw [List.length_map, List.length_take, hK]; try rfl
 ·exact (show Reads _ ⟨b14, tailN 1 0 0 9, none⟩ (((K9.drop 0).take 4).map kV) from kid_reads hK (by omega) tk)
 ·rw [List.length_map, List.length_take, hK, nodeC_len (pad_len (by simp; omega)) (by simp)]; decide
 ·exact kidV_one _
 ·exact (show lay (nodeC o1 ((3 : Nat) : Int) tot leaf (pad p0 7 (Q.take 3)) (List.replicate 8 0)) (tailN 1 18 0 8) ((K9.take 4).map kV) = _ from (lay_kidsT _ _ _ _ (pad_len (by simp; omega)) (by simp) (by simp; omega)).trans (by rw [lay_padA (by simp; omega)]))
 refine l_nil ?_
 apply n_d
 ·exact trivial
 refine d_end (by kernel_rfl) ?_
 refine n_code<|t_seq<|t_draw mixed ?_
 apply dq 0 O
 ·exact yq (q_move O)
 apply dq 1 O
 ·exact yq (q_move O)
 apply dq 2 O
 ·exact yq (q_nilCheck O)
 apply dq 3 O
 ·exact yq (qfa 4 O yU73 O O yS70)
 apply dq 4 O
 ·exact yq (q_sliceA rfl yU70 yS69)
 apply dq 5 O
 ·exact yq (q_sliceA_l rfl rfl yU151 yS69 (by omega))
 refine d_eff1 [4, 5, 3, 2, 1] [0] 6 [(90, _), (91, _)] gO ⟨rfl, rfl, trivial⟩ (by kernel_rfl) (by kernel_rfl) fun Ex => ?_
 apply o_copyC 4 rfl (rowOf prV (Q.drop 4)) (xs' := nodeC o2 0 0 leaf (pad p0 7 (Q.drop 4)) (List.replicate 8 0)) rfl rfl rfl Try.underlying120 hpi
 ·exact tk
 ·rw [row_len, List.length_drop, hQ]; try rfl
 ·rw [show rowOf prV (Q.drop 4) = rowOf prV ((Q.drop 4).take 4) by rw [List.take_of_length_le (by simp; omega)]]; exact row_reads hQ (by omega) tk
 ·rw [row_len, List.length_drop, hQ, nodeC_len (by simp) (by simp)]; decide
 ·exact rowV_one _
 ·exact (show lay (nodeC o2 0 0 leaf (List.replicate 7 p0) (List.replicate 8 0)) (tailN 2 4 0 7) (rowOf prV (Q.drop 4)) = _ from (lay_pairsT _ _ _ _ (by simp) (by simp; omega)).trans (by rw [lay_padA (by simp; omega)]))
 refine l_nil ?_
 apply n_d
 ·refine ⟨?_, trivial⟩
  ·apply ya O O; exact yq (q_move O)
 apply dq 7 O
 ·exact yq (q_nilCheck O)
 apply dq 8 O
 ·exact yq (qfa 1 O yU73 O O yS3)
 refine d_eff1 [8, 0, 7] [] 9 [(94, _), (92, _)] gO ⟨rfl, rfl, trivial⟩ (by kernel_rfl) (by kernel_rfl) fun Ex => ?_
 refine st O O O yS3 O ?_
 refine l_nil ?_
 apply n_d
 ·exact trivial
 refine d_end (by kernel_rfl) ?_
 refine n_code<|t_seq<|t_draw mixed ?_
 apply dq 0 O
 ·exact yq (q_move O)
 apply dq 1 O
 ·exact yq (q_nilCheck O)
 apply dq 2 O
 ·exact yq (qfa 18 O yU73 O O yS71)
 apply dq 3 O
 ·exact yq (q_sliceA rfl yU71 yS3)
 apply dq 4 O
 ·exact yq (q_sliceA_l rfl rfl yU152 yS3 (by omega))
 refine d_eff1 [3, 4, 2, 1, 0] [] 5 [(98, _), (99, _)] gO ⟨rfl, rfl, trivial⟩ (by kernel_rfl) (by kernel_rfl) fun Ex => ?_
 apply o_copyC 5 rfl ((K9.drop 4).map kV) (xs' := nodeC o2 ((4 : Nat) : Int) 0 leaf (pad p0 7 (Q.drop 4)) (pad 0 8 (K9.drop 4))) rfl rfl rfl Try.underlying28 hii
 ·exact tk
 ·rw [List.length_map, List.length_drop, hK]; try rfl
 ·rw [show (K9.drop 4).map kV = ((K9.drop 4).take 5).map kV by rw [List.take_of_length_le (by simp; omega)]]; exact kid_reads hK (by omega) tk
 ·rw [List.length_map, List.length_drop, hK, nodeC_len (pad_len (by simp; omega)) (by simp)]; decide
 ·exact kidV_one _
 ·exact (show lay (nodeC o2 ((4 : Nat) : Int) 0 leaf (pad p0 7 (Q.drop 4)) (List.replicate 8 0)) (tailN 1 18 0 8) ((K9.drop 4).map kV) = _ from (lay_kidsT _ _ _ _ (pad_len (by simp; omega)) (by simp) (by simp; omega)).trans (by rw [lay_padA (by simp; omega)]))
 refine l_nil ?_
 apply n_d
 ·exact trivial
 refine d_end (by kernel_rfl) ?_
 refine nz<|mv O O<|mv O O<|l_q O (q_nilCheck O)<|l_q O (qfa 1 O yU73 O O yS3)<|l_q O (qld O yA3) ?_
 refine l_q O (q_nilCheck O)<|l_q O (qfa 2 O yU73 O O yS3)<|st O O O yS3 O ?_
 refine lc<|t_seq<|sr<|mv O O<|l_q O (q_nilCheck O)<|l_q O (qfa 3 O yU73 O O yS4)<|l_q O (qld O yA4) ?_
 refine l_q O (q_un O (u_not ·))<|lc ?_
 apply t_cut (p := (fun _ : Unit => True)) (EE := (fun _ => [(1, .pointer (some ⟨g1, 0, none⟩)), (2, .pointer (some ⟨g2, 0, none⟩)), (6, .pointer (some ⟨b6, 0, none⟩)), (12, .pointer (some ⟨b12, 0, none⟩)), (13, .pointer (some ⟨b13, 0, none⟩)), (15, .int .i64 (((tot : Nat) : Int) + 1))])) (LL := (fun _ => pt g2 (.cells (nodeC (o2) ((4 : Nat)) (RT) leaf (pad p0 7 (Q.drop 4)) (pad 0 8 (K9.drop 4))).toArray 73 (0, 0)) :: pt g1 (.cells (nodeC (o1) ((3 : Nat)) (tot) leaf (pad p0 7 (Q.take 3)) (pad 0 8 (K9.take 4))).toArray 73 (0, 0)) :: pt b13 (.cells (rowOf prV Q).toArray 151 (0, 0)) :: pt b12 (.cells #[.string ⟨#[]⟩, .string ⟨#[]⟩] 69 (0, 0)) :: pt b6 (.cells #[.pointer (some ⟨pa, 0, none⟩), .int .i64 l.key, .int .i64 l.elem, .int .i64 l.ka, .int .i64 l.ea, .int .i64 l.cap, .int .i64 l.eo, .int .i64 l.bo, .int .i64 l.slot, .int .i64 l.group, .int .i64 offI] 27 (0, 0)) :: arenaH pa s :: Fr))
 refine t_if O (fun c => ?_) fun c => ?_
 ·refine sr<|mv O O<|l_q O (q_nilCheck O)<|l_q O (qfa 1 O yU73 O O yS3)<|l_q O (qld O yA3) ?_
  refine l_q O (qadd O O) ?_
  refine mv O O<|lc<|t_block ?_
  have hleaf : leaf = false := by simpa using c
  have hT' := hT hleaf
  rw [if_neg (by simp [hleaf])] at hRT
  refine t_loop (fun x : Nat × Nat => x.1 ≤ 5 ∧ x.2 = 4 + ((List.range x.1).map T).sum) (fun x => (117, .int .i64 (((4 : Nat) : Int) + 1)) :: (118, .int .i64 ((x.1 : Nat) : Int)) :: [(1, .pointer (some ⟨g1, 0, none⟩)), (2, .pointer (some ⟨g2, 0, none⟩)), (6, .pointer (some ⟨b6, 0, none⟩)), (12, .pointer (some ⟨b12, 0, none⟩)), (13, .pointer (some ⟨b13, 0, none⟩)), (15, .int .i64 (((tot : Nat) : Int) + 1))]) (fun x => pt g2 (.cells (nodeC (o2) ((4 : Nat)) ((x.2 : Nat)) leaf (pad p0 7 (Q.drop 4)) (pad 0 8 (K9.drop 4))).toArray 73 (0, 0)) :: pt g1 (.cells (nodeC (o1) ((3 : Nat)) (tot) leaf (pad p0 7 (Q.take 3)) (pad 0 8 (K9.take 4))).toArray 73 (0, 0)) :: pt b13 (.cells (rowOf prV Q).toArray 151 (0, 0)) :: pt b12 (.cells #[.string ⟨#[]⟩, .string ⟨#[]⟩] 69 (0, 0)) :: pt b6 (.cells #[.pointer (some ⟨pa, 0, none⟩), .int .i64 l.key, .int .i64 l.elem, .int .i64 l.ka, .int .i64 l.ea, .int .i64 l.cap, .int .i64 l.eo, .int .i64 l.bo, .int .i64 l.slot, .int .i64 l.group, .int .i64 offI] 27 (0, 0)) :: arenaH pa s :: Fr) (fun x => 5 - x.1) (0, 4) ⟨Nat.zero_le _, rfl⟩ ⟨rfl, rfl, rfl, rfl, rfl, rfl, rfl, rfl, trivial⟩ (by (exact en)) ?_
  rintro ⟨j, r⟩ ⟨hj, hr⟩
  dsimp only at hj hr ⊢
  refine sr<|l_q O (qi O O (b_lss ·))<|lc<|t_seq<|t_if O (fun c2 => ?_) fun c2 => ?_
  ·have hj5 : j < 5 := by omega
   obtain ⟨k, hk⟩ : ∃ k, (K9.drop 4)[j]? = some k := ⟨_, List.getElem?_eq_getElem (by simp; omega)⟩
   obtain ⟨t1, t2, t3⟩ := hT' j k (by rw [List.getElem?_drop] at hk; exact hk)
   have hk9 := hKz k (List.mem_of_mem_drop (List.mem_of_getElem? hk))
   have hsum := sum_range_le (T := T) hj5
   refine t_skip<|n_code<|t_seq<|t_block<|sr<|mv O O<|asg O O<|lc<|t_draw mixed ?_
   apply dq 0 O
   ·exact yq (q_move O)
   apply dq 1 O
   ·exact yq (q_nilCheck O)
   apply dq 2 O
   ·exact yq (qfa 2 O yU73 O O yS3)
   apply dq 3 O
   ·exact yq (qld O yA3)
   apply dq 4 O
   ·exact yq (qlda O yA27 yS27)
   apply dq 5 O
   ·exact yq (q_move O)
   apply dq 6 O
   ·exact yq (q_move O)
   apply dq 7 O
   ·exact yq (q_nilCheck O)
   apply dq 8 O
   ·exact yq (qfa 18 O yU73 O O yS71)
   apply dq 9 O
   ·exact yq (q_indexAddrA O O yU71 yS3 (by omega))
   apply dq 10 O
   ·apply yq
    apply q_loadP1 (v := .int .i64 ((k : Nat) : Int)) rfl yA3
    ·exact tk
    ·rw [Int.toNat_natCast, Nat.mul_one]; exact pkV_kid _ _ _ _ (pad_len (by simp; omega)) (by rw [pad_at (by simp; omega) (by simp; omega)]; exact hk)
   refine d_eff1 [4, 10, 9, 8, 6, 7, 5] [3, 2, 1, 0] 11 [(125, _), (131, _)] gO ⟨rfl, rfl, trivial⟩ (by kernel_rfl) (by kernel_rfl) fun Ex => ?_
   refine lc1 O O O (total_ok pa offI s l _ k _ rfl hk9 t1 t2 (by omega)) ?_
   refine l_nil ?_
   apply n_d
   ·refine ⟨?_, ?_, ?_, ?_, trivial⟩
    ·apply ya O O; exact yq (qld O yA3)
    ·apply ya O O; exact yq (qfa 2 O yU73 O O yS3)
    ·apply ya O O; exact yq (q_nilCheck O)
    ·apply ya O O; exact yq (q_move O)
   apply dq 12 O
   ·exact yq (qadd O O)
   apply dq 13 O
   ·exact yq (q_nilCheck O)
   apply dq 14 O
   ·exact yq (qfa 2 O yU73 O O yS3)
   refine d_eff1 [14, 12, 0, 1, 2, 3, 13] [] 15 [(135, _), (133, _)] gO ⟨rfl, rfl, trivial⟩ (by kernel_rfl) (by kernel_rfl) fun Ex => ?_
   refine st O O O yS3 O ?_
   refine l_nil ?_
   apply n_d
   ·exact trivial
   refine d_end (by kernel_rfl) ?_
   refine n_blk<|n_code<|t_region<|l_q O (qadd O O) ?_
   refine mv O O<|l_nil ?_
   rw [show ((r : Nat) : Int) + ((T j : Nat) : Int) = ((r + T j : Nat) : Int) by omega]
   apply n_again ((j + 1, r + T j))
   ·exact ⟨show j + 1 ≤ 5 by omega, by rw [List.range_succ, List.map_append, List.sum_append]; simp; omega⟩
   ·(try dsimp only); omega
   ·exact ⟨O, O, O, O, O, O, O, O, trivial⟩
   ·exact en
  ·obtain rfl : j = 5 := by omega
   obtain rfl : r = RT := by omega
   refine xt O ?_
   apply n_join (())
   ·exact trivial
   ·exact ⟨O, O, O, O, O, O, trivial⟩
   ·exact en
 ·have hleaf : leaf = true := by simpa using c
  refine t_skip ?_
  obtain rfl : RT = 4 := by rw [if_pos hleaf] at hRT; omega
  apply n_join (())
  ·exact trivial
  ·exact ⟨O, O, O, O, O, O, trivial⟩
  ·exact en
 rintro _ -
 try dsimp only
 refine n_nm ?_
 refine nz<|mv O O<|mv O O<|mv O O<|l_q O (q_nilCheck O)<|l_q O (qfa 2 O yU73 O O yS3)<|l_q O (qld O yA3) ?_
 refine l_q O (qsub O O) ?_
 refine l_q O (qsub O O) ?_
 refine l_q O (q_nilCheck O)<|l_q O (qfa 2 O yU73 O O yS3)<|st O O O yS3 O ?_
 refine lc<|t_seq<|t_draw mixed ?_
 apply dq 0 O
 ·exact yq (qlda O yA27 yS27)
 apply dq 1 O
 ·exact yq (q_move O)
 apply dq 2 O
 ·exact yq (q_nilCheck O)
 apply dq 3 O
 ·apply yq
  apply q_loadP (us := nodeC o1 ((3 : Nat) : Int) ((tot - RT : Nat) : Int) leaf (pad p0 7 (Q.take 3)) (pad 0 8 (K9.take 4))) rfl yA73 yS73
  ·exact tk
  ·rw [nodeC_len hl7 hl8]; decide
  ·rw [List.drop_zero, List.take_of_length_le (by rw [nodeC_len hl7 hl8]; decide), hTe]
 refine d_eff1 [0, 3, 2, 1] [] 4 [(147, _), (150, _)] gO ⟨rfl, rfl, trivial⟩ (by kernel_rfl) (by kernel_rfl) fun Ex => ?_
 have hkz3 : ∀ k ∈ K9.take 4, k < 9223372036854775808 := fun k hk => by have := hKz k (List.mem_of_mem_take hk); omega
 have hkz5 : ∀ k ∈ K9.drop 4, k < 9223372036854775808 := fun k hk => by have := hKz k (List.mem_of_mem_drop hk); omega
 refine lcf O O O (writeN_ok pa offI s hl o1 3 (Q.take 3) leaf (K9.take 4) (tot - RT) (by simp; omega) ho1 hb1 (by omega) (by simp; omega) hkz3 (by omega) (fun q hq => hQz q (List.mem_of_mem_take hq))) ?_
 rintro v L' ⟨m1, rfl, rfl, hN1, hO1⟩
 refine l_nm ?_
 refine l_nil ?_
 apply n_d
 ·exact trivial
 refine d_end (by kernel_rfl) ?_
 refine n_code<|t_seq<|t_draw mixed ?_
 apply dq 0 O
 ·exact yq (qlda O yA27 yS27)
 apply dq 1 O
 ·exact yq (q_move O)
 apply dq 2 O
 ·exact yq (q_nilCheck O)
 apply dq 3 O
 ·apply yq
  apply q_loadP (us := nodeC o2 ((4 : Nat) : Int) ((RT : Nat) : Int) leaf (pad p0 7 (Q.drop 4)) (pad 0 8 (K9.drop 4))) rfl yA73 yS73
  ·exact tk
  ·rw [nodeC_len hr7 hr8]; decide
  ·rw [List.drop_zero, List.take_of_length_le (by rw [nodeC_len hr7 hr8]; decide)]
 refine d_eff1 [0, 3, 2, 1] [] 4 [(152, _), (155, _)] gO ⟨rfl, rfl, trivial⟩ (by kernel_rfl) (by kernel_rfl) fun Ex => ?_
 refine lcf O O O (writeN_ok pa offI (wm s m1) hl o2 4 (Q.drop 4) leaf (K9.drop 4) RT (by simp; omega) ho2 hb2 (by omega) (by simp; omega) hkz5 (by omega) (fun q hq => hQz q (List.mem_of_mem_drop hq))) ?_
 rintro v L' ⟨m2, rfl, rfl, hN2, hO2⟩
 refine l_nm ?_
 refine l_nil ?_
 apply n_d
 ·exact trivial
 refine d_end (by kernel_rfl) ?_
 refine nz<|l_q O (q_indexAddrA O O yU151 yS69 (by omega)) ?_
 apply l_q O
 ·apply q_loadP (us := [.string q3.1, .string q3.2]) rfl yA69 yS69
  ·exact tk
  ·rw [row_len, hQ]; decide
  ·exact row_pair hq3
 refine sta O O O yS69 O O ?_
 refine lc<|rt ?_
 rw [wm_wm]
 have hN1' : NodeM l m2 o1 (Q.take 3) leaf (K9.take 4) (tot - RT) := hN1.same (by simp; omega) (by simp; omega) fun a a1 a2 => hO2 a (by omega)
 apply f_ret (.inl rfl) ([pt g2 (.cells (nodeC (o2) ((4 : Nat)) ((RT : Nat)) leaf (pad p0 7 (Q.drop 4)) (pad 0 8 (K9.drop 4))).toArray 73 (0, 0)), arenaH pa (wm s m2)])
 ·apply res1 O
  ·apply Rv.agg rfl
   ·exact tk
   ·exact run_loadAll yA69 yS69 O
 ·exact ⟨m2, q3, hq3, rfl, rfl, hN1', hN2, fun a a1 a2 => (hO2 a a2).trans (hO1 a a1)⟩
 ·exact en
end
end Go.Proofs.Ytjekhcojebgpnaa.Bt
