import Derived.Test.YtjekhcojebgpnaaTypes
import Derived.Test.YtjekhcojebgpnaaSearch
import Derived.Test.YtjekhcojebgpnaaShelf
import Derived.Test.YtjekhcojebgpnaaBtN
/- Contracts of package order: what a node's own functions do: find, put, drop. -/
set_option linter.unusedVariables false
set_option linter.unusedSimpArgs false
set_option maxRecDepth 100000
namespace Go.Proofs.Ytjekhcojebgpnaa.Bt
open Go.RowKit Go.Proofs Go.Proofs.Ytjekhcojebgpnaa.Eng Go.Proofs.Ytjekhcojebgpnaa.Ty Go.Proofs.Ytjekhcojebgpnaa.Bits
/-- strings.Compare's number. -/
def cmpS (a b : ByteArray) : Int := Lib.compareBytes a.data.toList b.data.toList
theorem cmp_list : ∀ x y : List UInt8, (Lib.compareBytes x y < 0 ↔ Op.bytesLess x y = true) ∧ (Lib.compareBytes x y = 0 ↔ x = y)
 | [], [] => by simp [Lib.compareBytes, Op.bytesLess]
 | [], b :: y => by simp [Lib.compareBytes, Op.bytesLess]
 | a :: x, [] => by simp [Lib.compareBytes, Op.bytesLess]
 | a :: x, b :: y => by
  have ih := cmp_list x y
  simp only [Lib.compareBytes, Op.bytesLess, Bool.or_eq_true, Bool.and_eq_true, decide_eq_true_eq, beq_iff_eq]
  split
  ·next h =>
   refine ⟨by simp [h], ?_⟩
   simp only [List.cons.injEq]
   exact ⟨fun q => (by cases q), fun q => by rw [q.1] at h; exact absurd h (UInt8.lt_irrefl b)⟩
  ·next h =>
   split
   ·next h2 =>
    refine ⟨⟨fun q => (by cases q), fun q => ?_⟩, ?_⟩
    ·rcases q with q | q
     ·exact absurd q h
     ·rw [q.1] at h2; exact absurd h2 (UInt8.lt_irrefl b)
    ·simp only [List.cons.injEq]
     exact ⟨fun q => (by cases q), fun q => by rw [q.1] at h2; exact absurd h2 (UInt8.lt_irrefl b)⟩
   ·next h2 =>
    have e : a = b := UInt8.le_antisymm (UInt8.not_lt.1 h2) (UInt8.not_lt.1 h)
    subst e
    simp only [UInt8.lt_irrefl, false_or, true_and, List.cons.injEq]
    exact ih
theorem cmpS_lt {a b : ByteArray} : cmpS a b < 0 ↔ lt a b := by
 unfold cmpS lt
 rw [ByteArray.toList_eq, ByteArray.toList_eq]
 exact (cmp_list _ _).1
theorem cmpS_eq {a b : ByteArray} : cmpS a b = 0 ↔ a = b := by
 unfold cmpS
 refine (cmp_list _ _).2.trans ⟨fun h => WideShapes.bytes_inj h, fun h => by rw [h]⟩
theorem rk_eq {k : ByteArray} : ∀ {L : List Pr} {i : Nat}, i ≤ L.length → (∀ j p, j < i → L[j]? = some p → lt p.1 k) → (∀ p, L[i]? = some p → ¬ lt p.1 k) → rk L k = i
 | [], i, h, _, _ => by simp at h; subst h; rfl
 | p :: r, 0, h, _, h2 => by unfold rk; rw [if_neg (h2 p rfl)]
 | p :: r, i + 1, h, h1, h2 => by
  unfold rk
  rw [if_pos (h1 0 p (by omega) rfl), rk_eq (L := r) (i := i) (by simpa using h) (fun j q hj hq => h1 (j + 1) q (by omega) (by simpa using hq)) fun q hq => h2 q (by simpa using hq)]
theorem sl_lt {L : List Pr} (hs : SL L) {i j : Nat} {p q : Pr} (hij : i < j) (hp : L[i]? = some p) (hq : L[j]? = some q) : lt p.1 q.1 := by
 obtain ⟨hi, rfl⟩ := List.getElem?_eq_some_iff.1 hp
 obtain ⟨hj, rfl⟩ := List.getElem?_eq_some_iff.1 hq
 exact List.pairwise_iff_getElem.1 hs i j hi hj hij
/-- A node's cells. -/
@[reducible] def nodeC (o n tot : Int) (leaf : Bool) (P : List Pr) (K : List Nat) : List Value := .int .i64 o :: .int .i64 n :: .int .i64 tot :: .bool leaf :: pkV P K
theorem pad_at {A : Type} {a : A} {n i : Nat} {l : List A} (h : l.length ≤ n) (hi : i < l.length) : (pad a n l)[i]? = l[i]? := by rw [pad_get h, if_pos hi]
/-! ### Slices of a node's pairs and kids -/
section
variable (a b c d : Value) {P ys : List Pr} {K zs : List Nat} {g i k : Nat} {tt : TypeId} {fr : Nat × Nat} {L M : List HP}
theorem lay_nil' (xs : List Value) (o : Nat) : lay xs o [] = xs := by simp [lay]
theorem lay_pairsT (hP : P.length = 7) (h : i + ys.length ≤ 7) : lay (a :: b :: c :: d :: pkV P K) (tailN 2 4 i 7) (rowOf prV ys) = a :: b :: c :: d :: pkV (layA P i ys) K := by
 by_cases q : 7 = i
 ·have : ys = [] := List.eq_nil_of_length_eq_zero (by omega)
  subst this
  rw [show rowOf prV [] = [] from rfl, lay_nil', layA_nil]
 ·unfold tailN
  rw [if_neg q]
  exact lay_pairs a b c d (by omega)
theorem lay_kidsT (hP : P.length = 7) (hK : K.length = 8) (h : i + zs.length ≤ 8) : lay (a :: b :: c :: d :: pkV P K) (tailN 1 18 i 8) (zs.map kV) = a :: b :: c :: d :: pkV P (layA K i zs) := by
 by_cases q : 8 = i
 ·have : zs = [] := List.eq_nil_of_length_eq_zero (by omega)
  subst this
  rw [show ([] : List Nat).map kV = [] from rfl, lay_nil', layA_nil]
 ·unfold tailN
  rw [if_neg q, Nat.mul_one]
  exact lay_kids a b c d hP (by omega)
theorem reads_pairsT (hP : P.length = 7) (h : i + k ≤ 7) (ht : Take (pt g (.cells (a :: b :: c :: d :: pkV P K).toArray tt fr)) L M) : Reads L ⟨g, tailN 2 4 i 7, none⟩ (rowOf prV ((P.drop i).take k)) := by
 by_cases q : 7 = i
 ·have : k = 0 := by omega
  subst this
  rw [List.take_zero]; exact reads_nil
 ·unfold tailN
  rw [if_neg q, ← pkV_pairs a b c d (K := K) (by omega)]
  exact reads_ptP ht
theorem reads_kidsT (hP : P.length = 7) (hK : K.length = 8) (h : i + k ≤ 8) (ht : Take (pt g (.cells (a :: b :: c :: d :: pkV P K).toArray tt fr)) L M) : Reads L ⟨g, tailN 1 18 i 8, none⟩ (((K.drop i).take k).map kV) := by
 by_cases q : 8 = i
 ·have : k = 0 := by omega
  subst this
  rw [List.take_zero]; exact reads_nil
 ·unfold tailN
  rw [if_neg q, Nat.mul_one, ← pkV_kids a b c d hP]
  exact reads_ptP ht
end
section
variable (a b c d : Value) {P ys : List Pr} {K zs : List Nat} {i : Nat}
theorem fit_pairs (hP : P.length = 7) (h : i + ys.length ≤ 7) : tailN 2 4 i 7 + (rowOf prV ys).length ≤ (a :: b :: c :: d :: pkV P K).length := by
 have h1 := row_len ys
 have h2 := pkV_len P K
 simp only [List.length_cons, h2, hP]
 unfold tailN
 split <;> omega
theorem fit_kids (hP : P.length = 7) (hK : K.length = 8) (h : i + zs.length ≤ 8) : tailN 1 18 i 8 + (zs.map kV).length ≤ (a :: b :: c :: d :: pkV P K).length := by
 have h2 := pkV_len P K
 simp only [List.length_cons, h2, hP, hK, List.length_map]
 unfold tailN
 split <;> omega
end
/-! ### find -/
theorem cmp_ok (p : Pr) (k : ByteArray) : FnOk Try.prog 55 #[.agg #[.string p.1, .string p.2], .string k] [] (fun v L => v = .int .i64 (cmpS p.1 k) ∧ L = []) := by
 refine fn_intro en55 Try.func55 rfl rfl rfl fun Fr w0 => t_nm ?_
 refine sr<|o_boxA O O fun b2 => asg O O<|lz<|l_q O (qfa 0 O yU69 O O yS9)<|l_q O (qld O yA9) ?_
 refine mv O O<|lc1 O O O (Shelved.Compare_ok _ _) ?_
 exact asg O O<|lc<|rt<|fr1 O ([]) (.tmp rfl) ⟨rfl, rfl⟩
theorem BinF_ok (g : Nat) (a b c d : Value) (ps : List Pr) (K : List Nat) (k : ByteArray) (hn : ps.length ≤ 7) (hs : SL ps) :
  FnOk Try.prog 54 #[.slice (some ⟨g, 4, none⟩) ps.length 7, .string k, .func (.func 55) #[] #[]] [pt g (.cells ((a) :: (b) :: (c) :: (d) :: pkV (pad p0 7 ps) (K)).toArray 73 (0, 0))]
   (fun v L => v = .tuple #[.int .i64 (rk ps k : Nat), .bool (decide (∃ p, ps[rk ps k]? = some p ∧ p.1 = k))] ∧ L = [pt g (.cells ((a) :: (b) :: (c) :: (d) :: pkV (pad p0 7 ps) (K)).toArray 73 (0, 0))]) := by
 refine fn_intro en54 Try.func54 rfl rfl rfl fun Fr w0 => t_nm ?_
 have hpl := pad_len (a := p0) hn
 refine sr<|asg O O<|asg O O<|lz<|mv O O<|l_q O (ql O yU120)<|asg O O<|lz<|mv O O<|asg O O<|asg O O<|lc<|t_seq<|t_block ?_
 refine t_loop (fun x : Nat × Nat => x.1 ≤ x.2 ∧ x.2 ≤ ps.length ∧ (∀ j p, j < x.1 → ps[j]? = some p → lt p.1 k) ∧ (∀ p, ps[x.2]? = some p → ¬ lt p.1 k)) (fun x => [(0, .slice (some ⟨g, 4, none⟩) ps.length 7), (1, .string k), (2, .func (.func 55) #[] #[]), (8, .int .i64 ps.length), (9, .int .i64 x.1), (10, .int .i64 x.2)]) (fun x => pt g (.cells ((a) :: (b) :: (c) :: (d) :: pkV (pad p0 7 ps) (K)).toArray 73 (0, 0)) :: Fr) (fun x => x.2 - x.1) (0, ps.length) ⟨by omega, by omega, by intro j p h; omega, by intro p h; simp at h⟩ ⟨rfl, rfl, rfl, rfl, rfl, rfl, trivial⟩ (Ent.refl _) ?_
 rintro ⟨i, j⟩ ⟨hij, hjk, hlo, hhi⟩
 dsimp only at hij hjk hlo hhi ⊢
 refine t_seq<|sr<|mv O O<|mv O O<|l_q O (qi O O (b_lss ·))<|lc<|t_if O (fun h => ?_) fun h => ?_
 ·have hm : (((i : Int) + (j : Int)) / 2).toNat = (i + j) / 2 := by omega
  have hml : (i + j) / 2 < ps.length := by omega
  have hmg := List.getElem?_eq_getElem hml
  refine t_skip<|n_code<|t_block<|sr<|mv O O<|mv O O<|l_q O (qadd O O) ?_
  refine l_q O (qcv O yU3 yU131) ?_
  apply l_q O
  ·apply qi O O; first | exact fun w => b_shr_c (m := 2) w (by decide) (by decide) (by omega) | exact fun w => b_shr w (by decide)
  refine l_q O (qcv O yU131 yU3) ?_
  refine asg O O<|lz<|mv O O<|mv O O<|mv O O<|l_q O (q_indexAddr O O yU120 yS69 (by omega)) ?_
  apply l_q O
  ·apply q_loadP (us := prV (ps[(i + j) / 2]'hml)) rfl yA69 yS69
   ·exact tk
   ·rw [hm]; simp only [List.length_cons, pkV_len, hpl]; omega
   ·rw [hm]; exact pkV_pair _ _ _ _ (by rw [pad_at hn hml, hmg])
  refine mv O O<|lc1 O O O (cmp_ok (ps[(i + j) / 2]'(by omega)) k) ?_
  refine l_q O (qi O O (b_lss ·))<|lc<|t_if O (fun q => ?_) fun q => ?_
  ·refine t_region<|mv O O<|l_q O (qadd O O) ?_
   refine asg O O<|l_nil<|n_blk ?_
   have hlo' : ∀ a p, a < (i + j) / 2 + 1 → ps[a]? = some p → lt p.1 k := fun a p ha hp => by
    have q' := cmpS_lt.1 q
    by_cases e : a = (i + j) / 2
    ·subst e; rw [hmg] at hp; cases hp; exact q'
    ·exact lt_trans (sl_lt hs (by omega) hp hmg) q'
   apply n_again (((i + j) / 2 + 1, j))
   ·exact ⟨by dsimp only; omega, hjk, hlo', hhi⟩
   ·dsimp only; omega
   ·exact ⟨rfl, rfl, rfl, rfl, congrArg (fun z => some (Value.int .i64 z)) (by dsimp only; omega), rfl, trivial⟩
   ·exact en
  ·refine t_region<|mv O O<|asg O O<|l_nil<|n_blk ?_
   apply n_again ((i, (i + j) / 2))
   ·exact ⟨by dsimp only; omega, by dsimp only; omega, hlo, fun p hp => by dsimp only at hp; rw [hmg] at hp; cases hp; exact fun w => q (cmpS_lt.2 w)⟩
   ·dsimp only; omega
   ·exact ⟨rfl, rfl, rfl, rfl, rfl, congrArg (fun z => some (Value.int .i64 z)) (by dsimp only; omega), trivial⟩
   ·exact en
 ·refine xt O<|nz<|mv O O<|mv O O<|mv O O<|l_q O (qi O O (b_lss ·))<|mv O O ?_
  obtain rfl : i = j := by omega
  have hrk : rk ps k = i := rk_eq (by omega) hlo hhi
  refine l_pt (t := 39) rfl (fun z => ?_) fun z => ?_
  ·have hil : i < ps.length := by omega
   have hig := List.getElem?_eq_getElem hil
   refine l_on O O<|mv O O<|l_on O O<|mv O O<|l_on O O<|mv O O<|l_on O O<|l_q O (q_indexAddr O O yU120 yS69 (by omega)) ?_
   refine l_on O O ?_
   apply l_q O
   ·apply q_loadP (us := prV (ps[i]'hil)) rfl yA69 yS69
    ·exact tk
    ·rw [Int.toNat_natCast]; simp only [List.length_cons, pkV_len, hpl]; omega
    ·rw [Int.toNat_natCast]; exact pkV_pair _ _ _ _ (by rw [pad_at hn hil, hig])
   refine l_on O O<|mv O O<|l_on O O<|lc1 O O O (cmp_ok (ps[i]'(by omega)) k) ?_
   refine l_on O O<|l_q O (qi O O (b_eql ·))<|l_q O (q_pk O O)<|asg O O<|asg O O<|lc<|rt<|fr2 O ([pt g (.cells ((a) :: (b) :: (c) :: (d) :: pkV (pad p0 7 ps) (K)).toArray 73 (0, 0))]) (.tmp rfl) (.tmp rfl) ?_
   refine ⟨?_, rfl⟩; rw [hrk, hig]; refine congrArg (fun z => Value.tuple #[.int .i64 (i : Nat), .bool z]) (decide_eq_decide.2 ?_); rw [cmpS_eq]; exact ⟨fun e => ⟨_, rfl, e⟩, fun ⟨p, e1, e2⟩ => by cases e1; exact e2⟩
  ·refine l_off O O O O<|l_off O O O O<|l_off O O O O<|l_off O O O O<|l_off O O O O<|l_off O O O O<|l_off O O O O<|l_off O O O O<|l_q O (q_pk O O)<|asg O O<|asg O O<|lc<|rt<|fr2 O ([pt g (.cells ((a) :: (b) :: (c) :: (d) :: pkV (pad p0 7 ps) (K)).toArray 73 (0, 0))]) (.tmp rfl) (.tmp rfl) ?_
   refine ⟨?_, rfl⟩; rw [hrk, List.getElem?_eq_none (by omega)]; refine congrArg (fun z => Value.tuple #[.int .i64 (i : Nat), .bool z]) (Eq.symm (decide_eq_false ?_)); rintro ⟨p, e1, _⟩; cases e1
theorem own_eq (t : BT) (k : ByteArray) : decide (∃ p, t.ps[rk t.ps k]? = some p ∧ p.1 = k) = own t k := by
 unfold own pr
 apply decide_eq_decide.2
 constructor
 ·rintro ⟨p, h1, h2⟩
  refine ⟨(List.getElem?_eq_some_iff.1 h1).1, ?_⟩
  rw [h1]; exact h2
 ·rintro ⟨h1, h2⟩
  rw [List.getElem?_eq_getElem h1] at h2 ⊢
  exact ⟨_, rfl, h2⟩
theorem find_ok (g : Nat) (a c d : Value) (t : BT) (K : List Nat) (k : ByteArray) (hn : t.ps.length ≤ 7) (hs : SL t.ps) :
  FnOk Try.prog 37 #[.pointer (some ⟨g, 0, none⟩), .string k] [pt g (.cells ((a) :: (.int .i64 t.ps.length) :: (c) :: (d) :: pkV (pad p0 7 t.ps) (K)).toArray 73 (0, 0))]
   (fun v L => v = .tuple #[.int .i64 (rk t.ps k : Nat), .bool (own t k)] ∧ L = [pt g (.cells ((a) :: (.int .i64 t.ps.length) :: (c) :: (d) :: pkV (pad p0 7 t.ps) (K)).toArray 73 (0, 0))]) := by
 refine fn_intro en37 Try.func37 rfl rfl rfl fun Fr w0 => t_nm ?_
 refine sr<|asg O O<|asg O O<|lc<|t_seq<|t_draw mixed ?_
 apply dq 0 O
 ·exact yq (q_move O)
 apply dq 1 O
 ·exact yq (q_nilCheck O)
 apply dq 2 O
 ·exact yq (qfa 4 O yU73 O O yS70)
 apply dq 3 O
 ·exact yq (q_move O)
 apply dq 4 O
 ·exact yq (q_nilCheck O)
 apply dq 5 O
 ·exact yq (qfa 1 O yU73 O O yS3)
 apply dq 6 O
 ·exact yq (qld O yA3)
 apply dq 7 O
 ·exact yq (q_sliceA_h rfl rfl yU70 yS69 (by omega))
 apply dq 8 O
 ·exact yq (q_move O)
 refine d_eff1 [7, 8, 2, 6, 1, 5, 0, 4, 3] [] 9 [(13, _), (14, _)] gO ⟨rfl, rfl, trivial⟩ (by kernel_rfl) (by kernel_rfl) fun Ex => ?_
 rw [Int.toNat_natCast]
 refine lc1 O O O (BinF_ok g _ _ _ _ t.ps K k hn hs) ?_
 refine l_nil ?_
 apply n_d
 ·exact trivial
 apply dq 10 O
 ·exact yq (q_extractL O ga)
 apply dq 11 O
 ·exact yq (q_extractL O ga)
 refine d_eff1 [10, 11] [] 12 [(16, _)] gO ⟨rfl, trivial⟩ (by kernel_rfl) (by kernel_rfl) fun Ex => ?_
 refine asg O O<|l_nil ?_
 apply n_d
 ·exact trivial
 refine d_eff1 [] [] 13 [(17, _)] gO ⟨rfl, trivial⟩ (by kernel_rfl) (by kernel_rfl) fun Ex => ?_
 refine asg O O<|l_nil ?_
 apply n_d
 ·exact trivial
 refine d_end (by kernel_rfl) ?_
 refine n_code<|rt<|fr2 O ([pt g (.cells ((a) :: (.int .i64 t.ps.length) :: (c) :: (d) :: pkV (pad p0 7 t.ps) (K)).toArray 73 (0, 0))]) (.tmp rfl) (.tmp rfl) ?_
 refine ⟨?_, rfl⟩; rw [own_eq]
/-! ### put, drop -/
theorem pad_part {A : Type} {a : A} {n i : Nat} {l : List A} (h : l.length ≤ n) (hi : i ≤ l.length) : ((pad a n l).drop i).take (l.length - i) = l.drop i := by
 unfold pad
 rw [List.drop_append_of_le_length hi, List.take_append_of_le_length (by rw [List.length_drop]; omega), List.take_of_length_le (by rw [List.length_drop]; omega)]
/-- A put into the kids, and a drop out of them. -/
theorem kids_put {n i r : Nat} {ks : List Nat} (hk : ks.length = n + 1) (hn : n ≤ 6) (hi : i ≤ n) : (layA (pad 0 8 ks) (i + 2) (((pad 0 8 ks).drop (i + 1)).take (n - i))).set (i + 1) r = pad 0 8 (ins ks (i + 1) r) := by
 have h1 := pad_part (a := 0) (n := 8) (l := ks) (i := i + 1) (by omega) (by omega)
 rw [show n - i = ks.length - (i + 1) by omega, h1]
 exact put_pad (by omega) (by omega)
theorem kids_put0 {n i : Nat} (hn : n ≤ 6) (hi : i ≤ n) : (layA (pad 0 8 []) (i + 2) (((pad 0 8 []).drop (i + 1)).take (n - i))).set (i + 1) 0 = pad 0 8 [] := by
 apply List.ext_getElem?
 intro j
 have hz : (pad 0 8 ([] : List Nat)) = List.replicate 8 0 := rfl
 have hl : i + 2 + (((pad 0 8 []).drop (i + 1)).take (n - i)).length ≤ (pad 0 8 ([] : List Nat)).length := by simp [hz]; omega
 rw [List.getElem?_set, layA_get hl, layA_len hl, List.length_take, List.length_drop, hz, List.length_replicate, List.getElem?_take, List.getElem?_drop, List.getElem?_replicate, List.getElem?_replicate]
 repeat' split
 all_goals first | rfl | omega
theorem kids_drop {n i : Nat} {ks : List Nat} (hk : ks.length = n + 1) (hn : n ≤ 7) (hi : i < n) : (layA (pad 0 8 ks) (i + 1) (((pad 0 8 ks).drop (i + 2)).take (n - (i + 1)))).set n 0 = pad 0 8 (ks.eraseIdx (i + 1)) := by
 have h1 := pad_part (a := 0) (n := 8) (l := ks) (i := i + 2) (by omega) (by omega)
 rw [show n - (i + 1) = ks.length - (i + 2) by omega, h1]
 have := drop_pad (a := 0) (n := 8) (l := ks) (i := i + 1) (by omega) (by omega)
 rwa [show ks.length - 1 = n by omega] at this
theorem kids_drop0 {n i : Nat} (hn : n ≤ 7) (hi : i < n) : (layA (pad 0 8 []) (i + 1) (((pad 0 8 []).drop (i + 2)).take (n - (i + 1)))).set n 0 = pad 0 8 [] := by
 apply List.ext_getElem?
 intro j
 have hz : (pad 0 8 ([] : List Nat)) = List.replicate 8 0 := rfl
 have hl : i + 1 + (((pad 0 8 []).drop (i + 2)).take (n - (i + 1))).length ≤ (pad 0 8 ([] : List Nat)).length := by simp [hz]; omega
 rw [List.getElem?_set, layA_get hl, layA_len hl, List.length_take, List.length_drop, hz, List.length_replicate, List.getElem?_take, List.getElem?_drop, List.getElem?_replicate, List.getElem?_replicate]
 repeat' split
 all_goals first | rfl | omega
theorem NPut_ok (g n i : Nat) (a c d : Value) (ps : List Pr) (ks : List Nat) (p : Pr) (r : Nat) (hn : ps.length = n) (hn6 : n ≤ 6) (hk : ks.length ≤ 8) (hi : i ≤ n) :
  FnOk Try.prog 71 #[.pointer (some ⟨g, 0, none⟩), .int .i64 i, .agg #[.string p.1, .string p.2], .int .i64 r] [pt g (.cells ((a) :: (.int .i64 n) :: (c) :: (d) :: pkV (pad p0 7 ps) (pad 0 8 ks)).toArray 73 (0, 0))]
   (fun v L => v = .tuple #[] ∧ L = [pt g (.cells ((a) :: (.int .i64 ((n + 1 : Nat) : Int)) :: (c) :: (d) :: pkV (pad p0 7 (ins ps i p)) ((layA (pad 0 8 ks) (i + 2) (((pad 0 8 ks).drop (i + 1)).take (n - i))).set (i + 1) r)).toArray 73 (0, 0))]) := by
 have hpl := pad_len (a := p0) (l := ps) (n := 7) (by omega)
 have hkl := pad_len (a := 0) (l := ks) (n := 8) (by omega)
 have hpp := pad_part (a := p0) (l := ps) (n := 7) (i := i) (by omega) (by omega)
 have e1 : ((i : Int) + 1).toNat = i + 1 := by omega
 have e2 : ((i : Int) + 2).toNat = i + 2 := by omega
 have e3 : ((n : Int) + 1).toNat = n + 1 := by omega
 have hla : (layA (pad p0 7 ps) (i + 1) (ps.drop i)).length = 7 := by rw [layA_len (by rw [hpl, List.length_drop]; omega), hpl]
 have hlk : (layA (pad 0 8 ks) (i + 2) (((pad 0 8 ks).drop (i + 1)).take (n - i))).length = 8 := by rw [layA_len (by rw [hkl, List.length_take, List.length_drop, hkl]; omega), hkl]
 refine fn_intro en71 Try.func71 rfl rfl rfl fun Fr w0 => t_nm ?_
 refine sr<|o_boxA O O fun b6 => lc<|t_seq<|t_draw mixed ?_
 apply dq 0 O
 ·exact yq (q_move O)
 apply dq 1 O
 ·exact yq (q_nilCheck O)
 apply dq 2 O
 ·exact yq (qfa 4 O yU73 O O yS70)
 apply dq 3 O
 ·exact yq (q_move O)
 apply dq 4 O
 ·exact yq (qadd O O)
 apply dq 5 O
 ·exact yq (q_sliceA_l rfl rfl yU70 yS69 (by omega))
 apply dq 6 O
 ·exact yq (q_move O)
 apply dq 7 O
 ·exact yq (q_nilCheck O)
 apply dq 8 O
 ·exact yq (qfa 4 O yU73 O O yS70)
 apply dq 9 O
 ·exact yq (q_move O)
 apply dq 10 O
 ·exact yq (q_move O)
 apply dq 11 O
 ·exact yq (q_nilCheck O)
 apply dq 12 O
 ·exact yq (qfa 1 O yU73 O O yS3)
 apply dq 13 O
 ·exact yq (qld O yA3)
 apply dq 14 O
 ·exact yq (q_sliceA_lh rfl rfl rfl yU70 yS69 (by omega))
 refine d_eff1 [5, 14, 2, 4, 8, 9, 13, 1, 3, 7, 12, 0, 6, 11, 10] [] 15 [(13, _), (22, _)] gO ⟨rfl, rfl, trivial⟩ (by kernel_rfl) (by kernel_rfl) fun Ex => ?_
 apply o_copyP (rowOf prV (ps.drop i)) (xs' := a :: .int .i64 n :: c :: d :: pkV (layA (pad p0 7 ps) (i + 1) (ps.drop i)) (pad 0 8 ks)) rfl rfl rfl Try.underlying120 (by obtain ⟨i, h1, _, h2, _⟩ := yI69; exact ⟨i, h1, h2⟩)
 ·exact tk
 ·rw [row_len, List.length_drop, e1, Int.toNat_natCast, Int.toNat_natCast, hn]; congr 1; exact (Nat.min_eq_left (by omega)).symm
 ·rw [Int.toNat_natCast, ← hpp]; apply reads_pairsT _ _ _ _ hpl (by omega); exact tk
 ·rw [e1]; exact fit_pairs _ _ _ _ hpl (by rw [List.length_drop]; omega)
 ·exact rowV_one _
 ·rw [e1]; exact lay_pairsT _ _ _ _ hpl (by rw [List.length_drop]; omega)
 refine l_nil ?_
 apply n_d
 ·exact trivial
 refine d_end (by kernel_rfl) ?_
 refine n_code<|t_seq<|t_draw mixed ?_
 apply dq 0 O
 ·exact yq (q_move O)
 apply dq 1 O
 ·exact yq (q_nilCheck O)
 apply dq 2 O
 ·exact yq (qfa 18 O yU73 O O yS71)
 apply dq 3 O
 ·exact yq (q_move O)
 apply dq 4 O
 ·exact yq (qadd O O)
 apply dq 5 O
 ·exact yq (q_sliceA_l rfl rfl yU71 yS3 (by omega))
 apply dq 6 O
 ·exact yq (q_move O)
 apply dq 7 O
 ·exact yq (q_nilCheck O)
 apply dq 8 O
 ·exact yq (qfa 18 O yU73 O O yS71)
 apply dq 9 O
 ·exact yq (q_move O)
 apply dq 10 O
 ·exact yq (qadd O O)
 apply dq 11 O
 ·exact yq (q_move O)
 apply dq 12 O
 ·exact yq (q_nilCheck O)
 apply dq 13 O
 ·exact yq (qfa 1 O yU73 O O yS3)
 apply dq 14 O
 ·exact yq (qld O yA3)
 apply dq 15 O
 ·exact yq (qadd O O)
 apply dq 16 O
 ·exact yq (q_sliceA_lh rfl rfl rfl yU71 yS3 (by omega))
 refine d_eff1 [5, 16, 2, 4, 8, 10, 15, 1, 3, 7, 9, 14, 0, 6, 13, 12, 11] [] 17 [(29, _), (40, _)] gO ⟨rfl, rfl, trivial⟩ (by kernel_rfl) (by kernel_rfl) fun Ex => ?_
 apply o_copyP ((((pad 0 8 ks).drop (i + 1)).take (n - i)).map kV) (xs' := a :: .int .i64 n :: c :: d :: pkV (layA (pad p0 7 ps) (i + 1) (ps.drop i)) (layA (pad 0 8 ks) (i + 2) (((pad 0 8 ks).drop (i + 1)).take (n - i)))) rfl rfl rfl Try.underlying28 (by obtain ⟨i, h1, _, h2, _⟩ := yI3; exact ⟨i, h1, h2⟩)
 ·exact tk
 ·rw [List.length_map, List.length_take, List.length_drop, hkl, e1, e2, e3, Nat.mul_one, Nat.min_eq_left (by omega)]; exact (show n + 1 - (i + 1) = n - i by omega) ▸ (Nat.min_eq_left (by omega)).symm
 ·rw [e1]; apply reads_kidsT _ _ _ _ hla hkl (by omega); exact tk
 ·rw [e2]; exact fit_kids _ _ _ _ hla hkl (by rw [List.length_take, List.length_drop]; omega)
 ·exact kidV_one _
 ·rw [e2]; exact lay_kidsT _ _ _ _ hla hkl (by rw [List.length_take, List.length_drop]; omega)
 refine l_nil ?_
 apply n_d
 ·exact trivial
 refine d_end (by kernel_rfl) ?_
 refine n_code<|t_seq<|t_draw mixed ?_
 apply dq 0 O
 ·exact yq (q_move O)
 apply dq 1 O
 ·exact yq (q_move O)
 apply dq 2 O
 ·exact yq (qlda O yA69 yS69)
 apply dq 3 O
 ·exact yq (q_nilCheck O)
 apply dq 4 O
 ·exact yq (qfa 4 O yU73 O O yS70)
 apply dq 5 O
 ·exact yq (q_indexAddrA O O yU70 yS69 (by omega))
 refine d_eff1 [5, 2, 0, 1, 4, 3] [] 6 [(47, _), (44, _)] gO ⟨rfl, rfl, trivial⟩ (by kernel_rfl) (by kernel_rfl) fun Ex => ?_
 apply o_storeP (us := prV p) (xs' := a :: .int .i64 n :: c :: d :: pkV (pad p0 7 (ins ps i p)) (layA (pad 0 8 ks) (i + 2) (((pad 0 8 ks).drop (i + 1)).take (n - i)))) rfl rfl rfl yS69 rfl rfl
 ·exact tk
 ·rw [Int.toNat_natCast]; simp only [List.length_cons, pkV_len, hla, prV_len]; omega
 ·rw [Int.toNat_natCast, lay_pair _ _ _ _ (by omega)]; rw [put_pad (by omega) (by omega)]
 refine l_nil ?_
 apply n_d
 ·exact trivial
 refine d_end (by kernel_rfl) ?_
 refine nz<|mv O O<|mv O O<|l_q O (qadd O O) ?_
 refine mv O O<|l_q O (q_nilCheck O)<|l_q O (qfa 18 O yU73 O O yS71)<|l_q O (q_indexAddrA O O yU71 yS3 (by omega)) ?_
 apply o_storeP1 (v := kV r) (xs' := a :: .int .i64 n :: c :: d :: pkV (pad p0 7 (ins ps i p)) ((layA (pad 0 8 ks) (i + 2) (((pad 0 8 ks).drop (i + 1)).take (n - i))).set (i + 1) r)) rfl rfl rfl yS3 rfl
 ·exact tk
 ·rw [e1]; simp only [List.length_cons, pkV_len, hlk, pad_len (a := p0) (l := ins ps i p) (n := 7) (by rw [ins_len]; omega)]; omega
 ·rw [e1, Nat.mul_one]; exact set_kid _ _ _ _ (pad_len (by rw [ins_len]; omega))
 refine lr<|mv O O<|l_q O (q_nilCheck O)<|l_q O (qfa 1 O yU73 O O yS3)<|l_q O (qld O yA3) ?_
 refine l_q O (qadd O O) ?_
 refine l_q O (q_nilCheck O)<|l_q O (qfa 1 O yU73 O O yS3)<|st O O O yS3 O ?_
 refine l_nil ?_
 apply f_ret (.inr rfl) ([pt g (.cells ((a) :: (.int .i64 ((n + 1 : Nat) : Int)) :: (c) :: (d) :: pkV (pad p0 7 (ins ps i p)) ((layA (pad 0 8 ks) (i + 2) (((pad 0 8 ks).drop (i + 1)).take (n - i))).set (i + 1) r)).toArray 73 (0, 0))])
 ·exact res0 O
 ·exact ⟨rfl, rfl⟩
 ·exact en
theorem NDrop_ok (g n i : Nat) (a c d : Value) (ps : List Pr) (ks : List Nat) (hn : ps.length = n) (hn7 : n ≤ 7) (hk : ks.length ≤ 8) (hi : i < n) :
  FnOk Try.prog 38 #[.pointer (some ⟨g, 0, none⟩), .int .i64 i] [pt g (.cells ((a) :: (.int .i64 n) :: (c) :: (d) :: pkV (pad p0 7 ps) (pad 0 8 ks)).toArray 73 (0, 0))]
   (fun v L => v = .tuple #[] ∧ L = [pt g (.cells ((a) :: (.int .i64 ((n - 1 : Nat) : Int)) :: (c) :: (d) :: pkV (pad p0 7 (ps.eraseIdx i)) ((layA (pad 0 8 ks) (i + 1) (((pad 0 8 ks).drop (i + 2)).take (n - (i + 1)))).set n 0)).toArray 73 (0, 0))]) := by
 have hpl := pad_len (a := p0) (l := ps) (n := 7) (by omega)
 have hkl := pad_len (a := 0) (l := ks) (n := 8) (by omega)
 have hpp := pad_part (a := p0) (l := ps) (n := 7) (i := i + 1) (by omega) (by omega)
 have e1 : ((i : Int) + 1).toNat = i + 1 := by omega
 have e2 : ((i : Int) + 2).toNat = i + 2 := by omega
 have e3 : ((n : Int) + 1).toNat = n + 1 := by omega
 have e4 : ((n : Int) - 1).toNat = n - 1 := by omega
 have e5 : ((n : Int) - 1 + 1).toNat = n := by omega
 have hla : (layA (pad p0 7 ps) i (ps.drop (i + 1))).length = 7 := by rw [layA_len (by rw [hpl, List.length_drop]; omega), hpl]
 have hlk : (layA (pad 0 8 ks) (i + 1) (((pad 0 8 ks).drop (i + 2)).take (n - (i + 1)))).length = 8 := by rw [layA_len (by rw [hkl, List.length_take, List.length_drop, hkl]; omega), hkl]
 have hel : (pad p0 7 (ps.eraseIdx i)).length = 7 := pad_len (by rw [List.length_eraseIdx_of_lt (by omega)]; omega)
 refine fn_intro en38 Try.func38 rfl rfl rfl fun Fr w0 => t_nm ?_
 refine t_seq<|t_draw mixed ?_
 apply dq 0 O
 ·exact yq (q_move O)
 apply dq 1 O
 ·exact yq (q_nilCheck O)
 apply dq 2 O
 ·exact yq (qfa 4 O yU73 O O yS70)
 apply dq 3 O
 ·exact yq (q_move O)
 apply dq 4 O
 ·exact yq (q_sliceA_l rfl rfl yU70 yS69 (by omega))
 apply dq 5 O
 ·exact yq (q_move O)
 apply dq 6 O
 ·exact yq (q_nilCheck O)
 apply dq 7 O
 ·exact yq (qfa 4 O yU73 O O yS70)
 apply dq 8 O
 ·exact yq (q_move O)
 apply dq 9 O
 ·exact yq (qadd O O)
 apply dq 10 O
 ·exact yq (q_move O)
 apply dq 11 O
 ·exact yq (q_nilCheck O)
 apply dq 12 O
 ·exact yq (qfa 1 O yU73 O O yS3)
 apply dq 13 O
 ·exact yq (qld O yA3)
 apply dq 14 O
 ·exact yq (q_sliceA_lh rfl rfl rfl yU70 yS69 (by omega))
 refine d_eff1 [4, 14, 2, 3, 7, 9, 13, 1, 6, 8, 12, 0, 5, 11, 10] [] 15 [(8, _), (18, _)] gO ⟨rfl, rfl, trivial⟩ (by kernel_rfl) (by kernel_rfl) fun Ex => ?_
 apply o_copyP (rowOf prV (ps.drop (i + 1))) (xs' := a :: .int .i64 n :: c :: d :: pkV (layA (pad p0 7 ps) i (ps.drop (i + 1))) (pad 0 8 ks)) rfl rfl rfl Try.underlying120 (by obtain ⟨i, h1, _, h2, _⟩ := yI69; exact ⟨i, h1, h2⟩)
 ·exact tk
 ·rw [row_len, List.length_drop, e1, Int.toNat_natCast, Int.toNat_natCast, hn]; congr 1; exact (Nat.min_eq_left (by omega)).symm
 ·rw [e1, ← hpp]; apply reads_pairsT _ _ _ _ hpl (by omega); exact tk
 ·rw [Int.toNat_natCast]; exact fit_pairs _ _ _ _ hpl (by rw [List.length_drop]; omega)
 ·exact rowV_one _
 ·rw [Int.toNat_natCast]; exact lay_pairsT _ _ _ _ hpl (by rw [List.length_drop]; omega)
 refine l_nil ?_
 apply n_d
 ·exact trivial
 refine d_end (by kernel_rfl) ?_
 refine n_code<|t_seq<|t_draw mixed ?_
 apply dq 0 O
 ·exact yq (q_move O)
 apply dq 1 O
 ·exact yq (q_nilCheck O)
 apply dq 2 O
 ·exact yq (qfa 18 O yU73 O O yS71)
 apply dq 3 O
 ·exact yq (q_move O)
 apply dq 4 O
 ·exact yq (qadd O O)
 apply dq 5 O
 ·exact yq (q_sliceA_l rfl rfl yU71 yS3 (by omega))
 apply dq 6 O
 ·exact yq (q_move O)
 apply dq 7 O
 ·exact yq (q_nilCheck O)
 apply dq 8 O
 ·exact yq (qfa 18 O yU73 O O yS71)
 apply dq 9 O
 ·exact yq (q_move O)
 apply dq 10 O
 ·exact yq (qadd O O)
 apply dq 11 O
 ·exact yq (q_move O)
 apply dq 12 O
 ·exact yq (q_nilCheck O)
 apply dq 13 O
 ·exact yq (qfa 1 O yU73 O O yS3)
 apply dq 14 O
 ·exact yq (qld O yA3)
 apply dq 15 O
 ·exact yq (qadd O O)
 apply dq 16 O
 ·exact yq (q_sliceA_lh rfl rfl rfl yU71 yS3 (by omega))
 refine d_eff1 [5, 16, 2, 4, 8, 10, 15, 1, 3, 7, 9, 14, 0, 6, 13, 12, 11] [] 17 [(25, _), (36, _)] gO ⟨rfl, rfl, trivial⟩ (by kernel_rfl) (by kernel_rfl) fun Ex => ?_
 apply o_copyP ((((pad 0 8 ks).drop (i + 2)).take (n - (i + 1))).map kV) (xs' := a :: .int .i64 n :: c :: d :: pkV (layA (pad p0 7 ps) i (ps.drop (i + 1))) (layA (pad 0 8 ks) (i + 1) (((pad 0 8 ks).drop (i + 2)).take (n - (i + 1))))) rfl rfl rfl Try.underlying28 (by obtain ⟨i, h1, _, h2, _⟩ := yI3; exact ⟨i, h1, h2⟩)
 ·exact tk
 ·rw [List.length_map, List.length_take, List.length_drop, hkl, e1, e2, e3, Nat.mul_one, Nat.min_eq_left (by omega)]; exact (show n + 1 - (i + 2) = n - (i + 1) by omega) ▸ (Nat.min_eq_left (by omega)).symm
 ·rw [e2]; apply reads_kidsT _ _ _ _ hla hkl (by omega); exact tk
 ·rw [e1]; exact fit_kids _ _ _ _ hla hkl (by rw [List.length_take, List.length_drop]; omega)
 ·exact kidV_one _
 ·rw [e1]; exact lay_kidsT _ _ _ _ hla hkl (by rw [List.length_take, List.length_drop]; omega)
 refine l_nil ?_
 apply n_d
 ·exact trivial
 refine d_end (by kernel_rfl) ?_
 refine nz<|mv O O<|l_q O (q_nilCheck O)<|l_q O (qfa 1 O yU73 O O yS3)<|l_q O (qld O yA3) ?_
 refine l_q O (qsub O O) ?_
 refine l_q O (q_nilCheck O)<|l_q O (qfa 1 O yU73 O O yS3)<|st O O O yS3 O ?_
 refine lc<|t_seq<|t_draw mixed ?_
 apply dq 0 O
 ·exact yq (q_move O)
 apply dq 1 O
 ·exact yq (q_move O)
 apply dq 2 O
 ·exact yq (q_nilCheck O)
 apply dq 3 O
 ·exact yq (qfa 1 O yU73 O O yS3)
 apply dq 4 O
 ·exact yq (qld O yA3)
 apply dq 5 O
 ·apply yq
  apply q_buildS O yP69 yZ69
  ·exact FillR.nil
 apply dq 6 O
 ·exact yq (q_nilCheck O)
 apply dq 7 O
 ·exact yq (qfa 4 O yU73 O O yS70)
 apply dq 8 O
 ·exact yq (q_indexAddrA O O yU70 yS69 (by omega))
 refine d_eff1 [8, 5, 0, 1, 2, 3, 4, 7, 6] [] 9 [(53, _), (50, _)] gO ⟨rfl, rfl, trivial⟩ (by kernel_rfl) (by kernel_rfl) fun Ex => ?_
 apply o_storeP (us := prV p0) (xs' := a :: .int .i64 ((n : Int) - 1) :: c :: d :: pkV (pad p0 7 (ps.eraseIdx i)) (layA (pad 0 8 ks) (i + 1) (((pad 0 8 ks).drop (i + 2)).take (n - (i + 1))))) rfl rfl rfl yS69 rfl rfl
 ·exact tk
 ·rw [e4]; simp only [List.length_cons, pkV_len, hla, prV_len]; omega
 ·rw [e4, lay_pair _ _ _ _ (by omega)]; have := drop_pad (a := p0) (n := 7) (l := ps) (i := i) (by omega) (by omega); rw [hn] at this; rw [this]
 refine l_nil ?_
 apply n_d
 ·exact trivial
 refine d_end (by kernel_rfl) ?_
 refine n_code<|t_draw mixed ?_
 apply dq 0 O
 ·exact yq (q_move O)
 apply dq 1 O
 ·exact yq (q_move O)
 apply dq 2 O
 ·exact yq (q_nilCheck O)
 apply dq 3 O
 ·exact yq (qfa 1 O yU73 O O yS3)
 apply dq 4 O
 ·exact yq (qld O yA3)
 apply dq 5 O
 ·exact yq (qadd O O)
 apply dq 6 O
 ·exact yq (q_nilCheck O)
 apply dq 7 O
 ·exact yq (qfa 18 O yU73 O O yS71)
 apply dq 8 O
 ·exact yq (q_indexAddrA O O yU71 yS3 (by omega))
 refine d_eff1 [8, 0, 1, 2, 3, 4, 5, 7, 6] [] 9 [(62, _)] gO ⟨rfl, trivial⟩ (by kernel_rfl) (by kernel_rfl) fun Ex => ?_
 apply o_storeP1 (v := kV 0) (xs' := a :: .int .i64 ((n : Int) - 1) :: c :: d :: pkV (pad p0 7 (ps.eraseIdx i)) ((layA (pad 0 8 ks) (i + 1) (((pad 0 8 ks).drop (i + 2)).take (n - (i + 1)))).set n 0)) rfl rfl rfl yS3 rfl
 ·exact tk
 ·rw [e5]; simp only [List.length_cons, pkV_len, hlk, hel]; omega
 ·rw [e5, Nat.mul_one]; exact set_kid _ _ _ _ hel
 refine l_nil ?_
 apply n_d
 ·exact trivial
 refine d_end (by kernel_rfl) ?_
 rw [show ((n : Int) - 1) = ((n - 1 : Nat) : Int) by omega]
 apply f_ret (.inr rfl) ([pt g (.cells ((a) :: (.int .i64 ((n - 1 : Nat) : Int)) :: (c) :: (d) :: pkV (pad p0 7 (ps.eraseIdx i)) ((layA (pad 0 8 ks) (i + 1) (((pad 0 8 ks).drop (i + 2)).take (n - (i + 1)))).set n 0)).toArray 73 (0, 0))])
 ·exact res0 O
 ·exact ⟨rfl, rfl⟩
 ·exact en
end Go.Proofs.Ytjekhcojebgpnaa.Bt
