/- Contracts of package order: what looks and changes nothing. -/
import Derived.Test.YtjekhcojebgpnaaBtW
import Derived.Test.YtjekhcojebgpnaaBtG
set_option linter.unusedVariables false
set_option linter.unusedSimpArgs false
set_option maxRecDepth 100000
namespace Go.Proofs.Ytjekhcojebgpnaa.Bt
open Go.RowKit Go.Proofs Go.Proofs.Ytjekhcojebgpnaa.Eng Go.Proofs.Ytjekhcojebgpnaa.Ty Go.Proofs.Ytjekhcojebgpnaa.Bits Go.Proofs.Ytjekhcojebgpnaa.Mem Go.Proofs.Ytjekhcojebgpnaa.Search Go.Proofs.Ytjekhcojebgpnaa.Layout Go.Proofs.Ytjekhcojebgpnaa.Arena Go.Proofs.Ytjekhcojebgpnaa.GroupB
/-- A node's cells, as it is read. -/
@[reducible] def nodeT (h : Nat) (t : BT) : List Value := nodeC ((t.o : Nat) : Int) ((t.ps.length : Nat) : Int) ((tot h t : Nat) : Int) (decide (h = 0)) (pad p0 7 t.ps) (pad 0 8 (t.ks.map BT.o))
theorem nodeT_len {h lo : Nat} {t : BT} (hk : ok h lo t) : (nodeT h t).length = 26 := nodeC_len (pad_len (ok_len hk).2) (pad_len (ks_len hk))
theorem kids_o {l : Lay} {s : ArS} {h : Nat} {t : BT} (hs : s.ok) (H : SubT l s (some (h, t))) : ∀ k ∈ t.ks.map BT.o, k < 9223372036854775808 := fun k hk => by
 obtain ⟨h1, h2, h3, _⟩ := H h t O
 obtain ⟨c, hc, rfl⟩ := List.mem_map.1 hk
 cases h with
 | zero => rw [h1.2.2] at hc; cases hc
 | succ h =>
  have hm : c.o ∈ offs h c := by cases h <;> simp [offs]
  have hb := (mem_bl.1 (h3 _ (offs_kid hc _ hm))).1
  have c1 := ArS.chain_pos hs.chain _ hb
  have c2 := chain_end hs.chain hb
  have c3 := hs.stop_eq
  simp only [blkN] at c1 c2
  omega
theorem ps_mem {h : Nat} {t : BT} (hok : ok h 1 t) : ∀ p ∈ t.ps, p ∈ lst h t := fun p hp => by
 cases h with
 | zero => exact hp
 | succ h => exact il_ps_mem (ls := t.ks.map (lst h)) (by rw [List.length_map]; exact hok.2.2.1) hp
section
variable (pa off : Nat) (s : ArS) {l : Lay} (hl : l.err = 0)
include hl
theorem readT_ok (offI : Int) {h : Nat} {t : BT} (hs : s.ok) (H : SubT l s (some (h, t))) : FnOk Try.prog 23 #[.agg #[.pointer (some ⟨pa, 0, none⟩), .int .i64 l.key, .int .i64 l.elem, .int .i64 l.ka, .int .i64 l.ea, .int .i64 l.cap, .int .i64 l.eo, .int .i64 l.bo, .int .i64 l.slot, .int .i64 l.group, .int .i64 offI], .int .i64 ((t.o : Nat) : Int)] [arenaH pa s] (fun v L => v = .agg (nodeT h t).toArray ∧ L = [arenaH pa s]) := by
 have hr := root_ne hs H
 have hkid := kids_o hs H
 obtain ⟨h1, h2, h3, h4, h5, h6⟩ := H h t O
 have hm : t.o ∈ offs h t := by cases h <;> simp [offs]
 have htot : tot h t = (lst h t).length := rfl
 exact read_ok pa offI s hl t.o _ t.ps (decide (h = 0)) (t.ks.map BT.o) (tot h t) rfl hr.2 (h3 _ hm) h2.node (ok_len h1).2 (ks_len h1) hkid (by omega) fun p hp => h5 p (ps_mem h1 p hp)
omit hl in
theorem headT_ok {x : TX} {R : List (Int × Int)} (hs : s.ok) (H : TrOk l s off x R) : FnOk Try.prog 18 #[.agg #[.pointer (some ⟨pa, 0, none⟩), .int .i64 l.key, .int .i64 l.elem, .int .i64 l.ka, .int .i64 l.ea, .int .i64 l.cap, .int .i64 l.eo, .int .i64 l.bo, .int .i64 l.slot, .int .i64 l.group, .int .i64 ((off : Nat) : Int)]] [arenaH pa s] (fun v L => v = .tuple #[.agg #[.int .i64 ((x.L.length : Nat) : Int), .int .i64 ((x.root : Nat) : Int), .int .i64 ((x.height : Nat) : Int), .int .i64 ((x.offs.length : Nat) : Int)], .int .i64 0] ∧ L = [arenaH pa s]) := by
 obtain ⟨_, b1, b2, b3, b4, b5, _⟩ := H.bnd hs
 exact head_ok pa off s l _ _ _ _ H.hdr b5 H.w0 H.w1 H.w2 H.w3 (by omega) (by omega) (by omega) (by omega)
/-- What widths says. -/
def widE (l : Lay) (k e : ByteArray) (put : Bool) : Int := if k.size ≠ kN l then 61 else if put = true ∧ e.size ≠ eN l then 62 else 0
theorem widths_ok {x : TX} {R : List (Int × Int)} (hs : s.ok) (H : TrOk l s off x R) (k e : ByteArray) (put : Bool) : FnOk Try.prog 20 #[.agg #[.pointer (some ⟨pa, 0, none⟩), .int .i64 l.key, .int .i64 l.elem, .int .i64 l.ka, .int .i64 l.ea, .int .i64 l.cap, .int .i64 l.eo, .int .i64 l.bo, .int .i64 l.slot, .int .i64 l.group, .int .i64 ((off : Nat) : Int)], .string k, .string e, .bool put] [arenaH pa s]
  (fun v L => v = .tuple #[.agg (if widE l k e put = 0 then #[.int .i64 ((x.L.length : Nat) : Int), .int .i64 ((x.root : Nat) : Int), .int .i64 ((x.height : Nat) : Int), .int .i64 ((x.offs.length : Nat) : Int)] else #[.int .i64 0, .int .i64 0, .int .i64 0, .int .i64 0]), .int .i64 (widE l k e put)] ∧ L = [arenaH pa s]) := by
 have hn := layN hl
 have hn1 := hn.k
 have hn2 := hn.e
 refine fn_intro en20 Try.func20 rfl rfl rfl fun Fr w0 => t_nm ?_
 refine sr<|o_boxA O O fun b4 => o_allocA O yZ57 fun b8 => asg O O<|lz<|l_q O (qlda O yA27 yS27) ?_
 refine lc1 O O O (headT_ok pa off s hs H) ?_
 refine mv O O<|l_q O (q_extractL O ga) ?_
 refine l_q O (q_extractL O ga) ?_
 refine o_allocA O yZ57 fun b10 => sta O O O yS57 O O ?_
 refine asg O O<|lc<|t_seq<|t_block<|sr<|mv O O<|l_q O (qi O O (b_neq ·))<|asg O O<|lc<|t_if O (fun z => ?_) fun z => ?_
 ·exact absurd rfl z
 ·refine sr<|mv O O<|l_q O (qls O yU9)<|l_q O (qfa 1 O yU27 O O yS25)<|l_q O (qfa 0 O yU25 O O yS3)<|l_q O (qld O yA3) ?_
  refine l_q O (qi O O (b_neq ·))<|asg O O<|lc<|t_if O (fun z1 => ?_) fun z1 => ?_
  ·refine sr ?_
   apply l_q O
   ·apply q_buildS O yP57 yZ57
    ·exact FillR.nil
   refine sta O O O yS57 O O ?_
   refine asg O O<|lc<|rt ?_
   have e1 : widE l k e put = 61 := by unfold widE; rw [if_pos (by omega)]
   rw [e1]
   apply f_ret (.inl rfl) ([arenaH pa s])
   ·apply res2 O
    ·apply Rv.agg rfl
     ·exact tk
     ·exact run_loadAll yA57 yS57 O
    ·exact .tmp rfl
   ·exact ⟨rfl, rfl⟩
   ·exact en
  ·refine sr<|mv O O<|mv O O ?_
   have z1' : k.size = kN l := by omega
   refine l_pt (t := 32) rfl (fun p1 => ?_) fun p1 => ?_
   ·refine l_on O O<|mv O O<|l_on O O<|l_q O (qls O yU9)<|l_on O O<|l_q O (qfa 1 O yU27 O O yS25)<|l_on O O<|l_q O (qfa 1 O yU25 O O yS3)<|l_on O O<|l_q O (qld O yA3) ?_
    refine l_on O O<|l_q O (qi O O (b_neq ·))<|l_q O (q_pk O O)<|asg O O<|lc<|t_if O (fun z2 => ?_) fun z2 => ?_
    ·refine sr ?_
     apply l_q O
     ·apply q_buildS O yP57 yZ57
      ·exact FillR.nil
     refine sta O O O yS57 O O ?_
     refine asg O O<|lc<|rt ?_
     have e1 : widE l k e put = 62 := by unfold widE; rw [if_neg (by omega), if_pos ⟨p1, by omega⟩]
     rw [e1]
     apply f_ret (.inl rfl) ([arenaH pa s])
     ·apply res2 O
      ·apply Rv.agg rfl
       ·exact tk
       ·exact run_loadAll yA57 yS57 O
      ·exact .tmp rfl
     ·exact ⟨rfl, rfl⟩
     ·exact en
    ·refine t_skip<|n_blk<|nz<|l_q O (qlda O yA57 yS57) ?_
     refine sta O O O yS57 O O ?_
     refine asg O O<|lc<|rt ?_
     have e1 : widE l k e put = 0 := by unfold widE; rw [if_neg (by omega), if_neg (by rintro ⟨_, w⟩; omega)]
     rw [e1]
     apply f_ret (.inl rfl) ([arenaH pa s])
     ·apply res2 O
      ·apply Rv.agg rfl
       ·exact tk
       ·exact run_loadAll yA57 yS57 O
      ·exact .tmp rfl
     ·exact ⟨rfl, rfl⟩
     ·exact en
   ·refine l_off O O O O<|l_off O O O O<|l_off O O O O<|l_off O O O O<|l_off O O O O<|l_off O O O O<|l_q O (q_pk O O)<|asg O O<|lc<|t_cond_f O<|t_skip<|n_blk<|nz<|l_q O (qlda O yA57 yS57) ?_
    refine sta O O O yS57 O O ?_
    refine asg O O<|lc<|rt ?_
    have e1 : widE l k e put = 0 := by unfold widE; rw [if_neg (by omega), if_neg (by rintro ⟨w, _⟩; rw [p1] at w; cases w)]
    rw [e1]
    apply f_ret (.inl rfl) ([arenaH pa s])
    ·apply res2 O
     ·apply Rv.agg rfl
      ·exact tk
      ·exact run_loadAll yA57 yS57 O
     ·exact .tmp rfl
    ·exact ⟨rfl, rfl⟩
    ·exact en
/-! ### Get, has, last -/
omit hl in
theorem nxt_height {h i : Nat} {t : BT} : (nxt h t i).height < TX.height (some (h, t)) := by cases h <;> exact Nat.lt_succ_self _
omit hl in
theorem get_own {h : Nat} {t : BT} {k : ByteArray} (hk : ok h 1 t) (hs : SL (lst h t)) (ho : own t k = true) : getL (lst h t) k = some (pr t (rk t.ps k)).2 := by
 obtain ⟨_, h2, a, b, q1, _, q3, _⟩ := way_own hk hs ho
 rw [q1]; exact (find_own q3 h2).2.2
omit hl in
theorem get_on {h : Nat} {t : BT} {k : ByteArray} (hk : ok h 1 t) (hs : SL (lst h t)) (ho : own t k = false) : getL (lst h t) k = getL (nxt h t (rk t.ps k)).L k := by
 obtain ⟨a, b, q1, _, _, _, q5, q6⟩ := way_on hk hs ho
 rw [q1]; exact mid_get q5 q6
theorem widths_yes {x : TX} {R : List (Int × Int)} (hs : s.ok) (H : TrOk l s off x R) (k e : ByteArray) (put : Bool) (h0 : widE l k e put = 0) : FnOk Try.prog 20 #[.agg #[.pointer (some ⟨pa, 0, none⟩), .int .i64 l.key, .int .i64 l.elem, .int .i64 l.ka, .int .i64 l.ea, .int .i64 l.cap, .int .i64 l.eo, .int .i64 l.bo, .int .i64 l.slot, .int .i64 l.group, .int .i64 ((off : Nat) : Int)], .string k, .string e, .bool put] [arenaH pa s]
  (fun v L => v = .tuple #[.agg #[.int .i64 ((x.L.length : Nat) : Int), .int .i64 ((x.root : Nat) : Int), .int .i64 ((x.height : Nat) : Int), .int .i64 ((x.offs.length : Nat) : Int)], .int .i64 0] ∧ L = [arenaH pa s]) := (widths_ok pa off s hl hs H k e put).mono fun v L h => by rwa [h0, if_pos rfl] at h
theorem has_ok {x : TX} (hs : s.ok) (H : SubT l s x) (k : ByteArray) (offI : Int) : FnOk Try.prog 21 #[.agg #[.pointer (some ⟨pa, 0, none⟩), .int .i64 l.key, .int .i64 l.elem, .int .i64 l.ka, .int .i64 l.ea, .int .i64 l.cap, .int .i64 l.eo, .int .i64 l.bo, .int .i64 l.slot, .int .i64 l.group, .int .i64 offI], .int .i64 ((x.root : Nat) : Int), .string k] [arenaH pa s]
  (fun v L => v = .bool (getL x.L k).isSome ∧ L = [arenaH pa s]) := by
 refine fn_intro en21 Try.func21 rfl rfl rfl fun Fr w0 => t_nm ?_
 refine sr<|o_boxA O O fun b3 => asg O O<|lc<|t_seq<|t_block ?_
 refine t_loop (fun y : TX => SubT l s y ∧ getL y.L k = getL x.L k) (fun y => [(1, .int .i64 ((y.root : Nat) : Int)), (2, .string k), (3, .pointer (some ⟨b3, 0, none⟩))]) (fun y => pt b3 (.cells #[.pointer (some ⟨pa, 0, none⟩), .int .i64 l.key, .int .i64 l.elem, .int .i64 l.ka, .int .i64 l.ea, .int .i64 l.cap, .int .i64 l.eo, .int .i64 l.bo, .int .i64 l.slot, .int .i64 l.group, .int .i64 offI] 27 (0, 0)) :: arenaH pa s :: Fr) (fun y => y.height) x ⟨H, rfl⟩ ⟨rfl, rfl, rfl, trivial⟩ (by (exact en)) ?_
 rintro y ⟨hy, hget⟩
 have hr := root_ne hs hy
 refine t_seq<|sr<|mv O O<|l_q O (qi O O (b_neq ·))<|lc<|t_if O (fun q => ?_) fun q => ?_
 ·obtain ⟨⟨h, t⟩, rfl⟩ : ∃ z, y = some z := by cases y with | none => exact absurd rfl q | some z => exact ⟨z, rfl⟩
  obtain ⟨hk, h2, h3, h4, h5, h6⟩ := hy h t O
  have h7 := (ok_len hk).2
  have hle := rk_le t.ps k
  refine t_skip<|n_code<|t_block<|sr<|l_q O (qlda O yA27 yS27) ?_
  refine mv O O<|lc1 O O O (readT_ok pa s hl _ hs hy) ?_
  refine o_allocA O yZ73 fun b7 => ?_
  apply o_storeP (us := nodeT h t) (xs' := nodeT h t) rfl rfl rfl yS73 (nodeT_len hk) (List.all_eq_true.2 (node_one _ _ _ _ _ _))
  ·exact tk
  ·decide
  ·exact lay_full (by rw [nodeT_len hk]; rfl)
  refine lz<|mv O O<|lc1 O O O (find_ok b7 _ _ _ t _ k h7 (sl_ps hk h4)) ?_
  refine mv O O<|l_q O (q_extractL O ga) ?_
  refine l_q O (q_extractL O ga) ?_
  refine asg O O<|asg O O<|lc<|t_seq<|sr<|mv O O<|lc<|t_if O (fun o1 => ?_) fun o1 => ?_
  ·have o2 : own t k = true := decide_eq_true o1
   refine sr<|asg O O<|lc<|rt<|fr1 O ([arenaH pa s]) (.tmp rfl) ?_
   refine ⟨?_, rfl⟩; rw [← hget, show getL (TX.L (some (h, t))) k = _ from get_own hk h4 o2]; rfl
  ·have o2 : own t k = false := decide_eq_false o1
   refine t_skip<|n_code<|t_region<|mv O O<|l_q O (qfa 18 O yU73 O O yS71)<|l_q O (q_indexAddrA O O yU71 yS3 (by omega)) ?_
   apply l_q O
   ·apply q_loadP1 (v := .int .i64 ((TX.root (nxt h t (rk t.ps k)) : Nat) : Int)) rfl yA3
    ·exact tk
    ·rw [Int.toNat_natCast, Nat.mul_one]; exact pkV_kid _ _ _ _ (pad_len h7) (nxt_root hk (rk_le _ _))
   refine asg O O<|l_nil<|n_blk ?_
   apply n_again (nxt h t (rk t.ps k))
   ·exact ⟨hy.nxt (rk_le _ _), by rw [← hget]; exact (get_on hk h4 o2).symm⟩
   ·exact nxt_height
   ·exact ⟨O, O, O, trivial⟩
   ·exact en
 ·obtain rfl : y = none := hr.1.1 (by omega)
  refine xt O<|nz<|asg O O<|lc<|rt<|fr1 O ([arenaH pa s]) (.tmp rfl) ?_
  refine ⟨?_, rfl⟩; rw [← hget]; rfl
theorem last_ok {h0 : Nat} {t0 : BT} (hs : s.ok) (H : SubT l s (some (h0, t0))) (offI : Int) : FnOk Try.prog 40 #[.agg #[.pointer (some ⟨pa, 0, none⟩), .int .i64 l.key, .int .i64 l.elem, .int .i64 l.ka, .int .i64 l.ea, .int .i64 l.cap, .int .i64 l.eo, .int .i64 l.bo, .int .i64 l.slot, .int .i64 l.group, .int .i64 offI], .int .i64 ((t0.o : Nat) : Int)] [arenaH pa s]
  (fun v L => v = .agg #[.string (lastB h0 t0).1, .string (lastB h0 t0).2] ∧ L = [arenaH pa s]) := by
 refine fn_intro en40 Try.func40 rfl rfl rfl fun Fr w0 => t_nm ?_
 refine sr<|o_boxA O O fun b2 => o_allocA O yZ69 fun b4 => lc<|t_block ?_
 refine t_loop (fun y : Nat × BT => SubT l s (some y) ∧ lastB y.1 y.2 = lastB h0 t0) (fun y => [(1, .int .i64 ((y.2.o : Nat) : Int)), (2, .pointer (some ⟨b2, 0, none⟩)), (4, .pointer (some ⟨b4, 0, none⟩))]) (fun y => pt b4 (.cells #[.string ⟨#[]⟩, .string ⟨#[]⟩] 69 (0, 0)) :: pt b2 (.cells #[.pointer (some ⟨pa, 0, none⟩), .int .i64 l.key, .int .i64 l.elem, .int .i64 l.ka, .int .i64 l.ea, .int .i64 l.cap, .int .i64 l.eo, .int .i64 l.bo, .int .i64 l.slot, .int .i64 l.group, .int .i64 offI] 27 (0, 0)) :: arenaH pa s :: Fr) (fun y => y.1) (h0, t0) ⟨H, rfl⟩ ⟨rfl, rfl, rfl, trivial⟩ (by (exact en)) ?_
 rintro ⟨h, t⟩ ⟨hy, hla0⟩
 dsimp only at hy hla0 ⊢
 obtain ⟨hk, h2, h3, h4, h5, h6⟩ := hy h t O
 have h7 := (ok_len hk).2
 have h8 := (ok_len hk).1
 refine t_block<|sr<|l_q O (qlda O yA27 yS27) ?_
 refine mv O O<|lc1 O O O (readT_ok pa s hl _ hs hy) ?_
 refine o_allocA O yZ73 fun b5 => ?_
 apply o_storeP (us := nodeT h t) (xs' := nodeT h t) rfl rfl rfl yS73 (nodeT_len hk) (List.all_eq_true.2 (node_one _ _ _ _ _ _))
 ·exact tk
 ·decide
 ·exact lay_full (by rw [nodeT_len hk]; rfl)
 refine lc<|t_seq<|sr<|l_q O (qfa 3 O yU73 O O yS4)<|l_q O (qld O yA4) ?_
 refine lc<|t_if O (fun z => ?_) fun z => ?_
 ·subst z
  have hla : t.ps[t.ps.length - 1]? = some (lastB h0 t0) := by
   rw [← hla0, ← List.getLast?_eq_getElem?]
   show _ = some (t.ps.getLastD default)
   cases e : t.ps with
   | nil => rw [e] at h8; simp at h8
   | cons a r => rw [List.getLastD_cons, List.getLast?_cons]; simp [List.getLastD_eq_getLast?]
  refine sr<|l_q O (qfa 1 O yU73 O O yS3)<|l_q O (qld O yA3) ?_
  refine l_q O (qsub O O) ?_
  refine l_q O (qfa 4 O yU73 O O yS70)<|l_q O (q_indexAddrA O O yU70 yS69 (by omega)) ?_
  apply l_q O
  ·apply q_loadP (us := [.string (lastB h0 t0).1, .string (lastB h0 t0).2]) rfl yA69 yS69
   ·exact tk
   ·rw [nodeT_len hk]; omega
   ·rw [show (((t.ps.length : Nat) : Int) - 1).toNat = t.ps.length - 1 by omega]; exact pkV_pair _ _ _ _ (by rw [pad_at h7 (by omega)]; exact hla)
  refine sta O O O yS69 O O ?_
  refine lc<|rt ?_
  apply f_ret (.inl rfl) ([arenaH pa s])
  ·apply res1 O
   ·apply Rv.agg rfl
    ·exact tk
    ·exact run_loadAll yA69 yS69 O
  ·exact ⟨rfl, rfl⟩
  ·exact en
 ·obtain ⟨g, hg⟩ : ∃ g, h = g + 1 := ⟨h - 1, by omega⟩
  refine t_skip<|n_code<|t_region<|l_q O (qfa 1 O yU73 O O yS3)<|l_q O (qld O yA3) ?_
  refine l_q O (qfa 18 O yU73 O O yS71)<|l_q O (q_indexAddrA O O yU71 yS3 (by omega)) ?_
  apply l_q O
  ·apply q_loadP1 (v := .int .i64 ((TX.root (nxt h t t.ps.length) : Nat) : Int)) rfl yA3
   ·exact tk
   ·rw [Int.toNat_natCast, Nat.mul_one]; exact pkV_kid _ _ _ _ (pad_len h7) (nxt_root hk (Nat.le_refl _))
  refine asg O O<|l_nil<|n_blk ?_
  subst hg
  apply n_again ((g, kid t t.ps.length))
  ·exact ⟨hy.nxt (Nat.le_refl _), hla0⟩
  ·exact Nat.lt_succ_self _
  ·exact ⟨O, O, O, trivial⟩
  ·exact en
/-! ### Ceiling, Floor -/
omit hl in
theorem ceil_own {h : Nat} {t : BT} {k : ByteArray} (hk : ok h 1 t) (hs : SL (lst h t)) (ho : own t k = true) : ceilL (lst h t) k = some (pr t (rk t.ps k)) := by
 obtain ⟨_, h2, a, b, q1, _, q3, _⟩ := way_own hk hs ho
 have h := find_own (b := b) q3 h2
 rw [q1]; unfold ceilL; rw [h.1]; exact h.2.1
omit hl in
theorem ceil_on {h : Nat} {t : BT} {k : ByteArray} (hk : ok h 1 t) (hs : SL (lst h t)) (ho : own t k = false) : ceilL (lst h t) k = (ceilL (nxt h t (rk t.ps k)).L k).or t.ps[rk t.ps k]? := by
 obtain ⟨a, b, q1, _, q3, _, q5, q6⟩ := way_on hk hs ho
 rw [q1, mid_ceil q5 q6, q3]
omit hl in
theorem pr_at {t : BT} {i : Nat} (h : i < t.ps.length) : t.ps[i]? = some (pr t i) := by unfold pr; rw [List.getElem?_eq_getElem h]; rfl
theorem Ceiling_ok {x : TX} {R : List (Int × Int)} (hs : s.ok) (H : TrOk l s off x R) (k : ByteArray) : FnOk Try.prog 36 #[.agg #[.pointer (some ⟨pa, 0, none⟩), .int .i64 l.key, .int .i64 l.elem, .int .i64 l.ka, .int .i64 l.ea, .int .i64 l.cap, .int .i64 l.eo, .int .i64 l.bo, .int .i64 l.slot, .int .i64 l.group, .int .i64 ((off : Nat) : Int)], .string k] [arenaH pa s] (fun v L => v = .tuple #[.agg #[.string ((ceilL x.L k).getD p0).1, .string ((ceilL x.L k).getD p0).2], .bool (ceilL x.L k).isSome, .int .i64 0] ∧ L = [arenaH pa s]) := by
 refine fn_intro en36 Try.func36 rfl rfl rfl fun Fr w0 => t_nm ?_
 refine sr<|o_boxA O O fun b2 => o_allocA O yZ69 fun b4 => asg O O<|asg O O<|lz<|l_q O (qlda O yA27 yS27) ?_
 refine lc1 O O O (headT_ok pa off s hs H) ?_
 refine mv O O<|l_q O (q_extractL O ga) ?_
 refine l_q O (q_extractL O ga) ?_
 refine o_allocA O yZ57 fun b7 => sta O O O yS57 O O ?_
 refine asg O O<|lc<|t_seq<|sr<|mv O O<|l_q O (qi O O (b_neq ·))<|lc<|t_if O (fun z => ?_) fun z => ?_
 ·exact absurd rfl z
 ·refine t_skip<|nz ?_
  apply l_q O
  ·apply q_buildS O yP69 yZ69
   ·exact FillR.nil
  refine o_allocA O yZ69 fun b9 => sta O O O yS69 O O ?_
  refine asg O O<|lc<|t_seq<|sr<|l_q O (qfa 1 O yU57 O O yS3)<|l_q O (qld O yA3) ?_
  refine asg O O<|lc<|t_block ?_
  refine t_loop (fun y : TX × Pr × Bool => SubT l s y.1 ∧ ∃ best : Option Pr, (ceilL y.1.L k).or best = ceilL x.L k ∧ best.getD p0 = y.2.1 ∧ best.isSome = y.2.2) (fun y => [(1, .string k), (2, .pointer (some ⟨b2, 0, none⟩)), (4, .pointer (some ⟨b4, 0, none⟩)), (9, .pointer (some ⟨b9, 0, none⟩)), (10, .bool y.2.2), (11, .int .i64 ((y.1.root : Nat) : Int))]) (fun y => pt b9 (.cells #[.string (y.2.1).1, .string (y.2.1).2] 69 (0, 0)) :: pt b4 (.cells #[.string ⟨#[]⟩, .string ⟨#[]⟩] 69 (0, 0)) :: pt b2 (.cells #[.pointer (some ⟨pa, 0, none⟩), .int .i64 l.key, .int .i64 l.elem, .int .i64 l.ka, .int .i64 l.ea, .int .i64 l.cap, .int .i64 l.eo, .int .i64 l.bo, .int .i64 l.slot, .int .i64 l.group, .int .i64 ((off : Nat) : Int)] 27 (0, 0)) :: arenaH pa s :: Fr) (fun y => y.1.height) (x, p0, false) ⟨(H.bnd hs).1, none, by rw [Option.or_none], rfl, rfl⟩ ⟨rfl, rfl, rfl, rfl, rfl, rfl, trivial⟩ (by (exact en)) ?_
  rintro ⟨y, bp, bb⟩ ⟨hy, best, hget, hbp, hbb⟩
  dsimp only at hy hget hbp hbb ⊢
  subst hbp hbb
  have hr := root_ne hs hy
  refine t_seq<|sr<|mv O O<|l_q O (qi O O (b_neq ·))<|lc<|t_if O (fun q => ?_) fun q => ?_
  ·obtain ⟨⟨h, t⟩, rfl⟩ : ∃ z, y = some z := by cases y with | none => exact absurd rfl q | some z => exact ⟨z, rfl⟩
   obtain ⟨hk, h2, h3, h4, h5, h6⟩ := hy h t O
   have h7 := (ok_len hk).2
   have hle := rk_le t.ps k
   refine t_skip<|n_code<|t_block<|sr<|l_q O (qlda O yA27 yS27) ?_
   refine mv O O<|lc1 O O O (readT_ok pa s hl _ hs hy) ?_
   refine o_allocA O yZ73 fun b12 => ?_
   apply o_storeP (us := nodeT h t) (xs' := nodeT h t) rfl rfl rfl yS73 (nodeT_len hk) (List.all_eq_true.2 (node_one _ _ _ _ _ _))
   ·exact tk
   ·decide
   ·exact lay_full (by rw [nodeT_len hk]; rfl)
   refine lz<|mv O O<|lc1 O O O (find_ok b12 _ _ _ t _ k h7 (sl_ps hk h4)) ?_
   refine mv O O<|l_q O (q_extractL O ga) ?_
   refine l_q O (q_extractL O ga) ?_
   refine asg O O<|asg O O<|lc<|t_seq<|sr<|mv O O<|lc<|t_if O (fun o1 => ?_) fun o1 => ?_
   ·have o2 : own t k = true := decide_eq_true o1
    obtain ⟨hpr, _⟩ := way_own hk h4 o2
    have hlt := (List.getElem?_eq_some_iff.1 hpr).1
    refine sr<|mv O O<|l_q O (qfa 4 O yU73 O O yS70)<|l_q O (q_indexAddrA O O yU70 yS69 (by omega)) ?_
    apply l_q O
    ·apply q_loadP (us := [.string (pr t (rk t.ps k)).1, .string (pr t (rk t.ps k)).2]) rfl yA69 yS69
     ·exact tk
     ·rw [Int.toNat_natCast, nodeT_len hk]; omega
     ·rw [Int.toNat_natCast]; exact pkV_pair _ _ _ _ (by rw [pad_at h7 (by omega)]; exact hpr)
    refine sta O O O yS69 O O ?_
    refine asg O O<|asg O O<|lc<|rt ?_
    have hc : ceilL x.L k = some (pr t (rk t.ps k)) := by rw [← hget, show ceilL (TX.L (some (h, t))) k = _ from ceil_own hk h4 o2]; rfl
    rw [hc]
    apply f_ret (.inl rfl) ([arenaH pa s])
    ·apply res3 O
     ·apply Rv.agg rfl
      ·exact tk
      ·exact run_loadAll yA69 yS69 O
     ·exact .tmp rfl
     ·exact .tmp rfl
    ·exact ⟨rfl, rfl⟩
    ·exact en
   ·have o2 : own t k = false := decide_eq_false o1
    have hco := ceil_on hk h4 o2
    refine t_skip<|n_code<|t_seq<|sr<|mv O O<|l_q O (qfa 1 O yU73 O O yS3)<|l_q O (qld O yA3) ?_
    refine l_q O (qi O O (b_lss ·))<|lc ?_
    have hco' : (ceilL (nxt h t (rk t.ps k)).L k).or (t.ps[rk t.ps k]?.or best) = ceilL x.L k := by rw [← hget, ← Option.or_assoc, ← hco]; rfl
    refine t_if O (fun c => ?_) fun c => ?_
    ·have hlt : rk t.ps k < t.ps.length := by omega
     have hpr := pr_at hlt
     refine t_region<|mv O O<|l_q O (qfa 4 O yU73 O O yS70)<|l_q O (q_indexAddrA O O yU70 yS69 (by omega)) ?_
     apply l_q O
     ·apply q_loadP (us := [.string (pr t (rk t.ps k)).1, .string (pr t (rk t.ps k)).2]) rfl yA69 yS69
      ·exact tk
      ·rw [Int.toNat_natCast, nodeT_len hk]; omega
      ·rw [Int.toNat_natCast]; exact pkV_pair _ _ _ _ (by rw [pad_at h7 (by omega)]; exact hpr)
     refine sta O O O yS69 O O ?_
     refine asg O O<|lr<|mv O O<|l_q O (qfa 18 O yU73 O O yS71)<|l_q O (q_indexAddrA O O yU71 yS3 (by omega)) ?_
     apply l_q O
     ·apply q_loadP1 (v := .int .i64 ((TX.root (nxt h t (rk t.ps k)) : Nat) : Int)) rfl yA3
      ·exact tk
      ·rw [Int.toNat_natCast, Nat.mul_one]; exact pkV_kid _ _ _ _ (pad_len h7) (nxt_root hk (rk_le _ _))
     refine asg O O<|l_nil<|n_blk ?_
     apply n_again ((nxt h t (rk t.ps k), pr t (rk t.ps k), true))
     ·exact ⟨hy.nxt (rk_le _ _), some (pr t (rk t.ps k)), by rw [hpr] at hco'; exact hco', rfl, rfl⟩
     ·exact nxt_height
     ·exact ⟨O, O, O, O, O, O, trivial⟩
     ·exact en
    ·refine t_skip<|n_code<|t_region<|mv O O<|l_q O (qfa 18 O yU73 O O yS71)<|l_q O (q_indexAddrA O O yU71 yS3 (by omega)) ?_
     apply l_q O
     ·apply q_loadP1 (v := .int .i64 ((TX.root (nxt h t (rk t.ps k)) : Nat) : Int)) rfl yA3
      ·exact tk
      ·rw [Int.toNat_natCast, Nat.mul_one]; exact pkV_kid _ _ _ _ (pad_len h7) (nxt_root hk (rk_le _ _))
     refine asg O O<|l_nil<|n_blk ?_
     apply n_again ((nxt h t (rk t.ps k), best.getD p0, best.isSome))
     ·exact ⟨hy.nxt (rk_le _ _), _, by rw [List.getElem?_eq_none (by omega)] at hco'; exact hco', rfl, rfl⟩
     ·exact nxt_height
     ·exact ⟨O, O, O, O, O, O, trivial⟩
     ·exact en
  ·obtain rfl : y = none := hr.1.1 (by omega)
   have hc : ceilL x.L k = best := by rw [← hget]; rfl
   rw [hc]
   refine xt O<|nz<|l_q O (qlda O yA69 yS69) ?_
   refine mv O O<|sta O O O yS69 O O ?_
   refine asg O O<|asg O O<|lc<|rt ?_
   apply f_ret (.inl rfl) ([arenaH pa s])
   ·apply res3 O
    ·apply Rv.agg rfl
     ·exact tk
     ·exact run_loadAll yA69 yS69 O
    ·exact .tmp rfl
    ·exact .tmp rfl
   ·exact ⟨rfl, rfl⟩
   ·exact en
end
end Go.Proofs.Ytjekhcojebgpnaa.Bt
