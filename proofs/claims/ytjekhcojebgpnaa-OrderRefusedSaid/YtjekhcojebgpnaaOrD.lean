/- Contracts of larderlaw26: listed, holds. -/
import Derived.Test.YtjekhcojebgpnaaOrC
set_option linter.unusedVariables false
set_option linter.unusedSimpArgs false
set_option maxRecDepth 100000
namespace Go.Proofs.Ytjekhcojebgpnaa.Ord
open Go.RowKit Go.Proofs Go.Proofs.Ytjekhcojebgpnaa.Eng Go.Proofs.Ytjekhcojebgpnaa.Ty Go.Proofs.Ytjekhcojebgpnaa.Bits Go.Proofs.Ytjekhcojebgpnaa.Mem Go.Proofs.Ytjekhcojebgpnaa.Search Go.Proofs.Ytjekhcojebgpnaa.Layout Go.Proofs.Ytjekhcojebgpnaa.Arena Go.Proofs.Ytjekhcojebgpnaa.GroupB Go.Proofs.Ytjekhcojebgpnaa.Bt
theorem name_size (i : Nat) : (nameK i).size = 2 := rfl
theorem elem_size (i : Nat) : (elemK i).size = 1 := rfl
theorem name_at0 (i : Nat) : (nameK i)[(0 : Int).toNat]? = some (UInt8.ofNat (i / 250)) := rfl
theorem name_at1 (i : Nat) : (nameK i)[(1 : Int).toNat]? = some (UInt8.ofNat (i % 250 + 3)) := rfl
theorem elem_at0 (i : Nat) : (elemK i)[(0 : Int).toNat]? = some (UInt8.ofNat i) := rfl
theorem u8_nat {n : Nat} (h : n < 256) : (UInt8.ofNat n).toNat = n := by simp only [UInt8.toNat_ofNat']; omega
theorem flat_next {f : Nat → Nat} {l : List Nat} {m i : Nat} (h : l[m]? = some i) : ints (flatN f (l.take m)) ++ (#[Value.int .i64 ((i : Nat) : Int), Value.int .i64 ((f i - 1 : Nat) : Int)] : Array Value).toList = ints (flatN f (l.take (m + 1))) := by
 rw [List.take_add_one, h, flat_app]
 simp [ints, flatN]
theorem still_end {x : Bt.TX} {f : Nat → Nat} {i : ByteArray × Nat} (hx : x.L = prs f) (h : rowR topK x i = none) : rk x.L i.1 = x.L.length := by
 unfold rowR at h
 have hle := rk_le x.L i.1
 cases hc : ceilL x.L i.1 with
 | none =>
  have h0 : x.L[rk x.L i.1]? = none := hc
  have := List.getElem?_eq_none_iff.1 h0
  omega
 | some p =>
  rw [hc] at h
  simp only at h
  have hp : p ∈ prs f := by rw [← hx]; exact List.mem_of_getElem? (show x.L[rk x.L i.1]? = some p from hc)
  obtain ⟨j, hj, _, rfl⟩ := mem_prs.1 hp
  rw [if_pos (show Op.bytesLess (nameK j).toList topK.toList = true from name_top hj)] at h
  cases h
/-- How many of the keys ahead of number k are held. -/
def cntF (f : Nat → Nat) (k : Nat) : Nat := ((List.range k).filter fun i => decide (f i ≠ 0)).length
theorem cntF_zero (f : Nat → Nat) : cntF f 0 = 0 := rfl
theorem cntF_succ (f : Nat → Nat) (k : Nat) : cntF f (k + 1) = cntF f k + if f k = 0 then 0 else 1 := by
 unfold cntF
 rw [List.range_succ, List.filter_append, List.length_append]
 congr 1
 by_cases h : f k = 0 <;> simp [h]
theorem cntF_all (f : Nat → Nat) : cntF f 1000 = (ids f).length := rfl
theorem ids_cnt {f : Nat → Nat} {k : Nat} (hk : k < 1000) (h : f k ≠ 0) : (ids f)[cntF f k]? = some k := by
 unfold ids cntF
 have e : List.range 1000 = List.range k ++ (k :: List.range' (k + 1) (1000 - (k + 1))) := by
  rw [List.range_eq_range', List.range_eq_range', show (k :: List.range' (k + 1) (1000 - (k + 1))) = List.range' k (1000 - k) by rw [show 1000 - k = (1000 - (k + 1)) + 1 by omega, List.range'_succ]]
  rw [show List.range' k (1000 - k) = List.range' (0 + k) (1000 - k) by rw [Nat.zero_add], List.range'_append_1, show k + (1000 - k) = 1000 by omega]
 rw [e, List.filter_append, List.filter_cons_of_pos (by simp [h]), List.getElem?_append_right (Nat.le_refl _), Nat.sub_self]
 rfl
attribute [local irreducible] ids prs flatN heldV nameK elemK cntF
/-- A range over a tree that stays: how far it has come. -/
def Still (s : ArS) (x : Bt.TX) (i : ByteArray × Nat) (y : ArS × Bt.TX) : Prop := y = (s, x) ∧ rk x.L i.1 + i.2 = x.L.length
section
variable (pa off : Nat) (s : ArS) {l : Lay} (hl : l.err = 0)
theorem still_pos {s : ArS} {x : Bt.TX} {upt : ByteArray} {i : ByteArray × Nat} {y : ArS × Bt.TX} (h : Still s x i y) (hr : rowR upt y.2 i ≠ none) : 0 < i.2 := by
 obtain ⟨rfl, h2⟩ := h
 cases hv : rowR upt x i with
 | none => exact absurd hv hr
 | some z =>
  obtain ⟨p, hp, _⟩ := rowR_some hv
  have := (List.getElem?_eq_some_iff.1 (show x.L[rk x.L i.1]? = some p from hp)).1
  omega
include hl
theorem listed_ok {x : Bt.TX} {R : List (Int × Int)} (hs : s.ok) (H : TrOk l s off x R) (f : Nat → Nat) (hf : ∀ i, f i ≤ 256) (hx : x.L = prs f) :
  FnOk Try.prog 26 #[.agg #[.pointer (some ⟨pa, 0, none⟩), .int .i64 l.key, .int .i64 l.elem, .int .i64 l.ka, .int .i64 l.ea, .int .i64 l.cap, .int .i64 l.eo, .int .i64 l.bo, .int .i64 l.slot, .int .i64 l.group, .int .i64 ((off : Nat) : Int)]] [arenaH pa s] (fun v L => ∃ vl, v = .tuple #[vl, .bool true] ∧ L = [ownS 3 1 vl (2 * (ids f).length) (ints (flatN f (ids f))), arenaH pa s]) := by
 have hil := ids_len f
 have hxl : x.L.length = (ids f).length := by rw [hx, prs_ids, List.length_map]
 refine fn_intro en26 Try.func26 rfl rfl rfl fun Fr w0 => t_nm ?_
 refine sr<|o_boxA O O fun b1 => o_alloc1 O yZ28 O fun b2 => o_alloc1 O yZ4 O fun b3 => lz<|o_alloc1 O yZ28 O fun b4 => lz<|l_q O (qlda O yA27 yS27) ?_
 refine lcf O O O (Range_ok pa off ⟨#[]⟩ topK) ?_
 rintro v L' ⟨bt, bf, bo, rfl, rfl⟩
 refine l_nm ?_
 refine asg O O<|lc<|t_seq<|sr<|mv O O<|l_q O (q_bin O O (g_func ·) (b_eqlF0 · yU61))<|lc<|t_cond_f O<|t_skip<|n_code<|t_seq<|sr<|mv O O<|lc<|t_block ?_
 refine t_ent (L' := ownS 3 1 (.slice none 0 0) 0 [] :: pt b4 (.cells #[.slice none 0 0] 28 (0, 0)) :: pt b2 (.cells #[.slice none 0 0] 28 (0, 0)) :: pt b3 (.cells #[.bool false] 4 (0, 0)) :: pt bt (.cells #[.pointer (some ⟨pa, 0, none⟩), .int .i64 l.key, .int .i64 l.elem, .int .i64 l.ka, .int .i64 l.ea, .int .i64 l.cap, .int .i64 l.eo, .int .i64 l.bo, .int .i64 l.slot, .int .i64 l.group, .int .i64 ((off : Nat) : Int)] 27 (0, 0)) :: pt bf (.cells #[.string ⟨#[]⟩] 9 (0, 0)) :: pt bo (.cells #[.string topK] 9 (0, 0)) :: arenaH pa s :: Fr) (fun w h => own_nil (by revert w; exact (show Ent _ _ by (exact en)))) ?_
 apply t_rangeG (p := (fun i (_ : ArS × Bt.TX) (c : Nat × Value × List Value) => c.1 = 2 * rk x.L i.1 ∧ c.2.2 = ints (flatN f ((ids f).take (rk x.L i.1))))) (J := (fun i _ c => [pt b4 (.cells #[c.2.1] 28 (0, 0)), ownS 3 1 c.2.1 c.1 c.2.2])) (q := (fun _ : Code × Unit => False)) (Jx := (fun _ => [])) (s0 := (s, x)) (x0 := (0, .slice none 0 0, [])) (hc := (Range1_ok pa off hl bt bf bo ⟨#[]⟩ topK x.L.length (Still s x) (fun i y I => ⟨by rw [I.1]; exact hs, ⟨R, by rw [I.1]; exact H⟩, still_pos I⟩))) (hr := rfl) (hg := rfl)
 ·exact pk
 ·exact ⟨rfl, by dsimp only; rw [rk_empty, Nat.zero_add]⟩
 ·(dsimp only; rw [rk_empty]; exact ⟨rfl, by rw [List.take_zero]; unfold flatN; rfl⟩)
 ·(try dsimp only); (try simp only [List.cons_append, List.nil_append]); exact pk
 ·rfl
 ·(intro i y v i' _ h; obtain ⟨p, _, _, rfl, _⟩ := rowR_some h; rfl)
 ·rintro ll rc Fr2 w2 ⟨k, n⟩ y vv i' ⟨m, vl, xs⟩ hrd hpn hI hrow hc
  obtain ⟨rfl, hI2⟩ := hI
  obtain ⟨p, hp, hu, rfl, rfl⟩ := rowR_some hrow
  dsimp only at hI2 hp hc ⊢
  have hp' : x.L[rk x.L k]? = some p := hp
  obtain ⟨i, hi, hi9, hfi, hpe⟩ := ids_at (by rw [← hx]; exact hp')
  have hsz := H.sz p (List.mem_of_getElem? hp')
  unfold prI at hpe
  subst hpe
  dsimp only at hp' hsz ⊢
  have hz1 := name_size i
  have hz2 := elem_size (f i - 1)
  have hfi2 := hf i
  have hu1 := u8_nat (n := i / 250) (by omega)
  have hu2 := u8_nat (n := i % 250 + 3) (by omega)
  have hu3 := u8_nat (n := f i - 1) (by omega)
  have hrk := rk_succ H.sl hp'
  dsimp only at hrk
  have hm9 : rk x.L k < x.L.length := (List.getElem?_eq_some_iff.1 hp').1
  refine t_nm ?_
  refine t_shape (v := vl) tk fun _ hsh => ?_
  obtain ⟨av, cv, rfl, _, _, _⟩ := hsh
  refine t_nm ?_
  refine sr<|asg O O<|lr<|asg O O<|l_nil ?_
  apply n_begin
  ·exact tk
  ·assumption
  refine t_block<|t_seq<|sr<|mv O O<|l_q O (qls O yU9)<|l_q O (qi O O (b_neq ·))<|mv O O<|l_pt (t := 18) rfl (fun c1 => ?_) fun c1 => ?_
  ·omega
  ·refine l_on O O<|mv O O<|l_on O O<|l_q O (qls O yU9)<|l_on O O<|l_q O (qi O O (b_neq ·))<|l_q O (q_pk O O)<|mv O O<|l_pt (t := 23) rfl (fun c2 => ?_) fun c2 => ?_
   ·omega
   ·refine l_on O O<|mv O O<|l_on O O<|l_q O (q_indexSv (u := UInt8.ofNat (i % 250 + 3)) rfl rfl Try.underlying9 (by decide) (name_at1 i)) ?_
    refine l_on O O<|l_q O (qi O O (b_lss ·))<|l_q O (q_pk O O)<|mv O O<|l_pt (t := 28) rfl (fun c3 => ?_) fun c3 => ?_
    ·omega
    ·refine l_on O O<|l_q O (qld O yA28) ?_
     refine l_on O O<|l_q O (ql O yU28)<|l_on O O<|l_q O (qi O O (b_gtr ·))<|l_q O (q_pk O O)<|lc<|t_if O (fun c4 => ?_) fun c4 => ?_
     ·omega
     ·refine t_skip<|n_code<|t_draw mixed ?_
      apply dq 0 O
      ·exact yq (qld O yA28)
      apply dq 1 O
      ·exact yq (q_move O)
      apply dq 2 O
      ·exact yq (q_indexSv (u := UInt8.ofNat (i / 250)) rfl rfl Try.underlying9 (by decide) (name_at0 i))
      apply dq 3 O
      ·exact yq (qcv O yU5 yU3)
      apply dq 4 O
      ·exact yq (qmul O O)
      apply dq 5 O
      ·exact yq (q_move O)
      apply dq 6 O
      ·exact yq (q_indexSv (u := UInt8.ofNat (i % 250 + 3)) rfl rfl Try.underlying9 (by decide) (name_at1 i))
      apply dq 7 O
      ·exact yq (qcv O yU5 yU3)
      apply dq 8 O
      ·exact yq (qadd O O)
      apply dq 9 O
      ·exact yq (qsub O O)
      apply dq 10 O
      ·exact yq (q_move O)
      apply dq 11 O
      ·exact yq (q_indexSv (u := UInt8.ofNat (f i - 1)) rfl rfl Try.underlying9 (by decide) (elem_at0 (f i - 1)))
      apply dq 12 O
      ·exact yq (qcv O yU5 yU3)
      refine d_eff1 [9, 12, 8, 11, 4, 7, 10, 3, 6, 2, 5, 1] [0] 13 [(42, _), (45, _)] gO ⟨rfl, rfl, trivial⟩ (by kernel_rfl) (by kernel_rfl) fun Ex => ?_
      refine o_buildSlice1 [_, _] rfl rfl yU28 yS3 yZ3 rfl rfl rfl rfl (fun b46 => ?_)
      refine l_nil ?_
      apply n_d
      ·refine ⟨?_, trivial⟩
       ·apply ya O O; exact yq (qld O yA28)
      refine d_eff1 [0] [] 14 [(33, _), (46, _)] gO ⟨rfl, rfl, trivial⟩ (by kernel_rfl) (by kernel_rfl) fun Ex => ?_
      apply o_append (sz := 1) rfl rfl rfl Try.underlying28 yI3 O O
      ·exact tk
      ·exact tk
      ·rfl
      ·rfl
      ·simp only [maxLen]; omega
      ·omega
      intro v47
      refine l_shape (v := v47) tk fun _ hs47 => ?_
      obtain ⟨a47, cap47, rfl, hs47, _, _⟩ := hs47
      refine l_nil ?_
      apply n_d
      ·exact trivial
      refine d_eff1 [] [] 15 [(4, _), (47, _)] gO ⟨rfl, rfl, trivial⟩ (by kernel_rfl) (by kernel_rfl) fun Ex => ?_
      refine st O O O yS28 O ?_
      refine l_nil ?_
      apply n_d
      ·exact trivial
      refine d_end (by kernel_rfl) ?_
      refine n_blk ?_
      rw [show 250 * (((UInt8.ofNat (i / 250)).toNat : Nat) : Int) + (((UInt8.ofNat (i % 250 + 3)).toNat : Nat) : Int) - 3 = ((i : Nat) : Int) by rw [hu1, hu2]; omega, hu3]
      apply r_next (by assumption) (by assumption) (((s, x), (m + 2, .slice a47 (m + 2) cap47, xs ++ (#[Value.int .i64 ((i : Nat) : Int), Value.int .i64 ((f i - 1 : Nat) : Int)] : Array Value).toList))) (⟨⟨rfl, by dsimp only; omega⟩, by dsimp only; omega, by dsimp only; rw [hc.2, hrk]; exact flat_next hi⟩)
      exact en
 ·rintro b ⟨k, n⟩ y ⟨m, vl, xs⟩ hI hrow hc
  obtain ⟨rfl, hI2⟩ := hI
  dsimp only at hI2 hrow hc ⊢
  have he := still_end hx hrow
  dsimp only at he
  obtain ⟨rfl, rfl⟩ := hc
  rw [he, hxl, List.take_length]
  refine n_nm ?_
  refine n_shape (v := vl) tk fun _ hsh => ?_
  obtain ⟨av, cv, rfl, _, _, _⟩ := hsh
  refine n_nm ?_
  refine n_blk<|nz<|l_q O (qld O yA28) ?_
  refine st O O O yS28 O ?_
  refine st O O O yS4 O ?_
  refine lc<|rt ?_
  apply f_retm (.inl rfl) [b] ([ownS 3 1 (.slice av (2 * (ids f).length) cv) (2 * (ids f).length) (ints (flatN f (ids f))), arenaH pa s])
  ·repeat (first | with_reducible exact TakeM.nil | apply TakeM.cons | with_reducible exact Take.here | apply Take.there)
  ·apply res2 O
   ·apply Rv.cellL rfl
    ·exact tk
    ·exact ga
    ·exact yA28
   ·apply Rv.cellL rfl
    ·exact tk
    ·exact ga
    ·exact yA4
  ·exact ⟨_, rfl, rfl⟩
  ·exact en
 ·rintro b ⟨_, _⟩ w
  cases w
theorem holds_ok {x : Bt.TX} {R : List (Int × Int)} (hs : s.ok) (H : TrOk l s off x R) (f : Nat → Nat) (hf : ∀ i, f i ≤ 256) (hx : x.L = prs f) (gh : Nat) :
  FnOk Try.prog 9 #[.agg #[.pointer (some ⟨pa, 0, none⟩), .int .i64 l.key, .int .i64 l.elem, .int .i64 l.ka, .int .i64 l.ea, .int .i64 l.cap, .int .i64 l.eo, .int .i64 l.bo, .int .i64 l.slot, .int .i64 l.group, .int .i64 ((off : Nat) : Int)], .slice (some ⟨gh, 0, none⟩) 1000 1000] [ownS 3 1 (.slice (some ⟨gh, 0, none⟩) 1000 1000) 1000 (heldV (f)), arenaH pa s] (fun v L => v = .bool true ∧ L = [ownS 3 1 (.slice (some ⟨gh, 0, none⟩) 1000 1000) 1000 (heldV (f)), arenaH pa s]) := by
 have hil := ids_len f
 have hlen : (ints (flatN f (ids f))).length = 2 * (ids f).length := by unfold ints; rw [List.length_map, flat_len]
 refine fn_intro en9 Try.func9 rfl rfl rfl fun Fr w0 => t_nm ?_
 refine sr<|o_boxA O O fun b2 => asg O O<|lz<|l_q O (qlda O yA27 yS27) ?_
 refine lcf O O O (listed_ok pa off s hl hs H f hf hx) ?_
 rintro v L' ⟨vl, rfl, rfl⟩
 refine l_nm ?_
 refine l_shape (v := vl) tk fun _ hsh => ?_
 obtain ⟨al, cl, rfl, hal, hcl, _⟩ := hsh
 refine mv O O<|l_q O (q_extractL O ga) ?_
 refine l_q O (q_extractL O ga) ?_
 refine asg O O<|asg O O<|lc<|t_seq<|sr<|mv O O<|l_q O (q_un O (u_not ·))<|lc<|t_if O (fun z0 => ?_) fun z0 => ?_
 ·exact absurd z0 (by decide)
 ·refine t_skip<|nz<|asg O O<|lc<|t_seq<|sr<|mv O O<|l_q O (ql O yU28)<|mv O O<|lc<|t_block ?_
  refine t_loop (fun k : Nat => k ≤ 1000) (fun k => [(1, .slice (some ⟨gh, 0, none⟩) 1000 1000), (5, .slice al (2 * (ids f).length) cl), (7, .int .i64 ((2 * cntF f k : Nat) : Int)), (17, .slice (some ⟨gh, 0, none⟩) 1000 1000), (18, .int .i64 1000), (19, .int .i64 ((k : Nat) : Int))]) (fun k => ownS 3 1 (.slice al (2 * (ids f).length) cl) (2 * (ids f).length) (ints (flatN f (ids f))) :: ownS 3 1 (.slice (some ⟨gh, 0, none⟩) 1000 1000) 1000 (heldV (f)) :: arenaH pa s :: Fr) (fun k => 1000 - k) 0 (Nat.zero_le _) ⟨rfl, rfl, by rw [cntF_zero]; rfl, rfl, rfl, rfl, trivial⟩ (by (exact en)) ?_
  intro k hk
  (try dsimp only at hk ⊢)
  refine sr<|l_q O (qi O O (b_lss ·))<|lc<|t_seq<|t_if O (fun c1 => ?_) fun c1 => ?_
  ·have hk9 : k < 1000 := by omega
   refine t_skip<|n_code<|t_seq<|t_block<|sr<|mv O O<|l_q O (q_indexAddr1 O O yU28 yS3 (by omega)) ?_
   apply l_q O
   ·apply q_loadOwn (v := .int .i64 ((f k : Nat) : Int)) rfl yA3
    ·exact tk
    ·rw [Nat.zero_add, Int.toNat_natCast]; exact held_get hk9
   refine asg O O<|asg O O<|lc<|t_seq<|sr<|mv O O<|l_q O (qi O O (b_eql ·))<|lc<|t_if O (fun z1 => ?_) fun z1 => ?_
   ·have hc : cntF f (k + 1) = cntF f k := by rw [cntF_succ, if_pos (by omega)]; rfl
    refine xt O<|n_code<|t_region<|l_q O (qadd O O) ?_
    refine mv O O<|l_nil ?_
    apply n_again (k + 1)
    ·exact (show k + 1 ≤ 1000 by omega)
    ·(try dsimp only); omega
    ·exact ⟨rfl, rfl, by rw [hc]; rfl, rfl, rfl, rfl, trivial⟩
    ·exact en
   ·have hfk : f k ≠ 0 := by omega
    have hc : cntF f (k + 1) = cntF f k + 1 := by rw [cntF_succ, if_neg hfk]
    have hfb := hf k
    obtain ⟨g1, g2⟩ := flat_at f _ _ _ (ids_cnt hk9 hfk)
    have hlt := (List.getElem?_eq_some_iff.1 g2).1
    rw [flat_len] at hlt
    have hv1 : (ints (flatN f (ids f)))[2 * cntF f k]? = some (.int .i64 ((k : Nat) : Int)) := by unfold ints; rw [List.getElem?_map, g1]; rfl
    have hv2 : (ints (flatN f (ids f)))[2 * cntF f k + 1]? = some (.int .i64 ((f k - 1 : Nat) : Int)) := by unfold ints; rw [List.getElem?_map, g2]; rfl
    obtain ⟨ga, rfl⟩ := hal (by omega)
    refine t_skip<|n_code<|t_seq<|sr<|mv O O<|l_q O (qadd O O) ?_
    refine mv O O<|l_q O (ql O yU28)<|l_q O (qi O O (b_geq ·))<|mv O O<|l_pt (t := 31) rfl (fun c2 => ?_) fun c2 => ?_
    ·omega
    ·refine l_on O O<|mv O O<|l_on O O<|mv O O<|l_on O O<|l_q O (q_indexAddr1 O O yU28 yS3 (by omega)) ?_
     refine l_on O O ?_
     apply l_q O
     ·apply q_loadOwn (v := .int .i64 ((k : Nat) : Int)) rfl yA3
      ·exact tk
      ·rw [Nat.zero_add, Int.toNat_natCast]; exact hv1
     refine l_on O O<|mv O O<|l_on O O<|l_q O (qi O O (b_neq ·))<|l_q O (q_pk O O)<|mv O O<|l_pt (t := 39) rfl (fun c3 => ?_) fun c3 => ?_
     ·exact absurd rfl c3
     ·refine l_on O O<|mv O O<|l_on O O<|mv O O<|l_on O O<|l_q O (qadd O O) ?_
      refine l_on O O<|l_q O (q_indexAddr1 O O yU28 yS3 (by omega)) ?_
      refine l_on O O ?_
      apply l_q O
      ·apply q_loadOwn (v := .int .i64 ((f k - 1 : Nat) : Int)) rfl yA3
       ·exact tk
       ·rw [Nat.zero_add, show (((2 * cntF f k : Nat) : Int) + 1).toNat = 2 * cntF f k + 1 by omega]; exact hv2
      refine l_on O O<|mv O O<|l_on O O<|l_q O (qsub O O) ?_
      refine l_on O O<|l_q O (qi O O (b_neq ·))<|l_q O (q_pk O O)<|lc<|t_if O (fun c4 => ?_) fun c4 => ?_
      ·omega
      ·refine t_skip<|n_code<|t_region<|mv O O<|l_q O (qadd O O) ?_
       refine asg O O<|l_nil<|n_blk<|n_code<|t_region<|l_q O (qadd O O) ?_
       refine mv O O<|l_nil ?_
       rw [show ((2 * cntF f k : Nat) : Int) + 2 = ((2 * cntF f (k + 1) : Nat) : Int) by rw [hc]; omega]
       apply n_again (k + 1)
       ·exact (show k + 1 ≤ 1000 by omega)
       ·(try dsimp only); omega
       ·exact ⟨O, O, O, O, O, O, trivial⟩
       ·exact en
  ·obtain rfl : k = 1000 := by omega
   refine xt O<|nz<|mv O O<|mv O O<|l_q O (ql O yU28)<|l_q O (qi O O (b_eql ·))<|asg O O<|lc<|rt<|fr1 O ([ownS 3 1 (.slice (some ⟨gh, 0, none⟩) 1000 1000) 1000 (heldV (f)), arenaH pa s]) (.tmp rfl) ?_
   exact ⟨by rw [cntF_all]; simp, rfl⟩
end
end Go.Proofs.Ytjekhcojebgpnaa.Ord
