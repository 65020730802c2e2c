/- Contracts of larderlaw26: grow. -/
import Derived.Test.YtjekhcojebgpnaaOrB
set_option linter.unusedVariables false
set_option linter.unusedSimpArgs false
set_option maxRecDepth 100000
namespace Go.Proofs.Ytjekhcojebgpnaa.Ord
open Go.RowKit Go.Proofs Go.Proofs.Ytjekhcojebgpnaa.Eng Go.Proofs.Ytjekhcojebgpnaa.Ty Go.Proofs.Ytjekhcojebgpnaa.Bits Go.Proofs.Ytjekhcojebgpnaa.Mem Go.Proofs.Ytjekhcojebgpnaa.Search Go.Proofs.Ytjekhcojebgpnaa.Layout Go.Proofs.Ytjekhcojebgpnaa.Arena Go.Proofs.Ytjekhcojebgpnaa.GroupB Go.Proofs.Ytjekhcojebgpnaa.Bt
def heldV (f : Nat → Nat) : List Value := (List.range 1000).map fun i => .int .i64 ((f i : Nat) : Int)
theorem held_len (f : Nat → Nat) : (heldV f).length = 1000 := by simp [heldV]
theorem held_get {f : Nat → Nat} {k : Nat} (hk : k < 1000) : (heldV f)[k]? = some (.int .i64 ((f k : Nat) : Int)) := by simp [heldV, hk]
theorem held_set {f : Nat → Nat} {k v : Nat} (hk : k < 1000) : (heldV f).set k (.int .i64 ((v : Nat) : Int)) = heldV (upd f k v) := by
 apply List.ext_getElem?
 intro j
 rw [List.getElem?_set, held_len]
 split
 ·next q => subst q; (try rw [if_pos hk]); rw [held_get hk]; simp [upd]
 ·next q =>
  rcases Nat.lt_or_ge j 1000 with w | w
  ·rw [held_get w, held_get w]
   unfold upd
   rw [if_neg fun e => q e.symm]
  ·rw [List.getElem?_eq_none (by rw [held_len]; exact w), List.getElem?_eq_none (by rw [held_len]; exact w)]
def keyN (K : Int) : Nat := (K % 1000).toNat
def cutN (K E : Int) : Nat := (E % ((1000 - keyN K + 1 : Nat) : Int)).toNat
def stepF (f : Nat → Nat) (kd K E : Int) : Nat → Nat :=
 if kd = 0 then upd f (keyN K) (1 + (E % 256).toNat) else if kd = 1 then upd f (keyN K) 0 else if kd = 2 then zf f (keyN K) (cutN K E) else f
section
variable (pa off : Nat) (s : ArS) {l : Lay} (hl : l.err = 0) (hkN : kN l = 2) (heN : eN l = 1)
include hl hkN heN
theorem grow_ok {x : Bt.TX} {R : List (Int × Int)} (hs : s.ok) (H : TrOk l s off x R) (gh : Nat) (f : Nat → Nat) (hf : ∀ i, f i ≤ 256) (hx : x.L = prs f) (kd K E : Int) (tight : Bool) :
  FnOk Try.prog 13 #[.agg #[.pointer (some ⟨pa, 0, none⟩), .int .i64 l.key, .int .i64 l.elem, .int .i64 l.ka, .int .i64 l.ea, .int .i64 l.cap, .int .i64 l.eo, .int .i64 l.bo, .int .i64 l.slot, .int .i64 l.group, .int .i64 ((off : Nat) : Int)], .agg #[.int .i64 kd, .int .i64 K, .int .i64 E], .slice (some ⟨gh, 0, none⟩) 1000 1000, .bool tight] [ownS 3 1 (.slice (some ⟨gh, 0, none⟩) 1000 1000) 1000 (heldV (f)), arenaH pa s] (fun v L => ∃ s' x' f', L = [ownS 3 1 (.slice (some ⟨gh, 0, none⟩) 1000 1000) 1000 (heldV (f')), arenaH pa s'] ∧ s'.ok ∧ TrOk l s' off x' R ∧ Keep R s s' ∧ s'.limit = s.limit ∧ (∀ i, f' i ≤ 256) ∧ x'.L = prs f' ∧ ((v = .bool true ∧ f' = stepF f kd K E) ∨ (v = .bool tight ∧ kd = 0 ∧ f' = f ∧ s' = s ∧ x' = x ∧ s.limit - s.live < (needX x (nameK (keyN K)) : Int) * nC l))) := by
 have h0 : 0 ≤ K % 1000 := Int.emod_nonneg _ (by decide)
 have h1 : K % 1000 < 1000 := Int.emod_lt_of_pos _ (by decide)
 obtain ⟨k, hke⟩ : ∃ k, k = keyN K := ⟨_, rfl⟩
 have hk : k < 1000 := by unfold keyN at hke; omega
 have hkK : K % ((1000 : Nat) : Int) = ((k : Nat) : Int) := by unfold keyN at hke; omega
 have hfk := hf k
 have he0 := Int.emod_nonneg E (show (256 : Int) ≠ 0 by decide)
 have he1 := Int.emod_lt_of_pos E (show (0 : Int) < 256 by decide)
 have hhas : (∃ p ∈ x.L, p.1 = nameK k) ↔ f k ≠ 0 := by rw [hx]; exact prs_has hk
 have hwrap : IntKind.i64.wrap (1 + IntKind.i64.wrap (IntKind.u8.wrap E)) = ((1 + (E % 256).toNat : Nat) : Int) := by
  rw [show IntKind.u8.wrap E = E % 256 from IntKind.wrap_u8 E, wrap_i64 (n := E % 256) (by omega), wrap_i64 (by omega)]; omega
 have hbU : ∀ v, v ≤ 256 → ∀ i, upd f k v i ≤ 256 := fun v hv i => by unfold upd; split; exact hv; exact hf i
 obtain ⟨n, hne⟩ : ∃ n, n = cutN K E := ⟨_, rfl⟩
 have hn0 : 0 ≤ E % ((1000 - k + 1 : Nat) : Int) := Int.emod_nonneg _ (by omega)
 have hn1 : E % ((1000 - k + 1 : Nat) : Int) < ((1000 - k + 1 : Nat) : Int) := Int.emod_lt_of_pos _ (by omega)
 have hnE : E % ((1000 - k + 1 : Nat) : Int) = ((n : Nat) : Int) := by unfold cutN at hne; rw [← hke] at hne; omega
 have hn : k + n ≤ 1000 := by omega
 have hpl : (prs f).length ≤ 1000 := by unfold prs; exact Nat.le_trans (List.length_filterMap_le _ _) (by simp)
 have hbZ : ∀ i, zf f k n i ≤ 256 := fun i => by unfold zf; split; exact Nat.zero_le _; exact hf i
 refine fn_intro en13 Try.func13 rfl rfl rfl fun Fr w0 => t_nm ?_
 refine sr<|o_boxA O O fun b4 => o_boxA O O fun b5 => asg O O<|lz<|l_q O (qfa 1 O yU41 O O yS3)<|l_q O (qld O yA3) ?_
 refine lc1 O O O (within_ok K 1000 (by decide) (by decide)) ?_
 rw [hkK]
 refine asg O O<|lc<|t_seq<|sr<|l_q O (qfa 0 O yU41 O O yS3)<|l_q O (qld O yA3) ?_
 refine lc<|t_block<|sr<|l_q O (qi O O (b_eql ·))<|asg O O<|lc<|t_if O (fun z0 => ?_) fun z0 => ?_
 ·skip
  have hst : stepF f kd K E = upd f k (1 + (E % 256).toNat) := by unfold stepF; rw [if_pos z0, hke]
  refine t_seq<|t_draw mixed ?_
  apply dq 0 O
  ·exact yq (qlda O yA27 yS27)
  apply dq 1 O
  ·exact yq (q_move O)
  apply dq 3 O
  ·exact yq (qfa 2 O yU41 O O yS3)
  apply dq 4 O
  ·exact yq (qld O yA3)
  refine d_eff1 [1] [4, 3, 0] 2 [(31, _)] gO ⟨rfl, trivial⟩ (by kernel_rfl) (by kernel_rfl) fun Ex => ?_
  refine lc1 O O O (name_ok k hk) ?_
  refine l_nil ?_
  apply n_d
  ·refine ⟨?_, ?_, ?_, trivial⟩
   ·apply ya O O; exact yq (qld O yA3)
   ·apply ya O O; exact yq (qfa 2 O yU41 O O yS3)
   ·apply ya O O; exact yq (qlda O yA27 yS27)
  refine d_eff1 [4, 3] [0] 5 [(34, _)] gO ⟨rfl, trivial⟩ (by kernel_rfl) (by kernel_rfl) fun Ex => ?_
  refine lc1 O O O (elem_ok E) ?_
  refine l_nil ?_
  apply n_d
  ·refine ⟨?_, trivial⟩
   ·apply ya O O; exact yq (qlda O yA27 yS27)
  refine d_eff1 [0] [] 6 [(30, _), (32, _), (35, _)] gO ⟨rfl, rfl, rfl, trivial⟩ (by kernel_rfl) (by kernel_rfl) fun Ex => ?_
  refine lcf O O O (okA (pa := pa) (Put_yes pa off s hl hs H (nameK k) (elemK (E % 256).toNat) (by rw [hkN]; rfl) (by rw [heN]; rfl))) ?_
  rintro v L' ⟨⟨s', x', rfl, t1, t2, t3, hout⟩, hA⟩
  refine l_nm ?_
  have hA1 := hA _ (.head _)
  rcases hout with ⟨rfl, hp, hL, _⟩ | ⟨rfl, rfl, rfl, hno, hmem⟩ | ⟨rfl, hno, hL, _⟩
  ·skip
   have hfn := hhas.1 hp
   refine l_nm ?_
   refine l_nil ?_
   apply n_d
   ·exact trivial
   apply dq 7 O
   ·exact yq (q_move O)
   apply dq 8 O
   ·exact yq (q_extractL O ga)
   apply dq 9 O
   ·exact yq (q_extractL O ga)
   refine d_eff1 [8, 7] [9] 10 [(37, _)] gO ⟨rfl, trivial⟩ (by kernel_rfl) (by kernel_rfl) fun Ex => ?_
   refine asg O O<|l_nil ?_
   apply n_d
   ·refine ⟨?_, trivial⟩
    ·apply ya O O; exact yq (q_extractL O ga)
   refine d_eff1 [9] [] 11 [(38, _)] gO ⟨rfl, trivial⟩ (by kernel_rfl) (by kernel_rfl) fun Ex => ?_
   refine asg O O<|l_nil ?_
   apply n_d
   ·exact trivial
   refine d_end (by kernel_rfl) ?_
   refine n_code<|t_seq<|sr<|mv O O<|l_q O (qi O O (b_eql ·))<|lc<|t_if O (fun z1 => ?_) fun z1 => ?_
   ·exact absurd z1 (by decide)
   ·refine t_skip<|nz<|mv O O<|mv O O<|l_q O (q_indexAddr1 O O yU28 yS3 (by omega)) ?_
    apply l_q O
    ·apply q_loadOwn O yA3
     ·exact tk
     ·rw [Nat.zero_add, Int.toNat_natCast]; exact held_get hk
    refine l_q O (qi O O (b_eql ·))<|asg O O<|lz<|mv O O<|mv O O<|l_q O (qfa 2 O yU41 O O yS3)<|l_q O (qld O yA3) ?_
    refine l_q O (qcv O yU3 yU5) ?_
    refine l_q O (qcv O yU5 yU3) ?_
    refine l_q O (qadd O O) ?_
    refine l_q O (q_indexAddr1 O O yU28 yS3 (by omega)) ?_
    apply o_storeOwn (xs' := heldV (upd f k (1 + (E % 256).toNat))) rfl rfl rfl yS3 rfl
    ·exact tk
    ·rw [Int.toNat_natCast]; omega
    ·rw [hwrap, Int.toNat_natCast, Nat.zero_add]; exact held_set hk
    refine lz<|mv O O<|l_q O (qi O O (b_eql ·))<|mv O O<|l_pt (t := 64) rfl (fun c => ?_) fun c => ?_
    ·refine l_on O O<|mv O O<|l_on O O<|mv O O<|l_on O O<|l_q O (qb O O (b_eqlB · yU4))<|l_q O (q_pk O O)<|asg O O<|lc<|rt<|fr1 O ([ownS 3 1 (.slice (some ⟨gh, 0, none⟩) 1000 1000) 1000 (heldV (upd f k (1 + (E % 256).toNat))), arenaH pa s']) (.tmp rfl) ?_
     exact ⟨s', x', _, rfl, hA1, t1, t2, t3, hbU _ (by omega), by rw [hL, hx]; exact (prs_put hk).symm, .inl ⟨by simp [hfn], hst.symm⟩⟩
    ·exact absurd rfl c
  ·skip
   have hfn : f k = 0 := Decidable.byContradiction fun w => by obtain ⟨p, hp, e⟩ := hhas.2 w; exact hno p hp e
   refine l_nm ?_
   refine l_nil ?_
   apply n_d
   ·exact trivial
   apply dq 7 O
   ·exact yq (q_move O)
   apply dq 8 O
   ·exact yq (q_extractL O ga)
   apply dq 9 O
   ·exact yq (q_extractL O ga)
   refine d_eff1 [8, 7] [9] 10 [(37, _)] gO ⟨rfl, trivial⟩ (by kernel_rfl) (by kernel_rfl) fun Ex => ?_
   refine asg O O<|l_nil ?_
   apply n_d
   ·refine ⟨?_, trivial⟩
    ·apply ya O O; exact yq (q_extractL O ga)
   refine d_eff1 [9] [] 11 [(38, _)] gO ⟨rfl, trivial⟩ (by kernel_rfl) (by kernel_rfl) fun Ex => ?_
   refine asg O O<|l_nil ?_
   apply n_d
   ·exact trivial
   refine d_end (by kernel_rfl) ?_
   refine n_code<|t_seq<|sr<|mv O O<|l_q O (qi O O (b_eql ·))<|lc<|t_if O (fun z1 => ?_) fun z1 => ?_
   ·refine sr<|mv O O<|mv O O<|l_pt (t := 42) rfl (fun c => ?_) fun c => ?_
    ·refine l_on O O<|mv O O<|l_on O O<|mv O O<|l_on O O<|l_q O (q_indexAddr1 O O yU28 yS3 (by omega)) ?_
     refine l_on O O ?_
     apply l_q O
     ·apply q_loadOwn O yA3
      ·exact tk
      ·rw [Nat.zero_add, Int.toNat_natCast]; exact held_get hk
     refine l_on O O<|l_q O (qi O O (b_eql ·))<|l_q O (q_pk O O)<|asg O O<|lc<|rt<|fr1 O ([ownS 3 1 (.slice (some ⟨gh, 0, none⟩) 1000 1000) 1000 (heldV (f)), arenaH pa s']) (.tmp rfl) ?_
     exact ⟨s', x', f, rfl, hA1, t1, t2, t3, hf, hx, .inr ⟨by rw [c]; simp [hfn], z0, rfl, rfl, rfl, by rw [← hke]; exact hmem⟩⟩
    ·refine l_off O O O O<|l_off O O O O<|l_off O O O O<|l_off O O O O<|l_off O O O O<|l_q O (q_pk O O)<|asg O O<|lc<|rt<|fr1 O ([ownS 3 1 (.slice (some ⟨gh, 0, none⟩) 1000 1000) 1000 (heldV (f)), arenaH pa s']) (.tmp rfl) ?_
     exact ⟨s', x', f, rfl, hA1, t1, t2, t3, hf, hx, .inr ⟨by rw [c], z0, rfl, rfl, rfl, by rw [← hke]; exact hmem⟩⟩
   ·exact absurd rfl z1
  ·skip
   have hfn : f k = 0 := Decidable.byContradiction fun w => by obtain ⟨p, hp, e⟩ := hhas.2 w; exact hno p hp e
   refine l_nm ?_
   refine l_nil ?_
   apply n_d
   ·exact trivial
   apply dq 7 O
   ·exact yq (q_move O)
   apply dq 8 O
   ·exact yq (q_extractL O ga)
   apply dq 9 O
   ·exact yq (q_extractL O ga)
   refine d_eff1 [8, 7] [9] 10 [(37, _)] gO ⟨rfl, trivial⟩ (by kernel_rfl) (by kernel_rfl) fun Ex => ?_
   refine asg O O<|l_nil ?_
   apply n_d
   ·refine ⟨?_, trivial⟩
    ·apply ya O O; exact yq (q_extractL O ga)
   refine d_eff1 [9] [] 11 [(38, _)] gO ⟨rfl, trivial⟩ (by kernel_rfl) (by kernel_rfl) fun Ex => ?_
   refine asg O O<|l_nil ?_
   apply n_d
   ·exact trivial
   refine d_end (by kernel_rfl) ?_
   refine n_code<|t_seq<|sr<|mv O O<|l_q O (qi O O (b_eql ·))<|lc<|t_if O (fun z1 => ?_) fun z1 => ?_
   ·exact absurd z1 (by decide)
   ·refine t_skip<|nz<|mv O O<|mv O O<|l_q O (q_indexAddr1 O O yU28 yS3 (by omega)) ?_
    apply l_q O
    ·apply q_loadOwn O yA3
     ·exact tk
     ·rw [Nat.zero_add, Int.toNat_natCast]; exact held_get hk
    refine l_q O (qi O O (b_eql ·))<|asg O O<|lz<|mv O O<|mv O O<|l_q O (qfa 2 O yU41 O O yS3)<|l_q O (qld O yA3) ?_
    refine l_q O (qcv O yU3 yU5) ?_
    refine l_q O (qcv O yU5 yU3) ?_
    refine l_q O (qadd O O) ?_
    refine l_q O (q_indexAddr1 O O yU28 yS3 (by omega)) ?_
    apply o_storeOwn (xs' := heldV (upd f k (1 + (E % 256).toNat))) rfl rfl rfl yS3 rfl
    ·exact tk
    ·rw [Int.toNat_natCast]; omega
    ·rw [hwrap, Int.toNat_natCast, Nat.zero_add]; exact held_set hk
    refine lz<|mv O O<|l_q O (qi O O (b_eql ·))<|mv O O<|l_pt (t := 64) rfl (fun c => ?_) fun c => ?_
    ·refine l_on O O<|mv O O<|l_on O O<|mv O O<|l_on O O<|l_q O (qb O O (b_eqlB · yU4))<|l_q O (q_pk O O)<|asg O O<|lc<|rt<|fr1 O ([ownS 3 1 (.slice (some ⟨gh, 0, none⟩) 1000 1000) 1000 (heldV (upd f k (1 + (E % 256).toNat))), arenaH pa s']) (.tmp rfl) ?_
     exact ⟨s', x', _, rfl, hA1, t1, t2, t3, hbU _ (by omega), by rw [hL, hx]; exact (prs_put hk).symm, .inl ⟨by simp [hfn], hst.symm⟩⟩
    ·exact absurd rfl c
 ·refine sr<|l_q O (qi O O (b_eql ·))<|asg O O<|lc<|t_if O (fun z3 => ?_) fun z3 => ?_
  ·skip
   have hst : stepF f kd K E = upd f k 0 := by unfold stepF; rw [if_neg z0, if_pos z3, hke]
   refine t_seq<|t_draw mixed ?_
   apply dq 0 O
   ·exact yq (qlda O yA27 yS27)
   apply dq 1 O
   ·exact yq (q_move O)
   refine d_eff1 [1] [0] 2 [(73, _)] gO ⟨rfl, trivial⟩ (by kernel_rfl) (by kernel_rfl) fun Ex => ?_
   refine lc1 O O O (name_ok k hk) ?_
   refine l_nil ?_
   apply n_d
   ·refine ⟨?_, trivial⟩
    ·apply ya O O; exact yq (qlda O yA27 yS27)
   refine d_eff1 [0] [] 3 [(72, _), (74, _)] gO ⟨rfl, rfl, trivial⟩ (by kernel_rfl) (by kernel_rfl) fun Ex => ?_
   refine lcf O O O (okA (pa := pa) (Del_yes pa off s hl hs H (nameK k) (by rw [hkN]; rfl))) ?_
   rintro v L' ⟨⟨s', x', rfl, t1, t2, t3, hL, hout⟩, hA⟩
   refine l_nm ?_
   have hA1 := hA _ (.head _)
   have hL2 : x'.L = prs (upd f k 0) := by rw [hL, hx]; exact (prs_del hk).symm
   rcases hout with ⟨rfl, hno, _, _⟩ | ⟨rfl, hp⟩
   ·skip
    have hfn : f k = 0 := Decidable.byContradiction fun w => by obtain ⟨p, hp, e⟩ := hhas.2 w; exact hno p hp e
    refine l_nm ?_
    refine l_nil ?_
    apply n_d
    ·exact trivial
    apply dq 4 O
    ·exact yq (q_move O)
    apply dq 5 O
    ·exact yq (q_extractL O ga)
    apply dq 6 O
    ·exact yq (q_extractL O ga)
    refine d_eff1 [5, 4] [6] 7 [(76, _)] gO ⟨rfl, trivial⟩ (by kernel_rfl) (by kernel_rfl) fun Ex => ?_
    refine asg O O<|l_nil ?_
    apply n_d
    ·refine ⟨?_, trivial⟩
     ·apply ya O O; exact yq (q_extractL O ga)
    refine d_eff1 [6] [] 8 [(77, _)] gO ⟨rfl, trivial⟩ (by kernel_rfl) (by kernel_rfl) fun Ex => ?_
    refine asg O O<|l_nil ?_
    apply n_d
    ·exact trivial
    refine d_end (by kernel_rfl) ?_
    refine nz<|mv O O<|mv O O<|l_q O (q_indexAddr1 O O yU28 yS3 (by omega)) ?_
    apply l_q O
    ·apply q_loadOwn O yA3
     ·exact tk
     ·rw [Nat.zero_add, Int.toNat_natCast]; exact held_get hk
    refine l_q O (qi O O (b_neq ·))<|asg O O<|lz<|mv O O<|mv O O<|l_q O (q_indexAddr1 O O yU28 yS3 (by omega)) ?_
    apply o_storeOwn (xs' := heldV (upd f k 0)) rfl rfl rfl yS3 rfl
    ·exact tk
    ·rw [Int.toNat_natCast]; omega
    ·rw [Int.toNat_natCast, Nat.zero_add]; exact held_set (v := 0) hk
    refine lz<|mv O O<|l_q O (qi O O (b_eql ·))<|mv O O<|l_pt (t := 88) rfl (fun c => ?_) fun c => ?_
    ·refine l_on O O<|mv O O<|l_on O O<|mv O O<|l_on O O<|l_q O (qb O O (b_eqlB · yU4))<|l_q O (q_pk O O)<|asg O O<|lc<|rt<|fr1 O ([ownS 3 1 (.slice (some ⟨gh, 0, none⟩) 1000 1000) 1000 (heldV (upd f k 0)), arenaH pa s']) (.tmp rfl) ?_
     exact ⟨s', x', _, rfl, hA1, t1, t2, t3, hbU _ (by omega), hL2, .inl ⟨by simp [hfn], hst.symm⟩⟩
    ·exact absurd rfl c
   ·skip
    have hfn := hhas.1 hp
    refine l_nm ?_
    refine l_nil ?_
    apply n_d
    ·exact trivial
    apply dq 4 O
    ·exact yq (q_move O)
    apply dq 5 O
    ·exact yq (q_extractL O ga)
    apply dq 6 O
    ·exact yq (q_extractL O ga)
    refine d_eff1 [5, 4] [6] 7 [(76, _)] gO ⟨rfl, trivial⟩ (by kernel_rfl) (by kernel_rfl) fun Ex => ?_
    refine asg O O<|l_nil ?_
    apply n_d
    ·refine ⟨?_, trivial⟩
     ·apply ya O O; exact yq (q_extractL O ga)
    refine d_eff1 [6] [] 8 [(77, _)] gO ⟨rfl, trivial⟩ (by kernel_rfl) (by kernel_rfl) fun Ex => ?_
    refine asg O O<|l_nil ?_
    apply n_d
    ·exact trivial
    refine d_end (by kernel_rfl) ?_
    refine nz<|mv O O<|mv O O<|l_q O (q_indexAddr1 O O yU28 yS3 (by omega)) ?_
    apply l_q O
    ·apply q_loadOwn O yA3
     ·exact tk
     ·rw [Nat.zero_add, Int.toNat_natCast]; exact held_get hk
    refine l_q O (qi O O (b_neq ·))<|asg O O<|lz<|mv O O<|mv O O<|l_q O (q_indexAddr1 O O yU28 yS3 (by omega)) ?_
    apply o_storeOwn (xs' := heldV (upd f k 0)) rfl rfl rfl yS3 rfl
    ·exact tk
    ·rw [Int.toNat_natCast]; omega
    ·rw [Int.toNat_natCast, Nat.zero_add]; exact held_set (v := 0) hk
    refine lz<|mv O O<|l_q O (qi O O (b_eql ·))<|mv O O<|l_pt (t := 88) rfl (fun c => ?_) fun c => ?_
    ·refine l_on O O<|mv O O<|l_on O O<|mv O O<|l_on O O<|l_q O (qb O O (b_eqlB · yU4))<|l_q O (q_pk O O)<|asg O O<|lc<|rt<|fr1 O ([ownS 3 1 (.slice (some ⟨gh, 0, none⟩) 1000 1000) 1000 (heldV (upd f k 0)), arenaH pa s']) (.tmp rfl) ?_
     exact ⟨s', x', _, rfl, hA1, t1, t2, t3, hbU _ (by omega), hL2, .inl ⟨by simp [hfn], hst.symm⟩⟩
    ·exact absurd rfl c
  ·refine sr<|l_q O (qi O O (b_eql ·))<|asg O O<|lc<|t_if O (fun z4 => ?_) fun z4 => ?_
   ·skip
    have hst : stepF f kd K E = zf f k n := by unfold stepF; rw [if_neg z0, if_neg z3, if_pos z4, hke, hne]
    refine sr<|l_q O (qfa 2 O yU41 O O yS3)<|l_q O (qld O yA3) ?_
    refine mv O O<|l_q O (qsub O O) ?_
    refine l_q O (qadd O O) ?_
    rw [show (1000 : Int) - ((k : Nat) : Int) + 1 = ((1000 - k + 1 : Nat) : Int) by omega]
    refine lc1 O O O (within_ok E (1000 - k + 1) (by omega) (by omega)) ?_
    rw [hnE]
    refine asg O O<|lz<|asg O O<|lc<|t_seq<|sr<|mv O O<|mv O O<|l_q O (qadd O O) ?_
    refine l_q O (qi O O (b_lss ·))<|lc ?_
    apply t_cut (p := (fun _ : Unit => True)) (EE := (fun _ => [(2, .slice (some ⟨gh, 0, none⟩) 1000 1000), (4, .pointer (some ⟨b4, 0, none⟩)), (9, .int .i64 ((k : Nat) : Int)), (16, .int .i64 ((n : Nat) : Int)), (17, .string (toK (k + n)))])) (LL := (fun _ => ownS 3 1 (.slice (some ⟨gh, 0, none⟩) 1000 1000) 1000 (heldV (f)) :: pt b4 (.cells #[.pointer (some ⟨pa, 0, none⟩), .int .i64 l.key, .int .i64 l.elem, .int .i64 l.ka, .int .i64 l.ea, .int .i64 l.cap, .int .i64 l.eo, .int .i64 l.bo, .int .i64 l.slot, .int .i64 l.group, .int .i64 ((off : Nat) : Int)] 27 (0, 0)) :: arenaH pa s :: Fr))
    refine t_if O (fun z5 => ?_) fun z5 => ?_
    ·have hkn : k + n < 1000 := by omega
     refine t_region<|mv O O<|mv O O<|l_q O (qadd O O) ?_
     rw [show ((k : Nat) : Int) + ((n : Nat) : Int) = ((k + n : Nat) : Int) by omega]
     refine lc1 O O O (name_ok (k + n) hkn) ?_
     refine asg O O<|l_nil ?_
     apply n_join (())
     ·exact trivial
     ·exact ⟨rfl, rfl, rfl, rfl, by unfold toK; rw [if_pos hkn]; rfl, trivial⟩
     ·exact en
    ·refine t_skip ?_
     apply n_join (())
     ·exact trivial
     ·exact ⟨rfl, rfl, rfl, rfl, by unfold toK; rw [if_neg (by omega)]; rfl, trivial⟩
     ·exact en
    rintro _ -
    try dsimp only
    refine n_nm ?_
    refine nz<|asg O O<|lc<|t_seq<|sr<|mv O O<|asg O O<|lc<|t_block ?_
    refine t_loop (fun y : Nat × Int => k ≤ y.1 ∧ y.1 ≤ k + n ∧ 0 ≤ y.2 ∧ y.2 + (((prs (zf f k (y.1 - k))).length : Nat) : Int) = (((prs f).length : Nat) : Int)) (fun y => [(2, .slice (some ⟨gh, 0, none⟩) 1000 1000), (4, .pointer (some ⟨b4, 0, none⟩)), (9, .int .i64 ((k : Nat) : Int)), (16, .int .i64 ((n : Nat) : Int)), (17, .string (toK (k + n))), (18, .int .i64 y.2), (19, .int .i64 ((y.1 : Nat) : Int))]) (fun y => ownS 3 1 (.slice (some ⟨gh, 0, none⟩) 1000 1000) 1000 (heldV (zf f k (y.1 - k))) :: pt b4 (.cells #[.pointer (some ⟨pa, 0, none⟩), .int .i64 l.key, .int .i64 l.elem, .int .i64 l.ka, .int .i64 l.ea, .int .i64 l.cap, .int .i64 l.eo, .int .i64 l.bo, .int .i64 l.slot, .int .i64 l.group, .int .i64 ((off : Nat) : Int)] 27 (0, 0)) :: arenaH pa s :: Fr) (fun y => k + n - y.1) (k, 0) ⟨Nat.le_refl _, by dsimp only; omega, Int.le_refl _, by dsimp only; rw [Nat.sub_self, zf_zero, Int.zero_add]⟩ ⟨rfl, rfl, rfl, rfl, rfl, rfl, rfl, trivial⟩ (by dsimp only; rw [Nat.sub_self, zf_zero]; (exact en)) ?_
    rintro ⟨i, w⟩ ⟨y1, y2, y3, y4⟩
    dsimp only at y1 y2 y3 y4 ⊢
    refine t_seq<|sr<|mv O O<|mv O O<|mv O O<|l_q O (qadd O O) ?_
    refine l_q O (qi O O (b_lss ·))<|mv O O ?_
    have hzs : zf f k (i + 1 - k) = upd (zf f k (i - k)) i 0 := by rw [show i + 1 - k = (i - k) + 1 by omega, zf_succ, show k + (i - k) = i by omega]
    refine l_pt (t := 115) rfl (fun c => ?_) fun c => ?_
    ·have hi9 : i < 1000 := by omega
     refine l_off O O O O<|l_off O O O O<|l_off O O O O<|l_offu O O O<|l_offu O O O<|l_off O O O O<|l_q O (q_pk O O)<|lc<|t_cond_t O<|t_skip<|n_code<|t_seq<|t_block<|t_seq<|sr<|mv O O<|mv O O<|l_q O (q_indexAddr1 O O yU28 yS3 (by omega)) ?_
     apply l_q O
     ·apply q_loadOwn O yA3
      ·exact tk
      ·rw [Nat.zero_add, Int.toNat_natCast]; exact held_get hi9
     refine l_q O (qi O O (b_neq ·))<|lc<|t_if O (fun z8 => ?_) fun z8 => ?_
     ·have hz9 : zf f k (i - k) i ≠ 0 := by omega
      have hlen : (prs (upd (zf f k (i - k)) i 0)).length + 1 = (prs (zf f k (i - k))).length := by rw [prs_del hi9]; exact delL_len (sl_prs _) ((prs_has hi9).2 hz9)
      refine t_region<|mv O O<|l_q O (qadd O O) ?_
      refine asg O O<|lr<|mv O O<|mv O O<|l_q O (q_indexAddr1 O O yU28 yS3 (by omega)) ?_
      apply o_storeOwn (xs' := heldV (upd (zf f k (i - k)) i 0)) rfl rfl rfl yS3 rfl
      ·exact tk
      ·rw [Int.toNat_natCast]; omega
      ·rw [Int.toNat_natCast, Nat.zero_add]; exact held_set (v := 0) hi9
      refine l_nil<|n_blk<|n_code<|t_region<|mv O O<|l_q O (qadd O O) ?_
      refine asg O O<|l_nil ?_
      rw [← hzs]
      apply n_again ((i + 1, w + 1))
      ·exact ⟨by dsimp only; omega, by dsimp only; omega, by dsimp only; omega, by dsimp only; rw [hzs]; omega⟩
      ·(try dsimp only); omega
      ·exact ⟨O, O, O, O, O, O, O, trivial⟩
      ·exact en
     ·have hz9 : zf f k (i - k) i = 0 := by omega
      have hlen : (prs (upd (zf f k (i - k)) i 0)).length = (prs (zf f k (i - k))).length := by rw [prs_del hi9, delL_no fun p hp e => (prs_has hi9).1 ⟨p, hp, e⟩ hz9]
      refine t_skip<|n_code<|t_region<|mv O O<|mv O O<|l_q O (q_indexAddr1 O O yU28 yS3 (by omega)) ?_
      apply o_storeOwn (xs' := heldV (upd (zf f k (i - k)) i 0)) rfl rfl rfl yS3 rfl
      ·exact tk
      ·rw [Int.toNat_natCast]; omega
      ·rw [Int.toNat_natCast, Nat.zero_add]; exact held_set (v := 0) hi9
      refine l_nil<|n_blk<|n_code<|t_region<|mv O O<|l_q O (qadd O O) ?_
      refine asg O O<|l_nil ?_
      rw [← hzs]
      apply n_again ((i + 1, w))
      ·exact ⟨by dsimp only; omega, by dsimp only; omega, y3, by dsimp only; rw [hzs]; omega⟩
      ·(try dsimp only); omega
      ·exact ⟨O, O, O, O, O, O, O, trivial⟩
      ·exact en
    ·obtain rfl : i = k + n := by omega
     rw [Nat.add_sub_cancel_left] at y4 ⊢
     refine l_on O O<|mv O O<|l_on O O<|l_q O (qs O O (b_eqlS ·))<|l_on O O<|mv O O<|l_pt (t := 118) rfl (fun c6 => ?_) fun c6 => ?_
     ·have h1000 : 1000 ≤ k + n := by
       rcases Nat.lt_or_ge (k + n) 1000 with w | w
       ·rw [show toK (k + n) = nameK (k + n) by unfold toK; rw [if_pos w]] at c6
        have := congrArg ByteArray.size c6
        exact absurd (show (2 : Nat) = 3 from this) (by decide)
       ·exact w
      refine l_on O O<|mv O O<|l_on O O<|l_q O (qi O O (b_lss ·))<|l_on O O<|l_q O (q_pk O O)<|l_q O (q_pk O O)<|lc<|t_if O (fun z9 => ?_) fun z9 => ?_
      ·omega
      ·refine xt O<|n_code<|t_seq<|t_draw mixed ?_
       apply dq 0 O
       ·exact yq (qlda O yA27 yS27)
       apply dq 1 O
       ·exact yq (q_move O)
       apply dq 3 O
       ·exact yq (q_move O)
       refine d_eff1 [1] [3, 0] 2 [(137, _)] gO ⟨rfl, trivial⟩ (by kernel_rfl) (by kernel_rfl) fun Ex => ?_
       refine lc1 O O O (name_ok k hk) ?_
       refine l_nil ?_
       apply n_d
       ·refine ⟨?_, ?_, trivial⟩
        ·apply ya O O; exact yq (q_move O)
        ·apply ya O O; exact yq (qlda O yA27 yS27)
       refine d_eff1 [0, 3] [] 4 [(136, _), (138, _), (139, _)] gO ⟨rfl, rfl, rfl, trivial⟩ (by kernel_rfl) (by kernel_rfl) fun Ex => ?_
       refine lcf O O O (CutT_ok pa off s hl hs H (nameK k) (toK (k + n))) ?_
       rintro v L' ⟨s', x', rfl, rfl, g0, g1, g2, g3, g4⟩
       refine l_nm ?_
       have hx9 : x'.L = prs (zf f k n) := by rw [g4, hx]; exact (prs_cut hk hn).symm
       have hlw : (((x.L.length - x'.L.length : Nat)) : Int) = w := by rw [hx9, hx]; omega
       rw [hlw]
       refine l_nil ?_
       apply n_d
       ·exact trivial
       apply dq 5 O
       ·exact yq (q_move O)
       apply dq 6 O
       ·exact yq (q_extractL O ga)
       apply dq 7 O
       ·exact yq (q_extractL O ga)
       refine d_eff1 [6, 5] [7] 8 [(141, _)] gO ⟨rfl, trivial⟩ (by kernel_rfl) (by kernel_rfl) fun Ex => ?_
       refine asg O O<|l_nil ?_
       apply n_d
       ·refine ⟨?_, trivial⟩
        ·apply ya O O; exact yq (q_extractL O ga)
       refine d_eff1 [7] [] 9 [(142, _)] gO ⟨rfl, trivial⟩ (by kernel_rfl) (by kernel_rfl) fun Ex => ?_
       refine asg O O<|l_nil ?_
       apply n_d
       ·exact trivial
       refine d_end (by kernel_rfl) ?_
       refine nz<|mv O O<|l_q O (qi O O (b_eql ·))<|mv O O<|l_pt (t := 145) rfl (fun c10 => ?_) fun c10 => ?_
       ·refine l_on O O<|mv O O<|l_on O O<|mv O O<|l_on O O<|l_q O (qi O O (b_eql ·))<|l_q O (q_pk O O)<|asg O O<|lc<|rt<|fr1 O ([ownS 3 1 (.slice (some ⟨gh, 0, none⟩) 1000 1000) 1000 (heldV (zf f k n)), arenaH pa s']) (.tmp rfl) ?_
        exact ⟨s', x', _, rfl, g0, g1, g2, g3, hbZ, hx9, .inl ⟨by simp, hst.symm⟩⟩
       ·exact absurd rfl c10
     ·refine l_off O O O O<|l_off O O O O<|l_on O O<|l_q O (q_pk O O)<|l_q O (q_pk O O)<|lc<|t_cond_f O<|xt O<|n_code<|t_seq<|t_draw mixed ?_
      apply dq 0 O
      ·exact yq (qlda O yA27 yS27)
      apply dq 1 O
      ·exact yq (q_move O)
      apply dq 3 O
      ·exact yq (q_move O)
      refine d_eff1 [1] [3, 0] 2 [(137, _)] gO ⟨rfl, trivial⟩ (by kernel_rfl) (by kernel_rfl) fun Ex => ?_
      refine lc1 O O O (name_ok k hk) ?_
      refine l_nil ?_
      apply n_d
      ·refine ⟨?_, ?_, trivial⟩
       ·apply ya O O; exact yq (q_move O)
       ·apply ya O O; exact yq (qlda O yA27 yS27)
      refine d_eff1 [0, 3] [] 4 [(136, _), (138, _), (139, _)] gO ⟨rfl, rfl, rfl, trivial⟩ (by kernel_rfl) (by kernel_rfl) fun Ex => ?_
      refine lcf O O O (CutT_ok pa off s hl hs H (nameK k) (toK (k + n))) ?_
      rintro v L' ⟨s', x', rfl, rfl, g0, g1, g2, g3, g4⟩
      refine l_nm ?_
      have hx9 : x'.L = prs (zf f k n) := by rw [g4, hx]; exact (prs_cut hk hn).symm
      have hlw : (((x.L.length - x'.L.length : Nat)) : Int) = w := by rw [hx9, hx]; omega
      rw [hlw]
      refine l_nil ?_
      apply n_d
      ·exact trivial
      apply dq 5 O
      ·exact yq (q_move O)
      apply dq 6 O
      ·exact yq (q_extractL O ga)
      apply dq 7 O
      ·exact yq (q_extractL O ga)
      refine d_eff1 [6, 5] [7] 8 [(141, _)] gO ⟨rfl, trivial⟩ (by kernel_rfl) (by kernel_rfl) fun Ex => ?_
      refine asg O O<|l_nil ?_
      apply n_d
      ·refine ⟨?_, trivial⟩
       ·apply ya O O; exact yq (q_extractL O ga)
      refine d_eff1 [7] [] 9 [(142, _)] gO ⟨rfl, trivial⟩ (by kernel_rfl) (by kernel_rfl) fun Ex => ?_
      refine asg O O<|l_nil ?_
      apply n_d
      ·exact trivial
      refine d_end (by kernel_rfl) ?_
      refine nz<|mv O O<|l_q O (qi O O (b_eql ·))<|mv O O<|l_pt (t := 145) rfl (fun c10 => ?_) fun c10 => ?_
      ·refine l_on O O<|mv O O<|l_on O O<|mv O O<|l_on O O<|l_q O (qi O O (b_eql ·))<|l_q O (q_pk O O)<|asg O O<|lc<|rt<|fr1 O ([ownS 3 1 (.slice (some ⟨gh, 0, none⟩) 1000 1000) 1000 (heldV (zf f k n)), arenaH pa s']) (.tmp rfl) ?_
       exact ⟨s', x', _, rfl, g0, g1, g2, g3, hbZ, hx9, .inl ⟨by simp, hst.symm⟩⟩
      ·exact absurd rfl c10
   ·have hst : stepF f kd K E = f := by unfold stepF; rw [if_neg z0, if_neg z3, if_neg z4]
    exact t_skip<|n_blk<|nz<|asg O O<|lc<|rt<|fr1 O ([ownS 3 1 (.slice (some ⟨gh, 0, none⟩) 1000 1000) 1000 (heldV (f)), arenaH pa s]) (.tmp rfl) (⟨s, x, f, rfl, hs, H, fun _ _ _ _ _ => rfl, rfl, hf, hx, .inl ⟨rfl, hst.symm⟩⟩)
end
end Go.Proofs.Ytjekhcojebgpnaa.Ord
