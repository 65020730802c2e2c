/- Package arena: Free. -/
import Derived.Test.YtjekhcojebgpnaaArenaW
set_option linter.unusedVariables false
set_option linter.unusedSimpArgs false
set_option maxRecDepth 100000
namespace Go.Proofs.Ytjekhcojebgpnaa.Arena
open Go.RowKit Go.Proofs Go.Proofs.Ytjekhcojebgpnaa.Eng Go.Proofs.Ytjekhcojebgpnaa.Ty Go.Proofs.Ytjekhcojebgpnaa.Bits Go.Proofs.Ytjekhcojebgpnaa.Mem Go.Proofs.Ytjekhcojebgpnaa.Search

theorem SearchT_ok (xs : List Int) (v : Value) (t : Int) (hkb : xs.length ≤ 4611686018427387904) (hs : xs.Pairwise (· < ·)) :
  FnOk Try.prog 46 #[v, .int .i64 t] [ownT 3 v (ints xs)]
   (fun r L => (∃ i : Nat, r = .tuple #[.int .i64 i, .bool (decide (xs[i]? = some t))] ∧ placed xs t i) ∧ L = [ownT 3 v (ints xs)]) := by
 have hs : ∀ i j (hi : i < xs.length) (hj : j < xs.length), i < j → xs[i] < xs[j] := fun i j hi hj hij => List.pairwise_iff_getElem.1 hs i j hi hj hij
 refine fn_intro en46 Try.func46 rfl rfl rfl fun Fr w0 => t_nm ?_
 refine t_pure (φ := ∃ a cap, v = .slice a xs.length cap ∧ (0 < xs.length → ∃ g o, a = some ⟨g, o, none⟩)) (fun w hw => by
  obtain ⟨a, cap, e, h, _⟩ := ownT_shape hw
  rw [ints_len] at e h
  exact ⟨a, cap, e, h⟩) fun ⟨a, cap, hv, ha⟩ => ?_
 subst hv
 refine sr<|asg O O<|asg O O<|lz<|mv O O<|l_q O (ql O yU28)<|asg O O<|lz<|mv O O<|asg O O<|asg O O<|lc<|t_seq<|t_block ?_
 refine t_loop (fun x : Nat × Nat => x.1 ≤ x.2 ∧ x.2 ≤ xs.length ∧ (∀ j (h : j < xs.length), j < x.1 → xs[j] < t) ∧ (∀ j (h : j < xs.length), x.2 ≤ j → t ≤ xs[j])) (fun x => [(0, .slice a xs.length cap), (1, .int .i64 t), (6, .int .i64 xs.length), (7, .int .i64 x.1), (8, .int .i64 x.2)]) (fun _ => ownT 3 (.slice a xs.length cap) (ints xs) :: Fr) (fun x => x.2 - x.1) (0, xs.length) ⟨by omega, by omega, by omega, fun j h h2 => by omega⟩ ⟨rfl, rfl, rfl, rfl, rfl, trivial⟩ (Ent.refl _) ?_
 rintro ⟨i, j⟩ ⟨hij, hjk, hlo, hhi⟩
 dsimp only at hij hjk hlo hhi ⊢
 refine t_seq<|sr<|mv O O<|mv O O<|l_q O (qi O O (b_lss ·))<|lc<|t_if O (fun h => ?_) fun h => ?_
 ·obtain ⟨g, o, rfl⟩ := ha (by omega)
  have hcell : ∀ (k : Nat) {m : Nat} {u : Int}, (k < xs.length ∧ m = k ∧ xs[k]? = some u) → CellAt (ownT 3 (.slice (some ⟨g, o, none⟩) xs.length cap) (ints xs)) ⟨g, o + m, none⟩ (.int .i64 u) := fun k m u ⟨h1, h2, h3⟩ => by
   subst h2; exact ownT_cell (by rw [ints_get, h3]; rfl)
  have hm : (i + j) / 2 < xs.length ∧ (((i : Int) + (j : Int)) / 2).toNat = (i + j) / 2 ∧ xs[(i + j) / 2]? = some (xs[(i + j) / 2]'(by omega)) := ⟨by omega, by omega, List.getElem?_eq_getElem _⟩
  refine t_skip<|n_code<|t_block<|sr<|mv O O<|mv O O<|l_q O (qadd O O) ?_
  refine l_q O (qcv O yU3 yU131) ?_
  apply l_q O
  ·apply qi O O; first | exact fun w => b_shr_c (m := 2) w (by decide) (by decide) (by omega) | exact fun w => b_shr w (by decide)
  refine l_q O (qcv O yU131 yU3) ?_
  refine asg O O<|lz<|mv O O<|mv O O<|l_q O (q_indexAddr1 O O yU28 yS3 (by omega)) ?_
  refine l_q O (q_loadR (A := ownT 3 (.slice (some ⟨g, o, none⟩) xs.length cap) (ints xs)) rfl yA3 tk (hcell _ hm)) ?_
  refine mv O O<|lc1 O O O (Less_ok _ _) ?_
  refine lc<|t_if O (fun q => ?_) fun q => ?_
  ·refine t_region<|mv O O<|l_q O (qadd O O) ?_
   refine asg O O<|l_nil<|n_blk ?_
   apply n_again (((i + j) / 2 + 1, j))
   ·exact ⟨by dsimp only; omega, hjk, fun a ha hai => by by_cases e : a = (i + j) / 2; (subst e; exact q); exact Int.lt_trans (hs a ((i + j) / 2) ha (by omega) (by dsimp only at hai; omega)) q, hhi⟩
   ·dsimp only; omega
   ·exact ⟨rfl, rfl, rfl, congrArg (fun z => some (Value.int .i64 z)) (by omega : ((i : Int) + (j : Int)) / 2 + 1 = (((i + j) / 2 + 1 : Nat) : Int)), rfl, trivial⟩
   ·exact en
  ·refine t_region<|mv O O<|asg O O<|l_nil<|n_blk ?_
   apply n_again ((i, (i + j) / 2))
   ·exact ⟨by dsimp only; omega, by dsimp only; omega, hlo, fun a ha hai => by by_cases e : a = (i + j) / 2; (subst e; omega); have := hs ((i + j) / 2) a (by omega) ha (by dsimp only at hai; omega); omega⟩
   ·dsimp only; omega
   ·exact ⟨rfl, rfl, rfl, rfl, congrArg (fun z => some (Value.int .i64 z)) (by omega : ((i : Int) + (j : Int)) / 2 = (((i + j) / 2 : Nat) : Int)), trivial⟩
   ·exact en
 ·refine xt O<|nz<|mv O O<|mv O O<|mv O O<|l_q O (qi O O (b_lss ·))<|mv O O ?_
  obtain rfl : i = j := by omega
  have hpl : placed xs t i := ⟨by omega, hlo, hhi⟩
  refine l_pt (t := 35) rfl (fun a1 => ?_) fun a1 => ?_
  ·obtain ⟨g, o, rfl⟩ := ha (by omega)
   have hil : i < xs.length := by omega
   have hcell : ∀ (k : Nat) {m : Nat} {u : Int}, (k < xs.length ∧ m = k ∧ xs[k]? = some u) → CellAt (ownT 3 (.slice (some ⟨g, o, none⟩) xs.length cap) (ints xs)) ⟨g, o + m, none⟩ (.int .i64 u) := fun k m u ⟨h1, h2, h3⟩ => by
    subst h2; exact ownT_cell (by rw [ints_get, h3]; rfl)
   have hm2 : i < xs.length ∧ ((i : Nat) : Int).toNat = i ∧ xs[i]? = some xs[i] := ⟨hil, Int.toNat_natCast i, List.getElem?_eq_getElem hil⟩
   refine l_on O O<|mv O O<|l_on O O<|mv O O<|l_on O O<|l_q O (q_indexAddr1 O O yU28 yS3 (by omega)) ?_
   refine l_on O O<|l_q O (q_loadR (A := ownT 3 (.slice (some ⟨g, o, none⟩) xs.length cap) (ints xs)) rfl yA3 tk (hcell _ hm2)) ?_
   refine l_on O O<|mv O O<|l_on O O<|l_q O (qi O O (b_eql ·))<|l_on O O<|mv O O<|l_pt (t := 42) rfl (fun b => ?_) fun b => ?_
   ·refine l_off O O O O<|l_off O O O O<|l_off O O O O<|l_off O O O O<|l_off O O O O<|l_off O O O O<|l_offu O O O<|l_offu O O O<|l_off O O O O<|l_on O O<|l_q O (q_pk O O)<|l_q O (q_pk O O)<|asg O O<|asg O O<|lc<|rt<|fr2 O ([ownT 3 (.slice (some ⟨g, o, none⟩) xs.length cap) (ints xs)]) (.tmp rfl) (.tmp rfl) ?_
    exact ⟨⟨i, by rw [List.getElem?_eq_getElem hil, b, decide_eq_true rfl], hpl⟩, rfl⟩
   ·refine l_on O O<|mv O O<|l_on O O<|mv O O<|l_on O O<|l_q O (q_indexAddr1 O O yU28 yS3 (by omega)) ?_
    refine l_on O O<|l_q O (q_loadR (A := ownT 3 (.slice (some ⟨g, o, none⟩) xs.length cap) (ints xs)) rfl yA3 tk (hcell _ hm2)) ?_
    refine l_on O O<|lc1 O O O (isNaN2_ok _) ?_
    refine l_on O O<|mv O O<|l_pt (t := 48) rfl (fun e => ?_) fun e => ?_
    ·cases e
    ·refine l_off O O O O<|l_off O O O O<|l_on O O<|l_q O (q_pk O O)<|l_on O O<|l_q O (q_pk O O)<|l_q O (q_pk O O)<|asg O O<|asg O O<|lc<|rt<|fr2 O ([ownT 3 (.slice (some ⟨g, o, none⟩) xs.length cap) (ints xs)]) (.tmp rfl) (.tmp rfl) ?_
     exact ⟨⟨i, by rw [List.getElem?_eq_getElem hil, decide_eq_false (by simpa using b)], hpl⟩, rfl⟩
  ·refine l_off O O O O<|l_off O O O O<|l_off O O O O<|l_off O O O O<|l_off O O O O<|l_off O O O O<|l_off O O O O<|l_offu O O O<|l_offu O O O<|l_offu O O O<|l_offu O O O<|l_offu O O O<|l_offu O O O<|l_offu O O O<|l_offu O O O<|l_offu O O O<|l_off O O O O<|l_q O (q_pk O O)<|asg O O<|asg O O<|lc<|rt<|fr2 O ([ownT 3 (.slice a xs.length cap) (ints xs)]) (.tmp rfl) (.tmp rfl) ?_
   exact ⟨⟨i, by rw [List.getElem?_eq_none (by omega)]; rfl, hpl⟩, rfl⟩
/-- A number that is not among the first ones. -/
theorem Index_no (p k i : Nat) (os : List Int) (x : Int) (hk : os.length = k) (hkb : k ≤ 1000) (hi : i ≤ k) (hno : ∀ j (h : j < os.length), j < i → os[j] ≠ x) :
  FnOk Try.prog 64 #[.slice (some ⟨p, 0, none⟩) i k, .int .i64 x] [pt p (.cells (ints os).toArray 3 (0, 0))] (fun v L => v = .int .i64 (-1) ∧ L = [pt p (.cells (ints os).toArray 3 (0, 0))]) := by
 refine fn_intro en64 Try.func64 rfl rfl rfl fun Fr w0 => t_nm ?_
 refine sr<|asg O O<|lc<|t_seq<|sr<|mv O O<|l_q O (ql O yU28)<|mv O O<|lc<|t_block ?_
 refine t_loop (fun j : Nat => j ≤ i) (fun j => [(0, .slice (some ⟨p, 0, none⟩) i k), (1, .int .i64 x), (7, .int .i64 (i : Nat)), (8, .int .i64 (j : Nat))]) (fun _ => pt p (.cells (ints os).toArray 3 (0, 0)) :: Fr) (fun j => i - j) 0 (Nat.zero_le _) ⟨rfl, rfl, rfl, rfl, trivial⟩ (Ent.refl _) ?_
 intro j hj
 refine sr<|l_q O (qi O O (b_lss ·))<|lc<|t_seq<|t_if O (fun h => ?_) fun h => ?_
 ·have hjl : j < os.length := by omega
  refine t_skip<|n_code<|t_seq<|t_block<|sr<|mv O O<|asg O O<|lz<|mv O O<|mv O O<|mv O O<|l_q O (q_indexAddr1 O O yU28 yS3 (by omega)) ?_
  apply l_q O
  ·apply q_load O yA3
   ·exact tk
   ·rw [Nat.zero_add, Int.toNat_natCast]; simp [ints, hjl]; rfl
  refine l_q O (qi O O (b_eql ·))<|lc ?_
  have hne := hno j hjl (by omega)
  refine t_if O (fun q => ?_) fun q => ?_
  ·exact absurd q.symm hne
  ·refine t_skip<|n_blk<|n_code<|t_region<|l_q O (qadd O O) ?_
   refine mv O O<|l_nil ?_
   apply n_again ((j + 1))
   ·exact by omega
   ·omega
   ·exact ⟨O, O, O, O, trivial⟩
   ·exact en
 ·exact xt O<|nz<|asg O O<|lc<|rt<|fr1 O ([pt p (.cells (ints os).toArray 3 (0, 0))]) (.tmp rfl) ⟨rfl, rfl⟩
theorem Contains_no (p k i : Nat) (os : List Int) (x : Int) (hk : os.length = k) (hkb : k ≤ 1000) (hi : i ≤ k) (hno : ∀ j (h : j < os.length), j < i → os[j] ≠ x) :
  FnOk Try.prog 45 #[.slice (some ⟨p, 0, none⟩) i k, .int .i64 x] [pt p (.cells (ints os).toArray 3 (0, 0))] (fun v L => v = .bool false ∧ L = [pt p (.cells (ints os).toArray 3 (0, 0))]) := by
 refine fn_intro en45 Try.func45 rfl rfl rfl fun Fr w0 => t_nm ?_
 refine sr<|asg O O<|lz<|mv O O<|mv O O<|lc1 O O O (Index_no p k i os x hk hkb hi hno) ?_
 exact l_q O (qi O O (b_geq ·))<|asg O O<|lc<|rt<|fr1 O ([pt p (.cells (ints os).toArray 3 (0, 0))]) (.tmp rfl) ⟨rfl, rfl⟩
theorem lm_give {s : ArS} (hs : s.ok) {o c : Int} (ho : (o, c) ∈ s.bl) {lm : List (Int × Value)} (hd : distinctK lm) (h : LmOk s lm) : LmOk (s.give o) (delK lm o) := by
 constructor
 ·intro p hp
  obtain ⟨h1, h2⟩ := (give_bl hs ho).1 hp
  rw [lk_del hd, if_neg fun e => h2 (chain_one hs.chain (mem_bl.1 h1).1 (mem_bl.1 ho).1 e.symm)]
  exact h.1 p h1
 ·intro k hk
  rw [lk_del hd]
  split
  ·rfl
  ·next q => exact h.2 k fun d hd2 => hk d ((give_bl hs ho).2 ⟨hd2, fun e => q (by rw [Prod.mk.injEq] at e; exact e.1.symm)⟩)
theorem fl_give {s : ArS} (hs : s.ok) {o c : Int} (ho : (o, c) ∈ s.bl) {i : Nat} (hi : placed (s.frL c) o i) {fl : FL} (h : FlOk s fl) (v : Value) : FlOk (s.give o) (putFl fl c (v, insL (s.frL c) i o)) := fun d => by
 rw [give_fr hs ho hi d, lk_putFl]
 split
 ·rfl
 ·exact h d
/-- Blocks given back, one behind the other. -/
def ArS.gives (s : ArS) (os : List Int) : ArS := os.foldl ArS.give s
theorem gives_app (s : ArS) (os : List Int) (o : Int) : s.gives (os ++ [o]) = (s.gives os).give o := by simp [ArS.gives]
theorem gives_all (s : ArS) (os : List Int) : (s.gives os).all = s.all := by
 induction os generalizing s with
 | nil => rfl
 | cons o r ih => exact ih (s.give o)
theorem gives_dead (s : ArS) (os : List Int) (x : Int) : (s.gives os).dead x = (s.dead x || decide (x ∈ os)) := by
 induction os generalizing s with
 | nil => simp [ArS.gives]
 | cons o r ih =>
  show ((s.give o).gives r).dead x = _
  rw [ih]
  show (s.dead x || decide (x = o) || decide (x ∈ r)) = _
  rw [Bool.or_assoc]
  congr 1
  rw [Bool.eq_iff_iff, Bool.or_eq_true, decide_eq_true_eq, decide_eq_true_eq, decide_eq_true_eq, List.mem_cons]
theorem gives_bl {s : ArS} {os : List Int} {p : Int × Int} : p ∈ (s.gives os).bl ↔ p ∈ s.bl ∧ p.1 ∉ os := by
 rw [mem_bl, mem_bl, gives_all, gives_dead, Bool.or_eq_false_iff, decide_eq_false_iff_not]
 exact ⟨fun ⟨a, b, c⟩ => ⟨⟨a, b⟩, c⟩, fun ⟨⟨a, b⟩, c⟩ => ⟨a, b, c⟩⟩
theorem gives_m (s : ArS) (os : List Int) : (s.gives os).m = s.m ∧ (s.gives os).limit = s.limit := by
 induction os generalizing s with
 | nil => exact ⟨rfl, rfl⟩
 | cons o r ih => exact ih (s.give o)
theorem Free_ok (pa : Nat) (s : ArS) (p k : Nat) (os : List Int) (hk : os.length = k) (hkb : k ≤ 1000) (hnd : os.Nodup) (hlv : ∀ o ∈ os, ∃ c, (o, c) ∈ s.bl) :
  FnOk Try.prog 24 #[.pointer (some ⟨pa, 0, none⟩), .slice (some ⟨p, 0, none⟩) k k] [pt p (.cells (ints os).toArray 3 (0, 0)), arenaH pa s]
   (fun v L => v = .int .i64 0 ∧ L = [pt p (.cells (ints os).toArray 3 (0, 0)), arenaH pa (s.gives os)]) := by
 subst hk
 refine fn_intro en24 Try.func24 rfl rfl rfl fun Fr w0 => t_nm ?_
 refine sr<|asg O O<|lc<|t_seq<|sr<|mv O O<|l_q O (ql O yU28)<|mv O O<|lc<|t_block ?_
 refine t_loop (fun j : Nat => j ≤ os.length) (fun j => [(0, .pointer (some ⟨pa, 0, none⟩)), (1, .slice (some ⟨p, 0, none⟩) os.length os.length), (14, .slice (some ⟨p, 0, none⟩) os.length os.length), (15, .int .i64 os.length), (16, .int .i64 (j : Nat))]) (fun _ => pt p (.cells (ints os).toArray 3 (0, 0)) :: arenaH pa s :: Fr) (fun j => os.length - j) 0 (Nat.zero_le _) ⟨rfl, rfl, rfl, rfl, rfl, trivial⟩ (Ent.refl _) ?_
 intro j hj
 refine sr<|l_q O (qi O O (b_lss ·))<|lc<|t_seq<|t_if O (fun h => ?_) fun h => ?_
 ·have hjl : j < os.length := by omega
  obtain ⟨c, hc⟩ := hlv os[j] (List.getElem_mem hjl)
  refine t_ent (L' := arenaH pa s :: pt p (.cells (ints os).toArray 3 (0, 0)) :: Fr) (by (exact en)) ?_
  refine arena_open fun x hx => ?_
  refine t_norm fun M hM => ?_
  simp only [List.cons_append, List.nil_append] at hM
  subst M
  obtain ⟨pm, g, cap, sb, fb, vs, vc, lm, fl⟩ := x
  obtain ⟨hok, hcap, hcap2, hlm, hfl⟩ := hx
  dsimp only at hcap hcap2 hlm hfl ⊢
  have hlk := hlm.1 _ hc
  dsimp only at hlk
  refine t_skip<|n_code<|t_seq<|t_block<|sr<|mv O O<|l_q O (q_indexAddr1 O O yU28 yS3 (by omega)) ?_
  apply l_q O
  ·apply q_load O yA3
   ·exact tk
   ·rw [Nat.zero_add, Int.toNat_natCast]; simp [ints, hjl]; rfl
  refine asg O O<|asg O O<|lz<|mv O O<|l_q O (q_nilCheck O)<|l_q O (qfa 5 O yU83 O O yS80)<|l_q O (qld O yA80) ?_
  refine mv O O ?_
  apply l_q O
  ·refine QV.to (v' := .tuple #[.int .i64 c, .bool true]) (q_lookup2 keyInt O O Try.underlying80 Try.underlying3 yZ3 (by exact tk)) (by rw [hlk]; rfl)
  refine mv O O<|l_q O (q_extractL O ga) ?_
  refine l_q O (q_extractL O ga) ?_
  refine asg O O<|asg O O<|lz<|mv O O<|l_q O (q_un O (u_not ·))<|mv O O<|l_pt (t := 32) rfl (fun q1 => ?_) fun q1 => ?_
  ·cases q1
  ·refine l_on O O<|mv O O<|l_on O O<|mv O O<|l_on O O<|l_q O (q_slice_h O O yU28 yS3 (by omega)) ?_
   refine l_on O O<|mv O O<|l_on O O ?_
   refine lc1 O O O (Contains_no p os.length j os os[j] rfl hkb (by omega) (fun i hi hij he => by have := (List.getElem_inj hnd).1 he; omega)) ?_
   refine l_q O (q_pk O O)<|lc<|t_if O (fun q2 => ?_) fun q2 => ?_
   ·cases q2
   ·refine t_skip<|n_blk<|n_code<|t_region<|l_q O (qadd O O) ?_
    refine mv O O<|l_nil ?_
    refine n_ent (L' := arenaH pa s :: pt p (.cells (ints os).toArray 3 (0, 0)) :: Fr) (arena_close (R := pt p (.cells (ints os).toArray 3 (0, 0)) :: Fr) (x := ⟨pm, g, cap, sb, fb, vs, vc, lm, fl⟩) ⟨hok, hcap, hcap2, hlm, hfl⟩ (by dsimp only [arP]; (exact en))) ?_
    apply n_again ((j + 1))
    ·exact by omega
    ·omega
    ·exact ⟨O, O, O, O, O, trivial⟩
    ·exact en
 ·obtain rfl : j = os.length := by omega
  refine xt O<|n_code<|t_seq<|sr<|mv O O<|l_q O (ql O yU28)<|mv O O<|lc<|t_block ?_
  refine t_loop (fun j : Nat => j ≤ os.length) (fun j => [(0, .pointer (some ⟨pa, 0, none⟩)), (40, .slice (some ⟨p, 0, none⟩) os.length os.length), (41, .int .i64 os.length), (42, .int .i64 (j : Nat))]) (fun j => pt p (.cells (ints os).toArray 3 (0, 0)) :: arenaH pa (s.gives (os.take j)) :: Fr) (fun j => os.length - j) 0 (Nat.zero_le _) ⟨rfl, rfl, rfl, rfl, trivial⟩ (Ent.refl _) ?_
  intro j hj
  refine sr<|l_q O (qi O O (b_lss ·))<|lc<|t_seq<|t_if O (fun h2 => ?_) fun h2 => ?_
  ·have hjl : j < os.length := by omega
   obtain ⟨c, hc0⟩ := hlv os[j] (List.getElem_mem hjl)
   have hnt : os[j] ∉ os.take j := fun hm => by
    obtain ⟨i, hi, e⟩ := List.getElem_of_mem hm
    rw [List.length_take] at hi
    rw [List.getElem_take] at e
    have := (List.getElem_inj hnd).1 e
    omega
   have hc : (os[j], c) ∈ (s.gives (os.take j)).bl := gives_bl.2 ⟨hc0, hnt⟩
   have hnext : s.gives (os.take (j + 1)) = (s.gives (os.take j)).give os[j] := by rw [take_next hjl, gives_app]
   obtain ⟨s1, hs1⟩ : ∃ s1, s1 = s.gives (os.take j) := ⟨_, rfl⟩
   rw [← hs1] at hc hnext ⊢
   refine t_ent (L' := arenaH pa s1 :: pt p (.cells (ints os).toArray 3 (0, 0)) :: Fr) (by (exact en)) ?_
   refine arena_open fun x hx => ?_
   refine t_norm fun M hM => ?_
   simp only [List.cons_append, List.nil_append] at hM
   subst M
   obtain ⟨pm, g, cap, sb, fb, vs, vc, lm, fl⟩ := x
   obtain ⟨hok, hcap, hcap2, hlm, hfl⟩ := hx
   dsimp only at hcap hcap2 hlm hfl ⊢
   refine t_pure (φ := distinctK lm) (fun w hw => (map_some (hw.perm (Take.perm (show Take (mapH (fun k : Int => Value.int .i64 k) sb lm) _ _ from tk)))).1) fun hdis => ?_
   have hlk := hlm.1 _ hc
   dsimp only at hlk
   have hst := hok.stop_eq
   have hsn := ArS.sum_nonneg hok.chain
   have hlim := hok.limit
   have hroom := hok.room
   have hcl := classes_pos c (hok.isC _ (mem_bl.1 hc).1)
   have hgl := give_live hok hc
   have hgo := give_ok hok hc
   have hgl2 := hgo.stop_eq
   have hfc := hfl c
   have hfrl : (s1.frL c).length ≤ s1.all.length := by unfold ArS.frL; rw [List.length_map]; exact List.length_filter_le _ _
   obtain ⟨v7, xs7, hlkf⟩ : ∃ v7 xs7, getFl fl c = (v7, xs7) := ⟨_, _, rfl⟩
   rw [hlkf] at hfc
   dsimp only at hfc
   subst hfc
   have hvl := val_getFl fl c
   rw [hlkf] at hvl
   dsimp only at hvl
   refine t_ent (frees_openT (k := c) (show Take (freesH fl) _ _ from tk)) ?_
   rw [hlkf]
   refine t_skip<|n_code<|t_seq<|t_block<|sr<|l_q O (q_indexAddr1 O O yU28 yS3 (by omega)) ?_
   apply l_q O
   ·apply q_load O yA3
    ·exact tk
    ·rw [Nat.zero_add, Int.toNat_natCast]; simp [ints, hjl]; rfl
   refine asg O O<|lz<|mv O O<|l_q O (q_nilCheck O)<|l_q O (qfa 5 O yU83 O O yS80)<|l_q O (qld O yA80) ?_
   refine mv O O ?_
   apply l_q O
   ·refine QV.to (v' := .int .i64 c) (q_lookup1 keyInt O O Try.underlying80 Try.underlying3 yZ3 (by exact tk)) (by rw [hlk]; rfl)
   refine asg O O<|lz<|mv O O<|l_q O (q_nilCheck O)<|l_q O (qfa 5 O yU83 O O yS80)<|l_q O (qld O yA80) ?_
   refine mv O O ?_
   apply o_delete keyInt O O O yU80 yU3
   ·exact tk
   refine lz<|mv O O<|l_q O (q_nilCheck O)<|l_q O (qfa 1 O yU83 O O yS3)<|l_q O (qld O yA3) ?_
   refine mv O O<|l_q O (qsub O O) ?_
   refine l_q O (q_nilCheck O)<|l_q O (qfa 1 O yU83 O O yS3)<|st O O O yS3 O ?_
   refine lz<|mv O O<|l_q O (q_nilCheck O)<|l_q O (qfa 6 O yU83 O O yS81)<|l_q O (qld O yA81) ?_
   refine mv O O<|l_q O (QV.to (q_lookup1 keyInt O O Try.underlying81 Try.underlying3 yZ28 (by exact tk)) hvl) ?_
   refine mv O O<|lcf O O O (SearchT_ok (s1.frL c) v7 os[j] (by omega) (fr_rise hok c)) ?_
   rintro v L' ⟨⟨i, rfl, hpl⟩, rfl⟩
   refine l_nm ?_
   refine mv O O<|l_q O (q_extractL O ga) ?_
   refine l_q O (q_extractL O ga) ?_
   refine asg O O<|asg O O<|lc<|t_draw mixed ?_
   apply dq 0 O
   ·exact yq (q_move O)
   apply dq 1 O
   ·exact yq (q_nilCheck O)
   apply dq 2 O
   ·exact yq (qfa 6 O yU83 O O yS81)
   apply dq 3 O
   ·exact yq (qld O yA81)
   apply dq 4 O
   ·exact yq (q_move O)
   apply dq 5 O
   ·exact yq (q_move O)
   apply dq 6 O
   ·exact yq (q_nilCheck O)
   apply dq 7 O
   ·exact yq (qfa 6 O yU83 O O yS81)
   apply dq 8 O
   ·exact yq (qld O yA81)
   apply dq 9 O
   ·exact yq (q_move O)
   apply dq 10 O
   ·exact yq (QV.to (q_lookup1 keyInt O O Try.underlying81 Try.underlying3 yZ28 (by exact tk)) hvl)
   apply dq 11 O
   ·exact yq (q_move O)
   apply dq 12 O
   ·exact yq (q_move O)
   refine d_eff1 [12] [11, 10, 9, 8, 7, 6, 5, 4, 3, 2, 1, 0] 13 [(88, _)] gO ⟨rfl, trivial⟩ (by kernel_rfl) (by kernel_rfl) fun Ex => ?_
   refine o_buildSlice1 [_] rfl rfl yU28 yS3 yZ3 rfl rfl rfl rfl (fun b89 => ?_)
   refine l_nil ?_
   apply n_d
   ·refine ⟨?_, ?_, ?_, ?_, ?_, ?_, ?_, ?_, ?_, ?_, ?_, ?_, trivial⟩
    ·apply ya O O; exact yq (q_move O)
    ·apply ya O O; exact yq (QV.to (q_lookup1 keyInt O O Try.underlying81 Try.underlying3 yZ28 (by exact tk)) hvl)
    ·apply ya O O; exact yq (q_move O)
    ·apply ya O O; exact yq (qld O yA81)
    ·apply ya O O; exact yq (qfa 6 O yU83 O O yS81)
    ·apply ya O O; exact yq (q_nilCheck O)
    ·apply ya O O; exact yq (q_move O)
    ·apply ya O O; exact yq (q_move O)
    ·apply ya O O; exact yq (qld O yA81)
    ·apply ya O O; exact yq (qfa 6 O yU83 O O yS81)
    ·apply ya O O; exact yq (q_nilCheck O)
    ·apply ya O O; exact yq (q_move O)
   refine d_eff1 [10, 11, 8, 9, 7, 6, 5] [4, 3, 2, 1, 0] 14 [(86, _), (87, _), (89, _)] gO ⟨rfl, rfl, rfl, trivial⟩ (by kernel_rfl) (by kernel_rfl) fun Ex => ?_
   refine lcf O O O (Insert_ok v7 (s1.frL c) i os[j] b89 hpl.1 (by omega)) ?_
   rintro v9 L' rfl
   refine l_nm ?_
   refine l_nil ?_
   apply n_d
   ·refine ⟨?_, ?_, ?_, ?_, ?_, trivial⟩
    ·apply ya O O; exact yq (q_move O)
    ·apply ya O O; exact yq (qld O yA81)
    ·apply ya O O; exact yq (qfa 6 O yU83 O O yS81)
    ·apply ya O O; exact yq (q_nilCheck O)
    ·apply ya O O; exact yq (q_move O)
   refine d_eff1 [3, 4, 0, 1, 2] [] 15 [(79, _), (80, _), (90, _)] gO ⟨rfl, rfl, rfl, trivial⟩ (by kernel_rfl) (by kernel_rfl) fun Ex => ?_
   apply o_mapUpdate keyInt O O O O yU81 yU3
   ·exact tk
   refine l_nil ?_
   apply n_d
   ·exact trivial
   refine d_end (by kernel_rfl) ?_
   refine n_blk<|n_code<|t_region<|l_q O (qadd O O) ?_
   refine mv O O<|l_nil ?_
   refine n_ent (L' := arenaH pa (s1.give os[j]) :: pt p (.cells (ints os).toArray 3 (0, 0)) :: Fr) (Ent.trans (frees_closeT (fl := fl) (k := c) (v := v9) (xs := insL (s1.frL c) i os[j]) (show Take (ownT 3 v9 (ints (insL (s1.frL c) i os[j]))) _ _ from tk) (show Take (freesH (cutFl fl c)) _ _ from tk)) (arena_close (R := pt p (.cells (ints os).toArray 3 (0, 0)) :: Fr) (x := ⟨pm, g, cap, sb, fb, vs, vc, delK lm os[j], putFl fl c (v9, insL (s1.frL c) i os[j])⟩) ⟨hgo, hcap, hcap2, lm_give hok hc hdis hlm, fl_give hok hc hpl hfl v9⟩ (by dsimp only [arP]; rw [hgl, val_putFl, show (s1.give os[j]).limit = s1.limit from rfl, show (s1.give os[j]).stop = s1.stop from rfl, show (s1.give os[j]).all = s1.all from rfl, show (s1.give os[j]).m = s1.m from rfl]; (exact en)))) ?_
   rw [← hnext]
   apply n_again ((j + 1))
   ·exact by omega
   ·omega
   ·exact ⟨O, O, O, O, trivial⟩
   ·exact en
  ·refine xt O<|nz<|asg O O<|lc<|rt ?_
   obtain rfl : j = os.length := by omega
   rw [List.take_length]
   exact fr1 O ([pt p (.cells (ints os).toArray 3 (0, 0)), arenaH pa (s.gives os)]) (.tmp rfl) ⟨rfl, rfl⟩
theorem Free1_ok (pa : Nat) (s : ArS) (p : Nat) (a : Int) (h1 : ∃ c, (a, c) ∈ s.bl) :
  FnOk Try.prog 24 #[.pointer (some ⟨pa, 0, none⟩), .slice (some ⟨p, 0, none⟩) 1 1] [pt p (.cells #[.int .i64 a] 3 (0, 0)), arenaH pa s]
   (fun v L => v = .int .i64 0 ∧ L = [pt p (.cells #[.int .i64 a] 3 (0, 0)), arenaH pa (s.gives [a])]) :=
 Free_ok pa s p 1 [a] rfl (by decide) (by simp) (fun o ho => by rw [List.mem_singleton.1 ho]; exact h1)
end Go.Proofs.Ytjekhcojebgpnaa.Arena
