/- Contracts of package order: add, the loop from below. -/
import Derived.Test.YtjekhcojebgpnaaBtP
import Derived.Test.YtjekhcojebgpnaaBtO
set_option linter.unusedVariables false
set_option linter.unusedSimpArgs false
set_option maxRecDepth 100000
namespace Go.Proofs.Ytjekhcojebgpnaa.Bt
open Go.RowKit Go.Proofs Go.Proofs.Ytjekhcojebgpnaa.Eng Go.Proofs.Ytjekhcojebgpnaa.Ty Go.Proofs.Ytjekhcojebgpnaa.Bits Go.Proofs.Ytjekhcojebgpnaa.Mem Go.Proofs.Ytjekhcojebgpnaa.Search Go.Proofs.Ytjekhcojebgpnaa.Layout Go.Proofs.Ytjekhcojebgpnaa.Arena Go.Proofs.Ytjekhcojebgpnaa.GroupB
/-- A step's cells: the node as it was read, the place. -/
def stepV (a : Nat × BT × Nat) : List Value := (nodeT a.1 a.2.1 ++ List.replicate 26 (Value.int .i64 0)).take 26 ++ [Value.int .i64 ((a.2.2 : Nat) : Int)]
theorem stepV_len (a : Nat × BT × Nat) : (stepV a).length = 27 := by simp [stepV]
theorem stepV_eq {h i lo : Nat} {t : BT} (hk : ok h lo t) : stepV (h, t, i) = nodeT h t ++ [.int .i64 ((i : Nat) : Int)] := by
 unfold stepV
 rw [List.take_append_of_le_length (by rw [nodeT_len hk]; exact Nat.le_refl _), List.take_of_length_le (by rw [nodeT_len hk]; exact Nat.le_refl _)]
theorem stepV_one (a : Nat × BT × Nat) : (stepV a).all (·.oneCell') = true := by
 rw [List.all_eq_true]
 intro v hv
 unfold stepV at hv
 rcases List.mem_append.1 hv with w | w
 ·rcases List.mem_append.1 (List.mem_of_mem_take w) with w | w
  ·exact node_one _ _ _ _ _ _ v w
  ·rw [(List.mem_replicate.1 w).2]; rfl
 ·rw [List.mem_singleton.1 w]; rfl
theorem way_cell {aw : Nat} {cw n : Nat} {path : List (Nat × BT × Nat)} {c : Nat} {h i : Nat} {t : BT} (hk : ok h 1 t) (ha : path[c]? = some (h, t, i)) {j : Nat} {v : Value} (hv : (nodeT h t ++ [.int .i64 ((i : Nat) : Int)])[j]? = some v) :
  CellAt (ownS 111 27 (.slice (some ⟨aw, 0, none⟩) n cw) n (rowOf stepV path)) ((⟨aw, c * 27, none⟩ : Addr).add j) v := by
 have hj : j < 27 := by have := (List.getElem?_eq_some_iff.1 hv).1; rw [List.length_append, nodeT_len hk] at this; exact this
 rw [add_none]
 exact own_cell (by rw [rowOf_get stepV_len path c j _ ha hj, stepV_eq hk]; exact hv)
theorem ofs_at {os : List Nat} {j o : Nat} (h : os[j]? = some o) : (ints (os.map Int.ofNat))[j]? = some (.int .i64 ((o : Nat) : Int)) := by
 unfold ints
 rw [List.map_map, List.getElem?_map, h]; rfl
/-- The kids behind a put into a node. -/
theorem put_kids {h n i r : Nat} {t : BT} (hk : ok h 1 t) (hn : t.ps.length = n) (h6 : n ≤ 6) (hi : i ≤ n) (hr : h = 0 → r = 0) : (layA (pad 0 8 (t.ks.map BT.o)) (i + 2) (((pad 0 8 (t.ks.map BT.o)).drop (i + 1)).take (n - i))).set (i + 1) r = pad 0 8 (kidsP h t i r) := by
 unfold kidsP
 cases h with
 | zero =>
  rw [hr rfl, hk.2.2]
  exact kids_put0 h6 hi
 | succ h =>
  rw [if_neg (by omega)]
  exact kids_put (by rw [List.length_map]; have := hk.2.2.1; omega) h6 hi
section
variable (pa off : Nat) (s : ArS) {l : Lay} (hl : l.err = 0)
include hl
theorem add_ok (hs : s.ok) (ph : Nat) (x : TX) (k e : ByteArray) (os : List Nat) (u nn cw co : Nat) (aw ao : Option Addr) (hk : k.size = kN l) (he : e.size = eN l) (hE : ∀ a ∈ pathX x k, AddE l s os k a.1 a.2.1) (hX : AddX l s.m os k x)
  (hb : (((off : Nat) : Int), 64) ∈ s.bl) (hoff : off ≤ 1000000000) (hoa : ∀ o ∈ x.offs ++ os, off + 64 ≤ o ∨ o + nbN l ≤ off) (hou : ∀ o ∈ os, blkN l o ∈ s.bl) (hob : ∀ o ∈ x.offs ++ os, o ≤ 1000000000) (hu : u = x.L.length) (hub : u ≤ 1000000000) (hnb : nn ≤ 1000000000) (hhb : x.height ≤ 1000000000) (hrb : x.root ≤ 1000000000) (hx0 : x.root = 0 ↔ x = none)
  (haw : x ≠ none → ∃ gw, aw = some ⟨gw, 0, none⟩) (hao : os ≠ [] → ∃ go, ao = some ⟨go, 0, none⟩) (hco : os.length ≤ co) :
  FnOk Try.prog 51 #[.agg #[.pointer (some ⟨pa, 0, none⟩), .int .i64 l.key, .int .i64 l.elem, .int .i64 l.ka, .int .i64 l.ea, .int .i64 l.cap, .int .i64 l.eo, .int .i64 l.bo, .int .i64 l.slot, .int .i64 l.group, .int .i64 ((off : Nat) : Int)], .pointer (some ⟨ph, 0, none⟩), .slice aw (pathX x k).length cw, .agg #[.string k, .string e], .slice ao os.length co] [pt ph (.cells #[.int .i64 ((u : Nat) : Int), .int .i64 ((x.root : Nat) : Int), .int .i64 ((x.height : Nat) : Int), .int .i64 ((nn : Nat) : Int)] 57 (0, 0)), ownS 111 27 (.slice aw (pathX x k).length cw) (pathX x k).length (rowOf stepV (pathX x k)), ownS 3 1 (.slice ao (os).length co) (os).length (ints ((os).map Int.ofNat)), arenaH pa s]
   (fun v L => ∃ m', v = .tuple #[] ∧ L = [arenaH pa (wm s m')] ∧ (loadN m' off 8 = ((u + 1 : Nat) : Int) ∧ loadN m' (off + 8) 8 = (((addX x (k, e) os).root : Nat) : Int) ∧ loadN m' (off + 16) 8 = (((addX x (k, e) os).height : Nat) : Int) ∧ loadN m' (off + 24) 8 = ((nn : Nat) : Int)) ∧
    (∀ h t, addX x (k, e) os = some (h, t) → TreeM l m' h t) ∧ ∀ a, Away l (x.offs ++ os) a → (a < off ∨ off + 64 ≤ a) → m' a = s.m a) := by
 refine fn_intro en51 Try.func51 rfl rfl rfl fun Fr w0 => t_nm ?_
 have hpl : (pathX x k).length = x.height := by cases x with | none => rfl | some y => exact path_len
 refine sr<|o_boxA O O fun b5 => o_boxA O O fun b8 => lz<|asg O O<|lc<|t_seq<|sr<|mv O O<|l_q O (ql O yU109)<|l_q O (qsub O O) ?_
 refine asg O O<|lc<|t_block ?_
 refine t_loop (fun y : Nat × (Nat → Int) × Pr × Nat × Nat × Value => ∃ cur, AddI l s os k e (pathX x k) y.1 cur y.2.1 y.2.2.1 y.2.2.2.1 y.2.2.2.2.1 ∧ (y.2.2.2.2.1 < os.length → ∃ go, ao = some ⟨go, 0, none⟩ ∧ y.2.2.2.2.2 = .slice (some ⟨go, y.2.2.2.2.1, none⟩) (os.length - y.2.2.2.2.1) (co - y.2.2.2.2.1)) ∧ y.2.2.2.1 ≤ 1000000000) (fun y => [(1, .pointer (some ⟨ph, 0, none⟩)), (2, .slice aw (pathX x k).length cw), (4, y.2.2.2.2.2), (5, .pointer (some ⟨b5, 0, none⟩)), (8, .pointer (some ⟨b8, 0, none⟩)), (10, .int .i64 ((y.2.2.2.1 : Nat) : Int)), (11, .int .i64 (((y.1 : Nat) : Int) - 1))]) (fun y => pt b8 (.cells #[.string y.2.2.1.1, .string y.2.2.1.2] 69 (0, 0)) :: pt b5 (.cells #[.pointer (some ⟨pa, 0, none⟩), .int .i64 l.key, .int .i64 l.elem, .int .i64 l.ka, .int .i64 l.ea, .int .i64 l.cap, .int .i64 l.eo, .int .i64 l.bo, .int .i64 l.slot, .int .i64 l.group, .int .i64 ((off : Nat) : Int)] 27 (0, 0)) :: pt ph (.cells #[.int .i64 ((u : Nat) : Int), .int .i64 ((x.root : Nat) : Int), .int .i64 ((x.height : Nat) : Int), .int .i64 ((nn : Nat) : Int)] 57 (0, 0)) :: ownS 111 27 (.slice aw (pathX x k).length cw) (pathX x k).length (rowOf stepV (pathX x k)) :: ownS 3 1 (.slice ao (os).length co) (os).length (ints ((os).map Int.ofNat)) :: arenaH pa (wm s y.2.1) :: Fr) (fun y => y.1) ((pathX x k).length, s.m, (k, e), 0, 0, .slice ao os.length co) ⟨none, ⟨Nat.le_refl _, by rw [List.drop_length]; rfl, fun _ => ⟨rfl, rfl, rfl, rfl⟩, fun h t w => by cases w⟩, fun w => by obtain ⟨go, rfl⟩ := hao (fun e => by rw [e] at w; exact absurd w (Nat.lt_irrefl 0)); exact ⟨go, rfl, rfl⟩, Nat.zero_le _⟩ ⟨rfl, rfl, rfl, rfl, rfl, rfl, rfl, trivial⟩ (by rw [wm_self]; (exact en)) ?_
 rintro ⟨c, m, P, right, jn, vo⟩ ⟨cur, I, hvo, hrt⟩
 dsimp only at I hvo hrt ⊢
 have hcl := I.cl
 refine t_seq<|sr<|mv O O<|l_q O (qi O O (b_geq ·))<|lc<|t_if O (fun q => ?_) fun q => ?_
 ·skip
  obtain ⟨c', rfl⟩ : ∃ c', c = c' + 1 := ⟨c - 1, by omega⟩
  obtain ⟨⟨h, t, i⟩, ha⟩ : ∃ a, (pathX x k)[c']? = some a := ⟨_, List.getElem?_eq_getElem (by omega)⟩
  obtain ⟨gw, rfl⟩ := haw (fun e => by subst e; simp [pathX] at hcl)
  obtain ⟨hirk, hcur, E, _⟩ := I.at hl hs hk he hE ha
  have hok := E.H.ok
  have h7 := (ok_len hok).2
  have hk8 := ks_len hok
  have hci : ((((c' + 1 : Nat) : Nat) : Int) - 1).toNat = c' := by omega
  have hile : i ≤ t.ps.length := by rw [hirk]; exact rk_le _ _
  have htot := E.tot
  have hkPl : t.ps.length < 7 → (kidsP h t i right).length ≤ 8 := fun w => by
   unfold kidsP
   split
   ·simp
   ·next z =>
    rw [ins_len, List.length_map]
    cases h with
    | zero => exact absurd rfl z
    | succ g => have := hok.2.2.1; omega
  have hpz : ∀ p ∈ t.ps, szs l p := fun p hp => E.sz p (ps_mem hok p hp)
  have hkb9 : ∀ z ∈ pad 0 8 (t.ks.map BT.o), z ≤ 1000000000 := fun z hz => by
   unfold pad at hz
   rcases List.mem_append.1 hz with w | w
   ·obtain ⟨cc, hcc, rfl⟩ := List.mem_map.1 w
    cases h with
    | zero => rw [hok.2.2] at hcc; cases hcc
    | succ g =>
     have hm : cc.o ∈ offs g cc := by cases g <;> simp [offs]
     exact (bl_bnd hs (E.bl _ (List.mem_append_left _ (offs_kid hcc _ hm)))).2
   ·rw [(List.mem_replicate.1 w).2]; omega
  have hkb : ∀ z ∈ t.ks.map BT.o, z < 9223372036854775808 := fun z hz => by have := hkb9 z (by unfold pad; exact List.mem_append_left _ hz); omega
  have hkPb : ∀ z ∈ kidsP h t i right, z < 9223372036854775808 := fun z hz => by
   unfold kidsP at hz
   split at hz
   ·cases hz
   ·rcases ins_mem hz with rfl | w
    ·omega
    ·exact hkb z w
  have hPz : P.1 ≠ ⟨#[]⟩ → szs l P := fun w => by
   rcases I.pair hl hs hk he hE with ⟨w2, _⟩ | ⟨_, w2, _⟩
   ·exact absurd w2 w
   ·exact w2
  have hpP : P.1 ≠ ⟨#[]⟩ → ∀ p ∈ ins t.ps i P, szs l p := fun w p hp => by
   rcases ins_mem hp with rfl | hp
   ·exact hPz w
   ·exact hpz p hp
  have hto : blkN l t.o ∈ s.bl := E.bl _ (List.mem_append_left _ (by cases h <;> simp [offs]))
  have htob := (bl_bnd hs hto).2
  have hr0 : h = 0 → right = 0 := fun e => (I.st0 (by rw [hcur, e]; rfl)).2.1
  refine t_skip<|n_code<|t_seq<|t_block<|t_seq<|t_draw mixed ?_
  apply dq 0 O
  ·exact yq (q_move O)
  apply dq 1 O
  ·exact yq (q_move O)
  apply dq 2 O
  ·exact yq (q_indexAddr O O yU109 yS111 (by omega))
  apply dq 3 O
  ·exact yq (qfa 0 O yU111 O O yS73)
  apply dq 4 O
  ·apply yq
   apply q_loadRA (A := ownS 111 27 (.slice (some ⟨gw, 0, none⟩) (pathX x k).length cw) (pathX x k).length (rowOf stepV (pathX x k))) (us := nodeT h t) rfl yA73 yS73 (nodeT_len hok)
   ·exact tk
   ·intro j u hu; rw [hci, Nat.zero_add, Nat.add_zero]; exact way_cell hok ha (by rw [List.getElem?_append_left (List.getElem?_eq_some_iff.1 hu).1]; exact hu)
  apply dq 5 O
  ·exact yq (q_move O)
  apply dq 6 O
  ·exact yq (q_move O)
  apply dq 7 O
  ·exact yq (q_indexAddr O O yU109 yS111 (by omega))
  apply dq 8 O
  ·exact yq (qfa 26 O yU111 O O yS3)
  apply dq 9 O
  ·apply yq
   apply q_loadR (A := ownS 111 27 (.slice (some ⟨gw, 0, none⟩) (pathX x k).length cw) (pathX x k).length (rowOf stepV (pathX x k))) (v := .int .i64 ((i : Nat) : Int)) rfl yA3
   ·exact tk
   ·rw [hci, Nat.zero_add]; have := way_cell (aw := gw) (cw := cw) (n := (pathX x k).length) hok ha (j := 26) (v := .int .i64 ((i : Nat) : Int)) (by rw [List.getElem?_append_right (by rw [nodeT_len hok]; exact Nat.le_refl _), nodeT_len hok]; rfl); rwa [add_none] at this
  refine d_eff1 [] [9, 8, 7, 6, 5, 4, 3, 2, 1, 0] 10 [] gO trivial (by kernel_rfl) (by kernel_rfl) fun Ex => ?_
  refine o_allocA O yZ73 fun b12 => l_nil ?_
  apply n_d
  ·refine ⟨?_, ?_, ?_, ?_, ?_, ?_, ?_, ?_, ?_, ?_, trivial⟩
   ·apply ya O O
    apply yq
    apply q_loadR (A := ownS 111 27 (.slice (some ⟨gw, 0, none⟩) (pathX x k).length cw) (pathX x k).length (rowOf stepV (pathX x k))) (v := .int .i64 ((i : Nat) : Int)) rfl yA3
    ·exact tk
    ·rw [hci, Nat.zero_add]; have := way_cell (aw := gw) (cw := cw) (n := (pathX x k).length) hok ha (j := 26) (v := .int .i64 ((i : Nat) : Int)) (by rw [List.getElem?_append_right (by rw [nodeT_len hok]; exact Nat.le_refl _), nodeT_len hok]; rfl); rwa [add_none] at this
   ·apply ya O O; exact yq (qfa 26 O yU111 O O yS3)
   ·apply ya O O; exact yq (q_indexAddr O O yU109 yS111 (by omega))
   ·apply ya O O; exact yq (q_move O)
   ·apply ya O O; exact yq (q_move O)
   ·apply ya O O
    apply yq
    apply q_loadRA (A := ownS 111 27 (.slice (some ⟨gw, 0, none⟩) (pathX x k).length cw) (pathX x k).length (rowOf stepV (pathX x k))) (us := nodeT h t) rfl yA73 yS73 (nodeT_len hok)
    ·exact tk
    ·intro j u hu; rw [hci, Nat.zero_add, Nat.add_zero]; exact way_cell hok ha (by rw [List.getElem?_append_left (List.getElem?_eq_some_iff.1 hu).1]; exact hu)
   ·apply ya O O; exact yq (qfa 0 O yU111 O O yS73)
   ·apply ya O O; exact yq (q_indexAddr O O yU109 yS111 (by omega))
   ·apply ya O O; exact yq (q_move O)
   ·apply ya O O; exact yq (q_move O)
  refine d_eff1 [4, 0, 1, 2, 3, 9, 8, 7, 5, 6] [] 11 [(12, _), (27, _)] gO ⟨rfl, rfl, trivial⟩ (by kernel_rfl) (by kernel_rfl) fun Ex => ?_
  apply o_storeP (us := nodeT h t) (xs' := nodeT h t) rfl rfl rfl yS73 (nodeT_len hok) (List.all_eq_true.2 (node_one _ _ _ _ _ _))
  ·exact tk
  ·decide
  ·exact lay_full (by rw [nodeT_len hok]; rfl)
  refine l_nil ?_
  apply n_d
  ·exact trivial
  refine d_eff1 [] [] 12 [(32, _)] gO ⟨rfl, trivial⟩ (by kernel_rfl) (by kernel_rfl) fun Ex => ?_
  refine asg O O<|l_nil ?_
  apply n_d
  ·exact trivial
  refine d_end (by kernel_rfl) ?_
  refine n_code<|t_seq<|sr<|l_q O (qfa 0 O yU69 O O yS9)<|l_q O (qld O yA9) ?_
  refine l_q O (qs O O (b_eqlS ·))<|lc<|t_if O (fun p1 => ?_) fun p1 => ?_
  ·refine sr<|l_q O (qfa 2 O yU73 O O yS3)<|l_q O (qld O yA3) ?_
   refine l_q O (qadd O O) ?_
   refine l_q O (qfa 2 O yU73 O O yS3)<|st O O O yS3 O ?_
   refine lz<|l_q O (qlda O yA27 yS27) ?_
   apply l_q O
   ·apply q_loadP (us := nodeC t.o ((t.ps.length : Nat) : Int) ((Bt.tot h t + 1 : Nat) : Int) (decide (h = 0)) (pad p0 7 t.ps) (pad 0 8 (t.ks.map BT.o))) rfl yA73 yS73
    ·exact tk
    ·exact Nat.le_of_eq (nodeC_len (pad_len h7) (pad_len hk8)).symm
    ·exact List.take_of_length_le (Nat.le_of_eq (nodeC_len (pad_len h7) (pad_len hk8)))
   refine lcf O O O (write_ok pa ((off : Nat) : Int) (wm s m) hl t.o t.ps (decide (h = 0)) (t.ks.map BT.o) (Bt.tot h t + 1) htob hto h7 hk8 hkb (by omega) hpz) ?_
   rintro v L' ⟨m2, rfl, rfl, hN, hO⟩
   refine l_nm ?_
   refine lc<|xt O<|n_code<|t_region<|mv O O<|l_q O (qsub O O) ?_
   refine asg O O<|l_nil ?_
   rw [wm_wm]
   apply n_again ((c', m2, P, right, jn, vo))
   ·exact ⟨_, I.stepA hl hs hk he hE ha p1 hN hO, hvo, hrt⟩
   ·exact Nat.lt_succ_self _
   ·exact ⟨rfl, rfl, rfl, rfl, rfl, rfl, congrArg (fun z => some (Value.int .i64 z)) (by dsimp only; omega), trivial⟩
   ·exact en
  ·refine t_skip<|n_code<|t_seq<|sr<|l_q O (qfa 1 O yU73 O O yS3)<|l_q O (qld O yA3) ?_
   refine l_q O (qi O O (b_lss ·))<|lc<|t_if O (fun p2 => ?_) fun p2 => ?_
   ·have h6 : t.ps.length < 7 := by omega
    have hkP := hkPl h6
    refine sr<|mv O O<|l_q O (qlda O yA69 yS69) ?_
    refine mv O O<|lc1 O O O (NPut_ok b12 t.ps.length i _ _ _ t.ps (t.ks.map BT.o) P right O (by omega) hk8 hile) ?_
    rw [put_kids hok rfl (by omega) hile hr0]
    refine lz<|l_q O (qfa 2 O yU73 O O yS3)<|l_q O (qld O yA3) ?_
    refine l_q O (qadd O O) ?_
    refine l_q O (qfa 2 O yU73 O O yS3)<|st O O O yS3 O ?_
    refine lz<|l_q O (qlda O yA27 yS27) ?_
    apply l_q O
    ·apply q_loadP (us := nodeC t.o ((t.ps.length + 1 : Nat) : Int) ((Bt.tot h t + 1 : Nat) : Int) (decide (h = 0)) (pad p0 7 (ins t.ps i P)) (pad 0 8 (kidsP h t i right))) rfl yA73 yS73
     ·exact tk
     ·exact Nat.le_of_eq (nodeC_len (pad_len (by rw [ins_len]; omega)) (pad_len hkP)).symm
     ·exact List.take_of_length_le (Nat.le_of_eq (nodeC_len (pad_len (by rw [ins_len]; omega)) (pad_len hkP)))
    refine lcf O O O (writeN_ok pa ((off : Nat) : Int) (wm s m) hl t.o (t.ps.length + 1) (ins t.ps i P) (decide (h = 0)) (kidsP h t i right) (Bt.tot h t + 1) (ins_len _ _ _) htob hto (by omega) hkP hkPb (by omega) (hpP p1)) ?_
    rintro v L' ⟨m2, rfl, rfl, hN, hO⟩
    refine l_nm ?_
    refine lz ?_
    apply l_q O
    ·apply q_buildS O yP69 yZ69
     ·exact FillR.nil
    refine sta O O O yS69 O O ?_
    refine lc<|xt O<|n_code<|t_region<|mv O O<|l_q O (qsub O O) ?_
    refine asg O O<|l_nil ?_
    rw [wm_wm]
    apply n_again ((c', m2, p0, right, jn, vo))
    ·exact ⟨_, I.stepB hl hs hk he hE ha p1 h6 hN hO, hvo, hrt⟩
    ·exact Nat.lt_succ_self _
    ·exact ⟨rfl, rfl, rfl, rfl, rfl, rfl, congrArg (fun z => some (Value.int .i64 z)) (by dsimp only; omega), trivial⟩
    ·exact en
   ·skip
    have h77 : t.ps.length = 7 := by omega
    obtain ⟨o2, ho2, ho2m, ho2d⟩ := I.block hl hs hk he hE ha p1 h77
    obtain ⟨go, rfl, rfl⟩ := hvo (List.getElem?_eq_some_iff.1 ho2).1
    have hjl := (List.getElem?_eq_some_iff.1 ho2).1
    have ho2b := (bl_bnd hs (hou _ ho2m)).2
    obtain ⟨hT, hTs⟩ := I.split hl hs hk he hE ha p1 h77
    refine t_skip<|n_code<|t_seq<|t_draw mixed ?_
    apply dq 0 O
    ·exact yq (q_move O)
    apply dq 1 O
    ·apply yq
     first | exact q_indexAddrC 0 O O yU28 yS3 (by omega) | exact q_indexAddr1 O O yU28 yS3 (by omega)
    apply dq 2 O
    ·apply yq
     apply q_loadOwn (v := .int .i64 ((o2 : Nat) : Int)) rfl yA3
     ·exact tk
     ·exact ofs_at ho2
    apply dq 3 O
    ·exact yq (qfa 3 O yU73 O O yS4)
    apply dq 4 O
    ·exact yq (qld O yA4)
    apply dq 5 O
    ·apply yq
     apply q_buildS O yP73 yZ73
     ·apply FillR.one
      ·repeat (first | exact PlAt.here | apply PlAt.there)
      ·rfl
      ·exact sa
      apply FillR.one
      ·repeat (first | exact PlAt.here | apply PlAt.there)
      ·rfl
      ·exact sa
      exact FillR.nil
    refine d_eff1 [] [5, 4, 3, 2, 1, 0] 6 [] gO trivial (by kernel_rfl) (by kernel_rfl) fun Ex => ?_
    refine o_allocA O yZ73 fun b14 => l_nil ?_
    apply n_d
    ·refine ⟨?_, ?_, ?_, ?_, ?_, ?_, trivial⟩
     ·apply ya O O
      apply yq
      apply q_buildS O yP73 yZ73
      ·apply FillR.one
       ·repeat (first | exact PlAt.here | apply PlAt.there)
       ·rfl
       ·exact sa
       apply FillR.one
       ·repeat (first | exact PlAt.here | apply PlAt.there)
       ·rfl
       ·exact sa
       exact FillR.nil
     ·apply ya O O; exact yq (qld O yA4)
     ·apply ya O O; exact yq (qfa 3 O yU73 O O yS4)
     ·apply ya O O
      apply yq
      apply q_loadOwn (v := .int .i64 ((o2 : Nat) : Int)) rfl yA3
      ·exact tk
      ·exact ofs_at ho2
     ·apply ya O O
      apply yq
      first | exact q_indexAddrC 0 O O yU28 yS3 (by omega) | exact q_indexAddr1 O O yU28 yS3 (by omega)
     ·apply ya O O; exact yq (q_move O)
    refine d_eff1 [5, 0, 1, 2, 3, 4] [] 7 [(14, _), (63, _)] gO ⟨rfl, rfl, trivial⟩ (by kernel_rfl) (by kernel_rfl) fun Ex => ?_
    apply o_storeP (us := nodeC o2 0 0 (decide (h = 0)) (List.replicate 7 p0) (List.replicate 8 0)) (xs' := nodeC o2 0 0 (decide (h = 0)) (List.replicate 7 p0) (List.replicate 8 0)) rfl rfl rfl yS73 rfl rfl
    ·exact tk
    ·exact Nat.le_refl 26
    ·rfl
    refine l_nil ?_
    apply n_d
    ·exact trivial
    refine d_end (by kernel_rfl) ?_
    refine nz<|mv O O<|l_q O (q_slice_l O O  yU28 yS3 (by omega)) ?_
    refine asg O O<|lz<|l_q O (qlda O yA27 yS27) ?_
    refine mv O O<|l_q O (qlda O yA69 yS69) ?_
    refine mv O O ?_
    rw [show nodeT h t = nodeC t.o ((7 : Nat) : Int) ((Bt.tot h t : Nat) : Int) (decide (h = 0)) t.ps (pad 0 8 (t.ks.map BT.o)) from by unfold nodeT; rw [h77, pad_full h77]]
    refine lcf O O O (split_ok pa ((off : Nat) : Int) (wm s m) hl b12 b14 t.o o2 (Bt.tot h t) i (decide (h = 0)) t.ps (pad 0 8 (t.ks.map BT.o)) P right (splitT os k e h t) h77 (pad_len hk8) (by omega) htob ho2b hto (hou _ ho2m) ho2d hkb9 hrt htot hpz (hPz p1) hT hTs) ?_
    rintro v L' ⟨m2, Q3, hQ3, rfl, rfl, hN1, hN2, hO⟩
    refine l_nm ?_
    refine sta O O O yS69 O O ?_
    refine lr<|l_q O (qfa 0 O yU73 O O yS3)<|l_q O (qld O yA3) ?_
    refine asg O O<|l_nil<|n_blk<|n_code<|t_region<|mv O O<|l_q O (qsub O O) ?_
    refine asg O O<|l_nil ?_
    rw [wm_wm]
    apply n_again ((c', m2, Q3, o2, jn + 1, .slice (some ⟨go, tailAt jn (1 : Int).toNat (co - jn), none⟩) (os.length - jn - (1 : Int).toNat) (co - jn - (1 : Int).toNat)))
    ·exact ⟨_, I.stepC hl hs hk he hE ha p1 h77 ho2 hQ3 hN1 hN2 hO, fun w => ⟨go, rfl, by dsimp only at w ⊢; rw [show (1 : Int).toNat = 1 from rfl, tailAt_lt (by omega), Nat.sub_sub, Nat.sub_sub]⟩, ho2b⟩
    ·exact Nat.lt_succ_self _
    ·exact ⟨rfl, rfl, rfl, rfl, rfl, rfl, congrArg (fun z => some (Value.int .i64 z)) (by dsimp only; omega), trivial⟩
    ·exact en
 ·obtain rfl : c = 0 := by omega
  obtain ⟨hcx, hsame⟩ := I.fin hl hs hk he hE
  obtain ⟨g1, g2, g3, _, g5⟩ := addX_law (e := e) hX
  refine xt O<|n_code<|t_seq<|sr<|l_q O (qfa 0 O yU69 O O yS9)<|l_q O (qld O yA9) ?_
  refine l_q O (qs O O (b_neqS ·))<|lc ?_
  apply t_cut (p := (fun y : (Nat → Int) × Nat × Nat => (y.2.1 = (addX x (k, e) os).root ∧ y.2.2 = (addX x (k, e) os).height) ∧ (∀ h t, addX x (k, e) os = some (h, t) → TreeM l y.1 h t) ∧ ∀ a, Away l (x.offs ++ os) a → y.1 a = s.m a)) (EE := (fun y => [(1, .pointer (some ⟨ph, 0, none⟩)), (5, .pointer (some ⟨b5, 0, none⟩))])) (LL := (fun y => pt ph (.cells #[.int .i64 ((u : Nat) : Int), .int .i64 ((y.2.1 : Nat) : Int), .int .i64 ((y.2.2 : Nat) : Int), .int .i64 ((nn : Nat) : Int)] 57 (0, 0)) :: pt b5 (.cells #[.pointer (some ⟨pa, 0, none⟩), .int .i64 l.key, .int .i64 l.elem, .int .i64 l.ka, .int .i64 l.ea, .int .i64 l.cap, .int .i64 l.eo, .int .i64 l.bo, .int .i64 l.slot, .int .i64 l.group, .int .i64 ((off : Nat) : Int)] 27 (0, 0)) :: arenaH pa (wm s y.1) :: Fr))
  refine t_if O (fun p1 => ?_) fun p1 => ?_
  ·obtain ⟨o2, ho2, ho2m, f1, f2, f3⟩ := I.finB hl hs hk he hE hX p1 hx0
   obtain ⟨go, rfl, rfl⟩ := hvo (List.getElem?_eq_some_iff.1 ho2).1
   have hjl := (List.getElem?_eq_some_iff.1 ho2).1
   have ho2b := (bl_bnd hs (hou _ ho2m)).2
   have hPz : szs l P := by
    rcases I.pair hl hs hk he hE with ⟨w, _⟩ | ⟨_, w, _⟩
    ·exact absurd w p1
    ·exact w
   refine t_seq<|t_draw mixed ?_
   apply dq 0 O
   ·exact yq (q_move O)
   apply dq 1 O
   ·apply yq
    first | exact q_indexAddrC 0 O O yU28 yS3 (by omega) | exact q_indexAddr1 O O yU28 yS3 (by omega)
   apply dq 2 O
   ·apply yq
    apply q_loadOwn (v := .int .i64 ((o2 : Nat) : Int)) rfl yA3
    ·exact tk
    ·exact ofs_at ho2
   apply dq 3 O
   ·exact yq (q_move O)
   apply dq 4 O
   ·exact yq (q_nilCheck O)
   apply dq 5 O
   ·exact yq (qfa 1 O yU57 O O yS3)
   apply dq 6 O
   ·exact yq (qld O yA3)
   apply dq 7 O
   ·exact yq (qi O O (b_eql ·))
   apply dq 8 O
   ·exact yq (q_move O)
   apply dq 9 O
   ·exact yq (q_nilCheck O)
   apply dq 10 O
   ·exact yq (qfa 0 O yU57 O O yS3)
   apply dq 11 O
   ·exact yq (qld O yA3)
   apply dq 12 O
   ·exact yq (qadd O O)
   apply dq 13 O
   ·apply yq
    apply q_buildS O yP73 yZ73
    ·apply FillR.one
     ·repeat (first | exact PlAt.here | apply PlAt.there)
     ·rfl
     ·exact sa
     apply FillR.one
     ·repeat (first | exact PlAt.here | apply PlAt.there)
     ·rfl
     ·exact sa
     apply FillR.one
     ·repeat (first | exact PlAt.here | apply PlAt.there)
     ·rfl
     ·exact sa
     apply FillR.one
     ·repeat (first | exact PlAt.here | apply PlAt.there)
     ·rfl
     ·exact sa
     exact FillR.nil
   refine d_eff1 [] [13, 12, 11, 10, 9, 8, 7, 6, 5, 4, 3, 2, 1, 0] 14 [] gO trivial (by kernel_rfl) (by kernel_rfl) fun Ex => ?_
   refine o_allocA O yZ73 fun b15 => l_nil ?_
   apply n_d
   ·refine ⟨?_, ?_, ?_, ?_, ?_, ?_, ?_, ?_, ?_, ?_, ?_, ?_, ?_, ?_, trivial⟩
    ·apply ya O O
     apply yq
     apply q_buildS O yP73 yZ73
     ·apply FillR.one
      ·repeat (first | exact PlAt.here | apply PlAt.there)
      ·rfl
      ·exact sa
      apply FillR.one
      ·repeat (first | exact PlAt.here | apply PlAt.there)
      ·rfl
      ·exact sa
      apply FillR.one
      ·repeat (first | exact PlAt.here | apply PlAt.there)
      ·rfl
      ·exact sa
      apply FillR.one
      ·repeat (first | exact PlAt.here | apply PlAt.there)
      ·rfl
      ·exact sa
      exact FillR.nil
    ·apply ya O O; exact yq (qadd O O)
    ·apply ya O O; exact yq (qld O yA3)
    ·apply ya O O; exact yq (qfa 0 O yU57 O O yS3)
    ·apply ya O O; exact yq (q_nilCheck O)
    ·apply ya O O; exact yq (q_move O)
    ·apply ya O O; exact yq (qi O O (b_eql ·))
    ·apply ya O O; exact yq (qld O yA3)
    ·apply ya O O; exact yq (qfa 1 O yU57 O O yS3)
    ·apply ya O O; exact yq (q_nilCheck O)
    ·apply ya O O; exact yq (q_move O)
    ·apply ya O O
     apply yq
     apply q_loadOwn (v := .int .i64 ((o2 : Nat) : Int)) rfl yA3
     ·exact tk
     ·exact ofs_at ho2
    ·apply ya O O
     apply yq
     first | exact q_indexAddrC 0 O O yU28 yS3 (by omega) | exact q_indexAddr1 O O yU28 yS3 (by omega)
    ·apply ya O O; exact yq (q_move O)
   refine d_eff1 [13, 0, 1, 2, 3, 4, 5, 6, 7, 8, 9, 10, 11, 12] [] 15 [(15, _), (89, _)] gO ⟨rfl, rfl, trivial⟩ (by kernel_rfl) (by kernel_rfl) fun Ex => ?_
   apply o_storeP (us := nodeC o2 1 (((u : Nat) : Int) + 1) (decide (((x.root : Nat) : Int) = 0)) (List.replicate 7 p0) (List.replicate 8 0)) (xs' := nodeC o2 1 (((u : Nat) : Int) + 1) (decide (((x.root : Nat) : Int) = 0)) (List.replicate 7 p0) (List.replicate 8 0)) rfl rfl rfl yS73 rfl rfl
   ·exact tk
   ·exact Nat.le_refl 26
   ·rfl
   refine l_nil ?_
   apply n_d
   ·exact trivial
   refine d_end (by kernel_rfl) ?_
   refine nz<|l_q O (qlda O yA69 yS69) ?_
   refine l_q O (qfa 4 O yU73 O O yS70)<|l_q O (q_indexAddrA O O yU70 yS69 (by omega)) ?_
   apply o_storeP (us := [.string P.1, .string P.2]) (xs' := nodeC o2 1 (((u : Nat) : Int) + 1) (decide (((x.root : Nat) : Int) = 0)) (pad p0 7 [P]) (List.replicate 8 0)) rfl rfl rfl yS69 rfl rfl
   ·exact tk
   ·exact (by decide : 6 ≤ 26)
   ·rfl
   refine lz<|mv O O<|l_q O (q_nilCheck O)<|l_q O (qfa 1 O yU57 O O yS3)<|l_q O (qld O yA3) ?_
   refine mv O O<|l_q O (qfa 18 O yU73 O O yS71)<|l_q O (q_indexAddrA O O yU71 yS3 (by omega)) ?_
   apply o_storeP1 (v := kV x.root) (xs' := nodeC o2 1 (((u : Nat) : Int) + 1) (decide (((x.root : Nat) : Int) = 0)) (pad p0 7 [P]) (pad 0 8 [x.root])) rfl rfl rfl yS3 rfl
   ·exact tk
   ·exact (by decide : 18 < 26)
   ·rfl
   refine l_q O (qfa 18 O yU73 O O yS71)<|l_q O (q_indexAddrA O O yU71 yS3 (by omega)) ?_
   apply o_storeP1 (v := kV right) (xs' := nodeC o2 1 (((u : Nat) : Int) + 1) (decide (((x.root : Nat) : Int) = 0)) (pad p0 7 [P]) (pad 0 8 [x.root, right])) rfl rfl rfl yS3 rfl
   ·exact tk
   ·exact (by decide : 19 < 26)
   ·rfl
   refine lz<|l_q O (qlda O yA27 yS27) ?_
   apply l_q O
   ·apply q_loadP (us := nodeC o2 ((1 : Nat) : Int) ((u + 1 : Nat) : Int) (decide (((x.root : Nat) : Int) = 0)) (pad p0 7 [P]) (pad 0 8 [x.root, right])) rfl yA73 yS73
    ·exact tk
    ·exact Nat.le_refl 26
    ·rfl
   refine lcf O O O (writeN_ok pa ((off : Nat) : Int) (wm s m) hl o2 1 [P] (decide (((x.root : Nat) : Int) = 0)) [x.root, right] (u + 1) rfl ho2b (hou _ ho2m) (by omega) (by simp) (by intro z hz; simp at hz; omega) (by omega) (by intro z hz; rw [List.mem_singleton.1 hz]; exact hPz)) ?_
   rintro v L' ⟨m2, rfl, rfl, hN, hO⟩
   refine l_nm ?_
   refine lz<|mv O O<|l_q O (qfa 0 O yU73 O O yS3)<|l_q O (qld O yA3) ?_
   refine l_q O (q_nilCheck O)<|l_q O (qfa 1 O yU57 O O yS3)<|st O O O yS3 O ?_
   refine lr<|mv O O<|l_q O (q_nilCheck O)<|l_q O (qfa 2 O yU57 O O yS3)<|l_q O (qld O yA3) ?_
   refine l_q O (qadd O O) ?_
   refine l_q O (q_nilCheck O)<|l_q O (qfa 2 O yU57 O O yS3)<|st O O O yS3 O ?_
   refine l_nil ?_
   rw [wm_wm]
   apply n_join ((m2, o2, x.height + 1))
   ·exact ⟨⟨f1.symm, f2.symm⟩, f3 m2 (by rw [← hu]; exact hN) hO, fun a ha => (hO a (ha o2 (by simp [ho2m]))).trans (hsame a ha)⟩
   ·exact ⟨O, O, trivial⟩
   ·exact en
  ·obtain ⟨f1, f2, f3⟩ := I.finA hl hs hk he hE (by simpa using p1)
   refine t_skip ?_
   apply n_join ((m, x.root, x.height))
   ·exact ⟨⟨f1.symm, f2.symm⟩, f3, hsame⟩
   ·exact ⟨O, O, trivial⟩
   ·exact en
  rintro ⟨m2, r2, hh2⟩ ⟨⟨rfl, rfl⟩, hT, hS⟩
  try dsimp only
  refine n_nm ?_
  refine nz<|mv O O<|l_q O (q_nilCheck O)<|l_q O (qfa 0 O yU57 O O yS3)<|l_q O (qld O yA3) ?_
  refine l_q O (qadd O O) ?_
  refine l_q O (q_nilCheck O)<|l_q O (qfa 0 O yU57 O O yS3)<|st O O O yS3 O ?_
  refine lc<|t_draw mixed ?_
  apply dq 0 O
  ·exact yq (qlda O yA27 yS27)
  apply dq 1 O
  ·exact yq (q_move O)
  apply dq 2 O
  ·exact yq (q_nilCheck O)
  apply dq 3 O
  ·exact yq (qlda O yA57 yS57)
  refine d_eff1 [0, 3, 2, 1] [] 4 [(124, _), (127, _)] gO ⟨rfl, rfl, trivial⟩ (by kernel_rfl) (by kernel_rfl) fun Ex => ?_
  have hhb2 : (addX x (k, e) os).height ≤ 1000000001 := by rw [g5]; split <;> omega
  have hrb2 : (addX x (k, e) os).root ≤ 1000000000 := by
   cases hx : addX x (k, e) os with
   | none => exact Nat.zero_le _
   | some y =>
    have hm : y.2.o ∈ (addX x (k, e) os).offs := by rw [hx]; show y.2.o ∈ offs y.1 y.2; cases y.1 <;> simp [offs]
    have := g3.mem_iff.1 hm
    have h2 := hoa _ this
    exact hob _ this
  refine lcf O O O (setHead_ok pa off (wm s m2) l (u + 1) (addX x (k, e) os).root (addX x (k, e) os).height nn hb hoff (by omega) (by omega) (by omega) (by omega)) ?_
  rintro v L' ⟨m3, rfl, rfl, hw, hO3⟩
  refine l_nm ?_
  refine l_nil ?_
  apply n_d
  ·exact trivial
  refine d_end (by kernel_rfl) ?_
  rw [wm_wm]
  have hT3 : ∀ h t, addX x (k, e) os = some (h, t) → TreeM l m3 h t := fun h t hx => by
   refine (hT h t hx).same (g2 h t hx) fun o ho a a1 a2 => hO3 a ?_
   have : o ∈ (addX x (k, e) os).offs := by rw [hx]; exact ho
   rcases hoa o (g3.mem_iff.1 this) with w | w <;> omega
  apply f_ret (.inr rfl) ([arenaH pa (wm s m3)])
  ·exact res0 O
  ·exact ⟨m3, rfl, rfl, hw, hT3, fun a ha hb' => (hO3 a hb').trans (hS a ha)⟩
  ·exact en
end
end Go.Proofs.Ytjekhcojebgpnaa.Bt
