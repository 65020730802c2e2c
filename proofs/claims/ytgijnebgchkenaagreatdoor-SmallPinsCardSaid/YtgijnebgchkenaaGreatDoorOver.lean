/- Contracts of oracle.New and larderref04.New: overrides. -/
import Derived.Test.YtgijnebgchkenaaGreatDoorOracle
import Derived.Test.YtgijnebgchkenaaGreatDoorEngRow
set_option linter.unusedVariables false
set_option linter.unusedSimpArgs false
set_option maxRecDepth 100000
namespace Go.Proofs.YtgijnebgchkenaaGreatDoor.Oracle
open Go.RowKit Go.Proofs Go.Proofs.YtgijnebgchkenaaGreatDoor.Eng Go.Proofs.YtgijnebgchkenaaGreatDoor.Ty Go.Proofs.YtgijnebgchkenaaGreatDoor.Bits Go.Proofs.YtgijnebgchkenaaGreatDoor.Mem Go.Proofs.YtgijnebgchkenaaGreatDoor.CtrlB Go.Proofs.YtgijnebgchkenaaGreatDoor.Ctrl

/-- An override's cells. -/
def overC (o : ByteArray × Int) : List Value := [.string o.1, .int .u64 o.2]
theorem over2 (o : ByteArray × Int) : (overC o).length = 2 := rfl
theorem over1 (o : ByteArray × Int) : (overC o).all (·.oneCell') = true := rfl
/-- A slice of overrides that can be read in the piece A. -/
def OversAt (A : HP) (v : Value) (os : List (ByteArray × Int)) : Prop := ∃ a cap, v = .slice a os.length cap ∧ (0 < os.length → ∃ b o, a = some ⟨b, o, none⟩ ∧ ∀ (i : Nat) t, os[i]? = some t → ∀ (j : Nat) x, (overC t)[j]? = some x → CellAt A ⟨b, o + i * 2 + j, none⟩ x)
theorem over_cell {A : HP} {os : List (ByteArray × Int)} {b o i : Nat} {t : ByteArray × Int} (h : ∀ (i : Nat) t, os[i]? = some t → ∀ (j : Nat) x, (overC t)[j]? = some x → CellAt A ⟨b, o + i * 2 + j, none⟩ x) (ht : os[i]? = some t) :
    CellAt A ⟨b, o + (i : Int).toNat * 2 + 0, none⟩ (.string t.1) ∧ ∀ j x, [Value.string t.1, .int .u64 t.2][j]? = some x → CellAt A ((⟨b, o + (i : Int).toNat * 2, none⟩ : Addr).add j) x := by
  rw [Int.toNat_natCast]
  exact ⟨h i t ht 0 _ rfl, fun j x hx => by rw [add_none]; exact h i t ht j x hx⟩
/-- Overrides in a row that a slice owns. -/
theorem own_over {a : Option Addr} {cap : Nat} {os : List (ByteArray × Int)} (h : 0 < os.length → ∃ g, a = some ⟨g, 0, none⟩) : OversAt (ownS 152 2 (.slice a os.length cap) os.length (rowOf overC os)) (.slice a os.length cap) os :=
  ⟨a, cap, rfl, fun q => by
    obtain ⟨g, rfl⟩ := h q
    refine ⟨g, 0, rfl, fun i t ht j x hx => ?_⟩
    have hj : j < 2 := by have := (List.getElem?_eq_some_iff.1 hx).1; rwa [over2] at this
    rw [Nat.zero_add]
    exact own_cell (by rw [rowOf_get over2 os i j t ht hj]; exact hx)⟩
def okO (os : List (ByteArray × Int)) (i : Nat) : Prop := ∀ o, os[i]? = some o → 1 ≤ o.1.size ∧ o.1.size ≤ 128 ∧ ∀ j p, j < i → os[j]? = some p → p.1 ≠ o.1
/-- Overrides that are taken. -/
def goodO (os : List (ByteArray × Int)) : Prop := os.length ≤ 64 ∧ ∀ i, okO os i
theorem ref04New_ok (A : HP) (v : Value) (os : List (ByteArray × Int)) (hO : OversAt A v os) :
    FnOk Tryz.prog 89 #[v] [A] (fun r L => (∃ e, e ≠ 0 ∧ r = .tuple #[.pointer none, .int .i64 e] ∧ L = [A]) ∨
      (goodO os ∧ ∃ b lv, r = .tuple #[.pointer (some ⟨b, 0, none⟩), .int .i64 0] ∧ L = [A, pt b (.cells #[lv] 224 (0, 0)), ownS 152 2 lv os.length (rowOf overC os)])) := by
  obtain ⟨a, cap, rfl, hO1⟩ := hO
  refine fn_intro en89 Tryz.func89 rfl rfl rfl fun Fr w0 => t_nm ?_
  refine sr <| asg rfl rfl <| asg rfl rfl <| lc <| t_seq <| sr <| mv rfl rfl <| l_q rfl (ql rfl yU87) <| l_q rfl (qi rfl rfl (b_gtr ·)) <| lc <| t_if rfl (fun h1 => ?_) fun h1 => ?_
  · refine sr <| asg rfl rfl <| asg rfl rfl <| lc <| rt <| fr2 rfl ([A]) (.tmp rfl) (.tmp rfl) ?_
    exact .inl ⟨40, by decide, rfl, rfl⟩
  · refine t_skip <| nz ?_
    apply l_q rfl
    · apply q_buildS rfl yP224 yZ224
      · exact FillR.nil
    refine o_boxA rfl rfl fun b11 => asg rfl rfl <| lc <| t_seq <| sr <| asg rfl rfl <| lc <| t_block ?_
    refine t_ent (show Ent _ (pt b11 (.cells #[.slice none 0 0] 224 (0, 0)) :: ownS 152 2 (.slice none 0 0) 0 (rowOf overC (os.take 0)) :: A :: Fr) from fun w h => (own_nil h).perm (by simpa using .swap _ _ _)) ?_
    refine t_loop (fun x : Nat × Value => x.1 ≤ os.length ∧ ∀ i, i < x.1 → okO os i) (fun x => [(0, .slice a os.length cap), (4, .pointer (some ⟨b11, 0, none⟩)), (5, .int .i64 (x.1 : Nat))]) (fun x => pt b11 (.cells #[x.2] 224 (0, 0)) :: ownS 152 2 x.2 x.1 (rowOf overC (os.take x.1)) :: A :: Fr) (fun x => os.length - x.1) (0, .slice none 0 0) ⟨Nat.zero_le _, by omega⟩ ⟨rfl, rfl, rfl, trivial⟩ (by (exact en)) ?_
    rintro ⟨i, lv⟩ ⟨hi, hok⟩
    dsimp only at hi hok ⊢
    refine t_seq <| sr <| mv rfl rfl <| mv rfl rfl <| l_q rfl (ql rfl yU87) <| l_q rfl (qi rfl rfl (b_lss ·)) <| lc <| t_if rfl (fun h2 => ?_) fun h2 => ?_
    · skip
      obtain ⟨b, o, rfl, hO2⟩ := hO1 (by omega)
      obtain ⟨t, ht⟩ : ∃ t, os[i]? = some t := ⟨os[i], List.getElem?_eq_getElem (by omega)⟩
      have hc := over_cell hO2 ht
      have hrow : rowOf overC (os.take i) ++ ([Value.agg #[.string t.1, .int .u64 t.2]].flatMap fun x => x.cells.toList).toArray.toList = rowOf overC (os.take (i + 1)) := by rw [List.take_add_one, ht, rowOf_app]; simp [rowOf, overC]; rfl
      refine t_skip <| n_code <| t_seq <| t_block <| t_seq <| sr <| mv rfl rfl <| mv rfl rfl <| l_q rfl (q_indexAddr rfl rfl yU87 yS152 (by omega)) ?_
      refine l_q rfl (qfa 0 rfl yU152 rfl rfl yS9) <| l_q rfl (q_loadR (A := A) rfl yA9 tk hc.1) ?_
      refine l_q rfl (qls rfl yU9) <| l_q rfl (qi rfl rfl (b_lss ·)) <| mv rfl rfl <| l_pt (t := 25) rfl (fun h3 => ?_) fun h3 => ?_
      · refine l_off rfl rfl rfl rfl <| l_off rfl rfl rfl rfl <| l_off rfl rfl rfl rfl <| l_off rfl rfl rfl rfl <| l_off rfl rfl rfl rfl <| l_off rfl rfl rfl rfl <| l_off rfl rfl rfl rfl <| l_q rfl (q_pk rfl rfl) <| lc <| t_cond_t rfl <| sr <| asg rfl rfl <| asg rfl rfl <| lc <| rt <| fr2 rfl ([A]) (.tmp rfl) (.tmp rfl) ?_
        exact .inl ⟨41, by decide, rfl, rfl⟩
      · refine l_on rfl rfl <| mv rfl rfl <| l_on rfl rfl <| mv rfl rfl <| l_on rfl rfl <| l_q rfl (q_indexAddr rfl rfl yU87 yS152 (by omega)) ?_
        refine l_on rfl rfl <| l_q rfl (qfa 0 rfl yU152 rfl rfl yS9) <| l_on rfl rfl <| l_q rfl (q_loadR (A := A) rfl yA9 tk hc.1) ?_
        refine l_on rfl rfl <| l_q rfl (qls rfl yU9) <| l_on rfl rfl <| l_q rfl (qi rfl rfl (b_gtr ·)) <| l_q rfl (q_pk rfl rfl) <| lc <| t_if rfl (fun h4 => ?_) fun h4 => ?_
        · refine sr <| asg rfl rfl <| asg rfl rfl <| lc <| rt <| fr2 rfl ([A]) (.tmp rfl) (.tmp rfl) ?_
          exact .inl ⟨41, by decide, rfl, rfl⟩
        · refine t_skip <| n_code <| t_seq <| sr <| asg rfl rfl <| lc <| t_block ?_
          refine t_loop (fun j : Nat => j ≤ i ∧ ∀ k p, k < j → os[k]? = some p → p.1 ≠ t.1) (fun j => [(0, .slice (some ⟨b, o, none⟩) os.length cap), (4, .pointer (some ⟨b11, 0, none⟩)), (5, .int .i64 (i : Nat)), (6, .int .i64 (j : Nat))]) (fun _ => pt b11 (.cells #[lv] 224 (0, 0)) :: ownS 152 2 lv i (rowOf overC (os.take i)) :: A :: Fr) (fun j => i - j) 0 ⟨Nat.zero_le _, fun k p hk => by omega⟩ ⟨rfl, rfl, rfl, rfl, trivial⟩ (by (exact en)) ?_
          rintro j ⟨hj, hno⟩
          refine t_seq <| sr <| mv rfl rfl <| mv rfl rfl <| l_q rfl (qi rfl rfl (b_lss ·)) <| lc <| t_if rfl (fun h5 => ?_) fun h5 => ?_
          · skip
            obtain ⟨u, hu⟩ : ∃ u, os[j]? = some u := ⟨os[j], List.getElem?_eq_getElem (by omega)⟩
            have hcj := over_cell hO2 hu
            refine t_skip <| n_code <| t_seq <| t_block <| t_seq <| t_draw mixed ?_
            apply dq 0 rfl
            · exact yq (q_move rfl)
            apply dq 1 rfl
            · exact yq (q_move rfl)
            apply dq 2 rfl
            · exact yq (q_indexAddr rfl rfl yU87 yS152 (by omega))
            apply dq 3 rfl
            · exact yq (qfa 0 rfl yU152 rfl rfl yS9)
            apply dq 4 rfl
            · exact yq (q_loadR (A := A) rfl yA9 tk hcj.1)
            apply dq 5 rfl
            · exact yq (q_move rfl)
            apply dq 6 rfl
            · exact yq (q_move rfl)
            apply dq 7 rfl
            · exact yq (q_indexAddr rfl rfl yU87 yS152 (by omega))
            apply dq 8 rfl
            · exact yq (qfa 0 rfl yU152 rfl rfl yS9)
            apply dq 9 rfl
            · exact yq (q_loadR (A := A) rfl yA9 tk hc.1)
            apply dq 10 rfl
            · exact yq (qs rfl rfl (b_eqlS ·))
            refine d_end (by kernel_rfl) ?_
            refine n_code <| t_if rfl (fun h6 => ?_) fun h6 => ?_
            · refine sr <| asg rfl rfl <| asg rfl rfl <| lc <| rt <| fr2 rfl ([A]) (.tmp rfl) (.tmp rfl) ?_
              exact .inl ⟨42, by decide, rfl, rfl⟩
            · refine t_skip <| n_blk <| n_code <| t_region <| mv rfl rfl <| l_q rfl (qadd rfl rfl) ?_
              refine asg rfl rfl <| l_nil ?_
              apply n_again ((j + 1))
              · exact ⟨by omega, fun k p hk hp => by rcases Nat.lt_succ_iff_lt_or_eq.1 hk with q | rfl; exact hno k p q hp; rw [hu] at hp; cases hp; exact h6⟩
              · omega
              · exact ⟨rfl, rfl, rfl, rfl, trivial⟩
              · exact en
          · obtain rfl : j = i := by omega
            refine xt rfl <| n_code <| t_draw mixed ?_
            apply dq 0 rfl
            · exact yq (q_move rfl)
            apply dq 1 rfl
            · exact yq (q_move rfl)
            apply dq 2 rfl
            · exact yq (q_nilCheck rfl)
            apply dq 3 rfl
            · exact yq (qfa 0 rfl yU224 rfl rfl yS87)
            apply dq 4 rfl
            · exact yq (qld rfl yA87)
            apply dq 5 rfl
            · exact yq (q_move rfl)
            apply dq 6 rfl
            · exact yq (q_move rfl)
            apply dq 7 rfl
            · exact yq (q_indexAddr rfl rfl yU87 yS152 (by omega))
            apply dq 8 rfl
            · exact yq (q_loadRA (A := A) (us := [.string t.1, .int .u64 t.2]) rfl yA152 yS152 rfl tk hc.2)
            refine d_eff1 [8, 7, 5, 6] [4, 3, 2, 1, 0] 9 [(58, _)] gO ⟨rfl, trivial⟩ (by kernel_rfl) (by kernel_rfl) fun Ex => ?_
            refine o_buildSlice (us := [_]) rfl rfl yU87 yS152 yZ152 rfl rfl rfl rfl rfl (fun b59 => ?_)
            refine l_nil ?_
            apply n_d
            · refine ⟨?_, ?_, ?_, ?_, ?_, trivial⟩
              · apply ya rfl rfl; exact yq (qld rfl yA87)
              · apply ya rfl rfl; exact yq (qfa 0 rfl yU224 rfl rfl yS87)
              · apply ya rfl rfl; exact yq (q_nilCheck rfl)
              · apply ya rfl rfl; exact yq (q_move rfl)
              · apply ya rfl rfl; exact yq (q_move rfl)
            refine d_eff1 [4, 3, 2, 1] [0] 10 [(54, _), (59, _)] gO ⟨rfl, rfl, trivial⟩ (by kernel_rfl) (by kernel_rfl) fun Ex => ?_
            apply o_append (sz := 2) rfl rfl rfl yU87 yI152 rfl rfl
            · exact tk
            · exact tk
            · rfl
            · rfl
            · simp only [maxLen]; omega
            · omega
            intro v60
            refine l_shape (v := v60) tk fun _ hs60 => ?_
            obtain ⟨a60, cap60, rfl, hs60, _, _⟩ := hs60
            refine l_nil ?_
            apply n_d
            · refine ⟨?_, trivial⟩
              · apply ya rfl rfl; exact yq (q_move rfl)
            apply dq 11 rfl
            · exact yq (q_nilCheck rfl)
            apply dq 12 rfl
            · exact yq (qfa 0 rfl yU224 rfl rfl yS87)
            refine d_eff1 [12, 0, 11] [] 13 [(62, _), (60, _)] gO ⟨rfl, rfl, trivial⟩ (by kernel_rfl) (by kernel_rfl) fun Ex => ?_
            refine st rfl rfl rfl yS87 rfl ?_
            refine l_nil ?_
            apply n_d
            · exact trivial
            refine d_end (by kernel_rfl) ?_
            refine n_blk <| n_code <| t_region <| mv rfl rfl <| l_q rfl (qadd rfl rfl) ?_
            refine asg rfl rfl <| l_nil ?_
            rw [hrow]
            apply n_again ((j + 1, .slice a60 (j + 1) cap60))
            · exact ⟨by dsimp only; omega, fun k hk => by rcases Nat.lt_succ_iff_lt_or_eq.1 hk with q | rfl; exact hok k q; exact fun u hu => by rw [ht] at hu; cases hu; exact ⟨by omega, by omega, hno⟩⟩
            · dsimp only; omega
            · exact ⟨rfl, rfl, rfl, trivial⟩
            · exact en
    · obtain rfl : i = os.length := by omega
      rw [List.take_length]
      refine xt rfl <| nz <| mv rfl rfl <| asg rfl rfl <| asg rfl rfl <| lc <| rt <| fr2 rfl ([A, pt b11 (.cells #[lv] 224 (0, 0)), ownS 152 2 lv os.length (rowOf overC os)]) (.tmp rfl) (.tmp rfl) ?_
      exact .inr ⟨⟨by omega, fun k => by rcases Nat.lt_or_ge k os.length with q | q; exact hok k q; exact fun o ho => by rw [List.getElem?_eq_none q] at ho; cases ho⟩, b11, lv, rfl, rfl⟩

/-- The map of overrides. -/
def mapO (os : List (ByteArray × Int)) : List (ByteArray × Value) := os.foldl (fun m o => setK m o.1 (.int .u64 o.2)) []
theorem mapO_next {os : List (ByteArray × Int)} {i : Nat} {t : ByteArray × Int} (ht : os[i]? = some t) : mapO (os.take (i + 1)) = setK (mapO (os.take i)) t.1 (.int .u64 t.2) := by
  rw [List.take_add_one, ht]; simp [mapO]
theorem mapO_lk {os : List (ByteArray × Int)} : ∀ {i : Nat} {k : ByteArray} {v : Value}, i ≤ os.length → lkK (mapO (os.take i)) k = some v → ∃ j t, j < i ∧ os[j]? = some t ∧ t.1 = k ∧ v = .int .u64 t.2
  | 0, k, v, _, h => by simp [mapO, lkK] at h
  | i + 1, k, v, hi, h => by
    obtain ⟨t, ht⟩ : ∃ t, os[i]? = some t := ⟨os[i], List.getElem?_eq_getElem (by omega)⟩
    rw [mapO_next ht, lk_set] at h
    split at h
    · next q => exact ⟨i, t, by omega, ht, q, by cases h; rfl⟩
    · obtain ⟨j, u, h1, h2⟩ := mapO_lk (by omega) h
      exact ⟨j, u, by omega, h2⟩
theorem mapO_ok {os : List (ByteArray × Int)} (hw : ∀ o ∈ os, 0 ≤ o.2 ∧ o.2 < 18446744073709551616) : OverOk (mapO os) := fun k v h => by
  rw [show mapO os = mapO (os.take os.length) by rw [List.take_length]] at h
  obtain ⟨j, t, _, h2, _, rfl⟩ := mapO_lk (Nat.le_refl _) h
  exact ⟨_, rfl, hw t (List.mem_of_getElem? h2)⟩
theorem oNew_ok (A : HP) (v : Value) (os : List (ByteArray × Int)) (hO : OversAt A v os) (hg : goodO os) :
    FnOk Tryz.prog 76 #[v] [A] (fun r L => ∃ po bm, r = .tuple #[.pointer (some ⟨po, 0, none⟩), .int .i64 0] ∧ L = [pt po (.cells #[.map (some bm)] 191 (0, 0)), mapH (fun k : ByteArray => Value.string k) bm (mapO os), A]) := by
  obtain ⟨a, cap, rfl, hO1⟩ := hO
  have h64 := hg.1
  refine fn_intro en76 Tryz.func76 rfl rfl rfl fun Fr w0 => t_nm ?_
  refine sr <| asg rfl rfl <| asg rfl rfl <| lc <| t_seq <| sr <| mv rfl rfl <| l_q rfl (ql rfl yU87) <| l_q rfl (qi rfl rfl (b_gtr ·)) <| lc <| t_if rfl (fun h1 => ?_) fun h1 => ?_
  · omega
  · refine t_skip <| nz <| mv rfl rfl <| l_q rfl (ql rfl yU87) ?_
    refine o_makeMapN (fun k : ByteArray => Value.string k) rfl rfl yU189 (fun b14 => ?_)
    apply l_q rfl
    · apply q_buildS rfl yP191 yZ191
      · apply FillR.one
        · repeat (first | exact PlAt.here | apply PlAt.there)
        · rfl
        · exact sa
        exact FillR.nil
    refine o_boxA rfl rfl fun b16 => asg rfl rfl <| lc <| t_seq <| sr <| mv rfl rfl <| l_q rfl (ql rfl yU87) <| mv rfl rfl <| lc <| t_block ?_
    refine t_loop (fun i : Nat => i ≤ os.length) (fun i => [(4, .pointer (some ⟨b16, 0, none⟩)), (17, .slice a os.length cap), (18, .int .i64 (os.length : Nat)), (19, .int .i64 (i : Nat))]) (fun i => pt b16 (.cells #[.map (some b14)] 191 (0, 0)) :: mapH (fun k : ByteArray => Value.string k) b14 (mapO (os.take i)) :: A :: Fr) (fun i => os.length - i) 0 (Nat.zero_le _) ⟨rfl, rfl, rfl, rfl, trivial⟩ (by (exact en)) ?_
    rintro i hi
    refine sr <| l_q rfl (qi rfl rfl (b_lss ·)) <| lc <| t_seq <| t_if rfl (fun h2 => ?_) fun h2 => ?_
    · skip
      obtain ⟨b, o, rfl, hO2⟩ := hO1 (by omega)
      obtain ⟨t, ht⟩ : ∃ t, os[i]? = some t := ⟨os[i], List.getElem?_eq_getElem (by omega)⟩
      have hc := over_cell hO2 ht
      obtain ⟨g1, g2, g3⟩ := hg.2 i t ht
      have hnew : lkK (mapO (os.take i)) t.1 = none := by
        cases hv : lkK (mapO (os.take i)) t.1 with
        | none => rfl
        | some v => obtain ⟨j, u, j1, j2, j3, _⟩ := mapO_lk (by omega) hv; exact absurd j3 (g3 j u j1 j2)
      refine t_skip <| n_code <| t_seq <| t_block <| sr <| l_q rfl (q_indexAddr rfl rfl yU87 yS152 (by omega)) ?_
      refine l_q rfl (q_loadRA (A := A) (us := [.string t.1, .int .u64 t.2]) rfl yA152 yS152 rfl tk hc.2) ?_
      refine o_allocA rfl yZ152 fun b6 => sta rfl rfl rfl yS152 rfl rfl ?_
      refine lc <| t_seq <| sr <| l_q rfl (qfa 0 rfl yU152 rfl rfl yS9) <| l_q rfl (qld rfl yA9) ?_
      refine l_q rfl (qs rfl rfl (b_eqlS ·)) <| mv rfl rfl <| l_pt (t := 26) rfl (fun h3 => ?_) fun h3 => ?_
      · rw [h3] at g1; exact absurd g1 (by decide)
      · refine l_on rfl rfl <| l_q rfl (qfa 0 rfl yU152 rfl rfl yS9) <| l_on rfl rfl <| l_q rfl (qld rfl yA9) ?_
        refine l_on rfl rfl <| l_q rfl (qls rfl yU9) <| l_on rfl rfl <| l_q rfl (qi rfl rfl (b_gtr ·)) <| l_q rfl (q_pk rfl rfl) <| lc <| t_if rfl (fun h4 => ?_) fun h4 => ?_
        · omega
        · refine t_skip <| n_code <| t_seq <| t_seq <| t_draw mixed ?_
          apply dq 0 rfl
          · exact yq (q_move rfl)
          apply dq 1 rfl
          · exact yq (q_nilCheck rfl)
          apply dq 2 rfl
          · exact yq (qfa 0 rfl yU191 rfl rfl yS189)
          apply dq 3 rfl
          · exact yq (qld rfl yA189)
          apply dq 4 rfl
          · exact yq (qfa 0 rfl yU152 rfl rfl yS9)
          apply dq 5 rfl
          · exact yq (qld rfl yA9)
          apply dq 6 rfl
          · apply yq
            apply q_lookup2 keyStr rfl rfl yU189 yU9 yZ52
            · exact tk
          apply dq 7 rfl
          · exact yq (q_move rfl)
          apply dq 8 rfl
          · exact yq (q_extractL rfl ga)
          apply dq 9 rfl
          · exact yq (q_extractL rfl ga)
          refine d_eff1 [8, 0, 1, 2, 3, 4, 5, 6, 7] [9] 10 [(40, _)] gO ⟨rfl, trivial⟩ (by kernel_rfl) (by kernel_rfl) fun Ex => ?_
          refine asg rfl rfl <| l_nil ?_
          apply n_d
          · refine ⟨?_, trivial⟩
            · apply ya rfl rfl; exact yq (q_extractL rfl ga)
          refine d_eff1 [9] [] 11 [(41, _)] gO ⟨rfl, trivial⟩ (by kernel_rfl) (by kernel_rfl) fun Ex => ?_
          refine asg rfl rfl <| l_nil ?_
          apply n_d
          · exact trivial
          refine d_end (by kernel_rfl) ?_
          refine nz <| mv rfl rfl <| lc <| t_if rfl (fun h5 => ?_) fun h5 => ?_
          · rw [hnew] at h5; cases h5
          · refine t_skip <| n_code <| t_draw mixed ?_
            apply dq 0 rfl
            · exact yq (q_move rfl)
            apply dq 1 rfl
            · exact yq (q_nilCheck rfl)
            apply dq 2 rfl
            · exact yq (qfa 0 rfl yU191 rfl rfl yS189)
            apply dq 3 rfl
            · exact yq (qld rfl yA189)
            apply dq 4 rfl
            · exact yq (qfa 0 rfl yU152 rfl rfl yS9)
            apply dq 5 rfl
            · exact yq (qld rfl yA9)
            apply dq 6 rfl
            · exact yq (qfa 1 rfl yU152 rfl rfl yS52)
            apply dq 7 rfl
            · exact yq (qld rfl yA52)
            refine d_eff1 [3, 5, 7, 0, 1, 2, 4, 6] [] 8 [(46, _), (48, _), (50, _)] gO ⟨rfl, rfl, rfl, trivial⟩ (by kernel_rfl) (by kernel_rfl) fun Ex => ?_
            apply o_mapUpdate keyStr rfl rfl rfl rfl yU189 yU9
            · exact tk
            refine l_nil ?_
            apply n_d
            · exact trivial
            refine d_end (by kernel_rfl) ?_
            refine n_blk <| n_code <| t_region <| l_q rfl (qadd rfl rfl) ?_
            refine mv rfl rfl <| l_nil ?_
            rw [← mapO_next ht]
            apply n_again ((i + 1))
            · exact (show i + 1 ≤ os.length by omega)
            · omega
            · exact ⟨rfl, rfl, rfl, rfl, trivial⟩
            · exact en
    · obtain rfl : i = os.length := by omega
      rw [List.take_length]
      exact xt rfl <| nz <| mv rfl rfl <| asg rfl rfl <| asg rfl rfl <| lc <| rt <| fr2 rfl ([pt b16 (.cells #[.map (some b14)] 191 (0, 0)), mapH (fun k : ByteArray => Value.string k) b14 (mapO os), A]) (.tmp rfl) (.tmp rfl) ⟨b16, b14, rfl, rfl⟩
end Go.Proofs.YtgijnebgchkenaaGreatDoor.Oracle
