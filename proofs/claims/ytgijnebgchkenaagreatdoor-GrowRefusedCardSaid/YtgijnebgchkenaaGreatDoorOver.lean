import Derived.Test.YtgijnebgchkenaaGreatDoorMem
import Derived.Test.YtgijnebgchkenaaGreatDoorCtrl
import Derived.Test.YtgijnebgchkenaaGreatDoorEngMap
import Derived.Test.YtgijnebgchkenaaGreatDoorEngTail
section
/- Contracts of package oracle: the mixer. -/
set_option linter.unusedVariables false
set_option linter.unusedSimpArgs false
set_option maxRecDepth 100000
namespace Go.Proofs.YtgijnebgchkenaaGreatDoor.Oracle
open Go.RowKit Go.Proofs Go.Proofs.YtgijnebgchkenaaGreatDoor.Eng Go.Proofs.YtgijnebgchkenaaGreatDoor.Ty Go.Proofs.YtgijnebgchkenaaGreatDoor.Bits Go.Proofs.YtgijnebgchkenaaGreatDoor.Mem Go.Proofs.YtgijnebgchkenaaGreatDoor.CtrlB Go.Proofs.YtgijnebgchkenaaGreatDoor.Ctrl

/-- The piece G holds the mixer's two multipliers. -/
def OddOk (G : HP) : Prop := CellAt G ⟨0, 0, none⟩ (.int .u64 13234230157428861123) ∧ CellAt G ⟨0, 1, none⟩ (.int .u64 11329751410908088055)
def mix0 (seed : Int) (n : Nat) : Int := bits .xor .u64 seed (IntKind.u64.wrap (13234230157428861123 * (1 + (n : Int))))
def mixX (h b : Int) : Int := IntKind.u64.wrap (bits .xor .u64 h b * 11329751410908088055)
def mixS (h b : Int) : Int := bits .xor .u64 (mixX h b) ((mixX h b).fdiv (2 ^ min (Int.toNat 31) IntKind.u64.bits))
/-- The mixer's sum behind the first bytes. -/
def mixR (seed : Int) (key : ByteArray) : Nat → Int
  | 0 => mix0 seed key.size
  | i + 1 => mixS (mixR seed key i) (if h : i < key.size then IntKind.u64.wrap ((key[i]'h).toNat : Int) else 0)
def mixA (h : Int) : Int := bits .xor .u64 h (h.fdiv (2 ^ min (Int.toNat 29) IntKind.u64.bits))
def mixE (h : Int) : Int := bits .xor .u64 (IntKind.u64.wrap (mixA h * 13234230157428861123)) ((IntKind.u64.wrap (mixA h * 13234230157428861123)).fdiv (2 ^ min (Int.toNat 32) IntKind.u64.bits))
/-- The mixer's hash. -/
def mixF (seed : Int) (key : ByteArray) : Int := mixE (mixR seed key key.size)
theorem Mix_ok (G : HP) (hO : OddOk G) (seed : Int) (hs : 0 ≤ seed ∧ seed < 18446744073709551616) (key : ByteArray) (hk : key.size ≤ 128) :
    FnOk Tryz.prog 106 #[.int .u64 seed, .string key] [G] (fun v L => v = .int .u64 (mixF seed key) ∧ L = [G]) := by
  refine fn_intro en106 Tryz.func106 rfl rfl rfl fun Fr w0 => t_nm ?_
  refine sr <| asg rfl rfl <| lz <| mv rfl rfl <| l_q rfl (q_indexAddrA rfl rfl yU229 yS52 (by omega)) ?_
  refine l_q rfl (q_loadR (A := G) rfl yA52 tk hO.1) ?_
  refine mv rfl rfl <| l_q rfl (qls rfl yU9) <| l_q rfl (qadd rfl rfl) ?_
  refine l_q rfl (qcv rfl yU3 yU52) ?_
  refine l_q rfl (qmul rfl rfl) ?_
  refine l_q rfl (qbit rfl rfl rfl) <| asg rfl rfl <| lc <| t_seq <| sr <| asg rfl rfl <| lc <| t_block ?_
  refine t_loop (fun i : Nat => i ≤ key.size) (fun i => [(1, .string key), (5, .int .u64 (mixR seed key i)), (6, .int .i64 (i : Nat))]) (fun _ => G :: Fr) (fun i => key.size - i) 0 (Nat.zero_le _) ⟨rfl, rfl, rfl, trivial⟩ (by (exact en)) ?_
  intro i hi
  refine t_seq <| sr <| mv rfl rfl <| mv rfl rfl <| l_q rfl (qls rfl yU9) <| l_q rfl (qi rfl rfl (b_lss ·)) <| lc <| t_if rfl (fun h => ?_) fun h => ?_
  · refine t_skip <| n_code <| t_seq <| t_block <| t_seq <| t_draw mixed ?_
    apply dq 0 rfl
    · exact yq (q_move rfl)
    apply dq 1 rfl
    · exact yq (q_move rfl)
    apply dq 2 rfl
    · exact yq (q_move rfl)
    apply dq 3 rfl
    · exact yq (q_indexS rfl rfl yU9 (by omega))
    apply dq 4 rfl
    · exact yq (qcv rfl yU5 yU52)
    apply dq 5 rfl
    · exact yq (qbit rfl rfl rfl)
    apply dq 6 rfl
    · exact yq (q_indexAddrA rfl rfl yU229 yS52 (by omega))
    apply dq 7 rfl
    · exact yq (q_loadR (A := G) rfl yA52 tk hO.2)
    apply dq 8 rfl
    · exact yq (qmul rfl rfl)
    refine d_eff1 [8, 0, 1, 2, 3, 4, 5, 6, 7] [] 9 [(30, _)] gO ⟨rfl, trivial⟩ (by kernel_rfl) (by kernel_rfl) fun Ex => ?_
    refine asg rfl rfl <| l_nil ?_
    apply n_d
    · exact trivial
    refine d_end (by kernel_rfl) ?_
    refine n_code <| t_region <| mv rfl rfl <| mv rfl rfl ?_
    apply l_q rfl
    · apply qi rfl rfl; first | exact fun w => b_shr_c (m := 2147483648) w (by decide) (by decide) (by omega) | exact fun w => b_shr w (by decide)
    refine l_q rfl (qbit rfl rfl rfl) <| asg rfl rfl <| l_nil <| n_blk <| n_code <| t_region <| mv rfl rfl <| l_q rfl (qadd rfl rfl) ?_
    refine asg rfl rfl <| l_nil ?_
    have hst : mixR seed key (i + 1) = mixS (mixR seed key i) (IntKind.u64.wrap ((key[i]'(by omega)).toNat : Int)) := by simp only [mixR]; rw [dif_pos]
    apply n_again ((i + 1))
    · exact by omega
    · omega
    · exact ⟨rfl, by rw [hst]; rfl, rfl, trivial⟩
    · exact en
  · refine xt rfl <| nz <| mv rfl rfl <| mv rfl rfl ?_
    apply l_q rfl
    · apply qi rfl rfl; first | exact fun w => b_shr_c (m := 536870912) w (by decide) (by decide) (by omega) | exact fun w => b_shr w (by decide)
    refine l_q rfl (qbit rfl rfl rfl) <| asg rfl rfl <| lz <| mv rfl rfl <| l_q rfl (q_indexAddrA rfl rfl yU229 yS52 (by omega)) ?_
    refine l_q rfl (q_loadR (A := G) rfl yA52 tk hO.1) ?_
    refine l_q rfl (qmul rfl rfl) ?_
    refine asg rfl rfl <| lz <| mv rfl rfl <| mv rfl rfl ?_
    apply l_q rfl
    · apply qi rfl rfl; first | exact fun w => b_shr_c (m := 4294967296) w (by decide) (by decide) (by omega) | exact fun w => b_shr w (by decide)
    refine l_q rfl (qbit rfl rfl rfl) <| asg rfl rfl <| lc <| rt ?_
    obtain rfl : i = key.size := by omega
    exact fr1 rfl ([G]) (.tmp rfl) ⟨rfl, rfl⟩
/-- The overrides that a map holds. -/
def OverOk (m : List (ByteArray × Value)) : Prop := ∀ k v, lkK m k = some v → ∃ x, v = .int .u64 x ∧ 0 ≤ x ∧ x < 18446744073709551616
def hashF (m : List (ByteArray × Value)) (seed : Int) (key : ByteArray) : Int := match lkK m key with | some (.int _ x) => x | _ => mixF seed key
theorem Hash_ok (G : HP) (hO : OddOk G) (po bm : Nat) (m : List (ByteArray × Value)) (hm : OverOk m) (seed : Int) (hs : 0 ≤ seed ∧ seed < 18446744073709551616) (key : ByteArray) (hk : key.size ≤ 128) :
    FnOk Tryz.prog 51 #[.pointer (some ⟨po, 0, none⟩), .int .u64 seed, .string key] [pt po (.cells #[.map (some bm)] 191 (0, 0)), mapH (fun k : ByteArray => Value.string k) bm m, G]
      (fun v L => v = .int .u64 (hashF m seed key) ∧ L = [pt po (.cells #[.map (some bm)] 191 (0, 0)), mapH (fun k : ByteArray => Value.string k) bm m, G]) := by
  refine fn_intro en51 Tryz.func51 rfl rfl rfl fun Fr w0 => t_nm ?_
  refine sr <| asg rfl rfl <| lc <| t_seq <| sr <| mv rfl rfl <| l_q rfl (q_nilCheck rfl) <| l_q rfl (qfa 0 rfl yU191 rfl rfl yS189) <| l_q rfl (qld rfl yA189) ?_
  refine mv rfl rfl ?_
  apply l_q rfl
  · apply q_lookup2 keyStr rfl rfl yU189 yU9 yZ52
    · exact tk
  refine mv rfl rfl <| l_q rfl (q_extractL rfl ga) ?_
  refine l_q rfl (q_extractL rfl ga) ?_
  refine asg rfl rfl <| asg rfl rfl <| lz <| mv rfl rfl <| lc <| t_if rfl (fun h => ?_) fun h => ?_
  · refine sr <| mv rfl rfl <| asg rfl rfl <| lc <| rt ?_
    obtain ⟨v, hv⟩ := Option.isSome_iff_exists.1 h
    obtain ⟨x, rfl, _⟩ := hm _ _ hv
    refine fr1 rfl ([pt po (.cells #[.map (some bm)] 191 (0, 0)), mapH (fun k : ByteArray => Value.string k) bm m, G]) (.tmp rfl) ?_
    exact ⟨by unfold hashF; rw [hv]; rfl, rfl⟩
  · refine t_skip <| nz <| mv rfl rfl <| mv rfl rfl ?_
    have hv : lkK m key = none := by simpa using h
    refine lc1 rfl rfl rfl (Mix_ok G hO seed hs key hk) ?_
    refine asg rfl rfl <| lc <| rt <| fr1 rfl ([pt po (.cells #[.map (some bm)] 191 (0, 0)), mapH (fun k : ByteArray => Value.string k) bm m, G]) (.tmp rfl) ?_
    exact ⟨by unfold hashF; rw [hv], rfl⟩
theorem xor_bnd (a b : Int) : 0 ≤ bits .xor .u64 a b ∧ bits .xor .u64 a b < 18446744073709551616 := by
  unfold bits
  simp only [IntKind.wrap_u64]
  omega
theorem mixF_bnd (seed : Int) (key : ByteArray) : 0 ≤ mixF seed key ∧ mixF seed key < 18446744073709551616 := xor_bnd _ _
theorem hashF_bnd {m : List (ByteArray × Value)} (hm : OverOk m) (seed : Int) (key : ByteArray) : 0 ≤ hashF m seed key ∧ hashF m seed key < 18446744073709551616 := by
  unfold hashF
  split
  · next k x h =>
    obtain ⟨y, e, h1, h2⟩ := hm _ _ h
    cases e; exact ⟨h1, h2⟩
  · exact mixF_bnd _ _
end Go.Proofs.YtgijnebgchkenaaGreatDoor.Oracle
end
section
/- Contracts of oracle.New and larderref04.New: overrides. -/
set_option linter.unusedVariables false
set_option linter.unusedSimpArgs false
set_option maxRecDepth 100000
namespace Go.Proofs.YtgijnebgchkenaaGreatDoor.Oracle
open Go.RowKit Go.Proofs Go.Proofs.YtgijnebgchkenaaGreatDoor.Eng Go.Proofs.YtgijnebgchkenaaGreatDoor.Ty Go.Proofs.YtgijnebgchkenaaGreatDoor.Bits Go.Proofs.YtgijnebgchkenaaGreatDoor.Mem Go.Proofs.YtgijnebgchkenaaGreatDoor.CtrlB Go.Proofs.YtgijnebgchkenaaGreatDoor.Ctrl

/-- An override's cells. -/
def overC (o : ByteArray × Int) : List Value := [.string o.1, .int .u64 o.2]
theorem over2 (o : ByteArray × Int) : (overC o).length = 2 := rfl
/-- A slice of overrides that can be read in the piece A. -/
def OversAt (A : HP) (v : Value) (os : List (ByteArray × Int)) : Prop := ∃ a cap, v = .slice a os.length cap ∧ (0 < os.length → ∃ b o, a = some ⟨b, o, none⟩ ∧ ∀ (i : Nat) t, os[i]? = some t → ∀ (j : Nat) x, (overC t)[j]? = some x → CellAt A ⟨b, o + i * 2 + j, none⟩ x)
theorem over_cell {A : HP} {os : List (ByteArray × Int)} {b o i : Nat} {t : ByteArray × Int} (h : ∀ (i : Nat) t, os[i]? = some t → ∀ (j : Nat) x, (overC t)[j]? = some x → CellAt A ⟨b, o + i * 2 + j, none⟩ x) (ht : os[i]? = some t) :
    CellAt A ⟨b, o + (i : Int).toNat * 2 + 0, none⟩ (.string t.1) ∧ ∀ j x, [Value.string t.1, .int .u64 t.2][j]? = some x → CellAt A ((⟨b, o + (i : Int).toNat * 2, none⟩ : Addr).add j) x := by
  rw [Int.toNat_natCast]
  exact ⟨h i t ht 0 _ rfl, fun j x hx => by rw [add_none]; exact h i t ht j x hx⟩
/-- Overrides in a row that a slice owns. -/
theorem own_over {a : Option Addr} {cap : Nat} {os : List (ByteArray × Int)} (h : 0 < os.length → ∃ g, a = some ⟨g, 0, none⟩) : OversAt (ownS 152 2 (.slice a os.length cap) os.length (rowOf overC os)) (.slice a os.length cap) os :=
  ⟨a, cap, rfl, fun q => by
    obtain ⟨g, rfl⟩ := h q
    refine ⟨g, 0, rfl, fun i t ht j x hx => ?_⟩
    have hj : j < 2 := by have := (List.getElem?_eq_some_iff.1 hx).1; rwa [over2] at this
    rw [Nat.zero_add]
    exact own_cell (by rw [rowOf_get over2 os i j t ht hj]; exact hx)⟩
def okO (os : List (ByteArray × Int)) (i : Nat) : Prop := ∀ o, os[i]? = some o → 1 ≤ o.1.size ∧ o.1.size ≤ 128 ∧ ∀ j p, j < i → os[j]? = some p → p.1 ≠ o.1
/-- Overrides that are taken. -/
def goodO (os : List (ByteArray × Int)) : Prop := os.length ≤ 64 ∧ ∀ i, okO os i
/-- The map of overrides. -/
def mapO (os : List (ByteArray × Int)) : List (ByteArray × Value) := os.foldl (fun m o => setK m o.1 (.int .u64 o.2)) []
theorem mapO_next {os : List (ByteArray × Int)} {i : Nat} {t : ByteArray × Int} (ht : os[i]? = some t) : mapO (os.take (i + 1)) = setK (mapO (os.take i)) t.1 (.int .u64 t.2) := by
  rw [List.take_add_one, ht]; simp [mapO]
theorem mapO_lk {os : List (ByteArray × Int)} : ∀ {i : Nat} {k : ByteArray} {v : Value}, i ≤ os.length → lkK (mapO (os.take i)) k = some v → ∃ j t, j < i ∧ os[j]? = some t ∧ t.1 = k ∧ v = .int .u64 t.2
  | 0, k, v, _, h => by simp [mapO, lkK] at h
  | i + 1, k, v, hi, h => by
    obtain ⟨t, ht⟩ : ∃ t, os[i]? = some t := ⟨os[i], List.getElem?_eq_getElem (by omega)⟩
    rw [mapO_next ht, lk_set] at h
    split at h
    · next q => exact ⟨i, t, by omega, ht, q, by cases h; rfl⟩
    · obtain ⟨j, u, h1, h2⟩ := mapO_lk (by omega) h
      exact ⟨j, u, by omega, h2⟩
theorem mapO_ok {os : List (ByteArray × Int)} (hw : ∀ o ∈ os, 0 ≤ o.2 ∧ o.2 < 18446744073709551616) : OverOk (mapO os) := fun k v h => by
  rw [show mapO os = mapO (os.take os.length) by rw [List.take_length]] at h
  obtain ⟨j, t, _, h2, _, rfl⟩ := mapO_lk (Nat.le_refl _) h
  exact ⟨_, rfl, hw t (List.mem_of_getElem? h2)⟩
theorem oNew_ok (A : HP) (v : Value) (os : List (ByteArray × Int)) (hO : OversAt A v os) (hg : goodO os) :
    FnOk Tryz.prog 76 #[v] [A] (fun r L => ∃ po bm, r = .tuple #[.pointer (some ⟨po, 0, none⟩), .int .i64 0] ∧ L = [pt po (.cells #[.map (some bm)] 191 (0, 0)), mapH (fun k : ByteArray => Value.string k) bm (mapO os), A]) := by
  obtain ⟨a, cap, rfl, hO1⟩ := hO
  have h64 := hg.1
  refine fn_intro en76 Tryz.func76 rfl rfl rfl fun Fr w0 => t_nm ?_
  refine sr <| asg rfl rfl <| asg rfl rfl <| lc <| t_seq <| sr <| mv rfl rfl <| l_q rfl (ql rfl yU87) <| l_q rfl (qi rfl rfl (b_gtr ·)) <| lc <| t_if rfl (fun h1 => ?_) fun h1 => ?_
  · omega
  · refine t_skip <| nz <| mv rfl rfl <| l_q rfl (ql rfl yU87) ?_
    refine o_makeMapN (fun k : ByteArray => Value.string k) rfl rfl yU189 (fun b14 => ?_)
    apply l_q rfl
    · apply q_buildS rfl yP191 yZ191
      · apply FillR.one
        · repeat (first | exact PlAt.here | apply PlAt.there)
        · rfl
        · exact sa
        exact FillR.nil
    refine o_boxA rfl rfl fun b16 => asg rfl rfl <| lc <| t_seq <| sr <| mv rfl rfl <| l_q rfl (ql rfl yU87) <| mv rfl rfl <| lc <| t_block ?_
    refine t_loop (fun i : Nat => i ≤ os.length) (fun i => [(4, .pointer (some ⟨b16, 0, none⟩)), (17, .slice a os.length cap), (18, .int .i64 (os.length : Nat)), (19, .int .i64 (i : Nat))]) (fun i => pt b16 (.cells #[.map (some b14)] 191 (0, 0)) :: mapH (fun k : ByteArray => Value.string k) b14 (mapO (os.take i)) :: A :: Fr) (fun i => os.length - i) 0 (Nat.zero_le _) ⟨rfl, rfl, rfl, rfl, trivial⟩ (by (exact en)) ?_
    rintro i hi
    refine sr <| l_q rfl (qi rfl rfl (b_lss ·)) <| lc <| t_seq <| t_if rfl (fun h2 => ?_) fun h2 => ?_
    · skip
      obtain ⟨b, o, rfl, hO2⟩ := hO1 (by omega)
      obtain ⟨t, ht⟩ : ∃ t, os[i]? = some t := ⟨os[i], List.getElem?_eq_getElem (by omega)⟩
      have hc := over_cell hO2 ht
      obtain ⟨g1, g2, g3⟩ := hg.2 i t ht
      have hnew : lkK (mapO (os.take i)) t.1 = none := by
        cases hv : lkK (mapO (os.take i)) t.1 with
        | none => rfl
        | some v => obtain ⟨j, u, j1, j2, j3, _⟩ := mapO_lk (by omega) hv; exact absurd j3 (g3 j u j1 j2)
      refine t_skip <| n_code <| t_seq <| t_block <| sr <| l_q rfl (q_indexAddr rfl rfl yU87 yS152 (by omega)) ?_
      refine l_q rfl (q_loadRA (A := A) (us := [.string t.1, .int .u64 t.2]) rfl yA152 yS152 rfl tk hc.2) ?_
      refine o_allocA rfl yZ152 fun b6 => sta rfl rfl rfl yS152 rfl rfl ?_
      refine lc <| t_seq <| sr <| l_q rfl (qfa 0 rfl yU152 rfl rfl yS9) <| l_q rfl (qld rfl yA9) ?_
      refine l_q rfl (qs rfl rfl (b_eqlS ·)) <| mv rfl rfl <| l_pt (t := 26) rfl (fun h3 => ?_) fun h3 => ?_
      · rw [h3] at g1; exact absurd g1 (by decide)
      · refine l_on rfl rfl <| l_q rfl (qfa 0 rfl yU152 rfl rfl yS9) <| l_on rfl rfl <| l_q rfl (qld rfl yA9) ?_
        refine l_on rfl rfl <| l_q rfl (qls rfl yU9) <| l_on rfl rfl <| l_q rfl (qi rfl rfl (b_gtr ·)) <| l_q rfl (q_pk rfl rfl) <| lc <| t_if rfl (fun h4 => ?_) fun h4 => ?_
        · omega
        · refine t_skip <| n_code <| t_seq <| t_seq <| t_draw mixed ?_
          apply dq 0 rfl
          · exact yq (q_move rfl)
          apply dq 1 rfl
          · exact yq (q_nilCheck rfl)
          apply dq 2 rfl
          · exact yq (qfa 0 rfl yU191 rfl rfl yS189)
          apply dq 3 rfl
          · exact yq (qld rfl yA189)
          apply dq 4 rfl
          · exact yq (qfa 0 rfl yU152 rfl rfl yS9)
          apply dq 5 rfl
          · exact yq (qld rfl yA9)
          apply dq 6 rfl
          · apply yq
            apply q_lookup2 keyStr rfl rfl yU189 yU9 yZ52
            · exact tk
          apply dq 7 rfl
          · exact yq (q_move rfl)
          apply dq 8 rfl
          · exact yq (q_extractL rfl ga)
          apply dq 9 rfl
          · exact yq (q_extractL rfl ga)
          refine d_eff1 [8, 0, 1, 2, 3, 4, 5, 6, 7] [9] 10 [(40, _)] gO ⟨rfl, trivial⟩ (by kernel_rfl) (by kernel_rfl) fun Ex => ?_
          refine asg rfl rfl <| l_nil ?_
          apply n_d
          · refine ⟨?_, trivial⟩
            · apply ya rfl rfl; exact yq (q_extractL rfl ga)
          refine d_eff1 [9] [] 11 [(41, _)] gO ⟨rfl, trivial⟩ (by kernel_rfl) (by kernel_rfl) fun Ex => ?_
          refine asg rfl rfl <| l_nil ?_
          apply n_d
          · exact trivial
          refine d_end (by kernel_rfl) ?_
          refine nz <| mv rfl rfl <| lc <| t_if rfl (fun h5 => ?_) fun h5 => ?_
          · rw [hnew] at h5; cases h5
          · refine t_skip <| n_code <| t_draw mixed ?_
            apply dq 0 rfl
            · exact yq (q_move rfl)
            apply dq 1 rfl
            · exact yq (q_nilCheck rfl)
            apply dq 2 rfl
            · exact yq (qfa 0 rfl yU191 rfl rfl yS189)
            apply dq 3 rfl
            · exact yq (qld rfl yA189)
            apply dq 4 rfl
            · exact yq (qfa 0 rfl yU152 rfl rfl yS9)
            apply dq 5 rfl
            · exact yq (qld rfl yA9)
            apply dq 6 rfl
            · exact yq (qfa 1 rfl yU152 rfl rfl yS52)
            apply dq 7 rfl
            · exact yq (qld rfl yA52)
            refine d_eff1 [3, 5, 7, 0, 1, 2, 4, 6] [] 8 [(46, _), (48, _), (50, _)] gO ⟨rfl, rfl, rfl, trivial⟩ (by kernel_rfl) (by kernel_rfl) fun Ex => ?_
            apply o_mapUpdate keyStr rfl rfl rfl rfl yU189 yU9
            · exact tk
            refine l_nil ?_
            apply n_d
            · exact trivial
            refine d_end (by kernel_rfl) ?_
            refine n_blk <| n_code <| t_region <| l_q rfl (qadd rfl rfl) ?_
            refine mv rfl rfl <| l_nil ?_
            rw [← mapO_next ht]
            apply n_again ((i + 1))
            · exact (show i + 1 ≤ os.length by omega)
            · omega
            · exact ⟨rfl, rfl, rfl, rfl, trivial⟩
            · exact en
    · obtain rfl : i = os.length := by omega
      rw [List.take_length]
      exact xt rfl <| nz <| mv rfl rfl <| asg rfl rfl <| asg rfl rfl <| lc <| rt <| fr2 rfl ([pt b16 (.cells #[.map (some b14)] 191 (0, 0)), mapH (fun k : ByteArray => Value.string k) b14 (mapO os), A]) (.tmp rfl) (.tmp rfl) ⟨b16, b14, rfl, rfl⟩
end Go.Proofs.YtgijnebgchkenaaGreatDoor.Oracle
end
