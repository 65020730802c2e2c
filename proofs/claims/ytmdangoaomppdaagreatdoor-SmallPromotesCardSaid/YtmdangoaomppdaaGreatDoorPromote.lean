import Derived.Test.YtmdangoaomppdaaGreatDoorMem
import Derived.Test.YtmdangoaomppdaaGreatDoorCtrl
import Derived.Test.YtmdangoaomppdaaGreatDoorEngMap
import Derived.Test.YtmdangoaomppdaaGreatDoorSmallC
import Derived.Test.YtmdangoaomppdaaGreatDoorSmallM
section
/- Contracts of package oracle: the mixer. -/
set_option linter.unusedVariables false
set_option linter.unusedSimpArgs false
set_option maxRecDepth 100000
namespace Go.Proofs.YtmdangoaomppdaaGreatDoor.Oracle
open Go.RowKit Go.Proofs Go.Proofs.YtmdangoaomppdaaGreatDoor.Eng Go.Proofs.YtmdangoaomppdaaGreatDoor.Ty Go.Proofs.YtmdangoaomppdaaGreatDoor.Bits Go.Proofs.YtmdangoaomppdaaGreatDoor.Mem Go.Proofs.YtmdangoaomppdaaGreatDoor.CtrlB Go.Proofs.YtmdangoaomppdaaGreatDoor.Ctrl

/-- The piece G holds the mixer's two multipliers. -/
def OddOk (G : HP) : Prop := CellAt G ⟨0, 0, none⟩ (.int .u64 13234230157428861123) ∧ CellAt G ⟨0, 1, none⟩ (.int .u64 11329751410908088055)
def mix0 (seed : Int) (n : Nat) : Int := bits .xor .u64 seed (IntKind.u64.wrap (13234230157428861123 * (1 + (n : Int))))
def mixX (h b : Int) : Int := IntKind.u64.wrap (bits .xor .u64 h b * 11329751410908088055)
def mixS (h b : Int) : Int := bits .xor .u64 (mixX h b) ((mixX h b).fdiv (2 ^ min (Int.toNat 31) IntKind.u64.bits))
/-- The mixer's sum behind the first bytes. -/
def mixR (seed : Int) (key : ByteArray) : Nat → Int
  | 0 => mix0 seed key.size
  | i + 1 => mixS (mixR seed key i) (if h : i < key.size then IntKind.u64.wrap ((key[i]'h).toNat : Int) else 0)
def mixA (h : Int) : Int := bits .xor .u64 h (h.fdiv (2 ^ min (Int.toNat 29) IntKind.u64.bits))
def mixE (h : Int) : Int := bits .xor .u64 (IntKind.u64.wrap (mixA h * 13234230157428861123)) ((IntKind.u64.wrap (mixA h * 13234230157428861123)).fdiv (2 ^ min (Int.toNat 32) IntKind.u64.bits))
/-- The mixer's hash. -/
def mixF (seed : Int) (key : ByteArray) : Int := mixE (mixR seed key key.size)
theorem Mix_ok (G : HP) (hO : OddOk G) (seed : Int) (hs : 0 ≤ seed ∧ seed < 18446744073709551616) (key : ByteArray) (hk : key.size ≤ 128) :
    FnOk Tryz.prog 73 #[.int .u64 seed, .string key] [G] (fun v L => v = .int .u64 (mixF seed key) ∧ L = [G]) := by
  refine fn_intro en73 Tryz.func73 rfl rfl rfl fun Fr w0 => t_nm ?_
  refine sr <| asg rfl rfl <| lz <| mv rfl rfl <| l_q rfl (q_indexAddrA rfl rfl yU201 yS22 (by omega)) ?_
  refine l_q rfl (q_loadR (A := G) rfl yA22 tk hO.1) ?_
  refine mv rfl rfl <| l_q rfl (qls rfl yU9) <| l_q rfl (qadd rfl rfl) ?_
  refine l_q rfl (qcv rfl yU3 yU22) ?_
  refine l_q rfl (qmul rfl rfl) ?_
  refine l_q rfl (qbit rfl rfl rfl) <| asg rfl rfl <| lc <| t_seq <| sr <| asg rfl rfl <| lc <| t_block ?_
  refine t_loop (fun i : Nat => i ≤ key.size) (fun i => [(1, .string key), (5, .int .u64 (mixR seed key i)), (6, .int .i64 (i : Nat))]) (fun _ => G :: Fr) (fun i => key.size - i) 0 (Nat.zero_le _) ⟨rfl, rfl, rfl, trivial⟩ (by (exact en)) ?_
  intro i hi
  refine t_seq <| sr <| mv rfl rfl <| mv rfl rfl <| l_q rfl (qls rfl yU9) <| l_q rfl (qi rfl rfl (b_lss ·)) <| lc <| t_if rfl (fun h => ?_) fun h => ?_
  · refine t_skip <| n_code <| t_seq <| t_block <| t_seq <| t_draw mixed ?_
    apply dq 0 rfl
    · exact yq (q_move rfl)
    apply dq 1 rfl
    · exact yq (q_move rfl)
    apply dq 2 rfl
    · exact yq (q_move rfl)
    apply dq 3 rfl
    · exact yq (q_indexS rfl rfl yU9 (by omega))
    apply dq 4 rfl
    · exact yq (qcv rfl yU5 yU22)
    apply dq 5 rfl
    · exact yq (qbit rfl rfl rfl)
    apply dq 6 rfl
    · exact yq (q_indexAddrA rfl rfl yU201 yS22 (by omega))
    apply dq 7 rfl
    · exact yq (q_loadR (A := G) rfl yA22 tk hO.2)
    apply dq 8 rfl
    · exact yq (qmul rfl rfl)
    refine d_eff1 [8, 0, 1, 2, 3, 4, 5, 6, 7] [] 9 [(30, _)] gO ⟨rfl, trivial⟩ (by kernel_rfl) (by kernel_rfl) fun Ex => ?_
    refine asg rfl rfl <| l_nil ?_
    apply n_d
    · exact trivial
    refine d_end (by kernel_rfl) ?_
    refine n_code <| t_region <| mv rfl rfl <| mv rfl rfl ?_
    apply l_q rfl
    · apply qi rfl rfl; first | exact fun w => b_shr_c (m := 2147483648) w (by decide) (by decide) (by omega) | exact fun w => b_shr w (by decide)
    refine l_q rfl (qbit rfl rfl rfl) <| asg rfl rfl <| l_nil <| n_blk <| n_code <| t_region <| mv rfl rfl <| l_q rfl (qadd rfl rfl) ?_
    refine asg rfl rfl <| l_nil ?_
    have hst : mixR seed key (i + 1) = mixS (mixR seed key i) (IntKind.u64.wrap ((key[i]'(by omega)).toNat : Int)) := by simp only [mixR]; rw [dif_pos]
    apply n_again ((i + 1))
    · exact by omega
    · omega
    · exact ⟨rfl, by rw [hst]; rfl, rfl, trivial⟩
    · exact en
  · refine xt rfl <| nz <| mv rfl rfl <| mv rfl rfl ?_
    apply l_q rfl
    · apply qi rfl rfl; first | exact fun w => b_shr_c (m := 536870912) w (by decide) (by decide) (by omega) | exact fun w => b_shr w (by decide)
    refine l_q rfl (qbit rfl rfl rfl) <| asg rfl rfl <| lz <| mv rfl rfl <| l_q rfl (q_indexAddrA rfl rfl yU201 yS22 (by omega)) ?_
    refine l_q rfl (q_loadR (A := G) rfl yA22 tk hO.1) ?_
    refine l_q rfl (qmul rfl rfl) ?_
    refine asg rfl rfl <| lz <| mv rfl rfl <| mv rfl rfl ?_
    apply l_q rfl
    · apply qi rfl rfl; first | exact fun w => b_shr_c (m := 4294967296) w (by decide) (by decide) (by omega) | exact fun w => b_shr w (by decide)
    refine l_q rfl (qbit rfl rfl rfl) <| asg rfl rfl <| lc <| rt ?_
    obtain rfl : i = key.size := by omega
    exact fr1 rfl ([G]) (.tmp rfl) ⟨rfl, rfl⟩
/-- The overrides that a map holds. -/
def OverOk (m : List (ByteArray × Value)) : Prop := ∀ k v, lkK m k = some v → ∃ x, v = .int .u64 x ∧ 0 ≤ x ∧ x < 18446744073709551616
def hashF (m : List (ByteArray × Value)) (seed : Int) (key : ByteArray) : Int := match lkK m key with | some (.int _ x) => x | _ => mixF seed key
theorem Hash_ok (G : HP) (hO : OddOk G) (po bm : Nat) (m : List (ByteArray × Value)) (hm : OverOk m) (seed : Int) (hs : 0 ≤ seed ∧ seed < 18446744073709551616) (key : ByteArray) (hk : key.size ≤ 128) :
    FnOk Tryz.prog 30 #[.pointer (some ⟨po, 0, none⟩), .int .u64 seed, .string key] [pt po (.cells #[.map (some bm)] 151 (0, 0)), mapH (fun k : ByteArray => Value.string k) bm m, G]
      (fun v L => v = .int .u64 (hashF m seed key) ∧ L = [pt po (.cells #[.map (some bm)] 151 (0, 0)), mapH (fun k : ByteArray => Value.string k) bm m, G]) := by
  refine fn_intro en30 Tryz.func30 rfl rfl rfl fun Fr w0 => t_nm ?_
  refine sr <| asg rfl rfl <| lc <| t_seq <| sr <| mv rfl rfl <| l_q rfl (q_nilCheck rfl) <| l_q rfl (qfa 0 rfl yU151 rfl rfl yS149) <| l_q rfl (qld rfl yA149) ?_
  refine mv rfl rfl ?_
  apply l_q rfl
  · apply q_lookup2 keyStr rfl rfl yU149 yU9 yZ22
    · exact tk
  refine mv rfl rfl <| l_q rfl (q_extractL rfl ga) ?_
  refine l_q rfl (q_extractL rfl ga) ?_
  refine asg rfl rfl <| asg rfl rfl <| lz <| mv rfl rfl <| lc <| t_if rfl (fun h => ?_) fun h => ?_
  · refine sr <| mv rfl rfl <| asg rfl rfl <| lc <| rt ?_
    obtain ⟨v, hv⟩ := Option.isSome_iff_exists.1 h
    obtain ⟨x, rfl, _⟩ := hm _ _ hv
    refine fr1 rfl ([pt po (.cells #[.map (some bm)] 151 (0, 0)), mapH (fun k : ByteArray => Value.string k) bm m, G]) (.tmp rfl) ?_
    exact ⟨by unfold hashF; rw [hv]; rfl, rfl⟩
  · refine t_skip <| nz <| mv rfl rfl <| mv rfl rfl ?_
    have hv : lkK m key = none := by simpa using h
    refine lc1 rfl rfl rfl (Mix_ok G hO seed hs key hk) ?_
    refine asg rfl rfl <| lc <| rt <| fr1 rfl ([pt po (.cells #[.map (some bm)] 151 (0, 0)), mapH (fun k : ByteArray => Value.string k) bm m, G]) (.tmp rfl) ?_
    exact ⟨by unfold hashF; rw [hv], rfl⟩
theorem xor_bnd (a b : Int) : 0 ≤ bits .xor .u64 a b ∧ bits .xor .u64 a b < 18446744073709551616 := by
  unfold bits
  simp only [IntKind.wrap_u64]
  omega
theorem mixF_bnd (seed : Int) (key : ByteArray) : 0 ≤ mixF seed key ∧ mixF seed key < 18446744073709551616 := xor_bnd _ _
theorem hashF_bnd {m : List (ByteArray × Value)} (hm : OverOk m) (seed : Int) (key : ByteArray) : 0 ≤ hashF m seed key ∧ hashF m seed key < 18446744073709551616 := by
  unfold hashF
  split
  · next k x h =>
    obtain ⟨y, e, h1, h2⟩ := hm _ _ h
    cases e; exact ⟨h1, h2⟩
  · exact mixF_bnd _ _
end Go.Proofs.YtmdangoaomppdaaGreatDoor.Oracle
end
section
/- Contracts of package small: Promote. -/
set_option linter.unusedVariables false
set_option linter.unusedSimpArgs false
set_option maxRecDepth 100000
namespace Go.Proofs.YtmdangoaomppdaaGreatDoor.Small
open Go.RowKit Go.Proofs Go.Proofs.YtmdangoaomppdaaGreatDoor.Eng Go.Proofs.YtmdangoaomppdaaGreatDoor.Ty Go.Proofs.YtmdangoaomppdaaGreatDoor.Bits Go.Proofs.YtmdangoaomppdaaGreatDoor.Mem Go.Proofs.YtmdangoaomppdaaGreatDoor.Search Go.Proofs.YtmdangoaomppdaaGreatDoor.Arena Go.Proofs.YtmdangoaomppdaaGreatDoor.CtrlB Go.Proofs.YtmdangoaomppdaaGreatDoor.Ctrl Go.Proofs.YtmdangoaomppdaaGreatDoor.Layout Go.Proofs.YtmdangoaomppdaaGreatDoor.GroupB Go.Proofs.YtmdangoaomppdaaGreatDoor.Group Go.Proofs.YtmdangoaomppdaaGreatDoor.TableB Go.Proofs.YtmdangoaomppdaaGreatDoor.TableI Go.Proofs.YtmdangoaomppdaaGreatDoor.Table Go.Proofs.YtmdangoaomppdaaGreatDoor.Cells Go.Proofs.YtmdangoaomppdaaGreatDoor.Refill Go.Proofs.YtmdangoaomppdaaGreatDoor.Oracle Go.Proofs.YtmdangoaomppdaaGreatDoor.Bench

theorem Promote_ok (G : HP) (hGT : TabOk G) (hGO : OddOk G) (pa po bm off : Nat) (s : ArS) (l : Lay) (S : Sm) (m : List (ByteArray × Value)) (hm : OverOk m) (sd : Int) (hsd : 0 ≤ sd ∧ sd < 18446744073709551616) (hP : SmP s off l S) (ho : onceC S.cells 8) :
    FnOk Tryz.prog 21 #[.agg #[.pointer (some ⟨pa, 0, none⟩), .int .i64 l.key, .int .i64 l.elem, .int .i64 l.ka, .int .i64 l.ea, .int .i64 l.cap, .int .i64 l.eo, .int .i64 l.bo, .int .i64 l.slot, .int .i64 l.group, .int .i64 (off : Nat)], .pointer (some ⟨po, 0, none⟩), .int .u64 sd] [pt po (.cells #[.map (some bm)] 151 (0, 0)), mapH (fun k : ByteArray => Value.string k) bm m, G, arenaH pa s]
      (fun v L => (s.limit - s.live < 64 + classI ((2 * gN l : Nat) : Int) ∧ v = .tuple #[.agg #[.pointer none, .int .i64 0, .int .i64 0, .int .i64 0, .int .i64 0, .int .i64 0, .int .i64 0, .int .i64 0, .int .i64 0, .int .i64 0, .int .i64 0], .int .i64 22] ∧ L = [pt po (.cells #[.map (some bm)] 151 (0, 0)), mapH (fun k : ByteArray => Value.string k) bm m, G, arenaH pa s]) ∨
        (s.live + (64 + classI ((2 * gN l : Nat) : Int)) ≤ s.limit ∧ ∃ s' U lives, v = .tuple #[.agg #[.pointer (some ⟨pa, 0, none⟩), .int .i64 l.key, .int .i64 l.elem, .int .i64 l.ka, .int .i64 l.ea, .int .i64 l.cap, .int .i64 l.eo, .int .i64 l.bo, .int .i64 l.slot, .int .i64 l.group, .int .i64 ((s.stop : Nat) : Int)], .int .i64 0] ∧ L = [pt po (.cells #[.map (some bm)] 151 (0, 0)), mapH (fun k : ByteArray => Value.string k) bm m, G, arenaH pa s'] ∧ TabP s' s.stop (s.stop + 64) l 2 1 U ∧ RF (hashF m sd) S.cells 8 2 U lives (cnt isFull S.cells 8) ∧ SmP s' off l S ∧ s'.limit = s.limit ∧ s'.live = s.live + (64 + classI ((2 * gN l : Nat) : Int)) ∧ Keeps (newT 2 0) U)) := by
  have hbd := Lay.bnd hP.hl
  have hN := hP.hN
  have hg := hN.g
  have hkk := hN.k
  refine fn_intro en21 Tryz.func21 rfl rfl rfl fun Fr w0 => t_nm ?_
  refine t_pure (φ := s.ok) (fun w hw => arena_ok hw (.there (.there (.there .here)))) fun hok0 => ?_
  have hend := hP.end_le hok0
  refine sr <| o_boxA rfl rfl fun b3 => o_box1 rfl rfl rfl fun b4 => o_box1 rfl rfl rfl fun b5 => o_allocA rfl yZ32 fun b6 => o_alloc1 rfl yZ40 rfl fun b7 => lc <| t_seq <| sr <| l_q rfl (qlda rfl yA64 yS64) ?_
  refine lc1 rfl rfl rfl (SStat_ok pa off s l S hP) ?_
  refine mv rfl rfl <| l_q rfl (q_extractL rfl ga) ?_
  refine l_q rfl (q_extractL rfl ga) ?_
  refine o_allocA rfl yZ128 fun b8 => sta rfl rfl rfl yS128 rfl rfl ?_
  refine asg rfl rfl <| lz <| mv rfl rfl <| l_q rfl (qi rfl rfl (b_neq ·)) <| lc <| t_if rfl (fun z => ?_) fun z => ?_
  · exact absurd rfl z
  · refine t_skip <| nz <| l_q rfl (qfa 0 rfl yU64 rfl rfl yS27) <| l_q rfl (qld rfl yA27) ?_
    refine l_q rfl (qfa 1 rfl yU64 rfl rfl yS30) <| l_q rfl (qlda rfl yA30 yS30) ?_
    refine lcf rfl rfl rfl (New_ok pa 2 1 s l 16 0 hP.hl (by decide) rfl rfl (by decide)) ?_
    rintro v L' (⟨hb, rfl, rfl⟩ | ⟨_, hfit, s1, rfl, rfl, hT, hNs⟩)
    refine l_nm ?_
    · skip
      refine l_nm ?_
      refine mv rfl rfl <| l_q rfl (q_extractL rfl ga) ?_
      refine l_q rfl (q_extractL rfl ga) ?_
      refine o_allocA rfl yZ32 fun b10 => sta rfl rfl rfl yS32 rfl rfl ?_
      refine asg rfl rfl <| lc <| t_seq <| sr <| mv rfl rfl <| l_q rfl (qi rfl rfl (b_neq ·)) <| lc <| t_if rfl (fun y => ?_) fun y => ?_
      · refine sr ?_
        apply l_q rfl
        · apply q_buildS rfl yP32 yZ32
          · exact FillR.nil
        refine mv rfl rfl <| sta rfl rfl rfl yS32 rfl rfl ?_
        refine st rfl rfl rfl yS40 rfl ?_
        refine lc <| rt ?_
        apply f_ret (.inl rfl) ([pt po (.cells #[.map (some bm)] 151 (0, 0)), mapH (fun k : ByteArray => Value.string k) bm m, G, arenaH pa s])
        · apply res2 rfl
          · apply Rv.agg rfl
            · exact tk
            · exact run_loadAll yA32 yS32 rfl
          · apply Rv.cellL rfl
            · exact tk
            · exact ga
            · exact yA40
        · exact .inl ⟨by omega, rfl, rfl⟩
        · exact en
      · omega
    · skip
      refine l_nm ?_
      refine mv rfl rfl <| l_q rfl (q_extractL rfl ga) ?_
      refine l_q rfl (q_extractL rfl ga) ?_
      refine o_allocA rfl yZ32 fun b10 => sta rfl rfl rfl yS32 rfl rfl ?_
      refine asg rfl rfl <| lc <| t_seq <| sr <| mv rfl rfl <| l_q rfl (qi rfl rfl (b_neq ·)) <| lc <| t_if rfl (fun y => ?_) fun y => ?_
      · exact absurd rfl y
      · refine t_skip <| n_code <| t_seq <| sr <| l_q rfl (qlda rfl yA64 yS64) ?_
        refine lcf rfl rfl rfl (SCells_ok pa off l) ?_
        rintro v L' ⟨bc, rfl, rfl⟩
        refine l_nm ?_
        refine lc <| t_block ?_
        apply t_rangeH (p := (fun k (x : ArS × Tb × List Life) => TabP x.1 s.stop (s.stop + 64) l 2 1 x.2.1 ∧ RF (hashF m sd) S.cells 8 2 x.2.1 x.2.2 k ∧ SameBut s1 x.1 s.stop (s.stop + 64) (2 * gN l) ∧ Keeps (newT 2 0) x.2.1)) (J := (fun _ x => [pt b4 (.cells #[.pointer (some ⟨po, 0, none⟩)] 28 (0, 0)), pt b5 (.cells #[.int .u64 sd] 22 (0, 0)), pt b6 (.cells #[.pointer none, .int .i64 0, .int .i64 0, .int .i64 0, .int .i64 0, .int .i64 0, .int .i64 0, .int .i64 0, .int .i64 0, .int .i64 0, .int .i64 0] 32 (0, 0)), pt b7 (.cells #[.int .i64 0] 40 (0, 0)), pt b10 (.cells #[.pointer (some ⟨pa, 0, none⟩), .int .i64 l.key, .int .i64 l.elem, .int .i64 l.ka, .int .i64 l.ea, .int .i64 l.cap, .int .i64 l.eo, .int .i64 l.bo, .int .i64 l.slot, .int .i64 l.group, .int .i64 ((s.stop : Nat) : Int)] 32 (0, 0)), pt po (.cells #[.map (some bm)] 151 (0, 0)), mapH (fun k : ByteArray => Value.string k) bm m, G, arenaH pa x.1])) (q := (fun _ (y : Code × Unit) => False)) (Jx := (fun _ _ => [])) (x0 := (s1, newT 2 0, [])) (hc := SCells_it pa off bc s1 l S (hP.newS hok0 hNs)) (hr := rfl) (hg := rfl)
        · exact pk
        · exact ⟨hT, RF.new (by decide) 0, SameBut.refl _ _ _ _, Keeps.refl _⟩
        · (try dsimp only); (try simp only [Int.natCast_zero, Nat.sub_zero]); exact pk
        · (try dsimp only); (try simp only [Int.natCast_zero, Nat.sub_zero]); exact pk
        · rfl
        · exact cellsV_two
        · rintro l' rc Fr' w1 k x ⟨s2, U, lives⟩ hrd hpn hx ⟨hT2, hR2, hS2, hK2⟩
          have hkl := (List.getElem?_eq_some_iff.1 hx).1
          rw [cellsV_len] at hkl
          have hk8 := cnt_le isFull S.cells 8
          obtain ⟨i1, hi8, hfi, hck, rfl⟩ := cellsV_at hx
          dsimp only at hT2 hR2 hS2 hK2 ⊢
          obtain ⟨hu1, hu2, _, _⟩ := hR2.counts
          have hok1 := hP.okc i1 hi8
          obtain ⟨t1, hc1⟩ := full_of hfi
          rw [hc1] at hok1
          obtain ⟨_, _, hks, hes, hb0, hb1⟩ := hok1
          have hhb := hashF_bnd hm sd (S.cells i1).keyS
          have hpr := putR (T := U) (h := hashF m sd (S.cells i1).keyS) (key := (S.cells i1).keyS) (by decide : 0 < 2) (fun g hg => gk_onto hT2.hn hg) (S.cells i1).elemS (S.cells i1).birthI
          obtain ⟨hout, v1, hR3⟩ := hR2.put ho hi8 hfi hck (by omega) hpr
          refine t_nm ?_
          refine t_region <| o_allocA rfl yZ66 fun b13 => sta rfl rfl rfl yS66 rfl rfl ?_
          refine l_nil ?_
          apply n_begin
          · exact tk
          · assumption
          refine t_block <| t_seq <| t_draw mixed ?_
          apply dq 0 rfl
          · exact yq (qlda rfl yA32 yS32)
          apply dq 1 rfl
          · exact yq (qld rfl yA28)
          apply dq 2 rfl
          · exact yq (qld rfl yA22)
          apply dq 3 rfl
          · exact yq (qfa 2 rfl yU66 rfl rfl yS9)
          apply dq 4 rfl
          · exact yq (qld rfl yA9)
          apply dq 6 rfl
          · exact yq (qfa 2 rfl yU66 rfl rfl yS9)
          apply dq 7 rfl
          · exact yq (qld rfl yA9)
          apply dq 8 rfl
          · exact yq (qfa 3 rfl yU66 rfl rfl yS9)
          apply dq 9 rfl
          · exact yq (qld rfl yA9)
          apply dq 10 rfl
          · exact yq (qfa 4 rfl yU66 rfl rfl yS3)
          apply dq 11 rfl
          · exact yq (qld rfl yA3)
          refine d_eff1 [1, 2, 4, 3] [11, 10, 9, 8, 7, 6, 0] 5 [(43, _), (44, _), (46, _)] gO ⟨rfl, rfl, rfl, trivial⟩ (by kernel_rfl) (by kernel_rfl) fun Ex => ?_
          refine lc1 rfl rfl rfl (Hash_ok G hGO po bm m hm sd hsd (S.cells i1).keyS (by omega)) ?_
          refine l_nil ?_
          apply n_d
          · refine ⟨?_, ?_, ?_, ?_, ?_, ?_, ?_, trivial⟩
            · apply ya rfl rfl; exact yq (qld rfl yA3)
            · apply ya rfl rfl; exact yq (qfa 4 rfl yU66 rfl rfl yS3)
            · apply ya rfl rfl; exact yq (qld rfl yA9)
            · apply ya rfl rfl; exact yq (qfa 3 rfl yU66 rfl rfl yS9)
            · apply ya rfl rfl; exact yq (qld rfl yA9)
            · apply ya rfl rfl; exact yq (qfa 2 rfl yU66 rfl rfl yS9)
            · apply ya rfl rfl; exact yq (qlda rfl yA32 yS32)
          refine d_eff1 [0, 7, 9, 11, 6, 8, 10] [] 12 [(42, _), (47, _), (49, _), (51, _), (53, _)] gO ⟨rfl, rfl, rfl, rfl, rfl, trivial⟩ (by kernel_rfl) (by kernel_rfl) fun Ex => ?_
          refine lcf rfl rfl rfl (Put_ok G hGT pa s.stop (s.stop + 64) 2 1 s2 l U hT2 _ hhb (S.cells i1).keyS (S.cells i1).elemS hks hes (S.cells i1).birthI ⟨hb0, hb1⟩ (by omega) (by omega)) ?_
          rintro v L' ⟨s3, rfl, rfl, hT3, hS3⟩
          refine l_nm ?_
          refine l_nil ?_
          apply n_d
          · exact trivial
          apply dq 13 rfl
          · exact yq (q_move rfl)
          apply dq 14 rfl
          · exact yq (q_extractL rfl ga)
          apply dq 15 rfl
          · exact yq (q_extractL rfl ga)
          refine d_eff1 [14, 13] [15] 16 [(55, _)] gO ⟨rfl, trivial⟩ (by kernel_rfl) (by kernel_rfl) fun Ex => ?_
          refine asg rfl rfl <| l_nil ?_
          apply n_d
          · refine ⟨?_, trivial⟩
            · apply ya rfl rfl; exact yq (q_extractL rfl ga)
          refine d_eff1 [15] [] 17 [(56, _)] gO ⟨rfl, trivial⟩ (by kernel_rfl) (by kernel_rfl) fun Ex => ?_
          refine asg rfl rfl <| l_nil ?_
          apply n_d
          · exact trivial
          refine d_end (by kernel_rfl) ?_
          refine nz <| mv rfl rfl <| l_q rfl (qi rfl rfl (b_neq ·)) <| lc <| t_if rfl (fun y3 => ?_) fun y3 => ?_
          · exact absurd rfl y3
          · refine t_skip <| n_blk ?_
            apply r_next (by assumption) (by assumption) ((s3, (putT 2 U (hashF m sd (S.cells i1).keyS) (S.cells i1).keyS (S.cells i1).elemS (S.cells i1).birthI).2, lives ++ [v1])) (⟨hT3, hR3, hS2.trans hS3, hK2.trans (keeps_put hpr)⟩)
            exact en
        · rintro b1' ⟨s2, U, lives⟩ ⟨hT2, hR2, hS2, hK2⟩
          rw [cellsV_len] at hR2
          dsimp only at hT2 hR2 hS2 hK2 ⊢
          refine n_nm ?_
          refine n_blk <| nz <| l_q rfl (qlda rfl yA32 yS32) ?_
          refine sta rfl rfl rfl yS32 rfl rfl ?_
          refine st rfl rfl rfl yS40 rfl ?_
          refine lc <| rt ?_
          apply f_retm (.inl rfl) [b1'] ([pt po (.cells #[.map (some bm)] 151 (0, 0)), mapH (fun k : ByteArray => Value.string k) bm m, G, arenaH pa s2])
          · repeat (first | with_reducible exact TakeM.nil | apply TakeM.cons | with_reducible exact Take.here | apply Take.there)
          · apply res2 rfl
            · apply Rv.agg rfl
              · exact tk
              · exact run_loadAll yA32 yS32 rfl
            · apply Rv.cellL rfl
              · exact tk
              · exact ga
              · exact yA40
          · exact .inr ⟨hfit, s2, U, lives, rfl, rfl, hT2, hR2, (hP.newS hok0 hNs).same hS2 (by omega) (by omega), hS2.limit.trans hNs.limit, by rw [← hNs.live]; unfold ArS.live; rw [hS2.bl], hK2⟩
          · exact en
        · rintro b1' k ⟨jc, y⟩ hk hq
          exact hq.elim
end Go.Proofs.YtmdangoaomppdaaGreatDoor.Small
end
