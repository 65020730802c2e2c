/- The bench of the laws over plans: its functions' contracts. -/
import Derived.Test.YtgijnebgchkenaaGreatDoorBenchB
import Derived.Test.YtgijnebgchkenaaGreatDoorEngRow
import Derived.Test.YtgijnebgchkenaaGreatDoorTableG
import Derived.Test.YtgijnebgchkenaaGreatDoorTableN
set_option linter.unusedVariables false
set_option linter.unusedSimpArgs false
set_option maxRecDepth 100000
namespace Go.Proofs.YtgijnebgchkenaaGreatDoor.Bench
open Go.RowKit Go.Proofs Go.Proofs.YtgijnebgchkenaaGreatDoor.Eng Go.Proofs.YtgijnebgchkenaaGreatDoor.Ty Go.Proofs.YtgijnebgchkenaaGreatDoor.Bits Go.Proofs.YtgijnebgchkenaaGreatDoor.Mem Go.Proofs.YtgijnebgchkenaaGreatDoor.Search Go.Proofs.YtgijnebgchkenaaGreatDoor.Arena Go.Proofs.YtgijnebgchkenaaGreatDoor.CtrlB Go.Proofs.YtgijnebgchkenaaGreatDoor.Ctrl Go.Proofs.YtgijnebgchkenaaGreatDoor.Layout Go.Proofs.YtgijnebgchkenaaGreatDoor.GroupB Go.Proofs.YtgijnebgchkenaaGreatDoor.Group Go.Proofs.YtgijnebgchkenaaGreatDoor.Probe Go.Proofs.YtgijnebgchkenaaGreatDoor.TableB Go.Proofs.YtgijnebgchkenaaGreatDoor.TableI Go.Proofs.YtgijnebgchkenaaGreatDoor.Table Go.Proofs.YtgijnebgchkenaaGreatDoor.Ref03

theorem dec_t {p : Prop} {i : Decidable p} (h : p) : decide p = true := by simp [h]
theorem life5 (v : Life) : v.cells.length = 5 := rfl
theorem life1 (v : Life) : v.cells.all (·.oneCell') = true := rfl
/-- A sum of places. -/
def placeV (lives : List Life) (key : ByteArray) : Int := match placeL lives key with | some i => (i : Nat) | none => -1
section
variable (pb pa off n e : Nat) (l : Lay) (vf vt lv : Value) (sl ad : Int) (hs : List Int) (lives : List Life)
theorem place_ok (vh : Value) (key : ByteArray) (hlen : lives.length ≤ 8192) :
    FnOk Tryz.prog 116 #[.pointer (some ⟨pb, 0, none⟩), .string key] [pt pb (.cells #[.pointer (some ⟨pa, 0, none⟩), .int .i64 l.key, .int .i64 l.elem, .int .i64 l.ka, .int .i64 l.ea, .int .i64 l.cap, .int .i64 l.eo, .int .i64 l.bo, .int .i64 l.slot, .int .i64 l.group, .pointer (some ⟨pa, 0, none⟩), .int .i64 l.key, .int .i64 l.elem, .int .i64 l.ka, .int .i64 l.ea, .int .i64 l.cap, .int .i64 l.eo, .int .i64 l.bo, .int .i64 l.slot, .int .i64 l.group, .int .i64 ((off : Nat) : Int), vf, .int .i64 sl, vh, vt, lv, .int .i64 ad] 37 (0, 0)), ownS 204 5 lv lives.length (rowOf Life.cells lives)]
      (fun v L => v = .int .i64 (placeV lives key) ∧ L = [pt pb (.cells #[.pointer (some ⟨pa, 0, none⟩), .int .i64 l.key, .int .i64 l.elem, .int .i64 l.ka, .int .i64 l.ea, .int .i64 l.cap, .int .i64 l.eo, .int .i64 l.bo, .int .i64 l.slot, .int .i64 l.group, .pointer (some ⟨pa, 0, none⟩), .int .i64 l.key, .int .i64 l.elem, .int .i64 l.ka, .int .i64 l.ea, .int .i64 l.cap, .int .i64 l.eo, .int .i64 l.bo, .int .i64 l.slot, .int .i64 l.group, .int .i64 ((off : Nat) : Int), vf, .int .i64 sl, vh, vt, lv, .int .i64 ad] 37 (0, 0)), ownS 204 5 lv lives.length (rowOf Life.cells lives)]) := by
  refine fn_intro en116 Tryz.func116 rfl rfl rfl fun Fr w0 => t_nm ?_
  refine t_shape (e := 204) (sz := 5) (v := lv) (n := lives.length) (xs := rowOf Life.cells lives) tk fun _ hsh => ?_
  obtain ⟨a0, cap, rfl, hsh, _, _⟩ := hsh
  refine sr <| asg rfl rfl <| lc <| t_seq <| sr <| mv rfl rfl <| l_q rfl (q_nilCheck rfl) <| l_q rfl (qfa 25 rfl yU37 rfl rfl yS35) <| l_q rfl (qld rfl yA35) ?_
  refine l_q rfl (ql rfl yU35) <| mv rfl rfl <| lc <| t_block ?_
  refine t_loop (fun k : Nat => k ≤ lives.length ∧ ∀ j, j < k → ∀ u, lives[j]? = some u → u.key ≠ key) (fun k => [(1, .string key), (10, .slice a0 lives.length cap), (11, .int .i64 (lives.length : Nat)), (12, .int .i64 (k : Nat))]) (fun _ => pt pb (.cells #[.pointer (some ⟨pa, 0, none⟩), .int .i64 l.key, .int .i64 l.elem, .int .i64 l.ka, .int .i64 l.ea, .int .i64 l.cap, .int .i64 l.eo, .int .i64 l.bo, .int .i64 l.slot, .int .i64 l.group, .pointer (some ⟨pa, 0, none⟩), .int .i64 l.key, .int .i64 l.elem, .int .i64 l.ka, .int .i64 l.ea, .int .i64 l.cap, .int .i64 l.eo, .int .i64 l.bo, .int .i64 l.slot, .int .i64 l.group, .int .i64 ((off : Nat) : Int), vf, .int .i64 sl, vh, vt, (.slice a0 lives.length cap), .int .i64 ad] 37 (0, 0)) :: ownS 204 5 (.slice a0 lives.length cap) lives.length (rowOf Life.cells lives) :: Fr) (fun k => lives.length - k) 0 ⟨by omega, fun j hj => by omega⟩ ⟨rfl, rfl, rfl, rfl, trivial⟩ (by (exact en)) ?_
  rintro k ⟨hk, hno⟩
  refine sr <| l_q rfl (qi rfl rfl (b_lss ·)) <| lc <| t_seq <| t_if rfl (fun h => ?_) fun h => ?_
  · skip
    obtain ⟨g, rfl⟩ := hsh (by omega)
    obtain ⟨u, hu⟩ : ∃ u, lives[k]? = some u := ⟨lives[k], List.getElem?_eq_getElem (by omega)⟩
    have hcell : ∀ j x, [Value.string u.key, .string u.elem, .int .u64 u.hash, .int .i64 u.birth, .int .i64 (u.slot : Nat)][j]? = some x → CellAt (ownS 204 5 (.slice (some ⟨g, 0, none⟩) lives.length cap) lives.length (rowOf Life.cells lives)) ((⟨g, 0 + (k : Int).toNat * 5, none⟩ : Addr).add j) x := fun j x hx => by
      have hj : j < 5 := by rcases Nat.lt_or_ge j 5 with q | q; exact q; rw [List.getElem?_eq_none (by simpa using q)] at hx; cases hx
      rw [add_none, Nat.zero_add, Int.toNat_natCast]
      exact own_cell (by rw [rowOf_get life5 lives k j u hu hj]; exact hx)
    refine t_skip <| n_code <| t_seq <| t_block <| sr <| mv rfl rfl <| l_q rfl (q_indexAddr rfl rfl yU35 yS204 (by omega)) ?_
    apply l_q rfl
    · apply q_loadRA (A := ownS 204 5 (.slice (some ⟨g, 0, none⟩) lives.length cap) lives.length (rowOf Life.cells lives)) (us := [.string u.key, .string u.elem, .int .u64 u.hash, .int .i64 u.birth, .int .i64 (u.slot : Nat)]) rfl yA204 yS204 rfl
      · exact tk
      · exact hcell
    refine o_allocA rfl yZ204 fun b6 => asg rfl rfl <| sta rfl rfl rfl yS204 rfl rfl ?_
    refine lz <| l_q rfl (qfa 0 rfl yU204 rfl rfl yS9) <| l_q rfl (qld rfl yA9) ?_
    refine mv rfl rfl <| l_q rfl (qs rfl rfl (b_eqlS ·)) <| lc <| t_if rfl (fun q => ?_) fun q => ?_
    · refine sr <| mv rfl rfl <| asg rfl rfl <| lc <| rt <| fr1 rfl ([pt pb (.cells #[.pointer (some ⟨pa, 0, none⟩), .int .i64 l.key, .int .i64 l.elem, .int .i64 l.ka, .int .i64 l.ea, .int .i64 l.cap, .int .i64 l.eo, .int .i64 l.bo, .int .i64 l.slot, .int .i64 l.group, .pointer (some ⟨pa, 0, none⟩), .int .i64 l.key, .int .i64 l.elem, .int .i64 l.ka, .int .i64 l.ea, .int .i64 l.cap, .int .i64 l.eo, .int .i64 l.bo, .int .i64 l.slot, .int .i64 l.group, .int .i64 ((off : Nat) : Int), vf, .int .i64 sl, vh, vt, (.slice (some ⟨g, 0, none⟩) lives.length cap), .int .i64 ad] 37 (0, 0)), ownS 204 5 (.slice (some ⟨g, 0, none⟩) lives.length cap) lives.length (rowOf Life.cells lives)]) (.tmp rfl) ?_
      exact ⟨by unfold placeV; rw [place_of hu q hno], rfl⟩
    · refine t_skip <| n_blk <| n_code <| t_region <| l_q rfl (qadd rfl rfl) ?_
      refine mv rfl rfl <| l_nil ?_
      apply n_again ((k + 1))
      · exact ⟨by omega, fun j hj v hv => by rcases Nat.lt_or_ge j k with q2 | q2; exact hno j q2 v hv; (obtain rfl : j = k := by omega); rw [hu] at hv; cases hv; exact q⟩
      · omega
      · exact ⟨rfl, rfl, rfl, rfl, trivial⟩
      · exact en
  · refine xt rfl <| nz <| asg rfl rfl <| lc <| rt <| fr1 rfl ([pt pb (.cells #[.pointer (some ⟨pa, 0, none⟩), .int .i64 l.key, .int .i64 l.elem, .int .i64 l.ka, .int .i64 l.ea, .int .i64 l.cap, .int .i64 l.eo, .int .i64 l.bo, .int .i64 l.slot, .int .i64 l.group, .pointer (some ⟨pa, 0, none⟩), .int .i64 l.key, .int .i64 l.elem, .int .i64 l.ka, .int .i64 l.ea, .int .i64 l.cap, .int .i64 l.eo, .int .i64 l.bo, .int .i64 l.slot, .int .i64 l.group, .int .i64 ((off : Nat) : Int), vf, .int .i64 sl, vh, vt, (.slice a0 lives.length cap), .int .i64 ad] 37 (0, 0)), ownS 204 5 (.slice a0 lives.length cap) lives.length (rowOf Life.cells lives)]) (.tmp rfl) ?_
    exact ⟨by unfold placeV; rw [place_not fun j u hu => hno j (by rcases Nat.lt_or_ge j k with q | q; exact q; rw [List.getElem?_eq_none (by omega)] at hu; cases hu) u hu], rfl⟩
theorem key_ok (G : HP) (vh : Value) (hh : NumsAt .u64 G vh hs) (h0 : 0 < hs.length) (hmx : hs.length ≤ maxLen) (hl : l.err = 0) (x : Int) (hx : -9223372036854775808 ≤ x ∧ x ≤ 9223372036854775807) :
    FnOk Tryz.prog 114 #[.pointer (some ⟨pb, 0, none⟩), .int .i64 x] [pt pb (.cells #[.pointer (some ⟨pa, 0, none⟩), .int .i64 l.key, .int .i64 l.elem, .int .i64 l.ka, .int .i64 l.ea, .int .i64 l.cap, .int .i64 l.eo, .int .i64 l.bo, .int .i64 l.slot, .int .i64 l.group, .pointer (some ⟨pa, 0, none⟩), .int .i64 l.key, .int .i64 l.elem, .int .i64 l.ka, .int .i64 l.ea, .int .i64 l.cap, .int .i64 l.eo, .int .i64 l.bo, .int .i64 l.slot, .int .i64 l.group, .int .i64 ((off : Nat) : Int), vf, .int .i64 sl, vh, vt, lv, .int .i64 ad] 37 (0, 0)), G]
      (fun v L => v = .tuple #[.string (textS (keyN x : Nat) (kN l)), .int .u64 (planH hs (kN l) (textS (keyN x : Nat) (kN l)))] ∧ L = [pt pb (.cells #[.pointer (some ⟨pa, 0, none⟩), .int .i64 l.key, .int .i64 l.elem, .int .i64 l.ka, .int .i64 l.ea, .int .i64 l.cap, .int .i64 l.eo, .int .i64 l.bo, .int .i64 l.slot, .int .i64 l.group, .pointer (some ⟨pa, 0, none⟩), .int .i64 l.key, .int .i64 l.elem, .int .i64 l.ka, .int .i64 l.ea, .int .i64 l.cap, .int .i64 l.eo, .int .i64 l.bo, .int .i64 l.slot, .int .i64 l.group, .int .i64 ((off : Nat) : Int), vf, .int .i64 sl, vh, vt, lv, .int .i64 ad] 37 (0, 0)), G]) := by
  have hN := layN hl
  have hbd := Lay.bnd hl
  have hks := hN.k
  have hk1 := hN.k1
  have hlt := keyN_lt x
  obtain ⟨a1, cap1, rfl, hh0⟩ := hh
  obtain ⟨gb, go1, rfl, hh1⟩ := hh0 h0
  have ht1 := Int.tmod_lt_of_pos x (b := 1000) (by decide)
  have ht2 := Int.lt_tmod_of_pos x (b := 1000) (by decide)
  have hnum := text_num (w := kN l) (k := keyN x) hk1.1 hlt
  have hval : ∀ ix, ix = keyNum (kN l) (textS (keyN x : Nat) (kN l)) % hs.length → ix < hs.length ∧ hs[ix]? = some (planH hs (kN l) (textS (keyN x : Nat) (kN l))) := fun ix hix => by
    have hlt : ix < hs.length := by rw [hix]; exact Nat.mod_lt _ h0
    refine ⟨hlt, ?_⟩
    unfold planH
    rw [← hix, List.getElem?_eq_getElem hlt]
    unfold List.getD
    rw [List.getElem?_eq_getElem hlt]; rfl
  refine fn_intro en114 Tryz.func114 rfl rfl rfl fun Fr w0 => t_nm ?_
  refine sr <| asg rfl rfl <| asg rfl rfl <| lz <| mv rfl rfl <| l_q rfl (qrem rfl rfl) ?_
  refine asg rfl rfl <| lc <| t_seq <| sr <| mv rfl rfl <| l_q rfl (qi rfl rfl (b_lss ·)) <| lc <| t_if rfl (fun h1 => ?_) fun h1 => ?_
  · refine t_region <| mv rfl rfl <| l_q rfl (q_un rfl (u_neg ·)) <| asg rfl rfl <| lz <| mv rfl rfl <| mv rfl rfl <| l_q rfl (q_nilCheck rfl) <| l_q rfl (qfa 1 rfl yU37 rfl rfl yS32) <| l_q rfl (qfa 0 rfl yU32 rfl rfl yS3) <| l_q rfl (qld rfl yA3) ?_
    rw [show IntKind.i64.wrap (0 - x.tmod 1000) = ((keyN x : Nat) : Int) by rw [wrap_i64 (by omega)]; unfold keyN; omega]
    refine lc1 rfl rfl rfl (text08_okI _ _ (kN l) hks.symm (by omega)) ?_
    refine asg rfl rfl <| lc <| t_seq <| sr <| mv rfl rfl <| l_q rfl (q_nilCheck rfl) <| l_q rfl (qfa 1 rfl yU37 rfl rfl yS32) <| l_q rfl (qfa 0 rfl yU32 rfl rfl yS3) <| l_q rfl (qld rfl yA3) ?_
    refine l_q rfl (qi rfl rfl (b_eql ·)) <| lc <| t_if rfl (fun h2 => ?_) fun h2 => ?_
    · skip
      have h2' : kN l = 1 := by omega
      rw [if_pos h2'] at hnum
      obtain ⟨ix, hix⟩ : ∃ ix, ix = keyNum (kN l) (textS (keyN x : Nat) (kN l)) % hs.length := ⟨_, rfl⟩
      obtain ⟨hixl, hget⟩ := hval ix hix
      rw [hnum] at hix
      have hidx : (Value.int .i64 ((((keyN x : Nat) : Int).tmod 256).tmod ((hs.length : Nat) : Int))) = .int .i64 ((ix : Nat) : Int) := by rw [hix]; rfl
      refine t_region <| mv rfl rfl <| l_q rfl (qrem rfl rfl) ?_
      refine asg rfl rfl <| lc <| t_seq <| t_draw mixed ?_
      apply dq 0 rfl
      · exact yq (q_move rfl)
      apply dq 1 rfl
      · exact yq (q_move rfl)
      apply dq 2 rfl
      · exact yq (q_nilCheck rfl)
      apply dq 3 rfl
      · exact yq (qfa 21 rfl yU37 rfl rfl yS26)
      apply dq 4 rfl
      · exact yq (qfa 2 rfl yU26 rfl rfl yS23)
      apply dq 5 rfl
      · exact yq (qld rfl yA23)
      apply dq 6 rfl
      · exact yq (q_move rfl)
      apply dq 7 rfl
      · exact yq (q_move rfl)
      apply dq 8 rfl
      · exact yq (q_nilCheck rfl)
      apply dq 9 rfl
      · exact yq (qfa 21 rfl yU37 rfl rfl yS26)
      apply dq 10 rfl
      · exact yq (qfa 2 rfl yU26 rfl rfl yS23)
      apply dq 11 rfl
      · exact yq (qld rfl yA23)
      apply dq 12 rfl
      · exact yq (ql rfl yU23)
      apply dq 13 rfl
      · exact yq (QV.to (q_bin rfl rfl (fun w => g_int w) (fun w => b_rem_i w (by omega))) hidx)
      apply dq 14 rfl
      · exact yq (q_indexAddr1 rfl rfl yU23 yS52 (by omega))
      apply dq 15 rfl
      · exact yq (q_loadR (A := G) (v := .int .u64 (planH hs (kN l) (textS (keyN x : Nat) (kN l)))) rfl yA52 tk (by rw [Int.toNat_natCast]; exact hh1 ix _ hget))
      refine d_eff1 [0] [15, 14, 13, 12, 11, 10, 9, 8, 7, 6, 5, 4, 3, 2, 1] 16 [(29, _)] gO ⟨rfl, trivial⟩ (by kernel_rfl) (by kernel_rfl) fun Ex => ?_
      refine asg rfl rfl <| l_nil ?_
      apply n_d
      · refine ⟨?_, ?_, ?_, ?_, ?_, ?_, ?_, ?_, ?_, ?_, ?_, ?_, ?_, ?_, ?_, trivial⟩
        · apply ya rfl rfl; exact yq (q_loadR (A := G) (v := .int .u64 (planH hs (kN l) (textS (keyN x : Nat) (kN l)))) rfl yA52 tk (by rw [Int.toNat_natCast]; exact hh1 ix _ hget))
        · apply ya rfl rfl; exact yq (q_indexAddr1 rfl rfl yU23 yS52 (by omega))
        · apply ya rfl rfl; exact yq (QV.to (q_bin rfl rfl (fun w => g_int w) (fun w => b_rem_i w (by omega))) hidx)
        · apply ya rfl rfl; exact yq (ql rfl yU23)
        · apply ya rfl rfl; exact yq (qld rfl yA23)
        · apply ya rfl rfl; exact yq (qfa 2 rfl yU26 rfl rfl yS23)
        · apply ya rfl rfl; exact yq (qfa 21 rfl yU37 rfl rfl yS26)
        · apply ya rfl rfl; exact yq (q_nilCheck rfl)
        · apply ya rfl rfl; exact yq (q_move rfl)
        · apply ya rfl rfl; exact yq (q_move rfl)
        · apply ya rfl rfl; exact yq (qld rfl yA23)
        · apply ya rfl rfl; exact yq (qfa 2 rfl yU26 rfl rfl yS23)
        · apply ya rfl rfl; exact yq (qfa 21 rfl yU37 rfl rfl yS26)
        · apply ya rfl rfl; exact yq (q_nilCheck rfl)
        · apply ya rfl rfl; exact yq (q_move rfl)
      refine d_eff1 [15, 1, 2, 3, 4, 5, 6, 7, 8, 9, 10, 11, 12, 13, 14] [] 17 [(44, _)] gO ⟨rfl, trivial⟩ (by kernel_rfl) (by kernel_rfl) fun Ex => ?_
      refine asg rfl rfl <| l_nil ?_
      apply n_d
      · exact trivial
      refine d_end (by kernel_rfl) ?_
      exact n_code <| rt <| fr2 rfl ([pt pb (.cells #[.pointer (some ⟨pa, 0, none⟩), .int .i64 l.key, .int .i64 l.elem, .int .i64 l.ka, .int .i64 l.ea, .int .i64 l.cap, .int .i64 l.eo, .int .i64 l.bo, .int .i64 l.slot, .int .i64 l.group, .pointer (some ⟨pa, 0, none⟩), .int .i64 l.key, .int .i64 l.elem, .int .i64 l.ka, .int .i64 l.ea, .int .i64 l.cap, .int .i64 l.eo, .int .i64 l.bo, .int .i64 l.slot, .int .i64 l.group, .int .i64 ((off : Nat) : Int), vf, .int .i64 sl, (.slice (some ⟨gb, go1, none⟩) hs.length cap1), vt, lv, .int .i64 ad] 37 (0, 0)), G]) (.tmp rfl) (.tmp rfl) ⟨rfl, rfl⟩
    · skip
      have h2' : kN l ≠ 1 := by omega
      rw [if_neg h2'] at hnum
      obtain ⟨ix, hix⟩ : ∃ ix, ix = keyNum (kN l) (textS (keyN x : Nat) (kN l)) % hs.length := ⟨_, rfl⟩
      obtain ⟨hixl, hget⟩ := hval ix hix
      rw [hnum] at hix
      have hidx : (Value.int .i64 (((keyN x : Nat) : Int).tmod ((hs.length : Nat) : Int))) = .int .i64 ((ix : Nat) : Int) := by rw [hix]; rfl
      refine t_skip <| n_code <| t_seq <| t_draw mixed ?_
      apply dq 0 rfl
      · exact yq (q_move rfl)
      apply dq 1 rfl
      · exact yq (q_move rfl)
      apply dq 2 rfl
      · exact yq (q_nilCheck rfl)
      apply dq 3 rfl
      · exact yq (qfa 21 rfl yU37 rfl rfl yS26)
      apply dq 4 rfl
      · exact yq (qfa 2 rfl yU26 rfl rfl yS23)
      apply dq 5 rfl
      · exact yq (qld rfl yA23)
      apply dq 6 rfl
      · exact yq (q_move rfl)
      apply dq 7 rfl
      · exact yq (q_move rfl)
      apply dq 8 rfl
      · exact yq (q_nilCheck rfl)
      apply dq 9 rfl
      · exact yq (qfa 21 rfl yU37 rfl rfl yS26)
      apply dq 10 rfl
      · exact yq (qfa 2 rfl yU26 rfl rfl yS23)
      apply dq 11 rfl
      · exact yq (qld rfl yA23)
      apply dq 12 rfl
      · exact yq (ql rfl yU23)
      apply dq 13 rfl
      · exact yq (QV.to (q_bin rfl rfl (fun w => g_int w) (fun w => b_rem_i w (by omega))) hidx)
      apply dq 14 rfl
      · exact yq (q_indexAddr1 rfl rfl yU23 yS52 (by omega))
      apply dq 15 rfl
      · exact yq (q_loadR (A := G) (v := .int .u64 (planH hs (kN l) (textS (keyN x : Nat) (kN l)))) rfl yA52 tk (by rw [Int.toNat_natCast]; exact hh1 ix _ hget))
      refine d_eff1 [0] [15, 14, 13, 12, 11, 10, 9, 8, 7, 6, 5, 4, 3, 2, 1] 16 [(29, _)] gO ⟨rfl, trivial⟩ (by kernel_rfl) (by kernel_rfl) fun Ex => ?_
      refine asg rfl rfl <| l_nil ?_
      apply n_d
      · refine ⟨?_, ?_, ?_, ?_, ?_, ?_, ?_, ?_, ?_, ?_, ?_, ?_, ?_, ?_, ?_, trivial⟩
        · apply ya rfl rfl; exact yq (q_loadR (A := G) (v := .int .u64 (planH hs (kN l) (textS (keyN x : Nat) (kN l)))) rfl yA52 tk (by rw [Int.toNat_natCast]; exact hh1 ix _ hget))
        · apply ya rfl rfl; exact yq (q_indexAddr1 rfl rfl yU23 yS52 (by omega))
        · apply ya rfl rfl; exact yq (QV.to (q_bin rfl rfl (fun w => g_int w) (fun w => b_rem_i w (by omega))) hidx)
        · apply ya rfl rfl; exact yq (ql rfl yU23)
        · apply ya rfl rfl; exact yq (qld rfl yA23)
        · apply ya rfl rfl; exact yq (qfa 2 rfl yU26 rfl rfl yS23)
        · apply ya rfl rfl; exact yq (qfa 21 rfl yU37 rfl rfl yS26)
        · apply ya rfl rfl; exact yq (q_nilCheck rfl)
        · apply ya rfl rfl; exact yq (q_move rfl)
        · apply ya rfl rfl; exact yq (q_move rfl)
        · apply ya rfl rfl; exact yq (qld rfl yA23)
        · apply ya rfl rfl; exact yq (qfa 2 rfl yU26 rfl rfl yS23)
        · apply ya rfl rfl; exact yq (qfa 21 rfl yU37 rfl rfl yS26)
        · apply ya rfl rfl; exact yq (q_nilCheck rfl)
        · apply ya rfl rfl; exact yq (q_move rfl)
      refine d_eff1 [15, 1, 2, 3, 4, 5, 6, 7, 8, 9, 10, 11, 12, 13, 14] [] 17 [(44, _)] gO ⟨rfl, trivial⟩ (by kernel_rfl) (by kernel_rfl) fun Ex => ?_
      refine asg rfl rfl <| l_nil ?_
      apply n_d
      · exact trivial
      refine d_end (by kernel_rfl) ?_
      exact n_code <| rt <| fr2 rfl ([pt pb (.cells #[.pointer (some ⟨pa, 0, none⟩), .int .i64 l.key, .int .i64 l.elem, .int .i64 l.ka, .int .i64 l.ea, .int .i64 l.cap, .int .i64 l.eo, .int .i64 l.bo, .int .i64 l.slot, .int .i64 l.group, .pointer (some ⟨pa, 0, none⟩), .int .i64 l.key, .int .i64 l.elem, .int .i64 l.ka, .int .i64 l.ea, .int .i64 l.cap, .int .i64 l.eo, .int .i64 l.bo, .int .i64 l.slot, .int .i64 l.group, .int .i64 ((off : Nat) : Int), vf, .int .i64 sl, (.slice (some ⟨gb, go1, none⟩) hs.length cap1), vt, lv, .int .i64 ad] 37 (0, 0)), G]) (.tmp rfl) (.tmp rfl) ⟨rfl, rfl⟩
  · refine t_skip <| nz <| mv rfl rfl <| mv rfl rfl <| l_q rfl (q_nilCheck rfl) <| l_q rfl (qfa 1 rfl yU37 rfl rfl yS32) <| l_q rfl (qfa 0 rfl yU32 rfl rfl yS3) <| l_q rfl (qld rfl yA3) ?_
    rw [show x.tmod 1000 = ((keyN x : Nat) : Int) by unfold keyN; omega]
    refine lc1 rfl rfl rfl (text08_okI _ _ (kN l) hks.symm (by omega)) ?_
    refine asg rfl rfl <| lc <| t_seq <| sr <| mv rfl rfl <| l_q rfl (q_nilCheck rfl) <| l_q rfl (qfa 1 rfl yU37 rfl rfl yS32) <| l_q rfl (qfa 0 rfl yU32 rfl rfl yS3) <| l_q rfl (qld rfl yA3) ?_
    refine l_q rfl (qi rfl rfl (b_eql ·)) <| lc <| t_if rfl (fun h2 => ?_) fun h2 => ?_
    · skip
      have h2' : kN l = 1 := by omega
      rw [if_pos h2'] at hnum
      obtain ⟨ix, hix⟩ : ∃ ix, ix = keyNum (kN l) (textS (keyN x : Nat) (kN l)) % hs.length := ⟨_, rfl⟩
      obtain ⟨hixl, hget⟩ := hval ix hix
      rw [hnum] at hix
      have hidx : (Value.int .i64 ((((keyN x : Nat) : Int).tmod 256).tmod ((hs.length : Nat) : Int))) = .int .i64 ((ix : Nat) : Int) := by rw [hix]; rfl
      refine t_region <| mv rfl rfl <| l_q rfl (qrem rfl rfl) ?_
      refine asg rfl rfl <| lc <| t_seq <| t_draw mixed ?_
      apply dq 0 rfl
      · exact yq (q_move rfl)
      apply dq 1 rfl
      · exact yq (q_move rfl)
      apply dq 2 rfl
      · exact yq (q_nilCheck rfl)
      apply dq 3 rfl
      · exact yq (qfa 21 rfl yU37 rfl rfl yS26)
      apply dq 4 rfl
      · exact yq (qfa 2 rfl yU26 rfl rfl yS23)
      apply dq 5 rfl
      · exact yq (qld rfl yA23)
      apply dq 6 rfl
      · exact yq (q_move rfl)
      apply dq 7 rfl
      · exact yq (q_move rfl)
      apply dq 8 rfl
      · exact yq (q_nilCheck rfl)
      apply dq 9 rfl
      · exact yq (qfa 21 rfl yU37 rfl rfl yS26)
      apply dq 10 rfl
      · exact yq (qfa 2 rfl yU26 rfl rfl yS23)
      apply dq 11 rfl
      · exact yq (qld rfl yA23)
      apply dq 12 rfl
      · exact yq (ql rfl yU23)
      apply dq 13 rfl
      · exact yq (QV.to (q_bin rfl rfl (fun w => g_int w) (fun w => b_rem_i w (by omega))) hidx)
      apply dq 14 rfl
      · exact yq (q_indexAddr1 rfl rfl yU23 yS52 (by omega))
      apply dq 15 rfl
      · exact yq (q_loadR (A := G) (v := .int .u64 (planH hs (kN l) (textS (keyN x : Nat) (kN l)))) rfl yA52 tk (by rw [Int.toNat_natCast]; exact hh1 ix _ hget))
      refine d_eff1 [0] [15, 14, 13, 12, 11, 10, 9, 8, 7, 6, 5, 4, 3, 2, 1] 16 [(29, _)] gO ⟨rfl, trivial⟩ (by kernel_rfl) (by kernel_rfl) fun Ex => ?_
      refine asg rfl rfl <| l_nil ?_
      apply n_d
      · refine ⟨?_, ?_, ?_, ?_, ?_, ?_, ?_, ?_, ?_, ?_, ?_, ?_, ?_, ?_, ?_, trivial⟩
        · apply ya rfl rfl; exact yq (q_loadR (A := G) (v := .int .u64 (planH hs (kN l) (textS (keyN x : Nat) (kN l)))) rfl yA52 tk (by rw [Int.toNat_natCast]; exact hh1 ix _ hget))
        · apply ya rfl rfl; exact yq (q_indexAddr1 rfl rfl yU23 yS52 (by omega))
        · apply ya rfl rfl; exact yq (QV.to (q_bin rfl rfl (fun w => g_int w) (fun w => b_rem_i w (by omega))) hidx)
        · apply ya rfl rfl; exact yq (ql rfl yU23)
        · apply ya rfl rfl; exact yq (qld rfl yA23)
        · apply ya rfl rfl; exact yq (qfa 2 rfl yU26 rfl rfl yS23)
        · apply ya rfl rfl; exact yq (qfa 21 rfl yU37 rfl rfl yS26)
        · apply ya rfl rfl; exact yq (q_nilCheck rfl)
        · apply ya rfl rfl; exact yq (q_move rfl)
        · apply ya rfl rfl; exact yq (q_move rfl)
        · apply ya rfl rfl; exact yq (qld rfl yA23)
        · apply ya rfl rfl; exact yq (qfa 2 rfl yU26 rfl rfl yS23)
        · apply ya rfl rfl; exact yq (qfa 21 rfl yU37 rfl rfl yS26)
        · apply ya rfl rfl; exact yq (q_nilCheck rfl)
        · apply ya rfl rfl; exact yq (q_move rfl)
      refine d_eff1 [15, 1, 2, 3, 4, 5, 6, 7, 8, 9, 10, 11, 12, 13, 14] [] 17 [(44, _)] gO ⟨rfl, trivial⟩ (by kernel_rfl) (by kernel_rfl) fun Ex => ?_
      refine asg rfl rfl <| l_nil ?_
      apply n_d
      · exact trivial
      refine d_end (by kernel_rfl) ?_
      exact n_code <| rt <| fr2 rfl ([pt pb (.cells #[.pointer (some ⟨pa, 0, none⟩), .int .i64 l.key, .int .i64 l.elem, .int .i64 l.ka, .int .i64 l.ea, .int .i64 l.cap, .int .i64 l.eo, .int .i64 l.bo, .int .i64 l.slot, .int .i64 l.group, .pointer (some ⟨pa, 0, none⟩), .int .i64 l.key, .int .i64 l.elem, .int .i64 l.ka, .int .i64 l.ea, .int .i64 l.cap, .int .i64 l.eo, .int .i64 l.bo, .int .i64 l.slot, .int .i64 l.group, .int .i64 ((off : Nat) : Int), vf, .int .i64 sl, (.slice (some ⟨gb, go1, none⟩) hs.length cap1), vt, lv, .int .i64 ad] 37 (0, 0)), G]) (.tmp rfl) (.tmp rfl) ⟨rfl, rfl⟩
    · skip
      have h2' : kN l ≠ 1 := by omega
      rw [if_neg h2'] at hnum
      obtain ⟨ix, hix⟩ : ∃ ix, ix = keyNum (kN l) (textS (keyN x : Nat) (kN l)) % hs.length := ⟨_, rfl⟩
      obtain ⟨hixl, hget⟩ := hval ix hix
      rw [hnum] at hix
      have hidx : (Value.int .i64 (((keyN x : Nat) : Int).tmod ((hs.length : Nat) : Int))) = .int .i64 ((ix : Nat) : Int) := by rw [hix]; rfl
      refine t_skip <| n_code <| t_seq <| t_draw mixed ?_
      apply dq 0 rfl
      · exact yq (q_move rfl)
      apply dq 1 rfl
      · exact yq (q_move rfl)
      apply dq 2 rfl
      · exact yq (q_nilCheck rfl)
      apply dq 3 rfl
      · exact yq (qfa 21 rfl yU37 rfl rfl yS26)
      apply dq 4 rfl
      · exact yq (qfa 2 rfl yU26 rfl rfl yS23)
      apply dq 5 rfl
      · exact yq (qld rfl yA23)
      apply dq 6 rfl
      · exact yq (q_move rfl)
      apply dq 7 rfl
      · exact yq (q_move rfl)
      apply dq 8 rfl
      · exact yq (q_nilCheck rfl)
      apply dq 9 rfl
      · exact yq (qfa 21 rfl yU37 rfl rfl yS26)
      apply dq 10 rfl
      · exact yq (qfa 2 rfl yU26 rfl rfl yS23)
      apply dq 11 rfl
      · exact yq (qld rfl yA23)
      apply dq 12 rfl
      · exact yq (ql rfl yU23)
      apply dq 13 rfl
      · exact yq (QV.to (q_bin rfl rfl (fun w => g_int w) (fun w => b_rem_i w (by omega))) hidx)
      apply dq 14 rfl
      · exact yq (q_indexAddr1 rfl rfl yU23 yS52 (by omega))
      apply dq 15 rfl
      · exact yq (q_loadR (A := G) (v := .int .u64 (planH hs (kN l) (textS (keyN x : Nat) (kN l)))) rfl yA52 tk (by rw [Int.toNat_natCast]; exact hh1 ix _ hget))
      refine d_eff1 [0] [15, 14, 13, 12, 11, 10, 9, 8, 7, 6, 5, 4, 3, 2, 1] 16 [(29, _)] gO ⟨rfl, trivial⟩ (by kernel_rfl) (by kernel_rfl) fun Ex => ?_
      refine asg rfl rfl <| l_nil ?_
      apply n_d
      · refine ⟨?_, ?_, ?_, ?_, ?_, ?_, ?_, ?_, ?_, ?_, ?_, ?_, ?_, ?_, ?_, trivial⟩
        · apply ya rfl rfl; exact yq (q_loadR (A := G) (v := .int .u64 (planH hs (kN l) (textS (keyN x : Nat) (kN l)))) rfl yA52 tk (by rw [Int.toNat_natCast]; exact hh1 ix _ hget))
        · apply ya rfl rfl; exact yq (q_indexAddr1 rfl rfl yU23 yS52 (by omega))
        · apply ya rfl rfl; exact yq (QV.to (q_bin rfl rfl (fun w => g_int w) (fun w => b_rem_i w (by omega))) hidx)
        · apply ya rfl rfl; exact yq (ql rfl yU23)
        · apply ya rfl rfl; exact yq (qld rfl yA23)
        · apply ya rfl rfl; exact yq (qfa 2 rfl yU26 rfl rfl yS23)
        · apply ya rfl rfl; exact yq (qfa 21 rfl yU37 rfl rfl yS26)
        · apply ya rfl rfl; exact yq (q_nilCheck rfl)
        · apply ya rfl rfl; exact yq (q_move rfl)
        · apply ya rfl rfl; exact yq (q_move rfl)
        · apply ya rfl rfl; exact yq (qld rfl yA23)
        · apply ya rfl rfl; exact yq (qfa 2 rfl yU26 rfl rfl yS23)
        · apply ya rfl rfl; exact yq (qfa 21 rfl yU37 rfl rfl yS26)
        · apply ya rfl rfl; exact yq (q_nilCheck rfl)
        · apply ya rfl rfl; exact yq (q_move rfl)
      refine d_eff1 [15, 1, 2, 3, 4, 5, 6, 7, 8, 9, 10, 11, 12, 13, 14] [] 17 [(44, _)] gO ⟨rfl, trivial⟩ (by kernel_rfl) (by kernel_rfl) fun Ex => ?_
      refine asg rfl rfl <| l_nil ?_
      apply n_d
      · exact trivial
      refine d_end (by kernel_rfl) ?_
      exact n_code <| rt <| fr2 rfl ([pt pb (.cells #[.pointer (some ⟨pa, 0, none⟩), .int .i64 l.key, .int .i64 l.elem, .int .i64 l.ka, .int .i64 l.ea, .int .i64 l.cap, .int .i64 l.eo, .int .i64 l.bo, .int .i64 l.slot, .int .i64 l.group, .pointer (some ⟨pa, 0, none⟩), .int .i64 l.key, .int .i64 l.elem, .int .i64 l.ka, .int .i64 l.ea, .int .i64 l.cap, .int .i64 l.eo, .int .i64 l.bo, .int .i64 l.slot, .int .i64 l.group, .int .i64 ((off : Nat) : Int), vf, .int .i64 sl, (.slice (some ⟨gb, go1, none⟩) hs.length cap1), vt, lv, .int .i64 ad] 37 (0, 0)), G]) (.tmp rfl) (.tmp rfl) ⟨rfl, rfl⟩
/-- What no put and no delete turns. -/
structure Keeps (T T' : Tb) : Prop where
  pins : T'.pins = T.pins
  next : T'.next = T.next
  kind : T'.kind = T.kind
  depth : T'.depth = T.depth
theorem Keeps.refl (T : Tb) : Keeps T T := ⟨rfl, rfl, rfl, rfl⟩
theorem keeps_put {n : Nat} {T T' : Tb} {h : Int} {key elem : ByteArray} {birth out : Int} (h : PutR n T h key elem birth (out, T')) : Keeps T T' := by
  cases h <;> exact ⟨rfl, rfl, rfl, rfl⟩
theorem keeps_del {n : Nat} {T T' : Tb} {h : Int} {key : ByteArray} {b : Bool} (h : DelR n T h key (b, T')) : Keeps T T' := by
  cases h <;> exact ⟨rfl, rfl, rfl, rfl⟩
/-- A bench's state behind steps. -/
structure Went (s s' : ArS) (off go n e : Nat) (l : Lay) (hs : List Int) (T T' : Tb) (lives' : List Life) (ad ad' : Nat) : Prop where
  tab : TabP s' off go l n e T'
  bi : BI n (planH hs (kN l)) (planK (kN l)) T' lives' ad'
  ad : ad' ≤ ad + 1
  same : SameBut s s' off go (n * gN l)
  keeps : Keeps T T'
variable (G : HP) (hG : TabOk G) (go : Nat) (s : ArS) (T : Tb) (ad : Nat) (vh : Value) (hh : NumsAt .u64 G vh hs) (h0 : 0 < hs.length) (hmx : hs.length ≤ maxLen) (hwf : ∀ x ∈ hs, 0 ≤ x ∧ x < 18446744073709551616) (hl : l.err = 0)
  (hP : TabP s off go l n e T) (hI : BI n (planH hs (kN l)) (planK (kN l)) T lives ad) (hsl : sl = 8 * (n : Int)) (hn : n ≤ 1024) (hadb : ad < 9223372036854775807)
include hG hh h0 hmx hwf hl hP hI hsl hn hadb
theorem puts_ok (kd x y : Int) (hx : -9223372036854775808 ≤ x ∧ x ≤ 9223372036854775807) :
    FnOk Tryz.prog 57 #[.pointer (some ⟨pb, 0, none⟩), .agg #[.int .i64 kd, .int .i64 x, .int .i64 y]] [pt pb (.cells #[.pointer (some ⟨pa, 0, none⟩), .int .i64 l.key, .int .i64 l.elem, .int .i64 l.ka, .int .i64 l.ea, .int .i64 l.cap, .int .i64 l.eo, .int .i64 l.bo, .int .i64 l.slot, .int .i64 l.group, .pointer (some ⟨pa, 0, none⟩), .int .i64 l.key, .int .i64 l.elem, .int .i64 l.ka, .int .i64 l.ea, .int .i64 l.cap, .int .i64 l.eo, .int .i64 l.bo, .int .i64 l.slot, .int .i64 l.group, .int .i64 ((off : Nat) : Int), vf, .int .i64 sl, vh, vt, lv, .int .i64 ((ad : Nat) : Int)] 37 (0, 0)), ownS 204 5 lv lives.length (rowOf Life.cells lives), G, arenaH pa s]
      (fun v L => ∃ s' T' lives' lv', ∃ ad' : Nat, v = .bool true ∧ L = [pt pb (.cells #[.pointer (some ⟨pa, 0, none⟩), .int .i64 l.key, .int .i64 l.elem, .int .i64 l.ka, .int .i64 l.ea, .int .i64 l.cap, .int .i64 l.eo, .int .i64 l.bo, .int .i64 l.slot, .int .i64 l.group, .pointer (some ⟨pa, 0, none⟩), .int .i64 l.key, .int .i64 l.elem, .int .i64 l.ka, .int .i64 l.ea, .int .i64 l.cap, .int .i64 l.eo, .int .i64 l.bo, .int .i64 l.slot, .int .i64 l.group, .int .i64 ((off : Nat) : Int), vf, .int .i64 sl, vh, vt, lv', .int .i64 ((ad' : Nat) : Int)] 37 (0, 0)), ownS 204 5 lv' lives'.length (rowOf Life.cells lives'), G, arenaH pa s'] ∧ Went s s' off go n e l hs T T' lives' ad ad') := by
  have hN := layN hl
  have hbd := Lay.bnd hl
  have hks := hN.k
  have hes := hN.e
  have hk1 := hN.k1
  have he1 := hN.e1
  have hlen := hI.len
  have hused := hI.used
  have hleft := hI.cnt.left
  have hroom := hI.cnt.room
  obtain ⟨key, hkey⟩ : ∃ key, textS (keyN x : Nat) (kN l) = key := ⟨_, rfl⟩
  obtain ⟨elem, helem⟩ : ∃ elem, textS y (eN l) = elem := ⟨_, rfl⟩
  have hks2 : key.size = kN l := by rw [← hkey]; exact textS_size _ _
  have hes2 : elem.size = eN l := by rw [← helem]; exact textS_size _ _
  have hK : planK (kN l) key := ⟨keyN x, keyN_lt x, hkey.symm⟩
  have hhw := planH_wf h0 hwf (kN l) key
  have hR := putR (T := T) (h := planH hs (kN l) key) (key := key) hI.n0 (fun g hg => gk_onto hP.hn hg) elem ad
  obtain ⟨out, T', hr⟩ : ∃ out T', putT n T (planH hs (kN l) key) key elem ad = (out, T') := ⟨_, _, rfl⟩
  rw [hr] at hR
  have hkeep := keeps_put hR
  refine fn_intro en57 Tryz.func57 rfl rfl rfl fun Fr w0 => t_nm ?_
  refine t_shape (e := 204) (sz := 5) (v := lv) (n := lives.length) (xs := rowOf Life.cells lives) tk fun _ hsh => ?_
  obtain ⟨a0, cap, rfl, hsh, _, _⟩ := hsh
  refine sr <| o_boxA rfl rfl fun b3 => asg rfl rfl <| lz <| mv rfl rfl <| l_q rfl (qfa 1 rfl yU41 rfl rfl yS3) <| l_q rfl (qld rfl yA3) ?_
  refine lc1 rfl rfl rfl (key_ok pb pa off l vf vt (.slice a0 lives.length cap) sl ad hs G vh hh h0 hmx hl x hx) ?_
  rw [hkey]
  refine mv rfl rfl <| l_q rfl (q_extractL rfl ga) ?_
  refine l_q rfl (q_extractL rfl ga) ?_
  refine asg rfl rfl <| asg rfl rfl <| lc <| t_seq <| t_draw mixed ?_
  apply dq 0 rfl
  · exact yq (qfa 2 rfl yU41 rfl rfl yS3)
  apply dq 1 rfl
  · exact yq (qld rfl yA3)
  apply dq 2 rfl
  · exact yq (q_move rfl)
  apply dq 3 rfl
  · exact yq (q_nilCheck rfl)
  apply dq 4 rfl
  · exact yq (qfa 1 rfl yU37 rfl rfl yS32)
  apply dq 5 rfl
  · exact yq (qfa 1 rfl yU32 rfl rfl yS3)
  apply dq 6 rfl
  · exact yq (qld rfl yA3)
  refine d_eff1 [1, 6, 0, 5, 4, 3, 2] [] 7 [(22, _), (27, _)] gO ⟨rfl, rfl, trivial⟩ (by kernel_rfl) (by kernel_rfl) fun Ex => ?_
  refine lc1 rfl rfl rfl (text08_okI _ _ (eN l) hes.symm (by omega)) ?_
  rw [helem]
  refine l_nil ?_
  apply n_d
  · exact trivial
  refine d_eff1 [] [] 8 [(28, _)] gO ⟨rfl, trivial⟩ (by kernel_rfl) (by kernel_rfl) fun Ex => ?_
  refine asg rfl rfl <| l_nil ?_
  apply n_d
  · exact trivial
  refine d_end (by kernel_rfl) ?_
  refine nz <| mv rfl rfl <| l_q rfl (q_nilCheck rfl) <| l_q rfl (qfa 26 rfl yU37 rfl rfl yS3) <| l_q rfl (qld rfl yA3) ?_
  refine asg rfl rfl <| lz <| mv rfl rfl <| l_q rfl (q_nilCheck rfl) <| l_q rfl (qfa 10 rfl yU37 rfl rfl yS34) <| l_q rfl (qlda rfl yA34 yS34) ?_
  refine mv rfl rfl <| mv rfl rfl <| mv rfl rfl <| mv rfl rfl <| lcf rfl rfl rfl (Put_ok G hG pa off go n e s l T hP _ hhw key elem hks2 hes2 ad (by omega) (by omega) (by omega)) ?_
  rintro v L' ⟨s', rfl, rfl, hP', hS'⟩
  refine l_nm ?_
  rw [hr] at hP' ⊢
  refine mv rfl rfl <| l_q rfl (q_extractL rfl ga) ?_
  refine l_q rfl (q_extractL rfl ga) ?_
  refine asg rfl rfl <| asg rfl rfl <| lc <| t_seq <| sr <| mv rfl rfl <| lc1 rfl rfl rfl (num08_ok _) ?_
  refine l_q rfl (qi rfl rfl (b_neq ·)) <| lc <| t_if rfl (fun z => ?_) fun z => ?_
  · exact absurd rfl z
  · refine t_skip <| nz <| mv rfl rfl <| mv rfl rfl <| lc1 rfl rfl rfl (place_ok pb pa off l vf vt (.slice a0 lives.length cap) sl ad lives vh key (by omega)) ?_
    cases hpl : placeL lives key with
    | some i =>
      rw [show placeV lives key = ((i : Nat) : Int) by unfold placeV; rw [hpl]]
      refine asg rfl rfl <| lc <| t_seq <| t_block <| sr <| mv rfl rfl <| l_q rfl (qi rfl rfl (b_geq ·)) <| asg rfl rfl <| lc <| t_if rfl (fun q => ?_) fun q => ?_
      · skip
        obtain ⟨u, hu, hk, _⟩ := place_some hpl
        subst hk
        have hil : i < lives.length := by rcases Nat.lt_or_ge i lives.length with q | q; exact q; rw [List.getElem?_eq_none q] at hu; cases hu
        obtain ⟨ho, hI'⟩ := hI.put_old hu hR
        subst ho
        obtain ⟨g, rfl⟩ := hsh (by omega)
        have hset : (rowOf Life.cells lives).set (0 + ((i : Nat) : Int).toNat * 5 + 1) (.string elem) = rowOf Life.cells (lives.set i { u with elem := elem }) := by
          rw [Nat.zero_add, Int.toNat_natCast]
          exact rowOf_set life5 (by decide) lives i u hu rfl
        refine sr <| mv rfl rfl <| l_q rfl (q_nilCheck rfl) <| l_q rfl (qfa 25 rfl yU37 rfl rfl yS35) <| l_q rfl (qld rfl yA35) ?_
        refine mv rfl rfl <| mv rfl rfl <| l_q rfl (q_indexAddr rfl rfl yU35 yS204 (by omega)) ?_
        refine l_q rfl (qfa 1 rfl yU204 rfl rfl yS9) ?_
        refine o_storeOwn rfl rfl rfl yS9 rfl tk (by omega) hset ?_
        refine lz <| mv rfl rfl <| l_q rfl (qi rfl rfl (b_eql ·)) <| asg rfl rfl <| lc <| rt <| fr1 rfl ([pt pb (.cells #[.pointer (some ⟨pa, 0, none⟩), .int .i64 l.key, .int .i64 l.elem, .int .i64 l.ka, .int .i64 l.ea, .int .i64 l.cap, .int .i64 l.eo, .int .i64 l.bo, .int .i64 l.slot, .int .i64 l.group, .pointer (some ⟨pa, 0, none⟩), .int .i64 l.key, .int .i64 l.elem, .int .i64 l.ka, .int .i64 l.ea, .int .i64 l.cap, .int .i64 l.eo, .int .i64 l.bo, .int .i64 l.slot, .int .i64 l.group, .int .i64 ((off : Nat) : Int), vf, .int .i64 sl, vh, vt, (.slice (some ⟨g, 0, none⟩) lives.length cap), .int .i64 ((ad : Nat) : Int)] 37 (0, 0)), ownS 204 5 (.slice (some ⟨g, 0, none⟩) lives.length cap) lives.length (rowOf Life.cells (lives.set i { u with elem := elem })), G, arenaH pa s']) (.tmp rfl) ?_
        exact ⟨s', T', lives.set i { u with elem := elem }, _, ad, rfl, by rw [List.length_set], hP', hI', by omega, hS', hkeep⟩
      · omega
    | none =>
      rw [show placeV lives key = -1 by unfold placeV; rw [hpl]]
      refine asg rfl rfl <| lc <| t_seq <| t_block <| sr <| mv rfl rfl <| l_q rfl (qi rfl rfl (b_geq ·)) <| asg rfl rfl <| lc <| t_if rfl (fun q => ?_) fun q => ?_
      · omega
      · refine sr <| mv rfl rfl <| l_q rfl (qi rfl rfl (b_eql ·)) <| asg rfl rfl <| lc ?_
        rcases hI.put_new hK hpl hR with ⟨ho, hT, had⟩ | ⟨ho, p, hp, hfind, hI'⟩
        · subst ho hT
          refine t_if rfl (fun q3 => ?_) fun q3 => ?_
          · refine t_seq <| t_draw mixed ?_
            apply dq 0 rfl
            · exact yq (q_move rfl)
            apply dq 1 rfl
            · exact yq (q_nilCheck rfl)
            apply dq 2 rfl
            · exact yq (qfa 26 rfl yU37 rfl rfl yS3)
            apply dq 3 rfl
            · exact yq (qld rfl yA3)
            apply dq 4 rfl
            · exact yq (q_move rfl)
            apply dq 5 rfl
            · exact yq (q_nilCheck rfl)
            apply dq 6 rfl
            · exact yq (qfa 21 rfl yU37 rfl rfl yS26)
            apply dq 7 rfl
            · exact yq (qfa 1 rfl yU26 rfl rfl yS3)
            apply dq 8 rfl
            · exact yq (qld rfl yA3)
            apply dq 9 rfl
            · exact yq (qquo rfl rfl)
            apply dq 10 rfl
            · exact yq (qmul rfl rfl)
            apply dq 11 rfl
            · exact yq (qi rfl rfl (b_geq ·))
            refine d_eff1 [11, 0, 1, 2, 3, 4, 5, 6, 7, 8, 9, 10] [] 12 [(78, _)] gO ⟨rfl, trivial⟩ (by kernel_rfl) (by kernel_rfl) fun Ex => ?_
            refine asg rfl rfl <| l_nil ?_
            apply n_d
            · exact trivial
            refine d_end (by kernel_rfl) ?_
            refine n_code <| rt <| fr1 rfl ([pt pb (.cells #[.pointer (some ⟨pa, 0, none⟩), .int .i64 l.key, .int .i64 l.elem, .int .i64 l.ka, .int .i64 l.ea, .int .i64 l.cap, .int .i64 l.eo, .int .i64 l.bo, .int .i64 l.slot, .int .i64 l.group, .pointer (some ⟨pa, 0, none⟩), .int .i64 l.key, .int .i64 l.elem, .int .i64 l.ka, .int .i64 l.ea, .int .i64 l.cap, .int .i64 l.eo, .int .i64 l.bo, .int .i64 l.slot, .int .i64 l.group, .int .i64 ((off : Nat) : Int), vf, .int .i64 sl, vh, vt, (.slice a0 lives.length cap), .int .i64 ((ad : Nat) : Int)] 37 (0, 0)), ownS 204 5 (.slice a0 lives.length cap) lives.length (rowOf Life.cells lives), G, arenaH pa s']) (.tmp rfl) ?_
            exact ⟨s', T', lives, _, ad, by congr 1; rw [decide_eq_true_iff]; omega, rfl, hP', hI, by omega, hS', hkeep⟩
          · exact absurd rfl q3
        · subst ho
          refine t_if rfl (fun q3 => ?_) fun q3 => ?_
          · omega
          · refine sr <| mv rfl rfl <| l_q rfl (qi rfl rfl (b_neq ·)) <| asg rfl rfl <| lc <| t_if rfl (fun q4 => ?_) fun q4 => ?_
            · exact absurd rfl q4
            · refine t_skip <| n_blk <| nz <| mv rfl rfl <| l_q rfl (q_nilCheck rfl) <| l_q rfl (qfa 10 rfl yU37 rfl rfl yS34) <| l_q rfl (qlda rfl yA34 yS34) ?_
              refine mv rfl rfl <| mv rfl rfl <| lc1 rfl rfl rfl (Find_ok G hG pa off go n e s' l T' hP' _ hhw key hks2) ?_
              rw [hfind]
              refine mv rfl rfl <| l_q rfl (q_extractL rfl ga) ?_
              refine l_q rfl (q_extractL rfl ga) ?_
              refine asg rfl rfl <| asg rfl rfl <| lz <| mv rfl rfl <| mv rfl rfl <| l_q rfl (q_nilCheck rfl) <| l_q rfl (qfa 25 rfl yU37 rfl rfl yS35) <| l_q rfl (qld rfl yA35) ?_
              refine mv rfl rfl <| mv rfl rfl <| mv rfl rfl <| mv rfl rfl <| mv rfl rfl ?_
              apply l_q rfl
              · apply q_buildS rfl yP204 yZ204
                · apply FillR.one
                  · repeat (first | exact PlAt.here | apply PlAt.there)
                  · rfl
                  · exact sa
                  apply FillR.one
                  · repeat (first | exact PlAt.here | apply PlAt.there)
                  · rfl
                  · exact sa
                  apply FillR.one
                  · repeat (first | exact PlAt.here | apply PlAt.there)
                  · rfl
                  · exact sa
                  apply FillR.one
                  · repeat (first | exact PlAt.here | apply PlAt.there)
                  · rfl
                  · exact sa
                  apply FillR.one
                  · repeat (first | exact PlAt.here | apply PlAt.there)
                  · rfl
                  · exact sa
                  exact FillR.nil
              refine o_buildSlice (us := [_]) rfl rfl yU35 yS204 yZ204 rfl rfl rfl rfl rfl (fun b103 => ?_)
              apply o_append (sz := 5) rfl rfl rfl yU35 yI204 rfl rfl
              · exact tk
              · exact tk
              · rfl
              · rfl
              · simp only [maxLen]; omega
              · omega
              intro v104
              refine l_shape (v := v104) tk fun _ hs104 => ?_
              obtain ⟨a104, cap104, rfl, hs104, _, _⟩ := hs104
              refine l_q rfl (q_nilCheck rfl) <| l_q rfl (qfa 25 rfl yU37 rfl rfl yS35) <| st rfl rfl rfl yS35 rfl ?_
              refine lz <| mv rfl rfl <| l_q rfl (q_nilCheck rfl) <| l_q rfl (qfa 26 rfl yU37 rfl rfl yS3) <| l_q rfl (qld rfl yA3) ?_
              refine l_q rfl (qadd rfl rfl) ?_
              refine l_q rfl (q_nilCheck rfl) <| l_q rfl (qfa 26 rfl yU37 rfl rfl yS3) <| st rfl rfl rfl yS3 rfl ?_
              refine lz <| mv rfl rfl <| lc1 rfl rfl rfl (num08_ok _) ?_
              refine l_q rfl (qi rfl rfl (b_eql ·)) <| mv rfl rfl <| l_pt (t := 117) rfl (fun r1 => ?_) fun r1 => ?_
              · refine l_on rfl rfl <| mv rfl rfl <| l_on rfl rfl <| l_q rfl (qi rfl rfl (b_geq ·)) <| l_q rfl (q_pk rfl rfl) <| mv rfl rfl <| l_pt (t := 121) rfl (fun r2 => ?_) fun r2 => ?_
                · refine l_on rfl rfl <| mv rfl rfl <| l_on rfl rfl <| mv rfl rfl <| l_on rfl rfl <| l_q rfl (q_nilCheck rfl) <| l_on rfl rfl <| l_q rfl (qfa 21 rfl yU37 rfl rfl yS26) <| l_on rfl rfl <| l_q rfl (qfa 1 rfl yU26 rfl rfl yS3) <| l_on rfl rfl <| l_q rfl (qld rfl yA3) ?_
                  refine l_on rfl rfl <| l_q rfl (qi rfl rfl (b_lss ·)) <| l_q rfl (q_pk rfl rfl) <| asg rfl rfl <| lc <| rt <| fr1 rfl ([pt pb (.cells #[.pointer (some ⟨pa, 0, none⟩), .int .i64 l.key, .int .i64 l.elem, .int .i64 l.ka, .int .i64 l.ea, .int .i64 l.cap, .int .i64 l.eo, .int .i64 l.bo, .int .i64 l.slot, .int .i64 l.group, .pointer (some ⟨pa, 0, none⟩), .int .i64 l.key, .int .i64 l.elem, .int .i64 l.ka, .int .i64 l.ea, .int .i64 l.cap, .int .i64 l.eo, .int .i64 l.bo, .int .i64 l.slot, .int .i64 l.group, .int .i64 ((off : Nat) : Int), vf, .int .i64 sl, vh, vt, (.slice a104 (lives.length + 1) cap104), .int .i64 (((ad : Nat) : Int) + 1)] 37 (0, 0)), ownS 204 5 (.slice a104 (lives.length + 1) cap104) (lives.length + 1) (rowOf Life.cells lives ++ List.flatMap (fun x : Value => x.cells.toList) [.agg #[.string key, .string elem, .int .u64 (planH hs (kN l) key), .int .i64 ((ad : Nat) : Int), .int .i64 ((p : Nat) : Int)]]), G, arenaH pa s']) (.tmp rfl) ?_
                  exact ⟨s', T', lives ++ [⟨key, elem, planH hs (kN l) key, ad, p⟩], _, ad + 1, by congr 1; rw [decide_eq_true_iff]; omega, by rw [List.length_append, rowOf_app]; rfl, hP', hI', by omega, hS', hkeep⟩
                · omega
              · exact absurd rfl r1
theorem deletes_ok (kd x y : Int) (hx : -9223372036854775808 ≤ x ∧ x ≤ 9223372036854775807) :
    FnOk Tryz.prog 58 #[.pointer (some ⟨pb, 0, none⟩), .agg #[.int .i64 kd, .int .i64 x, .int .i64 y]] [pt pb (.cells #[.pointer (some ⟨pa, 0, none⟩), .int .i64 l.key, .int .i64 l.elem, .int .i64 l.ka, .int .i64 l.ea, .int .i64 l.cap, .int .i64 l.eo, .int .i64 l.bo, .int .i64 l.slot, .int .i64 l.group, .pointer (some ⟨pa, 0, none⟩), .int .i64 l.key, .int .i64 l.elem, .int .i64 l.ka, .int .i64 l.ea, .int .i64 l.cap, .int .i64 l.eo, .int .i64 l.bo, .int .i64 l.slot, .int .i64 l.group, .int .i64 ((off : Nat) : Int), vf, .int .i64 sl, vh, vt, lv, .int .i64 ((ad : Nat) : Int)] 37 (0, 0)), ownS 204 5 lv lives.length (rowOf Life.cells lives), G, arenaH pa s]
      (fun v L => ∃ s' T' lives' lv', ∃ ad' : Nat, v = .bool true ∧ L = [pt pb (.cells #[.pointer (some ⟨pa, 0, none⟩), .int .i64 l.key, .int .i64 l.elem, .int .i64 l.ka, .int .i64 l.ea, .int .i64 l.cap, .int .i64 l.eo, .int .i64 l.bo, .int .i64 l.slot, .int .i64 l.group, .pointer (some ⟨pa, 0, none⟩), .int .i64 l.key, .int .i64 l.elem, .int .i64 l.ka, .int .i64 l.ea, .int .i64 l.cap, .int .i64 l.eo, .int .i64 l.bo, .int .i64 l.slot, .int .i64 l.group, .int .i64 ((off : Nat) : Int), vf, .int .i64 sl, vh, vt, lv', .int .i64 ((ad' : Nat) : Int)] 37 (0, 0)), ownS 204 5 lv' lives'.length (rowOf Life.cells lives'), G, arenaH pa s'] ∧ Went s s' off go n e l hs T T' lives' ad ad') := by
  have hN := layN hl
  have hbd := Lay.bnd hl
  have hks := hN.k
  have hk1 := hN.k1
  have hlen := hI.len
  have hused := hI.used
  have hleft := hI.cnt.left
  have hroom := hI.cnt.room
  obtain ⟨key, hkey⟩ : ∃ key, textS (keyN x : Nat) (kN l) = key := ⟨_, rfl⟩
  have hks2 : key.size = kN l := by rw [← hkey]; exact textS_size _ _
  have hhw := planH_wf h0 hwf (kN l) key
  have hR := delR (n := n) (T := T) (h := planH hs (kN l) key) (key := key) hI.n0
  obtain ⟨out, T', hr⟩ : ∃ out T', delT n T (planH hs (kN l) key) key = (out, T') := ⟨_, _, rfl⟩
  rw [hr] at hR
  have hkeep := keeps_del hR
  have _ := And.intro hsl hadb
  refine fn_intro en58 Tryz.func58 rfl rfl rfl fun Fr w0 => t_nm ?_
  refine t_shape (e := 204) (sz := 5) (v := lv) (n := lives.length) (xs := rowOf Life.cells lives) tk fun _ hsh => ?_
  obtain ⟨a0, cap, rfl, hsh, hcap1, _⟩ := hsh
  refine sr <| o_boxA rfl rfl fun b3 => asg rfl rfl <| lz <| mv rfl rfl <| l_q rfl (qfa 1 rfl yU41 rfl rfl yS3) <| l_q rfl (qld rfl yA3) ?_
  refine lc1 rfl rfl rfl (key_ok pb pa off l vf vt (.slice a0 lives.length cap) sl ad hs G vh hh h0 hmx hl x hx) ?_
  rw [hkey]
  refine mv rfl rfl <| l_q rfl (q_extractL rfl ga) ?_
  refine l_q rfl (q_extractL rfl ga) ?_
  refine asg rfl rfl <| asg rfl rfl <| lz <| mv rfl rfl <| l_q rfl (q_nilCheck rfl) <| l_q rfl (qfa 10 rfl yU37 rfl rfl yS34) <| l_q rfl (qlda rfl yA34 yS34) ?_
  refine mv rfl rfl <| mv rfl rfl <| lcf rfl rfl rfl (Delete_ok G hG pa off go n e s l T hP _ hhw key hks2 (by omega) (by omega)) ?_
  rintro v L' ⟨s', rfl, rfl, hP', hS'⟩
  refine l_nm ?_
  rw [hr] at hP' ⊢
  refine mv rfl rfl <| l_q rfl (q_extractL rfl ga) ?_
  refine l_q rfl (q_extractL rfl ga) ?_
  refine asg rfl rfl <| asg rfl rfl <| lz <| mv rfl rfl <| mv rfl rfl <| lc1 rfl rfl rfl (place_ok pb pa off l vf vt (.slice a0 lives.length cap) sl ad lives vh key (by omega)) ?_
  cases hpl : placeL lives key with
  | some i =>
    rw [show placeV lives key = ((i : Nat) : Int) by unfold placeV; rw [hpl]]
    refine asg rfl rfl <| lc <| t_seq <| sr <| mv rfl rfl <| l_q rfl (qi rfl rfl (b_geq ·)) <| lc <| t_if rfl (fun q => ?_) fun q => ?_
    · skip
      obtain ⟨u, hu, hk, _⟩ := place_some hpl
      subst hk
      have hil : i < lives.length := by rcases Nat.lt_or_ge i lives.length with q | q; exact q; rw [List.getElem?_eq_none q] at hu; cases hu
      obtain ⟨ho, hI'⟩ := hI.del hu hR
      subst ho
      obtain ⟨g, rfl⟩ := hsh (by omega)
      refine t_ent (fun w h => own_nil (e := 204) (sz := 5) h) ?_
      refine sr <| asg rfl rfl <| lz <| mv rfl rfl <| mv rfl rfl <| l_q rfl (q_nilCheck rfl) <| l_q rfl (qfa 25 rfl yU37 rfl rfl yS35) <| l_q rfl (qld rfl yA35) ?_
      refine mv rfl rfl <| l_q rfl (q_sliceN_h rfl rfl yU35 yS204 (by omega)) ?_
      refine o_appendR (sz := 5) (n := 0) (m := ((i : Nat) : Int).toNat) (a0 := ⟨g, 0, none⟩) (v := .slice none 0 0) (xs := []) (rowOf Life.cells (lives.take i)) rfl rfl rfl Tryz.underlying35 yI204 rfl rfl tk (reads_head life5 tk (by omega)) (by rw [rowOf_len life5, List.length_take, Int.toNat_natCast, Nat.min_eq_left (by omega)]) (rowOf_one life1 _) (by simp only [maxLen]; omega) (by omega) fun v40 => ?_
      refine l_shape (v := v40) tk fun _ hs40 => ?_
      obtain ⟨a40, cap40, rfl, _, _, _⟩ := hs40
      refine asg rfl rfl <| lz <| mv rfl rfl <| mv rfl rfl <| l_q rfl (q_nilCheck rfl) <| l_q rfl (qfa 25 rfl yU37 rfl rfl yS35) <| l_q rfl (qld rfl yA35) ?_
      refine mv rfl rfl <| l_q rfl (qadd rfl rfl) ?_
      refine l_q rfl (q_sliceN_l rfl rfl  yU35 yS204 (by omega)) ?_
      refine o_appendR (sz := 5) (n := 0 + ((i : Nat) : Int).toNat) (m := lives.length - (((i : Nat) : Int) + 1).toNat) (a0 := ⟨g, tailN 5 0 (((i : Nat) : Int) + 1).toNat cap, none⟩) (v := .slice a40 (0 + ((i : Nat) : Int).toNat) cap40) (xs := [] ++ rowOf Life.cells (lives.take i)) (rowOf Life.cells (lives.drop (((i : Nat) : Int) + 1).toNat)) rfl rfl rfl Tryz.underlying35 yI204 rfl rfl tk (reads_tail life5 tk rfl (by omega) hcap1) (by rw [rowOf_len life5, List.length_drop]) (rowOf_one life1 _) (by simp only [maxLen]; omega) (by omega) fun v49 => ?_
      refine l_shape (v := v49) tk fun _ hs49 => ?_
      obtain ⟨a49, cap49, rfl, _, _, _⟩ := hs49
      refine asg rfl rfl <| lr <| mv rfl rfl <| mv rfl rfl <| l_q rfl (q_nilCheck rfl) <| l_q rfl (qfa 25 rfl yU37 rfl rfl yS35) <| st rfl rfl rfl yS35 rfl ?_
      refine lz <| mv rfl rfl <| lc1 rfl rfl rfl (num08_ok _) ?_
      refine l_q rfl (qi rfl rfl (b_eql ·)) <| mv rfl rfl <| l_pt (t := 57) rfl (fun r1 => ?_) fun r1 => ?_
      · refine l_on rfl rfl <| mv rfl rfl <| l_on rfl rfl <| mv rfl rfl <| l_on rfl rfl <| l_q rfl (qi rfl rfl (b_geq ·)) <| l_on rfl rfl <| l_q rfl (qb rfl rfl (b_eqlB · yU4)) <| l_q rfl (q_pk rfl rfl) <| asg rfl rfl <| lc <| rt <| fr1 rfl ([pt pb (.cells #[.pointer (some ⟨pa, 0, none⟩), .int .i64 l.key, .int .i64 l.elem, .int .i64 l.ka, .int .i64 l.ea, .int .i64 l.cap, .int .i64 l.eo, .int .i64 l.bo, .int .i64 l.slot, .int .i64 l.group, .pointer (some ⟨pa, 0, none⟩), .int .i64 l.key, .int .i64 l.elem, .int .i64 l.ka, .int .i64 l.ea, .int .i64 l.cap, .int .i64 l.eo, .int .i64 l.bo, .int .i64 l.slot, .int .i64 l.group, .int .i64 ((off : Nat) : Int), vf, .int .i64 sl, vh, vt, (.slice a49 (0 + ((i : Nat) : Int).toNat + (lives.length - (((i : Nat) : Int) + 1).toNat)) cap49), .int .i64 ((ad : Nat) : Int)] 37 (0, 0)), ownS 204 5 (.slice a49 (0 + ((i : Nat) : Int).toNat + (lives.length - (((i : Nat) : Int) + 1).toNat)) cap49) (0 + ((i : Nat) : Int).toNat + (lives.length - (((i : Nat) : Int) + 1).toNat)) (rowOf Life.cells (lives.take i) ++ rowOf Life.cells (lives.drop (((i : Nat) : Int) + 1).toNat)), G, arenaH pa s']) (.tmp rfl) ?_
        exact ⟨s', T', lives.eraseIdx i, _, ad, by congr 1, by rw [show (lives.eraseIdx i).length = (0 + ((i : Nat) : Int).toNat + (lives.length - (((i : Nat) : Int) + 1).toNat)) by rw [List.length_eraseIdx, if_pos hil]; omega, List.eraseIdx_eq_take_drop_succ, rowOf_app]; rfl, hP', hI', by omega, hS', hkeep⟩
      · exact absurd rfl r1
    · omega
  | none =>
    rw [show placeV lives key = -1 by unfold placeV; rw [hpl]]
    obtain ⟨ho, hT⟩ := hI.del_no hpl hR
    subst ho hT
    refine asg rfl rfl <| lc <| t_seq <| sr <| mv rfl rfl <| l_q rfl (qi rfl rfl (b_geq ·)) <| lc <| t_if rfl (fun q => ?_) fun q => ?_
    · omega
    · refine t_skip <| nz <| mv rfl rfl <| lc1 rfl rfl rfl (num08_ok _) ?_
      refine l_q rfl (qi rfl rfl (b_eql ·)) <| mv rfl rfl <| l_pt (t := 57) rfl (fun r1 => ?_) fun r1 => ?_
      · refine l_on rfl rfl <| mv rfl rfl <| l_on rfl rfl <| mv rfl rfl <| l_on rfl rfl <| l_q rfl (qi rfl rfl (b_geq ·)) <| l_on rfl rfl <| l_q rfl (qb rfl rfl (b_eqlB · yU4)) <| l_q rfl (q_pk rfl rfl) <| asg rfl rfl <| lc <| rt <| fr1 rfl ([pt pb (.cells #[.pointer (some ⟨pa, 0, none⟩), .int .i64 l.key, .int .i64 l.elem, .int .i64 l.ka, .int .i64 l.ea, .int .i64 l.cap, .int .i64 l.eo, .int .i64 l.bo, .int .i64 l.slot, .int .i64 l.group, .pointer (some ⟨pa, 0, none⟩), .int .i64 l.key, .int .i64 l.elem, .int .i64 l.ka, .int .i64 l.ea, .int .i64 l.cap, .int .i64 l.eo, .int .i64 l.bo, .int .i64 l.slot, .int .i64 l.group, .int .i64 ((off : Nat) : Int), vf, .int .i64 sl, vh, vt, (.slice a0 lives.length cap), .int .i64 ((ad : Nat) : Int)] 37 (0, 0)), ownS 204 5 (.slice a0 lives.length cap) lives.length (rowOf Life.cells lives), G, arenaH pa s']) (.tmp rfl) ?_
        exact ⟨s', T', lives, _, ad, rfl, rfl, hP', hI, by omega, hS', hkeep⟩
      · exact absurd rfl r1
omit hsl hadb in
theorem asks_ok (x : Int) (hx : -9223372036854775808 ≤ x ∧ x ≤ 9223372036854775807) :
    FnOk Tryz.prog 59 #[.pointer (some ⟨pb, 0, none⟩), .int .i64 x] [pt pb (.cells #[.pointer (some ⟨pa, 0, none⟩), .int .i64 l.key, .int .i64 l.elem, .int .i64 l.ka, .int .i64 l.ea, .int .i64 l.cap, .int .i64 l.eo, .int .i64 l.bo, .int .i64 l.slot, .int .i64 l.group, .pointer (some ⟨pa, 0, none⟩), .int .i64 l.key, .int .i64 l.elem, .int .i64 l.ka, .int .i64 l.ea, .int .i64 l.cap, .int .i64 l.eo, .int .i64 l.bo, .int .i64 l.slot, .int .i64 l.group, .int .i64 ((off : Nat) : Int), vf, .int .i64 sl, vh, vt, lv, .int .i64 ((ad : Nat) : Int)] 37 (0, 0)), ownS 204 5 lv lives.length (rowOf Life.cells lives), G, arenaH pa s]
      (fun v L => v = .bool true ∧ L = [pt pb (.cells #[.pointer (some ⟨pa, 0, none⟩), .int .i64 l.key, .int .i64 l.elem, .int .i64 l.ka, .int .i64 l.ea, .int .i64 l.cap, .int .i64 l.eo, .int .i64 l.bo, .int .i64 l.slot, .int .i64 l.group, .pointer (some ⟨pa, 0, none⟩), .int .i64 l.key, .int .i64 l.elem, .int .i64 l.ka, .int .i64 l.ea, .int .i64 l.cap, .int .i64 l.eo, .int .i64 l.bo, .int .i64 l.slot, .int .i64 l.group, .int .i64 ((off : Nat) : Int), vf, .int .i64 sl, vh, vt, lv, .int .i64 ((ad : Nat) : Int)] 37 (0, 0)), ownS 204 5 lv lives.length (rowOf Life.cells lives), G, arenaH pa s]) := by
  have hN := layN hl
  have hbd := Lay.bnd hl
  have hks := hN.k
  have hk1 := hN.k1
  have hlen := hI.len
  obtain ⟨key, hkey⟩ : ∃ key, textS (keyN x : Nat) (kN l) = key := ⟨_, rfl⟩
  have hks2 : key.size = kN l := by rw [← hkey]; exact textS_size _ _
  have hhw := planH_wf h0 hwf (kN l) key
  refine fn_intro en59 Tryz.func59 rfl rfl rfl fun Fr w0 => t_nm ?_
  refine t_shape (e := 204) (sz := 5) (v := lv) (n := lives.length) (xs := rowOf Life.cells lives) tk fun _ hsh => ?_
  obtain ⟨a0, cap, rfl, hsh, hcap1, _⟩ := hsh
  refine sr <| asg rfl rfl <| lz <| mv rfl rfl <| mv rfl rfl <| lc1 rfl rfl rfl (key_ok pb pa off l vf vt (.slice a0 lives.length cap) sl ad hs G vh hh h0 hmx hl x hx) ?_
  rw [hkey]
  cases hpl : placeL lives key with
  | some i =>
    obtain ⟨u, hu, hk, _⟩ := place_some hpl
    obtain ⟨h1, h2, h3, h4⟩ := hI.found hu
    rw [hk] at h4 h3
    rw [h3] at h4
    have hget : getC n T (planH hs (kN l) key) key = .full (planH hs (kN l) key % 128) key u.elem u.birth := by
      unfold getC; rw [h4, if_pos (by omega), Int.toNat_natCast, h2]; unfold Life.cell; rw [h3, hk]
    have hil : i < lives.length := by rcases Nat.lt_or_ge i lives.length with q | q; exact q; rw [List.getElem?_eq_none q] at hu; cases hu
    obtain ⟨g, rfl⟩ := hsh (by omega)
    have hcell : ∀ j x, [Value.string u.key, .string u.elem, .int .u64 u.hash, .int .i64 u.birth, .int .i64 (u.slot : Nat)][j]? = some x → CellAt (ownS 204 5 (.slice (some ⟨g, 0, none⟩) lives.length cap) lives.length (rowOf Life.cells lives)) ((⟨g, 0 + (i : Int).toNat * 5, none⟩ : Addr).add j) x := fun j x hx => by
      have hj : j < 5 := by rcases Nat.lt_or_ge j 5 with q | q; exact q; rw [List.getElem?_eq_none (by simpa using q)] at hx; cases hx
      rw [add_none, Nat.zero_add, Int.toNat_natCast]
      exact own_cell (by rw [rowOf_get life5 lives i j u hu hj]; exact hx)
    refine mv rfl rfl <| l_q rfl (q_extractL rfl ga) ?_
    refine l_q rfl (q_extractL rfl ga) ?_
    refine asg rfl rfl <| asg rfl rfl <| lz <| mv rfl rfl <| l_q rfl (q_nilCheck rfl) <| l_q rfl (qfa 10 rfl yU37 rfl rfl yS34) <| l_q rfl (qlda rfl yA34 yS34) ?_
    refine mv rfl rfl <| mv rfl rfl <| lc1 rfl rfl rfl (TGet_ok G hG pa off go n e s l T hP _ hhw key hks2) ?_
    rw [hget]
    refine mv rfl rfl <| l_q rfl (q_extractL rfl ga) ?_
    refine l_q rfl (q_extractL rfl ga) ?_
    refine o_allocA rfl yZ54 fun b7 => sta rfl rfl rfl yS54 rfl rfl ?_
    refine asg rfl rfl <| lz <| mv rfl rfl <| l_q rfl (q_nilCheck rfl) <| l_q rfl (qfa 10 rfl yU37 rfl rfl yS34) <| l_q rfl (qlda rfl yA34 yS34) ?_
    refine mv rfl rfl <| mv rfl rfl <| lc1 rfl rfl rfl (Find_ok G hG pa off go n e s l T hP _ hhw key hks2) ?_
    rw [h4]
    refine mv rfl rfl <| l_q rfl (q_extractL rfl ga) ?_
    refine l_q rfl (q_extractL rfl ga) ?_
    refine asg rfl rfl <| asg rfl rfl <| lc <| t_seq <| sr <| mv rfl rfl <| lc1 rfl rfl rfl (num08_ok _) ?_
    refine l_q rfl (qi rfl rfl (b_neq ·)) <| mv rfl rfl <| l_pt (t := 42) rfl (fun r1 => ?_) fun r1 => ?_
    · exact absurd rfl r1
    · refine l_on rfl rfl <| mv rfl rfl <| l_on rfl rfl <| lc1 rfl rfl rfl (num08_ok _) ?_
      refine l_on rfl rfl <| l_q rfl (qi rfl rfl (b_neq ·)) <| l_q rfl (q_pk rfl rfl) <| lc <| t_if rfl (fun r2 => ?_) fun r2 => ?_
      · exact absurd rfl r2
      · refine t_skip <| nz <| mv rfl rfl <| mv rfl rfl <| lc1 rfl rfl rfl (place_ok pb pa off l vf vt (.slice (some ⟨g, 0, none⟩) lives.length cap) sl ad lives vh key (by omega)) ?_
        rw [show placeV lives key = ((i : Nat) : Int) by unfold placeV; rw [hpl]]
        refine asg rfl rfl <| lc <| t_seq <| sr <| mv rfl rfl <| l_q rfl (qi rfl rfl (b_lss ·)) <| lc <| t_if rfl (fun r3 => ?_) fun r3 => ?_
        · omega
        · refine t_skip <| nz <| mv rfl rfl <| l_q rfl (q_nilCheck rfl) <| l_q rfl (qfa 25 rfl yU37 rfl rfl yS35) <| l_q rfl (qld rfl yA35) ?_
          refine mv rfl rfl <| l_q rfl (q_indexAddr rfl rfl yU35 yS204 (by omega)) ?_
          apply l_q rfl
          · apply q_loadRA (A := ownS 204 5 (.slice (some ⟨g, 0, none⟩) lives.length cap) lives.length (rowOf Life.cells lives)) (us := [.string u.key, .string u.elem, .int .u64 u.hash, .int .i64 u.birth, .int .i64 (u.slot : Nat)]) rfl yA204 yS204 rfl
            · exact tk
            · exact hcell
          refine o_allocA rfl yZ204 fun b12 => sta rfl rfl rfl yS204 rfl rfl ?_
          refine lz <| mv rfl rfl <| l_q rfl (qfa 4 rfl yU204 rfl rfl yS3) <| l_q rfl (qld rfl yA3) ?_
          refine l_q rfl (qi rfl rfl (b_eql ·)) <| mv rfl rfl <| l_pt (t := 70) rfl (fun r4 => ?_) fun r4 => ?_
          · refine l_on rfl rfl <| l_q rfl (qlda rfl yA54 yS54) ?_
            refine l_on rfl rfl <| mv rfl rfl <| l_on rfl rfl <| l_q rfl (qrem rfl rfl) ?_
            refine l_on rfl rfl <| l_q rfl (qcv rfl yU52 yU3) ?_
            refine l_on rfl rfl <| mv rfl rfl <| l_on rfl rfl <| l_q rfl (qfa 1 rfl yU204 rfl rfl yS9) <| l_on rfl rfl <| l_q rfl (qld rfl yA9) ?_
            refine l_on rfl rfl <| l_q rfl (qfa 3 rfl yU204 rfl rfl yS3) <| l_on rfl rfl <| l_q rfl (qld rfl yA3) ?_
            refine l_on rfl rfl ?_
            apply l_q rfl
            · apply q_buildS rfl yP54 yZ54
              · apply FillR.one
                · repeat (first | exact PlAt.here | apply PlAt.there)
                · rfl
                · exact sa
                apply FillR.one
                · repeat (first | exact PlAt.here | apply PlAt.there)
                · rfl
                · exact sa
                apply FillR.one
                · repeat (first | exact PlAt.here | apply PlAt.there)
                · rfl
                · exact sa
                apply FillR.one
                · repeat (first | exact PlAt.here | apply PlAt.there)
                · rfl
                · exact sa
                apply FillR.one
                · repeat (first | exact PlAt.here | apply PlAt.there)
                · rfl
                · exact sa
                exact FillR.nil
            refine l_on rfl rfl <| l_q rfl (q_bin rfl rfl (g_flat · yG54) fun w => b_eqlFlat w yU54 yH54 (by kernel_rfl) (by kernel_rfl)) ?_
            exact l_q rfl (q_pk rfl rfl) <| asg rfl rfl <| lc <| rt <| fr1 rfl ([pt pb (.cells #[.pointer (some ⟨pa, 0, none⟩), .int .i64 l.key, .int .i64 l.elem, .int .i64 l.ka, .int .i64 l.ea, .int .i64 l.cap, .int .i64 l.eo, .int .i64 l.bo, .int .i64 l.slot, .int .i64 l.group, .pointer (some ⟨pa, 0, none⟩), .int .i64 l.key, .int .i64 l.elem, .int .i64 l.ka, .int .i64 l.ea, .int .i64 l.cap, .int .i64 l.eo, .int .i64 l.bo, .int .i64 l.slot, .int .i64 l.group, .int .i64 ((off : Nat) : Int), vf, .int .i64 sl, vh, vt, (.slice (some ⟨g, 0, none⟩) lives.length cap), .int .i64 ((ad : Nat) : Int)] 37 (0, 0)), ownS 204 5 (.slice (some ⟨g, 0, none⟩) lives.length cap) lives.length (rowOf Life.cells lives), G, arenaH pa s]) (.tmp rfl) ⟨congrArg Value.bool (dec_t rfl), rfl⟩
          · exact absurd rfl r4
  | none =>
    have h4 := hI.gone hpl
    have hget : getC n T (planH hs (kN l) key) key = .empty := by
      unfold getC; rw [h4, if_neg (by omega)]
    refine mv rfl rfl <| l_q rfl (q_extractL rfl ga) ?_
    refine l_q rfl (q_extractL rfl ga) ?_
    refine asg rfl rfl <| asg rfl rfl <| lz <| mv rfl rfl <| l_q rfl (q_nilCheck rfl) <| l_q rfl (qfa 10 rfl yU37 rfl rfl yS34) <| l_q rfl (qlda rfl yA34 yS34) ?_
    refine mv rfl rfl <| mv rfl rfl <| lc1 rfl rfl rfl (TGet_ok G hG pa off go n e s l T hP _ hhw key hks2) ?_
    rw [hget]
    refine mv rfl rfl <| l_q rfl (q_extractL rfl ga) ?_
    refine l_q rfl (q_extractL rfl ga) ?_
    refine o_allocA rfl yZ54 fun b7 => sta rfl rfl rfl yS54 rfl rfl ?_
    refine asg rfl rfl <| lz <| mv rfl rfl <| l_q rfl (q_nilCheck rfl) <| l_q rfl (qfa 10 rfl yU37 rfl rfl yS34) <| l_q rfl (qlda rfl yA34 yS34) ?_
    refine mv rfl rfl <| mv rfl rfl <| lc1 rfl rfl rfl (Find_ok G hG pa off go n e s l T hP _ hhw key hks2) ?_
    rw [h4]
    refine mv rfl rfl <| l_q rfl (q_extractL rfl ga) ?_
    refine l_q rfl (q_extractL rfl ga) ?_
    refine asg rfl rfl <| asg rfl rfl <| lc <| t_seq <| sr <| mv rfl rfl <| lc1 rfl rfl rfl (num08_ok _) ?_
    refine l_q rfl (qi rfl rfl (b_neq ·)) <| mv rfl rfl <| l_pt (t := 42) rfl (fun r1 => ?_) fun r1 => ?_
    · exact absurd rfl r1
    · refine l_on rfl rfl <| mv rfl rfl <| l_on rfl rfl <| lc1 rfl rfl rfl (num08_ok _) ?_
      refine l_on rfl rfl <| l_q rfl (qi rfl rfl (b_neq ·)) <| l_q rfl (q_pk rfl rfl) <| lc <| t_if rfl (fun r2 => ?_) fun r2 => ?_
      · exact absurd rfl r2
      · refine t_skip <| nz <| mv rfl rfl <| mv rfl rfl <| lc1 rfl rfl rfl (place_ok pb pa off l vf vt (.slice a0 lives.length cap) sl ad lives vh key (by omega)) ?_
        rw [show placeV lives key = -1 by unfold placeV; rw [hpl]]
        refine asg rfl rfl <| lc <| t_seq <| sr <| mv rfl rfl <| l_q rfl (qi rfl rfl (b_lss ·)) <| lc <| t_if rfl (fun r3 => ?_) fun r3 => ?_
        · refine sr <| l_q rfl (qlda rfl yA54 yS54) ?_
          apply l_q rfl
          · apply q_buildS rfl yP54 yZ54
            · exact FillR.nil
          refine l_q rfl (q_bin rfl rfl (g_flat · yG54) fun w => b_eqlFlat w yU54 yH54 (by kernel_rfl) (by kernel_rfl)) ?_
          refine mv rfl rfl <| l_pt (t := 55) rfl (fun r4 => ?_) fun r4 => ?_
          · refine l_on rfl rfl <| mv rfl rfl <| l_on rfl rfl <| l_q rfl (qi rfl rfl (b_eql ·)) <| l_q rfl (q_pk rfl rfl) <| asg rfl rfl <| lc <| rt <| fr1 rfl ([pt pb (.cells #[.pointer (some ⟨pa, 0, none⟩), .int .i64 l.key, .int .i64 l.elem, .int .i64 l.ka, .int .i64 l.ea, .int .i64 l.cap, .int .i64 l.eo, .int .i64 l.bo, .int .i64 l.slot, .int .i64 l.group, .pointer (some ⟨pa, 0, none⟩), .int .i64 l.key, .int .i64 l.elem, .int .i64 l.ka, .int .i64 l.ea, .int .i64 l.cap, .int .i64 l.eo, .int .i64 l.bo, .int .i64 l.slot, .int .i64 l.group, .int .i64 ((off : Nat) : Int), vf, .int .i64 sl, vh, vt, (.slice a0 lives.length cap), .int .i64 ((ad : Nat) : Int)] 37 (0, 0)), ownS 204 5 (.slice a0 lives.length cap) lives.length (rowOf Life.cells lives), G, arenaH pa s]) (.tmp rfl) ?_
            exact ⟨by first | rfl | exact congrArg Value.bool (dec_t rfl), rfl⟩
          · exact Bool.noConfusion (r4.symm.trans (dec_t rfl))
        · omega
theorem turn_ok (kd x y : Int) (hx : -9223372036854775808 ≤ x ∧ x ≤ 9223372036854775807) :
    FnOk Tryz.prog 11 #[.pointer (some ⟨pb, 0, none⟩), .agg #[.int .i64 kd, .int .i64 x, .int .i64 y]] [pt pb (.cells #[.pointer (some ⟨pa, 0, none⟩), .int .i64 l.key, .int .i64 l.elem, .int .i64 l.ka, .int .i64 l.ea, .int .i64 l.cap, .int .i64 l.eo, .int .i64 l.bo, .int .i64 l.slot, .int .i64 l.group, .pointer (some ⟨pa, 0, none⟩), .int .i64 l.key, .int .i64 l.elem, .int .i64 l.ka, .int .i64 l.ea, .int .i64 l.cap, .int .i64 l.eo, .int .i64 l.bo, .int .i64 l.slot, .int .i64 l.group, .int .i64 ((off : Nat) : Int), vf, .int .i64 sl, vh, vt, lv, .int .i64 ((ad : Nat) : Int)] 37 (0, 0)), ownS 204 5 lv lives.length (rowOf Life.cells lives), G, arenaH pa s]
      (fun v L => ∃ s' T' lives' lv', ∃ ad' : Nat, v = .bool true ∧ L = [pt pb (.cells #[.pointer (some ⟨pa, 0, none⟩), .int .i64 l.key, .int .i64 l.elem, .int .i64 l.ka, .int .i64 l.ea, .int .i64 l.cap, .int .i64 l.eo, .int .i64 l.bo, .int .i64 l.slot, .int .i64 l.group, .pointer (some ⟨pa, 0, none⟩), .int .i64 l.key, .int .i64 l.elem, .int .i64 l.ka, .int .i64 l.ea, .int .i64 l.cap, .int .i64 l.eo, .int .i64 l.bo, .int .i64 l.slot, .int .i64 l.group, .int .i64 ((off : Nat) : Int), vf, .int .i64 sl, vh, vt, lv', .int .i64 ((ad' : Nat) : Int)] 37 (0, 0)), ownS 204 5 lv' lives'.length (rowOf Life.cells lives'), G, arenaH pa s'] ∧ Went s s' off go n e l hs T T' lives' ad ad') := by
  have stay : Went s s off go n e l hs T T lives ad ad := ⟨hP, hI, by omega, SameBut.refl _ _ _ _, Keeps.refl T⟩
  refine fn_intro en11 Tryz.func11 rfl rfl rfl fun Fr w0 => t_nm ?_
  refine sr <| o_boxA rfl rfl fun b3 => asg rfl rfl <| lc <| t_seq <| sr <| l_q rfl (qfa 0 rfl yU41 rfl rfl yS3) <| l_q rfl (qld rfl yA3) ?_
  refine lc <| t_block <| sr <| l_q rfl (qi rfl rfl (b_eql ·)) <| asg rfl rfl <| lc <| t_if rfl (fun q1 => ?_) fun q1 => ?_
  · refine sr <| mv rfl rfl <| l_q rfl (qlda rfl yA41 yS41) ?_
    refine lcf rfl rfl rfl (puts_ok pb pa off n e l vf vt lv sl hs lives G hG go s T ad vh hh h0 hmx hwf hl hP hI hsl hn hadb kd x y hx) ?_
    rintro v L' ⟨s', T', lives', lv', ad', rfl, rfl, hW⟩
    refine l_nm ?_
    exact asg rfl rfl <| lc <| rt <| fr1 rfl ([pt pb (.cells #[.pointer (some ⟨pa, 0, none⟩), .int .i64 l.key, .int .i64 l.elem, .int .i64 l.ka, .int .i64 l.ea, .int .i64 l.cap, .int .i64 l.eo, .int .i64 l.bo, .int .i64 l.slot, .int .i64 l.group, .pointer (some ⟨pa, 0, none⟩), .int .i64 l.key, .int .i64 l.elem, .int .i64 l.ka, .int .i64 l.ea, .int .i64 l.cap, .int .i64 l.eo, .int .i64 l.bo, .int .i64 l.slot, .int .i64 l.group, .int .i64 ((off : Nat) : Int), vf, .int .i64 sl, vh, vt, lv', .int .i64 ((ad' : Nat) : Int)] 37 (0, 0)), ownS 204 5 lv' lives'.length (rowOf Life.cells lives'), G, arenaH pa s']) (.tmp rfl) ⟨s', T', lives', lv', ad', rfl, rfl, hW⟩
  · refine sr <| l_q rfl (qi rfl rfl (b_eql ·)) <| asg rfl rfl <| lc <| t_if rfl (fun q2 => ?_) fun q2 => ?_
    · refine sr <| mv rfl rfl <| l_q rfl (qlda rfl yA41 yS41) ?_
      refine lcf rfl rfl rfl (deletes_ok pb pa off n e l vf vt lv sl hs lives G hG go s T ad vh hh h0 hmx hwf hl hP hI hsl hn hadb kd x y hx) ?_
      rintro v L' ⟨s', T', lives', lv', ad', rfl, rfl, hW⟩
      refine l_nm ?_
      exact asg rfl rfl <| lc <| rt <| fr1 rfl ([pt pb (.cells #[.pointer (some ⟨pa, 0, none⟩), .int .i64 l.key, .int .i64 l.elem, .int .i64 l.ka, .int .i64 l.ea, .int .i64 l.cap, .int .i64 l.eo, .int .i64 l.bo, .int .i64 l.slot, .int .i64 l.group, .pointer (some ⟨pa, 0, none⟩), .int .i64 l.key, .int .i64 l.elem, .int .i64 l.ka, .int .i64 l.ea, .int .i64 l.cap, .int .i64 l.eo, .int .i64 l.bo, .int .i64 l.slot, .int .i64 l.group, .int .i64 ((off : Nat) : Int), vf, .int .i64 sl, vh, vt, lv', .int .i64 ((ad' : Nat) : Int)] 37 (0, 0)), ownS 204 5 lv' lives'.length (rowOf Life.cells lives'), G, arenaH pa s']) (.tmp rfl) ⟨s', T', lives', lv', ad', rfl, rfl, hW⟩
    · refine sr <| l_q rfl (qi rfl rfl (b_eql ·)) <| asg rfl rfl <| lc <| t_if rfl (fun q3 => ?_) fun q3 => ?_
      · refine sr <| mv rfl rfl <| l_q rfl (qfa 1 rfl yU41 rfl rfl yS3) <| l_q rfl (qld rfl yA3) ?_
        refine lc1 rfl rfl rfl (asks_ok pb pa off n e l vf vt lv sl hs lives G hG go s T ad vh hh h0 hmx hwf hl hP hI hn x hx) ?_
        exact asg rfl rfl <| lc <| rt <| fr1 rfl ([pt pb (.cells #[.pointer (some ⟨pa, 0, none⟩), .int .i64 l.key, .int .i64 l.elem, .int .i64 l.ka, .int .i64 l.ea, .int .i64 l.cap, .int .i64 l.eo, .int .i64 l.bo, .int .i64 l.slot, .int .i64 l.group, .pointer (some ⟨pa, 0, none⟩), .int .i64 l.key, .int .i64 l.elem, .int .i64 l.ka, .int .i64 l.ea, .int .i64 l.cap, .int .i64 l.eo, .int .i64 l.bo, .int .i64 l.slot, .int .i64 l.group, .int .i64 ((off : Nat) : Int), vf, .int .i64 sl, vh, vt, lv, .int .i64 ((ad : Nat) : Int)] 37 (0, 0)), ownS 204 5 lv lives.length (rowOf Life.cells lives), G, arenaH pa s]) (.tmp rfl) ⟨s, T, lives, lv, ad, rfl, rfl, stay⟩
      · exact t_skip <| n_blk <| nz <| asg rfl rfl <| lc <| rt <| fr1 rfl ([pt pb (.cells #[.pointer (some ⟨pa, 0, none⟩), .int .i64 l.key, .int .i64 l.elem, .int .i64 l.ka, .int .i64 l.ea, .int .i64 l.cap, .int .i64 l.eo, .int .i64 l.bo, .int .i64 l.slot, .int .i64 l.group, .pointer (some ⟨pa, 0, none⟩), .int .i64 l.key, .int .i64 l.elem, .int .i64 l.ka, .int .i64 l.ea, .int .i64 l.cap, .int .i64 l.eo, .int .i64 l.bo, .int .i64 l.slot, .int .i64 l.group, .int .i64 ((off : Nat) : Int), vf, .int .i64 sl, vh, vt, lv, .int .i64 ((ad : Nat) : Int)] 37 (0, 0)), ownS 204 5 lv lives.length (rowOf Life.cells lives), G, arenaH pa s]) (.tmp rfl) ⟨s, T, lives, lv, ad, rfl, rfl, stay⟩
end
end Go.Proofs.YtgijnebgchkenaaGreatDoor.Bench
