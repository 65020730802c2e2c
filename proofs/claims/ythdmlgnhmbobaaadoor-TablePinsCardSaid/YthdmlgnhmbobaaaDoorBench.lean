/- The bench of the laws over plans: its functions' contracts. -/
import Derived.Test.YthdmlgnhmbobaaaDoorBenchB
import Derived.Test.YthdmlgnhmbobaaaDoorEngRow
import Derived.Test.YthdmlgnhmbobaaaDoorTableG
import Derived.Test.YthdmlgnhmbobaaaDoorTableN
set_option linter.unusedVariables false
set_option linter.unusedSimpArgs false
set_option maxRecDepth 100000
namespace Go.Proofs.YthdmlgnhmbobaaaDoor.Bench
open Go.RowKit Go.Proofs Go.Proofs.YthdmlgnhmbobaaaDoor.Eng Go.Proofs.YthdmlgnhmbobaaaDoor.Ty Go.Proofs.YthdmlgnhmbobaaaDoor.Bits Go.Proofs.YthdmlgnhmbobaaaDoor.Mem Go.Proofs.YthdmlgnhmbobaaaDoor.Search Go.Proofs.YthdmlgnhmbobaaaDoor.Arena Go.Proofs.YthdmlgnhmbobaaaDoor.CtrlB Go.Proofs.YthdmlgnhmbobaaaDoor.Ctrl Go.Proofs.YthdmlgnhmbobaaaDoor.Layout Go.Proofs.YthdmlgnhmbobaaaDoor.GroupB Go.Proofs.YthdmlgnhmbobaaaDoor.Group Go.Proofs.YthdmlgnhmbobaaaDoor.Probe Go.Proofs.YthdmlgnhmbobaaaDoor.TableB Go.Proofs.YthdmlgnhmbobaaaDoor.TableI Go.Proofs.YthdmlgnhmbobaaaDoor.Table Go.Proofs.YthdmlgnhmbobaaaDoor.Ref03

theorem dec_t {p : Prop} {i : Decidable p} (h : p) : decide p = true := by simp [h]
theorem life5 (v : Life) : v.cells.length = 5 := rfl
theorem life1 (v : Life) : v.cells.all (·.oneCell') = true := rfl
/-- A sum of places. -/
def placeV (lives : List Life) (key : ByteArray) : Int := match placeL lives key with | some i => (i : Nat) | none => -1
section
variable (pb pa off n e : Nat) (l : Lay) (vf vt lv : Value) (sl ad : Int) (hs : List Int) (lives : List Life)
theorem place_ok (vh : Value) (key : ByteArray) (hlen : lives.length ≤ 8192) :
    FnOk Tryd.prog 57 #[.pointer (some ⟨pb, 0, none⟩), .string key] [pt pb (.cells #[.pointer (some ⟨pa, 0, none⟩), .int .i64 l.key, .int .i64 l.elem, .int .i64 l.ka, .int .i64 l.ea, .int .i64 l.cap, .int .i64 l.eo, .int .i64 l.bo, .int .i64 l.slot, .int .i64 l.group, .pointer (some ⟨pa, 0, none⟩), .int .i64 l.key, .int .i64 l.elem, .int .i64 l.ka, .int .i64 l.ea, .int .i64 l.cap, .int .i64 l.eo, .int .i64 l.bo, .int .i64 l.slot, .int .i64 l.group, .int .i64 ((off : Nat) : Int), vf, .int .i64 sl, vh, vt, lv, .int .i64 ad] 69 (0, 0)), ownS 145 5 lv lives.length (rowOf Life.cells lives)]
      (fun v L => v = .int .i64 (placeV lives key) ∧ L = [pt pb (.cells #[.pointer (some ⟨pa, 0, none⟩), .int .i64 l.key, .int .i64 l.elem, .int .i64 l.ka, .int .i64 l.ea, .int .i64 l.cap, .int .i64 l.eo, .int .i64 l.bo, .int .i64 l.slot, .int .i64 l.group, .pointer (some ⟨pa, 0, none⟩), .int .i64 l.key, .int .i64 l.elem, .int .i64 l.ka, .int .i64 l.ea, .int .i64 l.cap, .int .i64 l.eo, .int .i64 l.bo, .int .i64 l.slot, .int .i64 l.group, .int .i64 ((off : Nat) : Int), vf, .int .i64 sl, vh, vt, lv, .int .i64 ad] 69 (0, 0)), ownS 145 5 lv lives.length (rowOf Life.cells lives)]) := by
  refine fn_intro en57 Tryd.func57 rfl rfl rfl ?_
  intro Fr w0
  refine t_nm ?_
  refine t_shape (e := 145) (sz := 5) (v := lv) (n := lives.length) (xs := rowOf Life.cells lives) tk fun _ hsh => ?_
  obtain ⟨a0, cap, rfl, hsh, _, _⟩ := hsh
  refine t_seq ?_
  refine t_region ?_
  refine l_q rfl (q_assign rfl) ?_
  refine l_nil ?_
  refine n_code ?_
  refine t_seq ?_
  refine t_seq ?_
  refine t_region ?_
  refine l_q rfl (q_move rfl) ?_
  refine l_q rfl (q_nilCheck rfl) ?_
  first | refine l_q rfl (q_fieldAddr0 25 rfl Tryd.underlying69 rfl rfl ty_size67) ?_ | refine l_q rfl (q_fieldAddrK 25 rfl Tryd.underlying69 rfl rfl ty_size67) ?_
  refine l_q rfl (q_loadL rfl ty_agg67 tk ga) ?_
  refine l_q rfl (q_len rfl (fun w => len_slice Tryd.underlying67 w)) ?_
  refine l_q rfl (q_move rfl) ?_
  refine l_nil ?_
  refine n_code ?_
  refine t_block ?_
  refine t_loop (fun k : Nat => k ≤ lives.length ∧ ∀ j, j < k → ∀ u, lives[j]? = some u → u.key ≠ key) (fun k => [(1, .string key), (10, .slice a0 lives.length cap), (11, .int .i64 (lives.length : Nat)), (12, .int .i64 (k : Nat))]) (fun _ => pt pb (.cells #[.pointer (some ⟨pa, 0, none⟩), .int .i64 l.key, .int .i64 l.elem, .int .i64 l.ka, .int .i64 l.ea, .int .i64 l.cap, .int .i64 l.eo, .int .i64 l.bo, .int .i64 l.slot, .int .i64 l.group, .pointer (some ⟨pa, 0, none⟩), .int .i64 l.key, .int .i64 l.elem, .int .i64 l.ka, .int .i64 l.ea, .int .i64 l.cap, .int .i64 l.eo, .int .i64 l.bo, .int .i64 l.slot, .int .i64 l.group, .int .i64 ((off : Nat) : Int), vf, .int .i64 sl, vh, vt, (.slice a0 lives.length cap), .int .i64 ad] 69 (0, 0)) :: ownS 145 5 (.slice a0 lives.length cap) lives.length (rowOf Life.cells lives) :: Fr) (fun k => lives.length - k) 0 ⟨by omega, fun j hj => by omega⟩ ⟨rfl, rfl, rfl, rfl, trivial⟩ (by (exact en)) ?_
  rintro k ⟨hk, hno⟩
  refine t_seq ?_
  refine t_region ?_
  apply l_q rfl
  · apply q_bin rfl rfl (fun w => g_int w); exact fun w => b_lss w
  refine l_nil ?_
  refine n_code ?_
  refine t_seq ?_
  first | refine t_cond_d rfl (fun h => ?_) (fun h => ?_) | refine t_cond_n rfl (fun h => ?_) (fun h => ?_) | refine t_cond rfl (fun h => ?_) (fun h => ?_)
  · skip
    obtain ⟨g, rfl⟩ := hsh (by omega)
    obtain ⟨u, hu⟩ : ∃ u, lives[k]? = some u := ⟨lives[k], List.getElem?_eq_getElem (by omega)⟩
    have hcell : ∀ j x, [Value.string u.key, .string u.elem, .int .u64 u.hash, .int .i64 u.birth, .int .i64 (u.slot : Nat)][j]? = some x → CellAt (ownS 145 5 (.slice (some ⟨g, 0, none⟩) lives.length cap) lives.length (rowOf Life.cells lives)) ((⟨g, 0 + (k : Int).toNat * 5, none⟩ : Addr).add j) x := fun j x hx => by
      have hj : j < 5 := by rcases Nat.lt_or_ge j 5 with q | q; exact q; rw [List.getElem?_eq_none (by simpa using q)] at hx; cases hx
      rw [add_none, Nat.zero_add, Int.toNat_natCast]
      exact own_cell (by rw [rowOf_get life5 lives k j u hu hj]; exact hx)
    refine t_skip ?_
    refine n_code ?_
    refine t_seq ?_
    refine t_block ?_
    refine t_seq ?_
    refine t_region ?_
    refine l_q rfl (q_move rfl) ?_
    refine l_q rfl (q_indexAddr rfl rfl Tryd.underlying67 ty_size145 (by omega)) ?_
    apply l_q rfl
    · apply q_loadRA (A := ownS 145 5 (.slice (some ⟨g, 0, none⟩) lives.length cap) lives.length (rowOf Life.cells lives)) (us := [.string u.key, .string u.elem, .int .u64 u.hash, .int .i64 u.birth, .int .i64 (u.slot : Nat)]) rfl ty_agg145 ty_size145 rfl
      · exact tk
      · exact hcell
    refine o_allocA rfl ty_zero145 (fun b6 => ?_)
    refine l_q rfl (q_assign rfl) ?_
    apply o_storeAggL rfl rfl rfl ty_size145 rfl rfl (by simp)
    · exact tk
    · exact sal
    refine l_nil ?_
    refine n_code ?_
    refine t_seq ?_
    refine t_region ?_
    first | refine l_q rfl (q_fieldAddr0 0 rfl Tryd.underlying145 rfl rfl ty_size9) ?_ | refine l_q rfl (q_fieldAddrK 0 rfl Tryd.underlying145 rfl rfl ty_size9) ?_
    refine l_q rfl (q_loadL rfl ty_agg9 tk ga) ?_
    refine l_q rfl (q_move rfl) ?_
    apply l_q rfl
    · apply q_bin rfl rfl (fun w => g_string w); first | exact fun w => b_eqlS w | exact fun w => b_eqlS w (by omega)
    refine l_nil ?_
    refine n_code ?_
    first | refine t_cond_d rfl (fun q => ?_) (fun q => ?_) | refine t_cond_n rfl (fun q => ?_) (fun q => ?_) | refine t_cond rfl (fun q => ?_) (fun q => ?_)
    · refine t_seq ?_
      refine t_region ?_
      refine l_q rfl (q_move rfl) ?_
      refine l_q rfl (q_assign rfl) ?_
      refine l_nil ?_
      refine n_code ?_
      refine t_ret ?_
      refine r_blk ?_
      refine r_code ?_
      refine r_lp ?_
      refine r_blk ?_
      refine r_code ?_
      apply f_ret (.inl rfl) ([pt pb (.cells #[.pointer (some ⟨pa, 0, none⟩), .int .i64 l.key, .int .i64 l.elem, .int .i64 l.ka, .int .i64 l.ea, .int .i64 l.cap, .int .i64 l.eo, .int .i64 l.bo, .int .i64 l.slot, .int .i64 l.group, .pointer (some ⟨pa, 0, none⟩), .int .i64 l.key, .int .i64 l.elem, .int .i64 l.ka, .int .i64 l.ea, .int .i64 l.cap, .int .i64 l.eo, .int .i64 l.bo, .int .i64 l.slot, .int .i64 l.group, .int .i64 ((off : Nat) : Int), vf, .int .i64 sl, vh, vt, (.slice (some ⟨g, 0, none⟩) lives.length cap), .int .i64 ad] 69 (0, 0)), ownS 145 5 (.slice (some ⟨g, 0, none⟩) lives.length cap) lives.length (rowOf Life.cells lives)])
      · apply res1 rfl
        · exact .tmp rfl
      · exact ⟨by unfold placeV; rw [place_of hu q hno], rfl⟩
      · exact en
    · refine t_skip ?_
      refine n_blk ?_
      refine n_code ?_
      refine t_region ?_
      apply l_q rfl
      · apply q_bin rfl rfl (fun w => g_int w); first | exact fun w => b_add_i w (by omega) | exact fun w => b_add w
      refine l_q rfl (q_move rfl) ?_
      refine l_nil ?_
      apply n_again ((k + 1))
      · exact ⟨by omega, fun j hj v hv => by rcases Nat.lt_or_ge j k with q2 | q2; exact hno j q2 v hv; (obtain rfl : j = k := by omega); rw [hu] at hv; cases hv; exact q⟩
      · omega
      · exact ⟨rfl, rfl, rfl, rfl, trivial⟩
      · exact en
  · refine t_exit ?_
    refine x_code ?_
    refine x_lp ?_
    refine x_hit ?_
    refine n_code ?_
    refine t_seq ?_
    refine t_region ?_
    refine l_q rfl (q_assign rfl) ?_
    refine l_nil ?_
    refine n_code ?_
    refine t_ret ?_
    apply f_ret (.inl rfl) ([pt pb (.cells #[.pointer (some ⟨pa, 0, none⟩), .int .i64 l.key, .int .i64 l.elem, .int .i64 l.ka, .int .i64 l.ea, .int .i64 l.cap, .int .i64 l.eo, .int .i64 l.bo, .int .i64 l.slot, .int .i64 l.group, .pointer (some ⟨pa, 0, none⟩), .int .i64 l.key, .int .i64 l.elem, .int .i64 l.ka, .int .i64 l.ea, .int .i64 l.cap, .int .i64 l.eo, .int .i64 l.bo, .int .i64 l.slot, .int .i64 l.group, .int .i64 ((off : Nat) : Int), vf, .int .i64 sl, vh, vt, (.slice a0 lives.length cap), .int .i64 ad] 69 (0, 0)), ownS 145 5 (.slice a0 lives.length cap) lives.length (rowOf Life.cells lives)])
    · apply res1 rfl
      · exact .tmp rfl
    · exact ⟨by unfold placeV; rw [place_not fun j u hu => hno j (by rcases Nat.lt_or_ge j k with q | q; exact q; rw [List.getElem?_eq_none (by omega)] at hu; cases hu) u hu], rfl⟩
    · exact en
theorem key_ok (G : HP) (vh : Value) (hh : NumsAt .u64 G vh hs) (h0 : 0 < hs.length) (hmx : hs.length ≤ maxLen) (hl : l.err = 0) (x : Int) (hx : -9223372036854775808 ≤ x ∧ x ≤ 9223372036854775807) :
    FnOk Tryd.prog 56 #[.pointer (some ⟨pb, 0, none⟩), .int .i64 x] [pt pb (.cells #[.pointer (some ⟨pa, 0, none⟩), .int .i64 l.key, .int .i64 l.elem, .int .i64 l.ka, .int .i64 l.ea, .int .i64 l.cap, .int .i64 l.eo, .int .i64 l.bo, .int .i64 l.slot, .int .i64 l.group, .pointer (some ⟨pa, 0, none⟩), .int .i64 l.key, .int .i64 l.elem, .int .i64 l.ka, .int .i64 l.ea, .int .i64 l.cap, .int .i64 l.eo, .int .i64 l.bo, .int .i64 l.slot, .int .i64 l.group, .int .i64 ((off : Nat) : Int), vf, .int .i64 sl, vh, vt, lv, .int .i64 ad] 69 (0, 0)), G]
      (fun v L => v = .tuple #[.string (textS (keyN x : Nat) (kN l)), .int .u64 (planH hs (kN l) (textS (keyN x : Nat) (kN l)))] ∧ L = [pt pb (.cells #[.pointer (some ⟨pa, 0, none⟩), .int .i64 l.key, .int .i64 l.elem, .int .i64 l.ka, .int .i64 l.ea, .int .i64 l.cap, .int .i64 l.eo, .int .i64 l.bo, .int .i64 l.slot, .int .i64 l.group, .pointer (some ⟨pa, 0, none⟩), .int .i64 l.key, .int .i64 l.elem, .int .i64 l.ka, .int .i64 l.ea, .int .i64 l.cap, .int .i64 l.eo, .int .i64 l.bo, .int .i64 l.slot, .int .i64 l.group, .int .i64 ((off : Nat) : Int), vf, .int .i64 sl, vh, vt, lv, .int .i64 ad] 69 (0, 0)), G]) := by
  have hN := layN hl
  have hbd := Lay.bnd hl
  have hks := hN.k
  have hk1 := hN.k1
  have hlt := keyN_lt x
  obtain ⟨a1, cap1, rfl, hh0⟩ := hh
  obtain ⟨gb, go1, rfl, hh1⟩ := hh0 h0
  have ht1 := Int.tmod_lt_of_pos x (b := 1000) (by decide)
  have ht2 := Int.lt_tmod_of_pos x (b := 1000) (by decide)
  have hnum := text_num (w := kN l) (k := keyN x) hk1.1 hlt
  have hval : ∀ ix, ix = keyNum (kN l) (textS (keyN x : Nat) (kN l)) % hs.length → ix < hs.length ∧ hs[ix]? = some (planH hs (kN l) (textS (keyN x : Nat) (kN l))) := fun ix hix => by
    have hlt : ix < hs.length := by rw [hix]; exact Nat.mod_lt _ h0
    refine ⟨hlt, ?_⟩
    unfold planH
    rw [← hix, List.getElem?_eq_getElem hlt]
    unfold List.getD
    rw [List.getElem?_eq_getElem hlt]; rfl
  refine fn_intro en56 Tryd.func56 rfl rfl rfl ?_
  intro Fr w0
  refine t_nm ?_
  refine t_seq ?_
  refine t_region ?_
  refine l_q rfl (q_assign rfl) ?_
  refine l_q rfl (q_assign rfl) ?_
  refine l_nil ?_
  refine n_code ?_
  refine t_seq ?_
  refine t_region ?_
  refine l_q rfl (q_move rfl) ?_
  apply l_q rfl
  · apply q_bin rfl rfl (fun w => g_int w); first | exact fun w => b_rem_i w (by omega) | exact fun w => b_rem w (by omega)
  refine l_q rfl (q_assign rfl) ?_
  refine l_nil ?_
  refine n_code ?_
  refine t_seq ?_
  refine t_seq ?_
  refine t_region ?_
  refine l_q rfl (q_move rfl) ?_
  apply l_q rfl
  · apply q_bin rfl rfl (fun w => g_int w); exact fun w => b_lss w
  refine l_nil ?_
  refine n_code ?_
  first | refine t_cond_d rfl (fun h1 => ?_) (fun h1 => ?_) | refine t_cond_n rfl (fun h1 => ?_) (fun h1 => ?_) | refine t_cond rfl (fun h1 => ?_) (fun h1 => ?_)
  · refine t_region ?_
    refine l_q rfl (q_move rfl) ?_
    refine l_q rfl (q_un rfl (fun w => u_neg w)) ?_
    refine l_q rfl (q_assign rfl) ?_
    refine l_nil ?_
    refine n_code ?_
    refine t_seq ?_
    refine t_region ?_
    refine l_q rfl (q_move rfl) ?_
    refine l_q rfl (q_move rfl) ?_
    refine l_q rfl (q_nilCheck rfl) ?_
    first | refine l_q rfl (q_fieldAddr0 1 rfl Tryd.underlying69 rfl rfl ty_size27) ?_ | refine l_q rfl (q_fieldAddrK 1 rfl Tryd.underlying69 rfl rfl ty_size27) ?_
    first | refine l_q rfl (q_fieldAddr0 0 rfl Tryd.underlying27 rfl rfl ty_size3) ?_ | refine l_q rfl (q_fieldAddrK 0 rfl Tryd.underlying27 rfl rfl ty_size3) ?_
    refine l_q rfl (q_loadL rfl ty_agg3 tk ga) ?_
    rw [show IntKind.i64.wrap (0 - x.tmod 1000) = ((keyN x : Nat) : Int) by rw [wrap_i64 (by omega)]; unfold keyN; omega]
    apply l_callf rfl rfl rfl (text08_okI _ _ (kN l) hks.symm (by omega))
    · exact pk
    rintro v L' ⟨rfl, rfl⟩
    refine l_nm ?_
    refine l_q rfl (q_assign rfl) ?_
    refine l_nil ?_
    refine n_code ?_
    refine t_seq ?_
    refine t_seq ?_
    refine t_region ?_
    refine l_q rfl (q_move rfl) ?_
    refine l_q rfl (q_nilCheck rfl) ?_
    first | refine l_q rfl (q_fieldAddr0 1 rfl Tryd.underlying69 rfl rfl ty_size27) ?_ | refine l_q rfl (q_fieldAddrK 1 rfl Tryd.underlying69 rfl rfl ty_size27) ?_
    first | refine l_q rfl (q_fieldAddr0 0 rfl Tryd.underlying27 rfl rfl ty_size3) ?_ | refine l_q rfl (q_fieldAddrK 0 rfl Tryd.underlying27 rfl rfl ty_size3) ?_
    refine l_q rfl (q_loadL rfl ty_agg3 tk ga) ?_
    apply l_q rfl
    · apply q_bin rfl rfl (fun w => g_int w); exact fun w => b_eql w
    refine l_nil ?_
    refine n_code ?_
    first | refine t_cond_d rfl (fun h2 => ?_) (fun h2 => ?_) | refine t_cond_n rfl (fun h2 => ?_) (fun h2 => ?_) | refine t_cond rfl (fun h2 => ?_) (fun h2 => ?_)
    · skip
      have h2' : kN l = 1 := by omega
      rw [if_pos h2'] at hnum
      obtain ⟨ix, hix⟩ : ∃ ix, ix = keyNum (kN l) (textS (keyN x : Nat) (kN l)) % hs.length := ⟨_, rfl⟩
      obtain ⟨hixl, hget⟩ := hval ix hix
      rw [hnum] at hix
      have hidx : (Value.int .i64 ((((keyN x : Nat) : Int).tmod 256).tmod ((hs.length : Nat) : Int))) = .int .i64 ((ix : Nat) : Int) := by rw [hix]; rfl
      refine t_region ?_
      refine l_q rfl (q_move rfl) ?_
      apply l_q rfl
      · apply q_bin rfl rfl (fun w => g_int w); first | exact fun w => b_rem_i w (by omega) | exact fun w => b_rem w (by omega)
      refine l_q rfl (q_assign rfl) ?_
      refine l_nil ?_
      refine n_code ?_
      refine t_seq ?_
      refine t_draw mixed ?_
      refine d_q 0 gO rfl rfl rfl rfl (yq (q_move rfl)) ?_
      refine d_q 1 gO rfl rfl rfl rfl (yq (q_move rfl)) ?_
      refine d_q 2 gO rfl rfl rfl rfl (yq (q_nilCheck rfl)) ?_
      apply d_q 3 gO rfl rfl rfl rfl
      · apply yq
        first | exact q_fieldAddr0 21 rfl Tryd.underlying69 rfl rfl ty_size64 | exact q_fieldAddrK 21 rfl Tryd.underlying69 rfl rfl ty_size64
      apply d_q 4 gO rfl rfl rfl rfl
      · apply yq
        first | exact q_fieldAddr0 2 rfl Tryd.underlying64 rfl rfl ty_size61 | exact q_fieldAddrK 2 rfl Tryd.underlying64 rfl rfl ty_size61
      refine d_q 5 gO rfl rfl rfl rfl (yq (q_loadL rfl ty_agg61 tk ga)) ?_
      refine d_q 6 gO rfl rfl rfl rfl (yq (q_move rfl)) ?_
      refine d_q 7 gO rfl rfl rfl rfl (yq (q_move rfl)) ?_
      refine d_q 8 gO rfl rfl rfl rfl (yq (q_nilCheck rfl)) ?_
      apply d_q 9 gO rfl rfl rfl rfl
      · apply yq
        first | exact q_fieldAddr0 21 rfl Tryd.underlying69 rfl rfl ty_size64 | exact q_fieldAddrK 21 rfl Tryd.underlying69 rfl rfl ty_size64
      apply d_q 10 gO rfl rfl rfl rfl
      · apply yq
        first | exact q_fieldAddr0 2 rfl Tryd.underlying64 rfl rfl ty_size61 | exact q_fieldAddrK 2 rfl Tryd.underlying64 rfl rfl ty_size61
      refine d_q 11 gO rfl rfl rfl rfl (yq (q_loadL rfl ty_agg61 tk ga)) ?_
      refine d_q 12 gO rfl rfl rfl rfl (yq (q_len rfl (fun w => len_slice Tryd.underlying61 w))) ?_
      refine d_q 13 gO rfl rfl rfl rfl (yq (QV.to (q_bin rfl rfl (fun w => g_int w) (fun w => b_rem_i w (by omega))) hidx)) ?_
      refine d_q 14 gO rfl rfl rfl rfl (yq (q_indexAddr1 rfl rfl Tryd.underlying61 ty_size23 (by omega))) ?_
      refine d_q 15 gO rfl rfl rfl rfl (yq (q_loadR (A := G) (v := .int .u64 (planH hs (kN l) (textS (keyN x : Nat) (kN l)))) rfl ty_agg23 tk (by rw [Int.toNat_natCast]; exact hh1 ix _ hget))) ?_
      apply d_eff1 [0] [15, 14, 13, 12, 11, 10, 9, 8, 7, 6, 5, 4, 3, 2, 1] 16 [(29, _)]
      · exact gO
      · exact ⟨rfl, trivial⟩
      · kernel_rfl
      · kernel_rfl
      intro Ex
      refine l_q rfl (q_assign rfl) ?_
      refine l_nil ?_
      apply n_d
      · refine ⟨?_, ?_, ?_, ?_, ?_, ?_, ?_, ?_, ?_, ?_, ?_, ?_, ?_, ?_, ?_, trivial⟩
        · exact yat gO rfl rfl rfl (yq (q_loadR (A := G) (v := .int .u64 (planH hs (kN l) (textS (keyN x : Nat) (kN l)))) rfl ty_agg23 tk (by rw [Int.toNat_natCast]; exact hh1 ix _ hget)))
        · exact yat gO rfl rfl rfl (yq (q_indexAddr1 rfl rfl Tryd.underlying61 ty_size23 (by omega)))
        · exact yat gO rfl rfl rfl (yq (QV.to (q_bin rfl rfl (fun w => g_int w) (fun w => b_rem_i w (by omega))) hidx))
        · exact yat gO rfl rfl rfl (yq (q_len rfl (fun w => len_slice Tryd.underlying61 w)))
        · exact yat gO rfl rfl rfl (yq (q_loadL rfl ty_agg61 tk ga))
        · refine yat gO rfl rfl rfl ?_
          apply yq
          first | exact q_fieldAddr0 2 rfl Tryd.underlying64 rfl rfl ty_size61 | exact q_fieldAddrK 2 rfl Tryd.underlying64 rfl rfl ty_size61
        · refine yat gO rfl rfl rfl ?_
          apply yq
          first | exact q_fieldAddr0 21 rfl Tryd.underlying69 rfl rfl ty_size64 | exact q_fieldAddrK 21 rfl Tryd.underlying69 rfl rfl ty_size64
        · exact yat gO rfl rfl rfl (yq (q_nilCheck rfl))
        · exact yat gO rfl rfl rfl (yq (q_move rfl))
        · exact yat gO rfl rfl rfl (yq (q_move rfl))
        · exact yat gO rfl rfl rfl (yq (q_loadL rfl ty_agg61 tk ga))
        · refine yat gO rfl rfl rfl ?_
          apply yq
          first | exact q_fieldAddr0 2 rfl Tryd.underlying64 rfl rfl ty_size61 | exact q_fieldAddrK 2 rfl Tryd.underlying64 rfl rfl ty_size61
        · refine yat gO rfl rfl rfl ?_
          apply yq
          first | exact q_fieldAddr0 21 rfl Tryd.underlying69 rfl rfl ty_size64 | exact q_fieldAddrK 21 rfl Tryd.underlying69 rfl rfl ty_size64
        · exact yat gO rfl rfl rfl (yq (q_nilCheck rfl))
        · exact yat gO rfl rfl rfl (yq (q_move rfl))
      apply d_eff1 [15, 1, 2, 3, 4, 5, 6, 7, 8, 9, 10, 11, 12, 13, 14] [] 17 [(44, _)]
      · exact gO
      · exact ⟨rfl, trivial⟩
      · kernel_rfl
      · kernel_rfl
      intro Ex
      refine l_q rfl (q_assign rfl) ?_
      refine l_nil ?_
      apply n_d
      · exact trivial
      refine d_end (by kernel_rfl) ?_
      refine n_code ?_
      refine t_ret ?_
      apply f_ret (.inl rfl) ([pt pb (.cells #[.pointer (some ⟨pa, 0, none⟩), .int .i64 l.key, .int .i64 l.elem, .int .i64 l.ka, .int .i64 l.ea, .int .i64 l.cap, .int .i64 l.eo, .int .i64 l.bo, .int .i64 l.slot, .int .i64 l.group, .pointer (some ⟨pa, 0, none⟩), .int .i64 l.key, .int .i64 l.elem, .int .i64 l.ka, .int .i64 l.ea, .int .i64 l.cap, .int .i64 l.eo, .int .i64 l.bo, .int .i64 l.slot, .int .i64 l.group, .int .i64 ((off : Nat) : Int), vf, .int .i64 sl, (.slice (some ⟨gb, go1, none⟩) hs.length cap1), vt, lv, .int .i64 ad] 69 (0, 0)), G])
      · apply res2 rfl
        · exact .tmp rfl
        · exact .tmp rfl
      · exact ⟨rfl, rfl⟩
      · exact en
    · skip
      have h2' : kN l ≠ 1 := by omega
      rw [if_neg h2'] at hnum
      obtain ⟨ix, hix⟩ : ∃ ix, ix = keyNum (kN l) (textS (keyN x : Nat) (kN l)) % hs.length := ⟨_, rfl⟩
      obtain ⟨hixl, hget⟩ := hval ix hix
      rw [hnum] at hix
      have hidx : (Value.int .i64 (((keyN x : Nat) : Int).tmod ((hs.length : Nat) : Int))) = .int .i64 ((ix : Nat) : Int) := by rw [hix]; rfl
      refine t_skip ?_
      refine n_code ?_
      refine t_seq ?_
      refine t_draw mixed ?_
      refine d_q 0 gO rfl rfl rfl rfl (yq (q_move rfl)) ?_
      refine d_q 1 gO rfl rfl rfl rfl (yq (q_move rfl)) ?_
      refine d_q 2 gO rfl rfl rfl rfl (yq (q_nilCheck rfl)) ?_
      apply d_q 3 gO rfl rfl rfl rfl
      · apply yq
        first | exact q_fieldAddr0 21 rfl Tryd.underlying69 rfl rfl ty_size64 | exact q_fieldAddrK 21 rfl Tryd.underlying69 rfl rfl ty_size64
      apply d_q 4 gO rfl rfl rfl rfl
      · apply yq
        first | exact q_fieldAddr0 2 rfl Tryd.underlying64 rfl rfl ty_size61 | exact q_fieldAddrK 2 rfl Tryd.underlying64 rfl rfl ty_size61
      refine d_q 5 gO rfl rfl rfl rfl (yq (q_loadL rfl ty_agg61 tk ga)) ?_
      refine d_q 6 gO rfl rfl rfl rfl (yq (q_move rfl)) ?_
      refine d_q 7 gO rfl rfl rfl rfl (yq (q_move rfl)) ?_
      refine d_q 8 gO rfl rfl rfl rfl (yq (q_nilCheck rfl)) ?_
      apply d_q 9 gO rfl rfl rfl rfl
      · apply yq
        first | exact q_fieldAddr0 21 rfl Tryd.underlying69 rfl rfl ty_size64 | exact q_fieldAddrK 21 rfl Tryd.underlying69 rfl rfl ty_size64
      apply d_q 10 gO rfl rfl rfl rfl
      · apply yq
        first | exact q_fieldAddr0 2 rfl Tryd.underlying64 rfl rfl ty_size61 | exact q_fieldAddrK 2 rfl Tryd.underlying64 rfl rfl ty_size61
      refine d_q 11 gO rfl rfl rfl rfl (yq (q_loadL rfl ty_agg61 tk ga)) ?_
      refine d_q 12 gO rfl rfl rfl rfl (yq (q_len rfl (fun w => len_slice Tryd.underlying61 w))) ?_
      refine d_q 13 gO rfl rfl rfl rfl (yq (QV.to (q_bin rfl rfl (fun w => g_int w) (fun w => b_rem_i w (by omega))) hidx)) ?_
      refine d_q 14 gO rfl rfl rfl rfl (yq (q_indexAddr1 rfl rfl Tryd.underlying61 ty_size23 (by omega))) ?_
      refine d_q 15 gO rfl rfl rfl rfl (yq (q_loadR (A := G) (v := .int .u64 (planH hs (kN l) (textS (keyN x : Nat) (kN l)))) rfl ty_agg23 tk (by rw [Int.toNat_natCast]; exact hh1 ix _ hget))) ?_
      apply d_eff1 [0] [15, 14, 13, 12, 11, 10, 9, 8, 7, 6, 5, 4, 3, 2, 1] 16 [(29, _)]
      · exact gO
      · exact ⟨rfl, trivial⟩
      · kernel_rfl
      · kernel_rfl
      intro Ex
      refine l_q rfl (q_assign rfl) ?_
      refine l_nil ?_
      apply n_d
      · refine ⟨?_, ?_, ?_, ?_, ?_, ?_, ?_, ?_, ?_, ?_, ?_, ?_, ?_, ?_, ?_, trivial⟩
        · exact yat gO rfl rfl rfl (yq (q_loadR (A := G) (v := .int .u64 (planH hs (kN l) (textS (keyN x : Nat) (kN l)))) rfl ty_agg23 tk (by rw [Int.toNat_natCast]; exact hh1 ix _ hget)))
        · exact yat gO rfl rfl rfl (yq (q_indexAddr1 rfl rfl Tryd.underlying61 ty_size23 (by omega)))
        · exact yat gO rfl rfl rfl (yq (QV.to (q_bin rfl rfl (fun w => g_int w) (fun w => b_rem_i w (by omega))) hidx))
        · exact yat gO rfl rfl rfl (yq (q_len rfl (fun w => len_slice Tryd.underlying61 w)))
        · exact yat gO rfl rfl rfl (yq (q_loadL rfl ty_agg61 tk ga))
        · refine yat gO rfl rfl rfl ?_
          apply yq
          first | exact q_fieldAddr0 2 rfl Tryd.underlying64 rfl rfl ty_size61 | exact q_fieldAddrK 2 rfl Tryd.underlying64 rfl rfl ty_size61
        · refine yat gO rfl rfl rfl ?_
          apply yq
          first | exact q_fieldAddr0 21 rfl Tryd.underlying69 rfl rfl ty_size64 | exact q_fieldAddrK 21 rfl Tryd.underlying69 rfl rfl ty_size64
        · exact yat gO rfl rfl rfl (yq (q_nilCheck rfl))
        · exact yat gO rfl rfl rfl (yq (q_move rfl))
        · exact yat gO rfl rfl rfl (yq (q_move rfl))
        · exact yat gO rfl rfl rfl (yq (q_loadL rfl ty_agg61 tk ga))
        · refine yat gO rfl rfl rfl ?_
          apply yq
          first | exact q_fieldAddr0 2 rfl Tryd.underlying64 rfl rfl ty_size61 | exact q_fieldAddrK 2 rfl Tryd.underlying64 rfl rfl ty_size61
        · refine yat gO rfl rfl rfl ?_
          apply yq
          first | exact q_fieldAddr0 21 rfl Tryd.underlying69 rfl rfl ty_size64 | exact q_fieldAddrK 21 rfl Tryd.underlying69 rfl rfl ty_size64
        · exact yat gO rfl rfl rfl (yq (q_nilCheck rfl))
        · exact yat gO rfl rfl rfl (yq (q_move rfl))
      apply d_eff1 [15, 1, 2, 3, 4, 5, 6, 7, 8, 9, 10, 11, 12, 13, 14] [] 17 [(44, _)]
      · exact gO
      · exact ⟨rfl, trivial⟩
      · kernel_rfl
      · kernel_rfl
      intro Ex
      refine l_q rfl (q_assign rfl) ?_
      refine l_nil ?_
      apply n_d
      · exact trivial
      refine d_end (by kernel_rfl) ?_
      refine n_code ?_
      refine t_ret ?_
      apply f_ret (.inl rfl) ([pt pb (.cells #[.pointer (some ⟨pa, 0, none⟩), .int .i64 l.key, .int .i64 l.elem, .int .i64 l.ka, .int .i64 l.ea, .int .i64 l.cap, .int .i64 l.eo, .int .i64 l.bo, .int .i64 l.slot, .int .i64 l.group, .pointer (some ⟨pa, 0, none⟩), .int .i64 l.key, .int .i64 l.elem, .int .i64 l.ka, .int .i64 l.ea, .int .i64 l.cap, .int .i64 l.eo, .int .i64 l.bo, .int .i64 l.slot, .int .i64 l.group, .int .i64 ((off : Nat) : Int), vf, .int .i64 sl, (.slice (some ⟨gb, go1, none⟩) hs.length cap1), vt, lv, .int .i64 ad] 69 (0, 0)), G])
      · apply res2 rfl
        · exact .tmp rfl
        · exact .tmp rfl
      · exact ⟨rfl, rfl⟩
      · exact en
  · refine t_skip ?_
    refine n_code ?_
    refine t_seq ?_
    refine t_region ?_
    refine l_q rfl (q_move rfl) ?_
    refine l_q rfl (q_move rfl) ?_
    refine l_q rfl (q_nilCheck rfl) ?_
    first | refine l_q rfl (q_fieldAddr0 1 rfl Tryd.underlying69 rfl rfl ty_size27) ?_ | refine l_q rfl (q_fieldAddrK 1 rfl Tryd.underlying69 rfl rfl ty_size27) ?_
    first | refine l_q rfl (q_fieldAddr0 0 rfl Tryd.underlying27 rfl rfl ty_size3) ?_ | refine l_q rfl (q_fieldAddrK 0 rfl Tryd.underlying27 rfl rfl ty_size3) ?_
    refine l_q rfl (q_loadL rfl ty_agg3 tk ga) ?_
    rw [show x.tmod 1000 = ((keyN x : Nat) : Int) by unfold keyN; omega]
    apply l_callf rfl rfl rfl (text08_okI _ _ (kN l) hks.symm (by omega))
    · exact pk
    rintro v L' ⟨rfl, rfl⟩
    refine l_nm ?_
    refine l_q rfl (q_assign rfl) ?_
    refine l_nil ?_
    refine n_code ?_
    refine t_seq ?_
    refine t_seq ?_
    refine t_region ?_
    refine l_q rfl (q_move rfl) ?_
    refine l_q rfl (q_nilCheck rfl) ?_
    first | refine l_q rfl (q_fieldAddr0 1 rfl Tryd.underlying69 rfl rfl ty_size27) ?_ | refine l_q rfl (q_fieldAddrK 1 rfl Tryd.underlying69 rfl rfl ty_size27) ?_
    first | refine l_q rfl (q_fieldAddr0 0 rfl Tryd.underlying27 rfl rfl ty_size3) ?_ | refine l_q rfl (q_fieldAddrK 0 rfl Tryd.underlying27 rfl rfl ty_size3) ?_
    refine l_q rfl (q_loadL rfl ty_agg3 tk ga) ?_
    apply l_q rfl
    · apply q_bin rfl rfl (fun w => g_int w); exact fun w => b_eql w
    refine l_nil ?_
    refine n_code ?_
    first | refine t_cond_d rfl (fun h2 => ?_) (fun h2 => ?_) | refine t_cond_n rfl (fun h2 => ?_) (fun h2 => ?_) | refine t_cond rfl (fun h2 => ?_) (fun h2 => ?_)
    · skip
      have h2' : kN l = 1 := by omega
      rw [if_pos h2'] at hnum
      obtain ⟨ix, hix⟩ : ∃ ix, ix = keyNum (kN l) (textS (keyN x : Nat) (kN l)) % hs.length := ⟨_, rfl⟩
      obtain ⟨hixl, hget⟩ := hval ix hix
      rw [hnum] at hix
      have hidx : (Value.int .i64 ((((keyN x : Nat) : Int).tmod 256).tmod ((hs.length : Nat) : Int))) = .int .i64 ((ix : Nat) : Int) := by rw [hix]; rfl
      refine t_region ?_
      refine l_q rfl (q_move rfl) ?_
      apply l_q rfl
      · apply q_bin rfl rfl (fun w => g_int w); first | exact fun w => b_rem_i w (by omega) | exact fun w => b_rem w (by omega)
      refine l_q rfl (q_assign rfl) ?_
      refine l_nil ?_
      refine n_code ?_
      refine t_seq ?_
      refine t_draw mixed ?_
      refine d_q 0 gO rfl rfl rfl rfl (yq (q_move rfl)) ?_
      refine d_q 1 gO rfl rfl rfl rfl (yq (q_move rfl)) ?_
      refine d_q 2 gO rfl rfl rfl rfl (yq (q_nilCheck rfl)) ?_
      apply d_q 3 gO rfl rfl rfl rfl
      · apply yq
        first | exact q_fieldAddr0 21 rfl Tryd.underlying69 rfl rfl ty_size64 | exact q_fieldAddrK 21 rfl Tryd.underlying69 rfl rfl ty_size64
      apply d_q 4 gO rfl rfl rfl rfl
      · apply yq
        first | exact q_fieldAddr0 2 rfl Tryd.underlying64 rfl rfl ty_size61 | exact q_fieldAddrK 2 rfl Tryd.underlying64 rfl rfl ty_size61
      refine d_q 5 gO rfl rfl rfl rfl (yq (q_loadL rfl ty_agg61 tk ga)) ?_
      refine d_q 6 gO rfl rfl rfl rfl (yq (q_move rfl)) ?_
      refine d_q 7 gO rfl rfl rfl rfl (yq (q_move rfl)) ?_
      refine d_q 8 gO rfl rfl rfl rfl (yq (q_nilCheck rfl)) ?_
      apply d_q 9 gO rfl rfl rfl rfl
      · apply yq
        first | exact q_fieldAddr0 21 rfl Tryd.underlying69 rfl rfl ty_size64 | exact q_fieldAddrK 21 rfl Tryd.underlying69 rfl rfl ty_size64
      apply d_q 10 gO rfl rfl rfl rfl
      · apply yq
        first | exact q_fieldAddr0 2 rfl Tryd.underlying64 rfl rfl ty_size61 | exact q_fieldAddrK 2 rfl Tryd.underlying64 rfl rfl ty_size61
      refine d_q 11 gO rfl rfl rfl rfl (yq (q_loadL rfl ty_agg61 tk ga)) ?_
      refine d_q 12 gO rfl rfl rfl rfl (yq (q_len rfl (fun w => len_slice Tryd.underlying61 w))) ?_
      refine d_q 13 gO rfl rfl rfl rfl (yq (QV.to (q_bin rfl rfl (fun w => g_int w) (fun w => b_rem_i w (by omega))) hidx)) ?_
      refine d_q 14 gO rfl rfl rfl rfl (yq (q_indexAddr1 rfl rfl Tryd.underlying61 ty_size23 (by omega))) ?_
      refine d_q 15 gO rfl rfl rfl rfl (yq (q_loadR (A := G) (v := .int .u64 (planH hs (kN l) (textS (keyN x : Nat) (kN l)))) rfl ty_agg23 tk (by rw [Int.toNat_natCast]; exact hh1 ix _ hget))) ?_
      apply d_eff1 [0] [15, 14, 13, 12, 11, 10, 9, 8, 7, 6, 5, 4, 3, 2, 1] 16 [(29, _)]
      · exact gO
      · exact ⟨rfl, trivial⟩
      · kernel_rfl
      · kernel_rfl
      intro Ex
      refine l_q rfl (q_assign rfl) ?_
      refine l_nil ?_
      apply n_d
      · refine ⟨?_, ?_, ?_, ?_, ?_, ?_, ?_, ?_, ?_, ?_, ?_, ?_, ?_, ?_, ?_, trivial⟩
        · exact yat gO rfl rfl rfl (yq (q_loadR (A := G) (v := .int .u64 (planH hs (kN l) (textS (keyN x : Nat) (kN l)))) rfl ty_agg23 tk (by rw [Int.toNat_natCast]; exact hh1 ix _ hget)))
        · exact yat gO rfl rfl rfl (yq (q_indexAddr1 rfl rfl Tryd.underlying61 ty_size23 (by omega)))
        · exact yat gO rfl rfl rfl (yq (QV.to (q_bin rfl rfl (fun w => g_int w) (fun w => b_rem_i w (by omega))) hidx))
        · exact yat gO rfl rfl rfl (yq (q_len rfl (fun w => len_slice Tryd.underlying61 w)))
        · exact yat gO rfl rfl rfl (yq (q_loadL rfl ty_agg61 tk ga))
        · refine yat gO rfl rfl rfl ?_
          apply yq
          first | exact q_fieldAddr0 2 rfl Tryd.underlying64 rfl rfl ty_size61 | exact q_fieldAddrK 2 rfl Tryd.underlying64 rfl rfl ty_size61
        · refine yat gO rfl rfl rfl ?_
          apply yq
          first | exact q_fieldAddr0 21 rfl Tryd.underlying69 rfl rfl ty_size64 | exact q_fieldAddrK 21 rfl Tryd.underlying69 rfl rfl ty_size64
        · exact yat gO rfl rfl rfl (yq (q_nilCheck rfl))
        · exact yat gO rfl rfl rfl (yq (q_move rfl))
        · exact yat gO rfl rfl rfl (yq (q_move rfl))
        · exact yat gO rfl rfl rfl (yq (q_loadL rfl ty_agg61 tk ga))
        · refine yat gO rfl rfl rfl ?_
          apply yq
          first | exact q_fieldAddr0 2 rfl Tryd.underlying64 rfl rfl ty_size61 | exact q_fieldAddrK 2 rfl Tryd.underlying64 rfl rfl ty_size61
        · refine yat gO rfl rfl rfl ?_
          apply yq
          first | exact q_fieldAddr0 21 rfl Tryd.underlying69 rfl rfl ty_size64 | exact q_fieldAddrK 21 rfl Tryd.underlying69 rfl rfl ty_size64
        · exact yat gO rfl rfl rfl (yq (q_nilCheck rfl))
        · exact yat gO rfl rfl rfl (yq (q_move rfl))
      apply d_eff1 [15, 1, 2, 3, 4, 5, 6, 7, 8, 9, 10, 11, 12, 13, 14] [] 17 [(44, _)]
      · exact gO
      · exact ⟨rfl, trivial⟩
      · kernel_rfl
      · kernel_rfl
      intro Ex
      refine l_q rfl (q_assign rfl) ?_
      refine l_nil ?_
      apply n_d
      · exact trivial
      refine d_end (by kernel_rfl) ?_
      refine n_code ?_
      refine t_ret ?_
      apply f_ret (.inl rfl) ([pt pb (.cells #[.pointer (some ⟨pa, 0, none⟩), .int .i64 l.key, .int .i64 l.elem, .int .i64 l.ka, .int .i64 l.ea, .int .i64 l.cap, .int .i64 l.eo, .int .i64 l.bo, .int .i64 l.slot, .int .i64 l.group, .pointer (some ⟨pa, 0, none⟩), .int .i64 l.key, .int .i64 l.elem, .int .i64 l.ka, .int .i64 l.ea, .int .i64 l.cap, .int .i64 l.eo, .int .i64 l.bo, .int .i64 l.slot, .int .i64 l.group, .int .i64 ((off : Nat) : Int), vf, .int .i64 sl, (.slice (some ⟨gb, go1, none⟩) hs.length cap1), vt, lv, .int .i64 ad] 69 (0, 0)), G])
      · apply res2 rfl
        · exact .tmp rfl
        · exact .tmp rfl
      · exact ⟨rfl, rfl⟩
      · exact en
    · skip
      have h2' : kN l ≠ 1 := by omega
      rw [if_neg h2'] at hnum
      obtain ⟨ix, hix⟩ : ∃ ix, ix = keyNum (kN l) (textS (keyN x : Nat) (kN l)) % hs.length := ⟨_, rfl⟩
      obtain ⟨hixl, hget⟩ := hval ix hix
      rw [hnum] at hix
      have hidx : (Value.int .i64 (((keyN x : Nat) : Int).tmod ((hs.length : Nat) : Int))) = .int .i64 ((ix : Nat) : Int) := by rw [hix]; rfl
      refine t_skip ?_
      refine n_code ?_
      refine t_seq ?_
      refine t_draw mixed ?_
      refine d_q 0 gO rfl rfl rfl rfl (yq (q_move rfl)) ?_
      refine d_q 1 gO rfl rfl rfl rfl (yq (q_move rfl)) ?_
      refine d_q 2 gO rfl rfl rfl rfl (yq (q_nilCheck rfl)) ?_
      apply d_q 3 gO rfl rfl rfl rfl
      · apply yq
        first | exact q_fieldAddr0 21 rfl Tryd.underlying69 rfl rfl ty_size64 | exact q_fieldAddrK 21 rfl Tryd.underlying69 rfl rfl ty_size64
      apply d_q 4 gO rfl rfl rfl rfl
      · apply yq
        first | exact q_fieldAddr0 2 rfl Tryd.underlying64 rfl rfl ty_size61 | exact q_fieldAddrK 2 rfl Tryd.underlying64 rfl rfl ty_size61
      refine d_q 5 gO rfl rfl rfl rfl (yq (q_loadL rfl ty_agg61 tk ga)) ?_
      refine d_q 6 gO rfl rfl rfl rfl (yq (q_move rfl)) ?_
      refine d_q 7 gO rfl rfl rfl rfl (yq (q_move rfl)) ?_
      refine d_q 8 gO rfl rfl rfl rfl (yq (q_nilCheck rfl)) ?_
      apply d_q 9 gO rfl rfl rfl rfl
      · apply yq
        first | exact q_fieldAddr0 21 rfl Tryd.underlying69 rfl rfl ty_size64 | exact q_fieldAddrK 21 rfl Tryd.underlying69 rfl rfl ty_size64
      apply d_q 10 gO rfl rfl rfl rfl
      · apply yq
        first | exact q_fieldAddr0 2 rfl Tryd.underlying64 rfl rfl ty_size61 | exact q_fieldAddrK 2 rfl Tryd.underlying64 rfl rfl ty_size61
      refine d_q 11 gO rfl rfl rfl rfl (yq (q_loadL rfl ty_agg61 tk ga)) ?_
      refine d_q 12 gO rfl rfl rfl rfl (yq (q_len rfl (fun w => len_slice Tryd.underlying61 w))) ?_
      refine d_q 13 gO rfl rfl rfl rfl (yq (QV.to (q_bin rfl rfl (fun w => g_int w) (fun w => b_rem_i w (by omega))) hidx)) ?_
      refine d_q 14 gO rfl rfl rfl rfl (yq (q_indexAddr1 rfl rfl Tryd.underlying61 ty_size23 (by omega))) ?_
      refine d_q 15 gO rfl rfl rfl rfl (yq (q_loadR (A := G) (v := .int .u64 (planH hs (kN l) (textS (keyN x : Nat) (kN l)))) rfl ty_agg23 tk (by rw [Int.toNat_natCast]; exact hh1 ix _ hget))) ?_
      apply d_eff1 [0] [15, 14, 13, 12, 11, 10, 9, 8, 7, 6, 5, 4, 3, 2, 1] 16 [(29, _)]
      · exact gO
      · exact ⟨rfl, trivial⟩
      · kernel_rfl
      · kernel_rfl
      intro Ex
      refine l_q rfl (q_assign rfl) ?_
      refine l_nil ?_
      apply n_d
      · refine ⟨?_, ?_, ?_, ?_, ?_, ?_, ?_, ?_, ?_, ?_, ?_, ?_, ?_, ?_, ?_, trivial⟩
        · exact yat gO rfl rfl rfl (yq (q_loadR (A := G) (v := .int .u64 (planH hs (kN l) (textS (keyN x : Nat) (kN l)))) rfl ty_agg23 tk (by rw [Int.toNat_natCast]; exact hh1 ix _ hget)))
        · exact yat gO rfl rfl rfl (yq (q_indexAddr1 rfl rfl Tryd.underlying61 ty_size23 (by omega)))
        · exact yat gO rfl rfl rfl (yq (QV.to (q_bin rfl rfl (fun w => g_int w) (fun w => b_rem_i w (by omega))) hidx))
        · exact yat gO rfl rfl rfl (yq (q_len rfl (fun w => len_slice Tryd.underlying61 w)))
        · exact yat gO rfl rfl rfl (yq (q_loadL rfl ty_agg61 tk ga))
        · refine yat gO rfl rfl rfl ?_
          apply yq
          first | exact q_fieldAddr0 2 rfl Tryd.underlying64 rfl rfl ty_size61 | exact q_fieldAddrK 2 rfl Tryd.underlying64 rfl rfl ty_size61
        · refine yat gO rfl rfl rfl ?_
          apply yq
          first | exact q_fieldAddr0 21 rfl Tryd.underlying69 rfl rfl ty_size64 | exact q_fieldAddrK 21 rfl Tryd.underlying69 rfl rfl ty_size64
        · exact yat gO rfl rfl rfl (yq (q_nilCheck rfl))
        · exact yat gO rfl rfl rfl (yq (q_move rfl))
        · exact yat gO rfl rfl rfl (yq (q_move rfl))
        · exact yat gO rfl rfl rfl (yq (q_loadL rfl ty_agg61 tk ga))
        · refine yat gO rfl rfl rfl ?_
          apply yq
          first | exact q_fieldAddr0 2 rfl Tryd.underlying64 rfl rfl ty_size61 | exact q_fieldAddrK 2 rfl Tryd.underlying64 rfl rfl ty_size61
        · refine yat gO rfl rfl rfl ?_
          apply yq
          first | exact q_fieldAddr0 21 rfl Tryd.underlying69 rfl rfl ty_size64 | exact q_fieldAddrK 21 rfl Tryd.underlying69 rfl rfl ty_size64
        · exact yat gO rfl rfl rfl (yq (q_nilCheck rfl))
        · exact yat gO rfl rfl rfl (yq (q_move rfl))
      apply d_eff1 [15, 1, 2, 3, 4, 5, 6, 7, 8, 9, 10, 11, 12, 13, 14] [] 17 [(44, _)]
      · exact gO
      · exact ⟨rfl, trivial⟩
      · kernel_rfl
      · kernel_rfl
      intro Ex
      refine l_q rfl (q_assign rfl) ?_
      refine l_nil ?_
      apply n_d
      · exact trivial
      refine d_end (by kernel_rfl) ?_
      refine n_code ?_
      refine t_ret ?_
      apply f_ret (.inl rfl) ([pt pb (.cells #[.pointer (some ⟨pa, 0, none⟩), .int .i64 l.key, .int .i64 l.elem, .int .i64 l.ka, .int .i64 l.ea, .int .i64 l.cap, .int .i64 l.eo, .int .i64 l.bo, .int .i64 l.slot, .int .i64 l.group, .pointer (some ⟨pa, 0, none⟩), .int .i64 l.key, .int .i64 l.elem, .int .i64 l.ka, .int .i64 l.ea, .int .i64 l.cap, .int .i64 l.eo, .int .i64 l.bo, .int .i64 l.slot, .int .i64 l.group, .int .i64 ((off : Nat) : Int), vf, .int .i64 sl, (.slice (some ⟨gb, go1, none⟩) hs.length cap1), vt, lv, .int .i64 ad] 69 (0, 0)), G])
      · apply res2 rfl
        · exact .tmp rfl
        · exact .tmp rfl
      · exact ⟨rfl, rfl⟩
      · exact en
/-- What no put and no delete turns. -/
structure Keeps (T T' : Tb) : Prop where
  pins : T'.pins = T.pins
  next : T'.next = T.next
  kind : T'.kind = T.kind
  depth : T'.depth = T.depth
theorem Keeps.refl (T : Tb) : Keeps T T := ⟨rfl, rfl, rfl, rfl⟩
theorem keeps_put {n : Nat} {T T' : Tb} {h : Int} {key elem : ByteArray} {birth out : Int} (h : PutR n T h key elem birth (out, T')) : Keeps T T' := by
  cases h <;> exact ⟨rfl, rfl, rfl, rfl⟩
/-- A bench's state behind steps. -/
structure Went (s s' : ArS) (off go n e : Nat) (l : Lay) (hs : List Int) (T T' : Tb) (lives' : List Life) (ad ad' : Nat) : Prop where
  tab : TabP s' off go l n e T'
  bi : BI n (planH hs (kN l)) (planK (kN l)) T' lives' ad'
  ad : ad' ≤ ad + 1
  same : SameBut s s' off go (n * gN l)
  keeps : Keeps T T'
variable (G : HP) (hG : TabOk G) (go : Nat) (s : ArS) (T : Tb) (ad : Nat) (vh : Value) (hh : NumsAt .u64 G vh hs) (h0 : 0 < hs.length) (hmx : hs.length ≤ maxLen) (hwf : ∀ x ∈ hs, 0 ≤ x ∧ x < 18446744073709551616) (hl : l.err = 0)
  (hP : TabP s off go l n e T) (hI : BI n (planH hs (kN l)) (planK (kN l)) T lives ad) (hsl : sl = 8 * (n : Int)) (hn : n ≤ 1024) (hadb : ad < 9223372036854775807)
include hG hh h0 hmx hwf hl hP hI hsl hn hadb
theorem puts_ok (kd x y : Int) (hx : -9223372036854775808 ≤ x ∧ x ≤ 9223372036854775807) :
    FnOk Tryd.prog 22 #[.pointer (some ⟨pb, 0, none⟩), .agg #[.int .i64 kd, .int .i64 x, .int .i64 y]] [pt pb (.cells #[.pointer (some ⟨pa, 0, none⟩), .int .i64 l.key, .int .i64 l.elem, .int .i64 l.ka, .int .i64 l.ea, .int .i64 l.cap, .int .i64 l.eo, .int .i64 l.bo, .int .i64 l.slot, .int .i64 l.group, .pointer (some ⟨pa, 0, none⟩), .int .i64 l.key, .int .i64 l.elem, .int .i64 l.ka, .int .i64 l.ea, .int .i64 l.cap, .int .i64 l.eo, .int .i64 l.bo, .int .i64 l.slot, .int .i64 l.group, .int .i64 ((off : Nat) : Int), vf, .int .i64 sl, vh, vt, lv, .int .i64 ((ad : Nat) : Int)] 69 (0, 0)), ownS 145 5 lv lives.length (rowOf Life.cells lives), G, arenaH pa s]
      (fun v L => ∃ s' T' lives' lv', ∃ ad' : Nat, v = .bool true ∧ L = [pt pb (.cells #[.pointer (some ⟨pa, 0, none⟩), .int .i64 l.key, .int .i64 l.elem, .int .i64 l.ka, .int .i64 l.ea, .int .i64 l.cap, .int .i64 l.eo, .int .i64 l.bo, .int .i64 l.slot, .int .i64 l.group, .pointer (some ⟨pa, 0, none⟩), .int .i64 l.key, .int .i64 l.elem, .int .i64 l.ka, .int .i64 l.ea, .int .i64 l.cap, .int .i64 l.eo, .int .i64 l.bo, .int .i64 l.slot, .int .i64 l.group, .int .i64 ((off : Nat) : Int), vf, .int .i64 sl, vh, vt, lv', .int .i64 ((ad' : Nat) : Int)] 69 (0, 0)), ownS 145 5 lv' lives'.length (rowOf Life.cells lives'), G, arenaH pa s'] ∧ Went s s' off go n e l hs T T' lives' ad ad') := by
  have hN := layN hl
  have hbd := Lay.bnd hl
  have hks := hN.k
  have hes := hN.e
  have hk1 := hN.k1
  have he1 := hN.e1
  have hlen := hI.len
  have hused := hI.used
  have hleft := hI.cnt.left
  have hroom := hI.cnt.room
  obtain ⟨key, hkey⟩ : ∃ key, textS (keyN x : Nat) (kN l) = key := ⟨_, rfl⟩
  obtain ⟨elem, helem⟩ : ∃ elem, textS y (eN l) = elem := ⟨_, rfl⟩
  have hks2 : key.size = kN l := by rw [← hkey]; exact textS_size _ _
  have hes2 : elem.size = eN l := by rw [← helem]; exact textS_size _ _
  have hK : planK (kN l) key := ⟨keyN x, keyN_lt x, hkey.symm⟩
  have hhw := planH_wf h0 hwf (kN l) key
  have hR := putR (T := T) (h := planH hs (kN l) key) (key := key) hI.n0 (fun g hg => gk_onto hP.hn hg) elem ad
  obtain ⟨out, T', hr⟩ : ∃ out T', putT n T (planH hs (kN l) key) key elem ad = (out, T') := ⟨_, _, rfl⟩
  rw [hr] at hR
  have hkeep := keeps_put hR
  refine fn_intro en22 Tryd.func22 rfl rfl rfl ?_
  intro Fr w0
  refine t_nm ?_
  refine t_shape (e := 145) (sz := 5) (v := lv) (n := lives.length) (xs := rowOf Life.cells lives) tk fun _ hsh => ?_
  obtain ⟨a0, cap, rfl, hsh, _, _⟩ := hsh
  refine t_seq ?_
  refine t_region ?_
  refine o_boxA rfl rfl (fun b3 => ?_)
  refine l_q rfl (q_assign rfl) ?_
  refine l_nil ?_
  refine n_code ?_
  refine t_seq ?_
  refine t_region ?_
  refine l_q rfl (q_move rfl) ?_
  first | refine l_q rfl (q_fieldAddr0 1 rfl Tryd.underlying73 rfl rfl ty_size3) ?_ | refine l_q rfl (q_fieldAddrK 1 rfl Tryd.underlying73 rfl rfl ty_size3) ?_
  refine l_q rfl (q_loadL rfl ty_agg3 tk ga) ?_
  apply l_callf rfl rfl rfl (key_ok pb pa off l vf vt (.slice a0 lives.length cap) sl ad hs G vh hh h0 hmx hl x hx)
  · exact pk
  rintro v L' ⟨rfl, rfl⟩
  refine l_nm ?_
  rw [hkey]
  refine l_q rfl (q_move rfl) ?_
  refine l_q rfl (q_extractL rfl ga) ?_
  refine l_q rfl (q_extractL rfl ga) ?_
  refine l_q rfl (q_assign rfl) ?_
  refine l_q rfl (q_assign rfl) ?_
  refine l_nil ?_
  refine n_code ?_
  refine t_seq ?_
  refine t_draw mixed ?_
  apply d_q 0 gO rfl rfl rfl rfl
  · apply yq
    first | exact q_fieldAddr0 2 rfl Tryd.underlying73 rfl rfl ty_size3 | exact q_fieldAddrK 2 rfl Tryd.underlying73 rfl rfl ty_size3
  refine d_q 1 gO rfl rfl rfl rfl (yq (q_loadL rfl ty_agg3 tk ga)) ?_
  refine d_q 2 gO rfl rfl rfl rfl (yq (q_move rfl)) ?_
  refine d_q 3 gO rfl rfl rfl rfl (yq (q_nilCheck rfl)) ?_
  apply d_q 4 gO rfl rfl rfl rfl
  · apply yq
    first | exact q_fieldAddr0 1 rfl Tryd.underlying69 rfl rfl ty_size27 | exact q_fieldAddrK 1 rfl Tryd.underlying69 rfl rfl ty_size27
  apply d_q 5 gO rfl rfl rfl rfl
  · apply yq
    first | exact q_fieldAddr0 1 rfl Tryd.underlying27 rfl rfl ty_size3 | exact q_fieldAddrK 1 rfl Tryd.underlying27 rfl rfl ty_size3
  refine d_q 6 gO rfl rfl rfl rfl (yq (q_loadL rfl ty_agg3 tk ga)) ?_
  apply d_eff1 [1, 6, 0, 5, 4, 3, 2] [] 7 [(22, _), (27, _)]
  · exact gO
  · exact ⟨rfl, rfl, trivial⟩
  · kernel_rfl
  · kernel_rfl
  intro Ex
  apply l_callf rfl rfl rfl (text08_okI _ _ (eN l) hes.symm (by omega))
  · exact pk
  rintro v L' ⟨rfl, rfl⟩
  refine l_nm ?_
  rw [helem]
  refine l_nil ?_
  apply n_d
  · exact trivial
  apply d_eff1 [] [] 8 [(28, _)]
  · exact gO
  · exact ⟨rfl, trivial⟩
  · kernel_rfl
  · kernel_rfl
  intro Ex
  refine l_q rfl (q_assign rfl) ?_
  refine l_nil ?_
  apply n_d
  · exact trivial
  refine d_end (by kernel_rfl) ?_
  refine n_code ?_
  refine t_seq ?_
  refine t_region ?_
  refine l_q rfl (q_move rfl) ?_
  refine l_q rfl (q_nilCheck rfl) ?_
  first | refine l_q rfl (q_fieldAddr0 26 rfl Tryd.underlying69 rfl rfl ty_size3) ?_ | refine l_q rfl (q_fieldAddrK 26 rfl Tryd.underlying69 rfl rfl ty_size3) ?_
  refine l_q rfl (q_loadL rfl ty_agg3 tk ga) ?_
  refine l_q rfl (q_assign rfl) ?_
  refine l_nil ?_
  refine n_code ?_
  refine t_seq ?_
  refine t_region ?_
  refine l_q rfl (q_move rfl) ?_
  refine l_q rfl (q_nilCheck rfl) ?_
  first | refine l_q rfl (q_fieldAddr0 10 rfl Tryd.underlying69 rfl rfl ty_size36) ?_ | refine l_q rfl (q_fieldAddrK 10 rfl Tryd.underlying69 rfl rfl ty_size36) ?_
  refine l_q rfl (q_loadAggL rfl ty_agg36 ty_size36 tk sb) ?_
  refine l_q rfl (q_move rfl) ?_
  refine l_q rfl (q_move rfl) ?_
  refine l_q rfl (q_move rfl) ?_
  refine l_q rfl (q_move rfl) ?_
  apply l_callf rfl rfl rfl (Put_ok G hG pa off go n e s l T hP _ hhw key elem hks2 hes2 ad (by omega) (by omega) (by omega))
  · exact pk
  rintro v L' ⟨s', rfl, rfl, hP', hS'⟩
  refine l_nm ?_
  rw [hr] at hP' ⊢
  refine l_q rfl (q_move rfl) ?_
  refine l_q rfl (q_extractL rfl ga) ?_
  refine l_q rfl (q_extractL rfl ga) ?_
  refine l_q rfl (q_assign rfl) ?_
  refine l_q rfl (q_assign rfl) ?_
  refine l_nil ?_
  refine n_code ?_
  refine t_seq ?_
  refine t_seq ?_
  refine t_region ?_
  refine l_q rfl (q_move rfl) ?_
  apply l_callf rfl rfl rfl (num08_ok _)
  · exact pk
  rintro v L' ⟨rfl, rfl⟩
  refine l_nm ?_
  apply l_q rfl
  · apply q_bin rfl rfl (fun w => g_int w); exact fun w => b_neq w
  refine l_nil ?_
  refine n_code ?_
  first | refine t_cond_d rfl (fun z => ?_) (fun z => ?_) | refine t_cond_n rfl (fun z => ?_) (fun z => ?_) | refine t_cond rfl (fun z => ?_) (fun z => ?_)
  · exact absurd rfl z
  · refine t_skip ?_
    refine n_code ?_
    refine t_seq ?_
    refine t_region ?_
    refine l_q rfl (q_move rfl) ?_
    refine l_q rfl (q_move rfl) ?_
    apply l_callf rfl rfl rfl (place_ok pb pa off l vf vt (.slice a0 lives.length cap) sl ad lives vh key (by omega))
    · exact pk
    rintro v L' ⟨rfl, rfl⟩
    refine l_nm ?_
    cases hpl : placeL lives key with
    | some i =>
      rw [show placeV lives key = ((i : Nat) : Int) by unfold placeV; rw [hpl]]
      refine l_q rfl (q_assign rfl) ?_
      refine l_nil ?_
      refine n_code ?_
      refine t_seq ?_
      refine t_block ?_
      refine t_seq ?_
      refine t_region ?_
      refine l_q rfl (q_move rfl) ?_
      apply l_q rfl
      · apply q_bin rfl rfl (fun w => g_int w); exact fun w => b_geq w
      refine l_q rfl (q_assign rfl) ?_
      refine l_nil ?_
      refine n_code ?_
      first | refine t_cond_d rfl (fun q => ?_) (fun q => ?_) | refine t_cond_n rfl (fun q => ?_) (fun q => ?_) | refine t_cond rfl (fun q => ?_) (fun q => ?_)
      · skip
        obtain ⟨u, hu, hk, _⟩ := place_some hpl
        subst hk
        have hil : i < lives.length := by rcases Nat.lt_or_ge i lives.length with q | q; exact q; rw [List.getElem?_eq_none q] at hu; cases hu
        obtain ⟨ho, hI'⟩ := hI.put_old hu hR
        subst ho
        obtain ⟨g, rfl⟩ := hsh (by omega)
        have hset : (rowOf Life.cells lives).set (0 + ((i : Nat) : Int).toNat * 5 + 1) (.string elem) = rowOf Life.cells (lives.set i { u with elem := elem }) := by
          rw [Nat.zero_add, Int.toNat_natCast]
          exact rowOf_set life5 (by decide) lives i u hu rfl
        refine t_seq ?_
        refine t_region ?_
        refine l_q rfl (q_move rfl) ?_
        refine l_q rfl (q_nilCheck rfl) ?_
        first | refine l_q rfl (q_fieldAddr0 25 rfl Tryd.underlying69 rfl rfl ty_size67) ?_ | refine l_q rfl (q_fieldAddrK 25 rfl Tryd.underlying69 rfl rfl ty_size67) ?_
        refine l_q rfl (q_loadL rfl ty_agg67 tk ga) ?_
        refine l_q rfl (q_move rfl) ?_
        refine l_q rfl (q_move rfl) ?_
        refine l_q rfl (q_indexAddr rfl rfl Tryd.underlying67 ty_size145 (by omega)) ?_
        first | refine l_q rfl (q_fieldAddr0 1 rfl Tryd.underlying145 rfl rfl ty_size9) ?_ | refine l_q rfl (q_fieldAddrK 1 rfl Tryd.underlying145 rfl rfl ty_size9) ?_
        refine o_storeOwn rfl rfl rfl ty_size9 rfl tk (by omega) hset ?_
        refine l_nil ?_
        refine n_code ?_
        refine t_seq ?_
        refine t_region ?_
        refine l_q rfl (q_move rfl) ?_
        apply l_q rfl
        · apply q_bin rfl rfl (fun w => g_int w); exact fun w => b_eql w
        refine l_q rfl (q_assign rfl) ?_
        refine l_nil ?_
        refine n_code ?_
        refine t_ret ?_
        refine r_blk ?_
        refine r_code ?_
        apply f_ret (.inl rfl) ([pt pb (.cells #[.pointer (some ⟨pa, 0, none⟩), .int .i64 l.key, .int .i64 l.elem, .int .i64 l.ka, .int .i64 l.ea, .int .i64 l.cap, .int .i64 l.eo, .int .i64 l.bo, .int .i64 l.slot, .int .i64 l.group, .pointer (some ⟨pa, 0, none⟩), .int .i64 l.key, .int .i64 l.elem, .int .i64 l.ka, .int .i64 l.ea, .int .i64 l.cap, .int .i64 l.eo, .int .i64 l.bo, .int .i64 l.slot, .int .i64 l.group, .int .i64 ((off : Nat) : Int), vf, .int .i64 sl, vh, vt, (.slice (some ⟨g, 0, none⟩) lives.length cap), .int .i64 ((ad : Nat) : Int)] 69 (0, 0)), ownS 145 5 (.slice (some ⟨g, 0, none⟩) lives.length cap) lives.length (rowOf Life.cells (lives.set i { u with elem := elem })), G, arenaH pa s'])
        · apply res1 rfl
          · exact .tmp rfl
        · exact ⟨s', T', lives.set i { u with elem := elem }, _, ad, rfl, by rw [List.length_set], hP', hI', by omega, hS', hkeep⟩
        · exact en
      · omega
    | none =>
      rw [show placeV lives key = -1 by unfold placeV; rw [hpl]]
      refine l_q rfl (q_assign rfl) ?_
      refine l_nil ?_
      refine n_code ?_
      refine t_seq ?_
      refine t_block ?_
      refine t_seq ?_
      refine t_region ?_
      refine l_q rfl (q_move rfl) ?_
      apply l_q rfl
      · apply q_bin rfl rfl (fun w => g_int w); exact fun w => b_geq w
      refine l_q rfl (q_assign rfl) ?_
      refine l_nil ?_
      refine n_code ?_
      first | refine t_cond_d rfl (fun q => ?_) (fun q => ?_) | refine t_cond_n rfl (fun q => ?_) (fun q => ?_) | refine t_cond rfl (fun q => ?_) (fun q => ?_)
      · omega
      · refine t_seq ?_
        refine t_region ?_
        refine l_q rfl (q_move rfl) ?_
        apply l_q rfl
        · apply q_bin rfl rfl (fun w => g_int w); exact fun w => b_eql w
        refine l_q rfl (q_assign rfl) ?_
        refine l_nil ?_
        refine n_code ?_
        rcases hI.put_new hK hpl hR with ⟨ho, hT, had⟩ | ⟨ho, p, hp, hfind, hI'⟩
        · subst ho hT
          first | refine t_cond_d rfl (fun q3 => ?_) (fun q3 => ?_) | refine t_cond_n rfl (fun q3 => ?_) (fun q3 => ?_) | refine t_cond rfl (fun q3 => ?_) (fun q3 => ?_)
          · refine t_seq ?_
            refine t_draw mixed ?_
            refine d_q 0 gO rfl rfl rfl rfl (yq (q_move rfl)) ?_
            refine d_q 1 gO rfl rfl rfl rfl (yq (q_nilCheck rfl)) ?_
            apply d_q 2 gO rfl rfl rfl rfl
            · apply yq
              first | exact q_fieldAddr0 26 rfl Tryd.underlying69 rfl rfl ty_size3 | exact q_fieldAddrK 26 rfl Tryd.underlying69 rfl rfl ty_size3
            refine d_q 3 gO rfl rfl rfl rfl (yq (q_loadL rfl ty_agg3 tk ga)) ?_
            refine d_q 4 gO rfl rfl rfl rfl (yq (q_move rfl)) ?_
            refine d_q 5 gO rfl rfl rfl rfl (yq (q_nilCheck rfl)) ?_
            apply d_q 6 gO rfl rfl rfl rfl
            · apply yq
              first | exact q_fieldAddr0 21 rfl Tryd.underlying69 rfl rfl ty_size64 | exact q_fieldAddrK 21 rfl Tryd.underlying69 rfl rfl ty_size64
            apply d_q 7 gO rfl rfl rfl rfl
            · apply yq
              first | exact q_fieldAddr0 1 rfl Tryd.underlying64 rfl rfl ty_size3 | exact q_fieldAddrK 1 rfl Tryd.underlying64 rfl rfl ty_size3
            refine d_q 8 gO rfl rfl rfl rfl (yq (q_loadL rfl ty_agg3 tk ga)) ?_
            apply d_q 9 gO rfl rfl rfl rfl
            · apply yq
              apply q_bin rfl rfl (fun w => g_int w); first | exact fun w => b_quo_i w (by omega) | exact fun w => b_quo w (by omega)
            apply d_q 10 gO rfl rfl rfl rfl
            · apply yq
              apply q_bin rfl rfl (fun w => g_int w); first | exact fun w => b_mul_i w (by omega) | exact fun w => b_mul w
            apply d_q 11 gO rfl rfl rfl rfl
            · apply yq
              apply q_bin rfl rfl (fun w => g_int w); exact fun w => b_geq w
            apply d_eff1 [11, 0, 1, 2, 3, 4, 5, 6, 7, 8, 9, 10] [] 12 [(78, _)]
            · exact gO
            · exact ⟨rfl, trivial⟩
            · kernel_rfl
            · kernel_rfl
            intro Ex
            refine l_q rfl (q_assign rfl) ?_
            refine l_nil ?_
            apply n_d
            · exact trivial
            refine d_end (by kernel_rfl) ?_
            refine n_code ?_
            refine t_ret ?_
            refine r_blk ?_
            refine r_code ?_
            apply f_ret (.inl rfl) ([pt pb (.cells #[.pointer (some ⟨pa, 0, none⟩), .int .i64 l.key, .int .i64 l.elem, .int .i64 l.ka, .int .i64 l.ea, .int .i64 l.cap, .int .i64 l.eo, .int .i64 l.bo, .int .i64 l.slot, .int .i64 l.group, .pointer (some ⟨pa, 0, none⟩), .int .i64 l.key, .int .i64 l.elem, .int .i64 l.ka, .int .i64 l.ea, .int .i64 l.cap, .int .i64 l.eo, .int .i64 l.bo, .int .i64 l.slot, .int .i64 l.group, .int .i64 ((off : Nat) : Int), vf, .int .i64 sl, vh, vt, (.slice a0 lives.length cap), .int .i64 ((ad : Nat) : Int)] 69 (0, 0)), ownS 145 5 (.slice a0 lives.length cap) lives.length (rowOf Life.cells lives), G, arenaH pa s'])
            · apply res1 rfl
              · exact .tmp rfl
            · exact ⟨s', T', lives, _, ad, by congr 1; rw [decide_eq_true_iff]; omega, rfl, hP', hI, by omega, hS', hkeep⟩
            · exact en
          · exact absurd rfl q3
        · subst ho
          first | refine t_cond_d rfl (fun q3 => ?_) (fun q3 => ?_) | refine t_cond_n rfl (fun q3 => ?_) (fun q3 => ?_) | refine t_cond rfl (fun q3 => ?_) (fun q3 => ?_)
          · omega
          · refine t_seq ?_
            refine t_region ?_
            refine l_q rfl (q_move rfl) ?_
            apply l_q rfl
            · apply q_bin rfl rfl (fun w => g_int w); exact fun w => b_neq w
            refine l_q rfl (q_assign rfl) ?_
            refine l_nil ?_
            refine n_code ?_
            first | refine t_cond_d rfl (fun q4 => ?_) (fun q4 => ?_) | refine t_cond_n rfl (fun q4 => ?_) (fun q4 => ?_) | refine t_cond rfl (fun q4 => ?_) (fun q4 => ?_)
            · exact absurd rfl q4
            · refine t_skip ?_
              refine n_blk ?_
              refine n_code ?_
              refine t_seq ?_
              refine t_region ?_
              refine l_q rfl (q_move rfl) ?_
              refine l_q rfl (q_nilCheck rfl) ?_
              first | refine l_q rfl (q_fieldAddr0 10 rfl Tryd.underlying69 rfl rfl ty_size36) ?_ | refine l_q rfl (q_fieldAddrK 10 rfl Tryd.underlying69 rfl rfl ty_size36) ?_
              refine l_q rfl (q_loadAggL rfl ty_agg36 ty_size36 tk sb) ?_
              refine l_q rfl (q_move rfl) ?_
              refine l_q rfl (q_move rfl) ?_
              apply l_callf rfl rfl rfl (Find_ok G hG pa off go n e s' l T' hP' _ hhw key hks2)
              · exact pk
              rintro v L' ⟨rfl, rfl⟩
              refine l_nm ?_
              rw [hfind]
              refine l_q rfl (q_move rfl) ?_
              refine l_q rfl (q_extractL rfl ga) ?_
              refine l_q rfl (q_extractL rfl ga) ?_
              refine l_q rfl (q_assign rfl) ?_
              refine l_q rfl (q_assign rfl) ?_
              refine l_nil ?_
              refine n_code ?_
              refine t_seq ?_
              refine t_region ?_
              refine l_q rfl (q_move rfl) ?_
              refine l_q rfl (q_move rfl) ?_
              refine l_q rfl (q_nilCheck rfl) ?_
              first | refine l_q rfl (q_fieldAddr0 25 rfl Tryd.underlying69 rfl rfl ty_size67) ?_ | refine l_q rfl (q_fieldAddrK 25 rfl Tryd.underlying69 rfl rfl ty_size67) ?_
              refine l_q rfl (q_loadL rfl ty_agg67 tk ga) ?_
              refine l_q rfl (q_move rfl) ?_
              refine l_q rfl (q_move rfl) ?_
              refine l_q rfl (q_move rfl) ?_
              refine l_q rfl (q_move rfl) ?_
              refine l_q rfl (q_move rfl) ?_
              apply l_q rfl
              · apply q_buildS rfl ty_pl145 ty_zero145
                · apply FillR.one
                  · repeat (first | exact PlAt.here | apply PlAt.there)
                  · rfl
                  · exact sa
                  apply FillR.one
                  · repeat (first | exact PlAt.here | apply PlAt.there)
                  · rfl
                  · exact sa
                  apply FillR.one
                  · repeat (first | exact PlAt.here | apply PlAt.there)
                  · rfl
                  · exact sa
                  apply FillR.one
                  · repeat (first | exact PlAt.here | apply PlAt.there)
                  · rfl
                  · exact sa
                  apply FillR.one
                  · repeat (first | exact PlAt.here | apply PlAt.there)
                  · rfl
                  · exact sa
                  exact FillR.nil
              refine o_buildSlice (us := [_]) rfl rfl Tryd.underlying67 ty_size145 ty_zero145 rfl rfl rfl rfl rfl (fun b103 => ?_)
              apply o_append (sz := 5) rfl rfl rfl Tryd.underlying67 ty_info145 rfl rfl
              · exact tk
              · exact tk
              · rfl
              · rfl
              · simp only [maxLen]; omega
              · omega
              intro v104
              refine l_shape (v := v104) tk fun _ hs104 => ?_
              obtain ⟨a104, cap104, rfl, hs104, _, _⟩ := hs104
              refine l_q rfl (q_nilCheck rfl) ?_
              first | refine l_q rfl (q_fieldAddr0 25 rfl Tryd.underlying69 rfl rfl ty_size67) ?_ | refine l_q rfl (q_fieldAddrK 25 rfl Tryd.underlying69 rfl rfl ty_size67) ?_
              apply o_storeL rfl rfl rfl ty_size67 rfl
              · exact tk
              · exact sa
              refine l_nil ?_
              refine n_code ?_
              refine t_seq ?_
              refine t_region ?_
              refine l_q rfl (q_move rfl) ?_
              refine l_q rfl (q_nilCheck rfl) ?_
              first | refine l_q rfl (q_fieldAddr0 26 rfl Tryd.underlying69 rfl rfl ty_size3) ?_ | refine l_q rfl (q_fieldAddrK 26 rfl Tryd.underlying69 rfl rfl ty_size3) ?_
              refine l_q rfl (q_loadL rfl ty_agg3 tk ga) ?_
              apply l_q rfl
              · apply q_bin rfl rfl (fun w => g_int w); first | exact fun w => b_add_i w (by omega) | exact fun w => b_add w
              refine l_q rfl (q_nilCheck rfl) ?_
              first | refine l_q rfl (q_fieldAddr0 26 rfl Tryd.underlying69 rfl rfl ty_size3) ?_ | refine l_q rfl (q_fieldAddrK 26 rfl Tryd.underlying69 rfl rfl ty_size3) ?_
              apply o_storeL rfl rfl rfl ty_size3 rfl
              · exact tk
              · exact sa
              refine l_nil ?_
              refine n_code ?_
              refine t_seq ?_
              refine t_region ?_
              refine l_q rfl (q_move rfl) ?_
              apply l_callf rfl rfl rfl (num08_ok _)
              · exact pk
              rintro v L' ⟨rfl, rfl⟩
              refine l_nm ?_
              apply l_q rfl
              · apply q_bin rfl rfl (fun w => g_int w); exact fun w => b_eql w
              refine l_q rfl (q_move rfl) ?_
              first | refine l_part_d (t := 117) rfl (fun r1 => ?_) (fun r1 => ?_) | refine l_part_n (t := 117) rfl (fun r1 => ?_) (fun r1 => ?_) | refine l_part (t := 117) rfl (fun r1 => ?_) (fun r1 => ?_)
              · refine l_on rfl rfl ?_
                refine l_q rfl (q_move rfl) ?_
                refine l_on rfl rfl ?_
                apply l_q rfl
                · apply q_bin rfl rfl (fun w => g_int w); exact fun w => b_geq w
                first | refine l_q rfl (q_pick_t rfl rfl) ?_ | refine l_q rfl (q_pick_f rfl rfl) ?_
                refine l_q rfl (q_move rfl) ?_
                first | refine l_part_d (t := 121) rfl (fun r2 => ?_) (fun r2 => ?_) | refine l_part_n (t := 121) rfl (fun r2 => ?_) (fun r2 => ?_) | refine l_part (t := 121) rfl (fun r2 => ?_) (fun r2 => ?_)
                · refine l_on rfl rfl ?_
                  refine l_q rfl (q_move rfl) ?_
                  refine l_on rfl rfl ?_
                  refine l_q rfl (q_move rfl) ?_
                  refine l_on rfl rfl ?_
                  refine l_q rfl (q_nilCheck rfl) ?_
                  refine l_on rfl rfl ?_
                  first | refine l_q rfl (q_fieldAddr0 21 rfl Tryd.underlying69 rfl rfl ty_size64) ?_ | refine l_q rfl (q_fieldAddrK 21 rfl Tryd.underlying69 rfl rfl ty_size64) ?_
                  refine l_on rfl rfl ?_
                  first | refine l_q rfl (q_fieldAddr0 1 rfl Tryd.underlying64 rfl rfl ty_size3) ?_ | refine l_q rfl (q_fieldAddrK 1 rfl Tryd.underlying64 rfl rfl ty_size3) ?_
                  refine l_on rfl rfl ?_
                  refine l_q rfl (q_loadL rfl ty_agg3 tk ga) ?_
                  refine l_on rfl rfl ?_
                  apply l_q rfl
                  · apply q_bin rfl rfl (fun w => g_int w); exact fun w => b_lss w
                  first | refine l_q rfl (q_pick_t rfl rfl) ?_ | refine l_q rfl (q_pick_f rfl rfl) ?_
                  refine l_q rfl (q_assign rfl) ?_
                  refine l_nil ?_
                  refine n_code ?_
                  refine t_ret ?_
                  apply f_ret (.inl rfl) ([pt pb (.cells #[.pointer (some ⟨pa, 0, none⟩), .int .i64 l.key, .int .i64 l.elem, .int .i64 l.ka, .int .i64 l.ea, .int .i64 l.cap, .int .i64 l.eo, .int .i64 l.bo, .int .i64 l.slot, .int .i64 l.group, .pointer (some ⟨pa, 0, none⟩), .int .i64 l.key, .int .i64 l.elem, .int .i64 l.ka, .int .i64 l.ea, .int .i64 l.cap, .int .i64 l.eo, .int .i64 l.bo, .int .i64 l.slot, .int .i64 l.group, .int .i64 ((off : Nat) : Int), vf, .int .i64 sl, vh, vt, (.slice a104 (lives.length + 1) cap104), .int .i64 (((ad : Nat) : Int) + 1)] 69 (0, 0)), ownS 145 5 (.slice a104 (lives.length + 1) cap104) (lives.length + 1) (rowOf Life.cells lives ++ List.flatMap (fun x : Value => x.cells.toList) [.agg #[.string key, .string elem, .int .u64 (planH hs (kN l) key), .int .i64 ((ad : Nat) : Int), .int .i64 ((p : Nat) : Int)]]), G, arenaH pa s'])
                  · apply res1 rfl
                    · exact .tmp rfl
                  · exact ⟨s', T', lives ++ [⟨key, elem, planH hs (kN l) key, ad, p⟩], _, ad + 1, by congr 1; rw [decide_eq_true_iff]; omega, by rw [List.length_append, rowOf_app]; rfl, hP', hI', by omega, hS', hkeep⟩
                  · exact en
                · omega
              · exact absurd rfl r1
end
end Go.Proofs.YthdmlgnhmbobaaaDoor.Bench
