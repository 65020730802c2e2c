/- TableSwaps answers true. -/
import Derived.Test.YthdmlgnhmbobaaaGreatDoorBenchN
set_option linter.unusedVariables false
set_option linter.unusedSimpArgs false
set_option maxRecDepth 100000
namespace Go.Proofs.YthdmlgnhmbobaaaGreatDoor.Bench
open Go.RowKit Go.Proofs Go.Proofs.YthdmlgnhmbobaaaGreatDoor.Eng Go.Proofs.YthdmlgnhmbobaaaGreatDoor.Ty Go.Proofs.YthdmlgnhmbobaaaGreatDoor.Bits Go.Proofs.YthdmlgnhmbobaaaGreatDoor.Mem Go.Proofs.YthdmlgnhmbobaaaGreatDoor.Search Go.Proofs.YthdmlgnhmbobaaaGreatDoor.Arena Go.Proofs.YthdmlgnhmbobaaaGreatDoor.CtrlB Go.Proofs.YthdmlgnhmbobaaaGreatDoor.Ctrl Go.Proofs.YthdmlgnhmbobaaaGreatDoor.Layout Go.Proofs.YthdmlgnhmbobaaaGreatDoor.GroupB Go.Proofs.YthdmlgnhmbobaaaGreatDoor.Group Go.Proofs.YthdmlgnhmbobaaaGreatDoor.Probe Go.Proofs.YthdmlgnhmbobaaaGreatDoor.TableB Go.Proofs.YthdmlgnhmbobaaaGreatDoor.TableI Go.Proofs.YthdmlgnhmbobaaaGreatDoor.Table Go.Proofs.YthdmlgnhmbobaaaGreatDoor.Ref03


theorem TableSwaps_ok (G : HP) (hG : TabOk G) (vf vh vt : Value) (xs hs : List Int) (ts : List (Int × Int × Int)) (hA : IntsAt G vf xs) (hh : NumsAt .u64 G vh hs) (hT : TurnsAt G vt ts) (hwf : ∀ x ∈ hs, 0 ≤ x ∧ x < 18446744073709551616) (hmx : hs.length ≤ maxLen) (hmt : ts.length ≤ maxLen)
    (htw : ∀ t ∈ ts, turnWf t) (slots which : Int) (hs64 : -9223372036854775808 ≤ slots ∧ slots ≤ 9223372036854775807) (hw64 : -9223372036854775808 ≤ which ∧ which ≤ 9223372036854775807) :
    FnOk Tryz.prog 5 #[.agg #[vf, .int .i64 slots, vh, vt], .int .i64 which] [G] (fun v L => v = .bool true ∧ L = [G]) := by
  simp only [maxLen] at hmt
  obtain ⟨ta, tcap, rfl, hT0⟩ := hT
  refine fn_intro en5 Tryz.func5 rfl rfl rfl ?_
  intro Fr w0
  refine t_nm ?_
  refine t_seq ?_
  refine t_region ?_
  refine o_boxA rfl rfl (fun b2 => ?_)
  refine l_q rfl (q_assign rfl) ?_
  refine l_nil ?_
  refine n_code ?_
  refine t_seq ?_
  refine t_region ?_
  refine l_q rfl (q_loadAggL rfl ty_agg59 ty_size59 tk sb) ?_
  apply l_callf rfl rfl rfl (bench_ok G vf vh _ xs hs hA hh slots hs64)
  · exact pk
  rintro v L' (⟨rfl, rfl⟩ | ⟨pa, pb, off, go, n, e, s0, hle, hn, rfl, h0, rfl, rfl, hP0⟩)
  refine l_nm ?_
  · skip
    refine l_nm ?_
    refine l_q rfl (q_move rfl) ?_
    refine l_q rfl (q_extractL rfl ga) ?_
    refine l_q rfl (q_extractL rfl ga) ?_
    refine l_q rfl (q_extractL rfl ga) ?_
    refine l_q rfl (q_assign rfl) ?_
    refine l_q rfl (q_assign rfl) ?_
    refine l_q rfl (q_assign rfl) ?_
    refine l_nil ?_
    refine n_code ?_
    refine t_seq ?_
    refine t_seq ?_
    refine t_region ?_
    refine l_q rfl (q_move rfl) ?_
    refine l_q rfl (q_un rfl (fun w => u_not w)) ?_
    refine l_nil ?_
    refine n_code ?_
    first | refine t_cond_d rfl (fun p1 => ?_) (fun p1 => ?_) | refine t_cond_n rfl (fun p1 => ?_) (fun p1 => ?_) | refine t_cond rfl (fun p1 => ?_) (fun p1 => ?_)
    · refine t_seq ?_
      refine t_region ?_
      refine l_q rfl (q_assign rfl) ?_
      refine l_nil ?_
      refine n_code ?_
      refine t_ret ?_
      refine r_code ?_
      apply f_ret (.inl rfl) ([G])
      · apply res1 rfl
        · exact .tmp rfl
      · exact ⟨rfl, rfl⟩
      · exact en
    · cases p1
  · skip
    refine l_nm ?_
    refine l_q rfl (q_move rfl) ?_
    refine l_q rfl (q_extractL rfl ga) ?_
    refine l_q rfl (q_extractL rfl ga) ?_
    refine l_q rfl (q_extractL rfl ga) ?_
    refine l_q rfl (q_assign rfl) ?_
    refine l_q rfl (q_assign rfl) ?_
    refine l_q rfl (q_assign rfl) ?_
    refine l_nil ?_
    refine n_code ?_
    refine t_seq ?_
    refine t_seq ?_
    refine t_region ?_
    refine l_q rfl (q_move rfl) ?_
    refine l_q rfl (q_un rfl (fun w => u_not w)) ?_
    refine l_nil ?_
    refine n_code ?_
    first | refine t_cond_d rfl (fun p1 => ?_) (fun p1 => ?_) | refine t_cond_n rfl (fun p1 => ?_) (fun p1 => ?_) | refine t_cond rfl (fun p1 => ?_) (fun p1 => ?_)
    · cases p1
    · refine t_skip ?_
      refine n_code ?_
      refine t_seq ?_
      refine t_seq ?_
      refine t_region ?_
      refine l_q rfl (q_move rfl) ?_
      refine l_q rfl (q_un rfl (fun w => u_not w)) ?_
      refine l_nil ?_
      refine n_code ?_
      first | refine t_cond_d rfl (fun p2 => ?_) (fun p2 => ?_) | refine t_cond_n rfl (fun p2 => ?_) (fun p2 => ?_) | refine t_cond rfl (fun p2 => ?_) (fun p2 => ?_)
      · cases p2
      · refine t_skip ?_
        refine n_code ?_
        refine t_seq ?_
        refine t_seq ?_
        refine t_region ?_
        first | refine l_q rfl (q_fieldAddr0 3 rfl Tryz.underlying59 rfl rfl ty_size57) ?_ | refine l_q rfl (q_fieldAddrK 3 rfl Tryz.underlying59 rfl rfl ty_size57) ?_
        refine l_q rfl (q_loadL rfl ty_agg57 tk ga) ?_
        refine l_q rfl (q_len rfl (fun w => len_slice Tryz.underlying57 w)) ?_
        refine l_q rfl (q_move rfl) ?_
        refine l_nil ?_
        refine n_code ?_
        refine t_block ?_
        have hn0 := hP0.n0
        refine t_ent (show Ent _ (ownS 73 5 (.slice none 0 0) ([] : List Life).length (rowOf Life.cells []) :: _) from fun w h => own_nil h) ?_
        refine t_loop (fun x : Nat × ArS × Tb × List Life × Value × Nat => x.1 ≤ ts.length ∧ TabP x.2.1 off go (lay5 xs) n e x.2.2.1 ∧ BI n (planH hs (kN (lay5 xs))) (planK (kN (lay5 xs))) x.2.2.1 x.2.2.2.1 x.2.2.2.2.2 ∧ x.2.2.2.2.2 ≤ x.1) (fun x => [(1, .int .i64 which), (5, .pointer (some ⟨pb, 0, none⟩)), (35, .slice ta ts.length tcap), (36, .int .i64 (ts.length : Nat)), (37, .int .i64 (x.1 : Nat))]) (fun x => pt pb (.cells #[.pointer (some ⟨pa, 0, none⟩), .int .i64 (lay5 xs).key, .int .i64 (lay5 xs).elem, .int .i64 (lay5 xs).ka, .int .i64 (lay5 xs).ea, .int .i64 (lay5 xs).cap, .int .i64 (lay5 xs).eo, .int .i64 (lay5 xs).bo, .int .i64 (lay5 xs).slot, .int .i64 (lay5 xs).group, .pointer (some ⟨pa, 0, none⟩), .int .i64 (lay5 xs).key, .int .i64 (lay5 xs).elem, .int .i64 (lay5 xs).ka, .int .i64 (lay5 xs).ea, .int .i64 (lay5 xs).cap, .int .i64 (lay5 xs).eo, .int .i64 (lay5 xs).bo, .int .i64 (lay5 xs).slot, .int .i64 (lay5 xs).group, .int .i64 ((off : Nat) : Int), vf, .int .i64 (8 * (n : Int)), vh, (.slice ta ts.length tcap), x.2.2.2.2.1, .int .i64 ((x.2.2.2.2.2 : Nat) : Int)] 71 (0, 0)) :: ownS 73 5 x.2.2.2.2.1 x.2.2.2.1.length (rowOf Life.cells x.2.2.2.1) :: G :: arenaH pa x.2.1 :: Fr) (fun x => ts.length - x.1) (0, s0, newT n 0, [], .slice none 0 0, 0) ⟨Nat.zero_le _, hP0, bi_start hn0.1 _ _, Nat.le_refl _⟩ ⟨rfl, rfl, rfl, rfl, rfl, trivial⟩ (by (exact en)) ?_
        rintro ⟨i, s, T, lives, lv, ad⟩ ⟨hi, hP, hI, had⟩
        dsimp only at hi hP hI had ⊢
        refine t_shape (e := 73) (sz := 5) (v := lv) (n := lives.length) (xs := rowOf Life.cells lives) tk fun _ hsh => ?_
        obtain ⟨a0, cap, rfl, hsh, _, _⟩ := hsh
        have hlen := hI.len
        refine t_seq ?_
        refine t_region ?_
        apply l_q rfl
        · apply q_bin rfl rfl (fun w => g_int w); exact fun w => b_lss w
        refine l_nil ?_
        refine n_code ?_
        refine t_seq ?_
        first | refine t_cond_d rfl (fun g1 => ?_) (fun g1 => ?_) | refine t_cond_n rfl (fun g1 => ?_) (fun g1 => ?_) | refine t_cond rfl (fun g1 => ?_) (fun g1 => ?_)
        · skip
          obtain ⟨tb, to, rfl, hT1⟩ := hT0 (by omega)
          obtain ⟨t, ht⟩ : ∃ t, ts[i]? = some t := ⟨ts[i], List.getElem?_eq_getElem (by omega)⟩
          have hcell := cell_turn hT1 ht
          have hw := htw t (List.mem_of_getElem? ht)
          refine t_skip ?_
          refine n_code ?_
          refine t_seq ?_
          refine t_block ?_
          refine t_seq ?_
          refine t_region ?_
          refine l_q rfl (q_indexAddr rfl rfl Tryz.underlying57 ty_size63 (by omega)) ?_
          apply l_q rfl
          · apply q_loadRA (A := G) (us := [.int .i64 t.1, .int .i64 t.2.1, .int .i64 t.2.2]) rfl ty_agg63 ty_size63 rfl
            · exact tk
            · exact hcell
          refine o_allocA rfl ty_zero63 (fun b9 => ?_)
          apply o_storeAggL rfl rfl rfl ty_size63 rfl rfl (by simp)
          · exact tk
          · exact sal
          refine l_nil ?_
          refine n_code ?_
          refine t_seq ?_
          refine t_region ?_
          refine l_q rfl (q_move rfl) ?_
          refine l_q rfl (q_loadAggL rfl ty_agg63 ty_size63 tk sb) ?_
          apply l_callf rfl rfl rfl (turn_ok pb pa off n e (lay5 xs) vf (.slice (some ⟨tb, to, none⟩) ts.length tcap) (.slice a0 lives.length cap) (8 * (n : Int)) hs lives G hG go s T ad vh hh h0 hmx hwf hle hP hI rfl (by omega) (by omega) t.1 t.2.1 t.2.2 hw)
          · exact pk
          rintro v L' ⟨s', T', lives', lv', ad', rfl, rfl, hW⟩
          refine l_nm ?_
          refine l_q rfl (q_un rfl (fun w => u_not w)) ?_
          refine l_nil ?_
          refine n_code ?_
          first | refine t_cond_d rfl (fun g2 => ?_) (fun g2 => ?_) | refine t_cond_n rfl (fun g2 => ?_) (fun g2 => ?_) | refine t_cond rfl (fun g2 => ?_) (fun g2 => ?_)
          · cases g2
          · refine t_skip ?_
            refine n_blk ?_
            refine n_code ?_
            refine t_region ?_
            apply l_q rfl
            · apply q_bin rfl rfl (fun w => g_int w); first | exact fun w => b_add_i w (by omega) | exact fun w => b_add w
            refine l_q rfl (q_move rfl) ?_
            refine l_nil ?_
            apply n_again ((i + 1, s', T', lives', lv', ad'))
            · exact ⟨by dsimp only; omega, hW.tab, hW.bi, by have := hW.ad; dsimp only; omega⟩
            · dsimp only; omega
            · exact ⟨rfl, rfl, rfl, rfl, rfl, trivial⟩
            · exact en
        · refine t_exit ?_
          refine x_code ?_
          refine x_lp ?_
          refine x_hit ?_
          refine n_code ?_
          refine t_seq ?_
          refine t_seq ?_
          refine t_region ?_
          refine l_q rfl (q_move rfl) ?_
          refine l_q rfl (q_nilCheck rfl) ?_
          first | refine l_q rfl (q_fieldAddr0 25 rfl Tryz.underlying71 rfl rfl ty_size69) ?_ | refine l_q rfl (q_fieldAddrK 25 rfl Tryz.underlying71 rfl rfl ty_size69) ?_
          refine l_q rfl (q_loadL rfl ty_agg69 tk ga) ?_
          refine l_q rfl (q_len rfl (fun w => len_slice Tryz.underlying69 w)) ?_
          apply l_q rfl
          · apply q_bin rfl rfl (fun w => g_int w); exact fun w => b_eql w
          refine l_q rfl (q_move rfl) ?_
          first | refine l_part_d (t := 52) rfl (fun p3 => ?_) (fun p3 => ?_) | refine l_part_n (t := 52) rfl (fun p3 => ?_) (fun p3 => ?_) | refine l_part (t := 52) rfl (fun p3 => ?_) (fun p3 => ?_)
          · refine l_off rfl rfl rfl rfl ?_
            refine l_off rfl rfl rfl rfl ?_
            first | refine l_q rfl (q_pick_t rfl rfl) ?_ | refine l_q rfl (q_pick_f rfl rfl) ?_
            refine l_q rfl (q_move rfl) ?_
            refine l_off rfl rfl rfl rfl ?_
            refine l_off rfl rfl rfl rfl ?_
            refine l_off rfl rfl rfl rfl ?_
            refine l_off rfl rfl rfl rfl ?_
            refine l_off rfl rfl rfl rfl ?_
            refine l_off rfl rfl rfl rfl ?_
            first | refine l_q rfl (q_pick_t rfl rfl) ?_ | refine l_q rfl (q_pick_f rfl rfl) ?_
            refine l_nil ?_
            refine n_code ?_
            refine t_cond_t rfl ?_
            refine t_seq ?_
            refine t_region ?_
            refine l_q rfl (q_assign rfl) ?_
            refine l_nil ?_
            refine n_code ?_
            refine t_ret ?_
            refine r_code ?_
            apply f_ret (.inl rfl) ([G])
            · apply res1 rfl
              · exact .tmp rfl
            · exact ⟨rfl, rfl⟩
            · exact en
          · refine l_on rfl rfl ?_
            refine l_q rfl (q_move rfl) ?_
            refine l_on rfl rfl ?_
            apply l_q rfl
            · apply q_bin rfl rfl (fun w => g_int w); exact fun w => b_lss w
            first | refine l_q rfl (q_pick_t rfl rfl) ?_ | refine l_q rfl (q_pick_f rfl rfl) ?_
            refine l_q rfl (q_move rfl) ?_
            first | refine l_part_d (t := 56) rfl (fun p4 => ?_) (fun p4 => ?_) | refine l_part_n (t := 56) rfl (fun p4 => ?_) (fun p4 => ?_) | refine l_part (t := 56) rfl (fun p4 => ?_) (fun p4 => ?_)
            · refine l_off rfl rfl rfl rfl ?_
              refine l_off rfl rfl rfl rfl ?_
              refine l_off rfl rfl rfl rfl ?_
              refine l_off rfl rfl rfl rfl ?_
              refine l_off rfl rfl rfl rfl ?_
              refine l_off rfl rfl rfl rfl ?_
              first | refine l_q rfl (q_pick_t rfl rfl) ?_ | refine l_q rfl (q_pick_f rfl rfl) ?_
              refine l_nil ?_
              refine n_code ?_
              refine t_cond_t rfl ?_
              refine t_seq ?_
              refine t_region ?_
              refine l_q rfl (q_assign rfl) ?_
              refine l_nil ?_
              refine n_code ?_
              refine t_ret ?_
              refine r_code ?_
              apply f_ret (.inl rfl) ([G])
              · apply res1 rfl
                · exact .tmp rfl
              · exact ⟨rfl, rfl⟩
              · exact en
            · refine l_on rfl rfl ?_
              refine l_q rfl (q_move rfl) ?_
              refine l_on rfl rfl ?_
              refine l_q rfl (q_nilCheck rfl) ?_
              refine l_on rfl rfl ?_
              first | refine l_q rfl (q_fieldAddr0 1 rfl Tryz.underlying71 rfl rfl ty_size36) ?_ | refine l_q rfl (q_fieldAddrK 1 rfl Tryz.underlying71 rfl rfl ty_size36) ?_
              refine l_on rfl rfl ?_
              first | refine l_q rfl (q_fieldAddr0 0 rfl Tryz.underlying36 rfl rfl ty_size3) ?_ | refine l_q rfl (q_fieldAddrK 0 rfl Tryz.underlying36 rfl rfl ty_size3) ?_
              refine l_on rfl rfl ?_
              refine l_q rfl (q_loadL rfl ty_agg3 tk ga) ?_
              refine l_on rfl rfl ?_
              apply l_q rfl
              · apply q_bin rfl rfl (fun w => g_int w); exact fun w => b_lss w
              first | refine l_q rfl (q_pick_t rfl rfl) ?_ | refine l_q rfl (q_pick_f rfl rfl) ?_
              refine l_nil ?_
              refine n_code ?_
              first | refine t_cond_d rfl (fun p5 => ?_) (fun p5 => ?_) | refine t_cond_n rfl (fun p5 => ?_) (fun p5 => ?_) | refine t_cond rfl (fun p5 => ?_) (fun p5 => ?_)
              · refine t_seq ?_
                refine t_region ?_
                refine l_q rfl (q_assign rfl) ?_
                refine l_nil ?_
                refine n_code ?_
                refine t_ret ?_
                refine r_code ?_
                apply f_ret (.inl rfl) ([G])
                · apply res1 rfl
                  · exact .tmp rfl
                · exact ⟨rfl, rfl⟩
                · exact en
              · skip
                obtain ⟨wN, rfl⟩ := Int.eq_ofNat_of_zero_le (show 0 ≤ which by omega)
                have hl0 : 0 < lives.length := by omega
                obtain ⟨ix, hix⟩ : ∃ ix, ix = wN % lives.length := ⟨_, rfl⟩
                have hixl : ix < lives.length := by rw [hix]; exact Nat.mod_lt _ hl0
                have hidx : (Value.int .i64 (((wN : Nat) : Int).tmod ((lives.length : Nat) : Int))) = .int .i64 ((ix : Nat) : Int) := by rw [hix]; rfl
                obtain ⟨g, rfl⟩ := hsh hl0
                obtain ⟨u, hu⟩ : ∃ u, lives[ix]? = some u := ⟨lives[ix], List.getElem?_eq_getElem hixl⟩
                have hcell : ∀ j x, [Value.string u.key, .string u.elem, .int .u64 u.hash, .int .i64 u.birth, .int .i64 (u.slot : Nat)][j]? = some x → CellAt (ownS 73 5 (.slice (some ⟨g, 0, none⟩) lives.length cap) lives.length (rowOf Life.cells lives)) ((⟨g, 0 + (ix : Int).toNat * 5, none⟩ : Addr).add j) x := fun j x hx => by
                  have hj : j < 5 := by rcases Nat.lt_or_ge j 5 with q | q; exact q; rw [List.getElem?_eq_none (by simpa using q)] at hx; cases hx
                  rw [add_none, Nat.zero_add, Int.toNat_natCast]
                  exact own_cell (by rw [rowOf_get life5 lives ix j u hu hj]; exact hx)
                have hN := layN hle
                have hks := hN.k
                have hes := hN.e
                have hk1 := hN.k1
                have he1 := hN.e1
                obtain ⟨k, hk, huk⟩ := hI.isK u (List.mem_of_getElem? hu)
                have hks2 : u.key.size = kN (lay5 xs) := by rw [huk]; exact textS_size _ _
                obtain ⟨_, _, h3, _⟩ := hI.found hu
                have hhw : 0 ≤ u.hash ∧ u.hash < 18446744073709551616 := by rw [h3]; exact planH_wf h0 hwf _ _
                obtain ⟨key, hkey⟩ : ∃ key, textS 5000 (kN (lay5 xs)) = key := ⟨_, rfl⟩
                obtain ⟨elem, helem⟩ : ∃ elem, textS 1 (eN (lay5 xs)) = elem := ⟨_, rfl⟩
                have hkz : key.size = kN (lay5 xs) := by rw [← hkey]; exact textS_size _ _
                have hez : elem.size = eN (lay5 xs) := by rw [← helem]; exact textS_size _ _
                have hno : ∀ u' ∈ lives, u'.key ≠ key := fun u' hu' q => by
                  obtain ⟨k', hk', e'⟩ := hI.isK u' hu'
                  rw [e', ← hkey] at q
                  have := text_inj (a := k') (b := 5000) (by omega) (by omega) (by omega) q
                  omega
                have hD := delR (n := n) (T := T) (h := u.hash) (key := u.key) hI.n0
                obtain ⟨b, T1, hd⟩ : ∃ b T1, delT n T u.hash u.key = (b, T1) := ⟨_, _, rfl⟩
                rw [hd] at hD
                have hR := putR (T := T1) (h := u.hash) (key := key) hI.n0 (fun g hg => gk_onto hP.hn hg) elem 7
                obtain ⟨out, T2, hr⟩ : ∃ out T2, putT n T1 u.hash key elem 7 = (out, T2) := ⟨_, _, rfl⟩
                rw [hr] at hR
                obtain ⟨rfl, rfl, hpr, hus, hlf⟩ := hI.swap hP.hn hu hno hD hR
                have hc1 := TCnt.del hI.cnt hD
                have hu1 := hI.used
                have hr1 := hI.cnt.room
                have hl1 := hI.cnt.left
                have hu2 := hc1.used
                have hr2 := hc1.room
                have hl2 := hc1.left
                have hf2 := cnt_le isFull T1.cells (8 * n)
                refine t_skip ?_
                refine n_code ?_
                refine t_seq ?_
                refine t_draw mixed ?_
                refine d_q 0 gO rfl rfl rfl rfl (yq (q_move rfl)) ?_
                refine d_q 1 gO rfl rfl rfl rfl (yq (q_nilCheck rfl)) ?_
                apply d_q 2 gO rfl rfl rfl rfl
                · apply yq
                  first | exact q_fieldAddr0 25 rfl Tryz.underlying71 rfl rfl ty_size69 | exact q_fieldAddrK 25 rfl Tryz.underlying71 rfl rfl ty_size69
                refine d_q 3 gO rfl rfl rfl rfl (yq (q_loadL rfl ty_agg69 tk ga)) ?_
                refine d_q 4 gO rfl rfl rfl rfl (yq (q_move rfl)) ?_
                refine d_q 5 gO rfl rfl rfl rfl (yq (q_move rfl)) ?_
                refine d_q 6 gO rfl rfl rfl rfl (yq (q_nilCheck rfl)) ?_
                apply d_q 7 gO rfl rfl rfl rfl
                · apply yq
                  first | exact q_fieldAddr0 25 rfl Tryz.underlying71 rfl rfl ty_size69 | exact q_fieldAddrK 25 rfl Tryz.underlying71 rfl rfl ty_size69
                refine d_q 8 gO rfl rfl rfl rfl (yq (q_loadL rfl ty_agg69 tk ga)) ?_
                refine d_q 9 gO rfl rfl rfl rfl (yq (q_len rfl (fun w => len_slice Tryz.underlying69 w))) ?_
                refine d_q 10 gO rfl rfl rfl rfl (yq (QV.to (q_bin rfl rfl (fun w => g_int w) (fun w => b_rem_i w (by omega))) hidx)) ?_
                refine d_q 11 gO rfl rfl rfl rfl (yq (q_indexAddr rfl rfl Tryz.underlying69 ty_size73 (by omega))) ?_
                apply d_q 12 gO rfl rfl rfl rfl
                · apply yq
                  apply q_loadRA (A := ownS 73 5 (.slice (some ⟨g, 0, none⟩) lives.length cap) lives.length (rowOf Life.cells lives)) (us := [.string u.key, .string u.elem, .int .u64 u.hash, .int .i64 u.birth, .int .i64 (u.slot : Nat)]) rfl ty_agg73 ty_size73 rfl
                  · exact tk
                  · exact hcell
                apply d_eff1 [] [12, 11, 10, 9, 8, 7, 6, 5, 4, 3, 2, 1, 0] 13 []
                · exact gO
                · exact trivial
                · kernel_rfl
                · kernel_rfl
                intro Ex
                refine o_allocA rfl ty_zero73 (fun b10 => ?_)
                refine l_nil ?_
                apply n_d
                · refine ⟨?_, ?_, ?_, ?_, ?_, ?_, ?_, ?_, ?_, ?_, ?_, ?_, ?_, trivial⟩
                  · refine yat gO rfl rfl rfl ?_
                    apply yq
                    apply q_loadRA (A := ownS 73 5 (.slice (some ⟨g, 0, none⟩) lives.length cap) lives.length (rowOf Life.cells lives)) (us := [.string u.key, .string u.elem, .int .u64 u.hash, .int .i64 u.birth, .int .i64 (u.slot : Nat)]) rfl ty_agg73 ty_size73 rfl
                    · exact tk
                    · exact hcell
                  · exact yat gO rfl rfl rfl (yq (q_indexAddr rfl rfl Tryz.underlying69 ty_size73 (by omega)))
                  · exact yat gO rfl rfl rfl (yq (QV.to (q_bin rfl rfl (fun w => g_int w) (fun w => b_rem_i w (by omega))) hidx))
                  · exact yat gO rfl rfl rfl (yq (q_len rfl (fun w => len_slice Tryz.underlying69 w)))
                  · exact yat gO rfl rfl rfl (yq (q_loadL rfl ty_agg69 tk ga))
                  · refine yat gO rfl rfl rfl ?_
                    apply yq
                    first | exact q_fieldAddr0 25 rfl Tryz.underlying71 rfl rfl ty_size69 | exact q_fieldAddrK 25 rfl Tryz.underlying71 rfl rfl ty_size69
                  · exact yat gO rfl rfl rfl (yq (q_nilCheck rfl))
                  · exact yat gO rfl rfl rfl (yq (q_move rfl))
                  · exact yat gO rfl rfl rfl (yq (q_move rfl))
                  · exact yat gO rfl rfl rfl (yq (q_loadL rfl ty_agg69 tk ga))
                  · refine yat gO rfl rfl rfl ?_
                    apply yq
                    first | exact q_fieldAddr0 25 rfl Tryz.underlying71 rfl rfl ty_size69 | exact q_fieldAddrK 25 rfl Tryz.underlying71 rfl rfl ty_size69
                  · exact yat gO rfl rfl rfl (yq (q_nilCheck rfl))
                  · exact yat gO rfl rfl rfl (yq (q_move rfl))
                apply d_eff1 [12, 0, 1, 2, 3, 4, 5, 6, 7, 8, 9, 10, 11] [] 14 [(10, _), (76, _)]
                · exact gO
                · exact ⟨rfl, rfl, trivial⟩
                · kernel_rfl
                · kernel_rfl
                intro Ex
                apply o_storeAggL rfl rfl rfl ty_size73 rfl rfl (by simp)
                · exact tk
                · exact sal
                refine l_nil ?_
                apply n_d
                · exact trivial
                refine d_end (by kernel_rfl) ?_
                refine n_code ?_
                refine t_seq ?_
                refine t_region ?_
                refine l_q rfl (q_move rfl) ?_
                refine l_q rfl (q_nilCheck rfl) ?_
                first | refine l_q rfl (q_fieldAddr0 10 rfl Tryz.underlying71 rfl rfl ty_size68) ?_ | refine l_q rfl (q_fieldAddrK 10 rfl Tryz.underlying71 rfl rfl ty_size68) ?_
                refine l_q rfl (q_loadAggL rfl ty_agg68 ty_size68 tk sb) ?_
                apply l_callf rfl rfl rfl (StatP_ok pa off go n e s (lay5 xs) T hP)
                · exact pk
                rintro v L' ⟨rfl, rfl⟩
                refine l_nm ?_
                refine l_q rfl (q_move rfl) ?_
                refine l_q rfl (q_extractL rfl ga) ?_
                refine l_q rfl (q_extractL rfl ga) ?_
                refine o_allocA rfl ty_zero75 (fun b11 => ?_)
                apply o_storeAggL rfl rfl rfl ty_size75 rfl rfl (by simp)
                · exact tk
                · exact sal
                refine l_q rfl (q_assign rfl) ?_
                refine l_nil ?_
                refine n_code ?_
                refine t_seq ?_
                refine t_draw mixed ?_
                refine d_q 0 gO rfl rfl rfl rfl (yq (q_move rfl)) ?_
                refine d_q 1 gO rfl rfl rfl rfl (yq (q_nilCheck rfl)) ?_
                apply d_q 2 gO rfl rfl rfl rfl
                · apply yq
                  first | exact q_fieldAddr0 10 rfl Tryz.underlying71 rfl rfl ty_size68 | exact q_fieldAddrK 10 rfl Tryz.underlying71 rfl rfl ty_size68
                refine d_q 3 gO rfl rfl rfl rfl (yq (q_loadAggL rfl ty_agg68 ty_size68 tk sb)) ?_
                apply d_q 4 gO rfl rfl rfl rfl
                · apply yq
                  first | exact q_fieldAddr0 2 rfl Tryz.underlying73 rfl rfl ty_size24 | exact q_fieldAddrK 2 rfl Tryz.underlying73 rfl rfl ty_size24
                refine d_q 5 gO rfl rfl rfl rfl (yq (q_loadL rfl ty_agg24 tk ga)) ?_
                apply d_q 6 gO rfl rfl rfl rfl
                · apply yq
                  first | exact q_fieldAddr0 0 rfl Tryz.underlying73 rfl rfl ty_size9 | exact q_fieldAddrK 0 rfl Tryz.underlying73 rfl rfl ty_size9
                refine d_q 7 gO rfl rfl rfl rfl (yq (q_loadL rfl ty_agg9 tk ga)) ?_
                apply d_eff1 [3, 5, 7, 2, 4, 6, 1, 0] [] 8 [(89, _), (91, _), (93, _)]
                · exact gO
                · exact ⟨rfl, rfl, rfl, trivial⟩
                · kernel_rfl
                · kernel_rfl
                intro Ex
                apply l_callf rfl rfl rfl (Probes_ok G hG pa off go n e s (lay5 xs) T hP u.hash hhw u.key hks2)
                · exact pk
                rintro v L' ⟨rfl, rfl⟩
                refine l_nm ?_
                refine l_nil ?_
                apply n_d
                · exact trivial
                refine d_q 9 gO rfl rfl rfl rfl (yq (q_move rfl)) ?_
                refine d_q 10 gO rfl rfl rfl rfl (yq (q_extractL rfl ga)) ?_
                refine d_q 11 gO rfl rfl rfl rfl (yq (q_extractL rfl ga)) ?_
                apply d_eff1 [10, 9] [11] 12 [(95, _)]
                · exact gO
                · exact ⟨rfl, trivial⟩
                · kernel_rfl
                · kernel_rfl
                intro Ex
                refine l_q rfl (q_assign rfl) ?_
                refine l_nil ?_
                apply n_d
                · refine ⟨?_, trivial⟩
                  · exact yat gO rfl rfl rfl (yq (q_extractL rfl ga))
                apply d_eff1 [11] [] 13 [(96, _)]
                · exact gO
                · exact ⟨rfl, trivial⟩
                · kernel_rfl
                · kernel_rfl
                intro Ex
                refine l_q rfl (q_assign rfl) ?_
                refine l_nil ?_
                apply n_d
                · exact trivial
                refine d_end (by kernel_rfl) ?_
                refine n_code ?_
                refine t_seq ?_
                refine t_draw mixed ?_
                refine d_q 0 gO rfl rfl rfl rfl (yq (q_move rfl)) ?_
                refine d_q 1 gO rfl rfl rfl rfl (yq (q_nilCheck rfl)) ?_
                apply d_q 2 gO rfl rfl rfl rfl
                · apply yq
                  first | exact q_fieldAddr0 10 rfl Tryz.underlying71 rfl rfl ty_size68 | exact q_fieldAddrK 10 rfl Tryz.underlying71 rfl rfl ty_size68
                refine d_q 3 gO rfl rfl rfl rfl (yq (q_loadAggL rfl ty_agg68 ty_size68 tk sb)) ?_
                apply d_q 4 gO rfl rfl rfl rfl
                · apply yq
                  first | exact q_fieldAddr0 2 rfl Tryz.underlying73 rfl rfl ty_size24 | exact q_fieldAddrK 2 rfl Tryz.underlying73 rfl rfl ty_size24
                refine d_q 5 gO rfl rfl rfl rfl (yq (q_loadL rfl ty_agg24 tk ga)) ?_
                apply d_q 6 gO rfl rfl rfl rfl
                · apply yq
                  first | exact q_fieldAddr0 0 rfl Tryz.underlying73 rfl rfl ty_size9 | exact q_fieldAddrK 0 rfl Tryz.underlying73 rfl rfl ty_size9
                refine d_q 7 gO rfl rfl rfl rfl (yq (q_loadL rfl ty_agg9 tk ga)) ?_
                apply d_eff1 [3, 5, 7, 2, 4, 6, 1, 0] [] 8 [(101, _), (103, _), (105, _)]
                · exact gO
                · exact ⟨rfl, rfl, rfl, trivial⟩
                · kernel_rfl
                · kernel_rfl
                intro Ex
                apply l_callf rfl rfl rfl (Delete_ok G hG pa off go n e s (lay5 xs) T hP u.hash hhw u.key hks2 (by omega) (by omega))
                · exact pk
                rintro v L' ⟨s1, rfl, rfl, hP1, _⟩
                refine l_nm ?_
                rw [hd] at hP1 ⊢
                refine l_nil ?_
                apply n_d
                · exact trivial
                refine d_q 9 gO rfl rfl rfl rfl (yq (q_move rfl)) ?_
                refine d_q 10 gO rfl rfl rfl rfl (yq (q_extractL rfl ga)) ?_
                refine d_q 11 gO rfl rfl rfl rfl (yq (q_extractL rfl ga)) ?_
                apply d_eff1 [10, 9] [11] 12 [(107, _)]
                · exact gO
                · exact ⟨rfl, trivial⟩
                · kernel_rfl
                · kernel_rfl
                intro Ex
                refine l_q rfl (q_assign rfl) ?_
                refine l_nil ?_
                apply n_d
                · refine ⟨?_, trivial⟩
                  · exact yat gO rfl rfl rfl (yq (q_extractL rfl ga))
                apply d_eff1 [11] [] 13 [(108, _)]
                · exact gO
                · exact ⟨rfl, trivial⟩
                · kernel_rfl
                · kernel_rfl
                intro Ex
                refine l_q rfl (q_assign rfl) ?_
                refine l_nil ?_
                apply n_d
                · exact trivial
                refine d_end (by kernel_rfl) ?_
                refine n_code ?_
                refine t_seq ?_
                refine t_seq ?_
                refine t_region ?_
                refine l_q rfl (q_move rfl) ?_
                apply l_callf rfl rfl rfl (num08_ok _)
                · exact pk
                rintro v L' ⟨rfl, rfl⟩
                refine l_nm ?_
                apply l_q rfl
                · apply q_bin rfl rfl (fun w => g_int w); exact fun w => b_neq w
                refine l_q rfl (q_move rfl) ?_
                first | refine l_part_d (t := 112) rfl (fun r1 => ?_) (fun r1 => ?_) | refine l_part_n (t := 112) rfl (fun r1 => ?_) (fun r1 => ?_) | refine l_part (t := 112) rfl (fun r1 => ?_) (fun r1 => ?_)
                · exact absurd rfl r1
                · refine l_on rfl rfl ?_
                  refine l_q rfl (q_move rfl) ?_
                  refine l_on rfl rfl ?_
                  apply l_callf rfl rfl rfl (num08_ok _)
                  · exact pk
                  rintro v L' ⟨rfl, rfl⟩
                  refine l_nm ?_
                  refine l_on rfl rfl ?_
                  apply l_q rfl
                  · apply q_bin rfl rfl (fun w => g_int w); exact fun w => b_neq w
                  first | refine l_q rfl (q_pick_t rfl rfl) ?_ | refine l_q rfl (q_pick_f rfl rfl) ?_
                  refine l_q rfl (q_move rfl) ?_
                  first | refine l_part_d (t := 117) rfl (fun r2 => ?_) (fun r2 => ?_) | refine l_part_n (t := 117) rfl (fun r2 => ?_) (fun r2 => ?_) | refine l_part (t := 117) rfl (fun r2 => ?_) (fun r2 => ?_)
                  · exact absurd rfl r2
                  · refine l_on rfl rfl ?_
                    refine l_q rfl (q_move rfl) ?_
                    refine l_on rfl rfl ?_
                    apply l_callf rfl rfl rfl (num08_ok _)
                    · exact pk
                    rintro v L' ⟨rfl, rfl⟩
                    refine l_nm ?_
                    refine l_on rfl rfl ?_
                    apply l_q rfl
                    · apply q_bin rfl rfl (fun w => g_int w); exact fun w => b_neq w
                    first | refine l_q rfl (q_pick_t rfl rfl) ?_ | refine l_q rfl (q_pick_f rfl rfl) ?_
                    refine l_q rfl (q_move rfl) ?_
                    first | refine l_part_d (t := 122) rfl (fun r3 => ?_) (fun r3 => ?_) | refine l_part_n (t := 122) rfl (fun r3 => ?_) (fun r3 => ?_) | refine l_part (t := 122) rfl (fun r3 => ?_) (fun r3 => ?_)
                    · exact absurd rfl r3
                    · refine l_on rfl rfl ?_
                      refine l_q rfl (q_move rfl) ?_
                      refine l_on rfl rfl ?_
                      refine l_q rfl (q_un rfl (fun w => u_not w)) ?_
                      first | refine l_q rfl (q_pick_t rfl rfl) ?_ | refine l_q rfl (q_pick_f rfl rfl) ?_
                      refine l_nil ?_
                      refine n_code ?_
                      first | refine t_cond_d rfl (fun r4 => ?_) (fun r4 => ?_) | refine t_cond_n rfl (fun r4 => ?_) (fun r4 => ?_) | refine t_cond rfl (fun r4 => ?_) (fun r4 => ?_)
                      · cases r4
                      · refine t_skip ?_
                        refine n_code ?_
                        refine t_seq ?_
                        refine t_region ?_
                        refine l_q rfl (q_move rfl) ?_
                        refine l_q rfl (q_nilCheck rfl) ?_
                        first | refine l_q rfl (q_fieldAddr0 1 rfl Tryz.underlying71 rfl rfl ty_size36) ?_ | refine l_q rfl (q_fieldAddrK 1 rfl Tryz.underlying71 rfl rfl ty_size36) ?_
                        first | refine l_q rfl (q_fieldAddr0 0 rfl Tryz.underlying36 rfl rfl ty_size3) ?_ | refine l_q rfl (q_fieldAddrK 0 rfl Tryz.underlying36 rfl rfl ty_size3) ?_
                        refine l_q rfl (q_loadL rfl ty_agg3 tk ga) ?_
                        apply l_callf rfl rfl rfl (text08_okI _ _ (kN (lay5 xs)) hks.symm (by omega))
                        · exact pk
                        rintro v L' ⟨rfl, rfl⟩
                        refine l_nm ?_
                        rw [hkey]
                        refine l_q rfl (q_assign rfl) ?_
                        refine l_nil ?_
                        refine n_code ?_
                        refine t_seq ?_
                        refine t_draw mixed ?_
                        refine d_q 0 gO rfl rfl rfl rfl (yq (q_move rfl)) ?_
                        refine d_q 1 gO rfl rfl rfl rfl (yq (q_nilCheck rfl)) ?_
                        apply d_q 2 gO rfl rfl rfl rfl
                        · apply yq
                          first | exact q_fieldAddr0 10 rfl Tryz.underlying71 rfl rfl ty_size68 | exact q_fieldAddrK 10 rfl Tryz.underlying71 rfl rfl ty_size68
                        refine d_q 3 gO rfl rfl rfl rfl (yq (q_loadAggL rfl ty_agg68 ty_size68 tk sb)) ?_
                        apply d_q 4 gO rfl rfl rfl rfl
                        · apply yq
                          first | exact q_fieldAddr0 2 rfl Tryz.underlying73 rfl rfl ty_size24 | exact q_fieldAddrK 2 rfl Tryz.underlying73 rfl rfl ty_size24
                        refine d_q 5 gO rfl rfl rfl rfl (yq (q_loadL rfl ty_agg24 tk ga)) ?_
                        refine d_q 6 gO rfl rfl rfl rfl (yq (q_move rfl)) ?_
                        refine d_q 7 gO rfl rfl rfl rfl (yq (q_move rfl)) ?_
                        refine d_q 8 gO rfl rfl rfl rfl (yq (q_nilCheck rfl)) ?_
                        apply d_q 9 gO rfl rfl rfl rfl
                        · apply yq
                          first | exact q_fieldAddr0 1 rfl Tryz.underlying71 rfl rfl ty_size36 | exact q_fieldAddrK 1 rfl Tryz.underlying71 rfl rfl ty_size36
                        apply d_q 10 gO rfl rfl rfl rfl
                        · apply yq
                          first | exact q_fieldAddr0 1 rfl Tryz.underlying36 rfl rfl ty_size3 | exact q_fieldAddrK 1 rfl Tryz.underlying36 rfl rfl ty_size3
                        refine d_q 11 gO rfl rfl rfl rfl (yq (q_loadL rfl ty_agg3 tk ga)) ?_
                        apply d_eff1 [11, 10, 9, 8, 7] [6, 5, 4, 3, 2, 1, 0] 12 [(144, _)]
                        · exact gO
                        · exact ⟨rfl, trivial⟩
                        · kernel_rfl
                        · kernel_rfl
                        intro Ex
                        apply l_callf rfl rfl rfl (text08_okI _ _ (eN (lay5 xs)) hes.symm (by omega))
                        · exact pk
                        rintro v L' ⟨rfl, rfl⟩
                        refine l_nm ?_
                        rw [helem]
                        refine l_nil ?_
                        apply n_d
                        · refine ⟨?_, ?_, ?_, ?_, ?_, ?_, ?_, trivial⟩
                          · exact yat gO rfl rfl rfl (yq (q_move rfl))
                          · exact yat gO rfl rfl rfl (yq (q_loadL rfl ty_agg24 tk ga))
                          · refine yat gO rfl rfl rfl ?_
                            apply yq
                            first | exact q_fieldAddr0 2 rfl Tryz.underlying73 rfl rfl ty_size24 | exact q_fieldAddrK 2 rfl Tryz.underlying73 rfl rfl ty_size24
                          · exact yat gO rfl rfl rfl (yq (q_loadAggL rfl ty_agg68 ty_size68 tk sb))
                          · refine yat gO rfl rfl rfl ?_
                            apply yq
                            first | exact q_fieldAddr0 10 rfl Tryz.underlying71 rfl rfl ty_size68 | exact q_fieldAddrK 10 rfl Tryz.underlying71 rfl rfl ty_size68
                          · exact yat gO rfl rfl rfl (yq (q_nilCheck rfl))
                          · exact yat gO rfl rfl rfl (yq (q_move rfl))
                        apply d_eff1 [3, 5, 6, 2, 4, 1, 0] [] 13 [(136, _), (138, _), (139, _), (145, _)]
                        · exact gO
                        · exact ⟨rfl, rfl, rfl, rfl, trivial⟩
                        · kernel_rfl
                        · kernel_rfl
                        intro Ex
                        apply l_callf rfl rfl rfl (Put_ok G hG pa off go n e s1 (lay5 xs) T1 hP1 u.hash hhw key elem hkz hez 7 (by omega) (by omega) (by omega))
                        · exact pk
                        rintro v L' ⟨s2, rfl, rfl, hP2, _⟩
                        refine l_nm ?_
                        rw [hr] at hP2 ⊢
                        refine l_nil ?_
                        apply n_d
                        · exact trivial
                        refine d_q 14 gO rfl rfl rfl rfl (yq (q_move rfl)) ?_
                        refine d_q 15 gO rfl rfl rfl rfl (yq (q_extractL rfl ga)) ?_
                        refine d_q 16 gO rfl rfl rfl rfl (yq (q_extractL rfl ga)) ?_
                        apply d_eff1 [15, 14] [16] 17 [(147, _)]
                        · exact gO
                        · exact ⟨rfl, trivial⟩
                        · kernel_rfl
                        · kernel_rfl
                        intro Ex
                        refine l_q rfl (q_assign rfl) ?_
                        refine l_nil ?_
                        apply n_d
                        · refine ⟨?_, trivial⟩
                          · exact yat gO rfl rfl rfl (yq (q_extractL rfl ga))
                        apply d_eff1 [16] [] 18 [(148, _)]
                        · exact gO
                        · exact ⟨rfl, trivial⟩
                        · kernel_rfl
                        · kernel_rfl
                        intro Ex
                        refine l_q rfl (q_assign rfl) ?_
                        refine l_nil ?_
                        apply n_d
                        · exact trivial
                        refine d_end (by kernel_rfl) ?_
                        refine n_code ?_
                        refine t_seq ?_
                        refine t_draw mixed ?_
                        refine d_q 0 gO rfl rfl rfl rfl (yq (q_move rfl)) ?_
                        refine d_q 1 gO rfl rfl rfl rfl (yq (q_nilCheck rfl)) ?_
                        apply d_q 2 gO rfl rfl rfl rfl
                        · apply yq
                          first | exact q_fieldAddr0 10 rfl Tryz.underlying71 rfl rfl ty_size68 | exact q_fieldAddrK 10 rfl Tryz.underlying71 rfl rfl ty_size68
                        refine d_q 3 gO rfl rfl rfl rfl (yq (q_loadAggL rfl ty_agg68 ty_size68 tk sb)) ?_
                        apply d_q 4 gO rfl rfl rfl rfl
                        · apply yq
                          first | exact q_fieldAddr0 2 rfl Tryz.underlying73 rfl rfl ty_size24 | exact q_fieldAddrK 2 rfl Tryz.underlying73 rfl rfl ty_size24
                        refine d_q 5 gO rfl rfl rfl rfl (yq (q_loadL rfl ty_agg24 tk ga)) ?_
                        refine d_q 6 gO rfl rfl rfl rfl (yq (q_move rfl)) ?_
                        apply d_eff1 [3, 5, 6, 2, 4, 1, 0] [] 7 [(153, _), (155, _), (156, _)]
                        · exact gO
                        · exact ⟨rfl, rfl, rfl, trivial⟩
                        · kernel_rfl
                        · kernel_rfl
                        intro Ex
                        apply l_callf rfl rfl rfl (Probes_ok G hG pa off go n e s2 (lay5 xs) T2 hP2 u.hash hhw key hkz)
                        · exact pk
                        rintro v L' ⟨rfl, rfl⟩
                        refine l_nm ?_
                        refine l_nil ?_
                        apply n_d
                        · exact trivial
                        refine d_q 8 gO rfl rfl rfl rfl (yq (q_move rfl)) ?_
                        refine d_q 9 gO rfl rfl rfl rfl (yq (q_extractL rfl ga)) ?_
                        refine d_q 10 gO rfl rfl rfl rfl (yq (q_extractL rfl ga)) ?_
                        apply d_eff1 [9, 8] [10] 11 [(158, _)]
                        · exact gO
                        · exact ⟨rfl, trivial⟩
                        · kernel_rfl
                        · kernel_rfl
                        intro Ex
                        refine l_q rfl (q_assign rfl) ?_
                        refine l_nil ?_
                        apply n_d
                        · refine ⟨?_, trivial⟩
                          · exact yat gO rfl rfl rfl (yq (q_extractL rfl ga))
                        apply d_eff1 [10] [] 12 [(159, _)]
                        · exact gO
                        · exact ⟨rfl, trivial⟩
                        · kernel_rfl
                        · kernel_rfl
                        intro Ex
                        refine l_q rfl (q_assign rfl) ?_
                        refine l_nil ?_
                        apply n_d
                        · exact trivial
                        refine d_end (by kernel_rfl) ?_
                        refine n_code ?_
                        refine t_seq ?_
                        refine t_region ?_
                        refine l_q rfl (q_move rfl) ?_
                        refine l_q rfl (q_nilCheck rfl) ?_
                        first | refine l_q rfl (q_fieldAddr0 10 rfl Tryz.underlying71 rfl rfl ty_size68) ?_ | refine l_q rfl (q_fieldAddrK 10 rfl Tryz.underlying71 rfl rfl ty_size68) ?_
                        refine l_q rfl (q_loadAggL rfl ty_agg68 ty_size68 tk sb) ?_
                        apply l_callf rfl rfl rfl (StatP_ok pa off go n e s2 (lay5 xs) T2 hP2)
                        · exact pk
                        rintro v L' ⟨rfl, rfl⟩
                        refine l_nm ?_
                        refine l_q rfl (q_move rfl) ?_
                        refine l_q rfl (q_extractL rfl ga) ?_
                        refine l_q rfl (q_extractL rfl ga) ?_
                        refine o_allocA rfl ty_zero75 (fun b22 => ?_)
                        apply o_storeAggL rfl rfl rfl ty_size75 rfl rfl (by simp)
                        · exact tk
                        · exact sal
                        refine l_q rfl (q_assign rfl) ?_
                        refine l_nil ?_
                        refine n_code ?_
                        refine t_seq ?_
                        refine t_region ?_
                        refine l_q rfl (q_move rfl) ?_
                        apply l_callf rfl rfl rfl (num08_ok _)
                        · exact pk
                        rintro v L' ⟨rfl, rfl⟩
                        refine l_nm ?_
                        apply l_q rfl
                        · apply q_bin rfl rfl (fun w => g_int w); exact fun w => b_eql w
                        refine l_q rfl (q_move rfl) ?_
                        first | refine l_part_d (t := 171) rfl (fun a1 => ?_) (fun a1 => ?_) | refine l_part_n (t := 171) rfl (fun a1 => ?_) (fun a1 => ?_) | refine l_part (t := 171) rfl (fun a1 => ?_) (fun a1 => ?_)
                        · refine l_on rfl rfl ?_
                          refine l_q rfl (q_move rfl) ?_
                          refine l_on rfl rfl ?_
                          apply l_callf rfl rfl rfl (num08_ok _)
                          · exact pk
                          rintro v L' ⟨rfl, rfl⟩
                          refine l_nm ?_
                          refine l_on rfl rfl ?_
                          apply l_q rfl
                          · apply q_bin rfl rfl (fun w => g_int w); exact fun w => b_eql w
                          first | refine l_q rfl (q_pick_t rfl rfl) ?_ | refine l_q rfl (q_pick_f rfl rfl) ?_
                          refine l_q rfl (q_move rfl) ?_
                          first | refine l_part_d (t := 176) rfl (fun a2 => ?_) (fun a2 => ?_) | refine l_part_n (t := 176) rfl (fun a2 => ?_) (fun a2 => ?_) | refine l_part (t := 176) rfl (fun a2 => ?_) (fun a2 => ?_)
                          · refine l_on rfl rfl ?_
                            refine l_q rfl (q_move rfl) ?_
                            refine l_on rfl rfl ?_
                            apply l_callf rfl rfl rfl (num08_ok _)
                            · exact pk
                            rintro v L' ⟨rfl, rfl⟩
                            refine l_nm ?_
                            refine l_on rfl rfl ?_
                            apply l_q rfl
                            · apply q_bin rfl rfl (fun w => g_int w); exact fun w => b_eql w
                            first | refine l_q rfl (q_pick_t rfl rfl) ?_ | refine l_q rfl (q_pick_f rfl rfl) ?_
                            refine l_q rfl (q_move rfl) ?_
                            first | refine l_part_d (t := 181) rfl (fun a3 => ?_) (fun a3 => ?_) | refine l_part_n (t := 181) rfl (fun a3 => ?_) (fun a3 => ?_) | refine l_part (t := 181) rfl (fun a3 => ?_) (fun a3 => ?_)
                            · refine l_on rfl rfl ?_
                              refine l_q rfl (q_move rfl) ?_
                              refine l_on rfl rfl ?_
                              apply l_q rfl
                              · apply q_bin rfl rfl (fun w => g_int w); exact fun w => b_eql w
                              first | refine l_q rfl (q_pick_t rfl rfl) ?_ | refine l_q rfl (q_pick_f rfl rfl) ?_
                              refine l_q rfl (q_move rfl) ?_
                              first | refine l_part_d (t := 185) rfl (fun a4 => ?_) (fun a4 => ?_) | refine l_part_n (t := 185) rfl (fun a4 => ?_) (fun a4 => ?_) | refine l_part (t := 185) rfl (fun a4 => ?_) (fun a4 => ?_)
                              · refine l_on rfl rfl ?_
                                refine l_q rfl (q_move rfl) ?_
                                refine l_on rfl rfl ?_
                                refine l_q rfl (q_move rfl) ?_
                                refine l_on rfl rfl ?_
                                apply l_q rfl
                                · apply q_bin rfl rfl (fun w => g_int w); exact fun w => b_leq w
                                first | refine l_q rfl (q_pick_t rfl rfl) ?_ | refine l_q rfl (q_pick_f rfl rfl) ?_
                                refine l_q rfl (q_move rfl) ?_
                                first | refine l_part_d (t := 190) rfl (fun a5 => ?_) (fun a5 => ?_) | refine l_part_n (t := 190) rfl (fun a5 => ?_) (fun a5 => ?_) | refine l_part (t := 190) rfl (fun a5 => ?_) (fun a5 => ?_)
                                · refine l_on rfl rfl ?_
                                  first | refine l_q rfl (q_fieldAddr0 0 rfl Tryz.underlying75 rfl rfl ty_size3) ?_ | refine l_q rfl (q_fieldAddrK 0 rfl Tryz.underlying75 rfl rfl ty_size3) ?_
                                  refine l_on rfl rfl ?_
                                  refine l_q rfl (q_loadL rfl ty_agg3 tk ga) ?_
                                  refine l_on rfl rfl ?_
                                  first | refine l_q rfl (q_fieldAddr0 0 rfl Tryz.underlying75 rfl rfl ty_size3) ?_ | refine l_q rfl (q_fieldAddrK 0 rfl Tryz.underlying75 rfl rfl ty_size3) ?_
                                  refine l_on rfl rfl ?_
                                  refine l_q rfl (q_loadL rfl ty_agg3 tk ga) ?_
                                  refine l_on rfl rfl ?_
                                  apply l_q rfl
                                  · apply q_bin rfl rfl (fun w => g_int w); exact fun w => b_eql w
                                  first | refine l_q rfl (q_pick_t rfl rfl) ?_ | refine l_q rfl (q_pick_f rfl rfl) ?_
                                  refine l_q rfl (q_move rfl) ?_
                                  first | refine l_part_d (t := 197) rfl (fun a6 => ?_) (fun a6 => ?_) | refine l_part_n (t := 197) rfl (fun a6 => ?_) (fun a6 => ?_) | refine l_part (t := 197) rfl (fun a6 => ?_) (fun a6 => ?_)
                                  · refine l_on rfl rfl ?_
                                    first | refine l_q rfl (q_fieldAddr0 2 rfl Tryz.underlying75 rfl rfl ty_size3) ?_ | refine l_q rfl (q_fieldAddrK 2 rfl Tryz.underlying75 rfl rfl ty_size3) ?_
                                    refine l_on rfl rfl ?_
                                    refine l_q rfl (q_loadL rfl ty_agg3 tk ga) ?_
                                    refine l_on rfl rfl ?_
                                    first | refine l_q rfl (q_fieldAddr0 2 rfl Tryz.underlying75 rfl rfl ty_size3) ?_ | refine l_q rfl (q_fieldAddrK 2 rfl Tryz.underlying75 rfl rfl ty_size3) ?_
                                    refine l_on rfl rfl ?_
                                    refine l_q rfl (q_loadL rfl ty_agg3 tk ga) ?_
                                    refine l_on rfl rfl ?_
                                    apply l_q rfl
                                    · apply q_bin rfl rfl (fun w => g_int w); exact fun w => b_eql w
                                    refine l_on rfl rfl ?_
                                    refine l_q rfl (q_move rfl) ?_
                                    first | refine l_part_d (t := 203) rfl (fun a7 => ?_) (fun a7 => ?_) | refine l_part_n (t := 203) rfl (fun a7 => ?_) (fun a7 => ?_) | refine l_part (t := 203) rfl (fun a7 => ?_) (fun a7 => ?_)
                                    · refine l_off rfl rfl rfl rfl ?_
                                      refine l_off rfl rfl rfl rfl ?_
                                      refine l_off rfl rfl rfl rfl ?_
                                      refine l_off rfl rfl rfl rfl ?_
                                      refine l_off rfl rfl rfl rfl ?_
                                      refine l_off rfl rfl rfl rfl ?_
                                      refine l_on rfl rfl ?_
                                      first | refine l_q rfl (q_pick_t rfl rfl) ?_ | refine l_q rfl (q_pick_f rfl rfl) ?_
                                      first | refine l_q rfl (q_pick_t rfl rfl) ?_ | refine l_q rfl (q_pick_f rfl rfl) ?_
                                      refine l_q rfl (q_assign rfl) ?_
                                      refine l_nil ?_
                                      refine n_code ?_
                                      refine t_ret ?_
                                      apply f_ret (.inl rfl) ([G])
                                      · apply res1 rfl
                                        · exact .tmp rfl
                                      · exact ⟨rfl, rfl⟩
                                      · exact en
                                    · refine l_on rfl rfl ?_
                                      first | refine l_q rfl (q_fieldAddr0 2 rfl Tryz.underlying75 rfl rfl ty_size3) ?_ | refine l_q rfl (q_fieldAddrK 2 rfl Tryz.underlying75 rfl rfl ty_size3) ?_
                                      refine l_on rfl rfl ?_
                                      refine l_q rfl (q_loadL rfl ty_agg3 tk ga) ?_
                                      refine l_on rfl rfl ?_
                                      first | refine l_q rfl (q_fieldAddr0 2 rfl Tryz.underlying75 rfl rfl ty_size3) ?_ | refine l_q rfl (q_fieldAddrK 2 rfl Tryz.underlying75 rfl rfl ty_size3) ?_
                                      refine l_on rfl rfl ?_
                                      refine l_q rfl (q_loadL rfl ty_agg3 tk ga) ?_
                                      refine l_on rfl rfl ?_
                                      apply l_q rfl
                                      · apply q_bin rfl rfl (fun w => g_int w); first | exact fun w => b_add_i w (by omega) | exact fun w => b_add w
                                      refine l_on rfl rfl ?_
                                      apply l_q rfl
                                      · apply q_bin rfl rfl (fun w => g_int w); exact fun w => b_eql w
                                      refine l_on rfl rfl ?_
                                      first | refine l_q rfl (q_pick_t rfl rfl) ?_ | refine l_q rfl (q_pick_f rfl rfl) ?_
                                      first | refine l_q rfl (q_pick_t rfl rfl) ?_ | refine l_q rfl (q_pick_f rfl rfl) ?_
                                      refine l_q rfl (q_assign rfl) ?_
                                      refine l_nil ?_
                                      refine n_code ?_
                                      refine t_ret ?_
                                      apply f_ret (.inl rfl) ([G])
                                      · apply res1 rfl
                                        · exact .tmp rfl
                                      · exact ⟨by congr 1; rw [decide_eq_true_iff]; omega, rfl⟩
                                      · exact en
                                  · exact absurd hus a6
                                · exact absurd hpr a5
                              · exact absurd rfl a4
                            · exact absurd rfl a3
                          · exact absurd rfl a2
                        · exact absurd rfl a1
end Go.Proofs.YthdmlgnhmbobaaaGreatDoor.Bench
