/- TableRanges answers true. -/
import Derived.Test.YtepkcjfmdenkcaaGreatDoorBenchN
import Derived.Test.YtepkcjfmdenkcaaGreatDoorTableC
set_option linter.unusedVariables false
set_option linter.unusedSimpArgs false
set_option maxRecDepth 100000
namespace Go.Proofs.YtepkcjfmdenkcaaGreatDoor.Bench
open Go.RowKit Go.Proofs Go.Proofs.YtepkcjfmdenkcaaGreatDoor.Eng Go.Proofs.YtepkcjfmdenkcaaGreatDoor.Ty Go.Proofs.YtepkcjfmdenkcaaGreatDoor.Bits Go.Proofs.YtepkcjfmdenkcaaGreatDoor.Mem Go.Proofs.YtepkcjfmdenkcaaGreatDoor.Search Go.Proofs.YtepkcjfmdenkcaaGreatDoor.Arena Go.Proofs.YtepkcjfmdenkcaaGreatDoor.CtrlB Go.Proofs.YtepkcjfmdenkcaaGreatDoor.Ctrl Go.Proofs.YtepkcjfmdenkcaaGreatDoor.Layout Go.Proofs.YtepkcjfmdenkcaaGreatDoor.GroupB Go.Proofs.YtepkcjfmdenkcaaGreatDoor.Group Go.Proofs.YtepkcjfmdenkcaaGreatDoor.Probe Go.Proofs.YtepkcjfmdenkcaaGreatDoor.TableB Go.Proofs.YtepkcjfmdenkcaaGreatDoor.TableI Go.Proofs.YtepkcjfmdenkcaaGreatDoor.Table Go.Proofs.YtepkcjfmdenkcaaGreatDoor.Ref03 Go.Proofs.YtepkcjfmdenkcaaGreatDoor.Cells

theorem life_cell {lives : List Life} {g cap j : Nat} {u : Life} (hu : lives[j]? = some u) : ∀ m x, [Value.string u.key, .string u.elem, .int .u64 u.hash, .int .i64 u.birth, .int .i64 (u.slot : Nat)][m]? = some x → CellAt (ownS 71 5 (.slice (some ⟨g, 0, none⟩) lives.length cap) lives.length (rowOf Life.cells lives)) ((⟨g, 0 + (j : Int).toNat * 5, none⟩ : Addr).add m) x := fun m x hx => by
  have hm : m < 5 := by rcases Nat.lt_or_ge m 5 with q | q; exact q; rw [List.getElem?_eq_none (by simpa using q)] at hx; cases hx
  rw [add_none, Nat.zero_add, Int.toNat_natCast]
  exact own_cell (by rw [rowOf_get life5 lives j m u hu hm]; exact hx)
set_option maxHeartbeats 2000000 in
theorem TableRanges_ok (G : HP) (hG : TabOk G) (vf vh vt : Value) (xs hs : List Int) (ts : List (Int × Int × Int)) (hA : IntsAt G vf xs) (hh : NumsAt .u64 G vh hs) (hT : TurnsAt G vt ts) (hwf : ∀ x ∈ hs, 0 ≤ x ∧ x < 18446744073709551616) (hmx : hs.length ≤ maxLen) (hmt : ts.length ≤ maxLen)
    (htw : ∀ t ∈ ts, turnWf t) (slots : Int) (hs64 : -9223372036854775808 ≤ slots ∧ slots ≤ 9223372036854775807) (stop : Int) :
    FnOk Tryz.prog 4 #[.agg #[vf, .int .i64 slots, vh, vt], .int .i64 stop] [G] (fun v L => v = .bool true ∧ L = [G]) := by
  simp only [maxLen] at hmt
  obtain ⟨ta, tcap, rfl, hT0⟩ := hT
  refine fn_intro en4 Tryz.func4 rfl rfl rfl fun Fr w0 => t_nm ?_
  refine sr <| o_boxA rfl rfl fun b2 => o_box1 rfl rfl rfl fun b3 => o_alloc1 rfl yZ4 rfl fun b4 => lz <| l_q rfl (qlda rfl yA59 yS59) ?_
  refine lcf rfl rfl rfl (bench_ok G vf vh _ xs hs hA hh slots hs64) ?_
  rintro v L' (⟨rfl, rfl⟩ | ⟨pa, pb, off, go, n, e, s0, hle, hn, rfl, h0, rfl, rfl, hP0⟩)
  refine l_nm ?_
  · skip
    refine l_nm ?_
    refine mv rfl rfl <| l_q rfl (q_extractL rfl ga) ?_
    refine l_q rfl (q_extractL rfl ga) ?_
    refine l_q rfl (q_extractL rfl ga) ?_
    refine o_alloc1 rfl yZ60 rfl fun b5 => st rfl rfl rfl yS60 rfl ?_
    refine asg rfl rfl <| asg rfl rfl <| lc <| t_seq <| sr <| mv rfl rfl <| l_q rfl (q_un rfl (u_not ·)) <| lc <| t_if rfl (fun p1 => ?_) fun p1 => ?_
    · refine sr <| st rfl rfl rfl yS4 rfl ?_
      refine lc <| rt ?_
      apply f_ret (.inl rfl) ([G])
      · apply res1 rfl
        · apply Rv.cellL rfl
          · exact tk
          · exact ga
          · exact yA4
      · exact ⟨rfl, rfl⟩
      · exact en
    · cases p1
  · skip
    refine l_nm ?_
    refine mv rfl rfl <| l_q rfl (q_extractL rfl ga) ?_
    refine l_q rfl (q_extractL rfl ga) ?_
    refine l_q rfl (q_extractL rfl ga) ?_
    refine o_alloc1 rfl yZ60 rfl fun b5 => st rfl rfl rfl yS60 rfl ?_
    refine asg rfl rfl <| asg rfl rfl <| lc <| t_seq <| sr <| mv rfl rfl <| l_q rfl (q_un rfl (u_not ·)) <| lc <| t_if rfl (fun p1 => ?_) fun p1 => ?_
    · cases p1
    · refine t_skip <| n_code <| t_seq <| sr <| mv rfl rfl <| l_q rfl (q_un rfl (u_not ·)) <| lc <| t_if rfl (fun p2 => ?_) fun p2 => ?_
      · cases p2
      · refine t_skip <| n_code <| t_seq <| sr <| l_q rfl (qfa 3 rfl yU59 rfl rfl yS57) <| l_q rfl (qld rfl yA57) ?_
        refine l_q rfl (ql rfl yU57) <| mv rfl rfl <| lc <| t_block ?_
        have hn0 := hP0.n0
        refine t_ent (show Ent _ (ownS 71 5 (.slice none 0 0) ([] : List Life).length (rowOf Life.cells []) :: _) from fun w h => own_nil h) ?_
        refine t_loop (fun x : Nat × ArS × Tb × List Life × Value × Nat => x.1 ≤ ts.length ∧ TabP x.2.1 off go (lay5 xs) n e x.2.2.1 ∧ BI n (planH hs (kN (lay5 xs))) (planK (kN (lay5 xs))) x.2.2.1 x.2.2.2.1 x.2.2.2.2.2 ∧ x.2.2.2.2.2 ≤ x.1) (fun x => [(3, .pointer (some ⟨b3, 0, none⟩)), (4, .pointer (some ⟨b4, 0, none⟩)), (5, .pointer (some ⟨b5, 0, none⟩)), (42, .slice ta ts.length tcap), (43, .int .i64 (ts.length : Nat)), (44, .int .i64 (x.1 : Nat))]) (fun x => pt b3 (.cells #[.int .i64 stop] 3 (0, 0)) :: pt b4 (.cells #[.bool false] 4 (0, 0)) :: pt b5 (.cells #[.pointer (some ⟨pb, 0, none⟩)] 60 (0, 0)) :: pt pb (.cells #[.pointer (some ⟨pa, 0, none⟩), .int .i64 (lay5 xs).key, .int .i64 (lay5 xs).elem, .int .i64 (lay5 xs).ka, .int .i64 (lay5 xs).ea, .int .i64 (lay5 xs).cap, .int .i64 (lay5 xs).eo, .int .i64 (lay5 xs).bo, .int .i64 (lay5 xs).slot, .int .i64 (lay5 xs).group, .pointer (some ⟨pa, 0, none⟩), .int .i64 (lay5 xs).key, .int .i64 (lay5 xs).elem, .int .i64 (lay5 xs).ka, .int .i64 (lay5 xs).ea, .int .i64 (lay5 xs).cap, .int .i64 (lay5 xs).eo, .int .i64 (lay5 xs).bo, .int .i64 (lay5 xs).slot, .int .i64 (lay5 xs).group, .int .i64 ((off : Nat) : Int), vf, .int .i64 (8 * (n : Int)), vh, (.slice ta ts.length tcap), x.2.2.2.2.1, .int .i64 ((x.2.2.2.2.2 : Nat) : Int)] 69 (0, 0)) :: ownS 71 5 x.2.2.2.2.1 x.2.2.2.1.length (rowOf Life.cells x.2.2.2.1) :: G :: arenaH pa x.2.1 :: Fr) (fun x => ts.length - x.1) (0, s0, newT n 0, [], .slice none 0 0, 0) ⟨Nat.zero_le _, hP0, bi_start hn0.1 _ _, Nat.le_refl _⟩ ⟨rfl, rfl, rfl, rfl, rfl, rfl, trivial⟩ (by (exact en)) ?_
        rintro ⟨i, s, T, lives, lv, ad⟩ ⟨hi, hP, hI, had⟩
        dsimp only at hi hP hI had ⊢
        refine sr <| l_q rfl (qi rfl rfl (b_lss ·)) <| lc <| t_seq <| t_if rfl (fun g1 => ?_) fun g1 => ?_
        · skip
          obtain ⟨tb, to, rfl, hT1⟩ := hT0 (by omega)
          obtain ⟨t, ht⟩ : ∃ t, ts[i]? = some t := ⟨ts[i], List.getElem?_eq_getElem (by omega)⟩
          have hcell := cell_turn hT1 ht
          have hw := htw t (List.mem_of_getElem? ht)
          refine t_skip <| n_code <| t_seq <| t_block <| sr <| l_q rfl (q_indexAddr rfl rfl yU57 yS63 (by omega)) ?_
          apply l_q rfl
          · apply q_loadRA (A := G) (us := [.int .i64 t.1, .int .i64 t.2.1, .int .i64 t.2.2]) rfl yA63 yS63 rfl
            · exact tk
            · exact hcell
          refine o_allocA rfl yZ63 fun b9 => sta rfl rfl rfl yS63 rfl rfl ?_
          refine lz <| l_q rfl (qld rfl yA60) ?_
          refine l_q rfl (qlda rfl yA63 yS63) ?_
          refine lcf rfl rfl rfl (turn_ok pb pa off n e (lay5 xs) vf (.slice (some ⟨tb, to, none⟩) ts.length tcap) lv (8 * (n : Int)) hs lives G hG go s T ad vh hh h0 hmx hwf hle hP hI rfl (by omega) (by omega) t.1 t.2.1 t.2.2 hw) ?_
          rintro v L' ⟨s', T', lives', lv', ad', rfl, rfl, hW⟩
          refine l_nm ?_
          refine l_q rfl (q_un rfl (u_not ·)) <| lc <| t_if rfl (fun g2 => ?_) fun g2 => ?_
          · cases g2
          · refine t_skip <| n_blk <| n_code <| t_region <| l_q rfl (qadd rfl rfl) ?_
            refine mv rfl rfl <| l_nil ?_
            apply n_again ((i + 1, s', T', lives', lv', ad'))
            · exact ⟨by dsimp only; omega, hW.tab, hW.bi, by have := hW.ad; dsimp only; omega⟩
            · dsimp only; omega
            · exact ⟨rfl, rfl, rfl, rfl, rfl, rfl, trivial⟩
            · exact en
        · have hlen := hI.len
          obtain ⟨a1, cap1, rfl, hh0⟩ := hh
          obtain ⟨gb, go1, rfl, hh1⟩ := hh0 h0
          obtain ⟨hv0, hhv0⟩ : ∃ x, hs[0]? = some x := ⟨hs[0], List.getElem?_eq_getElem h0⟩
          have hwv0 := hwf hv0 (List.mem_of_getElem? hhv0)
          refine t_pure (φ := ∃ a cap, lv = .slice a lives.length cap ∧ (0 < lives.length → ∃ g, a = some ⟨g, 0, none⟩) ∧ lives.length ≤ cap ∧ cap ≤ maxLen ∧ (a = none → cap = 0 ∧ rowOf Life.cells lives = [])) (fun w hw => by
            have h1 := (show Ent _ (ownS 71 5 lv lives.length (rowOf Life.cells lives) :: _) from Ent.pick (.cons (.there (.there (.there (.there .here)))) .nil)) w hw
            obtain ⟨_, a, cap, rfl, h2, h3, h4⟩ := own_shape h1
            exact ⟨a, cap, rfl, h2, h3, h4, own_nil0 h1⟩) fun hlv => ?_
          obtain ⟨a0, cap, rfl, hsh, hcap1, hcap2, hnil⟩ := hlv
          have hrd : ∀ a, a0 = some a → ∀ {L M : List HP}, Take (ownS 71 5 (.slice a0 lives.length cap) lives.length (rowOf Life.cells lives)) L M → Reads L a (rowOf Life.cells lives) := fun a ea L M ht => by
            rcases Nat.eq_zero_or_pos lives.length with q | q
            · rw [List.eq_nil_of_length_eq_zero q]; exact reads_nil
            · obtain ⟨g, e2⟩ := hsh q
              rw [ea] at e2; cases e2
              subst ea
              have := reads_head life5 ht (Nat.le_refl _)
              rwa [List.take_length] at this
          refine xt rfl <| nz ?_
          refine o_buildSlice (us := []) rfl rfl yU65 yS71 yZ71 rfl rfl rfl rfl rfl (fun b53 => ?_)
          refine l_q rfl (qld rfl yA60) ?_
          refine l_q rfl (q_nilCheck rfl) <| l_q rfl (qfa 25 rfl yU69 rfl rfl yS65) <| l_q rfl (qld rfl yA65) ?_
          refine l_own0 (b := b53) (e := 71) 5 .here ?_
          refine o_appendO (sz := 5) (rowOf Life.cells lives) rfl rfl rfl hnil Tryz.underlying65 yI71 rfl rfl tk (fun a e => hrd a e tk) (by rw [rowOf_len life5]) (rowOf_one life1 _) (by simp only [maxLen]; omega) (by omega) fun v58 => ?_
          refine l_shape (v := v58) tk fun _ hs58 => ?_
          obtain ⟨a58, cap58, rfl, hsh2, _, _⟩ := hs58
          rw [show 0 + lives.length = lives.length from Nat.zero_add _] at hsh2 ⊢
          rw [show ([] : List Value) ++ rowOf Life.cells lives = rowOf Life.cells lives from rfl]
          refine o_alloc1 rfl yZ65 rfl fun b10 => st rfl rfl rfl yS65 rfl ?_
          refine lz <| o_alloc1 rfl yZ3 rfl fun b11 => o_alloc1 rfl yZ3 rfl fun b12 => st rfl rfl rfl yS3 rfl ?_
          refine st rfl rfl rfl yS3 rfl ?_
          refine lz <| l_q rfl (qld rfl yA60) ?_
          refine l_q rfl (q_nilCheck rfl) <| l_q rfl (qfa 10 rfl yU69 rfl rfl yS67) <| l_q rfl (qlda rfl yA67 yS67) ?_
          refine lcf rfl rfl rfl (TCells_ok pa off (lay5 xs)) ?_
          rintro v L' ⟨bc, rfl, rfl⟩
          refine l_nm ?_
          refine o_alloc1 rfl yZ46 rfl fun b13 => st rfl rfl rfl yS46 rfl ?_
          refine lc <| t_seq <| sr <| l_q rfl (qld rfl yA46) ?_
          refine l_q rfl (q_bin rfl rfl (g_func ·) (b_eqlF0 · yU46)) <| lc <| t_cond_f rfl <| t_skip <| n_code <| t_seq <| sr <| l_q rfl (qld rfl yA46) ?_
          refine lc <| t_block ?_
          have hN := layN hle
          have hbd := Lay.bnd hle
          apply t_rangeH (p := (fun k (x : ArS × Tb × Int) => TabP x.1 off go (lay5 xs) n e x.2.1 ∧ TCnt n x.2.1 ∧ ∀ i, i < 8 * n → cnt isFull T.cells i = k → x.2.2 < ((i : Nat) : Int))) (J := (fun k x => [pt b11 (.cells #[.int .i64 (k : Nat)] 3 (0, 0)), pt b12 (.cells #[.int .i64 x.2.2] 3 (0, 0)), pt b3 (.cells #[.int .i64 stop] 3 (0, 0)), pt b4 (.cells #[.bool false] 4 (0, 0)), pt b5 (.cells #[.pointer (some ⟨pb, 0, none⟩)] 60 (0, 0)), pt b13 (.cells #[.func (.func 39) #[] #[.pointer (some ⟨bc, 0, none⟩)]] 46 (0, 0)), pt b10 (.cells #[.slice a58 lives.length cap58] 65 (0, 0)), ownS 71 5 (.slice a58 lives.length cap58) lives.length (rowOf Life.cells lives), pt pb (.cells #[.pointer (some ⟨pa, 0, none⟩), .int .i64 (lay5 xs).key, .int .i64 (lay5 xs).elem, .int .i64 (lay5 xs).ka, .int .i64 (lay5 xs).ea, .int .i64 (lay5 xs).cap, .int .i64 (lay5 xs).eo, .int .i64 (lay5 xs).bo, .int .i64 (lay5 xs).slot, .int .i64 (lay5 xs).group, .pointer (some ⟨pa, 0, none⟩), .int .i64 (lay5 xs).key, .int .i64 (lay5 xs).elem, .int .i64 (lay5 xs).ka, .int .i64 (lay5 xs).ea, .int .i64 (lay5 xs).cap, .int .i64 (lay5 xs).eo, .int .i64 (lay5 xs).bo, .int .i64 (lay5 xs).slot, .int .i64 (lay5 xs).group, .int .i64 ((off : Nat) : Int), vf, .int .i64 (8 * (n : Int)), (.slice (some ⟨gb, go1, none⟩) hs.length cap1), (.slice ta ts.length tcap), (.slice a0 lives.length cap), .int .i64 ((ad : Nat) : Int)] 69 (0, 0)), G, arenaH pa x.1])) (q := (fun k (y : Code × (ArS × Tb × Int)) => y.1 = .exit 2 ∧ ((k : Nat) : Int) + 1 = stop ∧ TabP y.2.1 off go (lay5 xs) n e y.2.2.1 ∧ TCnt n y.2.2.1)) (Jx := (fun k y => [pt b11 (.cells #[.int .i64 (((k : Nat) : Int) + 1)] 3 (0, 0)), pt b12 (.cells #[.int .i64 y.2.2.2] 3 (0, 0)), pt b3 (.cells #[.int .i64 stop] 3 (0, 0)), pt b4 (.cells #[.bool false] 4 (0, 0)), pt b5 (.cells #[.pointer (some ⟨pb, 0, none⟩)] 60 (0, 0)), pt b13 (.cells #[.func (.func 39) #[] #[.pointer (some ⟨bc, 0, none⟩)]] 46 (0, 0)), pt b10 (.cells #[.slice a58 lives.length cap58] 65 (0, 0)), ownS 71 5 (.slice a58 lives.length cap58) lives.length (rowOf Life.cells lives), pt pb (.cells #[.pointer (some ⟨pa, 0, none⟩), .int .i64 (lay5 xs).key, .int .i64 (lay5 xs).elem, .int .i64 (lay5 xs).ka, .int .i64 (lay5 xs).ea, .int .i64 (lay5 xs).cap, .int .i64 (lay5 xs).eo, .int .i64 (lay5 xs).bo, .int .i64 (lay5 xs).slot, .int .i64 (lay5 xs).group, .pointer (some ⟨pa, 0, none⟩), .int .i64 (lay5 xs).key, .int .i64 (lay5 xs).elem, .int .i64 (lay5 xs).ka, .int .i64 (lay5 xs).ea, .int .i64 (lay5 xs).cap, .int .i64 (lay5 xs).eo, .int .i64 (lay5 xs).bo, .int .i64 (lay5 xs).slot, .int .i64 (lay5 xs).group, .int .i64 ((off : Nat) : Int), vf, .int .i64 (8 * (n : Int)), (.slice (some ⟨gb, go1, none⟩) hs.length cap1), (.slice ta ts.length tcap), (.slice a0 lives.length cap), .int .i64 ((ad : Nat) : Int)] 69 (0, 0)), G, arenaH pa y.2.1])) (x0 := (s, T, -1)) (hc := TCells_it pa off go n e bc s (lay5 xs) T hP) (hr := rfl) (hg := rfl)
          · exact pk
          · exact ⟨hP, hI.cnt, fun i _ _ => by dsimp only; omega⟩
          · (try dsimp only); (try simp only [Int.natCast_zero, Nat.sub_zero]); exact pk
          · (try dsimp only); (try simp only [Int.natCast_zero, Nat.sub_zero]); exact pk
          · rfl
          · exact cellsV_two
          · rintro l' rc Fr' w1 k x ⟨s1, T1, last⟩ hrd2 hpn hx ⟨hP1, hC1, hlast⟩
            obtain ⟨i1, hi8, hfi, hck, rfl⟩ := cellsV_at hx
            dsimp only at hP1 hC1 hlast ⊢
            have hl1 := hlast i1 hi8 hck
            have hk8 := cnt_le isFull T.cells i1
            have hkind := kind_full.2 hfi
            have hnext : ∀ i, i < 8 * n → cnt isFull T.cells i = k + 1 → ((i1 : Nat) : Int) < ((i : Nat) : Int) := fun i hi hc => by
              rcases Nat.lt_or_ge i1 i with q | q
              · omega
              · have := cnt_mono (p := isFull) (cs := T.cells) q; omega
            obtain ⟨v0, hv0m, hvs⟩ := hI.all i1 hi8 hfi
            obtain ⟨j0, hj0⟩ := List.getElem?_of_mem hv0m
            obtain ⟨_, hc0, _⟩ := hI.there v0 hv0m
            rw [hvs] at hc0
            have hkey : (T.cells i1).keyS = v0.key := by rw [hc0]; rfl
            have helem : (T.cells i1).elemS = v0.elem := by rw [hc0]; rfl
            have hbirth : (T.cells i1).birthI = v0.birth := by rw [hc0]; rfl
            have hj0l := (List.getElem?_eq_some_iff.1 hj0).1
            refine t_nm ?_
            refine sr <| asg rfl rfl <| lr <| o_allocA rfl yZ41 fun b15 => sta rfl rfl rfl yS41 rfl rfl ?_
            refine l_nil ?_
            apply n_begin
            · exact tk
            · assumption
            refine t_block <| sr <| asg rfl rfl <| lc <| t_seq <| sr <| l_q rfl (qld rfl yA65) ?_
            refine l_q rfl (ql rfl yU65) <| mv rfl rfl <| lc <| t_block ?_
            refine t_loop (fun x : Nat × Bool => x.1 ≤ lives.length ∧ (j0 < x.1 → x.2 = true)) (fun x => [(3, .pointer (some ⟨b3, 0, none⟩)), (4, .pointer (some ⟨b4, 0, none⟩)), (5, .pointer (some ⟨b5, 0, none⟩)), (10, .pointer (some ⟨b10, 0, none⟩)), (11, .pointer (some ⟨b11, 0, none⟩)), (12, .pointer (some ⟨b12, 0, none⟩)), (14, .int .i64 (i1 : Nat)), (15, .pointer (some ⟨b15, 0, none⟩)), (16, .bool x.2), (69, .slice a58 lives.length cap58), (70, .int .i64 (lives.length : Nat)), (71, .int .i64 (x.1 : Nat))]) (fun _ => pt l' (.loop { rc with state := .busy }) :: pt b15 (.cells #[.int .i64 (T.cells i1).kind, .int .i64 (T.cells i1).tagI, .string (T.cells i1).keyS, .string (T.cells i1).elemS, .int .i64 (T.cells i1).birthI] 41 (0, 0)) :: pt b11 (.cells #[.int .i64 (k : Nat)] 3 (0, 0)) :: pt b12 (.cells #[.int .i64 last] 3 (0, 0)) :: pt b3 (.cells #[.int .i64 stop] 3 (0, 0)) :: pt b4 (.cells #[.bool false] 4 (0, 0)) :: pt b5 (.cells #[.pointer (some ⟨pb, 0, none⟩)] 60 (0, 0)) :: pt b13 (.cells #[.func (.func 39) #[] #[.pointer (some ⟨bc, 0, none⟩)]] 46 (0, 0)) :: pt b10 (.cells #[.slice a58 lives.length cap58] 65 (0, 0)) :: ownS 71 5 (.slice a58 lives.length cap58) lives.length (rowOf Life.cells lives) :: pt pb (.cells #[.pointer (some ⟨pa, 0, none⟩), .int .i64 (lay5 xs).key, .int .i64 (lay5 xs).elem, .int .i64 (lay5 xs).ka, .int .i64 (lay5 xs).ea, .int .i64 (lay5 xs).cap, .int .i64 (lay5 xs).eo, .int .i64 (lay5 xs).bo, .int .i64 (lay5 xs).slot, .int .i64 (lay5 xs).group, .pointer (some ⟨pa, 0, none⟩), .int .i64 (lay5 xs).key, .int .i64 (lay5 xs).elem, .int .i64 (lay5 xs).ka, .int .i64 (lay5 xs).ea, .int .i64 (lay5 xs).cap, .int .i64 (lay5 xs).eo, .int .i64 (lay5 xs).bo, .int .i64 (lay5 xs).slot, .int .i64 (lay5 xs).group, .int .i64 ((off : Nat) : Int), vf, .int .i64 (8 * (n : Int)), (.slice (some ⟨gb, go1, none⟩) hs.length cap1), (.slice ta ts.length tcap), (.slice a0 lives.length cap), .int .i64 ((ad : Nat) : Int)] 69 (0, 0)) :: G :: arenaH pa s1 :: Fr') (fun x => lives.length - x.1) (0, false) ⟨Nat.zero_le _, fun h => by dsimp only at h; omega⟩ ⟨rfl, rfl, rfl, rfl, rfl, rfl, rfl, rfl, rfl, rfl, rfl, rfl, trivial⟩ (by (exact en)) ?_
            rintro ⟨j, kn⟩ ⟨hj, hkn⟩
            dsimp only at hj hkn ⊢
            refine sr <| l_q rfl (qi rfl rfl (b_lss ·)) <| lc <| t_seq <| t_if rfl (fun y0 => ?_) fun y0 => ?_
            · skip
              obtain ⟨g2, rfl⟩ := hsh2 (by omega)
              obtain ⟨u, hu⟩ : ∃ u, lives[j]? = some u := ⟨lives[j], List.getElem?_eq_getElem (by omega)⟩
              have hcell2 := life_cell (cap := cap58) hu (g := g2)
              have hsame : j = j0 → u = v0 := fun e2 => by subst e2; rw [hj0] at hu; exact (Option.some.inj hu).symm
              refine t_skip <| n_code <| t_seq <| t_block <| sr <| l_q rfl (q_indexAddr rfl rfl yU65 yS71 (by omega)) ?_
              apply l_q rfl
              · apply q_loadRA (A := ownS 71 5 (.slice (some ⟨g2, 0, none⟩) lives.length cap58) lives.length (rowOf Life.cells lives)) (us := [.string u.key, .string u.elem, .int .u64 u.hash, .int .i64 u.birth, .int .i64 (u.slot : Nat)]) rfl yA71 yS71 rfl
                · exact tk
                · exact hcell2
              refine o_allocA rfl yZ71 fun b18 => sta rfl rfl rfl yS71 rfl rfl ?_
              refine lr <| mv rfl rfl <| mv rfl rfl <| l_pt (t := 76) rfl (fun k0 => ?_) fun k0 => ?_
              · refine l_off rfl rfl rfl rfl <| l_off rfl rfl rfl rfl <| l_off rfl rfl rfl rfl <| l_off rfl rfl rfl rfl <| l_off rfl rfl rfl rfl <| l_offu rfl rfl rfl <| l_offu rfl rfl rfl <| l_offu rfl rfl rfl <| l_offu rfl rfl rfl <| l_offu rfl rfl rfl <| l_off rfl rfl rfl rfl <| l_off rfl rfl rfl rfl <| l_offu rfl rfl rfl <| l_offu rfl rfl rfl <| l_offu rfl rfl rfl <| l_offu rfl rfl rfl <| l_offu rfl rfl rfl <| l_off rfl rfl rfl rfl <| l_off rfl rfl rfl rfl <| l_offu rfl rfl rfl <| l_offu rfl rfl rfl <| l_offu rfl rfl rfl <| l_offu rfl rfl rfl <| l_offu rfl rfl rfl <| l_off rfl rfl rfl rfl <| l_q rfl (q_pk rfl rfl) <| asg rfl rfl <| l_nil <| n_blk <| n_code <| t_region <| l_q rfl (qadd rfl rfl) ?_
                refine mv rfl rfl <| l_nil ?_
                apply n_again ((j + 1, true))
                · exact ⟨by dsimp only; omega, fun _ => rfl⟩
                · dsimp only; omega
                · exact ⟨rfl, rfl, rfl, rfl, rfl, rfl, rfl, rfl, rfl, rfl, rfl, rfl, trivial⟩
                · exact en
              · refine l_on rfl rfl <| l_q rfl (qfa 4 rfl yU71 rfl rfl yS3) <| l_on rfl rfl <| l_q rfl (qld rfl yA3) ?_
                refine l_on rfl rfl <| mv rfl rfl <| l_on rfl rfl <| l_q rfl (qi rfl rfl (b_eql ·)) <| l_on rfl rfl <| mv rfl rfl ?_
                have hnj : ¬ j0 < j := fun q => by rw [hkn q] at k0; cases k0
                refine l_pt (t := 81) rfl (fun k1 => ?_) fun k1 => ?_
                · refine l_on rfl rfl <| l_q rfl (qfa 0 rfl yU71 rfl rfl yS9) <| l_on rfl rfl <| l_q rfl (qld rfl yA9) ?_
                  refine l_on rfl rfl <| l_q rfl (qfa 2 rfl yU41 rfl rfl yS9) <| l_on rfl rfl <| l_q rfl (qld rfl yA9) ?_
                  refine l_on rfl rfl <| l_q rfl (qs rfl rfl (b_eqlS ·)) <| l_on rfl rfl <| l_q rfl (q_pk rfl rfl) <| l_on rfl rfl <| mv rfl rfl <| l_pt (t := 88) rfl (fun k2 => ?_) fun k2 => ?_
                  · refine l_on rfl rfl <| l_q rfl (qfa 1 rfl yU71 rfl rfl yS9) <| l_on rfl rfl <| l_q rfl (qld rfl yA9) ?_
                    refine l_on rfl rfl <| l_q rfl (qfa 3 rfl yU41 rfl rfl yS9) <| l_on rfl rfl <| l_q rfl (qld rfl yA9) ?_
                    refine l_on rfl rfl <| l_q rfl (qs rfl rfl (b_eqlS ·)) <| l_on rfl rfl <| l_q rfl (q_pk rfl rfl) <| l_on rfl rfl <| mv rfl rfl <| l_pt (t := 95) rfl (fun k3 => ?_) fun k3 => ?_
                    · refine l_on rfl rfl <| l_q rfl (qfa 3 rfl yU71 rfl rfl yS3) <| l_on rfl rfl <| l_q rfl (qld rfl yA3) ?_
                      refine l_on rfl rfl <| l_q rfl (qfa 4 rfl yU41 rfl rfl yS3) <| l_on rfl rfl <| l_q rfl (qld rfl yA3) ?_
                      refine l_on rfl rfl <| l_q rfl (qi rfl rfl (b_eql ·)) <| l_on rfl rfl <| l_q rfl (q_pk rfl rfl) <| l_q rfl (q_pk rfl rfl) <| asg rfl rfl <| l_nil <| n_blk <| n_code <| t_region <| l_q rfl (qadd rfl rfl) ?_
                      refine mv rfl rfl <| l_nil ?_
                      apply n_again ((j + 1, decide (u.birth = (T.cells i1).birthI)))
                      · exact ⟨by dsimp only; omega, fun q => by dsimp only at q ⊢; rw [hsame (by omega), hbirth]; simp⟩
                      · dsimp only; omega
                      · exact ⟨rfl, rfl, rfl, rfl, rfl, rfl, rfl, rfl, rfl, rfl, rfl, rfl, trivial⟩
                      · exact en
                    · refine l_off rfl rfl rfl rfl <| l_off rfl rfl rfl rfl <| l_off rfl rfl rfl rfl <| l_off rfl rfl rfl rfl <| l_off rfl rfl rfl rfl <| l_on rfl rfl <| l_q rfl (q_pk rfl rfl) <| l_q rfl (q_pk rfl rfl) <| asg rfl rfl <| l_nil <| n_blk <| n_code <| t_region <| l_q rfl (qadd rfl rfl) ?_
                      refine mv rfl rfl <| l_nil ?_
                      apply n_again ((j + 1, false))
                      · exact ⟨by dsimp only; omega, fun q => by dsimp only at q; exact absurd (by rw [hsame (by omega), helem]) k3⟩
                      · dsimp only; omega
                      · exact ⟨rfl, rfl, rfl, rfl, rfl, rfl, rfl, rfl, rfl, rfl, rfl, rfl, trivial⟩
                      · exact en
                  · refine l_off rfl rfl rfl rfl <| l_off rfl rfl rfl rfl <| l_off rfl rfl rfl rfl <| l_off rfl rfl rfl rfl <| l_off rfl rfl rfl rfl <| l_on rfl rfl <| l_q rfl (q_pk rfl rfl) <| l_on rfl rfl <| mv rfl rfl <| l_off rfl rfl rfl rfl <| l_off rfl rfl rfl rfl <| l_off rfl rfl rfl rfl <| l_off rfl rfl rfl rfl <| l_off rfl rfl rfl rfl <| l_on rfl rfl <| l_q rfl (q_pk rfl rfl) <| l_q rfl (q_pk rfl rfl) <| asg rfl rfl <| l_nil <| n_blk <| n_code <| t_region <| l_q rfl (qadd rfl rfl) ?_
                    refine mv rfl rfl <| l_nil ?_
                    apply n_again ((j + 1, false))
                    · exact ⟨by dsimp only; omega, fun q => by dsimp only at q; exact absurd (by rw [hsame (by omega), hkey]) k2⟩
                    · dsimp only; omega
                    · exact ⟨rfl, rfl, rfl, rfl, rfl, rfl, rfl, rfl, rfl, rfl, rfl, rfl, trivial⟩
                    · exact en
                · refine l_off rfl rfl rfl rfl <| l_off rfl rfl rfl rfl <| l_off rfl rfl rfl rfl <| l_off rfl rfl rfl rfl <| l_off rfl rfl rfl rfl <| l_on rfl rfl <| l_q rfl (q_pk rfl rfl) <| l_on rfl rfl <| mv rfl rfl <| l_off rfl rfl rfl rfl <| l_off rfl rfl rfl rfl <| l_off rfl rfl rfl rfl <| l_off rfl rfl rfl rfl <| l_off rfl rfl rfl rfl <| l_on rfl rfl <| l_q rfl (q_pk rfl rfl) <| l_on rfl rfl <| mv rfl rfl <| l_off rfl rfl rfl rfl <| l_off rfl rfl rfl rfl <| l_off rfl rfl rfl rfl <| l_off rfl rfl rfl rfl <| l_off rfl rfl rfl rfl <| l_on rfl rfl <| l_q rfl (q_pk rfl rfl) <| l_q rfl (q_pk rfl rfl) <| asg rfl rfl <| l_nil <| n_blk <| n_code <| t_region <| l_q rfl (qadd rfl rfl) ?_
                  refine mv rfl rfl <| l_nil ?_
                  apply n_again ((j + 1, false))
                  · exact ⟨by dsimp only; omega, fun q => by dsimp only at q; exact absurd (by rw [hsame (by omega), hvs]) k1⟩
                  · dsimp only; omega
                  · exact ⟨rfl, rfl, rfl, rfl, rfl, rfl, rfl, rfl, rfl, rfl, rfl, rfl, trivial⟩
                  · exact en
            · obtain rfl : j = lives.length := by omega
              obtain rfl : kn = true := hkn hj0l
              refine xt rfl <| n_code <| t_seq <| sr <| mv rfl rfl <| l_q rfl (q_un rfl (u_not ·)) <| mv rfl rfl <| l_pt (t := 106) rfl (fun y1 => ?_) fun y1 => ?_
              · cases y1
              · refine l_on rfl rfl <| mv rfl rfl <| l_on rfl rfl <| l_q rfl (qld rfl yA3) ?_
                refine l_on rfl rfl <| l_q rfl (qi rfl rfl (b_leq ·)) <| l_q rfl (q_pk rfl rfl) <| mv rfl rfl <| l_pt (t := 111) rfl (fun y2 => ?_) fun y2 => ?_
                · omega
                · refine l_on rfl rfl <| l_q rfl (qfa 0 rfl yU41 rfl rfl yS3) <| l_on rfl rfl <| l_q rfl (qld rfl yA3) ?_
                  refine l_on rfl rfl <| l_q rfl (qi rfl rfl (b_neq ·)) <| l_q rfl (q_pk rfl rfl) <| lc <| t_if rfl (fun y3 => ?_) fun y3 => ?_
                  · exact absurd hkind y3
                  · refine t_skip <| nz <| mv rfl rfl <| st rfl rfl rfl yS3 rfl ?_
                    refine lz <| l_q rfl (qld rfl yA3) ?_
                    refine l_q rfl (qadd rfl rfl) ?_
                    refine st rfl rfl rfl yS3 rfl ?_
                    refine lc <| t_seq <| sr <| l_q rfl (qld rfl yA3) ?_
                    refine l_q rfl (qld rfl yA3) ?_
                    refine l_q rfl (qi rfl rfl (b_eql ·)) <| lc <| t_if rfl (fun y4 => ?_) fun y4 => ?_
                    · refine xe rfl ?_
                      apply r_left (.inr ⟨_, rfl, rfl⟩) ((s1, T1, ((i1 : Nat) : Int))) (⟨rfl, y4, hP1, hC1⟩)
                      exact en
                    · refine t_skip <| n_code <| t_seq <| sr <| l_q rfl (qld rfl yA65) ?_
                      refine l_q rfl (ql rfl yU65) <| mv rfl rfl <| lc <| t_block ?_
                      refine t_loop (fun x : Nat × ArS × Tb => x.1 ≤ lives.length ∧ TabP x.2.1 off go (lay5 xs) n e x.2.2 ∧ TCnt n x.2.2) (fun x => [(3, .pointer (some ⟨b3, 0, none⟩)), (4, .pointer (some ⟨b4, 0, none⟩)), (5, .pointer (some ⟨b5, 0, none⟩)), (11, .pointer (some ⟨b11, 0, none⟩)), (14, .int .i64 (i1 : Nat)), (15, .pointer (some ⟨b15, 0, none⟩)), (122, .slice a58 lives.length cap58), (123, .int .i64 (lives.length : Nat)), (124, .int .i64 (x.1 : Nat))]) (fun x => pt l' (.loop { rc with state := .busy }) :: pt b15 (.cells #[.int .i64 (T.cells i1).kind, .int .i64 (T.cells i1).tagI, .string (T.cells i1).keyS, .string (T.cells i1).elemS, .int .i64 (T.cells i1).birthI] 41 (0, 0)) :: pt b11 (.cells #[.int .i64 (((k : Nat) : Int) + 1)] 3 (0, 0)) :: pt b12 (.cells #[.int .i64 (i1 : Nat)] 3 (0, 0)) :: pt b3 (.cells #[.int .i64 stop] 3 (0, 0)) :: pt b4 (.cells #[.bool false] 4 (0, 0)) :: pt b5 (.cells #[.pointer (some ⟨pb, 0, none⟩)] 60 (0, 0)) :: pt b13 (.cells #[.func (.func 39) #[] #[.pointer (some ⟨bc, 0, none⟩)]] 46 (0, 0)) :: pt b10 (.cells #[.slice a58 lives.length cap58] 65 (0, 0)) :: ownS 71 5 (.slice a58 lives.length cap58) lives.length (rowOf Life.cells lives) :: pt pb (.cells #[.pointer (some ⟨pa, 0, none⟩), .int .i64 (lay5 xs).key, .int .i64 (lay5 xs).elem, .int .i64 (lay5 xs).ka, .int .i64 (lay5 xs).ea, .int .i64 (lay5 xs).cap, .int .i64 (lay5 xs).eo, .int .i64 (lay5 xs).bo, .int .i64 (lay5 xs).slot, .int .i64 (lay5 xs).group, .pointer (some ⟨pa, 0, none⟩), .int .i64 (lay5 xs).key, .int .i64 (lay5 xs).elem, .int .i64 (lay5 xs).ka, .int .i64 (lay5 xs).ea, .int .i64 (lay5 xs).cap, .int .i64 (lay5 xs).eo, .int .i64 (lay5 xs).bo, .int .i64 (lay5 xs).slot, .int .i64 (lay5 xs).group, .int .i64 ((off : Nat) : Int), vf, .int .i64 (8 * (n : Int)), (.slice (some ⟨gb, go1, none⟩) hs.length cap1), (.slice ta ts.length tcap), (.slice a0 lives.length cap), .int .i64 ((ad : Nat) : Int)] 69 (0, 0)) :: G :: arenaH pa x.2.1 :: Fr') (fun x => lives.length - x.1) (0, s1, T1) ⟨Nat.zero_le _, hP1, hC1⟩ ⟨rfl, rfl, rfl, rfl, rfl, rfl, rfl, rfl, rfl, trivial⟩ (by (exact en)) ?_
                      rintro ⟨j, s2, T2⟩ ⟨hj, hP2, hC2⟩
                      dsimp only at hj hP2 hC2 ⊢
                      have hub := hC2.used
                      have hul := cnt_le isFull T2.cells (8 * n)
                      have hlf := hC2.left
                      have hrm := hC2.room
                      refine sr <| l_q rfl (qi rfl rfl (b_lss ·)) <| lc <| t_seq <| t_if rfl (fun z0 => ?_) fun z0 => ?_
                      · skip
                        obtain ⟨g2, rfl⟩ := hsh2 (by omega)
                        obtain ⟨u, hu⟩ : ∃ u, lives[j]? = some u := ⟨lives[j], List.getElem?_eq_getElem (by omega)⟩
                        have hcell2 := life_cell (cap := cap58) hu (g := g2)
                        obtain ⟨hu1, hu2, hu3⟩ := hI.there u (List.mem_of_getElem? hu)
                        have hku : u.key.size = kN (lay5 xs) := by
                          have := hP.hT.okc u.slot hu1
                          rw [hu2] at this
                          exact this.2.2.1
                        have hwu : 0 ≤ u.hash ∧ u.hash < 18446744073709551616 := by rw [hu3]; exact planH_wf h0 hwf _ _
                        have hus : u.slot < 8 * n := hu1
                        refine t_skip <| n_code <| t_seq <| t_block <| sr <| l_q rfl (q_indexAddr rfl rfl yU65 yS71 (by omega)) ?_
                        apply l_q rfl
                        · apply q_loadRA (A := ownS 71 5 (.slice (some ⟨g2, 0, none⟩) lives.length cap58) lives.length (rowOf Life.cells lives)) (us := [.string u.key, .string u.elem, .int .u64 u.hash, .int .i64 u.birth, .int .i64 (u.slot : Nat)]) rfl yA71 yS71 rfl
                          · exact tk
                          · exact hcell2
                        refine o_allocA rfl yZ71 fun b20 => sta rfl rfl rfl yS71 rfl rfl ?_
                        refine lz <| l_q rfl (qfa 0 rfl yU71 rfl rfl yS9) <| l_q rfl (qld rfl yA9) ?_
                        refine l_q rfl (qfa 2 rfl yU41 rfl rfl yS9) <| l_q rfl (qld rfl yA9) ?_
                        refine l_q rfl (qs rfl rfl (b_eqlS ·)) <| mv rfl rfl <| l_pt (t := 133) rfl (fun m1 => ?_) fun m1 => ?_
                        · refine l_off rfl rfl rfl rfl <| l_off rfl rfl rfl rfl <| l_off rfl rfl rfl rfl <| l_off rfl rfl rfl rfl <| l_off rfl rfl rfl rfl <| l_q rfl (q_pk rfl rfl) <| lc <| t_cond_t rfl <| t_draw mixed ?_
                          apply dq 0 rfl
                          · exact yq (qld rfl yA60)
                          apply dq 1 rfl
                          · exact yq (q_nilCheck rfl)
                          apply dq 2 rfl
                          · exact yq (qfa 10 rfl yU69 rfl rfl yS67)
                          apply dq 3 rfl
                          · exact yq (qlda rfl yA67 yS67)
                          apply dq 4 rfl
                          · exact yq (qfa 2 rfl yU71 rfl rfl yS24)
                          apply dq 5 rfl
                          · exact yq (qld rfl yA24)
                          apply dq 6 rfl
                          · exact yq (qfa 0 rfl yU71 rfl rfl yS9)
                          apply dq 7 rfl
                          · exact yq (qld rfl yA9)
                          refine d_eff1 [3, 5, 7, 2, 4, 6, 1, 0] [] 8 [(143, _), (145, _), (147, _)] gO ⟨rfl, rfl, rfl, trivial⟩ (by kernel_rfl) (by kernel_rfl) fun Ex => ?_
                          refine lcf rfl rfl rfl (Delete_ok G hG pa off go n e s2 (lay5 xs) T2 hP2 u.hash hwu u.key hku (by omega) (by omega)) ?_
                          rintro v L' ⟨s3, rfl, rfl, hP3, _⟩
                          refine l_nm ?_
                          refine l_nil ?_
                          apply n_d
                          · exact trivial
                          refine d_end (by kernel_rfl) ?_
                          refine n_blk <| n_code <| t_region <| l_q rfl (qadd rfl rfl) ?_
                          refine mv rfl rfl <| l_nil ?_
                          apply n_again ((j + 1, s3, (delT n T2 u.hash u.key).2))
                          · exact ⟨by dsimp only; omega, hP3, TCnt.del (b := (delT n T2 u.hash u.key).1) hC2 (delR hn0.1)⟩
                          · dsimp only; omega
                          · exact ⟨rfl, rfl, rfl, rfl, rfl, rfl, rfl, rfl, rfl, trivial⟩
                          · exact en
                        · refine l_on rfl rfl <| l_q rfl (qfa 4 rfl yU71 rfl rfl yS3) <| l_on rfl rfl <| l_q rfl (qld rfl yA3) ?_
                          refine l_on rfl rfl <| mv rfl rfl <| l_on rfl rfl <| l_q rfl (qadd rfl rfl) ?_
                          refine l_on rfl rfl <| l_q rfl (qi rfl rfl (b_eql ·)) <| l_q rfl (q_pk rfl rfl) <| lc <| t_if rfl (fun m2 => ?_) fun m2 => ?_
                          · refine t_draw mixed ?_
                            apply dq 0 rfl
                            · exact yq (qld rfl yA60)
                            apply dq 1 rfl
                            · exact yq (q_nilCheck rfl)
                            apply dq 2 rfl
                            · exact yq (qfa 10 rfl yU69 rfl rfl yS67)
                            apply dq 3 rfl
                            · exact yq (qlda rfl yA67 yS67)
                            apply dq 4 rfl
                            · exact yq (qfa 2 rfl yU71 rfl rfl yS24)
                            apply dq 5 rfl
                            · exact yq (qld rfl yA24)
                            apply dq 6 rfl
                            · exact yq (qfa 0 rfl yU71 rfl rfl yS9)
                            apply dq 7 rfl
                            · exact yq (qld rfl yA9)
                            refine d_eff1 [3, 5, 7, 2, 4, 6, 1, 0] [] 8 [(143, _), (145, _), (147, _)] gO ⟨rfl, rfl, rfl, trivial⟩ (by kernel_rfl) (by kernel_rfl) fun Ex => ?_
                            refine lcf rfl rfl rfl (Delete_ok G hG pa off go n e s2 (lay5 xs) T2 hP2 u.hash hwu u.key hku (by omega) (by omega)) ?_
                            rintro v L' ⟨s3, rfl, rfl, hP3, _⟩
                            refine l_nm ?_
                            refine l_nil ?_
                            apply n_d
                            · exact trivial
                            refine d_end (by kernel_rfl) ?_
                            refine n_blk <| n_code <| t_region <| l_q rfl (qadd rfl rfl) ?_
                            refine mv rfl rfl <| l_nil ?_
                            apply n_again ((j + 1, s3, (delT n T2 u.hash u.key).2))
                            · exact ⟨by dsimp only; omega, hP3, TCnt.del (b := (delT n T2 u.hash u.key).1) hC2 (delR hn0.1)⟩
                            · dsimp only; omega
                            · exact ⟨rfl, rfl, rfl, rfl, rfl, rfl, rfl, rfl, rfl, trivial⟩
                            · exact en
                          · refine t_skip <| n_blk <| n_code <| t_region <| l_q rfl (qadd rfl rfl) ?_
                            refine mv rfl rfl <| l_nil ?_
                            apply n_again ((j + 1, s2, T2))
                            · exact ⟨by dsimp only; omega, hP2, hC2⟩
                            · dsimp only; omega
                            · exact ⟨rfl, rfl, rfl, rfl, rfl, rfl, rfl, rfl, rfl, trivial⟩
                            · exact en
                      · refine xt rfl <| n_code <| t_seq <| t_draw mixed ?_
                        apply dq 0 rfl
                        · exact yq (qld rfl yA60)
                        apply dq 1 rfl
                        · exact yq (q_nilCheck rfl)
                        apply dq 2 rfl
                        · exact yq (qfa 10 rfl yU69 rfl rfl yS67)
                        apply dq 3 rfl
                        · exact yq (qlda rfl yA67 yS67)
                        apply dq 4 rfl
                        · exact yq (qld rfl yA60)
                        apply dq 5 rfl
                        · exact yq (q_nilCheck rfl)
                        apply dq 6 rfl
                        · exact yq (qfa 21 rfl yU69 rfl rfl yS59)
                        apply dq 7 rfl
                        · exact yq (qfa 2 rfl yU59 rfl rfl yS56)
                        apply dq 8 rfl
                        · exact yq (qld rfl yA56)
                        apply dq 9 rfl
                        · apply yq
                          first | exact q_indexAddrC 0 rfl rfl yU56 yS24 (by omega) | exact q_indexAddr1 rfl rfl yU56 yS24 (by omega)
                        apply dq 10 rfl
                        · exact yq (q_loadR (A := G) (v := .int .u64 hv0) rfl yA24 tk (hh1 0 hv0 hhv0))
                        apply dq 11 rfl
                        · exact yq (qld rfl yA3)
                        apply dq 12 rfl
                        · exact yq (qadd rfl rfl)
                        apply dq 13 rfl
                        · exact yq (qld rfl yA60)
                        apply dq 14 rfl
                        · exact yq (q_nilCheck rfl)
                        apply dq 15 rfl
                        · exact yq (qfa 1 rfl yU69 rfl rfl yS36)
                        apply dq 16 rfl
                        · exact yq (qfa 0 rfl yU36 rfl rfl yS3)
                        apply dq 17 rfl
                        · exact yq (qld rfl yA3)
                        apply dq 19 rfl
                        · exact yq (qld rfl yA3)
                        apply dq 20 rfl
                        · exact yq (qld rfl yA60)
                        apply dq 21 rfl
                        · exact yq (q_nilCheck rfl)
                        apply dq 22 rfl
                        · exact yq (qfa 1 rfl yU69 rfl rfl yS36)
                        apply dq 23 rfl
                        · exact yq (qfa 1 rfl yU36 rfl rfl yS3)
                        apply dq 24 rfl
                        · exact yq (qld rfl yA3)
                        refine d_eff1 [12, 17, 11, 16, 15, 14, 13] [24, 23, 22, 21, 20, 19, 10, 9, 8, 7, 6, 5, 4, 3, 2, 1, 0] 18 [(163, _), (168, _)] gO ⟨rfl, rfl, trivial⟩ (by kernel_rfl) (by kernel_rfl) fun Ex => ?_
                        refine lc1 rfl rfl rfl (text08_okI _ _ (kN (lay5 xs)) hN.k.symm (by have := hN.k; omega)) ?_
                        have hks2 : (textS (2000 + (((k : Nat) : Int) + 1)) (kN (lay5 xs))).size = kN (lay5 xs) := textS_size _ _
                        generalize textS (2000 + (((k : Nat) : Int) + 1)) (kN (lay5 xs)) = key2 at hks2 ⊢
                        refine l_nil ?_
                        apply n_d
                        · refine ⟨?_, ?_, ?_, ?_, ?_, ?_, ?_, ?_, ?_, ?_, ?_, ?_, ?_, ?_, ?_, ?_, ?_, trivial⟩
                          · apply ya rfl rfl; exact yq (qld rfl yA3)
                          · apply ya rfl rfl; exact yq (qfa 1 rfl yU36 rfl rfl yS3)
                          · apply ya rfl rfl; exact yq (qfa 1 rfl yU69 rfl rfl yS36)
                          · apply ya rfl rfl; exact yq (q_nilCheck rfl)
                          · apply ya rfl rfl; exact yq (qld rfl yA60)
                          · apply ya rfl rfl; exact yq (qld rfl yA3)
                          · apply ya rfl rfl; exact yq (q_loadR (A := G) (v := .int .u64 hv0) rfl yA24 tk (hh1 0 hv0 hhv0))
                          · apply ya rfl rfl
                            apply yq
                            first | exact q_indexAddrC 0 rfl rfl yU56 yS24 (by omega) | exact q_indexAddr1 rfl rfl yU56 yS24 (by omega)
                          · apply ya rfl rfl; exact yq (qld rfl yA56)
                          · apply ya rfl rfl; exact yq (qfa 2 rfl yU59 rfl rfl yS56)
                          · apply ya rfl rfl; exact yq (qfa 21 rfl yU69 rfl rfl yS59)
                          · apply ya rfl rfl; exact yq (q_nilCheck rfl)
                          · apply ya rfl rfl; exact yq (qld rfl yA60)
                          · apply ya rfl rfl; exact yq (qlda rfl yA67 yS67)
                          · apply ya rfl rfl; exact yq (qfa 10 rfl yU69 rfl rfl yS67)
                          · apply ya rfl rfl; exact yq (q_nilCheck rfl)
                          · apply ya rfl rfl; exact yq (qld rfl yA60)
                        refine d_eff1 [19, 24, 23, 22, 21, 20] [10, 9, 8, 7, 6, 5, 4, 3, 2, 1, 0] 25 [(170, _), (175, _)] gO ⟨rfl, rfl, trivial⟩ (by kernel_rfl) (by kernel_rfl) fun Ex => ?_
                        refine lc1 rfl rfl rfl (text08_okI _ _ (eN (lay5 xs)) hN.e.symm (by have := hN.e; omega)) ?_
                        have hes2 : (textS (((k : Nat) : Int) + 1) (eN (lay5 xs))).size = eN (lay5 xs) := textS_size _ _
                        generalize textS (((k : Nat) : Int) + 1) (eN (lay5 xs)) = elem2 at hes2 ⊢
                        refine l_nil ?_
                        apply n_d
                        · refine ⟨?_, ?_, ?_, ?_, ?_, ?_, ?_, ?_, ?_, ?_, ?_, trivial⟩
                          · apply ya rfl rfl; exact yq (q_loadR (A := G) (v := .int .u64 hv0) rfl yA24 tk (hh1 0 hv0 hhv0))
                          · apply ya rfl rfl
                            apply yq
                            first | exact q_indexAddrC 0 rfl rfl yU56 yS24 (by omega) | exact q_indexAddr1 rfl rfl yU56 yS24 (by omega)
                          · apply ya rfl rfl; exact yq (qld rfl yA56)
                          · apply ya rfl rfl; exact yq (qfa 2 rfl yU59 rfl rfl yS56)
                          · apply ya rfl rfl; exact yq (qfa 21 rfl yU69 rfl rfl yS59)
                          · apply ya rfl rfl; exact yq (q_nilCheck rfl)
                          · apply ya rfl rfl; exact yq (qld rfl yA60)
                          · apply ya rfl rfl; exact yq (qlda rfl yA67 yS67)
                          · apply ya rfl rfl; exact yq (qfa 10 rfl yU69 rfl rfl yS67)
                          · apply ya rfl rfl; exact yq (q_nilCheck rfl)
                          · apply ya rfl rfl; exact yq (qld rfl yA60)
                        refine d_eff1 [3, 10, 2, 9, 1, 8, 0, 7, 6, 5, 4] [] 26 [(154, _), (161, _), (169, _), (176, _)] gO ⟨rfl, rfl, rfl, rfl, trivial⟩ (by kernel_rfl) (by kernel_rfl) fun Ex => ?_
                        refine lcf rfl rfl rfl (Put_ok G hG pa off go n e s2 (lay5 xs) T2 hP2 hv0 hwv0 key2 elem2 hks2 hes2 5 (by omega) (by omega) (by omega)) ?_
                        rintro v L' ⟨s3, rfl, rfl, hP3, _⟩
                        refine l_nm ?_
                        refine l_nil ?_
                        apply n_d
                        · exact trivial
                        apply dq 27 rfl
                        · exact yq (q_move rfl)
                        apply dq 28 rfl
                        · exact yq (q_extractL rfl ga)
                        apply dq 29 rfl
                        · exact yq (q_extractL rfl ga)
                        refine d_eff1 [28, 27] [29] 30 [(178, _)] gO ⟨rfl, trivial⟩ (by kernel_rfl) (by kernel_rfl) fun Ex => ?_
                        refine asg rfl rfl <| l_nil ?_
                        apply n_d
                        · refine ⟨?_, trivial⟩
                          · apply ya rfl rfl; exact yq (q_extractL rfl ga)
                        refine d_eff1 [29] [] 31 [(179, _)] gO ⟨rfl, trivial⟩ (by kernel_rfl) (by kernel_rfl) fun Ex => ?_
                        refine asg rfl rfl <| l_nil ?_
                        apply n_d
                        · exact trivial
                        refine d_end (by kernel_rfl) ?_
                        refine nz <| mv rfl rfl <| lc1 rfl rfl rfl (num08_ok _) ?_
                        refine l_q rfl (qi rfl rfl (b_neq ·)) <| lc <| t_if rfl (fun y5 => ?_) fun y5 => ?_
                        · exact absurd rfl y5
                        · refine t_skip <| n_blk ?_
                          apply r_next (by assumption) (by assumption) ((s3, (putT n T2 hv0 key2 elem2 5).2, ((i1 : Nat) : Int))) (⟨hP3, TCnt.put (out := (putT n T2 hv0 key2 elem2 5).1) hC2 (putR hn0.1 (fun g hg => gk_onto hP.hn hg) elem2 5), hnext⟩)
                          exact en
          · rintro b1' ⟨s1, T1, last⟩ ⟨hP1, hC1, _⟩
            dsimp only at hP1 hC1 ⊢
            have hall : cnt isFull T.cells (8 * n) = lives.length := by have h1 := hI.used; have h2 := hI.cnt.used; omega
            rw [cellsV_len, hall]
            refine n_nm ?_
            refine n_blk <| n_code <| t_seq <| sr <| l_q rfl (qld rfl yA3) ?_
            refine l_q rfl (qld rfl yA65) ?_
            refine l_q rfl (ql rfl yU65) <| l_q rfl (qi rfl rfl (b_neq ·)) <| mv rfl rfl <| l_pt (t := 187) rfl (fun d1 => ?_) fun d1 => ?_
            · exact absurd rfl d1
            · refine l_off rfl rfl rfl rfl <| l_off rfl rfl rfl rfl <| l_off rfl rfl rfl rfl <| l_q rfl (q_pk rfl rfl) <| lc <| t_cond_f rfl <| t_skip <| nz <| o_alloc1 rfl yZ3 rfl fun b23 => o_alloc1 rfl yZ3 rfl fun b24 => st rfl rfl rfl yS3 rfl ?_
              refine st rfl rfl rfl yS3 rfl ?_
              refine lc <| t_seq <| sr <| l_q rfl (qld rfl yA46) ?_
              refine lc <| t_block ?_
              obtain ⟨N, hNd⟩ : ∃ N, N = cnt isFull T1.cells (8 * n) := ⟨_, rfl⟩
              have hN8 : N ≤ 1024 := by have := cnt_le isFull T1.cells (8 * n); omega
              have hlen1 : (cellsV T1.cells (8 * n)).length = N := by rw [cellsV_len, hNd]
              apply t_rangeH (p := (fun (k : Nat) (x : Nat) => x = (if k ≤ 2 then k else 2) * N)) (J := (fun k x => [pt b23 (.cells #[.int .i64 (k : Nat)] 3 (0, 0)), pt b24 (.cells #[.int .i64 (x : Nat)] 3 (0, 0)), pt b4 (.cells #[.bool false] 4 (0, 0)), pt b5 (.cells #[.pointer (some ⟨pb, 0, none⟩)] 60 (0, 0)), pt b13 (.cells #[.func (.func 39) #[] #[.pointer (some ⟨bc, 0, none⟩)]] 46 (0, 0)), pt pb (.cells #[.pointer (some ⟨pa, 0, none⟩), .int .i64 (lay5 xs).key, .int .i64 (lay5 xs).elem, .int .i64 (lay5 xs).ka, .int .i64 (lay5 xs).ea, .int .i64 (lay5 xs).cap, .int .i64 (lay5 xs).eo, .int .i64 (lay5 xs).bo, .int .i64 (lay5 xs).slot, .int .i64 (lay5 xs).group, .pointer (some ⟨pa, 0, none⟩), .int .i64 (lay5 xs).key, .int .i64 (lay5 xs).elem, .int .i64 (lay5 xs).ka, .int .i64 (lay5 xs).ea, .int .i64 (lay5 xs).cap, .int .i64 (lay5 xs).eo, .int .i64 (lay5 xs).bo, .int .i64 (lay5 xs).slot, .int .i64 (lay5 xs).group, .int .i64 ((off : Nat) : Int), vf, .int .i64 (8 * (n : Int)), (.slice (some ⟨gb, go1, none⟩) hs.length cap1), (.slice ta ts.length tcap), (.slice a0 lives.length cap), .int .i64 ((ad : Nat) : Int)] 69 (0, 0)), arenaH pa s1])) (q := (fun _ (y : Code × Unit) => False)) (Jx := (fun _ _ => [])) (x0 := 0) (hc := TCells_itS pa off go n e bc s1 (lay5 xs) T1 hP1) (hr := rfl) (hg := rfl)
              · exact pk
              · exact (by simp)
              · (try dsimp only); (try simp only [Int.natCast_zero, Nat.sub_zero]); exact pk
              · (try dsimp only); (try simp only [Int.natCast_zero, Nat.sub_zero]); exact pk
              · rfl
              · exact cellsV_two
              · intro l2 rc2 Fr2 w2 k x j hrd2 hpn2 hx2 hj2
                (try dsimp only at hj2)
                have hkN : k < N := by rw [← hlen1]; exact (List.getElem?_eq_some_iff.1 hx2).1
                obtain ⟨i2, hi8, hfi2, hck2, rfl⟩ := cellsV_at hx2
                have hkind2 := kind_full.2 hfi2
                have hjb : j ≤ 2 * N := by rw [hj2]; exact Nat.mul_le_mul_right N (by split <;> omega)
                refine t_nm ?_
                refine sr <| asg rfl rfl <| lr <| o_allocA rfl yZ41 fun b26 => sta rfl rfl rfl yS41 rfl rfl ?_
                refine l_nil ?_
                apply n_begin
                · exact tk
                · assumption
                refine t_block <| sr <| l_q rfl (qld rfl yA60) ?_
                refine l_q rfl (q_nilCheck rfl) <| l_q rfl (qfa 10 rfl yU69 rfl rfl yS67) <| l_q rfl (qlda rfl yA67 yS67) ?_
                refine mv rfl rfl <| lc1 rfl rfl rfl (Cell_okP pa off go n e s1 (lay5 xs) T1 hP1 i2 hi8) ?_
                refine mv rfl rfl <| l_q rfl (q_extractL rfl ga) ?_
                refine l_q rfl (q_extractL rfl ga) ?_
                refine o_allocA rfl yZ41 fun b27 => sta rfl rfl rfl yS41 rfl rfl ?_
                refine asg rfl rfl <| lc <| t_seq <| sr <| mv rfl rfl <| lc1 rfl rfl rfl (num08_ok _) ?_
                refine l_q rfl (qi rfl rfl (b_neq ·)) <| mv rfl rfl <| l_pt (t := 207) rfl (fun c1 => ?_) fun c1 => ?_
                · exact absurd rfl c1
                · refine l_on rfl rfl <| l_q rfl (qlda rfl yA41 yS41) ?_
                  refine l_on rfl rfl <| l_q rfl (qlda rfl yA41 yS41) ?_
                  refine l_on rfl rfl <| l_q rfl (q_bin rfl rfl (g_flat · yG41) fun w => b_neqFlat w yU41 yH41 (by kernel_rfl) (by kernel_rfl)) ?_
                  refine l_q rfl (q_pk rfl rfl) <| mv rfl rfl <| l_pt (t := 212) rfl (fun c2 => ?_) fun c2 => ?_
                  · simp at c2
                  · refine l_on rfl rfl <| l_q rfl (qfa 0 rfl yU41 rfl rfl yS3) <| l_on rfl rfl <| l_q rfl (qld rfl yA3) ?_
                    refine l_on rfl rfl <| l_q rfl (qi rfl rfl (b_neq ·)) <| l_q rfl (q_pk rfl rfl) <| lc <| t_if rfl (fun c3 => ?_) fun c3 => ?_
                    · exact absurd hkind2 c3
                    · refine t_skip <| nz <| l_q rfl (qld rfl yA3) ?_
                      refine l_q rfl (qadd rfl rfl) ?_
                      refine st rfl rfl rfl yS3 rfl ?_
                      refine lz <| l_q rfl (qld rfl yA3) ?_
                      refine l_q rfl (qi rfl rfl (b_lss ·)) <| lc <| t_if rfl (fun c4 => ?_) fun c4 => ?_
                      · refine sr <| l_q rfl (qld rfl yA46) ?_
                        refine lc <| t_block ?_
                        apply t_rangeNH (p := (fun (q : Nat) (y : Nat) => y = j + q)) (J := (fun _ y => [pt b24 (.cells #[.int .i64 (y : Nat)] 3 (0, 0)), arenaH pa s1])) (q := (fun _ (y : Code × Unit) => False)) (Jx := (fun _ _ => [])) (x0 := j) (hc := TCells_it pa off go n e bc s1 (lay5 xs) T1 hP1) (hr := rfl) (hg := rfl)
                        · exact tk
                        · exact pk
                        · exact rfl
                        · (try dsimp only); (try simp only [Int.natCast_zero, Nat.sub_zero]); exact pk
                        · (try dsimp only); (try simp only [Int.natCast_zero, Nat.sub_zero]); exact pk
                        · rfl
                        · exact cellsV_two
                        · intro l3 rc3 Fr3 w3 q x3 j3 hrd3 hpn3 hx3 hj3
                          have hqN : q < N := by rw [← hlen1]; exact (List.getElem?_eq_some_iff.1 hx3).1
                          obtain ⟨i3, hi83, hfi3, hck3, rfl⟩ := cellsV_at hx3
                          (try dsimp only at hj3)
                          refine t_nm ?_
                          refine t_skip ?_
                          apply n_begin
                          · exact tk
                          · assumption
                          refine t_block <| t_region <| l_q rfl (qld rfl yA3) ?_
                          refine l_q rfl (qadd rfl rfl) ?_
                          refine st rfl rfl rfl yS3 rfl ?_
                          refine l_nil <| n_blk ?_
                          apply r_next (by assumption) (by assumption) (j3 + 1) (by (try dsimp only); omega)
                          exact en
                        · intro j3 hj3
                          rw [hlen1] at hj3
                          refine n_nm ?_
                          refine n_blk <| n_blk ?_
                          apply r_next (by assumption) (by assumption) (j3) (by (try dsimp only at hj3 ⊢); rw [hj3, hj2, if_pos (by omega), if_pos (by omega), Nat.succ_mul])
                          exact en
                        · rintro q ⟨jc, y⟩ hq hq2
                          exact hq2.elim
                      · refine t_skip <| n_blk ?_
                        apply r_next (by assumption) (by assumption) (j) (by (try dsimp only); rw [hj2]; split <;> split <;> first | omega | (rw [show k = 2 by omega]))
                        exact en
              · intro b2' j2 hj2
                rw [hlen1] at hj2 ⊢
                (try dsimp only at hj2 ⊢)
                have hub := hC1.used
                have hjb : j2 ≤ 2 * N := by rw [hj2]; exact Nat.mul_le_mul_right N (by split <;> omega)
                refine n_nm ?_
                refine n_blk <| nz <| l_q rfl (qld rfl yA60) ?_
                refine l_q rfl (q_nilCheck rfl) <| l_q rfl (qfa 10 rfl yU69 rfl rfl yS67) <| l_q rfl (qlda rfl yA67 yS67) ?_
                refine lc1 rfl rfl rfl (StatP_ok pa off go n e s1 (lay5 xs) T1 hP1) ?_
                rw [hub, ← hNd]
                have hmm : (if (2 : Int) < ((N : Nat) : Int) then (2 : Int) else ((N : Nat) : Int)) * ((N : Nat) : Int) = ((j2 : Nat) : Int) := by
                  rw [hj2]
                  by_cases q : N ≤ 2
                  · rw [if_pos q, if_neg (by omega)]; push_cast; rfl
                  · rw [if_neg q, if_pos (by omega)]; push_cast; rfl
                refine mv rfl rfl <| l_q rfl (q_extractL rfl ga) ?_
                refine l_q rfl (q_extractL rfl ga) ?_
                refine o_allocA rfl yZ80 fun b29 => sta rfl rfl rfl yS80 rfl rfl ?_
                refine asg rfl rfl <| lz <| mv rfl rfl <| lc1 rfl rfl rfl (num08_ok _) ?_
                refine l_q rfl (qi rfl rfl (b_eql ·)) <| mv rfl rfl <| l_pt (t := 237) rfl (fun z1 => ?_) fun z1 => ?_
                · refine l_on rfl rfl <| l_q rfl (qld rfl yA3) ?_
                  refine l_on rfl rfl <| l_q rfl (qfa 0 rfl yU80 rfl rfl yS3) <| l_on rfl rfl <| l_q rfl (qld rfl yA3) ?_
                  refine l_on rfl rfl <| l_q rfl (qi rfl rfl (b_eql ·)) <| l_q rfl (q_pk rfl rfl) <| mv rfl rfl <| l_pt (t := 243) rfl (fun z2 => ?_) fun z2 => ?_
                  · refine l_on rfl rfl <| l_q rfl (qld rfl yA3) ?_
                    refine l_on rfl rfl <| l_q rfl (qld rfl yA3) ?_
                    refine l_on rfl rfl <| l_q rfl (q_min2 rfl rfl) <| l_on rfl rfl <| l_q rfl (qld rfl yA3) ?_
                    refine l_on rfl rfl <| l_q rfl (qmul rfl rfl) ?_
                    refine l_on rfl rfl <| l_q rfl (qi rfl rfl (b_eql ·)) <| l_q rfl (q_pk rfl rfl) <| st rfl rfl rfl yS4 rfl ?_
                    refine lc <| rt ?_
                    rw [hmm]
                    apply f_retm (.inl rfl) [b2', b1'] ([G])
                    · repeat (first | with_reducible exact TakeM.nil | apply TakeM.cons | with_reducible exact Take.here | apply Take.there)
                    · apply res1 rfl
                      · apply Rv.cellL rfl
                        · exact tk
                        · exact ga
                        · exact yA4
                    · exact ⟨by simp, rfl⟩
                    · exact en
                  · exact absurd rfl z2
                · exact absurd rfl z1
              · rintro b2' k ⟨jc, y⟩ hk hq
                exact hq.elim
          · rintro b1' k ⟨jc, s1, T1, last⟩ hk ⟨rfl, hst, hP1, hC1⟩
            dsimp only at hst hP1 hC1 ⊢
            refine t_nm ?_
            refine xt rfl <| n_code <| t_seq <| sr <| l_q rfl (qld rfl yA3) ?_
            refine l_q rfl (qld rfl yA65) ?_
            refine l_q rfl (ql rfl yU65) <| l_q rfl (qi rfl rfl (b_neq ·)) <| mv rfl rfl <| l_pt (t := 187) rfl (fun d1 => ?_) fun d1 => ?_
            · refine l_on rfl rfl <| l_q rfl (qld rfl yA3) ?_
              refine l_on rfl rfl <| l_q rfl (qld rfl yA3) ?_
              refine l_on rfl rfl <| l_q rfl (qi rfl rfl (b_neq ·)) <| l_q rfl (q_pk rfl rfl) <| lc <| t_if rfl (fun d2 => ?_) fun d2 => ?_
              · exact absurd hst d2
              · refine t_skip <| nz <| o_alloc1 rfl yZ3 rfl fun b23 => o_alloc1 rfl yZ3 rfl fun b24 => st rfl rfl rfl yS3 rfl ?_
                refine st rfl rfl rfl yS3 rfl ?_
                refine lc <| t_seq <| sr <| l_q rfl (qld rfl yA46) ?_
                refine lc <| t_block ?_
                obtain ⟨N, hNd⟩ : ∃ N, N = cnt isFull T1.cells (8 * n) := ⟨_, rfl⟩
                have hN8 : N ≤ 1024 := by have := cnt_le isFull T1.cells (8 * n); omega
                have hlen1 : (cellsV T1.cells (8 * n)).length = N := by rw [cellsV_len, hNd]
                apply t_rangeH (p := (fun (k : Nat) (x : Nat) => x = (if k ≤ 2 then k else 2) * N)) (J := (fun k x => [pt b23 (.cells #[.int .i64 (k : Nat)] 3 (0, 0)), pt b24 (.cells #[.int .i64 (x : Nat)] 3 (0, 0)), pt b4 (.cells #[.bool false] 4 (0, 0)), pt b5 (.cells #[.pointer (some ⟨pb, 0, none⟩)] 60 (0, 0)), pt b13 (.cells #[.func (.func 39) #[] #[.pointer (some ⟨bc, 0, none⟩)]] 46 (0, 0)), pt pb (.cells #[.pointer (some ⟨pa, 0, none⟩), .int .i64 (lay5 xs).key, .int .i64 (lay5 xs).elem, .int .i64 (lay5 xs).ka, .int .i64 (lay5 xs).ea, .int .i64 (lay5 xs).cap, .int .i64 (lay5 xs).eo, .int .i64 (lay5 xs).bo, .int .i64 (lay5 xs).slot, .int .i64 (lay5 xs).group, .pointer (some ⟨pa, 0, none⟩), .int .i64 (lay5 xs).key, .int .i64 (lay5 xs).elem, .int .i64 (lay5 xs).ka, .int .i64 (lay5 xs).ea, .int .i64 (lay5 xs).cap, .int .i64 (lay5 xs).eo, .int .i64 (lay5 xs).bo, .int .i64 (lay5 xs).slot, .int .i64 (lay5 xs).group, .int .i64 ((off : Nat) : Int), vf, .int .i64 (8 * (n : Int)), (.slice (some ⟨gb, go1, none⟩) hs.length cap1), (.slice ta ts.length tcap), (.slice a0 lives.length cap), .int .i64 ((ad : Nat) : Int)] 69 (0, 0)), arenaH pa s1])) (q := (fun _ (y : Code × Unit) => False)) (Jx := (fun _ _ => [])) (x0 := 0) (hc := TCells_itS pa off go n e bc s1 (lay5 xs) T1 hP1) (hr := rfl) (hg := rfl)
                · exact pk
                · exact (by simp)
                · (try dsimp only); (try simp only [Int.natCast_zero, Nat.sub_zero]); exact pk
                · (try dsimp only); (try simp only [Int.natCast_zero, Nat.sub_zero]); exact pk
                · rfl
                · exact cellsV_two
                · intro l2 rc2 Fr2 w2 k x j hrd2 hpn2 hx2 hj2
                  (try dsimp only at hj2)
                  have hkN : k < N := by rw [← hlen1]; exact (List.getElem?_eq_some_iff.1 hx2).1
                  obtain ⟨i2, hi8, hfi2, hck2, rfl⟩ := cellsV_at hx2
                  have hkind2 := kind_full.2 hfi2
                  have hjb : j ≤ 2 * N := by rw [hj2]; exact Nat.mul_le_mul_right N (by split <;> omega)
                  refine t_nm ?_
                  refine sr <| asg rfl rfl <| lr <| o_allocA rfl yZ41 fun b26 => sta rfl rfl rfl yS41 rfl rfl ?_
                  refine l_nil ?_
                  apply n_begin
                  · exact tk
                  · assumption
                  refine t_block <| sr <| l_q rfl (qld rfl yA60) ?_
                  refine l_q rfl (q_nilCheck rfl) <| l_q rfl (qfa 10 rfl yU69 rfl rfl yS67) <| l_q rfl (qlda rfl yA67 yS67) ?_
                  refine mv rfl rfl <| lc1 rfl rfl rfl (Cell_okP pa off go n e s1 (lay5 xs) T1 hP1 i2 hi8) ?_
                  refine mv rfl rfl <| l_q rfl (q_extractL rfl ga) ?_
                  refine l_q rfl (q_extractL rfl ga) ?_
                  refine o_allocA rfl yZ41 fun b27 => sta rfl rfl rfl yS41 rfl rfl ?_
                  refine asg rfl rfl <| lc <| t_seq <| sr <| mv rfl rfl <| lc1 rfl rfl rfl (num08_ok _) ?_
                  refine l_q rfl (qi rfl rfl (b_neq ·)) <| mv rfl rfl <| l_pt (t := 207) rfl (fun c1 => ?_) fun c1 => ?_
                  · exact absurd rfl c1
                  · refine l_on rfl rfl <| l_q rfl (qlda rfl yA41 yS41) ?_
                    refine l_on rfl rfl <| l_q rfl (qlda rfl yA41 yS41) ?_
                    refine l_on rfl rfl <| l_q rfl (q_bin rfl rfl (g_flat · yG41) fun w => b_neqFlat w yU41 yH41 (by kernel_rfl) (by kernel_rfl)) ?_
                    refine l_q rfl (q_pk rfl rfl) <| mv rfl rfl <| l_pt (t := 212) rfl (fun c2 => ?_) fun c2 => ?_
                    · simp at c2
                    · refine l_on rfl rfl <| l_q rfl (qfa 0 rfl yU41 rfl rfl yS3) <| l_on rfl rfl <| l_q rfl (qld rfl yA3) ?_
                      refine l_on rfl rfl <| l_q rfl (qi rfl rfl (b_neq ·)) <| l_q rfl (q_pk rfl rfl) <| lc <| t_if rfl (fun c3 => ?_) fun c3 => ?_
                      · exact absurd hkind2 c3
                      · refine t_skip <| nz <| l_q rfl (qld rfl yA3) ?_
                        refine l_q rfl (qadd rfl rfl) ?_
                        refine st rfl rfl rfl yS3 rfl ?_
                        refine lz <| l_q rfl (qld rfl yA3) ?_
                        refine l_q rfl (qi rfl rfl (b_lss ·)) <| lc <| t_if rfl (fun c4 => ?_) fun c4 => ?_
                        · refine sr <| l_q rfl (qld rfl yA46) ?_
                          refine lc <| t_block ?_
                          apply t_rangeNH (p := (fun (q : Nat) (y : Nat) => y = j + q)) (J := (fun _ y => [pt b24 (.cells #[.int .i64 (y : Nat)] 3 (0, 0)), arenaH pa s1])) (q := (fun _ (y : Code × Unit) => False)) (Jx := (fun _ _ => [])) (x0 := j) (hc := TCells_it pa off go n e bc s1 (lay5 xs) T1 hP1) (hr := rfl) (hg := rfl)
                          · exact tk
                          · exact pk
                          · exact rfl
                          · (try dsimp only); (try simp only [Int.natCast_zero, Nat.sub_zero]); exact pk
                          · (try dsimp only); (try simp only [Int.natCast_zero, Nat.sub_zero]); exact pk
                          · rfl
                          · exact cellsV_two
                          · intro l3 rc3 Fr3 w3 q x3 j3 hrd3 hpn3 hx3 hj3
                            have hqN : q < N := by rw [← hlen1]; exact (List.getElem?_eq_some_iff.1 hx3).1
                            obtain ⟨i3, hi83, hfi3, hck3, rfl⟩ := cellsV_at hx3
                            (try dsimp only at hj3)
                            refine t_nm ?_
                            refine t_skip ?_
                            apply n_begin
                            · exact tk
                            · assumption
                            refine t_block <| t_region <| l_q rfl (qld rfl yA3) ?_
                            refine l_q rfl (qadd rfl rfl) ?_
                            refine st rfl rfl rfl yS3 rfl ?_
                            refine l_nil <| n_blk ?_
                            apply r_next (by assumption) (by assumption) (j3 + 1) (by (try dsimp only); omega)
                            exact en
                          · intro j3 hj3
                            rw [hlen1] at hj3
                            refine n_nm ?_
                            refine n_blk <| n_blk ?_
                            apply r_next (by assumption) (by assumption) (j3) (by (try dsimp only at hj3 ⊢); rw [hj3, hj2, if_pos (by omega), if_pos (by omega), Nat.succ_mul])
                            exact en
                          · rintro q ⟨jc, y⟩ hq hq2
                            exact hq2.elim
                        · refine t_skip <| n_blk ?_
                          apply r_next (by assumption) (by assumption) (j) (by (try dsimp only); rw [hj2]; split <;> split <;> first | omega | (rw [show k = 2 by omega]))
                          exact en
                · intro b2' j2 hj2
                  rw [hlen1] at hj2 ⊢
                  (try dsimp only at hj2 ⊢)
                  have hub := hC1.used
                  have hjb : j2 ≤ 2 * N := by rw [hj2]; exact Nat.mul_le_mul_right N (by split <;> omega)
                  refine n_nm ?_
                  refine n_blk <| nz <| l_q rfl (qld rfl yA60) ?_
                  refine l_q rfl (q_nilCheck rfl) <| l_q rfl (qfa 10 rfl yU69 rfl rfl yS67) <| l_q rfl (qlda rfl yA67 yS67) ?_
                  refine lc1 rfl rfl rfl (StatP_ok pa off go n e s1 (lay5 xs) T1 hP1) ?_
                  rw [hub, ← hNd]
                  have hmm : (if (2 : Int) < ((N : Nat) : Int) then (2 : Int) else ((N : Nat) : Int)) * ((N : Nat) : Int) = ((j2 : Nat) : Int) := by
                    rw [hj2]
                    by_cases q : N ≤ 2
                    · rw [if_pos q, if_neg (by omega)]; push_cast; rfl
                    · rw [if_neg q, if_pos (by omega)]; push_cast; rfl
                  refine mv rfl rfl <| l_q rfl (q_extractL rfl ga) ?_
                  refine l_q rfl (q_extractL rfl ga) ?_
                  refine o_allocA rfl yZ80 fun b29 => sta rfl rfl rfl yS80 rfl rfl ?_
                  refine asg rfl rfl <| lz <| mv rfl rfl <| lc1 rfl rfl rfl (num08_ok _) ?_
                  refine l_q rfl (qi rfl rfl (b_eql ·)) <| mv rfl rfl <| l_pt (t := 237) rfl (fun z1 => ?_) fun z1 => ?_
                  · refine l_on rfl rfl <| l_q rfl (qld rfl yA3) ?_
                    refine l_on rfl rfl <| l_q rfl (qfa 0 rfl yU80 rfl rfl yS3) <| l_on rfl rfl <| l_q rfl (qld rfl yA3) ?_
                    refine l_on rfl rfl <| l_q rfl (qi rfl rfl (b_eql ·)) <| l_q rfl (q_pk rfl rfl) <| mv rfl rfl <| l_pt (t := 243) rfl (fun z2 => ?_) fun z2 => ?_
                    · refine l_on rfl rfl <| l_q rfl (qld rfl yA3) ?_
                      refine l_on rfl rfl <| l_q rfl (qld rfl yA3) ?_
                      refine l_on rfl rfl <| l_q rfl (q_min2 rfl rfl) <| l_on rfl rfl <| l_q rfl (qld rfl yA3) ?_
                      refine l_on rfl rfl <| l_q rfl (qmul rfl rfl) ?_
                      refine l_on rfl rfl <| l_q rfl (qi rfl rfl (b_eql ·)) <| l_q rfl (q_pk rfl rfl) <| st rfl rfl rfl yS4 rfl ?_
                      refine lc <| rt ?_
                      rw [hmm]
                      apply f_retm (.inl rfl) [b2', b1'] ([G])
                      · repeat (first | with_reducible exact TakeM.nil | apply TakeM.cons | with_reducible exact Take.here | apply Take.there)
                      · apply res1 rfl
                        · apply Rv.cellL rfl
                          · exact tk
                          · exact ga
                          · exact yA4
                      · exact ⟨by simp, rfl⟩
                      · exact en
                    · exact absurd rfl z2
                  · exact absurd rfl z1
                · rintro b2' k ⟨jc, y⟩ hk hq
                  exact hq.elim
            · refine l_off rfl rfl rfl rfl <| l_off rfl rfl rfl rfl <| l_off rfl rfl rfl rfl <| l_q rfl (q_pk rfl rfl) <| lc <| t_cond_f rfl <| t_skip <| nz <| o_alloc1 rfl yZ3 rfl fun b23 => o_alloc1 rfl yZ3 rfl fun b24 => st rfl rfl rfl yS3 rfl ?_
              refine st rfl rfl rfl yS3 rfl ?_
              refine lc <| t_seq <| sr <| l_q rfl (qld rfl yA46) ?_
              refine lc <| t_block ?_
              obtain ⟨N, hNd⟩ : ∃ N, N = cnt isFull T1.cells (8 * n) := ⟨_, rfl⟩
              have hN8 : N ≤ 1024 := by have := cnt_le isFull T1.cells (8 * n); omega
              have hlen1 : (cellsV T1.cells (8 * n)).length = N := by rw [cellsV_len, hNd]
              apply t_rangeH (p := (fun (k : Nat) (x : Nat) => x = (if k ≤ 2 then k else 2) * N)) (J := (fun k x => [pt b23 (.cells #[.int .i64 (k : Nat)] 3 (0, 0)), pt b24 (.cells #[.int .i64 (x : Nat)] 3 (0, 0)), pt b4 (.cells #[.bool false] 4 (0, 0)), pt b5 (.cells #[.pointer (some ⟨pb, 0, none⟩)] 60 (0, 0)), pt b13 (.cells #[.func (.func 39) #[] #[.pointer (some ⟨bc, 0, none⟩)]] 46 (0, 0)), pt pb (.cells #[.pointer (some ⟨pa, 0, none⟩), .int .i64 (lay5 xs).key, .int .i64 (lay5 xs).elem, .int .i64 (lay5 xs).ka, .int .i64 (lay5 xs).ea, .int .i64 (lay5 xs).cap, .int .i64 (lay5 xs).eo, .int .i64 (lay5 xs).bo, .int .i64 (lay5 xs).slot, .int .i64 (lay5 xs).group, .pointer (some ⟨pa, 0, none⟩), .int .i64 (lay5 xs).key, .int .i64 (lay5 xs).elem, .int .i64 (lay5 xs).ka, .int .i64 (lay5 xs).ea, .int .i64 (lay5 xs).cap, .int .i64 (lay5 xs).eo, .int .i64 (lay5 xs).bo, .int .i64 (lay5 xs).slot, .int .i64 (lay5 xs).group, .int .i64 ((off : Nat) : Int), vf, .int .i64 (8 * (n : Int)), (.slice (some ⟨gb, go1, none⟩) hs.length cap1), (.slice ta ts.length tcap), (.slice a0 lives.length cap), .int .i64 ((ad : Nat) : Int)] 69 (0, 0)), arenaH pa s1])) (q := (fun _ (y : Code × Unit) => False)) (Jx := (fun _ _ => [])) (x0 := 0) (hc := TCells_itS pa off go n e bc s1 (lay5 xs) T1 hP1) (hr := rfl) (hg := rfl)
              · exact pk
              · exact (by simp)
              · (try dsimp only); (try simp only [Int.natCast_zero, Nat.sub_zero]); exact pk
              · (try dsimp only); (try simp only [Int.natCast_zero, Nat.sub_zero]); exact pk
              · rfl
              · exact cellsV_two
              · intro l2 rc2 Fr2 w2 k x j hrd2 hpn2 hx2 hj2
                (try dsimp only at hj2)
                have hkN : k < N := by rw [← hlen1]; exact (List.getElem?_eq_some_iff.1 hx2).1
                obtain ⟨i2, hi8, hfi2, hck2, rfl⟩ := cellsV_at hx2
                have hkind2 := kind_full.2 hfi2
                have hjb : j ≤ 2 * N := by rw [hj2]; exact Nat.mul_le_mul_right N (by split <;> omega)
                refine t_nm ?_
                refine sr <| asg rfl rfl <| lr <| o_allocA rfl yZ41 fun b26 => sta rfl rfl rfl yS41 rfl rfl ?_
                refine l_nil ?_
                apply n_begin
                · exact tk
                · assumption
                refine t_block <| sr <| l_q rfl (qld rfl yA60) ?_
                refine l_q rfl (q_nilCheck rfl) <| l_q rfl (qfa 10 rfl yU69 rfl rfl yS67) <| l_q rfl (qlda rfl yA67 yS67) ?_
                refine mv rfl rfl <| lc1 rfl rfl rfl (Cell_okP pa off go n e s1 (lay5 xs) T1 hP1 i2 hi8) ?_
                refine mv rfl rfl <| l_q rfl (q_extractL rfl ga) ?_
                refine l_q rfl (q_extractL rfl ga) ?_
                refine o_allocA rfl yZ41 fun b27 => sta rfl rfl rfl yS41 rfl rfl ?_
                refine asg rfl rfl <| lc <| t_seq <| sr <| mv rfl rfl <| lc1 rfl rfl rfl (num08_ok _) ?_
                refine l_q rfl (qi rfl rfl (b_neq ·)) <| mv rfl rfl <| l_pt (t := 207) rfl (fun c1 => ?_) fun c1 => ?_
                · exact absurd rfl c1
                · refine l_on rfl rfl <| l_q rfl (qlda rfl yA41 yS41) ?_
                  refine l_on rfl rfl <| l_q rfl (qlda rfl yA41 yS41) ?_
                  refine l_on rfl rfl <| l_q rfl (q_bin rfl rfl (g_flat · yG41) fun w => b_neqFlat w yU41 yH41 (by kernel_rfl) (by kernel_rfl)) ?_
                  refine l_q rfl (q_pk rfl rfl) <| mv rfl rfl <| l_pt (t := 212) rfl (fun c2 => ?_) fun c2 => ?_
                  · simp at c2
                  · refine l_on rfl rfl <| l_q rfl (qfa 0 rfl yU41 rfl rfl yS3) <| l_on rfl rfl <| l_q rfl (qld rfl yA3) ?_
                    refine l_on rfl rfl <| l_q rfl (qi rfl rfl (b_neq ·)) <| l_q rfl (q_pk rfl rfl) <| lc <| t_if rfl (fun c3 => ?_) fun c3 => ?_
                    · exact absurd hkind2 c3
                    · refine t_skip <| nz <| l_q rfl (qld rfl yA3) ?_
                      refine l_q rfl (qadd rfl rfl) ?_
                      refine st rfl rfl rfl yS3 rfl ?_
                      refine lz <| l_q rfl (qld rfl yA3) ?_
                      refine l_q rfl (qi rfl rfl (b_lss ·)) <| lc <| t_if rfl (fun c4 => ?_) fun c4 => ?_
                      · refine sr <| l_q rfl (qld rfl yA46) ?_
                        refine lc <| t_block ?_
                        apply t_rangeNH (p := (fun (q : Nat) (y : Nat) => y = j + q)) (J := (fun _ y => [pt b24 (.cells #[.int .i64 (y : Nat)] 3 (0, 0)), arenaH pa s1])) (q := (fun _ (y : Code × Unit) => False)) (Jx := (fun _ _ => [])) (x0 := j) (hc := TCells_it pa off go n e bc s1 (lay5 xs) T1 hP1) (hr := rfl) (hg := rfl)
                        · exact tk
                        · exact pk
                        · exact rfl
                        · (try dsimp only); (try simp only [Int.natCast_zero, Nat.sub_zero]); exact pk
                        · (try dsimp only); (try simp only [Int.natCast_zero, Nat.sub_zero]); exact pk
                        · rfl
                        · exact cellsV_two
                        · intro l3 rc3 Fr3 w3 q x3 j3 hrd3 hpn3 hx3 hj3
                          have hqN : q < N := by rw [← hlen1]; exact (List.getElem?_eq_some_iff.1 hx3).1
                          obtain ⟨i3, hi83, hfi3, hck3, rfl⟩ := cellsV_at hx3
                          (try dsimp only at hj3)
                          refine t_nm ?_
                          refine t_skip ?_
                          apply n_begin
                          · exact tk
                          · assumption
                          refine t_block <| t_region <| l_q rfl (qld rfl yA3) ?_
                          refine l_q rfl (qadd rfl rfl) ?_
                          refine st rfl rfl rfl yS3 rfl ?_
                          refine l_nil <| n_blk ?_
                          apply r_next (by assumption) (by assumption) (j3 + 1) (by (try dsimp only); omega)
                          exact en
                        · intro j3 hj3
                          rw [hlen1] at hj3
                          refine n_nm ?_
                          refine n_blk <| n_blk ?_
                          apply r_next (by assumption) (by assumption) (j3) (by (try dsimp only at hj3 ⊢); rw [hj3, hj2, if_pos (by omega), if_pos (by omega), Nat.succ_mul])
                          exact en
                        · rintro q ⟨jc, y⟩ hq hq2
                          exact hq2.elim
                      · refine t_skip <| n_blk ?_
                        apply r_next (by assumption) (by assumption) (j) (by (try dsimp only); rw [hj2]; split <;> split <;> first | omega | (rw [show k = 2 by omega]))
                        exact en
              · intro b2' j2 hj2
                rw [hlen1] at hj2 ⊢
                (try dsimp only at hj2 ⊢)
                have hub := hC1.used
                have hjb : j2 ≤ 2 * N := by rw [hj2]; exact Nat.mul_le_mul_right N (by split <;> omega)
                refine n_nm ?_
                refine n_blk <| nz <| l_q rfl (qld rfl yA60) ?_
                refine l_q rfl (q_nilCheck rfl) <| l_q rfl (qfa 10 rfl yU69 rfl rfl yS67) <| l_q rfl (qlda rfl yA67 yS67) ?_
                refine lc1 rfl rfl rfl (StatP_ok pa off go n e s1 (lay5 xs) T1 hP1) ?_
                rw [hub, ← hNd]
                have hmm : (if (2 : Int) < ((N : Nat) : Int) then (2 : Int) else ((N : Nat) : Int)) * ((N : Nat) : Int) = ((j2 : Nat) : Int) := by
                  rw [hj2]
                  by_cases q : N ≤ 2
                  · rw [if_pos q, if_neg (by omega)]; push_cast; rfl
                  · rw [if_neg q, if_pos (by omega)]; push_cast; rfl
                refine mv rfl rfl <| l_q rfl (q_extractL rfl ga) ?_
                refine l_q rfl (q_extractL rfl ga) ?_
                refine o_allocA rfl yZ80 fun b29 => sta rfl rfl rfl yS80 rfl rfl ?_
                refine asg rfl rfl <| lz <| mv rfl rfl <| lc1 rfl rfl rfl (num08_ok _) ?_
                refine l_q rfl (qi rfl rfl (b_eql ·)) <| mv rfl rfl <| l_pt (t := 237) rfl (fun z1 => ?_) fun z1 => ?_
                · refine l_on rfl rfl <| l_q rfl (qld rfl yA3) ?_
                  refine l_on rfl rfl <| l_q rfl (qfa 0 rfl yU80 rfl rfl yS3) <| l_on rfl rfl <| l_q rfl (qld rfl yA3) ?_
                  refine l_on rfl rfl <| l_q rfl (qi rfl rfl (b_eql ·)) <| l_q rfl (q_pk rfl rfl) <| mv rfl rfl <| l_pt (t := 243) rfl (fun z2 => ?_) fun z2 => ?_
                  · refine l_on rfl rfl <| l_q rfl (qld rfl yA3) ?_
                    refine l_on rfl rfl <| l_q rfl (qld rfl yA3) ?_
                    refine l_on rfl rfl <| l_q rfl (q_min2 rfl rfl) <| l_on rfl rfl <| l_q rfl (qld rfl yA3) ?_
                    refine l_on rfl rfl <| l_q rfl (qmul rfl rfl) ?_
                    refine l_on rfl rfl <| l_q rfl (qi rfl rfl (b_eql ·)) <| l_q rfl (q_pk rfl rfl) <| st rfl rfl rfl yS4 rfl ?_
                    refine lc <| rt ?_
                    rw [hmm]
                    apply f_retm (.inl rfl) [b2', b1'] ([G])
                    · repeat (first | with_reducible exact TakeM.nil | apply TakeM.cons | with_reducible exact Take.here | apply Take.there)
                    · apply res1 rfl
                      · apply Rv.cellL rfl
                        · exact tk
                        · exact ga
                        · exact yA4
                    · exact ⟨by simp, rfl⟩
                    · exact en
                  · exact absurd rfl z2
                · exact absurd rfl z1
              · rintro b2' k ⟨jc, y⟩ hk hq
                exact hq.elim
end Go.Proofs.YtepkcjfmdenkcaaGreatDoor.Bench
