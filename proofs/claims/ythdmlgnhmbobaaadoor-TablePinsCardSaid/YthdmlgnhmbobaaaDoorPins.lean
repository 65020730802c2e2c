/- TablePins answers true. -/
import Derived.Test.YthdmlgnhmbobaaaDoorShape
set_option linter.unusedVariables false
set_option linter.unusedSimpArgs false
set_option maxRecDepth 100000
namespace Go.Proofs.YthdmlgnhmbobaaaDoor.Bench
open Go.RowKit Go.Proofs Go.Proofs.YthdmlgnhmbobaaaDoor.Eng Go.Proofs.YthdmlgnhmbobaaaDoor.Ty Go.Proofs.YthdmlgnhmbobaaaDoor.Bits Go.Proofs.YthdmlgnhmbobaaaDoor.Mem Go.Proofs.YthdmlgnhmbobaaaDoor.Search Go.Proofs.YthdmlgnhmbobaaaDoor.Arena Go.Proofs.YthdmlgnhmbobaaaDoor.CtrlB Go.Proofs.YthdmlgnhmbobaaaDoor.Ctrl Go.Proofs.YthdmlgnhmbobaaaDoor.Layout Go.Proofs.YthdmlgnhmbobaaaDoor.GroupB Go.Proofs.YthdmlgnhmbobaaaDoor.Group Go.Proofs.YthdmlgnhmbobaaaDoor.Probe Go.Proofs.YthdmlgnhmbobaaaDoor.TableB Go.Proofs.YthdmlgnhmbobaaaDoor.TableI Go.Proofs.YthdmlgnhmbobaaaDoor.Table Go.Proofs.YthdmlgnhmbobaaaDoor.Ref03


/-- A header's word turned, the counts and the cells are what they were. -/
theorem BI.head {n : Nat} {H : ByteArray → Int} {K : ByteArray → Prop} {T T' : Tb} {lives : List Life} {added : Nat} (hb : BI n H K T lives added) (h1 : T'.cells = T.cells) (h2 : T'.used = T.used) (h3 : T'.left = T.left) : BI n H K T' lives added :=
  ⟨hb.n0, ⟨by rw [h1]; exact hb.cnt.mixed, by rw [h1, h2]; exact hb.cnt.used, by rw [h1, h3]; exact hb.cnt.left, by rw [h3]; exact hb.cnt.room⟩, by rw [h1]; exact hb.key, fun v hv => by rw [h1]; exact hb.there v hv, by rw [h1]; exact hb.all, hb.uniq, by rw [h2]; exact hb.used, by unfold took; rw [h1]; exact hb.added, hb.isK⟩
def markC (t : Int × Int) : List Value := [.int .i64 t.1, .int .i64 t.2]
/-- A slice of marks that can be read in the piece A. -/
def MarksAt (A : HP) (v : Value) (ts : List (Int × Int)) : Prop := ∃ a cap, v = .slice a ts.length cap ∧ (0 < ts.length → ∃ b o, a = some ⟨b, o, none⟩ ∧ ∀ (i : Nat) t, ts[i]? = some t → ∀ (j : Nat) x, (markC t)[j]? = some x → CellAt A ⟨b, o + i * 2 + j, none⟩ x)
def markWf (t : Int × Int) : Prop := -9223372036854775808 ≤ t.2 ∧ t.2 ≤ 9223372036854775807
theorem cell_mark {A : HP} {ts : List (Int × Int)} {b o i : Nat} {t : Int × Int} (h : ∀ (i : Nat) t, ts[i]? = some t → ∀ (j : Nat) x, (markC t)[j]? = some x → CellAt A ⟨b, o + i * 2 + j, none⟩ x) (ht : ts[i]? = some t) :
    ∀ j x, [Value.int .i64 t.1, .int .i64 t.2][j]? = some x → CellAt A ((⟨b, o + (i : Int).toNat * 2, none⟩ : Addr).add j) x := fun j x hx => by
  rw [add_none, Int.toNat_natCast]
  exact h i t ht j x hx
theorem sat_left {A B : HP} {w : World} (h : Sat (stars [A, B]) w) : Sat A w := h.left
theorem cell_left {A B : HP} {a : Addr} {v : Value} (h : CellAt A a v) : CellAt (stars [A, B]) a v := fun w hs => h w (sat_left hs)
theorem cell_right {A : HP} {b o : Nat} {cs : Array Value} {tt : TypeId} {fr : Nat × Nat} {v : Value} (h : cs[o]? = some v) : CellAt (stars [A, pt b (.cells cs tt fr)]) ⟨b, o, none⟩ v := fun w hs => by
  have hs2 : Sat (stars (pt b (.cells cs tt fr) :: [])) w := hs.right
  have hb := hs2.block (b := b) .here
  simp [World.cell?, hb, h]
theorem TOff_ok (pa : Nat) (l : Lay) (off : Int) : FnOk Tryd.prog 25 #[.agg #[.pointer (some ⟨pa, 0, none⟩), .int .i64 l.key, .int .i64 l.elem, .int .i64 l.ka, .int .i64 l.ea, .int .i64 l.cap, .int .i64 l.eo, .int .i64 l.bo, .int .i64 l.slot, .int .i64 l.group, .int .i64 off]] [] (fun v L => v = .int .i64 off ∧ L = []) := by
  refine fn_intro en25 Tryd.func25 rfl rfl rfl ?_
  intro Fr w0
  refine t_nm ?_
  refine t_seq ?_
  refine t_region ?_
  refine o_boxA rfl rfl (fun b1 => ?_)
  refine l_q rfl (q_assign rfl) ?_
  refine l_nil ?_
  refine n_code ?_
  refine t_seq ?_
  refine t_region ?_
  first | refine l_q rfl (q_fieldAddr0 10 rfl Tryd.underlying36 rfl rfl ty_size3) ?_ | refine l_q rfl (q_fieldAddrK 10 rfl Tryd.underlying36 rfl rfl ty_size3) ?_
  refine l_q rfl (q_loadL rfl ty_agg3 tk ga) ?_
  refine l_q rfl (q_assign rfl) ?_
  refine l_nil ?_
  refine n_code ?_
  refine t_ret ?_
  apply f_ret (.inl rfl) ([])
  · apply res1 rfl
    · exact .tmp rfl
  · exact ⟨rfl, rfl⟩
  · exact en
set_option maxHeartbeats 4000000 in
theorem TablePins_ok (G : HP) (hG : TabOk G) (vf vm : Value) (xs : List Int) (ts : List (Int × Int)) (hA : IntsAt G vf xs) (hM : MarksAt G vm ts) (hmt : ts.length ≤ maxLen) (htw : ∀ t ∈ ts, markWf t) :
    FnOk Tryd.prog 5 #[vf, vm] [G] (fun v L => v = .bool true ∧ L = [G]) := by
  simp only [maxLen] at hmt
  obtain ⟨ta, tcap, rfl, hT0⟩ := hM
  obtain ⟨af, capf, rfl, hAA⟩ := hA
  have hA : IntsAt G (.slice af xs.length capf) xs := ⟨_, _, rfl, hAA⟩
  refine fn_intro en5 Tryd.func5 rfl rfl rfl ?_
  intro Fr w0
  refine t_nm ?_
  refine t_seq ?_
  refine t_region ?_
  refine l_q rfl (q_assign rfl) ?_
  refine l_nil ?_
  refine n_code ?_
  refine t_seq ?_
  refine t_region ?_
  refine l_q rfl (q_move rfl) ?_
  refine o_buildSlice1 [_, _] rfl rfl Tryd.underlying61 ty_size23 ty_zero23 rfl rfl rfl rfl (fun b21 => ?_)
  apply l_q rfl
  · apply q_buildS rfl ty_pl64 ty_zero64
    · apply FillR.one
      · repeat (first | exact PlAt.here | apply PlAt.there)
      · rfl
      · exact sa
      apply FillR.one
      · repeat (first | exact PlAt.here | apply PlAt.there)
      · rfl
      · exact sa
      apply FillR.one
      · repeat (first | exact PlAt.here | apply PlAt.there)
      · rfl
      · exact sa
      exact FillR.nil
  refine l_ent (L' := stars [G, pt b21 (.cells #[.int .u64 5, .int .u64 900] 23 (0, 0))] :: Fr) (fun w h => sat_all.2 ((show Ent _ ([G, pt b21 (.cells #[.int .u64 5, .int .u64 900] 23 (0, 0))] ++ Fr) by (exact en)) w h)) ?_
  have hG' : TabOk (stars [G, pt b21 (.cells #[.int .u64 5, .int .u64 900] 23 (0, 0))]) := fun i b hb => cell_left (hG i b hb)
  have hA' : IntsAt (stars [G, pt b21 (.cells #[.int .u64 5, .int .u64 900] 23 (0, 0))]) (.slice af xs.length capf) xs :=
    ⟨_, _, rfl, fun q => by obtain ⟨b, o, h3, h4⟩ := hAA q; exact ⟨b, o, h3, fun i x hx => cell_left (h4 i x hx)⟩⟩
  have hh : NumsAt .u64 (stars [G, pt b21 (.cells #[.int .u64 5, .int .u64 900] 23 (0, 0))]) (.slice (some ⟨b21, 0, none⟩) 2 2) [5, 900] := ⟨_, _, rfl, fun _ => ⟨b21, 0, rfl, fun i x hx => cell_right (by
    rw [Nat.zero_add]
    match i, hx with
    | 0, hx => cases hx; rfl
    | 1, hx => cases hx; rfl
    | i + 2, hx => simp at hx)⟩⟩
  have hwf : ∀ x ∈ ([5, 900] : List Int), 0 ≤ x ∧ x < 18446744073709551616 := by intro x hx; simp at hx; omega
  have hmx : ([5, 900] : List Int).length ≤ maxLen := by decide
  apply l_callf rfl rfl rfl (bench_ok (stars [G, pt b21 (.cells #[.int .u64 5, .int .u64 900] 23 (0, 0))]) _ _ _ xs [5, 900] hA' hh 16 (by omega))
  · exact pk
  rintro v L' (⟨rfl, rfl⟩ | ⟨pa, pb, off, go, n, e, s0, hle, hn, hsl, h0, rfl, rfl, hP0⟩)
  refine l_nm ?_
  · skip
    refine l_nm ?_
    refine l_q rfl (q_move rfl) ?_
    refine l_q rfl (q_extractL rfl ga) ?_
    refine l_q rfl (q_extractL rfl ga) ?_
    refine l_q rfl (q_extractL rfl ga) ?_
    refine l_q rfl (q_assign rfl) ?_
    refine l_q rfl (q_assign rfl) ?_
    refine l_q rfl (q_assign rfl) ?_
    refine l_nil ?_
    refine n_code ?_
    refine t_seq ?_
    refine t_seq ?_
    refine t_region ?_
    refine l_q rfl (q_move rfl) ?_
    refine l_q rfl (q_un rfl (fun w => u_not w)) ?_
    refine l_nil ?_
    refine n_code ?_
    first | refine t_cond_d rfl (fun p1 => ?_) (fun p1 => ?_) | refine t_cond_n rfl (fun p1 => ?_) (fun p1 => ?_) | refine t_cond rfl (fun p1 => ?_) (fun p1 => ?_)
    · refine t_seq ?_
      refine t_region ?_
      refine l_q rfl (q_assign rfl) ?_
      refine l_nil ?_
      refine n_code ?_
      refine t_ret ?_
      refine r_code ?_
      apply f_ret (.inl rfl) ([G])
      · apply res1 rfl
        · exact .tmp rfl
      · exact ⟨rfl, rfl⟩
      · exact fun w h => (show Ent (G :: pt b21 (.cells #[.int .u64 5, .int .u64 900] 23 (0, 0)) :: Fr) (G :: Fr) by (exact en)) w (sat_all.1 ((show Ent _ (stars [G, pt b21 (.cells #[.int .u64 5, .int .u64 900] 23 (0, 0))] :: Fr) by (exact en)) w h))
    · cases p1
  · skip
    have hn2 : n = 2 := by omega
    subst hn2
    have hI0 := bi_start (n := 2) (by decide) [5, 900] (kN (lay5 xs))
    refine l_nm ?_
    refine l_q rfl (q_move rfl) ?_
    refine l_q rfl (q_extractL rfl ga) ?_
    refine l_q rfl (q_extractL rfl ga) ?_
    refine l_q rfl (q_extractL rfl ga) ?_
    refine l_q rfl (q_assign rfl) ?_
    refine l_q rfl (q_assign rfl) ?_
    refine l_q rfl (q_assign rfl) ?_
    refine l_nil ?_
    refine n_code ?_
    refine t_seq ?_
    refine t_seq ?_
    refine t_region ?_
    refine l_q rfl (q_move rfl) ?_
    refine l_q rfl (q_un rfl (fun w => u_not w)) ?_
    refine l_nil ?_
    refine n_code ?_
    first | refine t_cond_d rfl (fun p1 => ?_) (fun p1 => ?_) | refine t_cond_n rfl (fun p1 => ?_) (fun p1 => ?_) | refine t_cond rfl (fun p1 => ?_) (fun p1 => ?_)
    · cases p1
    · refine t_skip ?_
      refine n_code ?_
      refine t_seq ?_
      refine t_seq ?_
      refine t_region ?_
      refine l_q rfl (q_move rfl) ?_
      refine l_q rfl (q_un rfl (fun w => u_not w)) ?_
      refine l_nil ?_
      refine n_code ?_
      first | refine t_cond_d rfl (fun p2 => ?_) (fun p2 => ?_) | refine t_cond_n rfl (fun p2 => ?_) (fun p2 => ?_) | refine t_cond rfl (fun p2 => ?_) (fun p2 => ?_)
      · cases p2
      · skip
        refine t_ent (show Ent _ (ownS 145 5 (.slice none 0 0) ([] : List Life).length (rowOf Life.cells []) :: _) from fun w h => own_nil h) ?_
        refine t_skip ?_
        refine n_code ?_
        refine t_seq ?_
        refine t_region ?_
        refine l_q rfl (q_assign rfl) ?_
        refine l_q rfl (q_assign rfl) ?_
        refine l_q rfl (q_assign rfl) ?_
        refine l_nil ?_
        refine n_code ?_
        refine t_seq ?_
        refine t_seq ?_
        refine t_region ?_
        refine l_q rfl (q_move rfl) ?_
        refine l_q rfl (q_len rfl (fun w => len_slice Tryd.underlying57 w)) ?_
        refine l_q rfl (q_move rfl) ?_
        refine l_nil ?_
        refine n_code ?_
        refine t_block ?_
        refine t_loop (fun x : Nat × ArS × Tb × List Life × Value × Nat => x.1 ≤ ts.length ∧ TabP x.2.1 off go (lay5 xs) 2 e x.2.2.1 ∧ BI 2 (planH [5, 900] (kN (lay5 xs))) (planK (kN (lay5 xs))) x.2.2.1 x.2.2.2.1 x.2.2.2.2.2 ∧ x.2.2.2.2.2 ≤ x.1 ∧ 0 ≤ x.2.2.1.pins ∧ x.2.2.1.pins ≤ 4611686018427387904 ∧ (x.2.2.1.kind = 2 ∨ x.2.2.1.kind = 4)) (fun x => [(31, .slice ta ts.length tcap), (5, .pointer (some ⟨pb, 0, none⟩)), (8, .int .i64 x.2.2.1.pins), (9, .int .i64 x.2.2.1.next), (10, .bool (decide (x.2.2.1.kind = 4))), (32, .int .i64 (ts.length : Nat)), (33, .int .i64 (x.1 : Nat))]) (fun x => pt pb (.cells #[.pointer (some ⟨pa, 0, none⟩), .int .i64 (lay5 xs).key, .int .i64 (lay5 xs).elem, .int .i64 (lay5 xs).ka, .int .i64 (lay5 xs).ea, .int .i64 (lay5 xs).cap, .int .i64 (lay5 xs).eo, .int .i64 (lay5 xs).bo, .int .i64 (lay5 xs).slot, .int .i64 (lay5 xs).group, .pointer (some ⟨pa, 0, none⟩), .int .i64 (lay5 xs).key, .int .i64 (lay5 xs).elem, .int .i64 (lay5 xs).ka, .int .i64 (lay5 xs).ea, .int .i64 (lay5 xs).cap, .int .i64 (lay5 xs).eo, .int .i64 (lay5 xs).bo, .int .i64 (lay5 xs).slot, .int .i64 (lay5 xs).group, .int .i64 ((off : Nat) : Int), (.slice af xs.length capf), .int .i64 16, (.slice (some ⟨b21, 0, none⟩) 2 2), (.slice none 0 0), x.2.2.2.2.1, .int .i64 ((x.2.2.2.2.2 : Nat) : Int)] 69 (0, 0)) :: ownS 145 5 x.2.2.2.2.1 x.2.2.2.1.length (rowOf Life.cells x.2.2.2.1) :: (stars [G, pt b21 (.cells #[.int .u64 5, .int .u64 900] 23 (0, 0))]) :: arenaH pa x.2.1 :: Fr) (fun x => ts.length - x.1) (0, s0, newT 2 0, [], .slice none 0 0, 0) ⟨Nat.zero_le _, hP0, hI0, Nat.le_refl _, Int.le_refl 0, (by show (0 : Int) ≤ 4611686018427387904; decide), .inl rfl⟩ ⟨rfl, rfl, rfl, rfl, rfl, rfl, rfl, trivial⟩ (by (exact en)) ?_
        rintro ⟨i, s1, T1, lives1, lv1, ad1⟩ ⟨hi, hP1, hI1, had1, hp0, hp1, hk1⟩
        dsimp only at hi hP1 hI1 had1 hp0 hp1 hk1 ⊢
        refine t_shape (e := 145) (sz := 5) (v := lv1) (n := lives1.length) (xs := rowOf Life.cells lives1) tk fun _ hsh => ?_
        obtain ⟨a0, cap, rfl, hsh, _, _⟩ := hsh
        have hneg : IntKind.i64.wrap (0 - T1.pins) = -T1.pins := by rw [wrap_i64 (by omega)]; omega
        refine t_seq ?_
        refine t_region ?_
        apply l_q rfl
        · apply q_bin rfl rfl (fun w => g_int w); exact fun w => b_lss w
        refine l_nil ?_
        refine n_code ?_
        refine t_seq ?_
        first | refine t_cond_d rfl (fun g1 => ?_) (fun g1 => ?_) | refine t_cond_n rfl (fun g1 => ?_) (fun g1 => ?_) | refine t_cond rfl (fun g1 => ?_) (fun g1 => ?_)
        · skip
          obtain ⟨tb, to, rfl, hT1⟩ := hT0 (by omega)
          obtain ⟨t, ht⟩ : ∃ t, ts[i]? = some t := ⟨ts[i], List.getElem?_eq_getElem (by omega)⟩
          have hcell := cell_mark hT1 ht
          have hw := htw t (List.mem_of_getElem? ht)
          unfold markWf at hw
          refine t_skip ?_
          refine n_code ?_
          refine t_seq ?_
          refine t_block ?_
          refine t_seq ?_
          refine t_region ?_
          refine l_q rfl (q_indexAddr rfl rfl Tryd.underlying57 ty_size66 (by omega)) ?_
          apply l_q rfl
          · apply q_loadRA (A := (stars [G, pt b21 (.cells #[.int .u64 5, .int .u64 900] 23 (0, 0))])) (us := [.int .i64 t.1, .int .i64 t.2]) rfl ty_agg66 ty_size66 rfl
            · exact tk
            · exact fun j x hx => cell_left (hcell j x hx)
          refine o_allocA rfl ty_zero66 (fun b12 => ?_)
          apply o_storeAggL rfl rfl rfl ty_size66 rfl rfl (by simp)
          · exact tk
          · exact sal
          refine l_nil ?_
          refine n_code ?_
          refine t_seq ?_
          refine t_seq ?_
          refine t_region ?_
          first | refine l_q rfl (q_fieldAddr0 0 rfl Tryd.underlying66 rfl rfl ty_size3) ?_ | refine l_q rfl (q_fieldAddrK 0 rfl Tryd.underlying66 rfl rfl ty_size3) ?_
          refine l_q rfl (q_loadL rfl ty_agg3 tk ga) ?_
          refine l_nil ?_
          refine n_code ?_
          refine t_block ?_
          refine t_seq ?_
          refine t_region ?_
          apply l_q rfl
          · apply q_bin rfl rfl (fun w => g_int w); exact fun w => b_eql w
          refine l_q rfl (q_assign rfl) ?_
          refine l_nil ?_
          refine n_code ?_
          first | refine t_cond_d rfl (fun k1 => ?_) (fun k1 => ?_) | refine t_cond_n rfl (fun k1 => ?_) (fun k1 => ?_) | refine t_cond rfl (fun k1 => ?_) (fun k1 => ?_)
          · refine t_seq ?_
            refine t_draw mixed ?_
            refine d_q 0 gO rfl rfl rfl rfl (yq (q_move rfl)) ?_
            refine d_q 1 gO rfl rfl rfl rfl (yq (q_nilCheck rfl)) ?_
            apply d_q 2 gO rfl rfl rfl rfl
            · apply yq
              first | exact q_fieldAddr0 10 rfl Tryd.underlying69 rfl rfl ty_size36 | exact q_fieldAddrK 10 rfl Tryd.underlying69 rfl rfl ty_size36
            refine d_q 3 gO rfl rfl rfl rfl (yq (q_loadAggL rfl ty_agg36 ty_size36 tk sb)) ?_
            apply d_q 4 gO rfl rfl rfl rfl
            · apply yq
              first | exact q_fieldAddr0 1 rfl Tryd.underlying66 rfl rfl ty_size3 | exact q_fieldAddrK 1 rfl Tryd.underlying66 rfl rfl ty_size3
            refine d_q 5 gO rfl rfl rfl rfl (yq (q_loadL rfl ty_agg3 tk ga)) ?_
            apply d_eff1 [3, 5, 2, 4, 1, 0] [] 6 [(45, _), (47, _)]
            · exact gO
            · exact ⟨rfl, rfl, trivial⟩
            · kernel_rfl
            · kernel_rfl
            intro Ex
            apply l_callf rfl rfl rfl (Pin_ok pa off go 2 e s1 (lay5 xs) T1 hP1 t.2 hw ⟨hp0, hp1⟩)
            · exact pk
            rintro v L' (⟨hbad, rfl, rfl⟩ | ⟨hb1, hb2, s1, rfl, rfl, hP1, _⟩)
            refine l_nm ?_
            · have hpe : T1.pins = T1.pins := rfl
              have hne : T1.next = T1.next := rfl
              have hke : decide (T1.kind = 4) = decide (T1.kind = 4) := rfl
              refine l_nm ?_
              refine l_nil ?_
              apply n_d
              · exact trivial
              refine d_q 7 gO rfl rfl rfl rfl (yq (q_move rfl)) ?_
              refine d_q 8 gO rfl rfl rfl rfl (yq (q_extractL rfl ga)) ?_
              refine d_q 9 gO rfl rfl rfl rfl (yq (q_extractL rfl ga)) ?_
              apply d_eff1 [8, 7] [9] 10 [(49, _)]
              · exact gO
              · exact ⟨rfl, trivial⟩
              · kernel_rfl
              · kernel_rfl
              intro Ex
              refine l_q rfl (q_assign rfl) ?_
              refine l_nil ?_
              apply n_d
              · refine ⟨?_, trivial⟩
                · exact yat gO rfl rfl rfl (yq (q_extractL rfl ga))
              apply d_eff1 [9] [] 11 [(50, _)]
              · exact gO
              · exact ⟨rfl, trivial⟩
              · kernel_rfl
              · kernel_rfl
              intro Ex
              refine l_q rfl (q_assign rfl) ?_
              refine l_nil ?_
              apply n_d
              · exact trivial
              refine d_end (by kernel_rfl) ?_
              refine n_code ?_
              refine t_seq ?_
              refine t_region ?_
              first | refine l_q rfl (q_fieldAddr0 1 rfl Tryd.underlying66 rfl rfl ty_size3) ?_ | refine l_q rfl (q_fieldAddrK 1 rfl Tryd.underlying66 rfl rfl ty_size3) ?_
              refine l_q rfl (q_loadL rfl ty_agg3 tk ga) ?_
              refine l_q rfl (q_move rfl) ?_
              refine l_q rfl (q_un rfl (fun w => u_neg w)) ?_
              apply l_q rfl
              · apply q_bin rfl rfl (fun w => g_int w); exact fun w => b_lss w
              refine l_q rfl (q_move rfl) ?_
              first | refine l_part_d (t := 56) rfl (fun q1 => ?_) (fun q1 => ?_) | refine l_part_n (t := 56) rfl (fun q1 => ?_) (fun q1 => ?_) | refine l_part (t := 56) rfl (fun q1 => ?_) (fun q1 => ?_)
              · refine l_off rfl rfl rfl rfl ?_
                refine l_off rfl rfl rfl rfl ?_
                refine l_off rfl rfl rfl rfl ?_
                refine l_off rfl rfl rfl rfl ?_
                refine l_off rfl rfl rfl rfl ?_
                first | refine l_q rfl (q_pick_t rfl rfl) ?_ | refine l_q rfl (q_pick_f rfl rfl) ?_
                refine l_nil ?_
                refine n_code ?_
                refine t_cond_t rfl ?_
                refine t_seq ?_
                refine t_region ?_
                refine l_q rfl (q_move rfl) ?_
                apply l_callf rfl rfl rfl (num08_ok _)
                · exact pk
                rintro v L' ⟨rfl, rfl⟩
                refine l_nm ?_
                apply l_q rfl
                · apply q_bin rfl rfl (fun w => g_int w); exact fun w => b_neq w
                refine l_q rfl (q_move rfl) ?_
                first | refine l_part_d (t := 66) rfl (fun c1 => ?_) (fun c1 => ?_) | refine l_part_n (t := 66) rfl (fun c1 => ?_) (fun c1 => ?_) | refine l_part (t := 66) rfl (fun c1 => ?_) (fun c1 => ?_)
                · exact absurd rfl c1
                · refine l_on rfl rfl ?_
                  refine l_q rfl (q_move rfl) ?_
                  refine l_on rfl rfl ?_
                  apply l_q rfl
                  · apply q_bin rfl rfl (fun w => g_int w); exact fun w => b_neq w
                  first | refine l_q rfl (q_pick_t rfl rfl) ?_ | refine l_q rfl (q_pick_f rfl rfl) ?_
                  refine l_nil ?_
                  refine n_code ?_
                  first | refine t_cond_d rfl (fun c2 => ?_) (fun c2 => ?_) | refine t_cond_n rfl (fun c2 => ?_) (fun c2 => ?_) | refine t_cond rfl (fun c2 => ?_) (fun c2 => ?_)
                  · exact absurd rfl c2
                  · refine t_skip ?_
                    refine n_blk ?_
                    refine n_code ?_
                    refine t_seq ?_
                    refine t_region ?_
                    refine l_q rfl (q_move rfl) ?_
                    refine l_q rfl (q_nilCheck rfl) ?_
                    first | refine l_q rfl (q_fieldAddr0 10 rfl Tryd.underlying69 rfl rfl ty_size36) ?_ | refine l_q rfl (q_fieldAddrK 10 rfl Tryd.underlying69 rfl rfl ty_size36) ?_
                    refine l_q rfl (q_loadAggL rfl ty_agg36 ty_size36 tk sb) ?_
                    apply l_callf rfl rfl rfl (StatP_ok pa off go 2 e s1 (lay5 xs) T1 hP1)
                    · exact pk
                    rintro v L' ⟨rfl, rfl⟩
                    refine l_nm ?_
                    refine l_q rfl (q_move rfl) ?_
                    refine l_q rfl (q_extractL rfl ga) ?_
                    refine l_q rfl (q_extractL rfl ga) ?_
                    refine o_allocA rfl ty_zero75 (fun b15 => ?_)
                    apply o_storeAggL rfl rfl rfl ty_size75 rfl rfl (by simp)
                    · exact tk
                    · exact sal
                    refine l_q rfl (q_assign rfl) ?_
                    refine l_nil ?_
                    refine n_code ?_
                    refine t_seq ?_
                    refine t_draw mixed ?_
                    refine d_q 0 gO rfl rfl rfl rfl (yq (q_move rfl)) ?_
                    refine d_q 1 gO rfl rfl rfl rfl (yq (q_nilCheck rfl)) ?_
                    apply d_q 2 gO rfl rfl rfl rfl
                    · apply yq
                      first | exact q_fieldAddr0 0 rfl Tryd.underlying69 rfl rfl ty_size30 | exact q_fieldAddrK 0 rfl Tryd.underlying69 rfl rfl ty_size30
                    refine d_q 3 gO rfl rfl rfl rfl (yq (q_loadL rfl ty_agg30 tk ga)) ?_
                    refine d_q 4 gO rfl rfl rfl rfl (yq (q_move rfl)) ?_
                    refine d_q 5 gO rfl rfl rfl rfl (yq (q_nilCheck rfl)) ?_
                    apply d_q 6 gO rfl rfl rfl rfl
                    · apply yq
                      first | exact q_fieldAddr0 10 rfl Tryd.underlying69 rfl rfl ty_size36 | exact q_fieldAddrK 10 rfl Tryd.underlying69 rfl rfl ty_size36
                    refine d_q 7 gO rfl rfl rfl rfl (yq (q_loadAggL rfl ty_agg36 ty_size36 tk sb)) ?_
                    apply d_eff1 [7, 6, 5, 4] [3, 2, 1, 0] 8 [(134, _)]
                    · exact gO
                    · exact ⟨rfl, trivial⟩
                    · kernel_rfl
                    · kernel_rfl
                    intro Ex
                    apply l_callf rfl rfl rfl (TOff_ok pa (lay5 xs) _)
                    · exact pk
                    rintro v L' ⟨rfl, rfl⟩
                    refine l_nm ?_
                    refine l_nil ?_
                    apply n_d
                    · refine ⟨?_, ?_, ?_, ?_, trivial⟩
                      · exact yat gO rfl rfl rfl (yq (q_loadL rfl ty_agg30 tk ga))
                      · refine yat gO rfl rfl rfl ?_
                        apply yq
                        first | exact q_fieldAddr0 0 rfl Tryd.underlying69 rfl rfl ty_size30 | exact q_fieldAddrK 0 rfl Tryd.underlying69 rfl rfl ty_size30
                      · exact yat gO rfl rfl rfl (yq (q_nilCheck rfl))
                      · exact yat gO rfl rfl rfl (yq (q_move rfl))
                    apply d_eff1 [3, 2, 1, 0] [] 9 [(130, _), (135, _)]
                    · exact gO
                    · exact ⟨rfl, rfl, trivial⟩
                    · kernel_rfl
                    · kernel_rfl
                    intro Ex
                    apply l_callf rfl rfl rfl (Load_okI pa s1 _ _ off 8 rfl rfl (by unfold wid; decide) (goodP.sub hP1.gh (by omega) (by omega) (by omega)))
                    · exact pk
                    rintro v L' ⟨rfl, rfl⟩
                    refine l_nm ?_
                    rw [show loadN s1.m off 8 = T1.kind by rw [show off = off + 8 * 0 by omega, hP1.hT.head 0 (by decide)]; show IntKind.u64.wrap T1.kind = T1.kind; rw [wrap_u64 (by omega)]]
                    refine l_nil ?_
                    apply n_d
                    · exact trivial
                    refine d_q 10 gO rfl rfl rfl rfl (yq (q_move rfl)) ?_
                    refine d_q 11 gO rfl rfl rfl rfl (yq (q_extractL rfl ga)) ?_
                    refine d_q 12 gO rfl rfl rfl rfl (yq (q_extractL rfl ga)) ?_
                    apply d_eff1 [11, 10] [12] 13 [(137, _)]
                    · exact gO
                    · exact ⟨rfl, trivial⟩
                    · kernel_rfl
                    · kernel_rfl
                    intro Ex
                    refine l_q rfl (q_assign rfl) ?_
                    refine l_nil ?_
                    apply n_d
                    · refine ⟨?_, trivial⟩
                      · exact yat gO rfl rfl rfl (yq (q_extractL rfl ga))
                    apply d_eff1 [12] [] 14 [(138, _)]
                    · exact gO
                    · exact ⟨rfl, trivial⟩
                    · kernel_rfl
                    · kernel_rfl
                    intro Ex
                    refine l_q rfl (q_assign rfl) ?_
                    refine l_nil ?_
                    apply n_d
                    · exact trivial
                    refine d_end (by kernel_rfl) ?_
                    refine n_code ?_
                    refine t_seq ?_
                    refine t_region ?_
                    refine l_q rfl (q_move rfl) ?_
                    apply l_callf rfl rfl rfl (num08_ok _)
                    · exact pk
                    rintro v L' ⟨rfl, rfl⟩
                    refine l_nm ?_
                    apply l_q rfl
                    · apply q_bin rfl rfl (fun w => g_int w); exact fun w => b_neq w
                    refine l_q rfl (q_move rfl) ?_
                    first | refine l_part_d (t := 142) rfl (fun d1 => ?_) (fun d1 => ?_) | refine l_part_n (t := 142) rfl (fun d1 => ?_) (fun d1 => ?_) | refine l_part (t := 142) rfl (fun d1 => ?_) (fun d1 => ?_)
                    · exact absurd rfl d1
                    · refine l_on rfl rfl ?_
                      refine l_q rfl (q_move rfl) ?_
                      refine l_on rfl rfl ?_
                      apply l_callf rfl rfl rfl (num08_ok _)
                      · exact pk
                      rintro v L' ⟨rfl, rfl⟩
                      refine l_nm ?_
                      refine l_on rfl rfl ?_
                      apply l_q rfl
                      · apply q_bin rfl rfl (fun w => g_int w); exact fun w => b_neq w
                      first | refine l_q rfl (q_pick_t rfl rfl) ?_ | refine l_q rfl (q_pick_f rfl rfl) ?_
                      refine l_q rfl (q_move rfl) ?_
                      first | refine l_part_d (t := 147) rfl (fun d2 => ?_) (fun d2 => ?_) | refine l_part_n (t := 147) rfl (fun d2 => ?_) (fun d2 => ?_) | refine l_part (t := 147) rfl (fun d2 => ?_) (fun d2 => ?_)
                      · exact absurd rfl d2
                      · refine l_on rfl rfl ?_
                        first | refine l_q rfl (q_fieldAddr0 4 rfl Tryd.underlying75 rfl rfl ty_size3) ?_ | refine l_q rfl (q_fieldAddrK 4 rfl Tryd.underlying75 rfl rfl ty_size3) ?_
                        refine l_on rfl rfl ?_
                        refine l_q rfl (q_loadL rfl ty_agg3 tk ga) ?_
                        refine l_on rfl rfl ?_
                        refine l_q rfl (q_move rfl) ?_
                        refine l_on rfl rfl ?_
                        apply l_q rfl
                        · apply q_bin rfl rfl (fun w => g_int w); exact fun w => b_neq w
                        first | refine l_q rfl (q_pick_t rfl rfl) ?_ | refine l_q rfl (q_pick_f rfl rfl) ?_
                        refine l_q rfl (q_move rfl) ?_
                        first | refine l_part_d (t := 153) rfl (fun d3 => ?_) (fun d3 => ?_) | refine l_part_n (t := 153) rfl (fun d3 => ?_) (fun d3 => ?_) | refine l_part (t := 153) rfl (fun d3 => ?_) (fun d3 => ?_)
                        · exact absurd hpe d3
                        · refine l_on rfl rfl ?_
                          first | refine l_q rfl (q_fieldAddr0 5 rfl Tryd.underlying75 rfl rfl ty_size3) ?_ | refine l_q rfl (q_fieldAddrK 5 rfl Tryd.underlying75 rfl rfl ty_size3) ?_
                          refine l_on rfl rfl ?_
                          refine l_q rfl (q_loadL rfl ty_agg3 tk ga) ?_
                          refine l_on rfl rfl ?_
                          refine l_q rfl (q_move rfl) ?_
                          refine l_on rfl rfl ?_
                          apply l_q rfl
                          · apply q_bin rfl rfl (fun w => g_int w); exact fun w => b_neq w
                          first | refine l_q rfl (q_pick_t rfl rfl) ?_ | refine l_q rfl (q_pick_f rfl rfl) ?_
                          refine l_q rfl (q_move rfl) ?_
                          first | refine l_part_d (t := 159) rfl (fun d4 => ?_) (fun d4 => ?_) | refine l_part_n (t := 159) rfl (fun d4 => ?_) (fun d4 => ?_) | refine l_part (t := 159) rfl (fun d4 => ?_) (fun d4 => ?_)
                          · exact absurd hne d4
                          · refine l_on rfl rfl ?_
                            first | refine l_q rfl (q_fieldAddr0 6 rfl Tryd.underlying75 rfl rfl ty_size4) ?_ | refine l_q rfl (q_fieldAddrK 6 rfl Tryd.underlying75 rfl rfl ty_size4) ?_
                            refine l_on rfl rfl ?_
                            refine l_q rfl (q_loadL rfl ty_agg4 tk ga) ?_
                            refine l_on rfl rfl ?_
                            refine l_q rfl (q_move rfl) ?_
                            refine l_on rfl rfl ?_
                            apply l_q rfl
                            · apply q_bin rfl rfl (fun w => g_bool w); exact fun w => b_neqB w Tryd.underlying4
                            first | refine l_q rfl (q_pick_t rfl rfl) ?_ | refine l_q rfl (q_pick_f rfl rfl) ?_
                            refine l_q rfl (q_move rfl) ?_
                            first | refine l_part_d (t := 165) rfl (fun d5 => ?_) (fun d5 => ?_) | refine l_part_n (t := 165) rfl (fun d5 => ?_) (fun d5 => ?_) | refine l_part (t := 165) rfl (fun d5 => ?_) (fun d5 => ?_)
                            · refine l_off rfl rfl rfl rfl ?_
                              refine l_off rfl rfl rfl rfl ?_
                              refine l_off rfl rfl rfl rfl ?_
                              refine l_off rfl rfl rfl rfl ?_
                              first | refine l_q rfl (q_pick_t rfl rfl) ?_ | refine l_q rfl (q_pick_f rfl rfl) ?_
                              refine l_q rfl (q_move rfl) ?_
                              refine l_off rfl rfl rfl rfl ?_
                              refine l_off rfl rfl rfl rfl ?_
                              refine l_off rfl rfl rfl rfl ?_
                              refine l_offu rfl rfl rfl ?_
                              refine l_offu rfl rfl rfl ?_
                              refine l_off rfl rfl rfl rfl ?_
                              first | refine l_q rfl (q_pick_t rfl rfl) ?_ | refine l_q rfl (q_pick_f rfl rfl) ?_
                              refine l_nil ?_
                              refine n_code ?_
                              refine t_cond_t rfl ?_
                              refine t_seq ?_
                              refine t_region ?_
                              refine l_q rfl (q_assign rfl) ?_
                              refine l_nil ?_
                              refine n_code ?_
                              refine t_ret ?_
                              refine r_blk ?_
                              refine r_code ?_
                              refine r_lp ?_
                              refine r_blk ?_
                              refine r_code ?_
                              exfalso
                              first | (rw [hke] at d5; simp at d5) | (simp at d5) | simp_all
                            · refine l_on rfl rfl ?_
                              refine l_q rfl (q_move rfl) ?_
                              refine l_on rfl rfl ?_
                              apply l_q rfl
                              · apply q_bin rfl rfl (fun w => g_int w); exact fun w => b_eql w
                              refine l_on rfl rfl ?_
                              refine l_q rfl (q_move rfl) ?_
                              refine l_on rfl rfl ?_
                              apply l_q rfl
                              · apply q_bin rfl rfl (fun w => g_bool w); exact fun w => b_neqB w Tryd.underlying4
                              first | refine l_q rfl (q_pick_t rfl rfl) ?_ | refine l_q rfl (q_pick_f rfl rfl) ?_
                              refine l_q rfl (q_move rfl) ?_
                              first | refine l_part_d (t := 171) rfl (fun d6 => ?_) (fun d6 => ?_) | refine l_part_n (t := 171) rfl (fun d6 => ?_) (fun d6 => ?_) | refine l_part (t := 171) rfl (fun d6 => ?_) (fun d6 => ?_)
                              · refine l_off rfl rfl rfl rfl ?_
                                refine l_off rfl rfl rfl rfl ?_
                                refine l_off rfl rfl rfl rfl ?_
                                refine l_offu rfl rfl rfl ?_
                                refine l_offu rfl rfl rfl ?_
                                refine l_off rfl rfl rfl rfl ?_
                                first | refine l_q rfl (q_pick_t rfl rfl) ?_ | refine l_q rfl (q_pick_f rfl rfl) ?_
                                refine l_nil ?_
                                refine n_code ?_
                                refine t_cond_t rfl ?_
                                refine t_seq ?_
                                refine t_region ?_
                                refine l_q rfl (q_assign rfl) ?_
                                refine l_nil ?_
                                refine n_code ?_
                                refine t_ret ?_
                                refine r_blk ?_
                                refine r_code ?_
                                refine r_lp ?_
                                refine r_blk ?_
                                refine r_code ?_
                                exfalso
                                first | (rw [hke] at d6; simp at d6) | (simp at d6) | simp_all
                              · refine l_on rfl rfl ?_
                                refine l_q rfl (q_move rfl) ?_
                                refine l_on rfl rfl ?_
                                apply l_q rfl
                                · apply q_bin rfl rfl (fun w => g_int w); exact fun w => b_neq w
                                refine l_on rfl rfl ?_
                                refine l_q rfl (q_move rfl) ?_
                                first | refine l_part_d (t := 174) rfl (fun d7 => ?_) (fun d7 => ?_) | refine l_part_n (t := 174) rfl (fun d7 => ?_) (fun d7 => ?_) | refine l_part (t := 174) rfl (fun d7 => ?_) (fun d7 => ?_)
                                · refine l_on rfl rfl ?_
                                  refine l_q rfl (q_move rfl) ?_
                                  refine l_on rfl rfl ?_
                                  apply l_q rfl
                                  · apply q_bin rfl rfl (fun w => g_int w); exact fun w => b_neq w
                                  refine l_on rfl rfl ?_
                                  first | refine l_q rfl (q_pick_t rfl rfl) ?_ | refine l_q rfl (q_pick_f rfl rfl) ?_
                                  first | refine l_q rfl (q_pick_t rfl rfl) ?_ | refine l_q rfl (q_pick_f rfl rfl) ?_
                                  refine l_nil ?_
                                  refine n_code ?_
                                  first | refine t_cond_d rfl (fun d8 => ?_) (fun d8 => ?_) | refine t_cond_n rfl (fun d8 => ?_) (fun d8 => ?_) | refine t_cond rfl (fun d8 => ?_) (fun d8 => ?_)
                                  · omega
                                  · refine t_skip ?_
                                    refine n_blk ?_
                                    refine n_code ?_
                                    refine t_region ?_
                                    apply l_q rfl
                                    · apply q_bin rfl rfl (fun w => g_int w); first | exact fun w => b_add_i w (by omega) | exact fun w => b_add w
                                    refine l_q rfl (q_move rfl) ?_
                                    refine l_nil ?_
                                    apply n_again ((i + 1, s1, T1, lives1, _, ad1))
                                    · exact ⟨by dsimp only; omega, hP1, hI1, by dsimp only; omega, hp0, hp1, hk1⟩
                                    · dsimp only; omega
                                    · exact ⟨rfl, rfl, by first | rfl | (rw [hpe]; done) | (rw [hpe]; rfl), by first | rfl | (rw [hne]; done) | (rw [hne]; rfl), by first | rfl | (rw [hke]; done) | (rw [hke]; rfl), rfl, rfl, trivial⟩
                                    · exact en
                                · refine l_off rfl rfl rfl rfl ?_
                                  refine l_off rfl rfl rfl rfl ?_
                                  refine l_on rfl rfl ?_
                                  first | refine l_q rfl (q_pick_t rfl rfl) ?_ | refine l_q rfl (q_pick_f rfl rfl) ?_
                                  first | refine l_q rfl (q_pick_t rfl rfl) ?_ | refine l_q rfl (q_pick_f rfl rfl) ?_
                                  refine l_nil ?_
                                  refine n_code ?_
                                  refine t_cond_f rfl ?_
                                  refine t_skip ?_
                                  refine n_blk ?_
                                  refine n_code ?_
                                  refine t_region ?_
                                  apply l_q rfl
                                  · apply q_bin rfl rfl (fun w => g_int w); first | exact fun w => b_add_i w (by omega) | exact fun w => b_add w
                                  refine l_q rfl (q_move rfl) ?_
                                  refine l_nil ?_
                                  apply n_again ((i + 1, s1, T1, lives1, _, ad1))
                                  · exact ⟨by dsimp only; omega, hP1, hI1, by dsimp only; omega, hp0, hp1, hk1⟩
                                  · dsimp only; omega
                                  · exact ⟨rfl, rfl, by first | rfl | (rw [hpe]; done) | (rw [hpe]; rfl), by first | rfl | (rw [hne]; done) | (rw [hne]; rfl), by first | rfl | (rw [hke]; done) | (rw [hke]; rfl), rfl, rfl, trivial⟩
                                  · exact en
              · refine l_on rfl rfl ?_
                first | refine l_q rfl (q_fieldAddr0 1 rfl Tryd.underlying66 rfl rfl ty_size3) ?_ | refine l_q rfl (q_fieldAddrK 1 rfl Tryd.underlying66 rfl rfl ty_size3) ?_
                refine l_on rfl rfl ?_
                refine l_q rfl (q_loadL rfl ty_agg3 tk ga) ?_
                refine l_on rfl rfl ?_
                refine l_q rfl (q_move rfl) ?_
                refine l_on rfl rfl ?_
                apply l_q rfl
                · apply q_bin rfl rfl (fun w => g_int w); first | exact fun w => b_sub_i w (by omega) | exact fun w => b_sub w
                refine l_on rfl rfl ?_
                apply l_q rfl
                · apply q_bin rfl rfl (fun w => g_int w); exact fun w => b_gtr w
                first | refine l_q rfl (q_pick_t rfl rfl) ?_ | refine l_q rfl (q_pick_f rfl rfl) ?_
                refine l_nil ?_
                refine n_code ?_
                rw [hneg] at q1
                first | refine t_cond_d rfl (fun q2 => ?_) (fun q2 => ?_) | refine t_cond_n rfl (fun q2 => ?_) (fun q2 => ?_) | refine t_cond rfl (fun q2 => ?_) (fun q2 => ?_)
                · refine t_seq ?_
                  refine t_region ?_
                  refine l_q rfl (q_move rfl) ?_
                  apply l_callf rfl rfl rfl (num08_ok _)
                  · exact pk
                  rintro v L' ⟨rfl, rfl⟩
                  refine l_nm ?_
                  apply l_q rfl
                  · apply q_bin rfl rfl (fun w => g_int w); exact fun w => b_neq w
                  refine l_q rfl (q_move rfl) ?_
                  first | refine l_part_d (t := 66) rfl (fun c1 => ?_) (fun c1 => ?_) | refine l_part_n (t := 66) rfl (fun c1 => ?_) (fun c1 => ?_) | refine l_part (t := 66) rfl (fun c1 => ?_) (fun c1 => ?_)
                  · exact absurd rfl c1
                  · refine l_on rfl rfl ?_
                    refine l_q rfl (q_move rfl) ?_
                    refine l_on rfl rfl ?_
                    apply l_q rfl
                    · apply q_bin rfl rfl (fun w => g_int w); exact fun w => b_neq w
                    first | refine l_q rfl (q_pick_t rfl rfl) ?_ | refine l_q rfl (q_pick_f rfl rfl) ?_
                    refine l_nil ?_
                    refine n_code ?_
                    first | refine t_cond_d rfl (fun c2 => ?_) (fun c2 => ?_) | refine t_cond_n rfl (fun c2 => ?_) (fun c2 => ?_) | refine t_cond rfl (fun c2 => ?_) (fun c2 => ?_)
                    · exact absurd rfl c2
                    · refine t_skip ?_
                      refine n_blk ?_
                      refine n_code ?_
                      refine t_seq ?_
                      refine t_region ?_
                      refine l_q rfl (q_move rfl) ?_
                      refine l_q rfl (q_nilCheck rfl) ?_
                      first | refine l_q rfl (q_fieldAddr0 10 rfl Tryd.underlying69 rfl rfl ty_size36) ?_ | refine l_q rfl (q_fieldAddrK 10 rfl Tryd.underlying69 rfl rfl ty_size36) ?_
                      refine l_q rfl (q_loadAggL rfl ty_agg36 ty_size36 tk sb) ?_
                      apply l_callf rfl rfl rfl (StatP_ok pa off go 2 e s1 (lay5 xs) T1 hP1)
                      · exact pk
                      rintro v L' ⟨rfl, rfl⟩
                      refine l_nm ?_
                      refine l_q rfl (q_move rfl) ?_
                      refine l_q rfl (q_extractL rfl ga) ?_
                      refine l_q rfl (q_extractL rfl ga) ?_
                      refine o_allocA rfl ty_zero75 (fun b15 => ?_)
                      apply o_storeAggL rfl rfl rfl ty_size75 rfl rfl (by simp)
                      · exact tk
                      · exact sal
                      refine l_q rfl (q_assign rfl) ?_
                      refine l_nil ?_
                      refine n_code ?_
                      refine t_seq ?_
                      refine t_draw mixed ?_
                      refine d_q 0 gO rfl rfl rfl rfl (yq (q_move rfl)) ?_
                      refine d_q 1 gO rfl rfl rfl rfl (yq (q_nilCheck rfl)) ?_
                      apply d_q 2 gO rfl rfl rfl rfl
                      · apply yq
                        first | exact q_fieldAddr0 0 rfl Tryd.underlying69 rfl rfl ty_size30 | exact q_fieldAddrK 0 rfl Tryd.underlying69 rfl rfl ty_size30
                      refine d_q 3 gO rfl rfl rfl rfl (yq (q_loadL rfl ty_agg30 tk ga)) ?_
                      refine d_q 4 gO rfl rfl rfl rfl (yq (q_move rfl)) ?_
                      refine d_q 5 gO rfl rfl rfl rfl (yq (q_nilCheck rfl)) ?_
                      apply d_q 6 gO rfl rfl rfl rfl
                      · apply yq
                        first | exact q_fieldAddr0 10 rfl Tryd.underlying69 rfl rfl ty_size36 | exact q_fieldAddrK 10 rfl Tryd.underlying69 rfl rfl ty_size36
                      refine d_q 7 gO rfl rfl rfl rfl (yq (q_loadAggL rfl ty_agg36 ty_size36 tk sb)) ?_
                      apply d_eff1 [7, 6, 5, 4] [3, 2, 1, 0] 8 [(134, _)]
                      · exact gO
                      · exact ⟨rfl, trivial⟩
                      · kernel_rfl
                      · kernel_rfl
                      intro Ex
                      apply l_callf rfl rfl rfl (TOff_ok pa (lay5 xs) _)
                      · exact pk
                      rintro v L' ⟨rfl, rfl⟩
                      refine l_nm ?_
                      refine l_nil ?_
                      apply n_d
                      · refine ⟨?_, ?_, ?_, ?_, trivial⟩
                        · exact yat gO rfl rfl rfl (yq (q_loadL rfl ty_agg30 tk ga))
                        · refine yat gO rfl rfl rfl ?_
                          apply yq
                          first | exact q_fieldAddr0 0 rfl Tryd.underlying69 rfl rfl ty_size30 | exact q_fieldAddrK 0 rfl Tryd.underlying69 rfl rfl ty_size30
                        · exact yat gO rfl rfl rfl (yq (q_nilCheck rfl))
                        · exact yat gO rfl rfl rfl (yq (q_move rfl))
                      apply d_eff1 [3, 2, 1, 0] [] 9 [(130, _), (135, _)]
                      · exact gO
                      · exact ⟨rfl, rfl, trivial⟩
                      · kernel_rfl
                      · kernel_rfl
                      intro Ex
                      apply l_callf rfl rfl rfl (Load_okI pa s1 _ _ off 8 rfl rfl (by unfold wid; decide) (goodP.sub hP1.gh (by omega) (by omega) (by omega)))
                      · exact pk
                      rintro v L' ⟨rfl, rfl⟩
                      refine l_nm ?_
                      rw [show loadN s1.m off 8 = T1.kind by rw [show off = off + 8 * 0 by omega, hP1.hT.head 0 (by decide)]; show IntKind.u64.wrap T1.kind = T1.kind; rw [wrap_u64 (by omega)]]
                      refine l_nil ?_
                      apply n_d
                      · exact trivial
                      refine d_q 10 gO rfl rfl rfl rfl (yq (q_move rfl)) ?_
                      refine d_q 11 gO rfl rfl rfl rfl (yq (q_extractL rfl ga)) ?_
                      refine d_q 12 gO rfl rfl rfl rfl (yq (q_extractL rfl ga)) ?_
                      apply d_eff1 [11, 10] [12] 13 [(137, _)]
                      · exact gO
                      · exact ⟨rfl, trivial⟩
                      · kernel_rfl
                      · kernel_rfl
                      intro Ex
                      refine l_q rfl (q_assign rfl) ?_
                      refine l_nil ?_
                      apply n_d
                      · refine ⟨?_, trivial⟩
                        · exact yat gO rfl rfl rfl (yq (q_extractL rfl ga))
                      apply d_eff1 [12] [] 14 [(138, _)]
                      · exact gO
                      · exact ⟨rfl, trivial⟩
                      · kernel_rfl
                      · kernel_rfl
                      intro Ex
                      refine l_q rfl (q_assign rfl) ?_
                      refine l_nil ?_
                      apply n_d
                      · exact trivial
                      refine d_end (by kernel_rfl) ?_
                      refine n_code ?_
                      refine t_seq ?_
                      refine t_region ?_
                      refine l_q rfl (q_move rfl) ?_
                      apply l_callf rfl rfl rfl (num08_ok _)
                      · exact pk
                      rintro v L' ⟨rfl, rfl⟩
                      refine l_nm ?_
                      apply l_q rfl
                      · apply q_bin rfl rfl (fun w => g_int w); exact fun w => b_neq w
                      refine l_q rfl (q_move rfl) ?_
                      first | refine l_part_d (t := 142) rfl (fun d1 => ?_) (fun d1 => ?_) | refine l_part_n (t := 142) rfl (fun d1 => ?_) (fun d1 => ?_) | refine l_part (t := 142) rfl (fun d1 => ?_) (fun d1 => ?_)
                      · exact absurd rfl d1
                      · refine l_on rfl rfl ?_
                        refine l_q rfl (q_move rfl) ?_
                        refine l_on rfl rfl ?_
                        apply l_callf rfl rfl rfl (num08_ok _)
                        · exact pk
                        rintro v L' ⟨rfl, rfl⟩
                        refine l_nm ?_
                        refine l_on rfl rfl ?_
                        apply l_q rfl
                        · apply q_bin rfl rfl (fun w => g_int w); exact fun w => b_neq w
                        first | refine l_q rfl (q_pick_t rfl rfl) ?_ | refine l_q rfl (q_pick_f rfl rfl) ?_
                        refine l_q rfl (q_move rfl) ?_
                        first | refine l_part_d (t := 147) rfl (fun d2 => ?_) (fun d2 => ?_) | refine l_part_n (t := 147) rfl (fun d2 => ?_) (fun d2 => ?_) | refine l_part (t := 147) rfl (fun d2 => ?_) (fun d2 => ?_)
                        · exact absurd rfl d2
                        · refine l_on rfl rfl ?_
                          first | refine l_q rfl (q_fieldAddr0 4 rfl Tryd.underlying75 rfl rfl ty_size3) ?_ | refine l_q rfl (q_fieldAddrK 4 rfl Tryd.underlying75 rfl rfl ty_size3) ?_
                          refine l_on rfl rfl ?_
                          refine l_q rfl (q_loadL rfl ty_agg3 tk ga) ?_
                          refine l_on rfl rfl ?_
                          refine l_q rfl (q_move rfl) ?_
                          refine l_on rfl rfl ?_
                          apply l_q rfl
                          · apply q_bin rfl rfl (fun w => g_int w); exact fun w => b_neq w
                          first | refine l_q rfl (q_pick_t rfl rfl) ?_ | refine l_q rfl (q_pick_f rfl rfl) ?_
                          refine l_q rfl (q_move rfl) ?_
                          first | refine l_part_d (t := 153) rfl (fun d3 => ?_) (fun d3 => ?_) | refine l_part_n (t := 153) rfl (fun d3 => ?_) (fun d3 => ?_) | refine l_part (t := 153) rfl (fun d3 => ?_) (fun d3 => ?_)
                          · exact absurd hpe d3
                          · refine l_on rfl rfl ?_
                            first | refine l_q rfl (q_fieldAddr0 5 rfl Tryd.underlying75 rfl rfl ty_size3) ?_ | refine l_q rfl (q_fieldAddrK 5 rfl Tryd.underlying75 rfl rfl ty_size3) ?_
                            refine l_on rfl rfl ?_
                            refine l_q rfl (q_loadL rfl ty_agg3 tk ga) ?_
                            refine l_on rfl rfl ?_
                            refine l_q rfl (q_move rfl) ?_
                            refine l_on rfl rfl ?_
                            apply l_q rfl
                            · apply q_bin rfl rfl (fun w => g_int w); exact fun w => b_neq w
                            first | refine l_q rfl (q_pick_t rfl rfl) ?_ | refine l_q rfl (q_pick_f rfl rfl) ?_
                            refine l_q rfl (q_move rfl) ?_
                            first | refine l_part_d (t := 159) rfl (fun d4 => ?_) (fun d4 => ?_) | refine l_part_n (t := 159) rfl (fun d4 => ?_) (fun d4 => ?_) | refine l_part (t := 159) rfl (fun d4 => ?_) (fun d4 => ?_)
                            · exact absurd hne d4
                            · refine l_on rfl rfl ?_
                              first | refine l_q rfl (q_fieldAddr0 6 rfl Tryd.underlying75 rfl rfl ty_size4) ?_ | refine l_q rfl (q_fieldAddrK 6 rfl Tryd.underlying75 rfl rfl ty_size4) ?_
                              refine l_on rfl rfl ?_
                              refine l_q rfl (q_loadL rfl ty_agg4 tk ga) ?_
                              refine l_on rfl rfl ?_
                              refine l_q rfl (q_move rfl) ?_
                              refine l_on rfl rfl ?_
                              apply l_q rfl
                              · apply q_bin rfl rfl (fun w => g_bool w); exact fun w => b_neqB w Tryd.underlying4
                              first | refine l_q rfl (q_pick_t rfl rfl) ?_ | refine l_q rfl (q_pick_f rfl rfl) ?_
                              refine l_q rfl (q_move rfl) ?_
                              first | refine l_part_d (t := 165) rfl (fun d5 => ?_) (fun d5 => ?_) | refine l_part_n (t := 165) rfl (fun d5 => ?_) (fun d5 => ?_) | refine l_part (t := 165) rfl (fun d5 => ?_) (fun d5 => ?_)
                              · refine l_off rfl rfl rfl rfl ?_
                                refine l_off rfl rfl rfl rfl ?_
                                refine l_off rfl rfl rfl rfl ?_
                                refine l_off rfl rfl rfl rfl ?_
                                first | refine l_q rfl (q_pick_t rfl rfl) ?_ | refine l_q rfl (q_pick_f rfl rfl) ?_
                                refine l_q rfl (q_move rfl) ?_
                                refine l_off rfl rfl rfl rfl ?_
                                refine l_off rfl rfl rfl rfl ?_
                                refine l_off rfl rfl rfl rfl ?_
                                refine l_offu rfl rfl rfl ?_
                                refine l_offu rfl rfl rfl ?_
                                refine l_off rfl rfl rfl rfl ?_
                                first | refine l_q rfl (q_pick_t rfl rfl) ?_ | refine l_q rfl (q_pick_f rfl rfl) ?_
                                refine l_nil ?_
                                refine n_code ?_
                                refine t_cond_t rfl ?_
                                refine t_seq ?_
                                refine t_region ?_
                                refine l_q rfl (q_assign rfl) ?_
                                refine l_nil ?_
                                refine n_code ?_
                                refine t_ret ?_
                                refine r_blk ?_
                                refine r_code ?_
                                refine r_lp ?_
                                refine r_blk ?_
                                refine r_code ?_
                                exfalso
                                first | (rw [hke] at d5; simp at d5) | (simp at d5) | simp_all
                              · refine l_on rfl rfl ?_
                                refine l_q rfl (q_move rfl) ?_
                                refine l_on rfl rfl ?_
                                apply l_q rfl
                                · apply q_bin rfl rfl (fun w => g_int w); exact fun w => b_eql w
                                refine l_on rfl rfl ?_
                                refine l_q rfl (q_move rfl) ?_
                                refine l_on rfl rfl ?_
                                apply l_q rfl
                                · apply q_bin rfl rfl (fun w => g_bool w); exact fun w => b_neqB w Tryd.underlying4
                                first | refine l_q rfl (q_pick_t rfl rfl) ?_ | refine l_q rfl (q_pick_f rfl rfl) ?_
                                refine l_q rfl (q_move rfl) ?_
                                first | refine l_part_d (t := 171) rfl (fun d6 => ?_) (fun d6 => ?_) | refine l_part_n (t := 171) rfl (fun d6 => ?_) (fun d6 => ?_) | refine l_part (t := 171) rfl (fun d6 => ?_) (fun d6 => ?_)
                                · refine l_off rfl rfl rfl rfl ?_
                                  refine l_off rfl rfl rfl rfl ?_
                                  refine l_off rfl rfl rfl rfl ?_
                                  refine l_offu rfl rfl rfl ?_
                                  refine l_offu rfl rfl rfl ?_
                                  refine l_off rfl rfl rfl rfl ?_
                                  first | refine l_q rfl (q_pick_t rfl rfl) ?_ | refine l_q rfl (q_pick_f rfl rfl) ?_
                                  refine l_nil ?_
                                  refine n_code ?_
                                  refine t_cond_t rfl ?_
                                  refine t_seq ?_
                                  refine t_region ?_
                                  refine l_q rfl (q_assign rfl) ?_
                                  refine l_nil ?_
                                  refine n_code ?_
                                  refine t_ret ?_
                                  refine r_blk ?_
                                  refine r_code ?_
                                  refine r_lp ?_
                                  refine r_blk ?_
                                  refine r_code ?_
                                  exfalso
                                  first | (rw [hke] at d6; simp at d6) | (simp at d6) | simp_all
                                · refine l_on rfl rfl ?_
                                  refine l_q rfl (q_move rfl) ?_
                                  refine l_on rfl rfl ?_
                                  apply l_q rfl
                                  · apply q_bin rfl rfl (fun w => g_int w); exact fun w => b_neq w
                                  refine l_on rfl rfl ?_
                                  refine l_q rfl (q_move rfl) ?_
                                  first | refine l_part_d (t := 174) rfl (fun d7 => ?_) (fun d7 => ?_) | refine l_part_n (t := 174) rfl (fun d7 => ?_) (fun d7 => ?_) | refine l_part (t := 174) rfl (fun d7 => ?_) (fun d7 => ?_)
                                  · refine l_on rfl rfl ?_
                                    refine l_q rfl (q_move rfl) ?_
                                    refine l_on rfl rfl ?_
                                    apply l_q rfl
                                    · apply q_bin rfl rfl (fun w => g_int w); exact fun w => b_neq w
                                    refine l_on rfl rfl ?_
                                    first | refine l_q rfl (q_pick_t rfl rfl) ?_ | refine l_q rfl (q_pick_f rfl rfl) ?_
                                    first | refine l_q rfl (q_pick_t rfl rfl) ?_ | refine l_q rfl (q_pick_f rfl rfl) ?_
                                    refine l_nil ?_
                                    refine n_code ?_
                                    first | refine t_cond_d rfl (fun d8 => ?_) (fun d8 => ?_) | refine t_cond_n rfl (fun d8 => ?_) (fun d8 => ?_) | refine t_cond rfl (fun d8 => ?_) (fun d8 => ?_)
                                    · omega
                                    · refine t_skip ?_
                                      refine n_blk ?_
                                      refine n_code ?_
                                      refine t_region ?_
                                      apply l_q rfl
                                      · apply q_bin rfl rfl (fun w => g_int w); first | exact fun w => b_add_i w (by omega) | exact fun w => b_add w
                                      refine l_q rfl (q_move rfl) ?_
                                      refine l_nil ?_
                                      apply n_again ((i + 1, s1, T1, lives1, _, ad1))
                                      · exact ⟨by dsimp only; omega, hP1, hI1, by dsimp only; omega, hp0, hp1, hk1⟩
                                      · dsimp only; omega
                                      · exact ⟨rfl, rfl, by first | rfl | (rw [hpe]; done) | (rw [hpe]; rfl), by first | rfl | (rw [hne]; done) | (rw [hne]; rfl), by first | rfl | (rw [hke]; done) | (rw [hke]; rfl), rfl, rfl, trivial⟩
                                      · exact en
                                  · refine l_off rfl rfl rfl rfl ?_
                                    refine l_off rfl rfl rfl rfl ?_
                                    refine l_on rfl rfl ?_
                                    first | refine l_q rfl (q_pick_t rfl rfl) ?_ | refine l_q rfl (q_pick_f rfl rfl) ?_
                                    first | refine l_q rfl (q_pick_t rfl rfl) ?_ | refine l_q rfl (q_pick_f rfl rfl) ?_
                                    refine l_nil ?_
                                    refine n_code ?_
                                    refine t_cond_f rfl ?_
                                    refine t_skip ?_
                                    refine n_blk ?_
                                    refine n_code ?_
                                    refine t_region ?_
                                    apply l_q rfl
                                    · apply q_bin rfl rfl (fun w => g_int w); first | exact fun w => b_add_i w (by omega) | exact fun w => b_add w
                                    refine l_q rfl (q_move rfl) ?_
                                    refine l_nil ?_
                                    apply n_again ((i + 1, s1, T1, lives1, _, ad1))
                                    · exact ⟨by dsimp only; omega, hP1, hI1, by dsimp only; omega, hp0, hp1, hk1⟩
                                    · dsimp only; omega
                                    · exact ⟨rfl, rfl, by first | rfl | (rw [hpe]; done) | (rw [hpe]; rfl), by first | rfl | (rw [hne]; done) | (rw [hne]; rfl), by first | rfl | (rw [hke]; done) | (rw [hke]; rfl), rfl, rfl, trivial⟩
                                    · exact en
                · omega
            · skip
              obtain ⟨T1, hT1e⟩ : ∃ T2, T2 = { T1 with pins := T1.pins + t.2 } := ⟨_, rfl⟩
              have hI1 := hI1.head (T' := T1) (by rw [hT1e]) (by rw [hT1e]) (by rw [hT1e])
              rw [← hT1e] at hP1
              have hpe := congrArg Tb.pins hT1e
              have hne := congrArg Tb.next hT1e
              have hke := congrArg (fun T : Tb => decide (T.kind = 4)) hT1e
              dsimp only at hpe hne hke
              have hk1 : T1.kind = 2 ∨ T1.kind = 4 := by rw [hT1e]; exact hk1
              have hp0 : 0 ≤ T1.pins := by omega
              have hp1 : T1.pins ≤ 4611686018427387904 := by omega
              refine l_nm ?_
              refine l_nil ?_
              apply n_d
              · exact trivial
              refine d_q 7 gO rfl rfl rfl rfl (yq (q_move rfl)) ?_
              refine d_q 8 gO rfl rfl rfl rfl (yq (q_extractL rfl ga)) ?_
              refine d_q 9 gO rfl rfl rfl rfl (yq (q_extractL rfl ga)) ?_
              apply d_eff1 [8, 7] [9] 10 [(49, _)]
              · exact gO
              · exact ⟨rfl, trivial⟩
              · kernel_rfl
              · kernel_rfl
              intro Ex
              refine l_q rfl (q_assign rfl) ?_
              refine l_nil ?_
              apply n_d
              · refine ⟨?_, trivial⟩
                · exact yat gO rfl rfl rfl (yq (q_extractL rfl ga))
              apply d_eff1 [9] [] 11 [(50, _)]
              · exact gO
              · exact ⟨rfl, trivial⟩
              · kernel_rfl
              · kernel_rfl
              intro Ex
              refine l_q rfl (q_assign rfl) ?_
              refine l_nil ?_
              apply n_d
              · exact trivial
              refine d_end (by kernel_rfl) ?_
              refine n_code ?_
              refine t_seq ?_
              refine t_region ?_
              first | refine l_q rfl (q_fieldAddr0 1 rfl Tryd.underlying66 rfl rfl ty_size3) ?_ | refine l_q rfl (q_fieldAddrK 1 rfl Tryd.underlying66 rfl rfl ty_size3) ?_
              refine l_q rfl (q_loadL rfl ty_agg3 tk ga) ?_
              refine l_q rfl (q_move rfl) ?_
              refine l_q rfl (q_un rfl (fun w => u_neg w)) ?_
              apply l_q rfl
              · apply q_bin rfl rfl (fun w => g_int w); exact fun w => b_lss w
              refine l_q rfl (q_move rfl) ?_
              first | refine l_part_d (t := 56) rfl (fun q1 => ?_) (fun q1 => ?_) | refine l_part_n (t := 56) rfl (fun q1 => ?_) (fun q1 => ?_) | refine l_part (t := 56) rfl (fun q1 => ?_) (fun q1 => ?_)
              · rw [hneg] at q1; omega
              · refine l_on rfl rfl ?_
                first | refine l_q rfl (q_fieldAddr0 1 rfl Tryd.underlying66 rfl rfl ty_size3) ?_ | refine l_q rfl (q_fieldAddrK 1 rfl Tryd.underlying66 rfl rfl ty_size3) ?_
                refine l_on rfl rfl ?_
                refine l_q rfl (q_loadL rfl ty_agg3 tk ga) ?_
                refine l_on rfl rfl ?_
                refine l_q rfl (q_move rfl) ?_
                refine l_on rfl rfl ?_
                apply l_q rfl
                · apply q_bin rfl rfl (fun w => g_int w); first | exact fun w => b_sub_i w (by omega) | exact fun w => b_sub w
                refine l_on rfl rfl ?_
                apply l_q rfl
                · apply q_bin rfl rfl (fun w => g_int w); exact fun w => b_gtr w
                first | refine l_q rfl (q_pick_t rfl rfl) ?_ | refine l_q rfl (q_pick_f rfl rfl) ?_
                refine l_nil ?_
                refine n_code ?_
                first | refine t_cond_d rfl (fun q2 => ?_) (fun q2 => ?_) | refine t_cond_n rfl (fun q2 => ?_) (fun q2 => ?_) | refine t_cond rfl (fun q2 => ?_) (fun q2 => ?_)
                · omega
                · refine t_seq ?_
                  refine t_region ?_
                  refine l_q rfl (q_move rfl) ?_
                  first | refine l_q rfl (q_fieldAddr0 1 rfl Tryd.underlying66 rfl rfl ty_size3) ?_ | refine l_q rfl (q_fieldAddrK 1 rfl Tryd.underlying66 rfl rfl ty_size3) ?_
                  refine l_q rfl (q_loadL rfl ty_agg3 tk ga) ?_
                  apply l_q rfl
                  · apply q_bin rfl rfl (fun w => g_int w); first | exact fun w => b_add_i w (by omega) | exact fun w => b_add w
                  refine l_q rfl (q_assign rfl) ?_
                  refine l_nil ?_
                  refine n_code ?_
                  refine t_seq ?_
                  refine t_region ?_
                  refine l_q rfl (q_move rfl) ?_
                  apply l_callf rfl rfl rfl (num08_ok _)
                  · exact pk
                  rintro v L' ⟨rfl, rfl⟩
                  refine l_nm ?_
                  apply l_q rfl
                  · apply q_bin rfl rfl (fun w => g_int w); exact fun w => b_neq w
                  refine l_q rfl (q_move rfl) ?_
                  first | refine l_part_d (t := 77) rfl (fun c1 => ?_) (fun c1 => ?_) | refine l_part_n (t := 77) rfl (fun c1 => ?_) (fun c1 => ?_) | refine l_part (t := 77) rfl (fun c1 => ?_) (fun c1 => ?_)
                  · exact absurd rfl c1
                  · refine l_on rfl rfl ?_
                    refine l_q rfl (q_move rfl) ?_
                    refine l_on rfl rfl ?_
                    refine l_q rfl (q_move rfl) ?_
                    refine l_on rfl rfl ?_
                    apply l_q rfl
                    · apply q_bin rfl rfl (fun w => g_int w); exact fun w => b_neq w
                    first | refine l_q rfl (q_pick_t rfl rfl) ?_ | refine l_q rfl (q_pick_f rfl rfl) ?_
                    refine l_nil ?_
                    refine n_code ?_
                    first | refine t_cond_d rfl (fun c2 => ?_) (fun c2 => ?_) | refine t_cond_n rfl (fun c2 => ?_) (fun c2 => ?_) | refine t_cond rfl (fun c2 => ?_) (fun c2 => ?_)
                    · exact absurd rfl c2
                    · refine t_skip ?_
                      refine n_blk ?_
                      refine n_code ?_
                      refine t_seq ?_
                      refine t_region ?_
                      refine l_q rfl (q_move rfl) ?_
                      refine l_q rfl (q_nilCheck rfl) ?_
                      first | refine l_q rfl (q_fieldAddr0 10 rfl Tryd.underlying69 rfl rfl ty_size36) ?_ | refine l_q rfl (q_fieldAddrK 10 rfl Tryd.underlying69 rfl rfl ty_size36) ?_
                      refine l_q rfl (q_loadAggL rfl ty_agg36 ty_size36 tk sb) ?_
                      apply l_callf rfl rfl rfl (StatP_ok pa off go 2 e s1 (lay5 xs) T1 hP1)
                      · exact pk
                      rintro v L' ⟨rfl, rfl⟩
                      refine l_nm ?_
                      refine l_q rfl (q_move rfl) ?_
                      refine l_q rfl (q_extractL rfl ga) ?_
                      refine l_q rfl (q_extractL rfl ga) ?_
                      refine o_allocA rfl ty_zero75 (fun b15 => ?_)
                      apply o_storeAggL rfl rfl rfl ty_size75 rfl rfl (by simp)
                      · exact tk
                      · exact sal
                      refine l_q rfl (q_assign rfl) ?_
                      refine l_nil ?_
                      refine n_code ?_
                      refine t_seq ?_
                      refine t_draw mixed ?_
                      refine d_q 0 gO rfl rfl rfl rfl (yq (q_move rfl)) ?_
                      refine d_q 1 gO rfl rfl rfl rfl (yq (q_nilCheck rfl)) ?_
                      apply d_q 2 gO rfl rfl rfl rfl
                      · apply yq
                        first | exact q_fieldAddr0 0 rfl Tryd.underlying69 rfl rfl ty_size30 | exact q_fieldAddrK 0 rfl Tryd.underlying69 rfl rfl ty_size30
                      refine d_q 3 gO rfl rfl rfl rfl (yq (q_loadL rfl ty_agg30 tk ga)) ?_
                      refine d_q 4 gO rfl rfl rfl rfl (yq (q_move rfl)) ?_
                      refine d_q 5 gO rfl rfl rfl rfl (yq (q_nilCheck rfl)) ?_
                      apply d_q 6 gO rfl rfl rfl rfl
                      · apply yq
                        first | exact q_fieldAddr0 10 rfl Tryd.underlying69 rfl rfl ty_size36 | exact q_fieldAddrK 10 rfl Tryd.underlying69 rfl rfl ty_size36
                      refine d_q 7 gO rfl rfl rfl rfl (yq (q_loadAggL rfl ty_agg36 ty_size36 tk sb)) ?_
                      apply d_eff1 [7, 6, 5, 4] [3, 2, 1, 0] 8 [(134, _)]
                      · exact gO
                      · exact ⟨rfl, trivial⟩
                      · kernel_rfl
                      · kernel_rfl
                      intro Ex
                      apply l_callf rfl rfl rfl (TOff_ok pa (lay5 xs) _)
                      · exact pk
                      rintro v L' ⟨rfl, rfl⟩
                      refine l_nm ?_
                      refine l_nil ?_
                      apply n_d
                      · refine ⟨?_, ?_, ?_, ?_, trivial⟩
                        · exact yat gO rfl rfl rfl (yq (q_loadL rfl ty_agg30 tk ga))
                        · refine yat gO rfl rfl rfl ?_
                          apply yq
                          first | exact q_fieldAddr0 0 rfl Tryd.underlying69 rfl rfl ty_size30 | exact q_fieldAddrK 0 rfl Tryd.underlying69 rfl rfl ty_size30
                        · exact yat gO rfl rfl rfl (yq (q_nilCheck rfl))
                        · exact yat gO rfl rfl rfl (yq (q_move rfl))
                      apply d_eff1 [3, 2, 1, 0] [] 9 [(130, _), (135, _)]
                      · exact gO
                      · exact ⟨rfl, rfl, trivial⟩
                      · kernel_rfl
                      · kernel_rfl
                      intro Ex
                      apply l_callf rfl rfl rfl (Load_okI pa s1 _ _ off 8 rfl rfl (by unfold wid; decide) (goodP.sub hP1.gh (by omega) (by omega) (by omega)))
                      · exact pk
                      rintro v L' ⟨rfl, rfl⟩
                      refine l_nm ?_
                      rw [show loadN s1.m off 8 = T1.kind by rw [show off = off + 8 * 0 by omega, hP1.hT.head 0 (by decide)]; show IntKind.u64.wrap T1.kind = T1.kind; rw [wrap_u64 (by omega)]]
                      refine l_nil ?_
                      apply n_d
                      · exact trivial
                      refine d_q 10 gO rfl rfl rfl rfl (yq (q_move rfl)) ?_
                      refine d_q 11 gO rfl rfl rfl rfl (yq (q_extractL rfl ga)) ?_
                      refine d_q 12 gO rfl rfl rfl rfl (yq (q_extractL rfl ga)) ?_
                      apply d_eff1 [11, 10] [12] 13 [(137, _)]
                      · exact gO
                      · exact ⟨rfl, trivial⟩
                      · kernel_rfl
                      · kernel_rfl
                      intro Ex
                      refine l_q rfl (q_assign rfl) ?_
                      refine l_nil ?_
                      apply n_d
                      · refine ⟨?_, trivial⟩
                        · exact yat gO rfl rfl rfl (yq (q_extractL rfl ga))
                      apply d_eff1 [12] [] 14 [(138, _)]
                      · exact gO
                      · exact ⟨rfl, trivial⟩
                      · kernel_rfl
                      · kernel_rfl
                      intro Ex
                      refine l_q rfl (q_assign rfl) ?_
                      refine l_nil ?_
                      apply n_d
                      · exact trivial
                      refine d_end (by kernel_rfl) ?_
                      refine n_code ?_
                      refine t_seq ?_
                      refine t_region ?_
                      refine l_q rfl (q_move rfl) ?_
                      apply l_callf rfl rfl rfl (num08_ok _)
                      · exact pk
                      rintro v L' ⟨rfl, rfl⟩
                      refine l_nm ?_
                      apply l_q rfl
                      · apply q_bin rfl rfl (fun w => g_int w); exact fun w => b_neq w
                      refine l_q rfl (q_move rfl) ?_
                      first | refine l_part_d (t := 142) rfl (fun d1 => ?_) (fun d1 => ?_) | refine l_part_n (t := 142) rfl (fun d1 => ?_) (fun d1 => ?_) | refine l_part (t := 142) rfl (fun d1 => ?_) (fun d1 => ?_)
                      · exact absurd rfl d1
                      · refine l_on rfl rfl ?_
                        refine l_q rfl (q_move rfl) ?_
                        refine l_on rfl rfl ?_
                        apply l_callf rfl rfl rfl (num08_ok _)
                        · exact pk
                        rintro v L' ⟨rfl, rfl⟩
                        refine l_nm ?_
                        refine l_on rfl rfl ?_
                        apply l_q rfl
                        · apply q_bin rfl rfl (fun w => g_int w); exact fun w => b_neq w
                        first | refine l_q rfl (q_pick_t rfl rfl) ?_ | refine l_q rfl (q_pick_f rfl rfl) ?_
                        refine l_q rfl (q_move rfl) ?_
                        first | refine l_part_d (t := 147) rfl (fun d2 => ?_) (fun d2 => ?_) | refine l_part_n (t := 147) rfl (fun d2 => ?_) (fun d2 => ?_) | refine l_part (t := 147) rfl (fun d2 => ?_) (fun d2 => ?_)
                        · exact absurd rfl d2
                        · refine l_on rfl rfl ?_
                          first | refine l_q rfl (q_fieldAddr0 4 rfl Tryd.underlying75 rfl rfl ty_size3) ?_ | refine l_q rfl (q_fieldAddrK 4 rfl Tryd.underlying75 rfl rfl ty_size3) ?_
                          refine l_on rfl rfl ?_
                          refine l_q rfl (q_loadL rfl ty_agg3 tk ga) ?_
                          refine l_on rfl rfl ?_
                          refine l_q rfl (q_move rfl) ?_
                          refine l_on rfl rfl ?_
                          apply l_q rfl
                          · apply q_bin rfl rfl (fun w => g_int w); exact fun w => b_neq w
                          first | refine l_q rfl (q_pick_t rfl rfl) ?_ | refine l_q rfl (q_pick_f rfl rfl) ?_
                          refine l_q rfl (q_move rfl) ?_
                          first | refine l_part_d (t := 153) rfl (fun d3 => ?_) (fun d3 => ?_) | refine l_part_n (t := 153) rfl (fun d3 => ?_) (fun d3 => ?_) | refine l_part (t := 153) rfl (fun d3 => ?_) (fun d3 => ?_)
                          · exact absurd hpe d3
                          · refine l_on rfl rfl ?_
                            first | refine l_q rfl (q_fieldAddr0 5 rfl Tryd.underlying75 rfl rfl ty_size3) ?_ | refine l_q rfl (q_fieldAddrK 5 rfl Tryd.underlying75 rfl rfl ty_size3) ?_
                            refine l_on rfl rfl ?_
                            refine l_q rfl (q_loadL rfl ty_agg3 tk ga) ?_
                            refine l_on rfl rfl ?_
                            refine l_q rfl (q_move rfl) ?_
                            refine l_on rfl rfl ?_
                            apply l_q rfl
                            · apply q_bin rfl rfl (fun w => g_int w); exact fun w => b_neq w
                            first | refine l_q rfl (q_pick_t rfl rfl) ?_ | refine l_q rfl (q_pick_f rfl rfl) ?_
                            refine l_q rfl (q_move rfl) ?_
                            first | refine l_part_d (t := 159) rfl (fun d4 => ?_) (fun d4 => ?_) | refine l_part_n (t := 159) rfl (fun d4 => ?_) (fun d4 => ?_) | refine l_part (t := 159) rfl (fun d4 => ?_) (fun d4 => ?_)
                            · exact absurd hne d4
                            · refine l_on rfl rfl ?_
                              first | refine l_q rfl (q_fieldAddr0 6 rfl Tryd.underlying75 rfl rfl ty_size4) ?_ | refine l_q rfl (q_fieldAddrK 6 rfl Tryd.underlying75 rfl rfl ty_size4) ?_
                              refine l_on rfl rfl ?_
                              refine l_q rfl (q_loadL rfl ty_agg4 tk ga) ?_
                              refine l_on rfl rfl ?_
                              refine l_q rfl (q_move rfl) ?_
                              refine l_on rfl rfl ?_
                              apply l_q rfl
                              · apply q_bin rfl rfl (fun w => g_bool w); exact fun w => b_neqB w Tryd.underlying4
                              first | refine l_q rfl (q_pick_t rfl rfl) ?_ | refine l_q rfl (q_pick_f rfl rfl) ?_
                              refine l_q rfl (q_move rfl) ?_
                              first | refine l_part_d (t := 165) rfl (fun d5 => ?_) (fun d5 => ?_) | refine l_part_n (t := 165) rfl (fun d5 => ?_) (fun d5 => ?_) | refine l_part (t := 165) rfl (fun d5 => ?_) (fun d5 => ?_)
                              · refine l_off rfl rfl rfl rfl ?_
                                refine l_off rfl rfl rfl rfl ?_
                                refine l_off rfl rfl rfl rfl ?_
                                refine l_off rfl rfl rfl rfl ?_
                                first | refine l_q rfl (q_pick_t rfl rfl) ?_ | refine l_q rfl (q_pick_f rfl rfl) ?_
                                refine l_q rfl (q_move rfl) ?_
                                refine l_off rfl rfl rfl rfl ?_
                                refine l_off rfl rfl rfl rfl ?_
                                refine l_off rfl rfl rfl rfl ?_
                                refine l_offu rfl rfl rfl ?_
                                refine l_offu rfl rfl rfl ?_
                                refine l_off rfl rfl rfl rfl ?_
                                first | refine l_q rfl (q_pick_t rfl rfl) ?_ | refine l_q rfl (q_pick_f rfl rfl) ?_
                                refine l_nil ?_
                                refine n_code ?_
                                refine t_cond_t rfl ?_
                                refine t_seq ?_
                                refine t_region ?_
                                refine l_q rfl (q_assign rfl) ?_
                                refine l_nil ?_
                                refine n_code ?_
                                refine t_ret ?_
                                refine r_blk ?_
                                refine r_code ?_
                                refine r_lp ?_
                                refine r_blk ?_
                                refine r_code ?_
                                exfalso
                                first | (rw [hke] at d5; simp at d5) | (simp at d5) | simp_all
                              · refine l_on rfl rfl ?_
                                refine l_q rfl (q_move rfl) ?_
                                refine l_on rfl rfl ?_
                                apply l_q rfl
                                · apply q_bin rfl rfl (fun w => g_int w); exact fun w => b_eql w
                                refine l_on rfl rfl ?_
                                refine l_q rfl (q_move rfl) ?_
                                refine l_on rfl rfl ?_
                                apply l_q rfl
                                · apply q_bin rfl rfl (fun w => g_bool w); exact fun w => b_neqB w Tryd.underlying4
                                first | refine l_q rfl (q_pick_t rfl rfl) ?_ | refine l_q rfl (q_pick_f rfl rfl) ?_
                                refine l_q rfl (q_move rfl) ?_
                                first | refine l_part_d (t := 171) rfl (fun d6 => ?_) (fun d6 => ?_) | refine l_part_n (t := 171) rfl (fun d6 => ?_) (fun d6 => ?_) | refine l_part (t := 171) rfl (fun d6 => ?_) (fun d6 => ?_)
                                · refine l_off rfl rfl rfl rfl ?_
                                  refine l_off rfl rfl rfl rfl ?_
                                  refine l_off rfl rfl rfl rfl ?_
                                  refine l_offu rfl rfl rfl ?_
                                  refine l_offu rfl rfl rfl ?_
                                  refine l_off rfl rfl rfl rfl ?_
                                  first | refine l_q rfl (q_pick_t rfl rfl) ?_ | refine l_q rfl (q_pick_f rfl rfl) ?_
                                  refine l_nil ?_
                                  refine n_code ?_
                                  refine t_cond_t rfl ?_
                                  refine t_seq ?_
                                  refine t_region ?_
                                  refine l_q rfl (q_assign rfl) ?_
                                  refine l_nil ?_
                                  refine n_code ?_
                                  refine t_ret ?_
                                  refine r_blk ?_
                                  refine r_code ?_
                                  refine r_lp ?_
                                  refine r_blk ?_
                                  refine r_code ?_
                                  exfalso
                                  first | (rw [hke] at d6; simp at d6) | (simp at d6) | simp_all
                                · refine l_on rfl rfl ?_
                                  refine l_q rfl (q_move rfl) ?_
                                  refine l_on rfl rfl ?_
                                  apply l_q rfl
                                  · apply q_bin rfl rfl (fun w => g_int w); exact fun w => b_neq w
                                  refine l_on rfl rfl ?_
                                  refine l_q rfl (q_move rfl) ?_
                                  first | refine l_part_d (t := 174) rfl (fun d7 => ?_) (fun d7 => ?_) | refine l_part_n (t := 174) rfl (fun d7 => ?_) (fun d7 => ?_) | refine l_part (t := 174) rfl (fun d7 => ?_) (fun d7 => ?_)
                                  · refine l_on rfl rfl ?_
                                    refine l_q rfl (q_move rfl) ?_
                                    refine l_on rfl rfl ?_
                                    apply l_q rfl
                                    · apply q_bin rfl rfl (fun w => g_int w); exact fun w => b_neq w
                                    refine l_on rfl rfl ?_
                                    first | refine l_q rfl (q_pick_t rfl rfl) ?_ | refine l_q rfl (q_pick_f rfl rfl) ?_
                                    first | refine l_q rfl (q_pick_t rfl rfl) ?_ | refine l_q rfl (q_pick_f rfl rfl) ?_
                                    refine l_nil ?_
                                    refine n_code ?_
                                    first | refine t_cond_d rfl (fun d8 => ?_) (fun d8 => ?_) | refine t_cond_n rfl (fun d8 => ?_) (fun d8 => ?_) | refine t_cond rfl (fun d8 => ?_) (fun d8 => ?_)
                                    · omega
                                    · refine t_skip ?_
                                      refine n_blk ?_
                                      refine n_code ?_
                                      refine t_region ?_
                                      apply l_q rfl
                                      · apply q_bin rfl rfl (fun w => g_int w); first | exact fun w => b_add_i w (by omega) | exact fun w => b_add w
                                      refine l_q rfl (q_move rfl) ?_
                                      refine l_nil ?_
                                      apply n_again ((i + 1, s1, T1, lives1, _, ad1))
                                      · exact ⟨by dsimp only; omega, hP1, hI1, by dsimp only; omega, hp0, hp1, hk1⟩
                                      · dsimp only; omega
                                      · exact ⟨rfl, rfl, by first | rfl | (rw [hpe]; done) | (rw [hpe]; rfl), by first | rfl | (rw [hne]; done) | (rw [hne]; rfl), by first | rfl | (rw [hke]; done) | (rw [hke]; rfl), rfl, rfl, trivial⟩
                                      · exact en
                                  · refine l_off rfl rfl rfl rfl ?_
                                    refine l_off rfl rfl rfl rfl ?_
                                    refine l_on rfl rfl ?_
                                    first | refine l_q rfl (q_pick_t rfl rfl) ?_ | refine l_q rfl (q_pick_f rfl rfl) ?_
                                    first | refine l_q rfl (q_pick_t rfl rfl) ?_ | refine l_q rfl (q_pick_f rfl rfl) ?_
                                    refine l_nil ?_
                                    refine n_code ?_
                                    refine t_cond_f rfl ?_
                                    refine t_skip ?_
                                    refine n_blk ?_
                                    refine n_code ?_
                                    refine t_region ?_
                                    apply l_q rfl
                                    · apply q_bin rfl rfl (fun w => g_int w); first | exact fun w => b_add_i w (by omega) | exact fun w => b_add w
                                    refine l_q rfl (q_move rfl) ?_
                                    refine l_nil ?_
                                    apply n_again ((i + 1, s1, T1, lives1, _, ad1))
                                    · exact ⟨by dsimp only; omega, hP1, hI1, by dsimp only; omega, hp0, hp1, hk1⟩
                                    · dsimp only; omega
                                    · exact ⟨rfl, rfl, by first | rfl | (rw [hpe]; done) | (rw [hpe]; rfl), by first | rfl | (rw [hne]; done) | (rw [hne]; rfl), by first | rfl | (rw [hke]; done) | (rw [hke]; rfl), rfl, rfl, trivial⟩
                                    · exact en
          · refine t_seq ?_
            refine t_region ?_
            apply l_q rfl
            · apply q_bin rfl rfl (fun w => g_int w); exact fun w => b_eql w
            refine l_q rfl (q_assign rfl) ?_
            refine l_nil ?_
            refine n_code ?_
            first | refine t_cond_d rfl (fun k2 => ?_) (fun k2 => ?_) | refine t_cond_n rfl (fun k2 => ?_) (fun k2 => ?_) | refine t_cond rfl (fun k2 => ?_) (fun k2 => ?_)
            · refine t_seq ?_
              refine t_region ?_
              first | refine l_q rfl (q_fieldAddr0 1 rfl Tryd.underlying66 rfl rfl ty_size3) ?_ | refine l_q rfl (q_fieldAddrK 1 rfl Tryd.underlying66 rfl rfl ty_size3) ?_
              refine l_q rfl (q_loadL rfl ty_agg3 tk ga) ?_
              refine l_q rfl (q_assign rfl) ?_
              refine l_q rfl (q_assign rfl) ?_
              refine l_nil ?_
              refine n_code ?_
              refine t_seq ?_
              refine t_draw mixed ?_
              refine d_q 0 gO rfl rfl rfl rfl (yq (q_move rfl)) ?_
              refine d_q 1 gO rfl rfl rfl rfl (yq (q_nilCheck rfl)) ?_
              apply d_q 2 gO rfl rfl rfl rfl
              · apply yq
                first | exact q_fieldAddr0 10 rfl Tryd.underlying69 rfl rfl ty_size36 | exact q_fieldAddrK 10 rfl Tryd.underlying69 rfl rfl ty_size36
              refine d_q 3 gO rfl rfl rfl rfl (yq (q_loadAggL rfl ty_agg36 ty_size36 tk sb)) ?_
              apply d_q 4 gO rfl rfl rfl rfl
              · apply yq
                first | exact q_fieldAddr0 1 rfl Tryd.underlying66 rfl rfl ty_size3 | exact q_fieldAddrK 1 rfl Tryd.underlying66 rfl rfl ty_size3
              refine d_q 5 gO rfl rfl rfl rfl (yq (q_loadL rfl ty_agg3 tk ga)) ?_
              apply d_eff1 [3, 5, 2, 4, 1, 0] [] 6 [(89, _), (91, _)]
              · exact gO
              · exact ⟨rfl, rfl, trivial⟩
              · kernel_rfl
              · kernel_rfl
              intro Ex
              apply l_callf rfl rfl rfl (Retire_ok pa off go 2 e s1 (lay5 xs) T1 hP1 t.2 hw)
              · exact pk
              rintro v L' ⟨s1, rfl, rfl, hP1, _⟩
              refine l_nm ?_
              obtain ⟨T1, hT1e⟩ : ∃ T2, T2 = { T1 with next := t.2, kind := 4 } := ⟨_, rfl⟩
              have hI1 := hI1.head (T' := T1) (by rw [hT1e]) (by rw [hT1e]) (by rw [hT1e])
              rw [← hT1e] at hP1
              have hpe := congrArg Tb.pins hT1e
              have hne := congrArg Tb.next hT1e
              have hke := congrArg (fun T : Tb => decide (T.kind = 4)) hT1e
              dsimp only at hpe hne hke
              have hk1 : T1.kind = 2 ∨ T1.kind = 4 := by rw [hT1e]; exact .inr rfl
              have hp0 : 0 ≤ T1.pins := by omega
              have hp1 : T1.pins ≤ 4611686018427387904 := by omega
              refine l_nm ?_
              refine l_nil ?_
              apply n_d
              · exact trivial
              apply d_eff1 [] [] 7 [(92, _)]
              · exact gO
              · exact ⟨rfl, trivial⟩
              · kernel_rfl
              · kernel_rfl
              intro Ex
              apply l_callf rfl rfl rfl (num08_ok _)
              · exact pk
              rintro v L' ⟨rfl, rfl⟩
              refine l_nm ?_
              refine l_nil ?_
              apply n_d
              · exact trivial
              apply d_q 8 gO rfl rfl rfl rfl
              · apply yq
                apply q_bin rfl rfl (fun w => g_int w); exact fun w => b_neq w
              refine d_end (by kernel_rfl) ?_
              refine n_code ?_
              first | refine t_cond_d rfl (fun r1 => ?_) (fun r1 => ?_) | refine t_cond_n rfl (fun r1 => ?_) (fun r1 => ?_) | refine t_cond rfl (fun r1 => ?_) (fun r1 => ?_)
              · exact absurd rfl r1
              · refine t_skip ?_
                refine n_blk ?_
                refine n_code ?_
                refine t_seq ?_
                refine t_region ?_
                refine l_q rfl (q_move rfl) ?_
                refine l_q rfl (q_nilCheck rfl) ?_
                first | refine l_q rfl (q_fieldAddr0 10 rfl Tryd.underlying69 rfl rfl ty_size36) ?_ | refine l_q rfl (q_fieldAddrK 10 rfl Tryd.underlying69 rfl rfl ty_size36) ?_
                refine l_q rfl (q_loadAggL rfl ty_agg36 ty_size36 tk sb) ?_
                apply l_callf rfl rfl rfl (StatP_ok pa off go 2 e s1 (lay5 xs) T1 hP1)
                · exact pk
                rintro v L' ⟨rfl, rfl⟩
                refine l_nm ?_
                refine l_q rfl (q_move rfl) ?_
                refine l_q rfl (q_extractL rfl ga) ?_
                refine l_q rfl (q_extractL rfl ga) ?_
                refine o_allocA rfl ty_zero75 (fun b15 => ?_)
                apply o_storeAggL rfl rfl rfl ty_size75 rfl rfl (by simp)
                · exact tk
                · exact sal
                refine l_q rfl (q_assign rfl) ?_
                refine l_nil ?_
                refine n_code ?_
                refine t_seq ?_
                refine t_draw mixed ?_
                refine d_q 0 gO rfl rfl rfl rfl (yq (q_move rfl)) ?_
                refine d_q 1 gO rfl rfl rfl rfl (yq (q_nilCheck rfl)) ?_
                apply d_q 2 gO rfl rfl rfl rfl
                · apply yq
                  first | exact q_fieldAddr0 0 rfl Tryd.underlying69 rfl rfl ty_size30 | exact q_fieldAddrK 0 rfl Tryd.underlying69 rfl rfl ty_size30
                refine d_q 3 gO rfl rfl rfl rfl (yq (q_loadL rfl ty_agg30 tk ga)) ?_
                refine d_q 4 gO rfl rfl rfl rfl (yq (q_move rfl)) ?_
                refine d_q 5 gO rfl rfl rfl rfl (yq (q_nilCheck rfl)) ?_
                apply d_q 6 gO rfl rfl rfl rfl
                · apply yq
                  first | exact q_fieldAddr0 10 rfl Tryd.underlying69 rfl rfl ty_size36 | exact q_fieldAddrK 10 rfl Tryd.underlying69 rfl rfl ty_size36
                refine d_q 7 gO rfl rfl rfl rfl (yq (q_loadAggL rfl ty_agg36 ty_size36 tk sb)) ?_
                apply d_eff1 [7, 6, 5, 4] [3, 2, 1, 0] 8 [(134, _)]
                · exact gO
                · exact ⟨rfl, trivial⟩
                · kernel_rfl
                · kernel_rfl
                intro Ex
                apply l_callf rfl rfl rfl (TOff_ok pa (lay5 xs) _)
                · exact pk
                rintro v L' ⟨rfl, rfl⟩
                refine l_nm ?_
                refine l_nil ?_
                apply n_d
                · refine ⟨?_, ?_, ?_, ?_, trivial⟩
                  · exact yat gO rfl rfl rfl (yq (q_loadL rfl ty_agg30 tk ga))
                  · refine yat gO rfl rfl rfl ?_
                    apply yq
                    first | exact q_fieldAddr0 0 rfl Tryd.underlying69 rfl rfl ty_size30 | exact q_fieldAddrK 0 rfl Tryd.underlying69 rfl rfl ty_size30
                  · exact yat gO rfl rfl rfl (yq (q_nilCheck rfl))
                  · exact yat gO rfl rfl rfl (yq (q_move rfl))
                apply d_eff1 [3, 2, 1, 0] [] 9 [(130, _), (135, _)]
                · exact gO
                · exact ⟨rfl, rfl, trivial⟩
                · kernel_rfl
                · kernel_rfl
                intro Ex
                apply l_callf rfl rfl rfl (Load_okI pa s1 _ _ off 8 rfl rfl (by unfold wid; decide) (goodP.sub hP1.gh (by omega) (by omega) (by omega)))
                · exact pk
                rintro v L' ⟨rfl, rfl⟩
                refine l_nm ?_
                rw [show loadN s1.m off 8 = T1.kind by rw [show off = off + 8 * 0 by omega, hP1.hT.head 0 (by decide)]; show IntKind.u64.wrap T1.kind = T1.kind; rw [wrap_u64 (by omega)]]
                refine l_nil ?_
                apply n_d
                · exact trivial
                refine d_q 10 gO rfl rfl rfl rfl (yq (q_move rfl)) ?_
                refine d_q 11 gO rfl rfl rfl rfl (yq (q_extractL rfl ga)) ?_
                refine d_q 12 gO rfl rfl rfl rfl (yq (q_extractL rfl ga)) ?_
                apply d_eff1 [11, 10] [12] 13 [(137, _)]
                · exact gO
                · exact ⟨rfl, trivial⟩
                · kernel_rfl
                · kernel_rfl
                intro Ex
                refine l_q rfl (q_assign rfl) ?_
                refine l_nil ?_
                apply n_d
                · refine ⟨?_, trivial⟩
                  · exact yat gO rfl rfl rfl (yq (q_extractL rfl ga))
                apply d_eff1 [12] [] 14 [(138, _)]
                · exact gO
                · exact ⟨rfl, trivial⟩
                · kernel_rfl
                · kernel_rfl
                intro Ex
                refine l_q rfl (q_assign rfl) ?_
                refine l_nil ?_
                apply n_d
                · exact trivial
                refine d_end (by kernel_rfl) ?_
                refine n_code ?_
                refine t_seq ?_
                refine t_region ?_
                refine l_q rfl (q_move rfl) ?_
                apply l_callf rfl rfl rfl (num08_ok _)
                · exact pk
                rintro v L' ⟨rfl, rfl⟩
                refine l_nm ?_
                apply l_q rfl
                · apply q_bin rfl rfl (fun w => g_int w); exact fun w => b_neq w
                refine l_q rfl (q_move rfl) ?_
                first | refine l_part_d (t := 142) rfl (fun d1 => ?_) (fun d1 => ?_) | refine l_part_n (t := 142) rfl (fun d1 => ?_) (fun d1 => ?_) | refine l_part (t := 142) rfl (fun d1 => ?_) (fun d1 => ?_)
                · exact absurd rfl d1
                · refine l_on rfl rfl ?_
                  refine l_q rfl (q_move rfl) ?_
                  refine l_on rfl rfl ?_
                  apply l_callf rfl rfl rfl (num08_ok _)
                  · exact pk
                  rintro v L' ⟨rfl, rfl⟩
                  refine l_nm ?_
                  refine l_on rfl rfl ?_
                  apply l_q rfl
                  · apply q_bin rfl rfl (fun w => g_int w); exact fun w => b_neq w
                  first | refine l_q rfl (q_pick_t rfl rfl) ?_ | refine l_q rfl (q_pick_f rfl rfl) ?_
                  refine l_q rfl (q_move rfl) ?_
                  first | refine l_part_d (t := 147) rfl (fun d2 => ?_) (fun d2 => ?_) | refine l_part_n (t := 147) rfl (fun d2 => ?_) (fun d2 => ?_) | refine l_part (t := 147) rfl (fun d2 => ?_) (fun d2 => ?_)
                  · exact absurd rfl d2
                  · refine l_on rfl rfl ?_
                    first | refine l_q rfl (q_fieldAddr0 4 rfl Tryd.underlying75 rfl rfl ty_size3) ?_ | refine l_q rfl (q_fieldAddrK 4 rfl Tryd.underlying75 rfl rfl ty_size3) ?_
                    refine l_on rfl rfl ?_
                    refine l_q rfl (q_loadL rfl ty_agg3 tk ga) ?_
                    refine l_on rfl rfl ?_
                    refine l_q rfl (q_move rfl) ?_
                    refine l_on rfl rfl ?_
                    apply l_q rfl
                    · apply q_bin rfl rfl (fun w => g_int w); exact fun w => b_neq w
                    first | refine l_q rfl (q_pick_t rfl rfl) ?_ | refine l_q rfl (q_pick_f rfl rfl) ?_
                    refine l_q rfl (q_move rfl) ?_
                    first | refine l_part_d (t := 153) rfl (fun d3 => ?_) (fun d3 => ?_) | refine l_part_n (t := 153) rfl (fun d3 => ?_) (fun d3 => ?_) | refine l_part (t := 153) rfl (fun d3 => ?_) (fun d3 => ?_)
                    · exact absurd hpe d3
                    · refine l_on rfl rfl ?_
                      first | refine l_q rfl (q_fieldAddr0 5 rfl Tryd.underlying75 rfl rfl ty_size3) ?_ | refine l_q rfl (q_fieldAddrK 5 rfl Tryd.underlying75 rfl rfl ty_size3) ?_
                      refine l_on rfl rfl ?_
                      refine l_q rfl (q_loadL rfl ty_agg3 tk ga) ?_
                      refine l_on rfl rfl ?_
                      refine l_q rfl (q_move rfl) ?_
                      refine l_on rfl rfl ?_
                      apply l_q rfl
                      · apply q_bin rfl rfl (fun w => g_int w); exact fun w => b_neq w
                      first | refine l_q rfl (q_pick_t rfl rfl) ?_ | refine l_q rfl (q_pick_f rfl rfl) ?_
                      refine l_q rfl (q_move rfl) ?_
                      first | refine l_part_d (t := 159) rfl (fun d4 => ?_) (fun d4 => ?_) | refine l_part_n (t := 159) rfl (fun d4 => ?_) (fun d4 => ?_) | refine l_part (t := 159) rfl (fun d4 => ?_) (fun d4 => ?_)
                      · exact absurd hne d4
                      · refine l_on rfl rfl ?_
                        first | refine l_q rfl (q_fieldAddr0 6 rfl Tryd.underlying75 rfl rfl ty_size4) ?_ | refine l_q rfl (q_fieldAddrK 6 rfl Tryd.underlying75 rfl rfl ty_size4) ?_
                        refine l_on rfl rfl ?_
                        refine l_q rfl (q_loadL rfl ty_agg4 tk ga) ?_
                        refine l_on rfl rfl ?_
                        refine l_q rfl (q_move rfl) ?_
                        refine l_on rfl rfl ?_
                        apply l_q rfl
                        · apply q_bin rfl rfl (fun w => g_bool w); exact fun w => b_neqB w Tryd.underlying4
                        first | refine l_q rfl (q_pick_t rfl rfl) ?_ | refine l_q rfl (q_pick_f rfl rfl) ?_
                        refine l_q rfl (q_move rfl) ?_
                        first | refine l_part_d (t := 165) rfl (fun d5 => ?_) (fun d5 => ?_) | refine l_part_n (t := 165) rfl (fun d5 => ?_) (fun d5 => ?_) | refine l_part (t := 165) rfl (fun d5 => ?_) (fun d5 => ?_)
                        · refine l_off rfl rfl rfl rfl ?_
                          refine l_off rfl rfl rfl rfl ?_
                          refine l_off rfl rfl rfl rfl ?_
                          refine l_off rfl rfl rfl rfl ?_
                          first | refine l_q rfl (q_pick_t rfl rfl) ?_ | refine l_q rfl (q_pick_f rfl rfl) ?_
                          refine l_q rfl (q_move rfl) ?_
                          refine l_off rfl rfl rfl rfl ?_
                          refine l_off rfl rfl rfl rfl ?_
                          refine l_off rfl rfl rfl rfl ?_
                          refine l_offu rfl rfl rfl ?_
                          refine l_offu rfl rfl rfl ?_
                          refine l_off rfl rfl rfl rfl ?_
                          first | refine l_q rfl (q_pick_t rfl rfl) ?_ | refine l_q rfl (q_pick_f rfl rfl) ?_
                          refine l_nil ?_
                          refine n_code ?_
                          refine t_cond_t rfl ?_
                          refine t_seq ?_
                          refine t_region ?_
                          refine l_q rfl (q_assign rfl) ?_
                          refine l_nil ?_
                          refine n_code ?_
                          refine t_ret ?_
                          refine r_blk ?_
                          refine r_code ?_
                          refine r_lp ?_
                          refine r_blk ?_
                          refine r_code ?_
                          exfalso
                          first | (rw [hke] at d5; simp at d5) | (simp at d5) | simp_all
                        · refine l_on rfl rfl ?_
                          refine l_q rfl (q_move rfl) ?_
                          refine l_on rfl rfl ?_
                          apply l_q rfl
                          · apply q_bin rfl rfl (fun w => g_int w); exact fun w => b_eql w
                          refine l_on rfl rfl ?_
                          refine l_q rfl (q_move rfl) ?_
                          refine l_on rfl rfl ?_
                          apply l_q rfl
                          · apply q_bin rfl rfl (fun w => g_bool w); exact fun w => b_neqB w Tryd.underlying4
                          first | refine l_q rfl (q_pick_t rfl rfl) ?_ | refine l_q rfl (q_pick_f rfl rfl) ?_
                          refine l_q rfl (q_move rfl) ?_
                          first | refine l_part_d (t := 171) rfl (fun d6 => ?_) (fun d6 => ?_) | refine l_part_n (t := 171) rfl (fun d6 => ?_) (fun d6 => ?_) | refine l_part (t := 171) rfl (fun d6 => ?_) (fun d6 => ?_)
                          · refine l_off rfl rfl rfl rfl ?_
                            refine l_off rfl rfl rfl rfl ?_
                            refine l_off rfl rfl rfl rfl ?_
                            refine l_offu rfl rfl rfl ?_
                            refine l_offu rfl rfl rfl ?_
                            refine l_off rfl rfl rfl rfl ?_
                            first | refine l_q rfl (q_pick_t rfl rfl) ?_ | refine l_q rfl (q_pick_f rfl rfl) ?_
                            refine l_nil ?_
                            refine n_code ?_
                            refine t_cond_t rfl ?_
                            refine t_seq ?_
                            refine t_region ?_
                            refine l_q rfl (q_assign rfl) ?_
                            refine l_nil ?_
                            refine n_code ?_
                            refine t_ret ?_
                            refine r_blk ?_
                            refine r_code ?_
                            refine r_lp ?_
                            refine r_blk ?_
                            refine r_code ?_
                            exfalso
                            first | (rw [hke] at d6; simp at d6) | (simp at d6) | simp_all
                          · refine l_on rfl rfl ?_
                            refine l_q rfl (q_move rfl) ?_
                            refine l_on rfl rfl ?_
                            apply l_q rfl
                            · apply q_bin rfl rfl (fun w => g_int w); exact fun w => b_neq w
                            refine l_on rfl rfl ?_
                            refine l_q rfl (q_move rfl) ?_
                            first | refine l_part_d (t := 174) rfl (fun d7 => ?_) (fun d7 => ?_) | refine l_part_n (t := 174) rfl (fun d7 => ?_) (fun d7 => ?_) | refine l_part (t := 174) rfl (fun d7 => ?_) (fun d7 => ?_)
                            · refine l_on rfl rfl ?_
                              refine l_q rfl (q_move rfl) ?_
                              refine l_on rfl rfl ?_
                              apply l_q rfl
                              · apply q_bin rfl rfl (fun w => g_int w); exact fun w => b_neq w
                              refine l_on rfl rfl ?_
                              first | refine l_q rfl (q_pick_t rfl rfl) ?_ | refine l_q rfl (q_pick_f rfl rfl) ?_
                              first | refine l_q rfl (q_pick_t rfl rfl) ?_ | refine l_q rfl (q_pick_f rfl rfl) ?_
                              refine l_nil ?_
                              refine n_code ?_
                              first | refine t_cond_d rfl (fun d8 => ?_) (fun d8 => ?_) | refine t_cond_n rfl (fun d8 => ?_) (fun d8 => ?_) | refine t_cond rfl (fun d8 => ?_) (fun d8 => ?_)
                              · omega
                              · refine t_skip ?_
                                refine n_blk ?_
                                refine n_code ?_
                                refine t_region ?_
                                apply l_q rfl
                                · apply q_bin rfl rfl (fun w => g_int w); first | exact fun w => b_add_i w (by omega) | exact fun w => b_add w
                                refine l_q rfl (q_move rfl) ?_
                                refine l_nil ?_
                                apply n_again ((i + 1, s1, T1, lives1, _, ad1))
                                · exact ⟨by dsimp only; omega, hP1, hI1, by dsimp only; omega, hp0, hp1, hk1⟩
                                · dsimp only; omega
                                · exact ⟨rfl, rfl, by first | rfl | (rw [hpe]; done) | (rw [hpe]; rfl), by first | rfl | (rw [hne]; done) | (rw [hne]; rfl), by first | rfl | (rw [hke]; done) | (rw [hke]; rfl), rfl, rfl, trivial⟩
                                · exact en
                            · refine l_off rfl rfl rfl rfl ?_
                              refine l_off rfl rfl rfl rfl ?_
                              refine l_on rfl rfl ?_
                              first | refine l_q rfl (q_pick_t rfl rfl) ?_ | refine l_q rfl (q_pick_f rfl rfl) ?_
                              first | refine l_q rfl (q_pick_t rfl rfl) ?_ | refine l_q rfl (q_pick_f rfl rfl) ?_
                              refine l_nil ?_
                              refine n_code ?_
                              refine t_cond_f rfl ?_
                              refine t_skip ?_
                              refine n_blk ?_
                              refine n_code ?_
                              refine t_region ?_
                              apply l_q rfl
                              · apply q_bin rfl rfl (fun w => g_int w); first | exact fun w => b_add_i w (by omega) | exact fun w => b_add w
                              refine l_q rfl (q_move rfl) ?_
                              refine l_nil ?_
                              apply n_again ((i + 1, s1, T1, lives1, _, ad1))
                              · exact ⟨by dsimp only; omega, hP1, hI1, by dsimp only; omega, hp0, hp1, hk1⟩
                              · dsimp only; omega
                              · exact ⟨rfl, rfl, by first | rfl | (rw [hpe]; done) | (rw [hpe]; rfl), by first | rfl | (rw [hne]; done) | (rw [hne]; rfl), by first | rfl | (rw [hke]; done) | (rw [hke]; rfl), rfl, rfl, trivial⟩
                              · exact en
            · refine t_seq ?_
              refine t_region ?_
              apply l_q rfl
              · apply q_bin rfl rfl (fun w => g_int w); exact fun w => b_eql w
              refine l_q rfl (q_assign rfl) ?_
              refine l_nil ?_
              refine n_code ?_
              first | refine t_cond_d rfl (fun k3 => ?_) (fun k3 => ?_) | refine t_cond_n rfl (fun k3 => ?_) (fun k3 => ?_) | refine t_cond rfl (fun k3 => ?_) (fun k3 => ?_)
              · refine t_seq ?_
                refine t_region ?_
                first | refine l_q rfl (q_fieldAddr0 1 rfl Tryd.underlying66 rfl rfl ty_size3) ?_ | refine l_q rfl (q_fieldAddrK 1 rfl Tryd.underlying66 rfl rfl ty_size3) ?_
                refine l_q rfl (q_loadL rfl ty_agg3 tk ga) ?_
                refine l_q rfl (q_assign rfl) ?_
                refine l_nil ?_
                refine n_code ?_
                refine t_seq ?_
                refine t_draw mixed ?_
                refine d_q 0 gO rfl rfl rfl rfl (yq (q_move rfl)) ?_
                refine d_q 1 gO rfl rfl rfl rfl (yq (q_nilCheck rfl)) ?_
                apply d_q 2 gO rfl rfl rfl rfl
                · apply yq
                  first | exact q_fieldAddr0 10 rfl Tryd.underlying69 rfl rfl ty_size36 | exact q_fieldAddrK 10 rfl Tryd.underlying69 rfl rfl ty_size36
                refine d_q 3 gO rfl rfl rfl rfl (yq (q_loadAggL rfl ty_agg36 ty_size36 tk sb)) ?_
                apply d_q 4 gO rfl rfl rfl rfl
                · apply yq
                  first | exact q_fieldAddr0 1 rfl Tryd.underlying66 rfl rfl ty_size3 | exact q_fieldAddrK 1 rfl Tryd.underlying66 rfl rfl ty_size3
                refine d_q 5 gO rfl rfl rfl rfl (yq (q_loadL rfl ty_agg3 tk ga)) ?_
                apply d_eff1 [3, 5, 2, 4, 1, 0] [] 6 [(102, _), (104, _)]
                · exact gO
                · exact ⟨rfl, rfl, trivial⟩
                · kernel_rfl
                · kernel_rfl
                intro Ex
                apply l_callf rfl rfl rfl (SetNext_ok pa off go 2 e s1 (lay5 xs) T1 hP1 t.2 hw)
                · exact pk
                rintro v L' ⟨s1, rfl, rfl, hP1, _⟩
                refine l_nm ?_
                obtain ⟨T1, hT1e⟩ : ∃ T2, T2 = { T1 with next := t.2 } := ⟨_, rfl⟩
                have hI1 := hI1.head (T' := T1) (by rw [hT1e]) (by rw [hT1e]) (by rw [hT1e])
                rw [← hT1e] at hP1
                have hpe := congrArg Tb.pins hT1e
                have hne := congrArg Tb.next hT1e
                have hke := congrArg (fun T : Tb => decide (T.kind = 4)) hT1e
                dsimp only at hpe hne hke
                have hk1 : T1.kind = 2 ∨ T1.kind = 4 := by rw [hT1e]; exact hk1
                have hp0 : 0 ≤ T1.pins := by omega
                have hp1 : T1.pins ≤ 4611686018427387904 := by omega
                refine l_nm ?_
                refine l_nil ?_
                apply n_d
                · exact trivial
                apply d_eff1 [] [] 7 [(105, _)]
                · exact gO
                · exact ⟨rfl, trivial⟩
                · kernel_rfl
                · kernel_rfl
                intro Ex
                apply l_callf rfl rfl rfl (num08_ok _)
                · exact pk
                rintro v L' ⟨rfl, rfl⟩
                refine l_nm ?_
                refine l_nil ?_
                apply n_d
                · exact trivial
                apply d_q 8 gO rfl rfl rfl rfl
                · apply yq
                  apply q_bin rfl rfl (fun w => g_int w); exact fun w => b_neq w
                refine d_end (by kernel_rfl) ?_
                refine n_code ?_
                first | refine t_cond_d rfl (fun r1 => ?_) (fun r1 => ?_) | refine t_cond_n rfl (fun r1 => ?_) (fun r1 => ?_) | refine t_cond rfl (fun r1 => ?_) (fun r1 => ?_)
                · exact absurd rfl r1
                · refine t_skip ?_
                  refine n_blk ?_
                  refine n_code ?_
                  refine t_seq ?_
                  refine t_region ?_
                  refine l_q rfl (q_move rfl) ?_
                  refine l_q rfl (q_nilCheck rfl) ?_
                  first | refine l_q rfl (q_fieldAddr0 10 rfl Tryd.underlying69 rfl rfl ty_size36) ?_ | refine l_q rfl (q_fieldAddrK 10 rfl Tryd.underlying69 rfl rfl ty_size36) ?_
                  refine l_q rfl (q_loadAggL rfl ty_agg36 ty_size36 tk sb) ?_
                  apply l_callf rfl rfl rfl (StatP_ok pa off go 2 e s1 (lay5 xs) T1 hP1)
                  · exact pk
                  rintro v L' ⟨rfl, rfl⟩
                  refine l_nm ?_
                  refine l_q rfl (q_move rfl) ?_
                  refine l_q rfl (q_extractL rfl ga) ?_
                  refine l_q rfl (q_extractL rfl ga) ?_
                  refine o_allocA rfl ty_zero75 (fun b15 => ?_)
                  apply o_storeAggL rfl rfl rfl ty_size75 rfl rfl (by simp)
                  · exact tk
                  · exact sal
                  refine l_q rfl (q_assign rfl) ?_
                  refine l_nil ?_
                  refine n_code ?_
                  refine t_seq ?_
                  refine t_draw mixed ?_
                  refine d_q 0 gO rfl rfl rfl rfl (yq (q_move rfl)) ?_
                  refine d_q 1 gO rfl rfl rfl rfl (yq (q_nilCheck rfl)) ?_
                  apply d_q 2 gO rfl rfl rfl rfl
                  · apply yq
                    first | exact q_fieldAddr0 0 rfl Tryd.underlying69 rfl rfl ty_size30 | exact q_fieldAddrK 0 rfl Tryd.underlying69 rfl rfl ty_size30
                  refine d_q 3 gO rfl rfl rfl rfl (yq (q_loadL rfl ty_agg30 tk ga)) ?_
                  refine d_q 4 gO rfl rfl rfl rfl (yq (q_move rfl)) ?_
                  refine d_q 5 gO rfl rfl rfl rfl (yq (q_nilCheck rfl)) ?_
                  apply d_q 6 gO rfl rfl rfl rfl
                  · apply yq
                    first | exact q_fieldAddr0 10 rfl Tryd.underlying69 rfl rfl ty_size36 | exact q_fieldAddrK 10 rfl Tryd.underlying69 rfl rfl ty_size36
                  refine d_q 7 gO rfl rfl rfl rfl (yq (q_loadAggL rfl ty_agg36 ty_size36 tk sb)) ?_
                  apply d_eff1 [7, 6, 5, 4] [3, 2, 1, 0] 8 [(134, _)]
                  · exact gO
                  · exact ⟨rfl, trivial⟩
                  · kernel_rfl
                  · kernel_rfl
                  intro Ex
                  apply l_callf rfl rfl rfl (TOff_ok pa (lay5 xs) _)
                  · exact pk
                  rintro v L' ⟨rfl, rfl⟩
                  refine l_nm ?_
                  refine l_nil ?_
                  apply n_d
                  · refine ⟨?_, ?_, ?_, ?_, trivial⟩
                    · exact yat gO rfl rfl rfl (yq (q_loadL rfl ty_agg30 tk ga))
                    · refine yat gO rfl rfl rfl ?_
                      apply yq
                      first | exact q_fieldAddr0 0 rfl Tryd.underlying69 rfl rfl ty_size30 | exact q_fieldAddrK 0 rfl Tryd.underlying69 rfl rfl ty_size30
                    · exact yat gO rfl rfl rfl (yq (q_nilCheck rfl))
                    · exact yat gO rfl rfl rfl (yq (q_move rfl))
                  apply d_eff1 [3, 2, 1, 0] [] 9 [(130, _), (135, _)]
                  · exact gO
                  · exact ⟨rfl, rfl, trivial⟩
                  · kernel_rfl
                  · kernel_rfl
                  intro Ex
                  apply l_callf rfl rfl rfl (Load_okI pa s1 _ _ off 8 rfl rfl (by unfold wid; decide) (goodP.sub hP1.gh (by omega) (by omega) (by omega)))
                  · exact pk
                  rintro v L' ⟨rfl, rfl⟩
                  refine l_nm ?_
                  rw [show loadN s1.m off 8 = T1.kind by rw [show off = off + 8 * 0 by omega, hP1.hT.head 0 (by decide)]; show IntKind.u64.wrap T1.kind = T1.kind; rw [wrap_u64 (by omega)]]
                  refine l_nil ?_
                  apply n_d
                  · exact trivial
                  refine d_q 10 gO rfl rfl rfl rfl (yq (q_move rfl)) ?_
                  refine d_q 11 gO rfl rfl rfl rfl (yq (q_extractL rfl ga)) ?_
                  refine d_q 12 gO rfl rfl rfl rfl (yq (q_extractL rfl ga)) ?_
                  apply d_eff1 [11, 10] [12] 13 [(137, _)]
                  · exact gO
                  · exact ⟨rfl, trivial⟩
                  · kernel_rfl
                  · kernel_rfl
                  intro Ex
                  refine l_q rfl (q_assign rfl) ?_
                  refine l_nil ?_
                  apply n_d
                  · refine ⟨?_, trivial⟩
                    · exact yat gO rfl rfl rfl (yq (q_extractL rfl ga))
                  apply d_eff1 [12] [] 14 [(138, _)]
                  · exact gO
                  · exact ⟨rfl, trivial⟩
                  · kernel_rfl
                  · kernel_rfl
                  intro Ex
                  refine l_q rfl (q_assign rfl) ?_
                  refine l_nil ?_
                  apply n_d
                  · exact trivial
                  refine d_end (by kernel_rfl) ?_
                  refine n_code ?_
                  refine t_seq ?_
                  refine t_region ?_
                  refine l_q rfl (q_move rfl) ?_
                  apply l_callf rfl rfl rfl (num08_ok _)
                  · exact pk
                  rintro v L' ⟨rfl, rfl⟩
                  refine l_nm ?_
                  apply l_q rfl
                  · apply q_bin rfl rfl (fun w => g_int w); exact fun w => b_neq w
                  refine l_q rfl (q_move rfl) ?_
                  first | refine l_part_d (t := 142) rfl (fun d1 => ?_) (fun d1 => ?_) | refine l_part_n (t := 142) rfl (fun d1 => ?_) (fun d1 => ?_) | refine l_part (t := 142) rfl (fun d1 => ?_) (fun d1 => ?_)
                  · exact absurd rfl d1
                  · refine l_on rfl rfl ?_
                    refine l_q rfl (q_move rfl) ?_
                    refine l_on rfl rfl ?_
                    apply l_callf rfl rfl rfl (num08_ok _)
                    · exact pk
                    rintro v L' ⟨rfl, rfl⟩
                    refine l_nm ?_
                    refine l_on rfl rfl ?_
                    apply l_q rfl
                    · apply q_bin rfl rfl (fun w => g_int w); exact fun w => b_neq w
                    first | refine l_q rfl (q_pick_t rfl rfl) ?_ | refine l_q rfl (q_pick_f rfl rfl) ?_
                    refine l_q rfl (q_move rfl) ?_
                    first | refine l_part_d (t := 147) rfl (fun d2 => ?_) (fun d2 => ?_) | refine l_part_n (t := 147) rfl (fun d2 => ?_) (fun d2 => ?_) | refine l_part (t := 147) rfl (fun d2 => ?_) (fun d2 => ?_)
                    · exact absurd rfl d2
                    · refine l_on rfl rfl ?_
                      first | refine l_q rfl (q_fieldAddr0 4 rfl Tryd.underlying75 rfl rfl ty_size3) ?_ | refine l_q rfl (q_fieldAddrK 4 rfl Tryd.underlying75 rfl rfl ty_size3) ?_
                      refine l_on rfl rfl ?_
                      refine l_q rfl (q_loadL rfl ty_agg3 tk ga) ?_
                      refine l_on rfl rfl ?_
                      refine l_q rfl (q_move rfl) ?_
                      refine l_on rfl rfl ?_
                      apply l_q rfl
                      · apply q_bin rfl rfl (fun w => g_int w); exact fun w => b_neq w
                      first | refine l_q rfl (q_pick_t rfl rfl) ?_ | refine l_q rfl (q_pick_f rfl rfl) ?_
                      refine l_q rfl (q_move rfl) ?_
                      first | refine l_part_d (t := 153) rfl (fun d3 => ?_) (fun d3 => ?_) | refine l_part_n (t := 153) rfl (fun d3 => ?_) (fun d3 => ?_) | refine l_part (t := 153) rfl (fun d3 => ?_) (fun d3 => ?_)
                      · exact absurd hpe d3
                      · refine l_on rfl rfl ?_
                        first | refine l_q rfl (q_fieldAddr0 5 rfl Tryd.underlying75 rfl rfl ty_size3) ?_ | refine l_q rfl (q_fieldAddrK 5 rfl Tryd.underlying75 rfl rfl ty_size3) ?_
                        refine l_on rfl rfl ?_
                        refine l_q rfl (q_loadL rfl ty_agg3 tk ga) ?_
                        refine l_on rfl rfl ?_
                        refine l_q rfl (q_move rfl) ?_
                        refine l_on rfl rfl ?_
                        apply l_q rfl
                        · apply q_bin rfl rfl (fun w => g_int w); exact fun w => b_neq w
                        first | refine l_q rfl (q_pick_t rfl rfl) ?_ | refine l_q rfl (q_pick_f rfl rfl) ?_
                        refine l_q rfl (q_move rfl) ?_
                        first | refine l_part_d (t := 159) rfl (fun d4 => ?_) (fun d4 => ?_) | refine l_part_n (t := 159) rfl (fun d4 => ?_) (fun d4 => ?_) | refine l_part (t := 159) rfl (fun d4 => ?_) (fun d4 => ?_)
                        · exact absurd hne d4
                        · refine l_on rfl rfl ?_
                          first | refine l_q rfl (q_fieldAddr0 6 rfl Tryd.underlying75 rfl rfl ty_size4) ?_ | refine l_q rfl (q_fieldAddrK 6 rfl Tryd.underlying75 rfl rfl ty_size4) ?_
                          refine l_on rfl rfl ?_
                          refine l_q rfl (q_loadL rfl ty_agg4 tk ga) ?_
                          refine l_on rfl rfl ?_
                          refine l_q rfl (q_move rfl) ?_
                          refine l_on rfl rfl ?_
                          apply l_q rfl
                          · apply q_bin rfl rfl (fun w => g_bool w); exact fun w => b_neqB w Tryd.underlying4
                          first | refine l_q rfl (q_pick_t rfl rfl) ?_ | refine l_q rfl (q_pick_f rfl rfl) ?_
                          refine l_q rfl (q_move rfl) ?_
                          first | refine l_part_d (t := 165) rfl (fun d5 => ?_) (fun d5 => ?_) | refine l_part_n (t := 165) rfl (fun d5 => ?_) (fun d5 => ?_) | refine l_part (t := 165) rfl (fun d5 => ?_) (fun d5 => ?_)
                          · refine l_off rfl rfl rfl rfl ?_
                            refine l_off rfl rfl rfl rfl ?_
                            refine l_off rfl rfl rfl rfl ?_
                            refine l_off rfl rfl rfl rfl ?_
                            first | refine l_q rfl (q_pick_t rfl rfl) ?_ | refine l_q rfl (q_pick_f rfl rfl) ?_
                            refine l_q rfl (q_move rfl) ?_
                            refine l_off rfl rfl rfl rfl ?_
                            refine l_off rfl rfl rfl rfl ?_
                            refine l_off rfl rfl rfl rfl ?_
                            refine l_offu rfl rfl rfl ?_
                            refine l_offu rfl rfl rfl ?_
                            refine l_off rfl rfl rfl rfl ?_
                            first | refine l_q rfl (q_pick_t rfl rfl) ?_ | refine l_q rfl (q_pick_f rfl rfl) ?_
                            refine l_nil ?_
                            refine n_code ?_
                            refine t_cond_t rfl ?_
                            refine t_seq ?_
                            refine t_region ?_
                            refine l_q rfl (q_assign rfl) ?_
                            refine l_nil ?_
                            refine n_code ?_
                            refine t_ret ?_
                            refine r_blk ?_
                            refine r_code ?_
                            refine r_lp ?_
                            refine r_blk ?_
                            refine r_code ?_
                            exfalso
                            first | (rw [hke] at d5; simp at d5) | (simp at d5) | simp_all
                          · refine l_on rfl rfl ?_
                            refine l_q rfl (q_move rfl) ?_
                            refine l_on rfl rfl ?_
                            apply l_q rfl
                            · apply q_bin rfl rfl (fun w => g_int w); exact fun w => b_eql w
                            refine l_on rfl rfl ?_
                            refine l_q rfl (q_move rfl) ?_
                            refine l_on rfl rfl ?_
                            apply l_q rfl
                            · apply q_bin rfl rfl (fun w => g_bool w); exact fun w => b_neqB w Tryd.underlying4
                            first | refine l_q rfl (q_pick_t rfl rfl) ?_ | refine l_q rfl (q_pick_f rfl rfl) ?_
                            refine l_q rfl (q_move rfl) ?_
                            first | refine l_part_d (t := 171) rfl (fun d6 => ?_) (fun d6 => ?_) | refine l_part_n (t := 171) rfl (fun d6 => ?_) (fun d6 => ?_) | refine l_part (t := 171) rfl (fun d6 => ?_) (fun d6 => ?_)
                            · refine l_off rfl rfl rfl rfl ?_
                              refine l_off rfl rfl rfl rfl ?_
                              refine l_off rfl rfl rfl rfl ?_
                              refine l_offu rfl rfl rfl ?_
                              refine l_offu rfl rfl rfl ?_
                              refine l_off rfl rfl rfl rfl ?_
                              first | refine l_q rfl (q_pick_t rfl rfl) ?_ | refine l_q rfl (q_pick_f rfl rfl) ?_
                              refine l_nil ?_
                              refine n_code ?_
                              refine t_cond_t rfl ?_
                              refine t_seq ?_
                              refine t_region ?_
                              refine l_q rfl (q_assign rfl) ?_
                              refine l_nil ?_
                              refine n_code ?_
                              refine t_ret ?_
                              refine r_blk ?_
                              refine r_code ?_
                              refine r_lp ?_
                              refine r_blk ?_
                              refine r_code ?_
                              exfalso
                              first | (rw [hke] at d6; simp at d6) | (simp at d6) | simp_all
                            · refine l_on rfl rfl ?_
                              refine l_q rfl (q_move rfl) ?_
                              refine l_on rfl rfl ?_
                              apply l_q rfl
                              · apply q_bin rfl rfl (fun w => g_int w); exact fun w => b_neq w
                              refine l_on rfl rfl ?_
                              refine l_q rfl (q_move rfl) ?_
                              first | refine l_part_d (t := 174) rfl (fun d7 => ?_) (fun d7 => ?_) | refine l_part_n (t := 174) rfl (fun d7 => ?_) (fun d7 => ?_) | refine l_part (t := 174) rfl (fun d7 => ?_) (fun d7 => ?_)
                              · refine l_on rfl rfl ?_
                                refine l_q rfl (q_move rfl) ?_
                                refine l_on rfl rfl ?_
                                apply l_q rfl
                                · apply q_bin rfl rfl (fun w => g_int w); exact fun w => b_neq w
                                refine l_on rfl rfl ?_
                                first | refine l_q rfl (q_pick_t rfl rfl) ?_ | refine l_q rfl (q_pick_f rfl rfl) ?_
                                first | refine l_q rfl (q_pick_t rfl rfl) ?_ | refine l_q rfl (q_pick_f rfl rfl) ?_
                                refine l_nil ?_
                                refine n_code ?_
                                first | refine t_cond_d rfl (fun d8 => ?_) (fun d8 => ?_) | refine t_cond_n rfl (fun d8 => ?_) (fun d8 => ?_) | refine t_cond rfl (fun d8 => ?_) (fun d8 => ?_)
                                · omega
                                · refine t_skip ?_
                                  refine n_blk ?_
                                  refine n_code ?_
                                  refine t_region ?_
                                  apply l_q rfl
                                  · apply q_bin rfl rfl (fun w => g_int w); first | exact fun w => b_add_i w (by omega) | exact fun w => b_add w
                                  refine l_q rfl (q_move rfl) ?_
                                  refine l_nil ?_
                                  apply n_again ((i + 1, s1, T1, lives1, _, ad1))
                                  · exact ⟨by dsimp only; omega, hP1, hI1, by dsimp only; omega, hp0, hp1, hk1⟩
                                  · dsimp only; omega
                                  · exact ⟨rfl, rfl, by first | rfl | (rw [hpe]; done) | (rw [hpe]; rfl), by first | rfl | (rw [hne]; done) | (rw [hne]; rfl), by first | rfl | (rw [hke]; done) | (rw [hke]; rfl), rfl, rfl, trivial⟩
                                  · exact en
                              · refine l_off rfl rfl rfl rfl ?_
                                refine l_off rfl rfl rfl rfl ?_
                                refine l_on rfl rfl ?_
                                first | refine l_q rfl (q_pick_t rfl rfl) ?_ | refine l_q rfl (q_pick_f rfl rfl) ?_
                                first | refine l_q rfl (q_pick_t rfl rfl) ?_ | refine l_q rfl (q_pick_f rfl rfl) ?_
                                refine l_nil ?_
                                refine n_code ?_
                                refine t_cond_f rfl ?_
                                refine t_skip ?_
                                refine n_blk ?_
                                refine n_code ?_
                                refine t_region ?_
                                apply l_q rfl
                                · apply q_bin rfl rfl (fun w => g_int w); first | exact fun w => b_add_i w (by omega) | exact fun w => b_add w
                                refine l_q rfl (q_move rfl) ?_
                                refine l_nil ?_
                                apply n_again ((i + 1, s1, T1, lives1, _, ad1))
                                · exact ⟨by dsimp only; omega, hP1, hI1, by dsimp only; omega, hp0, hp1, hk1⟩
                                · dsimp only; omega
                                · exact ⟨rfl, rfl, by first | rfl | (rw [hpe]; done) | (rw [hpe]; rfl), by first | rfl | (rw [hne]; done) | (rw [hne]; rfl), by first | rfl | (rw [hke]; done) | (rw [hke]; rfl), rfl, rfl, trivial⟩
                                · exact en
              · refine t_seq ?_
                refine t_region ?_
                apply l_q rfl
                · apply q_bin rfl rfl (fun w => g_int w); exact fun w => b_eql w
                refine l_q rfl (q_assign rfl) ?_
                refine l_nil ?_
                refine n_code ?_
                first | refine t_cond_d rfl (fun k4 => ?_) (fun k4 => ?_) | refine t_cond_n rfl (fun k4 => ?_) (fun k4 => ?_) | refine t_cond rfl (fun k4 => ?_) (fun k4 => ?_)
                · refine t_seq ?_
                  refine t_region ?_
                  refine l_q rfl (q_move rfl) ?_
                  first | refine l_q rfl (q_fieldAddr0 1 rfl Tryd.underlying66 rfl rfl ty_size3) ?_ | refine l_q rfl (q_fieldAddrK 1 rfl Tryd.underlying66 rfl rfl ty_size3) ?_
                  refine l_q rfl (q_loadL rfl ty_agg3 tk ga) ?_
                  first | refine l_q rfl (q_fieldAddr0 1 rfl Tryd.underlying66 rfl rfl ty_size3) ?_ | refine l_q rfl (q_fieldAddrK 1 rfl Tryd.underlying66 rfl rfl ty_size3) ?_
                  refine l_q rfl (q_loadL rfl ty_agg3 tk ga) ?_
                  apply l_q rfl
                  · apply q_buildS rfl ty_pl73 ty_zero73
                    · apply FillR.one
                      · repeat (first | exact PlAt.here | apply PlAt.there)
                      · rfl
                      · exact sa
                      apply FillR.one
                      · repeat (first | exact PlAt.here | apply PlAt.there)
                      · rfl
                      · exact sa
                      apply FillR.one
                      · repeat (first | exact PlAt.here | apply PlAt.there)
                      · rfl
                      · exact sa
                      exact FillR.nil
                  apply l_callf rfl rfl rfl (puts_ok pb pa off 2 e (lay5 xs) (.slice af xs.length capf) (.slice none 0 0) (.slice a0 lives1.length cap) 16 [5, 900] lives1 (stars [G, pt b21 (.cells #[.int .u64 5, .int .u64 900] 23 (0, 0))]) hG' go s1 T1 ad1 (.slice (some ⟨b21, 0, none⟩) 2 2) hh h0 hmx hwf hle hP1 hI1 rfl (by omega) (by omega) 1 t.2 t.2 hw)
                  · exact pk
                  rintro v L' ⟨s1, T1, lives1, lv1, ad1, rfl, rfl, hW⟩
                  refine l_nm ?_
                  have hpe := hW.keeps.pins
                  have hne := hW.keeps.next
                  have hke := congrArg (fun k : Int => decide (k = 4)) hW.keeps.kind
                  have hk1 : T1.kind = 2 ∨ T1.kind = 4 := by rw [hW.keeps.kind]; exact hk1
                  have hp0 : 0 ≤ T1.pins := by omega
                  have hp1 : T1.pins ≤ 4611686018427387904 := by omega
                  have hP1 := hW.tab
                  have hI1 := hW.bi
                  have had2 := hW.ad
                  refine l_nm ?_
                  refine l_q rfl (q_un rfl (fun w => u_not w)) ?_
                  refine l_nil ?_
                  refine n_code ?_
                  first | refine t_cond_d rfl (fun r1 => ?_) (fun r1 => ?_) | refine t_cond_n rfl (fun r1 => ?_) (fun r1 => ?_) | refine t_cond rfl (fun r1 => ?_) (fun r1 => ?_)
                  · cases r1
                  · refine t_skip ?_
                    refine n_blk ?_
                    refine n_code ?_
                    refine t_seq ?_
                    refine t_region ?_
                    refine l_q rfl (q_move rfl) ?_
                    refine l_q rfl (q_nilCheck rfl) ?_
                    first | refine l_q rfl (q_fieldAddr0 10 rfl Tryd.underlying69 rfl rfl ty_size36) ?_ | refine l_q rfl (q_fieldAddrK 10 rfl Tryd.underlying69 rfl rfl ty_size36) ?_
                    refine l_q rfl (q_loadAggL rfl ty_agg36 ty_size36 tk sb) ?_
                    apply l_callf rfl rfl rfl (StatP_ok pa off go 2 e s1 (lay5 xs) T1 hP1)
                    · exact pk
                    rintro v L' ⟨rfl, rfl⟩
                    refine l_nm ?_
                    refine l_q rfl (q_move rfl) ?_
                    refine l_q rfl (q_extractL rfl ga) ?_
                    refine l_q rfl (q_extractL rfl ga) ?_
                    refine o_allocA rfl ty_zero75 (fun b15 => ?_)
                    apply o_storeAggL rfl rfl rfl ty_size75 rfl rfl (by simp)
                    · exact tk
                    · exact sal
                    refine l_q rfl (q_assign rfl) ?_
                    refine l_nil ?_
                    refine n_code ?_
                    refine t_seq ?_
                    refine t_draw mixed ?_
                    refine d_q 0 gO rfl rfl rfl rfl (yq (q_move rfl)) ?_
                    refine d_q 1 gO rfl rfl rfl rfl (yq (q_nilCheck rfl)) ?_
                    apply d_q 2 gO rfl rfl rfl rfl
                    · apply yq
                      first | exact q_fieldAddr0 0 rfl Tryd.underlying69 rfl rfl ty_size30 | exact q_fieldAddrK 0 rfl Tryd.underlying69 rfl rfl ty_size30
                    refine d_q 3 gO rfl rfl rfl rfl (yq (q_loadL rfl ty_agg30 tk ga)) ?_
                    refine d_q 4 gO rfl rfl rfl rfl (yq (q_move rfl)) ?_
                    refine d_q 5 gO rfl rfl rfl rfl (yq (q_nilCheck rfl)) ?_
                    apply d_q 6 gO rfl rfl rfl rfl
                    · apply yq
                      first | exact q_fieldAddr0 10 rfl Tryd.underlying69 rfl rfl ty_size36 | exact q_fieldAddrK 10 rfl Tryd.underlying69 rfl rfl ty_size36
                    refine d_q 7 gO rfl rfl rfl rfl (yq (q_loadAggL rfl ty_agg36 ty_size36 tk sb)) ?_
                    apply d_eff1 [7, 6, 5, 4] [3, 2, 1, 0] 8 [(134, _)]
                    · exact gO
                    · exact ⟨rfl, trivial⟩
                    · kernel_rfl
                    · kernel_rfl
                    intro Ex
                    apply l_callf rfl rfl rfl (TOff_ok pa (lay5 xs) _)
                    · exact pk
                    rintro v L' ⟨rfl, rfl⟩
                    refine l_nm ?_
                    refine l_nil ?_
                    apply n_d
                    · refine ⟨?_, ?_, ?_, ?_, trivial⟩
                      · exact yat gO rfl rfl rfl (yq (q_loadL rfl ty_agg30 tk ga))
                      · refine yat gO rfl rfl rfl ?_
                        apply yq
                        first | exact q_fieldAddr0 0 rfl Tryd.underlying69 rfl rfl ty_size30 | exact q_fieldAddrK 0 rfl Tryd.underlying69 rfl rfl ty_size30
                      · exact yat gO rfl rfl rfl (yq (q_nilCheck rfl))
                      · exact yat gO rfl rfl rfl (yq (q_move rfl))
                    apply d_eff1 [3, 2, 1, 0] [] 9 [(130, _), (135, _)]
                    · exact gO
                    · exact ⟨rfl, rfl, trivial⟩
                    · kernel_rfl
                    · kernel_rfl
                    intro Ex
                    apply l_callf rfl rfl rfl (Load_okI pa s1 _ _ off 8 rfl rfl (by unfold wid; decide) (goodP.sub hP1.gh (by omega) (by omega) (by omega)))
                    · exact pk
                    rintro v L' ⟨rfl, rfl⟩
                    refine l_nm ?_
                    rw [show loadN s1.m off 8 = T1.kind by rw [show off = off + 8 * 0 by omega, hP1.hT.head 0 (by decide)]; show IntKind.u64.wrap T1.kind = T1.kind; rw [wrap_u64 (by omega)]]
                    refine l_nil ?_
                    apply n_d
                    · exact trivial
                    refine d_q 10 gO rfl rfl rfl rfl (yq (q_move rfl)) ?_
                    refine d_q 11 gO rfl rfl rfl rfl (yq (q_extractL rfl ga)) ?_
                    refine d_q 12 gO rfl rfl rfl rfl (yq (q_extractL rfl ga)) ?_
                    apply d_eff1 [11, 10] [12] 13 [(137, _)]
                    · exact gO
                    · exact ⟨rfl, trivial⟩
                    · kernel_rfl
                    · kernel_rfl
                    intro Ex
                    refine l_q rfl (q_assign rfl) ?_
                    refine l_nil ?_
                    apply n_d
                    · refine ⟨?_, trivial⟩
                      · exact yat gO rfl rfl rfl (yq (q_extractL rfl ga))
                    apply d_eff1 [12] [] 14 [(138, _)]
                    · exact gO
                    · exact ⟨rfl, trivial⟩
                    · kernel_rfl
                    · kernel_rfl
                    intro Ex
                    refine l_q rfl (q_assign rfl) ?_
                    refine l_nil ?_
                    apply n_d
                    · exact trivial
                    refine d_end (by kernel_rfl) ?_
                    refine n_code ?_
                    refine t_seq ?_
                    refine t_region ?_
                    refine l_q rfl (q_move rfl) ?_
                    apply l_callf rfl rfl rfl (num08_ok _)
                    · exact pk
                    rintro v L' ⟨rfl, rfl⟩
                    refine l_nm ?_
                    apply l_q rfl
                    · apply q_bin rfl rfl (fun w => g_int w); exact fun w => b_neq w
                    refine l_q rfl (q_move rfl) ?_
                    first | refine l_part_d (t := 142) rfl (fun d1 => ?_) (fun d1 => ?_) | refine l_part_n (t := 142) rfl (fun d1 => ?_) (fun d1 => ?_) | refine l_part (t := 142) rfl (fun d1 => ?_) (fun d1 => ?_)
                    · exact absurd rfl d1
                    · refine l_on rfl rfl ?_
                      refine l_q rfl (q_move rfl) ?_
                      refine l_on rfl rfl ?_
                      apply l_callf rfl rfl rfl (num08_ok _)
                      · exact pk
                      rintro v L' ⟨rfl, rfl⟩
                      refine l_nm ?_
                      refine l_on rfl rfl ?_
                      apply l_q rfl
                      · apply q_bin rfl rfl (fun w => g_int w); exact fun w => b_neq w
                      first | refine l_q rfl (q_pick_t rfl rfl) ?_ | refine l_q rfl (q_pick_f rfl rfl) ?_
                      refine l_q rfl (q_move rfl) ?_
                      first | refine l_part_d (t := 147) rfl (fun d2 => ?_) (fun d2 => ?_) | refine l_part_n (t := 147) rfl (fun d2 => ?_) (fun d2 => ?_) | refine l_part (t := 147) rfl (fun d2 => ?_) (fun d2 => ?_)
                      · exact absurd rfl d2
                      · refine l_on rfl rfl ?_
                        first | refine l_q rfl (q_fieldAddr0 4 rfl Tryd.underlying75 rfl rfl ty_size3) ?_ | refine l_q rfl (q_fieldAddrK 4 rfl Tryd.underlying75 rfl rfl ty_size3) ?_
                        refine l_on rfl rfl ?_
                        refine l_q rfl (q_loadL rfl ty_agg3 tk ga) ?_
                        refine l_on rfl rfl ?_
                        refine l_q rfl (q_move rfl) ?_
                        refine l_on rfl rfl ?_
                        apply l_q rfl
                        · apply q_bin rfl rfl (fun w => g_int w); exact fun w => b_neq w
                        first | refine l_q rfl (q_pick_t rfl rfl) ?_ | refine l_q rfl (q_pick_f rfl rfl) ?_
                        refine l_q rfl (q_move rfl) ?_
                        first | refine l_part_d (t := 153) rfl (fun d3 => ?_) (fun d3 => ?_) | refine l_part_n (t := 153) rfl (fun d3 => ?_) (fun d3 => ?_) | refine l_part (t := 153) rfl (fun d3 => ?_) (fun d3 => ?_)
                        · exact absurd hpe d3
                        · refine l_on rfl rfl ?_
                          first | refine l_q rfl (q_fieldAddr0 5 rfl Tryd.underlying75 rfl rfl ty_size3) ?_ | refine l_q rfl (q_fieldAddrK 5 rfl Tryd.underlying75 rfl rfl ty_size3) ?_
                          refine l_on rfl rfl ?_
                          refine l_q rfl (q_loadL rfl ty_agg3 tk ga) ?_
                          refine l_on rfl rfl ?_
                          refine l_q rfl (q_move rfl) ?_
                          refine l_on rfl rfl ?_
                          apply l_q rfl
                          · apply q_bin rfl rfl (fun w => g_int w); exact fun w => b_neq w
                          first | refine l_q rfl (q_pick_t rfl rfl) ?_ | refine l_q rfl (q_pick_f rfl rfl) ?_
                          refine l_q rfl (q_move rfl) ?_
                          first | refine l_part_d (t := 159) rfl (fun d4 => ?_) (fun d4 => ?_) | refine l_part_n (t := 159) rfl (fun d4 => ?_) (fun d4 => ?_) | refine l_part (t := 159) rfl (fun d4 => ?_) (fun d4 => ?_)
                          · exact absurd hne d4
                          · refine l_on rfl rfl ?_
                            first | refine l_q rfl (q_fieldAddr0 6 rfl Tryd.underlying75 rfl rfl ty_size4) ?_ | refine l_q rfl (q_fieldAddrK 6 rfl Tryd.underlying75 rfl rfl ty_size4) ?_
                            refine l_on rfl rfl ?_
                            refine l_q rfl (q_loadL rfl ty_agg4 tk ga) ?_
                            refine l_on rfl rfl ?_
                            refine l_q rfl (q_move rfl) ?_
                            refine l_on rfl rfl ?_
                            apply l_q rfl
                            · apply q_bin rfl rfl (fun w => g_bool w); exact fun w => b_neqB w Tryd.underlying4
                            first | refine l_q rfl (q_pick_t rfl rfl) ?_ | refine l_q rfl (q_pick_f rfl rfl) ?_
                            refine l_q rfl (q_move rfl) ?_
                            first | refine l_part_d (t := 165) rfl (fun d5 => ?_) (fun d5 => ?_) | refine l_part_n (t := 165) rfl (fun d5 => ?_) (fun d5 => ?_) | refine l_part (t := 165) rfl (fun d5 => ?_) (fun d5 => ?_)
                            · refine l_off rfl rfl rfl rfl ?_
                              refine l_off rfl rfl rfl rfl ?_
                              refine l_off rfl rfl rfl rfl ?_
                              refine l_off rfl rfl rfl rfl ?_
                              first | refine l_q rfl (q_pick_t rfl rfl) ?_ | refine l_q rfl (q_pick_f rfl rfl) ?_
                              refine l_q rfl (q_move rfl) ?_
                              refine l_off rfl rfl rfl rfl ?_
                              refine l_off rfl rfl rfl rfl ?_
                              refine l_off rfl rfl rfl rfl ?_
                              refine l_offu rfl rfl rfl ?_
                              refine l_offu rfl rfl rfl ?_
                              refine l_off rfl rfl rfl rfl ?_
                              first | refine l_q rfl (q_pick_t rfl rfl) ?_ | refine l_q rfl (q_pick_f rfl rfl) ?_
                              refine l_nil ?_
                              refine n_code ?_
                              refine t_cond_t rfl ?_
                              refine t_seq ?_
                              refine t_region ?_
                              refine l_q rfl (q_assign rfl) ?_
                              refine l_nil ?_
                              refine n_code ?_
                              refine t_ret ?_
                              refine r_blk ?_
                              refine r_code ?_
                              refine r_lp ?_
                              refine r_blk ?_
                              refine r_code ?_
                              exfalso
                              first | (rw [hke] at d5; simp at d5) | (simp at d5) | simp_all
                            · refine l_on rfl rfl ?_
                              refine l_q rfl (q_move rfl) ?_
                              refine l_on rfl rfl ?_
                              apply l_q rfl
                              · apply q_bin rfl rfl (fun w => g_int w); exact fun w => b_eql w
                              refine l_on rfl rfl ?_
                              refine l_q rfl (q_move rfl) ?_
                              refine l_on rfl rfl ?_
                              apply l_q rfl
                              · apply q_bin rfl rfl (fun w => g_bool w); exact fun w => b_neqB w Tryd.underlying4
                              first | refine l_q rfl (q_pick_t rfl rfl) ?_ | refine l_q rfl (q_pick_f rfl rfl) ?_
                              refine l_q rfl (q_move rfl) ?_
                              first | refine l_part_d (t := 171) rfl (fun d6 => ?_) (fun d6 => ?_) | refine l_part_n (t := 171) rfl (fun d6 => ?_) (fun d6 => ?_) | refine l_part (t := 171) rfl (fun d6 => ?_) (fun d6 => ?_)
                              · refine l_off rfl rfl rfl rfl ?_
                                refine l_off rfl rfl rfl rfl ?_
                                refine l_off rfl rfl rfl rfl ?_
                                refine l_offu rfl rfl rfl ?_
                                refine l_offu rfl rfl rfl ?_
                                refine l_off rfl rfl rfl rfl ?_
                                first | refine l_q rfl (q_pick_t rfl rfl) ?_ | refine l_q rfl (q_pick_f rfl rfl) ?_
                                refine l_nil ?_
                                refine n_code ?_
                                refine t_cond_t rfl ?_
                                refine t_seq ?_
                                refine t_region ?_
                                refine l_q rfl (q_assign rfl) ?_
                                refine l_nil ?_
                                refine n_code ?_
                                refine t_ret ?_
                                refine r_blk ?_
                                refine r_code ?_
                                refine r_lp ?_
                                refine r_blk ?_
                                refine r_code ?_
                                exfalso
                                first | (rw [hke] at d6; simp at d6) | (simp at d6) | simp_all
                              · refine l_on rfl rfl ?_
                                refine l_q rfl (q_move rfl) ?_
                                refine l_on rfl rfl ?_
                                apply l_q rfl
                                · apply q_bin rfl rfl (fun w => g_int w); exact fun w => b_neq w
                                refine l_on rfl rfl ?_
                                refine l_q rfl (q_move rfl) ?_
                                first | refine l_part_d (t := 174) rfl (fun d7 => ?_) (fun d7 => ?_) | refine l_part_n (t := 174) rfl (fun d7 => ?_) (fun d7 => ?_) | refine l_part (t := 174) rfl (fun d7 => ?_) (fun d7 => ?_)
                                · refine l_on rfl rfl ?_
                                  refine l_q rfl (q_move rfl) ?_
                                  refine l_on rfl rfl ?_
                                  apply l_q rfl
                                  · apply q_bin rfl rfl (fun w => g_int w); exact fun w => b_neq w
                                  refine l_on rfl rfl ?_
                                  first | refine l_q rfl (q_pick_t rfl rfl) ?_ | refine l_q rfl (q_pick_f rfl rfl) ?_
                                  first | refine l_q rfl (q_pick_t rfl rfl) ?_ | refine l_q rfl (q_pick_f rfl rfl) ?_
                                  refine l_nil ?_
                                  refine n_code ?_
                                  first | refine t_cond_d rfl (fun d8 => ?_) (fun d8 => ?_) | refine t_cond_n rfl (fun d8 => ?_) (fun d8 => ?_) | refine t_cond rfl (fun d8 => ?_) (fun d8 => ?_)
                                  · omega
                                  · refine t_skip ?_
                                    refine n_blk ?_
                                    refine n_code ?_
                                    refine t_region ?_
                                    apply l_q rfl
                                    · apply q_bin rfl rfl (fun w => g_int w); first | exact fun w => b_add_i w (by omega) | exact fun w => b_add w
                                    refine l_q rfl (q_move rfl) ?_
                                    refine l_nil ?_
                                    apply n_again ((i + 1, s1, T1, lives1, _, ad1))
                                    · exact ⟨by dsimp only; omega, hP1, hI1, by dsimp only; omega, hp0, hp1, hk1⟩
                                    · dsimp only; omega
                                    · exact ⟨rfl, rfl, by first | rfl | (rw [hpe]; done) | (rw [hpe]; rfl), by first | rfl | (rw [hne]; done) | (rw [hne]; rfl), by first | rfl | (rw [hke]; done) | (rw [hke]; rfl), rfl, rfl, trivial⟩
                                    · exact en
                                · refine l_off rfl rfl rfl rfl ?_
                                  refine l_off rfl rfl rfl rfl ?_
                                  refine l_on rfl rfl ?_
                                  first | refine l_q rfl (q_pick_t rfl rfl) ?_ | refine l_q rfl (q_pick_f rfl rfl) ?_
                                  first | refine l_q rfl (q_pick_t rfl rfl) ?_ | refine l_q rfl (q_pick_f rfl rfl) ?_
                                  refine l_nil ?_
                                  refine n_code ?_
                                  refine t_cond_f rfl ?_
                                  refine t_skip ?_
                                  refine n_blk ?_
                                  refine n_code ?_
                                  refine t_region ?_
                                  apply l_q rfl
                                  · apply q_bin rfl rfl (fun w => g_int w); first | exact fun w => b_add_i w (by omega) | exact fun w => b_add w
                                  refine l_q rfl (q_move rfl) ?_
                                  refine l_nil ?_
                                  apply n_again ((i + 1, s1, T1, lives1, _, ad1))
                                  · exact ⟨by dsimp only; omega, hP1, hI1, by dsimp only; omega, hp0, hp1, hk1⟩
                                  · dsimp only; omega
                                  · exact ⟨rfl, rfl, by first | rfl | (rw [hpe]; done) | (rw [hpe]; rfl), by first | rfl | (rw [hne]; done) | (rw [hne]; rfl), by first | rfl | (rw [hke]; done) | (rw [hke]; rfl), rfl, rfl, trivial⟩
                                  · exact en
                · refine t_skip ?_
                  refine n_blk ?_
                  refine n_code ?_
                  refine t_seq ?_
                  refine t_region ?_
                  refine l_q rfl (q_move rfl) ?_
                  refine l_q rfl (q_nilCheck rfl) ?_
                  first | refine l_q rfl (q_fieldAddr0 10 rfl Tryd.underlying69 rfl rfl ty_size36) ?_ | refine l_q rfl (q_fieldAddrK 10 rfl Tryd.underlying69 rfl rfl ty_size36) ?_
                  refine l_q rfl (q_loadAggL rfl ty_agg36 ty_size36 tk sb) ?_
                  have hpe : T1.pins = T1.pins := rfl
                  have hne : T1.next = T1.next := rfl
                  have hke : decide (T1.kind = 4) = decide (T1.kind = 4) := rfl
                  apply l_callf rfl rfl rfl (StatP_ok pa off go 2 e s1 (lay5 xs) T1 hP1)
                  · exact pk
                  rintro v L' ⟨rfl, rfl⟩
                  refine l_nm ?_
                  refine l_q rfl (q_move rfl) ?_
                  refine l_q rfl (q_extractL rfl ga) ?_
                  refine l_q rfl (q_extractL rfl ga) ?_
                  refine o_allocA rfl ty_zero75 (fun b15 => ?_)
                  apply o_storeAggL rfl rfl rfl ty_size75 rfl rfl (by simp)
                  · exact tk
                  · exact sal
                  refine l_q rfl (q_assign rfl) ?_
                  refine l_nil ?_
                  refine n_code ?_
                  refine t_seq ?_
                  refine t_draw mixed ?_
                  refine d_q 0 gO rfl rfl rfl rfl (yq (q_move rfl)) ?_
                  refine d_q 1 gO rfl rfl rfl rfl (yq (q_nilCheck rfl)) ?_
                  apply d_q 2 gO rfl rfl rfl rfl
                  · apply yq
                    first | exact q_fieldAddr0 0 rfl Tryd.underlying69 rfl rfl ty_size30 | exact q_fieldAddrK 0 rfl Tryd.underlying69 rfl rfl ty_size30
                  refine d_q 3 gO rfl rfl rfl rfl (yq (q_loadL rfl ty_agg30 tk ga)) ?_
                  refine d_q 4 gO rfl rfl rfl rfl (yq (q_move rfl)) ?_
                  refine d_q 5 gO rfl rfl rfl rfl (yq (q_nilCheck rfl)) ?_
                  apply d_q 6 gO rfl rfl rfl rfl
                  · apply yq
                    first | exact q_fieldAddr0 10 rfl Tryd.underlying69 rfl rfl ty_size36 | exact q_fieldAddrK 10 rfl Tryd.underlying69 rfl rfl ty_size36
                  refine d_q 7 gO rfl rfl rfl rfl (yq (q_loadAggL rfl ty_agg36 ty_size36 tk sb)) ?_
                  apply d_eff1 [7, 6, 5, 4] [3, 2, 1, 0] 8 [(134, _)]
                  · exact gO
                  · exact ⟨rfl, trivial⟩
                  · kernel_rfl
                  · kernel_rfl
                  intro Ex
                  apply l_callf rfl rfl rfl (TOff_ok pa (lay5 xs) _)
                  · exact pk
                  rintro v L' ⟨rfl, rfl⟩
                  refine l_nm ?_
                  refine l_nil ?_
                  apply n_d
                  · refine ⟨?_, ?_, ?_, ?_, trivial⟩
                    · exact yat gO rfl rfl rfl (yq (q_loadL rfl ty_agg30 tk ga))
                    · refine yat gO rfl rfl rfl ?_
                      apply yq
                      first | exact q_fieldAddr0 0 rfl Tryd.underlying69 rfl rfl ty_size30 | exact q_fieldAddrK 0 rfl Tryd.underlying69 rfl rfl ty_size30
                    · exact yat gO rfl rfl rfl (yq (q_nilCheck rfl))
                    · exact yat gO rfl rfl rfl (yq (q_move rfl))
                  apply d_eff1 [3, 2, 1, 0] [] 9 [(130, _), (135, _)]
                  · exact gO
                  · exact ⟨rfl, rfl, trivial⟩
                  · kernel_rfl
                  · kernel_rfl
                  intro Ex
                  apply l_callf rfl rfl rfl (Load_okI pa s1 _ _ off 8 rfl rfl (by unfold wid; decide) (goodP.sub hP1.gh (by omega) (by omega) (by omega)))
                  · exact pk
                  rintro v L' ⟨rfl, rfl⟩
                  refine l_nm ?_
                  rw [show loadN s1.m off 8 = T1.kind by rw [show off = off + 8 * 0 by omega, hP1.hT.head 0 (by decide)]; show IntKind.u64.wrap T1.kind = T1.kind; rw [wrap_u64 (by omega)]]
                  refine l_nil ?_
                  apply n_d
                  · exact trivial
                  refine d_q 10 gO rfl rfl rfl rfl (yq (q_move rfl)) ?_
                  refine d_q 11 gO rfl rfl rfl rfl (yq (q_extractL rfl ga)) ?_
                  refine d_q 12 gO rfl rfl rfl rfl (yq (q_extractL rfl ga)) ?_
                  apply d_eff1 [11, 10] [12] 13 [(137, _)]
                  · exact gO
                  · exact ⟨rfl, trivial⟩
                  · kernel_rfl
                  · kernel_rfl
                  intro Ex
                  refine l_q rfl (q_assign rfl) ?_
                  refine l_nil ?_
                  apply n_d
                  · refine ⟨?_, trivial⟩
                    · exact yat gO rfl rfl rfl (yq (q_extractL rfl ga))
                  apply d_eff1 [12] [] 14 [(138, _)]
                  · exact gO
                  · exact ⟨rfl, trivial⟩
                  · kernel_rfl
                  · kernel_rfl
                  intro Ex
                  refine l_q rfl (q_assign rfl) ?_
                  refine l_nil ?_
                  apply n_d
                  · exact trivial
                  refine d_end (by kernel_rfl) ?_
                  refine n_code ?_
                  refine t_seq ?_
                  refine t_region ?_
                  refine l_q rfl (q_move rfl) ?_
                  apply l_callf rfl rfl rfl (num08_ok _)
                  · exact pk
                  rintro v L' ⟨rfl, rfl⟩
                  refine l_nm ?_
                  apply l_q rfl
                  · apply q_bin rfl rfl (fun w => g_int w); exact fun w => b_neq w
                  refine l_q rfl (q_move rfl) ?_
                  first | refine l_part_d (t := 142) rfl (fun d1 => ?_) (fun d1 => ?_) | refine l_part_n (t := 142) rfl (fun d1 => ?_) (fun d1 => ?_) | refine l_part (t := 142) rfl (fun d1 => ?_) (fun d1 => ?_)
                  · exact absurd rfl d1
                  · refine l_on rfl rfl ?_
                    refine l_q rfl (q_move rfl) ?_
                    refine l_on rfl rfl ?_
                    apply l_callf rfl rfl rfl (num08_ok _)
                    · exact pk
                    rintro v L' ⟨rfl, rfl⟩
                    refine l_nm ?_
                    refine l_on rfl rfl ?_
                    apply l_q rfl
                    · apply q_bin rfl rfl (fun w => g_int w); exact fun w => b_neq w
                    first | refine l_q rfl (q_pick_t rfl rfl) ?_ | refine l_q rfl (q_pick_f rfl rfl) ?_
                    refine l_q rfl (q_move rfl) ?_
                    first | refine l_part_d (t := 147) rfl (fun d2 => ?_) (fun d2 => ?_) | refine l_part_n (t := 147) rfl (fun d2 => ?_) (fun d2 => ?_) | refine l_part (t := 147) rfl (fun d2 => ?_) (fun d2 => ?_)
                    · exact absurd rfl d2
                    · refine l_on rfl rfl ?_
                      first | refine l_q rfl (q_fieldAddr0 4 rfl Tryd.underlying75 rfl rfl ty_size3) ?_ | refine l_q rfl (q_fieldAddrK 4 rfl Tryd.underlying75 rfl rfl ty_size3) ?_
                      refine l_on rfl rfl ?_
                      refine l_q rfl (q_loadL rfl ty_agg3 tk ga) ?_
                      refine l_on rfl rfl ?_
                      refine l_q rfl (q_move rfl) ?_
                      refine l_on rfl rfl ?_
                      apply l_q rfl
                      · apply q_bin rfl rfl (fun w => g_int w); exact fun w => b_neq w
                      first | refine l_q rfl (q_pick_t rfl rfl) ?_ | refine l_q rfl (q_pick_f rfl rfl) ?_
                      refine l_q rfl (q_move rfl) ?_
                      first | refine l_part_d (t := 153) rfl (fun d3 => ?_) (fun d3 => ?_) | refine l_part_n (t := 153) rfl (fun d3 => ?_) (fun d3 => ?_) | refine l_part (t := 153) rfl (fun d3 => ?_) (fun d3 => ?_)
                      · exact absurd hpe d3
                      · refine l_on rfl rfl ?_
                        first | refine l_q rfl (q_fieldAddr0 5 rfl Tryd.underlying75 rfl rfl ty_size3) ?_ | refine l_q rfl (q_fieldAddrK 5 rfl Tryd.underlying75 rfl rfl ty_size3) ?_
                        refine l_on rfl rfl ?_
                        refine l_q rfl (q_loadL rfl ty_agg3 tk ga) ?_
                        refine l_on rfl rfl ?_
                        refine l_q rfl (q_move rfl) ?_
                        refine l_on rfl rfl ?_
                        apply l_q rfl
                        · apply q_bin rfl rfl (fun w => g_int w); exact fun w => b_neq w
                        first | refine l_q rfl (q_pick_t rfl rfl) ?_ | refine l_q rfl (q_pick_f rfl rfl) ?_
                        refine l_q rfl (q_move rfl) ?_
                        first | refine l_part_d (t := 159) rfl (fun d4 => ?_) (fun d4 => ?_) | refine l_part_n (t := 159) rfl (fun d4 => ?_) (fun d4 => ?_) | refine l_part (t := 159) rfl (fun d4 => ?_) (fun d4 => ?_)
                        · exact absurd hne d4
                        · refine l_on rfl rfl ?_
                          first | refine l_q rfl (q_fieldAddr0 6 rfl Tryd.underlying75 rfl rfl ty_size4) ?_ | refine l_q rfl (q_fieldAddrK 6 rfl Tryd.underlying75 rfl rfl ty_size4) ?_
                          refine l_on rfl rfl ?_
                          refine l_q rfl (q_loadL rfl ty_agg4 tk ga) ?_
                          refine l_on rfl rfl ?_
                          refine l_q rfl (q_move rfl) ?_
                          refine l_on rfl rfl ?_
                          apply l_q rfl
                          · apply q_bin rfl rfl (fun w => g_bool w); exact fun w => b_neqB w Tryd.underlying4
                          first | refine l_q rfl (q_pick_t rfl rfl) ?_ | refine l_q rfl (q_pick_f rfl rfl) ?_
                          refine l_q rfl (q_move rfl) ?_
                          first | refine l_part_d (t := 165) rfl (fun d5 => ?_) (fun d5 => ?_) | refine l_part_n (t := 165) rfl (fun d5 => ?_) (fun d5 => ?_) | refine l_part (t := 165) rfl (fun d5 => ?_) (fun d5 => ?_)
                          · refine l_off rfl rfl rfl rfl ?_
                            refine l_off rfl rfl rfl rfl ?_
                            refine l_off rfl rfl rfl rfl ?_
                            refine l_off rfl rfl rfl rfl ?_
                            first | refine l_q rfl (q_pick_t rfl rfl) ?_ | refine l_q rfl (q_pick_f rfl rfl) ?_
                            refine l_q rfl (q_move rfl) ?_
                            refine l_off rfl rfl rfl rfl ?_
                            refine l_off rfl rfl rfl rfl ?_
                            refine l_off rfl rfl rfl rfl ?_
                            refine l_offu rfl rfl rfl ?_
                            refine l_offu rfl rfl rfl ?_
                            refine l_off rfl rfl rfl rfl ?_
                            first | refine l_q rfl (q_pick_t rfl rfl) ?_ | refine l_q rfl (q_pick_f rfl rfl) ?_
                            refine l_nil ?_
                            refine n_code ?_
                            refine t_cond_t rfl ?_
                            refine t_seq ?_
                            refine t_region ?_
                            refine l_q rfl (q_assign rfl) ?_
                            refine l_nil ?_
                            refine n_code ?_
                            refine t_ret ?_
                            refine r_blk ?_
                            refine r_code ?_
                            refine r_lp ?_
                            refine r_blk ?_
                            refine r_code ?_
                            exfalso
                            first | (rw [hke] at d5; simp at d5) | (simp at d5) | simp_all
                          · refine l_on rfl rfl ?_
                            refine l_q rfl (q_move rfl) ?_
                            refine l_on rfl rfl ?_
                            apply l_q rfl
                            · apply q_bin rfl rfl (fun w => g_int w); exact fun w => b_eql w
                            refine l_on rfl rfl ?_
                            refine l_q rfl (q_move rfl) ?_
                            refine l_on rfl rfl ?_
                            apply l_q rfl
                            · apply q_bin rfl rfl (fun w => g_bool w); exact fun w => b_neqB w Tryd.underlying4
                            first | refine l_q rfl (q_pick_t rfl rfl) ?_ | refine l_q rfl (q_pick_f rfl rfl) ?_
                            refine l_q rfl (q_move rfl) ?_
                            first | refine l_part_d (t := 171) rfl (fun d6 => ?_) (fun d6 => ?_) | refine l_part_n (t := 171) rfl (fun d6 => ?_) (fun d6 => ?_) | refine l_part (t := 171) rfl (fun d6 => ?_) (fun d6 => ?_)
                            · refine l_off rfl rfl rfl rfl ?_
                              refine l_off rfl rfl rfl rfl ?_
                              refine l_off rfl rfl rfl rfl ?_
                              refine l_offu rfl rfl rfl ?_
                              refine l_offu rfl rfl rfl ?_
                              refine l_off rfl rfl rfl rfl ?_
                              first | refine l_q rfl (q_pick_t rfl rfl) ?_ | refine l_q rfl (q_pick_f rfl rfl) ?_
                              refine l_nil ?_
                              refine n_code ?_
                              refine t_cond_t rfl ?_
                              refine t_seq ?_
                              refine t_region ?_
                              refine l_q rfl (q_assign rfl) ?_
                              refine l_nil ?_
                              refine n_code ?_
                              refine t_ret ?_
                              refine r_blk ?_
                              refine r_code ?_
                              refine r_lp ?_
                              refine r_blk ?_
                              refine r_code ?_
                              exfalso
                              first | (rw [hke] at d6; simp at d6) | (simp at d6) | simp_all
                            · refine l_on rfl rfl ?_
                              refine l_q rfl (q_move rfl) ?_
                              refine l_on rfl rfl ?_
                              apply l_q rfl
                              · apply q_bin rfl rfl (fun w => g_int w); exact fun w => b_neq w
                              refine l_on rfl rfl ?_
                              refine l_q rfl (q_move rfl) ?_
                              first | refine l_part_d (t := 174) rfl (fun d7 => ?_) (fun d7 => ?_) | refine l_part_n (t := 174) rfl (fun d7 => ?_) (fun d7 => ?_) | refine l_part (t := 174) rfl (fun d7 => ?_) (fun d7 => ?_)
                              · refine l_on rfl rfl ?_
                                refine l_q rfl (q_move rfl) ?_
                                refine l_on rfl rfl ?_
                                apply l_q rfl
                                · apply q_bin rfl rfl (fun w => g_int w); exact fun w => b_neq w
                                refine l_on rfl rfl ?_
                                first | refine l_q rfl (q_pick_t rfl rfl) ?_ | refine l_q rfl (q_pick_f rfl rfl) ?_
                                first | refine l_q rfl (q_pick_t rfl rfl) ?_ | refine l_q rfl (q_pick_f rfl rfl) ?_
                                refine l_nil ?_
                                refine n_code ?_
                                first | refine t_cond_d rfl (fun d8 => ?_) (fun d8 => ?_) | refine t_cond_n rfl (fun d8 => ?_) (fun d8 => ?_) | refine t_cond rfl (fun d8 => ?_) (fun d8 => ?_)
                                · omega
                                · refine t_skip ?_
                                  refine n_blk ?_
                                  refine n_code ?_
                                  refine t_region ?_
                                  apply l_q rfl
                                  · apply q_bin rfl rfl (fun w => g_int w); first | exact fun w => b_add_i w (by omega) | exact fun w => b_add w
                                  refine l_q rfl (q_move rfl) ?_
                                  refine l_nil ?_
                                  apply n_again ((i + 1, s1, T1, lives1, _, ad1))
                                  · exact ⟨by dsimp only; omega, hP1, hI1, by dsimp only; omega, hp0, hp1, hk1⟩
                                  · dsimp only; omega
                                  · exact ⟨rfl, rfl, by first | rfl | (rw [hpe]; done) | (rw [hpe]; rfl), by first | rfl | (rw [hne]; done) | (rw [hne]; rfl), by first | rfl | (rw [hke]; done) | (rw [hke]; rfl), rfl, rfl, trivial⟩
                                  · exact en
                              · refine l_off rfl rfl rfl rfl ?_
                                refine l_off rfl rfl rfl rfl ?_
                                refine l_on rfl rfl ?_
                                first | refine l_q rfl (q_pick_t rfl rfl) ?_ | refine l_q rfl (q_pick_f rfl rfl) ?_
                                first | refine l_q rfl (q_pick_t rfl rfl) ?_ | refine l_q rfl (q_pick_f rfl rfl) ?_
                                refine l_nil ?_
                                refine n_code ?_
                                refine t_cond_f rfl ?_
                                refine t_skip ?_
                                refine n_blk ?_
                                refine n_code ?_
                                refine t_region ?_
                                apply l_q rfl
                                · apply q_bin rfl rfl (fun w => g_int w); first | exact fun w => b_add_i w (by omega) | exact fun w => b_add w
                                refine l_q rfl (q_move rfl) ?_
                                refine l_nil ?_
                                apply n_again ((i + 1, s1, T1, lives1, _, ad1))
                                · exact ⟨by dsimp only; omega, hP1, hI1, by dsimp only; omega, hp0, hp1, hk1⟩
                                · dsimp only; omega
                                · exact ⟨rfl, rfl, by first | rfl | (rw [hpe]; done) | (rw [hpe]; rfl), by first | rfl | (rw [hne]; done) | (rw [hne]; rfl), by first | rfl | (rw [hke]; done) | (rw [hke]; rfl), rfl, rfl, trivial⟩
                                · exact en
        · refine t_exit ?_
          refine x_code ?_
          refine x_lp ?_
          refine x_hit ?_
          refine n_code ?_
          refine t_seq ?_
          refine t_region ?_
          refine l_q rfl (q_move rfl) ?_
          have hS := shape_ok pb pa off 2 e (lay5 xs) (.slice af xs.length capf) (.slice none 0 0) (.slice a0 lives1.length cap) lives1 go s1 T1 ((ad1 : Nat) : Int) _ _ ad1 (.slice (some ⟨b21, 0, none⟩) 2 2) hP1 hI1 (by omega) (fun u hu => by rw [(hI1.there u hu).2.2]; exact planH_wf h0 hwf _ _)
          rw [show (8 : Int) * ((2 : Nat) : Int) = 16 from rfl] at hS
          apply l_callf rfl rfl rfl (hS)
          · exact pk
          rintro v L' ⟨rfl, rfl⟩
          refine l_nm ?_
          refine l_q rfl (q_assign rfl) ?_
          refine l_nil ?_
          refine n_code ?_
          refine t_ret ?_
          apply f_ret (.inl rfl) ([G])
          · apply res1 rfl
            · exact .tmp rfl
          · exact ⟨rfl, rfl⟩
          · exact fun w h => (show Ent (G :: pt b21 (.cells #[.int .u64 5, .int .u64 900] 23 (0, 0)) :: Fr) (G :: Fr) by (exact en)) w (sat_all.1 ((show Ent _ (stars [G, pt b21 (.cells #[.int .u64 5, .int .u64 900] 23 (0, 0))] :: Fr) by (exact en)) w h))
end Go.Proofs.YthdmlgnhmbobaaaDoor.Bench
