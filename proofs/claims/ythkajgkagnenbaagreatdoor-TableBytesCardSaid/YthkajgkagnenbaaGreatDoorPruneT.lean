import Derived.Test.YthkajgkagnenbaaGreatDoorTableW
import Derived.Test.YthkajgkagnenbaaGreatDoorTableN
section
/- Contracts of package table: Get, Delete. -/
set_option linter.unusedVariables false
set_option linter.unusedSimpArgs false
set_option maxRecDepth 100000
namespace Go.Proofs.YthkajgkagnenbaaGreatDoor.Table
open Go.RowKit Go.Proofs Go.Proofs.YthkajgkagnenbaaGreatDoor.Eng Go.Proofs.YthkajgkagnenbaaGreatDoor.Ty Go.Proofs.YthkajgkagnenbaaGreatDoor.Bits Go.Proofs.YthkajgkagnenbaaGreatDoor.Mem Go.Proofs.YthkajgkagnenbaaGreatDoor.Search Go.Proofs.YthkajgkagnenbaaGreatDoor.Arena Go.Proofs.YthkajgkagnenbaaGreatDoor.CtrlB Go.Proofs.YthkajgkagnenbaaGreatDoor.Ctrl Go.Proofs.YthkajgkagnenbaaGreatDoor.Layout Go.Proofs.YthkajgkagnenbaaGreatDoor.GroupB Go.Proofs.YthkajgkagnenbaaGreatDoor.Group Go.Proofs.YthkajgkagnenbaaGreatDoor.Probe Go.Proofs.YthkajgkagnenbaaGreatDoor.TableB Go.Proofs.YthkajgkagnenbaaGreatDoor.TableI

/-- The bits of a word, added up side by side. -/
def onesI (x : Int) : Int :=
 let a := IntKind.u64.wrap (bits .and .u64 (x.fdiv (2 ^ min (Int.toNat 1) IntKind.u64.bits)) 6148914691236517205 + bits .and .u64 x 6148914691236517205)
 let b := IntKind.u64.wrap (bits .and .u64 (a.fdiv (2 ^ min (Int.toNat 2) IntKind.u64.bits)) 3689348814741910323 + bits .and .u64 a 3689348814741910323)
 let c := bits .and .u64 (IntKind.u64.wrap (b.fdiv (2 ^ min (Int.toNat 4) IntKind.u64.bits) + b)) 1085102592571150095
 let d := IntKind.u64.wrap (c + c.fdiv (2 ^ min (Int.toNat 8) IntKind.u64.bits))
 let e := IntKind.u64.wrap (d + d.fdiv (2 ^ min (Int.toNat 16) IntKind.u64.bits))
 IntKind.u64.wrap (e + e.fdiv (2 ^ min (Int.toNat 32) IntKind.u64.bits))
theorem Ones_ok (s : Nat → Bool) : FnOk Tryz.prog 213 #[.int .u64 (selW s)] [] (fun v L => v = .int .i64 ((slotsF s).length : Nat) ∧ L = []) := by
 have ho : ∀ a b c d e f g h : Bool, bits .and .i64 (IntKind.i64.wrap (onesI (selW (sof a b c d e f g h)))) 127 = (((slotsF (sof a b c d e f g h)).length : Nat) : Int) := by decide +kernel
 refine fn_intro en213 Tryz.func213 rfl rfl rfl fun Fr w0 => t_nm ?_
 refine sr<|asg O O<|lz<|mv O O ?_
 apply l_q O
 ·apply qi O O; first | exact fun w => b_shr_c (m := 2) w (by decide) (by decide) (by omega) | exact fun w => b_shr w (by decide)
 refine l_q O (qbit O O O)<|mv O O<|l_q O (qbit O O O)<|l_q O (qadd O O) ?_
 refine asg O O<|lz<|mv O O ?_
 apply l_q O
 ·apply qi O O; first | exact fun w => b_shr_c (m := 4) w (by decide) (by decide) (by omega) | exact fun w => b_shr w (by decide)
 refine l_q O (qbit O O O)<|mv O O<|l_q O (qbit O O O)<|l_q O (qadd O O) ?_
 refine asg O O<|lz<|mv O O ?_
 apply l_q O
 ·apply qi O O; first | exact fun w => b_shr_c (m := 16) w (by decide) (by decide) (by omega) | exact fun w => b_shr w (by decide)
 refine mv O O<|l_q O (qadd O O) ?_
 refine l_q O (qbit O O O)<|asg O O<|lz<|mv O O<|mv O O ?_
 apply l_q O
 ·apply qi O O; first | exact fun w => b_shr_c (m := 256) w (by decide) (by decide) (by omega) | exact fun w => b_shr w (by decide)
 refine l_q O (qadd O O) ?_
 refine asg O O<|lz<|mv O O<|mv O O ?_
 apply l_q O
 ·apply qi O O; first | exact fun w => b_shr_c (m := 65536) w (by decide) (by decide) (by omega) | exact fun w => b_shr w (by decide)
 refine l_q O (qadd O O) ?_
 refine asg O O<|lz<|mv O O<|mv O O ?_
 apply l_q O
 ·apply qi O O; first | exact fun w => b_shr_c (m := 4294967296) w (by decide) (by decide) (by omega) | exact fun w => b_shr w (by decide)
 refine l_q O (qadd O O) ?_
 refine asg O O<|lz<|mv O O<|l_q O (qcv O yU27 yU3) ?_
 refine l_q O (qbit O O O)<|asg O O<|lc<|rt<|fr1 O ([]) (.tmp rfl) ?_
 refine ⟨?_, rfl⟩; congr 1; rw [selW_sof, slotsF_sof]; exact ho _ _ _ _ _ _ _ _
theorem Count_ok (s : Nat → Bool) : FnOk Tryz.prog 162 #[bitsV s] [] (fun v L => v = .int .i64 ((slotsF s).length : Nat) ∧ L = []) := by
 refine fn_intro en162 Tryz.func162 rfl rfl rfl fun Fr w0 => t_nm ?_
 refine sr<|o_boxA O O fun b1 => asg O O<|lz<|l_q O (qfa 0 rfl yU247 O O yS27)<|l_q O (qld O yA27) ?_
 refine lc1 O O O (Ones_ok s) ?_
 exact asg O O<|lc<|rt<|fr1 O ([]) (.tmp rfl) ⟨rfl, rfl⟩
section
variable (G : HP) (hG : TabOk G) (pa off go n e : Nat) (s : ArS) (l : Lay) (T : Tb) (hP : TabP s off go l n e T)
include hP hG
/-- What Get gives. -/
def getC (n : Nat) (T : Tb) (h : Int) (key : ByteArray) : Cell := if 0 ≤ (searchR (h / 128) n T.cells (h % 128) key).slot then T.cells (searchR (h / 128) n T.cells (h % 128) key).slot.toNat else .empty
theorem TGet_ok (h : Int) (hh : 0 ≤ h ∧ h < 18446744073709551616) (key : ByteArray) (hk : key.size = kN l) :
  FnOk Tryz.prog 77 #[.agg #[.pointer (some ⟨pa, 0, none⟩), .int .i64 l.key, .int .i64 l.elem, .int .i64 l.ka, .int .i64 l.ea, .int .i64 l.cap, .int .i64 l.eo, .int .i64 l.bo, .int .i64 l.slot, .int .i64 l.group, .int .i64 (off : Nat)], .int .u64 h, .string key] [G, arenaH pa s]
   (fun v L => v = .tuple #[.agg #[.int .i64 (getC n T h key).kind, .int .i64 (getC n T h key).tagI, .string (getC n T h key).keyS, .string (getC n T h key).elemS, .int .i64 (getC n T h key).birthI], .int .i64 0] ∧ L = [G, arenaH pa s]) := by
 have hn8 := hP.n0
 refine fn_intro en77 Tryz.func77 rfl rfl rfl fun Fr w0 => t_nm ?_
 refine t_pure (φ := s.ok) (fun w hw => arena_ok hw (.there .here)) fun hok0 => ?_
 refine sr<|o_boxA O O fun b3 => o_allocA O yZ142 fun b6 => asg O O<|lz<|l_q O (qlda O yA39 yS39) ?_
 refine mv O O<|mv O O<|lc1 O O O (searchP_ok G hG pa off go n e s l T hP h hh key hk) ?_
 refine mv O O<|l_q O (q_extractL O ga) ?_
 refine l_q O (q_extractL O ga) ?_
 refine l_q O (q_extractL O ga) ?_
 refine o_allocA O yZ147 fun b8 => o_allocA O yZ224 fun b9 => sta O O O yS147 O O ?_
 refine sta O O O yS224 O O ?_
 refine asg O O<|lc<|t_seq<|sr<|mv O O<|l_q O (qi O O (b_neq ·))<|mv O O ?_
 rcases (show (searchR (h / 128) n T.cells (h % 128) key).slot < 0 ∨ 0 ≤ (searchR (h / 128) n T.cells (h % 128) key).slot by omega) with hneg | hpos
 ·refine l_pt (t := 21) rfl (fun p1 => ?_) fun p1 => ?_
  ·exact absurd rfl p1
  ·refine l_on O O<|l_q O (qfa 0 rfl yU224 O O yS3)<|l_on O O<|l_q O (qld O yA3) ?_
   refine l_on O O<|l_q O (qi O O (b_lss ·))<|l_q O (q_pk O O)<|lc<|t_if O (fun p2 => ?_) fun p2 => ?_
   ·refine sr ?_
    apply l_q O
    ·apply q_buildS O yP142 yZ142
     ·exact FillR.nil
    refine mv O O<|sta O O O yS142 O O ?_
    refine asg O O<|lc<|rt ?_
    apply f_ret (.inl rfl) ([G, arenaH pa s])
    ·apply res2 O
     ·apply Rv.agg rfl
      ·exact tk
      ·exact run_loadAll yA142 yS142 O
     ·exact .tmp rfl
    ·refine ⟨?_, rfl⟩; unfold getC; rw [if_neg (by omega)]; rfl
    ·exact en
   ·omega
 ·obtain ⟨g, i, hg, hi, h2, e0, b0, h3⟩ := search_slot (home := h / 128) (cells := T.cells) (tag := h % 128) (key := key) hn8.1 hpos
  obtain ⟨hgood, hG', hok', hin⟩ := hP.grpAt hg
  rw [h2]
  refine l_pt (t := 21) rfl (fun p1 => ?_) fun p1 => ?_
  ·exact absurd rfl p1
  ·refine l_on O O<|l_q O (qfa 0 rfl yU224 O O yS3)<|l_on O O<|l_q O (qld O yA3) ?_
   refine l_on O O<|l_q O (qi O O (b_lss ·))<|l_q O (q_pk O O)<|lc<|t_if O (fun p2 => ?_) fun p2 => ?_
   ·omega
   ·refine t_skip<|n_code<|t_seq<|t_draw mixed ?_
    apply dq 0 rfl
    ·exact yq (qlda O yA39 yS39)
    apply dq 1 rfl
    ·exact yq (qlda O yA147 yS147)
    apply dq 2 rfl
    ·exact yq (qfa 0 rfl yU224 O O yS3)
    apply dq 3 rfl
    ·exact yq (qld O yA3)
    apply dq 4 rfl
    ·exact yq (qquo O O)
    apply dq 6 rfl
    ·exact yq (qfa 0 rfl yU224 O O yS3)
    apply dq 7 rfl
    ·exact yq (qld O yA3)
    apply dq 8 rfl
    ·exact yq (qrem O O)
    refine d_eff1 [0, 1, 4, 3, 2] [8, 7, 6] 5 [(28, _), (29, _), (32, _)] gO ⟨rfl, rfl, rfl, trivial⟩ (by kernel_rfl) (by kernel_rfl) fun Ex => ?_
    refine lc1 O O O (groupP_ok pa off go n e s l T hP hok0 (g := g) hg _ (by omega)) ?_
    refine l_nil ?_
    apply n_d
    ·refine ⟨?_, ?_, ?_, trivial⟩
     ·apply ya O O; exact yq (qrem O O)
     ·apply ya O O; exact yq (qld O yA3)
     ·apply ya O O; exact yq (qfa 0 rfl yU224 O O yS3)
    refine d_eff1 [8, 7, 6] [] 9 [(33, _), (36, _)] gO ⟨rfl, rfl, trivial⟩ (by kernel_rfl) (by kernel_rfl) fun Ex => ?_
    rw [show ((8 * g + i : Nat) : Int) % 8 = ((i : Nat) : Int) by omega]
    refine lc1 O O O (Cell_ok pa (go + g * gN l) s l (grpC T.cells g) hP.hl hgood hG' hok' i hi) ?_
    refine l_nil ?_
    apply n_d
    ·exact trivial
    apply dq 10 rfl
    ·exact yq (q_extractL O ga)
    apply dq 11 rfl
    ·exact yq (q_extractL O ga)
    refine d_eff1 [10, 11] [] 12 [(6, _), (38, _)] gO ⟨rfl, rfl, trivial⟩ (by kernel_rfl) (by kernel_rfl) fun Ex => ?_
    refine sta O O O yS142 O O ?_
    refine l_nil ?_
    apply n_d
    ·exact trivial
    refine d_eff1 [] [] 13 [(39, _)] gO ⟨rfl, trivial⟩ (by kernel_rfl) (by kernel_rfl) fun Ex => ?_
    refine asg O O<|l_nil ?_
    apply n_d
    ·exact trivial
    refine d_end (by kernel_rfl) ?_
    refine n_code<|rt ?_
    apply f_ret (.inl rfl) ([G, arenaH pa s])
    ·apply res2 O
     ·apply Rv.agg rfl
      ·exact tk
      ·exact run_loadAll yA142 yS142 O
     ·exact .tmp rfl
    ·refine ⟨?_, rfl⟩; have : getC n T h key = grpC T.cells g i := (by unfold getC; rw [h2, if_pos (by omega), Int.toNat_natCast]; rfl); rw [this]
    ·exact en
theorem Delete_ok (h : Int) (hh : 0 ≤ h ∧ h < 18446744073709551616) (key : ByteArray) (hk : key.size = kN l) (hu : 0 ≤ T.used ∧ T.used ≤ 1099511627776) (hlf : 0 ≤ T.left ∧ T.left ≤ 1099511627776) :
  FnOk Tryz.prog 82 #[.agg #[.pointer (some ⟨pa, 0, none⟩), .int .i64 l.key, .int .i64 l.elem, .int .i64 l.ka, .int .i64 l.ea, .int .i64 l.cap, .int .i64 l.eo, .int .i64 l.bo, .int .i64 l.slot, .int .i64 l.group, .int .i64 (off : Nat)], .int .u64 h, .string key] [G, arenaH pa s]
   (fun v L => ∃ s', v = .tuple #[.bool (delT n T h key).1, .int .i64 0] ∧ L = [G, arenaH pa s'] ∧ TabP s' off go l n e (delT n T h key).2 ∧ SameBut s s' off go (n * gN l)) := by
 have hn8 := hP.n0
 refine fn_intro en82 Tryz.func82 rfl rfl rfl fun Fr w0 => t_nm ?_
 refine t_pure (φ := s.ok) (fun w hw => arena_ok hw (.there .here)) fun hok0 => ?_
 refine sr<|o_boxA O O fun b3 => asg O O<|asg O O<|lz<|l_q O (qlda O yA39 yS39) ?_
 refine mv O O<|mv O O<|lc1 O O O (searchP_ok G hG pa off go n e s l T hP h hh key hk) ?_
 refine mv O O<|l_q O (q_extractL O ga) ?_
 refine l_q O (q_extractL O ga) ?_
 refine l_q O (q_extractL O ga) ?_
 refine o_allocA O yZ147 fun b8 => o_allocA O yZ224 fun b9 => sta O O O yS147 O O ?_
 refine sta O O O yS224 O O ?_
 refine asg O O<|lc<|t_seq<|sr<|mv O O<|l_q O (qi O O (b_neq ·))<|mv O O ?_
 rcases (show (searchR (h / 128) n T.cells (h % 128) key).slot < 0 ∨ 0 ≤ (searchR (h / 128) n T.cells (h % 128) key).slot by omega) with hneg | hpos
 ·refine l_pt (t := 25) rfl (fun p1 => ?_) fun p1 => ?_
  ·exact absurd rfl p1
  ·refine l_on O O<|l_q O (qfa 0 rfl yU224 O O yS3)<|l_on O O<|l_q O (qld O yA3) ?_
   refine l_on O O<|l_q O (qi O O (b_lss ·))<|l_q O (q_pk O O)<|lc<|t_if O (fun p2 => ?_) fun p2 => ?_
   ·refine sr<|mv O O<|asg O O<|asg O O<|lc<|rt<|fr2 O ([G, arenaH pa s]) (.tmp rfl) (.tmp rfl) ?_
    have hd : delT n T h key = (false, T) := (by unfold delT; rw [if_neg (by omega)]); rw [hd]; exact ⟨s, rfl, rfl, hP, SameBut.refl _ _ _ _⟩
   ·omega
 ·obtain ⟨g, i, hg, hi, h2, e0, b0, h3⟩ := search_slot (home := h / 128) (cells := T.cells) (tag := h % 128) (key := key) hn8.1 hpos
  obtain ⟨hgood, hG', hok', hin⟩ := hP.grpAt hg
  rw [h2]
  refine l_pt (t := 25) rfl (fun p1 => ?_) fun p1 => ?_
  ·exact absurd rfl p1
  ·refine l_on O O<|l_q O (qfa 0 rfl yU224 O O yS3)<|l_on O O<|l_q O (qld O yA3) ?_
   refine l_on O O<|l_q O (qi O O (b_lss ·))<|l_q O (q_pk O O)<|lc<|t_if O (fun p2 => ?_) fun p2 => ?_
   ·omega
   ·refine t_skip<|nz<|l_q O (qlda O yA39 yS39) ?_
    refine l_q O (qlda O yA147 yS147) ?_
    refine l_q O (qfa 0 rfl yU224 O O yS3)<|l_q O (qld O yA3) ?_
    refine l_q O (qquo O O) ?_
    refine lc1 O O O (groupP_ok pa off go n e s l T hP hok0 (g := g) hg _ (by omega)) ?_
    refine o_allocA O yZ182 fun b11 => sta O O O yS182 O O ?_
    refine lz<|l_q O (qlda O yA182 yS182) ?_
    refine lc1 O O O (Word_ok pa (go + g * gN l) s l (grpC T.cells g) hP.hl hgood hG' hok') ?_
    refine mv O O<|l_q O (q_extractL O ga) ?_
    refine l_q O (q_extractL O ga) ?_
    refine asg O O<|asg O O<|lc<|t_seq<|sr<|mv O O<|l_q O (qi O O (b_neq ·))<|lc<|t_if O (fun p3 => ?_) fun p3 => ?_
    ·exact absurd rfl p3
    ·refine t_skip<|nz<|mv O O<|lc1 O O O (MatchE_ok hok') ?_
     have hpb : passedB T.cells (8 * g + i) = decide ((slotsF (empS (grpC T.cells g))).length = 0) := by unfold passedB; rw [show (8 * g + i) / 8 = g by omega]
     have hd : delT n T h key = (true, { T with used := T.used - 1, left := if passedB T.cells (8 * g + i) then T.left else T.left + 1, cells := updC T.cells (8 * g + i) (if passedB T.cells (8 * g + i) then .deleted else .empty) }) := by
      unfold delT; rw [if_pos (by omega), h2, Int.toNat_natCast]
     rw [hd]
     have hcok : (if passedB T.cells (8 * g + i) = true then Cell.deleted else Cell.empty).ok l := by split <;> trivial
     have hw := hP.cell hg hi (c := if passedB T.cells (8 * g + i) then .deleted else .empty) hcok
     have w1 := hw.1.word (T' := { T with used := T.used - 1, cells := updC T.cells (8 * g + i) (if passedB T.cells (8 * g + i) then .deleted else .empty) }) (k := 3) (v := T.used - 1) (by decide) (by omega) rfl (head_ne (.inr rfl) (.inr rfl) (.inr rfl) (.inl rfl) (.inr rfl) (.inr rfl)) rfl
     refine lc1 O O O (Count_ok _) ?_
     rw [show (slotsF (empS (grpC T.cells g))).length = (if passedB T.cells (8 * g + i) then 0 else (slotsF (empS (grpC T.cells g))).length : Nat) by rw [hpb]; split <;> simp_all]
     refine l_q O (qi O O (b_eql ·))<|asg O O<|lc<|t_seq<|sr<|l_q O (qlda O yA182 yS182) ?_
     refine l_q O (qfa 0 rfl yU224 O O yS3)<|l_q O (qld O yA3) ?_
     refine l_q O (qrem O O) ?_
     refine mv O O ?_
     rw [show ((8 * g + i : Nat) : Int) % 8 = ((i : Nat) : Int) by omega]
     refine lc1 O O O (Erase_ok pa (go + g * gN l) s l (grpC T.cells g) hP.hl hgood hG' hok' i _ hi) ?_
     rw [show (decide ((((if passedB T.cells (8 * g + i) then 0 else (slotsF (empS (grpC T.cells g))).length : Nat)) : Int) = 0)) = passedB T.cells (8 * g + i) by rw [hpb]; by_cases hz : (slotsF (empS (grpC T.cells g))).length = 0 <;> simp [hz]]
     refine asg O O<|lz<|mv O O<|l_q O (qi O O (b_neq ·))<|lc<|t_if O (fun p5 => ?_) fun p5 => ?_
     ·exact absurd rfl p5
     ·refine t_skip<|nz<|l_q O (qlda O yA39 yS39) ?_
      refine l_q O (qfa 0 rfl yU147 O O yS3)<|l_q O (qld O yA3) ?_
      refine l_q O (qsub O O) ?_
      refine lcf O O O (set_ok pa off 3 _ l 24 _ rfl (by decide) hw.1.gh) ?_
      rintro v L' rfl
      refine l_nm ?_
      refine lc<|t_seq<|sr<|mv O O<|l_q O (q_un O (u_not ·))<|lc ?_
      cases hpq : passedB T.cells (8 * g + i) with
      | true =>
       simp only [hpq, ↓reduceIte] at hw w1 ⊢
       refine t_if O (fun p6 => ?_) fun p6 => ?_
       ·cases p6
       ·exact t_skip<|nz<|asg O O<|asg O O<|lc<|rt<|fr2 O ([G, arenaH pa ((s.put (go + g * gN l) (gN l) (encG l (updC (grpC T.cells g) i .deleted))).put (off + 8 * 3) 8 (byteN (IntKind.u64.wrap (T.used - 1))))]) (.tmp rfl) (.tmp rfl) ⟨_, rfl, rfl, w1.1, hw.2.trans w1.2⟩
      | false =>
       simp only [hpq, Bool.false_eq_true, ↓reduceIte] at hw w1 ⊢
       refine t_if O (fun p6 => ?_) fun p6 => ?_
       ·refine t_region<|l_q O (qlda O yA39 yS39) ?_
        refine l_q O (qfa 2 rfl yU147 O O yS3)<|l_q O (qld O yA3) ?_
        refine l_q O (qadd O O) ?_
        have w2 := w1.1.word (T' := { T with used := T.used - 1, left := T.left + 1, cells := updC T.cells (8 * g + i) .empty }) (k := 5) (v := T.left + 1) (by decide) (by omega) rfl (head_ne (.inr rfl) (.inr rfl) (.inr rfl) (.inr rfl) (.inl rfl) (.inr rfl)) rfl
        refine lcf O O O (set_ok pa off 5 _ l 40 _ rfl (by decide) w1.1.gh) ?_
        rintro v L' rfl
        refine l_nm ?_
        exact lz<|asg O O<|asg O O<|lc<|rt<|fr2 O ([G, arenaH pa (((s.put (go + g * gN l) (gN l) (encG l (updC (grpC T.cells g) i .empty))).put (off + 8 * 3) 8 (byteN (IntKind.u64.wrap (T.used - 1)))).put (off + 8 * 5) 8 (byteN (IntKind.u64.wrap (T.left + 1))))]) (.tmp rfl) (.tmp rfl) ⟨_, rfl, rfl, w2.1, (hw.2.trans w1.2).trans w2.2⟩
       ·cases p6
end
end Go.Proofs.YthkajgkagnenbaaGreatDoor.Table
end
section
/- Contracts of ctrl.Clear and group.Prune. -/
set_option linter.unusedVariables false
set_option linter.unusedSimpArgs false
set_option maxRecDepth 100000
namespace Go.Proofs.YthkajgkagnenbaaGreatDoor.Group
open Go.RowKit Go.Proofs Go.Proofs.YthkajgkagnenbaaGreatDoor.Eng Go.Proofs.YthkajgkagnenbaaGreatDoor.Ty Go.Proofs.YthkajgkagnenbaaGreatDoor.Bits Go.Proofs.YthkajgkagnenbaaGreatDoor.Mem Go.Proofs.YthkajgkagnenbaaGreatDoor.Search Go.Proofs.YthkajgkagnenbaaGreatDoor.Arena Go.Proofs.YthkajgkagnenbaaGreatDoor.CtrlB Go.Proofs.YthkajgkagnenbaaGreatDoor.Ctrl Go.Proofs.YthkajgkagnenbaaGreatDoor.Layout Go.Proofs.YthkajgkagnenbaaGreatDoor.GroupB Go.Proofs.YthkajgkagnenbaaGreatDoor.TableB Go.Proofs.YthkajgkagnenbaaGreatDoor.Table

end Go.Proofs.YthkajgkagnenbaaGreatDoor.Group
end
section
/- Contracts of package table: Group, AddLeft. -/
set_option linter.unusedVariables false
set_option linter.unusedSimpArgs false
set_option maxRecDepth 100000
namespace Go.Proofs.YthkajgkagnenbaaGreatDoor.Table
open Go.RowKit Go.Proofs Go.Proofs.YthkajgkagnenbaaGreatDoor.Eng Go.Proofs.YthkajgkagnenbaaGreatDoor.Ty Go.Proofs.YthkajgkagnenbaaGreatDoor.Bits Go.Proofs.YthkajgkagnenbaaGreatDoor.Mem Go.Proofs.YthkajgkagnenbaaGreatDoor.Search Go.Proofs.YthkajgkagnenbaaGreatDoor.Arena Go.Proofs.YthkajgkagnenbaaGreatDoor.CtrlB Go.Proofs.YthkajgkagnenbaaGreatDoor.Ctrl Go.Proofs.YthkajgkagnenbaaGreatDoor.Layout Go.Proofs.YthkajgkagnenbaaGreatDoor.GroupB Go.Proofs.YthkajgkagnenbaaGreatDoor.Group Go.Proofs.YthkajgkagnenbaaGreatDoor.TableB Go.Proofs.YthkajgkagnenbaaGreatDoor.TableI

theorem cnt_more (p : Cell → Bool) (cells : Nat → Cell) (a : Nat) : ∀ d, cnt p cells (a + d) = cnt p cells a + ((List.range d).filter fun r => p (cells (a + r))).length
 | 0 => by simp
 | d + 1 => by
  rw [← Nat.add_assoc, cnt_succ, cnt_more p cells a d, List.range_succ, List.filter_append, List.length_append, List.filter_cons]
  split <;> simp [*] <;> omega
theorem emp_slots (cells : Nat → Cell) (i : Nat) : cnt isEmp cells (8 * (i + 1)) = cnt isEmp cells (8 * i) + (slotsF (empS (grpC cells i))).length := by
 rw [show 8 * (i + 1) = 8 * i + 8 by omega, cnt_more]
 congr 2
theorem cnt_three (cells : Nat → Cell) : ∀ N, cnt isFull cells N + cnt isDel cells N + cnt isEmp cells N = N
 | 0 => rfl
 | N + 1 => by
  have ih := cnt_three cells N
  rw [cnt_succ, cnt_succ, cnt_succ]
  cases cells N <;> simp [isFull, isDel, isEmp] <;> omega
section
variable (G : HP) (hG : TabOk G) (pa off go n e : Nat) (s : ArS) (l : Lay) (T : Tb) (hP : TabP s off go l n e T)
include hP
theorem TGroup_ok (k : Nat) (hk : k < n) : FnOk Tryz.prog 96 #[.agg #[.pointer (some ⟨pa, 0, none⟩), .int .i64 l.key, .int .i64 l.elem, .int .i64 l.ka, .int .i64 l.ea, .int .i64 l.cap, .int .i64 l.eo, .int .i64 l.bo, .int .i64 l.slot, .int .i64 l.group, .int .i64 (off : Nat)], .int .i64 (k : Nat)] [arenaH pa s] (fun v L => v = .tuple #[.agg #[.pointer (some ⟨pa, 0, none⟩), .int .i64 l.key, .int .i64 l.elem, .int .i64 l.ka, .int .i64 l.ea, .int .i64 l.cap, .int .i64 l.eo, .int .i64 l.bo, .int .i64 l.slot, .int .i64 l.group, .int .i64 ((go + k * gN l : Nat) : Int)], .int .i64 0] ∧ L = [arenaH pa s]) := by
 have hn8 := hP.n0
 obtain ⟨h1, _, _, _⟩ := hP.grpAt hk
 refine fn_intro en96 Tryz.func96 rfl rfl rfl fun Fr w0 => t_nm ?_
 refine t_pure (φ := s.ok) (fun w hw => arena_ok hw .here) fun hok0 => ?_
 have hge := goodP.end_le hok0 h1
 have hst0 := hok0.stop_eq
 have hbd := Lay.bnd hP.hl
 refine sr<|o_boxA O O fun b2 => o_allocA O yZ182 fun b4 => asg O O<|lz<|l_q O (qlda O yA39 yS39) ?_
 refine lc1 O O O (StatP_ok pa off go n e s l T hP) ?_
 refine mv O O<|l_q O (q_extractL O ga) ?_
 refine l_q O (q_extractL O ga) ?_
 refine o_allocA O yZ147 fun b6 => sta O O O yS147 O O ?_
 refine asg O O<|lc<|t_seq<|sr<|mv O O<|l_q O (qi O O (b_neq ·))<|lc<|t_if O (fun z => ?_) fun z => ?_
 ·exact absurd rfl z
 ·refine t_skip<|n_code<|t_seq<|sr<|mv O O<|l_q O (qi O O (b_lss ·))<|mv O O<|l_pt (t := 19) rfl (fun z1 => ?_) fun z1 => ?_
  ·omega
  ·refine l_on O O<|mv O O<|l_on O O<|l_q O (qfa 1 rfl yU147 O O yS3)<|l_on O O<|l_q O (qld O yA3) ?_
   refine l_on O O<|l_q O (qquo O O) ?_
   refine l_on O O<|l_q O (qi O O (b_geq ·))<|l_q O (q_pk O O)<|lc<|t_if O (fun z2 => ?_) fun z2 => ?_
   ·omega
   ·refine t_skip<|nz<|l_q O (qlda O yA39 yS39) ?_
    refine l_q O (qlda O yA147 yS147) ?_
    refine mv O O<|lc1 O O O (group_ok pa off go k n l hP.hl T _ rfl (by omega)) ?_
    refine sta O O O yS182 O O ?_
    refine asg O O<|lc<|rt ?_
    apply f_ret (.inl rfl) ([arenaH pa s])
    ·apply res2 O
     ·apply Rv.agg rfl
      ·exact tk
      ·exact run_loadAll yA182 yS182 O
     ·exact .tmp rfl
    ·exact ⟨rfl, rfl⟩
    ·exact en
end
end Go.Proofs.YthkajgkagnenbaaGreatDoor.Table
end
