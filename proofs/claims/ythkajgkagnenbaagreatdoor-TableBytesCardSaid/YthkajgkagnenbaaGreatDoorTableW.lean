import Derived.Test.YthkajgkagnenbaaGreatDoorBenchB
/- More contracts of package table: finding, putting, deleting; a new table. -/
set_option linter.unusedVariables false
set_option linter.unusedSimpArgs false
set_option maxRecDepth 100000
namespace Go.Proofs.YthkajgkagnenbaaGreatDoor.Table
open Go.RowKit Go.Proofs Go.Proofs.YthkajgkagnenbaaGreatDoor.Eng Go.Proofs.YthkajgkagnenbaaGreatDoor.Ty Go.Proofs.YthkajgkagnenbaaGreatDoor.Bits Go.Proofs.YthkajgkagnenbaaGreatDoor.Mem Go.Proofs.YthkajgkagnenbaaGreatDoor.Search Go.Proofs.YthkajgkagnenbaaGreatDoor.Arena Go.Proofs.YthkajgkagnenbaaGreatDoor.CtrlB Go.Proofs.YthkajgkagnenbaaGreatDoor.Ctrl Go.Proofs.YthkajgkagnenbaaGreatDoor.Layout Go.Proofs.YthkajgkagnenbaaGreatDoor.GroupB Go.Proofs.YthkajgkagnenbaaGreatDoor.Group Go.Proofs.YthkajgkagnenbaaGreatDoor.Probe Go.Proofs.YthkajgkagnenbaaGreatDoor.TableB Go.Proofs.YthkajgkagnenbaaGreatDoor.TableI

section
variable (G : HP) (hG : TabOk G) (pa off go n e : Nat) (s : ArS) (l : Lay) (T : Tb) (hP : TabP s off go l n e T)
include hP
theorem StatP_ok : FnOk Tryz.prog 65 #[.agg #[.pointer (some ⟨pa, 0, none⟩), .int .i64 l.key, .int .i64 l.elem, .int .i64 l.ka, .int .i64 l.ea, .int .i64 l.cap, .int .i64 l.eo, .int .i64 l.bo, .int .i64 l.slot, .int .i64 l.group, .int .i64 (off : Nat)]] [arenaH pa s] (fun v L => v = .tuple #[.agg #[.int .i64 T.used, .int .i64 (8 * (n : Int)), .int .i64 T.left, .int .i64 T.depth, .int .i64 T.pins, .int .i64 T.next, .bool (decide (T.kind = 4)), .int .i64 (go : Nat)], .int .i64 0] ∧ L = [arenaH pa s]) :=
 Stat_ok pa off go n s l T hP.gh hP.hT.head hP.hr
theorem groupP_ok {g : Nat} (hok : s.ok) (hg : g < n) (i : Int) (hi : i = (g : Nat)) : FnOk Tryz.prog 136 #[.agg #[.pointer (some ⟨pa, 0, none⟩), .int .i64 l.key, .int .i64 l.elem, .int .i64 l.ka, .int .i64 l.ea, .int .i64 l.cap, .int .i64 l.eo, .int .i64 l.bo, .int .i64 l.slot, .int .i64 l.group, .int .i64 (off : Nat)], .agg #[.int .i64 T.used, .int .i64 (8 * (n : Int)), .int .i64 T.left, .int .i64 T.depth, .int .i64 T.pins, .int .i64 T.next, .bool (decide (T.kind = 4)), .int .i64 (go : Nat)], .int .i64 i] [] (fun v L => v = .agg #[.pointer (some ⟨pa, 0, none⟩), .int .i64 l.key, .int .i64 l.elem, .int .i64 l.ka, .int .i64 l.ea, .int .i64 l.cap, .int .i64 l.eo, .int .i64 l.bo, .int .i64 l.slot, .int .i64 l.group, .int .i64 ((go + g * gN l : Nat) : Int)] ∧ L = []) := by
 refine group_ok pa off go g n l hP.hl T i hi ?_
 have h1 := goodP.end_le hok hP.gg
 have h2 := hok.stop_eq
 obtain ⟨_, _, _, h3⟩ := hP.grpAt hg
 omega
theorem Cell_okP (k : Nat) (hk : k < 8 * n) : FnOk Tryz.prog 56 #[.agg #[.pointer (some ⟨pa, 0, none⟩), .int .i64 l.key, .int .i64 l.elem, .int .i64 l.ka, .int .i64 l.ea, .int .i64 l.cap, .int .i64 l.eo, .int .i64 l.bo, .int .i64 l.slot, .int .i64 l.group, .int .i64 (off : Nat)], .int .i64 k] [arenaH pa s] (fun v L => v = .tuple #[.agg #[.int .i64 (T.cells k).kind, .int .i64 (T.cells k).tagI, .string (T.cells k).keyS, .string (T.cells k).elemS, .int .i64 (T.cells k).birthI], .int .i64 0] ∧ L = [arenaH pa s]) := by
 have hn8 := hP.n0
 refine fn_intro en56 Tryz.func56 rfl rfl rfl fun Fr w0 => t_nm ?_
 refine t_pure (φ := s.ok) (fun w hw => arena_ok hw .here) fun hok0 => ?_
 refine sr<|o_boxA O O fun b2 => o_allocA O yZ142 fun b4 => asg O O<|lz<|l_q O (qlda O yA39 yS39) ?_
 refine lc1 O O O (StatP_ok pa off go n e s l T hP) ?_
 refine mv O O<|l_q O (q_extractL O ga) ?_
 refine l_q O (q_extractL O ga) ?_
 refine o_allocA O yZ147 fun b6 => sta O O O yS147 O O ?_
 refine asg O O<|lc<|t_seq<|sr<|mv O O<|l_q O (qi O O (b_neq ·))<|lc<|t_if O (fun z => ?_) fun z => ?_
 ·exact absurd rfl z
 ·refine t_skip<|n_code<|t_seq<|sr<|mv O O<|l_q O (qi O O (b_lss ·))<|mv O O<|l_pt (t := 19) rfl (fun p1 => ?_) fun p1 => ?_
  ·omega
  ·refine l_on O O<|mv O O<|l_on O O<|l_q O (qfa 1 rfl yU147 O O yS3)<|l_on O O<|l_q O (qld O yA3) ?_
   refine l_on O O<|l_q O (qi O O (b_geq ·))<|l_q O (q_pk O O)<|lc<|t_if O (fun p2 => ?_) fun p2 => ?_
   ·omega
   ·refine t_skip<|nz<|l_q O (qlda O yA39 yS39) ?_
    refine l_q O (qlda O yA147 yS147) ?_
    refine mv O O<|l_q O (qquo O O) ?_
    obtain ⟨hgood, hG', hok', hin⟩ := hP.grpAt (g := k / 8) (by omega)
    refine lc1 O O O (groupP_ok pa off go n e s l T hP hok0 (g := k / 8) (by omega) _ (by omega)) ?_
    refine mv O O<|l_q O (qrem O O) ?_
    rw [show ((k : Nat) : Int) % 8 = ((k % 8 : Nat) : Int) by omega]
    refine lc1 O O O (Cell_ok pa (go + k / 8 * gN l) s l (grpC T.cells (k / 8)) hP.hl hgood hG' hok' (k % 8) (by omega)) ?_
    rw [show grpC T.cells (k / 8) (k % 8) = T.cells k by show T.cells (8 * (k / 8) + k % 8) = _; congr 1; omega]
    refine l_q O (q_extractL O ga) ?_
    refine l_q O (q_extractL O ga) ?_
    refine sta O O O yS142 O O ?_
    refine asg O O<|lc<|rt ?_
    apply f_ret (.inl rfl) ([arenaH pa s])
    ·apply res2 O
     ·apply Rv.agg rfl
      ·exact tk
      ·exact run_loadAll yA142 yS142 O
     ·exact .tmp rfl
    ·exact ⟨rfl, rfl⟩
    ·exact en
theorem SetNext_ok (next : Int) (hb : -9223372036854775808 ≤ next ∧ next ≤ 9223372036854775807) : FnOk Tryz.prog 90 #[.agg #[.pointer (some ⟨pa, 0, none⟩), .int .i64 l.key, .int .i64 l.elem, .int .i64 l.ka, .int .i64 l.ea, .int .i64 l.cap, .int .i64 l.eo, .int .i64 l.bo, .int .i64 l.slot, .int .i64 l.group, .int .i64 (off : Nat)], .int .i64 next] [arenaH pa s]
  (fun v L => ∃ s', v = .int .i64 0 ∧ L = [arenaH pa s'] ∧ TabP s' off go l n e { T with next := next } ∧ SameBut s s' off go (n * gN l)) := by
 have hw := hP.word (T' := { T with next := next }) (k := 2) (by decide) hb rfl (head_ne (.inr rfl) (.inr rfl) (.inl rfl) (.inr rfl) (.inr rfl) (.inr rfl)) rfl
 refine fn_intro en90 Tryz.func90 rfl rfl rfl fun Fr w0 => t_nm ?_
 refine sr<|o_boxA O O fun b2 => asg O O<|lc<|t_seq<|sr<|l_q O (qlda O yA39 yS39) ?_
 refine lc1 O O O (StatP_ok pa off go n e s l T hP) ?_
 refine mv O O<|l_q O (q_extractL O ga) ?_
 refine l_q O (q_extractL O ga) ?_
 refine o_allocA O yZ147 fun b5 => sta O O O yS147 O O ?_
 refine asg O O<|lz<|mv O O<|l_q O (qi O O (b_neq ·))<|lc<|t_if O (fun z => ?_) fun z => ?_
 ·exact absurd rfl z
 ·refine t_skip<|nz<|l_q O (qlda O yA39 yS39) ?_
  refine mv O O<|lcf O O O (set_ok pa off 2 s l 16 next rfl (by decide) hP.gh) ?_
  rintro v L' rfl
  refine l_nm ?_
  exact lz<|asg O O<|lc<|rt<|fr1 O ([arenaH pa (s.put (off + 8 * 2) 8 (byteN (IntKind.u64.wrap next)))]) (.tmp rfl) ⟨_, rfl, rfl, hw⟩
theorem Retire_ok (next : Int) (hb : -9223372036854775808 ≤ next ∧ next ≤ 9223372036854775807) : FnOk Tryz.prog 88 #[.agg #[.pointer (some ⟨pa, 0, none⟩), .int .i64 l.key, .int .i64 l.elem, .int .i64 l.ka, .int .i64 l.ea, .int .i64 l.cap, .int .i64 l.eo, .int .i64 l.bo, .int .i64 l.slot, .int .i64 l.group, .int .i64 (off : Nat)], .int .i64 next] [arenaH pa s]
  (fun v L => ∃ s', v = .int .i64 0 ∧ L = [arenaH pa s'] ∧ TabP s' off go l n e { T with next := next, kind := 4 } ∧ SameBut s s' off go (n * gN l)) := by
 refine fn_intro en88 Tryz.func88 rfl rfl rfl fun Fr w0 => t_nm ?_
 refine sr<|o_boxA O O fun b2 => asg O O<|lc<|t_seq<|sr<|l_q O (qlda O yA39 yS39) ?_
 refine mv O O<|lcf O O O (SetNext_ok pa off go n e s l T hP next hb) ?_
 rintro v L' ⟨s1, rfl, rfl, hP1, hS1⟩
 refine l_nm ?_
 refine asg O O<|lz<|mv O O<|l_q O (qi O O (b_neq ·))<|lc<|t_if O (fun z => ?_) fun z => ?_
 ·exact absurd rfl z
 ·refine t_skip<|nz<|l_q O (qlda O yA39 yS39) ?_
  have hw := hP1.word (T' := { T with next := next, kind := 4 }) (k := 0) (v := 4) (by decide) (by omega) rfl (head_ne (.inl rfl) (.inr rfl) (.inr rfl) (.inr rfl) (.inr rfl) (.inr rfl)) rfl
  refine lcf O O O (set_ok pa off 0 s1 l 0 4 rfl (by decide) hP1.gh) ?_
  rintro v L' rfl
  refine l_nm ?_
  exact lz<|asg O O<|lc<|rt<|fr1 O ([arenaH pa (s1.put (off + 8 * 0) 8 (byteN (IntKind.u64.wrap 4)))]) (.tmp rfl) ⟨_, rfl, rfl, hw.1, hS1.trans hw.2⟩
theorem Pin_ok (by_ : Int) (hb : -9223372036854775808 ≤ by_ ∧ by_ ≤ 9223372036854775807) (hpin : 0 ≤ T.pins ∧ T.pins ≤ 4611686018427387904) : FnOk Tryz.prog 86 #[.agg #[.pointer (some ⟨pa, 0, none⟩), .int .i64 l.key, .int .i64 l.elem, .int .i64 l.ka, .int .i64 l.ea, .int .i64 l.cap, .int .i64 l.eo, .int .i64 l.bo, .int .i64 l.slot, .int .i64 l.group, .int .i64 (off : Nat)], .int .i64 by_] [arenaH pa s]
  (fun v L => ((by_ < -T.pins ∨ 4611686018427387904 - T.pins < by_) ∧ v = .tuple #[.int .i64 0, .int .i64 83] ∧ L = [arenaH pa s]) ∨
   (-T.pins ≤ by_ ∧ by_ ≤ 4611686018427387904 - T.pins ∧ ∃ s', v = .tuple #[.int .i64 (T.pins + by_), .int .i64 0] ∧ L = [arenaH pa s'] ∧ TabP s' off go l n e { T with pins := T.pins + by_ } ∧ SameBut s s' off go (n * gN l))) := by
 have hneg : IntKind.i64.wrap (0 - T.pins) = -T.pins := by rw [wrap_i64 (by omega)]; omega
 refine fn_intro en86 Tryz.func86 rfl rfl rfl fun Fr w0 => t_nm ?_
 refine sr<|o_boxA O O fun b2 => asg O O<|asg O O<|lz<|l_q O (qlda O yA39 yS39) ?_
 refine lc1 O O O (StatP_ok pa off go n e s l T hP) ?_
 refine mv O O<|l_q O (q_extractL O ga) ?_
 refine l_q O (q_extractL O ga) ?_
 refine o_allocA O yZ147 fun b6 => sta O O O yS147 O O ?_
 refine asg O O<|lc<|t_seq<|sr<|mv O O<|l_q O (qi O O (b_neq ·))<|lc<|t_if O (fun z => ?_) fun z => ?_
 ·exact absurd rfl z
 ·refine t_skip<|n_code<|t_seq<|sr<|mv O O<|l_q O (qfa 4 rfl yU147 O O yS3)<|l_q O (qld O yA3) ?_
  refine l_q O (q_un O (u_neg ·))<|l_q O (qi O O (b_lss ·))<|mv O O<|l_pt (t := 21) rfl (fun p1 => ?_) fun p1 => ?_
  ·refine l_off O O O O<|l_off O O O O<|l_off O O O O<|l_off O O O O<|l_off O O O O<|l_q O (q_pk O O)<|lc<|t_cond_t O<|sr<|asg O O<|asg O O<|lc<|rt ?_
   rw [hneg] at p1
   exact fr2 O ([arenaH pa s]) (.tmp rfl) (.tmp rfl) (.inl ⟨.inl p1, rfl, rfl⟩)
  ·refine l_on O O<|mv O O<|l_on O O<|l_q O (qfa 4 rfl yU147 O O yS3)<|l_on O O<|l_q O (qld O yA3) ?_
   refine l_on O O<|l_q O (qsub O O) ?_
   refine l_on O O<|l_q O (qi O O (b_gtr ·))<|l_q O (q_pk O O)<|lc ?_
   rw [hneg] at p1
   refine t_if O (fun p2 => ?_) fun p2 => ?_
   ·exact sr<|asg O O<|asg O O<|lc<|rt<|fr2 O ([arenaH pa s]) (.tmp rfl) (.tmp rfl) (.inl ⟨.inr p2, rfl, rfl⟩)
   ·refine t_skip<|nz<|l_q O (qlda O yA39 yS39) ?_
    refine l_q O (qfa 4 rfl yU147 O O yS3)<|l_q O (qld O yA3) ?_
    refine mv O O<|l_q O (qadd O O) ?_
    have hw := hP.word (T' := { T with pins := T.pins + by_ }) (k := 1) (v := T.pins + by_) (by decide) (by omega) rfl (head_ne (.inr rfl) (.inl rfl) (.inr rfl) (.inr rfl) (.inr rfl) (.inr rfl)) rfl
    refine lcf O O O (set_ok pa off 1 s l 8 _ rfl (by decide) hP.gh) ?_
    rintro v L' rfl
    refine l_nm ?_
    refine lz<|l_q O (qfa 4 rfl yU147 O O yS3)<|l_q O (qld O yA3) ?_
    refine mv O O<|l_q O (qadd O O) ?_
    refine asg O O<|asg O O<|lc<|rt<|fr2 O ([arenaH pa (s.put (off + 8 * 1) 8 (byteN (IntKind.u64.wrap (T.pins + by_))))]) (.tmp rfl) (.tmp rfl) ?_
    exact .inr ⟨by omega, by omega, _, rfl, rfl, hw⟩
include hG
theorem searchP_ok (h : Int) (hh : 0 ≤ h ∧ h < 18446744073709551616) (key : ByteArray) (hk : key.size = kN l) :
  FnOk Tryz.prog 135 #[.agg #[.pointer (some ⟨pa, 0, none⟩), .int .i64 l.key, .int .i64 l.elem, .int .i64 l.ka, .int .i64 l.ea, .int .i64 l.cap, .int .i64 l.eo, .int .i64 l.bo, .int .i64 l.slot, .int .i64 l.group, .int .i64 (off : Nat)], .int .u64 h, .string key] [G, arenaH pa s]
   (fun v L => v = .tuple #[.agg #[.int .i64 T.used, .int .i64 (8 * (n : Int)), .int .i64 T.left, .int .i64 T.depth, .int .i64 T.pins, .int .i64 T.next, .bool (decide (T.kind = 4)), .int .i64 (go : Nat)], .agg #[.int .i64 (searchR (h / 128) n T.cells (h % 128) key).slot, .int .i64 (searchR (h / 128) n T.cells (h % 128) key).vac, .bool (searchR (h / 128) n T.cells (h % 128) key).emp, .int .i64 (searchR (h / 128) n T.cells (h % 128) key).probes], .int .i64 0] ∧ L = [G, arenaH pa s]) :=
 search_ok G hG pa off go n e s l T hP.hl hP.he hP.hn hP.hT hP.gh hP.gg hP.hr h hh key hk
theorem Find_ok (h : Int) (hh : 0 ≤ h ∧ h < 18446744073709551616) (key : ByteArray) (hk : key.size = kN l) :
  FnOk Tryz.prog 75 #[.agg #[.pointer (some ⟨pa, 0, none⟩), .int .i64 l.key, .int .i64 l.elem, .int .i64 l.ka, .int .i64 l.ea, .int .i64 l.cap, .int .i64 l.eo, .int .i64 l.bo, .int .i64 l.slot, .int .i64 l.group, .int .i64 (off : Nat)], .int .u64 h, .string key] [G, arenaH pa s]
   (fun v L => v = .tuple #[.int .i64 (searchR (h / 128) n T.cells (h % 128) key).slot, .int .i64 0] ∧ L = [G, arenaH pa s]) := by
 refine fn_intro en75 Tryz.func75 rfl rfl rfl fun Fr w0 => t_nm ?_
 refine sr<|o_boxA O O fun b3 => asg O O<|asg O O<|lz<|l_q O (qlda O yA39 yS39) ?_
 refine mv O O<|mv O O<|lc1 O O O (searchP_ok G hG pa off go n e s l T hP h hh key hk) ?_
 refine mv O O<|l_q O (q_extractL O ga) ?_
 refine l_q O (q_extractL O ga) ?_
 refine l_q O (q_extractL O ga) ?_
 refine o_allocA O yZ147 fun b8 => o_allocA O yZ224 fun b9 => sta O O O yS147 O O ?_
 refine sta O O O yS224 O O ?_
 refine asg O O<|lz<|l_q O (qfa 0 rfl yU224 O O yS3)<|l_q O (qld O yA3) ?_
 exact mv O O<|asg O O<|asg O O<|lc<|rt<|fr2 O ([G, arenaH pa s]) (.tmp rfl) (.tmp rfl) ⟨rfl, rfl⟩
theorem Probes_ok (h : Int) (hh : 0 ≤ h ∧ h < 18446744073709551616) (key : ByteArray) (hk : key.size = kN l) :
  FnOk Tryz.prog 79 #[.agg #[.pointer (some ⟨pa, 0, none⟩), .int .i64 l.key, .int .i64 l.elem, .int .i64 l.ka, .int .i64 l.ea, .int .i64 l.cap, .int .i64 l.eo, .int .i64 l.bo, .int .i64 l.slot, .int .i64 l.group, .int .i64 (off : Nat)], .int .u64 h, .string key] [G, arenaH pa s]
   (fun v L => v = .tuple #[.int .i64 (searchR (h / 128) n T.cells (h % 128) key).probes, .int .i64 0] ∧ L = [G, arenaH pa s]) := by
 refine fn_intro en79 Tryz.func79 rfl rfl rfl fun Fr w0 => t_nm ?_
 refine sr<|o_boxA O O fun b3 => asg O O<|asg O O<|lz<|l_q O (qlda O yA39 yS39) ?_
 refine mv O O<|mv O O<|lc1 O O O (searchP_ok G hG pa off go n e s l T hP h hh key hk) ?_
 refine mv O O<|l_q O (q_extractL O ga) ?_
 refine l_q O (q_extractL O ga) ?_
 refine l_q O (q_extractL O ga) ?_
 refine o_allocA O yZ147 fun b8 => o_allocA O yZ224 fun b9 => sta O O O yS147 O O ?_
 refine sta O O O yS224 O O ?_
 refine asg O O<|lz<|l_q O (qfa 3 rfl yU224 O O yS3)<|l_q O (qld O yA3) ?_
 exact mv O O<|asg O O<|asg O O<|lc<|rt<|fr2 O ([G, arenaH pa s]) (.tmp rfl) (.tmp rfl) ⟨rfl, rfl⟩
theorem Put_ok (h : Int) (hh : 0 ≤ h ∧ h < 18446744073709551616) (key elem : ByteArray) (hk : key.size = kN l) (he : elem.size = eN l) (birth : Int) (hb : 0 ≤ birth ∧ birth < 9223372036854775808) (hu : 0 ≤ T.used ∧ T.used ≤ 1099511627776) (hlf : 0 ≤ T.left ∧ T.left ≤ 1099511627776) :
  FnOk Tryz.prog 53 #[.agg #[.pointer (some ⟨pa, 0, none⟩), .int .i64 l.key, .int .i64 l.elem, .int .i64 l.ka, .int .i64 l.ea, .int .i64 l.cap, .int .i64 l.eo, .int .i64 l.bo, .int .i64 l.slot, .int .i64 l.group, .int .i64 (off : Nat)], .int .u64 h, .string key, .string elem, .int .i64 birth] [G, arenaH pa s]
   (fun v L => ∃ s', v = .tuple #[.int .i64 (putT n T h key elem birth).1, .int .i64 0] ∧ L = [G, arenaH pa s'] ∧ TabP s' off go l n e (putT n T h key elem birth).2 ∧ SameBut s s' off go (n * gN l)) := by
 have hn := hP.n0
 have hN := layN hP.hl
 have hes : (elem.size : Int) = l.elem := by rw [he]; exact hN.e
 refine fn_intro en53 Tryz.func53 rfl rfl rfl fun Fr w0 => t_nm ?_
 refine t_pure (φ := s.ok) (fun w hw => arena_ok hw (.there .here)) fun hok0 => ?_
 refine sr<|o_boxA O O fun b5 => asg O O<|asg O O<|lz<|l_q O (qlda O yA39 yS39) ?_
 refine mv O O<|mv O O<|lc1 O O O (searchP_ok G hG pa off go n e s l T hP h hh key hk) ?_
 refine mv O O<|l_q O (q_extractL O ga) ?_
 refine l_q O (q_extractL O ga) ?_
 refine l_q O (q_extractL O ga) ?_
 refine o_allocA O yZ147 fun b12 => o_allocA O yZ224 fun b13 => sta O O O yS147 O O ?_
 refine sta O O O yS224 O O ?_
 refine asg O O<|lc<|t_seq<|t_block<|sr<|mv O O<|l_q O (qi O O (b_neq ·))<|asg O O<|lc<|t_if O (fun z => ?_) fun z => ?_
 ·exact absurd rfl z
 ·refine sr<|mv O O<|l_q O (qls O yU9)<|l_q O (qfa 1 rfl yU39 O O yS34)<|l_q O (qfa 1 rfl yU34 O O yS3)<|l_q O (qld O yA3) ?_
  refine l_q O (qi O O (b_neq ·))<|asg O O<|lc<|t_if O (fun y => ?_) fun y => ?_
  ·omega
  ·refine sr<|mv O O<|l_q O (qi O O (b_lss ·))<|asg O O<|lc<|t_if O (fun x => ?_) fun x => ?_
   ·omega
   ·refine sr<|l_q O (qfa 0 rfl yU224 O O yS3)<|l_q O (qld O yA3) ?_
    refine l_q O (qi O O (b_geq ·))<|asg O O<|lc ?_
    rcases putT_cases hP h key elem birth with ⟨g, i, e0, b0, hg, hi, hs, hc, hp⟩ | ⟨hs, hv, hp⟩ | ⟨g, i, hg, hi, hs, hv, hnf, hem, hno, hp⟩
    ·rw [hp, hs]
     obtain ⟨hgood, hG', hok', hin⟩ := hP.grpAt hg
     have hcok := hok' i hi
     have hcg : grpC T.cells g i = .full (h % 128) key e0 b0 := hc
     rw [hcg] at hcok
     refine t_if O (fun q => ?_) fun q => ?_
     ·refine t_seq<|t_draw mixed ?_
      apply dq 0 rfl
      ·exact yq (qlda O yA39 yS39)
      apply dq 1 rfl
      ·exact yq (qlda O yA147 yS147)
      apply dq 2 rfl
      ·exact yq (qfa 0 rfl yU224 O O yS3)
      apply dq 3 rfl
      ·exact yq (qld O yA3)
      apply dq 4 rfl
      ·exact yq (qquo O O)
      apply dq 6 rfl
      ·exact yq (qfa 0 rfl yU224 O O yS3)
      apply dq 7 rfl
      ·exact yq (qld O yA3)
      apply dq 8 rfl
      ·exact yq (qrem O O)
      apply dq 9 rfl
      ·exact yq (q_move O)
      refine d_eff1 [0, 1, 4, 3, 2] [9, 8, 7, 6] 5 [(42, _), (43, _), (46, _)] gO ⟨rfl, rfl, rfl, trivial⟩ (by kernel_rfl) (by kernel_rfl) fun Ex => ?_
      refine lc1 O O O (groupP_ok pa off go n e s l T hP hok0 hg _ (by omega)) ?_
      refine l_nil ?_
      apply n_d
      ·refine ⟨?_, ?_, ?_, ?_, trivial⟩
       ·apply ya O O; exact yq (q_move O)
       ·apply ya O O; exact yq (qrem O O)
       ·apply ya O O; exact yq (qld O yA3)
       ·apply ya O O; exact yq (qfa 0 rfl yU224 O O yS3)
      refine d_eff1 [8, 9, 7, 6] [] 10 [(47, _), (50, _), (51, _)] gO ⟨rfl, rfl, rfl, trivial⟩ (by kernel_rfl) (by kernel_rfl) fun Ex => ?_
      rw [show ((8 * g + i : Nat) : Int) % 8 = ((i : Nat) : Int) by omega]
      refine lc1 O O O (SetElem_ok pa (go + g * gN l) s l (grpC T.cells g) hP.hl hgood hG' hok' i (h % 128) key e0 elem b0 hi hcg he) ?_
      refine l_nil ?_
      apply n_d
      ·exact trivial
      refine d_eff1 [] [] 11 [] gO trivial (by kernel_rfl) (by kernel_rfl) fun Ex => ?_
      refine asg O O<|l_nil ?_
      apply n_d
      ·exact trivial
      refine d_eff1 [] [] 12 [(52, _)] gO ⟨rfl, trivial⟩ (by kernel_rfl) (by kernel_rfl) fun Ex => ?_
      refine asg O O<|l_nil ?_
      apply n_d
      ·exact trivial
      refine d_end (by kernel_rfl) ?_
      refine n_code<|rt ?_
      have hw := hP.cell hg hi (c := .full (h % 128) key elem b0) (by obtain ⟨c1, c2, c3, c4, c5⟩ := hcok; exact ⟨c1, c2, c3, he, c5⟩)
      exact fr2 O ([G, arenaH pa (s.put (go + g * gN l) (gN l) (encG l (updC (grpC T.cells g) i (.full (h % 128) key elem b0))))]) (.tmp rfl) (.tmp rfl) ⟨_, rfl, rfl, hw⟩
     ·omega
    ·rw [hp]
     refine t_if O (fun q => ?_) fun q => ?_
     ·omega
     ·refine sr<|l_q O (qfa 1 rfl yU224 O O yS3)<|l_q O (qld O yA3) ?_
      refine l_q O (qi O O (b_lss ·))<|mv O O<|l_pt (t := 57) rfl (fun v1 => ?_) fun v1 => ?_
      ·exact l_off O O O O<|l_off O O O O<|l_off O O O O<|l_offu O O O<|l_offu O O O<|l_offu O O O<|l_off O O O O<|l_q O (q_pk O O)<|asg O O<|lc<|t_cond_t O<|sr<|asg O O<|asg O O<|lc<|rt<|fr2 O ([G, arenaH pa s]) (.tmp rfl) (.tmp rfl) ⟨s, rfl, rfl, hP, SameBut.refl _ _ _ _⟩
      ·refine l_on O O<|l_q O (qfa 2 rfl yU224 O O yS4)<|l_on O O<|l_q O (qld O yA4) ?_
       refine l_on O O<|mv O O ?_
       have hv2 := hv.resolve_left v1
       refine l_pt (t := 60) rfl (fun v2 => ?_) fun v2 => ?_
       ·refine l_on O O<|l_q O (qfa 2 rfl yU147 O O yS3)<|l_on O O<|l_q O (qld O yA3) ?_
        refine l_on O O<|l_q O (qi O O (b_eql ·))<|l_on O O<|l_q O (q_pk O O)<|l_q O (q_pk O O)<|asg O O<|lc<|t_if O (fun v3 => ?_) fun v3 => ?_
        ·exact sr<|asg O O<|asg O O<|lc<|rt<|fr2 O ([G, arenaH pa s]) (.tmp rfl) (.tmp rfl) ⟨s, rfl, rfl, hP, SameBut.refl _ _ _ _⟩
        ·exact absurd hv2.2 v3
       ·rw [hv2.1] at v2; cases v2
    ·rw [hp]
     obtain ⟨hgood, hG', hok', hin⟩ := hP.grpAt hg
     obtain ⟨t, htt, ht128⟩ : ∃ t : Nat, h % 128 = (t : Nat) ∧ t < 128 := ⟨(h % 128).toNat, by omega, by omega⟩
     have hcell : (Cell.full (h % 128) key elem birth).ok l := ⟨by omega, by omega, hk, he, hb.1, hb.2⟩
     have hw := hP.cell hg hi hcell
     rw [hv, hem]
     refine t_if O (fun q => ?_) fun q => ?_
     ·omega
     ·refine sr<|l_q O (qfa 1 rfl yU224 O O yS3)<|l_q O (qld O yA3) ?_
      refine l_q O (qi O O (b_lss ·))<|mv O O<|l_pt (t := 57) rfl (fun v1 => ?_) fun v1 => ?_
      ·omega
      ·refine l_on O O<|l_q O (qfa 2 rfl yU224 O O yS4)<|l_on O O<|l_q O (qld O yA4) ?_
       refine l_on O O<|mv O O<|l_pt (t := 60) rfl (fun v2 => ?_) fun v2 => ?_
       ·refine l_on O O<|l_q O (qfa 2 rfl yU147 O O yS3)<|l_on O O<|l_q O (qld O yA3) ?_
        refine l_on O O<|l_q O (qi O O (b_eql ·))<|l_on O O<|l_q O (q_pk O O)<|l_q O (q_pk O O)<|asg O O<|lc<|t_if O (fun v3 => ?_) fun v3 => ?_
        ·exact absurd ⟨v2, v3⟩ hno
        ·have w1 := hw.1.word (T' := { T with used := T.used + 1, cells := updC T.cells (8 * g + i) (.full (h % 128) key elem birth) }) (k := 3) (v := T.used + 1) (by decide) (by omega) rfl (head_ne (.inr rfl) (.inr rfl) (.inr rfl) (.inl rfl) (.inr rfl) (.inr rfl)) rfl
         have w2 := w1.1.word (T' := { T with used := T.used + 1, left := T.left - 1, cells := updC T.cells (8 * g + i) (.full (h % 128) key elem birth) }) (k := 5) (v := T.left - 1) (by decide) (by omega) rfl (head_ne (.inr rfl) (.inr rfl) (.inr rfl) (.inr rfl) (.inl rfl) (.inr rfl)) rfl
         refine t_skip<|n_blk<|n_code<|t_seq<|t_seq<|t_draw mixed ?_
         apply dq 0 rfl
         ·exact yq (qlda O yA39 yS39)
         apply dq 1 rfl
         ·exact yq (qlda O yA147 yS147)
         apply dq 2 rfl
         ·exact yq (qfa 1 rfl yU224 O O yS3)
         apply dq 3 rfl
         ·exact yq (qld O yA3)
         apply dq 4 rfl
         ·exact yq (qquo O O)
         apply dq 6 rfl
         ·exact yq (qfa 1 rfl yU224 O O yS3)
         apply dq 7 rfl
         ·exact yq (qld O yA3)
         apply dq 8 rfl
         ·exact yq (qrem O O)
         apply dq 9 rfl
         ·exact yq (q_move O)
         apply dq 11 rfl
         ·exact yq (q_move O)
         apply dq 12 rfl
         ·exact yq (q_move O)
         apply dq 13 rfl
         ·exact yq (q_move O)
         refine d_eff1 [0, 1, 4, 3, 2] [13, 12, 11, 9, 8, 7, 6] 5 [(66, _), (67, _), (70, _)] gO ⟨rfl, rfl, rfl, trivial⟩ (by kernel_rfl) (by kernel_rfl) fun Ex => ?_
         refine lc1 O O O (groupP_ok pa off go n e s l T hP hok0 hg _ (by omega)) ?_
         refine l_nil ?_
         apply n_d
         ·refine ⟨?_, ?_, ?_, ?_, ?_, ?_, ?_, trivial⟩
          ·apply ya O O; exact yq (q_move O)
          ·apply ya O O; exact yq (q_move O)
          ·apply ya O O; exact yq (q_move O)
          ·apply ya O O; exact yq (q_move O)
          ·apply ya O O; exact yq (qrem O O)
          ·apply ya O O; exact yq (qld O yA3)
          ·apply ya O O; exact yq (qfa 1 rfl yU224 O O yS3)
         refine d_eff1 [9] [13, 12, 11, 8, 7, 6] 10 [(75, _)] gO ⟨rfl, trivial⟩ (by kernel_rfl) (by kernel_rfl) fun Ex => ?_
         refine lc1 O O O (Tag_okN h hh t htt) ?_
         refine l_nil ?_
         apply n_d
         ·refine ⟨?_, ?_, ?_, ?_, ?_, ?_, trivial⟩
          ·apply ya O O; exact yq (q_move O)
          ·apply ya O O; exact yq (q_move O)
          ·apply ya O O; exact yq (q_move O)
          ·apply ya O O; exact yq (qrem O O)
          ·apply ya O O; exact yq (qld O yA3)
          ·apply ya O O; exact yq (qfa 1 rfl yU224 O O yS3)
         refine d_eff1 [8, 11, 12, 13, 7, 6] [] 14 [(71, _), (74, _), (76, _), (77, _), (78, _), (79, _)] gO ⟨rfl, rfl, rfl, rfl, rfl, rfl, trivial⟩ (by kernel_rfl) (by kernel_rfl) fun Ex => ?_
         rw [show ((8 * g + i : Nat) : Int) % 8 = ((i : Nat) : Int) by omega]
         refine lc1 O O O (Fill_ok pa (go + g * gN l) s l (grpC T.cells g) hP.hl hgood hG' hok' i t key elem birth hi ht128 hk he hb) ?_
         rw [← htt]
         refine l_nil ?_
         apply n_d
         ·exact trivial
         refine d_eff1 [] [] 15 [(80, _)] gO ⟨rfl, trivial⟩ (by kernel_rfl) (by kernel_rfl) fun Ex => ?_
         refine asg O O<|l_nil ?_
         apply n_d
         ·exact trivial
         refine d_end (by kernel_rfl) ?_
         refine nz<|mv O O<|l_q O (qi O O (b_neq ·))<|lc<|t_if O (fun v5 => ?_) fun v5 => ?_
         ·exact absurd rfl v5
         ·refine t_skip<|nz<|l_q O (qlda O yA39 yS39) ?_
          refine l_q O (qfa 0 rfl yU147 O O yS3)<|l_q O (qld O yA3) ?_
          refine l_q O (qadd O O) ?_
          refine lcf O O O (set_ok pa off 3 _ l 24 _ rfl (by decide) hw.1.gh) ?_
          rintro v L' rfl
          refine l_nm ?_
          refine lc<|t_seq<|sr<|l_q O (qfa 2 rfl yU224 O O yS4)<|l_q O (qld O yA4) ?_
          refine lc<|t_if O (fun v4 => ?_) fun v4 => ?_
          ·refine t_region<|l_q O (qlda O yA39 yS39) ?_
           refine l_q O (qfa 2 rfl yU147 O O yS3)<|l_q O (qld O yA3) ?_
           refine l_q O (qsub O O) ?_
           refine lcf O O O (set_ok pa off 5 _ l 40 _ rfl (by decide) w1.1.gh) ?_
           rintro v L' rfl
           refine l_nm ?_
           refine lz<|asg O O<|asg O O<|lc<|rt<|fr2 O ([G, arenaH pa (((s.put (go + g * gN l) (gN l) (encG l (updC (grpC T.cells g) i (.full (h % 128) key elem birth)))).put (off + 8 * 3) 8 (byteN (IntKind.u64.wrap (T.used + 1)))).put (off + 8 * 5) 8 (byteN (IntKind.u64.wrap (T.left - 1))))]) (.tmp rfl) (.tmp rfl) ?_
           exact ⟨_, rfl, rfl, by rw [v2]; exact w2.1, (hw.2.trans w1.2).trans w2.2⟩
          ·rw [v2] at v4; cases v4
       ·refine l_off O O O O<|l_off O O O O<|l_off O O O O<|l_on O O<|l_q O (q_pk O O)<|l_q O (q_pk O O)<|asg O O<|lc<|t_cond_f O<|t_skip<|n_blk<|n_code<|t_seq<|t_seq<|t_draw mixed ?_
        apply dq 0 rfl
        ·exact yq (qlda O yA39 yS39)
        apply dq 1 rfl
        ·exact yq (qlda O yA147 yS147)
        apply dq 2 rfl
        ·exact yq (qfa 1 rfl yU224 O O yS3)
        apply dq 3 rfl
        ·exact yq (qld O yA3)
        apply dq 4 rfl
        ·exact yq (qquo O O)
        apply dq 6 rfl
        ·exact yq (qfa 1 rfl yU224 O O yS3)
        apply dq 7 rfl
        ·exact yq (qld O yA3)
        apply dq 8 rfl
        ·exact yq (qrem O O)
        apply dq 9 rfl
        ·exact yq (q_move O)
        apply dq 11 rfl
        ·exact yq (q_move O)
        apply dq 12 rfl
        ·exact yq (q_move O)
        apply dq 13 rfl
        ·exact yq (q_move O)
        refine d_eff1 [0, 1, 4, 3, 2] [13, 12, 11, 9, 8, 7, 6] 5 [(66, _), (67, _), (70, _)] gO ⟨rfl, rfl, rfl, trivial⟩ (by kernel_rfl) (by kernel_rfl) fun Ex => ?_
        have w1 := hw.1.word (T' := { T with used := T.used + 1, cells := updC T.cells (8 * g + i) (.full (h % 128) key elem birth) }) (k := 3) (v := T.used + 1) (by decide) (by omega) rfl (head_ne (.inr rfl) (.inr rfl) (.inr rfl) (.inl rfl) (.inr rfl) (.inr rfl)) rfl
        refine lc1 O O O (groupP_ok pa off go n e s l T hP hok0 hg _ (by omega)) ?_
        refine l_nil ?_
        apply n_d
        ·refine ⟨?_, ?_, ?_, ?_, ?_, ?_, ?_, trivial⟩
         ·apply ya O O; exact yq (q_move O)
         ·apply ya O O; exact yq (q_move O)
         ·apply ya O O; exact yq (q_move O)
         ·apply ya O O; exact yq (q_move O)
         ·apply ya O O; exact yq (qrem O O)
         ·apply ya O O; exact yq (qld O yA3)
         ·apply ya O O; exact yq (qfa 1 rfl yU224 O O yS3)
        refine d_eff1 [9] [13, 12, 11, 8, 7, 6] 10 [(75, _)] gO ⟨rfl, trivial⟩ (by kernel_rfl) (by kernel_rfl) fun Ex => ?_
        refine lc1 O O O (Tag_okN h hh t htt) ?_
        refine l_nil ?_
        apply n_d
        ·refine ⟨?_, ?_, ?_, ?_, ?_, ?_, trivial⟩
         ·apply ya O O; exact yq (q_move O)
         ·apply ya O O; exact yq (q_move O)
         ·apply ya O O; exact yq (q_move O)
         ·apply ya O O; exact yq (qrem O O)
         ·apply ya O O; exact yq (qld O yA3)
         ·apply ya O O; exact yq (qfa 1 rfl yU224 O O yS3)
        refine d_eff1 [8, 11, 12, 13, 7, 6] [] 14 [(71, _), (74, _), (76, _), (77, _), (78, _), (79, _)] gO ⟨rfl, rfl, rfl, rfl, rfl, rfl, trivial⟩ (by kernel_rfl) (by kernel_rfl) fun Ex => ?_
        rw [show ((8 * g + i : Nat) : Int) % 8 = ((i : Nat) : Int) by omega]
        refine lc1 O O O (Fill_ok pa (go + g * gN l) s l (grpC T.cells g) hP.hl hgood hG' hok' i t key elem birth hi ht128 hk he hb) ?_
        rw [← htt]
        refine l_nil ?_
        apply n_d
        ·exact trivial
        refine d_eff1 [] [] 15 [(80, _)] gO ⟨rfl, trivial⟩ (by kernel_rfl) (by kernel_rfl) fun Ex => ?_
        refine asg O O<|l_nil ?_
        apply n_d
        ·exact trivial
        refine d_end (by kernel_rfl) ?_
        refine nz<|mv O O<|l_q O (qi O O (b_neq ·))<|lc<|t_if O (fun v5 => ?_) fun v5 => ?_
        ·exact absurd rfl v5
        ·refine t_skip<|nz<|l_q O (qlda O yA39 yS39) ?_
         refine l_q O (qfa 0 rfl yU147 O O yS3)<|l_q O (qld O yA3) ?_
         refine l_q O (qadd O O) ?_
         refine lcf O O O (set_ok pa off 3 _ l 24 _ rfl (by decide) hw.1.gh) ?_
         rintro v L' rfl
         refine l_nm ?_
         refine lc<|t_seq<|sr<|l_q O (qfa 2 rfl yU224 O O yS4)<|l_q O (qld O yA4) ?_
         refine lc<|t_if O (fun v4 => ?_) fun v4 => ?_
         ·rw [v2] at v4; cases v4
         ·refine t_skip<|nz<|asg O O<|asg O O<|lc<|rt<|fr2 O ([G, arenaH pa ((s.put (go + g * gN l) (gN l) (encG l (updC (grpC T.cells g) i (.full (h % 128) key elem birth)))).put (off + 8 * 3) 8 (byteN (IntKind.u64.wrap (T.used + 1))))]) (.tmp rfl) (.tmp rfl) ?_
          exact ⟨_, rfl, rfl, by rw [v2]; exact w1.1, hw.2.trans w1.2⟩
end
end Go.Proofs.YthkajgkagnenbaaGreatDoor.Table
