/- The laws over scripts: begin, plays; TableExact answers true. -/
import Derived.Test.YthkajgkagnenbaaGreatDoorExactM
set_option linter.unusedVariables false
set_option linter.unusedSimpArgs false
set_option linter.unusedSectionVars false
set_option maxRecDepth 100000
namespace Go.Proofs.YthkajgkagnenbaaGreatDoor.Exact
open Go.RowKit Go.Proofs Go.Proofs.YthkajgkagnenbaaGreatDoor.Eng Go.Proofs.YthkajgkagnenbaaGreatDoor.Ty Go.Proofs.YthkajgkagnenbaaGreatDoor.Bits Go.Proofs.YthkajgkagnenbaaGreatDoor.Mem Go.Proofs.YthkajgkagnenbaaGreatDoor.Search Go.Proofs.YthkajgkagnenbaaGreatDoor.Arena Go.Proofs.YthkajgkagnenbaaGreatDoor.CtrlB Go.Proofs.YthkajgkagnenbaaGreatDoor.Ctrl Go.Proofs.YthkajgkagnenbaaGreatDoor.Layout Go.Proofs.YthkajgkagnenbaaGreatDoor.GroupB Go.Proofs.YthkajgkagnenbaaGreatDoor.Group Go.Proofs.YthkajgkagnenbaaGreatDoor.Probe Go.Proofs.YthkajgkagnenbaaGreatDoor.TableB Go.Proofs.YthkajgkagnenbaaGreatDoor.TableI Go.Proofs.YthkajgkagnenbaaGreatDoor.Table Go.Proofs.YthkajgkagnenbaaGreatDoor.Bench Go.Proofs.YthkajgkagnenbaaGreatDoor.Cells Go.Proofs.YthkajgkagnenbaaGreatDoor.Refill Go.Proofs.YthkajgkagnenbaaGreatDoor.RefA Go.Proofs.YthkajgkagnenbaaGreatDoor.RefT Go.Proofs.YthkajgkagnenbaaGreatDoor.Ref03

theorem ANew_bad (limit : Int) (h : limit < 0 ∨ 2097152 < limit) : FnOk Tryz.prog 26 #[.int .i64 limit] [] (fun v L => v = .tuple #[.pointer none, .int .i64 20] ∧ L = []) := by
 refine fn_intro en26 Tryz.func26 rfl rfl rfl fun Fr w0 => t_nm ?_
 refine sr<|asg O O<|asg O O<|lc<|t_seq<|sr<|mv O O<|l_q O (qi O O (b_lss ·))<|mv O O<|l_pt (t := 8) rfl (fun h1 => ?_) fun h1 => ?_
 ·exact l_off O O O O<|l_off O O O O<|l_q O (q_pk O O)<|lc<|t_cond_t O<|sr<|asg O O<|asg O O<|lc<|rt<|fr2 O ([]) (.tmp rfl) (.tmp rfl) ⟨rfl, rfl⟩
 ·refine l_on O O<|mv O O<|l_on O O<|l_q O (qi O O (b_gtr ·))<|l_q O (q_pk O O)<|lc<|t_if O (fun h2 => ?_) fun h2 => ?_
  ·exact sr<|asg O O<|asg O O<|lc<|rt<|fr2 O ([]) (.tmp rfl) (.tmp rfl) ⟨rfl, rfl⟩
  ·omega
theorem RNew_bad (limit : Int) (h : limit < 0 ∨ 2097152 < limit) : FnOk Tryz.prog 27 #[.int .i64 limit] [] (fun v L => v = .tuple #[.pointer none, .int .i64 20] ∧ L = []) :=
 (RNew_ok limit).mono fun v L h2 => by
  rcases h2 with ⟨_, h3, h4⟩ | ⟨h3, h4, _⟩
  ·exact ⟨h3, h4⟩
  ·omega
theorem RNew_good (limit : Int) (h : 0 ≤ limit ∧ limit ≤ 2097152) : FnOk Tryz.prog 27 #[.int .i64 limit] [] (fun v L => ∃ pr, v = .tuple #[.pointer (some ⟨pr, 0, none⟩), .int .i64 0] ∧ L = [rarH pr (ArS.new limit)]) :=
 (RNew_ok limit).mono fun v L h2 => by
  rcases h2 with ⟨h3, _⟩ | ⟨_, _, h3⟩
  ·omega
  ·exact h3
theorem begin_ok (A : HP) (vf : Value) (xs : List Int) (hA : IntsAt A vf xs) (limit : Int) : FnOk Tryz.prog 8 #[vf, .int .i64 limit] [A] (fun v L => ∃ pb b, v = .tuple #[.pointer (some ⟨pb, 0, none⟩), .bool true, .bool b] ∧ ((b = false ∧ L = [A]) ∨ (b = true ∧ ∃ (pa pr : Nat) (l : Lay), l.err = 0 ∧ (0 ≤ limit ∧ limit ≤ 2097152) ∧ L = [A, pt pb (.cells #[.pointer (some ⟨pa, 0, none⟩), .pointer (some ⟨pr, 0, none⟩), .int .i64 l.key, .int .i64 l.elem, .int .i64 l.ka, .int .i64 l.ea, .int .i64 l.cap, .int .i64 l.eo, .int .i64 l.bo, .int .i64 l.slot, .int .i64 l.group, (.slice none 0 0)] 37 (0, 0)), rarH pr (ArS.new limit), arenaH pa (ArS.new limit)]))) := by
 refine fn_intro en8 Tryz.func8 rfl rfl rfl fun Fr w0 => t_nm ?_
 by_cases hlim : limit < 0 ∨ 2097152 < limit
 ·skip
  refine sr<|asg O O<|asg O O<|asg O O<|lz<|mv O O<|lcf O O O (Parse_ok A vf xs hA) ?_
  rintro v L' ⟨rfl, (⟨hpe, hle, rfl⟩ | ⟨hpe, rfl⟩)⟩
  refine l_nm ?_
  ·skip
   refine mv O O<|l_q O (q_extractL O ga) ?_
   refine l_q O (q_extractL O ga) ?_
   refine o_allocA O yZ34 fun b7 => sta O O O yS34 O O ?_
   refine asg O O<|lz<|mv O O<|lc1 O O O (ANew_bad limit hlim) ?_
   refine mv O O<|l_q O (q_extractL O ga) ?_
   refine l_q O (q_extractL O ga) ?_
   refine asg O O<|asg O O<|lz<|mv O O<|lc1 O O O (RNew_bad limit hlim) ?_
   refine mv O O<|l_q O (q_extractL O ga) ?_
   refine l_q O (q_extractL O ga) ?_
   refine asg O O<|asg O O<|lc<|t_seq<|sr<|mv O O<|lc1 O O O (num8_ok _) ?_
   refine mv O O<|l_q O (qi O O (b_neq ·))<|mv O O<|l_pt (t := 32) rfl (fun z1 => ?_) fun z1 => ?_
   ·exact absurd rfl z1
   ·refine l_on O O<|mv O O<|l_on O O<|l_q O (q_bin O O (g_pointer ·) (b_eqlP0 · yU31))<|l_on O O<|mv O O<|l_on O O<|l_q O (qi O O (b_neq ·))<|l_on O O<|l_q O (qb O O (b_neqB · yU4))<|l_q O (q_pk O O)<|lc<|t_if O (fun z2 => ?_) fun z2 => ?_
    ·exact absurd z2 (by simp)
    ·refine t_skip<|nz<|mv O O<|mv O O<|l_q O (qlda O yA34 yS34) ?_
     apply l_q O
     ·apply q_buildS O yP37 yZ37
      ·apply FillR.one
       ·repeat (first | exact PlAt.here | apply PlAt.there)
       ·rfl
       ·exact sa
       apply FillR.one
       ·repeat (first | exact PlAt.here | apply PlAt.there)
       ·rfl
       ·exact sa
       apply FillR.all
       ·repeat (first | exact PlAt.here | apply PlAt.there)
       ·rfl
       ·simp
       ·exact sal
       exact FillR.nil
     refine o_boxA O O fun b43 => mv O O<|l_q O (qi O O (b_eql ·))<|mv O O<|l_pt (t := 46) rfl (fun z3 => ?_) fun z3 => ?_
     ·refine l_on O O<|mv O O<|l_on O O<|l_q O (qi O O (b_eql ·))<|l_q O (q_pk O O)<|asg O O<|asg O O<|asg O O<|lc<|rt ?_
      apply f_ret (.inl rfl) ([A])
      ·apply res3 O
       ·exact .tmp rfl
       ·exact .tmp rfl
       ·exact .tmp rfl
      ·exact ⟨_, false, rfl, .inl ⟨rfl, rfl⟩⟩
      ·exact en
     ·refine l_off O O O O<|l_off O O O O<|l_q O (q_pk O O)<|asg O O<|asg O O<|asg O O<|lc<|rt ?_
      apply f_ret (.inl rfl) ([A])
      ·apply res3 O
       ·exact .tmp rfl
       ·exact .tmp rfl
       ·exact .tmp rfl
      ·exact ⟨_, false, rfl, .inl ⟨rfl, rfl⟩⟩
      ·exact en
  ·skip
   refine mv O O<|l_q O (q_extractL O ga) ?_
   refine l_q O (q_extractL O ga) ?_
   refine o_allocA O yZ34 fun b7 => sta O O O yS34 O O ?_
   refine asg O O<|lz<|mv O O<|lc1 O O O (ANew_bad limit hlim) ?_
   refine mv O O<|l_q O (q_extractL O ga) ?_
   refine l_q O (q_extractL O ga) ?_
   refine asg O O<|asg O O<|lz<|mv O O<|lc1 O O O (RNew_bad limit hlim) ?_
   refine mv O O<|l_q O (q_extractL O ga) ?_
   refine l_q O (q_extractL O ga) ?_
   refine asg O O<|asg O O<|lc<|t_seq<|sr<|mv O O<|lc1 O O O (num8_ok _) ?_
   refine mv O O<|l_q O (qi O O (b_neq ·))<|mv O O<|l_pt (t := 32) rfl (fun z1 => ?_) fun z1 => ?_
   ·exact absurd rfl z1
   ·refine l_on O O<|mv O O<|l_on O O<|l_q O (q_bin O O (g_pointer ·) (b_eqlP0 · yU31))<|l_on O O<|mv O O<|l_on O O<|l_q O (qi O O (b_neq ·))<|l_on O O<|l_q O (qb O O (b_neqB · yU4))<|l_q O (q_pk O O)<|lc<|t_if O (fun z2 => ?_) fun z2 => ?_
    ·exact absurd z2 (by simp)
    ·refine t_skip<|nz<|mv O O<|mv O O<|l_q O (qlda O yA34 yS34) ?_
     apply l_q O
     ·apply q_buildS O yP37 yZ37
      ·apply FillR.one
       ·repeat (first | exact PlAt.here | apply PlAt.there)
       ·rfl
       ·exact sa
       apply FillR.one
       ·repeat (first | exact PlAt.here | apply PlAt.there)
       ·rfl
       ·exact sa
       apply FillR.all
       ·repeat (first | exact PlAt.here | apply PlAt.there)
       ·rfl
       ·simp
       ·exact sal
       exact FillR.nil
     refine o_boxA O O fun b43 => mv O O<|l_q O (qi O O (b_eql ·))<|mv O O<|l_pt (t := 46) rfl (fun z3 => ?_) fun z3 => ?_
     ·refine l_on O O<|mv O O<|l_on O O<|l_q O (qi O O (b_eql ·))<|l_q O (q_pk O O)<|asg O O<|asg O O<|asg O O<|lc<|rt ?_
      apply f_ret (.inl rfl) ([A])
      ·apply res3 O
       ·exact .tmp rfl
       ·exact .tmp rfl
       ·exact .tmp rfl
      ·exact ⟨_, false, rfl, .inl ⟨rfl, rfl⟩⟩
      ·exact en
     ·refine l_off O O O O<|l_off O O O O<|l_q O (q_pk O O)<|asg O O<|asg O O<|asg O O<|lc<|rt ?_
      apply f_ret (.inl rfl) ([A])
      ·apply res3 O
       ·exact .tmp rfl
       ·exact .tmp rfl
       ·exact .tmp rfl
      ·exact ⟨_, false, rfl, .inl ⟨rfl, rfl⟩⟩
      ·exact en
 ·have hlim2 : 0 ≤ limit ∧ limit ≤ 2097152 := by omega
  refine sr<|asg O O<|asg O O<|asg O O<|lz<|mv O O<|lcf O O O (Parse_ok A vf xs hA) ?_
  rintro v L' ⟨rfl, (⟨hpe, hle, rfl⟩ | ⟨hpe, rfl⟩)⟩
  refine l_nm ?_
  ·skip
   refine mv O O<|l_q O (q_extractL O ga) ?_
   refine l_q O (q_extractL O ga) ?_
   refine o_allocA O yZ34 fun b7 => sta O O O yS34 O O ?_
   refine asg O O<|lz<|mv O O<|lcf O O O (Arena.New_ok limit hlim2) ?_
   rintro v L' ⟨pa, rfl, rfl⟩
   refine l_nm ?_
   refine mv O O<|l_q O (q_extractL O ga) ?_
   refine l_q O (q_extractL O ga) ?_
   refine asg O O<|asg O O<|lz<|mv O O<|lcf O O O (RNew_good limit hlim2) ?_
   rintro v L' ⟨pr, rfl, rfl⟩
   refine l_nm ?_
   refine mv O O<|l_q O (q_extractL O ga) ?_
   refine l_q O (q_extractL O ga) ?_
   refine asg O O<|asg O O<|lc<|t_seq<|sr<|mv O O<|lc1 O O O (num8_ok _) ?_
   refine mv O O<|l_q O (qi O O (b_neq ·))<|mv O O<|l_pt (t := 32) rfl (fun z1 => ?_) fun z1 => ?_
   ·exact absurd rfl z1
   ·refine l_on O O<|mv O O<|l_on O O<|l_q O (q_bin O O (g_pointer ·) (b_eqlP0 · yU31))<|l_on O O<|mv O O<|l_on O O<|l_q O (qi O O (b_neq ·))<|l_on O O<|l_q O (qb O O (b_neqB · yU4))<|l_q O (q_pk O O)<|lc<|t_if O (fun z2 => ?_) fun z2 => ?_
    ·exact absurd z2 (by simp)
    ·refine t_skip<|nz<|mv O O<|mv O O<|l_q O (qlda O yA34 yS34) ?_
     apply l_q O
     ·apply q_buildS O yP37 yZ37
      ·apply FillR.one
       ·repeat (first | exact PlAt.here | apply PlAt.there)
       ·rfl
       ·exact sa
       apply FillR.one
       ·repeat (first | exact PlAt.here | apply PlAt.there)
       ·rfl
       ·exact sa
       apply FillR.all
       ·repeat (first | exact PlAt.here | apply PlAt.there)
       ·rfl
       ·simp
       ·exact sal
       exact FillR.nil
     refine o_boxA O O fun b43 => mv O O<|l_q O (qi O O (b_eql ·))<|mv O O<|l_pt (t := 46) rfl (fun z3 => ?_) fun z3 => ?_
     ·refine l_on O O<|mv O O<|l_on O O<|l_q O (qi O O (b_eql ·))<|l_q O (q_pk O O)<|asg O O<|asg O O<|asg O O<|lc<|rt ?_
      apply f_ret (.inl rfl) ([A, pt b43 (.cells #[.pointer (some ⟨pa, 0, none⟩), .pointer (some ⟨pr, 0, none⟩), .int .i64 (lay5 xs).key, .int .i64 (lay5 xs).elem, .int .i64 (lay5 xs).ka, .int .i64 (lay5 xs).ea, .int .i64 (lay5 xs).cap, .int .i64 (lay5 xs).eo, .int .i64 (lay5 xs).bo, .int .i64 (lay5 xs).slot, .int .i64 (lay5 xs).group, (.slice none 0 0)] 37 (0, 0)), rarH pr (ArS.new limit), arenaH pa (ArS.new limit)])
      ·apply res3 O
       ·exact .tmp rfl
       ·exact .tmp rfl
       ·exact .tmp rfl
      ·exact ⟨_, true, rfl, .inr ⟨rfl, pa, pr, lay5 xs, hle, hlim2, rfl⟩⟩
      ·exact en
     ·exact absurd rfl z3
  ·skip
   refine mv O O<|l_q O (q_extractL O ga) ?_
   refine l_q O (q_extractL O ga) ?_
   refine o_allocA O yZ34 fun b7 => sta O O O yS34 O O ?_
   refine asg O O<|lz<|mv O O<|lcf O O O (Arena.New_ok limit hlim2) ?_
   rintro v L' ⟨pa, rfl, rfl⟩
   refine l_nm ?_
   refine mv O O<|l_q O (q_extractL O ga) ?_
   refine l_q O (q_extractL O ga) ?_
   refine asg O O<|asg O O<|lz<|mv O O<|lcf O O O (RNew_good limit hlim2) ?_
   rintro v L' ⟨pr, rfl, rfl⟩
   refine l_nm ?_
   refine mv O O<|l_q O (q_extractL O ga) ?_
   refine l_q O (q_extractL O ga) ?_
   refine asg O O<|asg O O<|lc<|t_seq<|sr<|mv O O<|lc1 O O O (num8_ok _) ?_
   refine mv O O<|l_q O (qi O O (b_neq ·))<|mv O O<|l_pt (t := 32) rfl (fun z1 => ?_) fun z1 => ?_
   ·exact absurd rfl z1
   ·refine l_on O O<|mv O O<|l_on O O<|l_q O (q_bin O O (g_pointer ·) (b_eqlP0 · yU31))<|l_on O O<|mv O O<|l_on O O<|l_q O (qi O O (b_neq ·))<|l_on O O<|l_q O (qb O O (b_neqB · yU4))<|l_q O (q_pk O O)<|lc<|t_if O (fun z2 => ?_) fun z2 => ?_
    ·exact absurd z2 (by simp)
    ·refine t_skip<|nz<|mv O O<|mv O O<|l_q O (qlda O yA34 yS34) ?_
     apply l_q O
     ·apply q_buildS O yP37 yZ37
      ·apply FillR.one
       ·repeat (first | exact PlAt.here | apply PlAt.there)
       ·rfl
       ·exact sa
       apply FillR.one
       ·repeat (first | exact PlAt.here | apply PlAt.there)
       ·rfl
       ·exact sa
       apply FillR.all
       ·repeat (first | exact PlAt.here | apply PlAt.there)
       ·rfl
       ·simp
       ·exact sal
       exact FillR.nil
     refine o_boxA O O fun b43 => mv O O<|l_q O (qi O O (b_eql ·))<|mv O O<|l_pt (t := 46) rfl (fun z3 => ?_) fun z3 => ?_
     ·exact absurd z3 hpe
     ·refine l_off O O O O<|l_off O O O O<|l_q O (q_pk O O)<|asg O O<|asg O O<|asg O O<|lc<|rt ?_
      apply f_ret (.inl rfl) ([A])
      ·apply res3 O
       ·exact .tmp rfl
       ·exact .tmp rfl
       ·exact .tmp rfl
      ·exact ⟨_, false, rfl, .inl ⟨rfl, rfl⟩⟩
      ·exact en
theorem AAllocAll_bad (pa : Nat) (s : ArS) (p : Nat) (n : Int) (hn : n < 1) : FnOk Tryz.prog 73 #[.pointer (some ⟨pa, 0, none⟩), .slice (some ⟨p, 0, none⟩) 1 1] [pt p (.cells #[.int .i64 n] 3 (0, 0)), arenaH pa s] (fun v L => v = .tuple #[.slice none 0 0, .int .i64 21] ∧ L = [arenaH pa s]) := by
 refine fn_intro en73 Tryz.func73 rfl rfl rfl fun Fr w0 => t_nm ?_
 refine sr<|asg O O<|asg O O<|lz<|asg O O<|lz<|asg O O<|lc<|t_seq<|sr<|mv O O<|l_q O (ql O yU22)<|mv O O<|lc<|t_block ?_
 refine t_loop (fun x : Nat => x = 0) (fun x => [(0, .pointer (some ⟨pa, 0, none⟩)), (1, .slice (some ⟨p, 0, none⟩) 1 1), (6, .int .i64 0), (7, .bool false), (15, .slice (some ⟨p, 0, none⟩) 1 1), (16, .int .i64 1), (17, .int .i64 (x : Nat))]) (fun x => pt p (.cells #[.int .i64 n] 3 (0, 0)) :: arenaH pa s :: Fr) (fun x => 1 - x) 0 rfl ⟨rfl, rfl, rfl, rfl, rfl, rfl, rfl, trivial⟩ (Ent.refl _) ?_
 intro x hx
 refine sr<|l_q O (qi O O (b_lss ·))<|lc<|t_seq<|t_if O (fun h => ?_) fun h => ?_
 ·refine t_skip<|n_code<|t_seq<|t_block<|sr<|l_q O (q_indexAddr1 O O yU22 yS3 (by omega)) ?_
  apply l_q O
  ·apply q_load O yA3
   ·exact tk
   ·subst hx; exact rfl
  refine asg O O<|lc<|t_seq<|sr<|mv O O<|l_q O (qi O O (b_lss ·))<|lc<|t_if O (fun q => ?_) fun q => ?_
  ·exact sr<|asg O O<|asg O O<|lc<|rt<|fr2 O ([arenaH pa s]) (.tmp rfl) (.tmp rfl) ⟨rfl, rfl⟩
  ·omega
 ·omega
theorem AAlloc_bad (pa : Nat) (s : ArS) (n : Int) (hn : n < 1) : FnOk Tryz.prog 30 #[.pointer (some ⟨pa, 0, none⟩), .int .i64 n] [arenaH pa s] (fun v L => v = .tuple #[.int .i64 0, .int .i64 21] ∧ L = [arenaH pa s]) := by
 refine fn_intro en30 Tryz.func30 rfl rfl rfl fun Fr w0 => t_nm ?_
 refine sr<|asg O O<|asg O O<|lz<|mv O O<|mv O O ?_
 refine o_buildSlice1 [_] rfl rfl yU22 yS3 yZ3 O O O O (fun b11 => ?_)
 refine lc1 O O O (AAllocAll_bad pa s b11 n hn) ?_
 refine mv O O<|l_q O (q_extractL O ga) ?_
 refine l_q O (q_extractL O ga) ?_
 refine asg O O<|asg O O<|lc<|t_seq<|sr<|mv O O<|l_q O (qi O O (b_neq ·))<|lc<|t_if O (fun z => ?_) fun z => ?_
 ·exact sr<|mv O O<|asg O O<|asg O O<|lc<|rt<|fr2 O ([arenaH pa s]) (.tmp rfl) (.tmp rfl) ⟨rfl, rfl⟩
 ·exact absurd z (by decide)
theorem At8_ok (pa : Nat) (l : Lay) (off : Int) : FnOk Tryz.prog 33 #[.pointer (some ⟨pa, 0, none⟩), .agg #[.int .i64 l.key, .int .i64 l.elem, .int .i64 l.ka, .int .i64 l.ea, .int .i64 l.cap, .int .i64 l.eo, .int .i64 l.bo, .int .i64 l.slot, .int .i64 l.group], .int .i64 off] [] (fun v L => v = .agg #[.pointer (some ⟨pa, 0, none⟩), .int .i64 l.key, .int .i64 l.elem, .int .i64 l.ka, .int .i64 l.ea, .int .i64 l.cap, .int .i64 l.eo, .int .i64 l.bo, .int .i64 l.slot, .int .i64 l.group, .int .i64 off] ∧ L = []) := by
 refine fn_intro en33 Tryz.func33 rfl rfl rfl fun Fr w0 => t_nm ?_
 refine sr<|o_boxA O O fun b4 => o_allocA O yZ39 fun b6 => lz<|mv O O<|l_q O (qlda O yA34 yS34) ?_
 refine mv O O ?_
 apply l_q O
 ·apply q_buildS O yP39 yZ39
  ·apply FillR.one
   ·repeat (first | exact PlAt.here | apply PlAt.there)
   ·rfl
   ·exact sa
   apply FillR.all
   ·repeat (first | exact PlAt.here | apply PlAt.there)
   ·rfl
   ·simp
   ·exact sal
   apply FillR.one
   ·repeat (first | exact PlAt.here | apply PlAt.there)
   ·rfl
   ·exact sa
   exact FillR.nil
 refine sta O O O yS39 O O ?_
 refine lc<|rt ?_
 apply f_ret (.inl rfl) ([])
 ·apply res1 O
  ·apply Rv.agg rfl
   ·exact tk
   ·exact run_loadAll yA39 yS39 O
 ·exact ⟨rfl, rfl⟩
 ·exact en
theorem alloc_cases (pa pr : Nat) (s : ArS) (hs : s.ok) (n : Int) :
  (∃ c : Int, c ≠ 0 ∧ FnOk Tryz.prog 30 #[.pointer (some ⟨pa, 0, none⟩), .int .i64 n] [arenaH pa s] (fun v L => v = .tuple #[.int .i64 0, .int .i64 c] ∧ L = [arenaH pa s]) ∧
   FnOk Tryz.prog 31 #[.pointer (some ⟨pr, 0, none⟩), .int .i64 n] [rarH pr s] (fun v L => v = .tuple #[.int .i64 0, .int .i64 c] ∧ L = [rarH pr s])) ∨
  (1 ≤ n ∧ n ≤ 1048576 ∧ s.live + classI n ≤ s.limit ∧ FnOk Tryz.prog 30 #[.pointer (some ⟨pa, 0, none⟩), .int .i64 n] [arenaH pa s] (fun v L => v = .tuple #[.int .i64 ((s.at (classI n) : Nat) : Int), .int .i64 0] ∧ L = [arenaH pa (s.take (classI n))]) ∧
   FnOk Tryz.prog 31 #[.pointer (some ⟨pr, 0, none⟩), .int .i64 n] [rarH pr s] (fun v L => v = .tuple #[.int .i64 ((s.at (classI n) : Nat) : Int), .int .i64 0] ∧ L = [rarH pr (s.take (classI n))])) := by
 have hR := RAlloc_ok pr s hs n
 by_cases h1 : n < 1
 ·refine .inl ⟨21, by decide, AAlloc_bad pa s n h1, hR.mono fun v L h => ?_⟩
  rcases h with ⟨_, a, b⟩ | ⟨a, _⟩ | ⟨a, _⟩
  ·exact ⟨a, b⟩
  ·omega
  ·omega
 ·have hA := Alloc_ok pa s n (by omega)
  by_cases h2 : 1048576 < n ∨ s.limit - s.live < classI n
  ·refine .inl ⟨22, by decide, hA.mono fun v L h => ?_, hR.mono fun v L h => ?_⟩
   ·rcases h with ⟨_, a, b⟩ | ⟨a, b, _⟩
    ·exact ⟨a, b⟩
    ·omega
   ·rcases h with ⟨a, _⟩ | ⟨_, _, a, b⟩ | ⟨a, b, c, _⟩
    ·omega
    ·exact ⟨a, b⟩
    ·omega
  ·refine .inr ⟨by omega, by omega, by omega, hA.mono fun v L h => ?_, hR.mono fun v L h => ?_⟩
   ·rcases h with ⟨a, _⟩ | ⟨_, _, a, b⟩
    ·omega
    ·exact ⟨a, b⟩
   ·rcases h with ⟨a, _⟩ | ⟨_, a, _⟩ | ⟨_, _, _, a, b⟩
    ·omega
    ·omega
    ·exact ⟨a, b⟩
end Go.Proofs.YthkajgkagnenbaaGreatDoor.Exact
