/- Contracts of larderlaw09: keys and births; of arena.Size, table.Off, Arena and Layout. -/
import Derived.Test.YtmdangoaomppdaaGreatDoorTableG
import Derived.Test.YtmdangoaomppdaaGreatDoorTableN
import Derived.Test.YtmdangoaomppdaaGreatDoorOver
import Derived.KernelRfl
set_option linter.unusedVariables false
set_option linter.unusedSimpArgs false
set_option maxRecDepth 100000
namespace Go.Proofs.YtmdangoaomppdaaGreatDoor.Grow
open Go.RowKit Go.Proofs Go.Proofs.YtmdangoaomppdaaGreatDoor.Eng Go.Proofs.YtmdangoaomppdaaGreatDoor.Ty Go.Proofs.YtmdangoaomppdaaGreatDoor.Bits Go.Proofs.YtmdangoaomppdaaGreatDoor.Mem Go.Proofs.YtmdangoaomppdaaGreatDoor.Search Go.Proofs.YtmdangoaomppdaaGreatDoor.Arena Go.Proofs.YtmdangoaomppdaaGreatDoor.CtrlB Go.Proofs.YtmdangoaomppdaaGreatDoor.Ctrl Go.Proofs.YtmdangoaomppdaaGreatDoor.Layout Go.Proofs.YtmdangoaomppdaaGreatDoor.GroupB Go.Proofs.YtmdangoaomppdaaGreatDoor.Group Go.Proofs.YtmdangoaomppdaaGreatDoor.TableB Go.Proofs.YtmdangoaomppdaaGreatDoor.TableI Go.Proofs.YtmdangoaomppdaaGreatDoor.Table Go.Proofs.YtmdangoaomppdaaGreatDoor.Oracle


/-! ### Letters -/
def letters : ByteArray := ⟨#[48, 49, 50, 51, 52, 53, 54, 55, 56, 57, 97, 98, 99, 100, 101, 102, 103, 104, 105, 106, 107, 108, 109, 110, 111, 112, 113, 114, 115, 116, 117, 118, 119, 120, 121, 122, 65, 66, 67, 68, 69, 70, 71, 72, 73, 74, 75, 76, 77, 78, 79, 80, 81, 82, 83, 84, 85, 86, 87, 88, 89, 90]⟩
def letter (i : Nat) : ByteArray := letters.extract i (i + 1)
theorem letters_all : ((List.range 62).all fun i => (letter i).size == 1 && (List.range 62).all fun j => i == j || !((letter i).data == (letter j).data)) = true := by kernel_rfl
theorem letter_size {i : Nat} (h : i < 62) : (letter i).size = 1 := by
  have := List.all_eq_true.1 letters_all i (List.mem_range.2 h)
  simp only [Bool.and_eq_true, beq_iff_eq] at this
  exact this.1
theorem letter_inj {i j : Nat} (hi : i < 62) (hj : j < 62) (h : letter i = letter j) : i = j := by
  have := List.all_eq_true.1 letters_all i (List.mem_range.2 hi)
  rw [Bool.and_eq_true] at this
  have := List.all_eq_true.1 this.2 j (List.mem_range.2 hj)
  rw [h] at this
  simpa using this
/-- A key of these laws. -/
def isLetter (key : ByteArray) : Prop := ∃ i, i < 62 ∧ key = letter i

theorem mod_ok (n m : Int) (hn : -9223372036854775808 ≤ n ∧ n ≤ 9223372036854775807) (hm : 0 < m ∧ m ≤ 1000) : FnOk Tryz.prog 88 #[.int .i64 n, .int .i64 m] [] (fun v L => v = .int .i64 (n % m) ∧ L = []) := by
  have h1 := Int.emod_nonneg n (show m ≠ 0 by omega)
  have h2 := Int.emod_lt_of_pos n hm.1
  have h3 := Int.tmod_eq_emod (a := n) (b := m)
  have h4 : n.tmod m = n % m ∨ n.tmod m = n % m - m := by split at h3 <;> omega
  have hm0 : m ≠ 0 := by omega
  refine fn_intro en88 Tryz.func88 rfl rfl rfl fun Fr w0 => t_nm ?_
  refine sr <| asg rfl rfl <| lz <| mv rfl rfl <| mv rfl rfl <| l_q rfl (qrem rfl rfl) ?_
  refine asg rfl rfl <| lc <| t_seq <| sr <| mv rfl rfl <| l_q rfl (qi rfl rfl (b_lss ·)) <| lc <| t_if rfl (fun z => ?_) fun z => ?_
  · refine t_region <| mv rfl rfl <| mv rfl rfl <| l_q rfl (qadd rfl rfl) ?_
    refine asg rfl rfl <| lz <| mv rfl rfl <| asg rfl rfl <| lc <| rt <| fr1 rfl ([]) (.tmp rfl) ?_
    exact ⟨by congr 1; omega, rfl⟩
  · refine t_skip <| nz <| mv rfl rfl <| asg rfl rfl <| lc <| rt <| fr1 rfl ([]) (.tmp rfl) ?_
    exact ⟨by congr 1; omega, rfl⟩

theorem key_ok (n : Int) (hn : -9223372036854775808 ≤ n ∧ n ≤ 9223372036854775807) : FnOk Tryz.prog 39 #[.int .i64 n] [] (fun v L => v = .string (letter (n % 62).toNat) ∧ L = []) := by
  have h1 := Int.emod_nonneg n (show (62 : Int) ≠ 0 by omega)
  have h2 := Int.emod_lt_of_pos n (show (0 : Int) < 62 by omega)
  refine fn_intro en39 Tryz.func39 rfl rfl rfl fun Fr w0 => t_nm ?_
  refine sr <| asg rfl rfl <| lz <| mv rfl rfl <| lc1 rfl rfl rfl (mod_ok _ _ hn (by decide)) ?_
  refine asg rfl rfl <| lz <| mv rfl rfl <| mv rfl rfl <| l_q rfl (qadd rfl rfl) ?_
  apply l_q rfl
  · refine QV.to (v' := .string (letter (n % 62).toNat)) (q_sliceS_lh (s := letters) rfl rfl rfl Tryz.underlying9 ⟨by omega, by omega, by show _ ≤ (62 : Int); omega⟩) (by rw [show (n % 62 + 1).toNat = (n % 62).toNat + 1 by omega]; rfl)
  exact asg rfl rfl <| lc <| rt <| fr1 rfl ([]) (.tmp rfl) ⟨rfl, rfl⟩

/-- The birth of a number. -/
def birthI (n : Int) : Int := if n < 0 then -(n + 1) else n
theorem birth_bnd {n : Int} (hn : -9223372036854775808 ≤ n ∧ n ≤ 9223372036854775807) : 0 ≤ birthI n ∧ birthI n < 9223372036854775808 := by unfold birthI; split <;> omega
theorem birth_ok (n : Int) (hn : -9223372036854775808 ≤ n ∧ n ≤ 9223372036854775807) : FnOk Tryz.prog 41 #[.int .i64 n] [] (fun v L => v = .int .i64 (birthI n) ∧ L = []) := by
  refine fn_intro en41 Tryz.func41 rfl rfl rfl fun Fr w0 => t_nm ?_
  refine sr <| asg rfl rfl <| lc <| t_seq <| sr <| mv rfl rfl <| l_q rfl (qi rfl rfl (b_lss ·)) <| lc <| t_if rfl (fun z => ?_) fun z => ?_
  · refine sr <| mv rfl rfl <| l_q rfl (qadd rfl rfl) ?_
    refine l_q rfl (q_un rfl (u_neg ·)) <| asg rfl rfl <| lc <| rt <| fr1 rfl ([]) (.tmp rfl) ?_
    exact ⟨by unfold birthI; rw [if_pos z, wrap_i64 (by omega)]; congr 1; omega, rfl⟩
  · refine t_skip <| nz <| mv rfl rfl <| asg rfl rfl <| lc <| rt <| fr1 rfl ([]) (.tmp rfl) ?_
    exact ⟨by unfold birthI; rw [if_neg z], rfl⟩

/-! ### The arena's and the table's small ones -/
theorem Size_ok (pa : Nat) (s : ArS) (off c : Int) (hm : (off, c) ∈ s.bl) : FnOk Tryz.prog 42 #[.pointer (some ⟨pa, 0, none⟩), .int .i64 off] [arenaH pa s] (fun v L => v = .tuple #[.int .i64 c, .int .i64 0] ∧ L = [arenaH pa s]) := by
  refine fn_intro en42 Tryz.func42 rfl rfl rfl fun Fr w0 => t_nm ?_
  refine arena_open fun x hx => ?_
  refine t_norm fun M hM => ?_
  simp only [List.cons_append, List.nil_append] at hM
  subst M
  obtain ⟨hb1, hb2, hlk⟩ := chain_lk hx.1.chain hm
  refine sr <| asg rfl rfl <| asg rfl rfl <| lz <| mv rfl rfl <| l_q rfl (q_nilCheck rfl) <| l_q rfl (qfa 5 rfl yU139 rfl rfl yS136) <| l_q rfl (qld rfl yA136) ?_
  refine mv rfl rfl ?_
  apply l_q rfl
  · refine QV.to (v' := .tuple #[.int .i64 c, .bool true]) (q_lookup2 keyInt rfl rfl Tryz.underlying136 Tryz.underlying3 yZ3 (by exact tk)) (by rw [hlk]; rfl)
  refine mv rfl rfl <| l_q rfl (q_extractL rfl ga) ?_
  refine l_q rfl (q_extractL rfl ga) ?_
  refine asg rfl rfl <| asg rfl rfl <| lc <| t_seq <| sr <| mv rfl rfl <| l_q rfl (q_un rfl (u_not ·)) <| lc <| t_if rfl (fun z => ?_) fun z => ?_
  · cases z
  · refine t_skip <| nz <| mv rfl rfl <| asg rfl rfl <| asg rfl rfl <| lc <| rt ?_
    apply f_ret (.inl rfl) ([arenaH pa s])
    · apply res2 rfl
      · exact .tmp rfl
      · exact .tmp rfl
    · exact ⟨rfl, rfl⟩
    · refine arena_close hx ?_; dsimp only [arP]; (exact en)
theorem TOff_ok (pa : Nat) (l : Lay) (off : Int) : FnOk Tryz.prog 14 #[.agg #[.pointer (some ⟨pa, 0, none⟩), .int .i64 l.key, .int .i64 l.elem, .int .i64 l.ka, .int .i64 l.ea, .int .i64 l.cap, .int .i64 l.eo, .int .i64 l.bo, .int .i64 l.slot, .int .i64 l.group, .int .i64 off]] [] (fun v L => v = .int .i64 off ∧ L = []) := by
  refine fn_intro en14 Tryz.func14 rfl rfl rfl fun Fr w0 => t_nm ?_
  refine sr <| o_boxA rfl rfl fun b1 => asg rfl rfl <| lz <| l_q rfl (qfa 10 rfl yU32 rfl rfl yS3) <| l_q rfl (qld rfl yA3) ?_
  exact asg rfl rfl <| lc <| rt <| fr1 rfl ([]) (.tmp rfl) ⟨rfl, rfl⟩
theorem TArena_ok (pa : Nat) (l : Lay) (off : Int) : FnOk Tryz.prog 67 #[.agg #[.pointer (some ⟨pa, 0, none⟩), .int .i64 l.key, .int .i64 l.elem, .int .i64 l.ka, .int .i64 l.ea, .int .i64 l.cap, .int .i64 l.eo, .int .i64 l.bo, .int .i64 l.slot, .int .i64 l.group, .int .i64 off]] [] (fun v L => v = .pointer (some ⟨pa, 0, none⟩) ∧ L = []) := by
  refine fn_intro en67 Tryz.func67 rfl rfl rfl fun Fr w0 => t_nm ?_
  refine sr <| o_boxA rfl rfl fun b1 => asg rfl rfl <| lz <| l_q rfl (qfa 0 rfl yU32 rfl rfl yS27) <| l_q rfl (qld rfl yA27) ?_
  exact asg rfl rfl <| lc <| rt <| fr1 rfl ([]) (.tmp rfl) ⟨rfl, rfl⟩
theorem TLayout_ok (pa : Nat) (l : Lay) (off : Int) : FnOk Tryz.prog 68 #[.agg #[.pointer (some ⟨pa, 0, none⟩), .int .i64 l.key, .int .i64 l.elem, .int .i64 l.ka, .int .i64 l.ea, .int .i64 l.cap, .int .i64 l.eo, .int .i64 l.bo, .int .i64 l.slot, .int .i64 l.group, .int .i64 off]] [] (fun v L => v = .agg l.cells ∧ L = []) := by
  refine fn_intro en68 Tryz.func68 rfl rfl rfl fun Fr w0 => t_nm ?_
  refine sr <| o_boxA rfl rfl fun b1 => o_allocA rfl yZ30 fun b2 => lz <| l_q rfl (qfa 1 rfl yU32 rfl rfl yS30) <| l_q rfl (qlda rfl yA30 yS30) ?_
  refine sta rfl rfl rfl yS30 rfl rfl ?_
  refine lc <| rt ?_
  apply f_ret (.inl rfl) ([])
  · apply res1 rfl
    · apply Rv.agg rfl
      · exact tk
      · exact run_loadAll yA30 yS30 rfl
  · exact ⟨rfl, rfl⟩
  · exact en
end Go.Proofs.YtmdangoaomppdaaGreatDoor.Grow
