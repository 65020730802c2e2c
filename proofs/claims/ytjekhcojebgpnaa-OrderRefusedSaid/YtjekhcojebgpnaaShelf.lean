/- strings.Repeat and strings.Compare, by the shelf's laws. -/
import Derived.Test.YtjekhcojebgpnaaEngStr
import Derived.Test.YtjekhcojebgpnaaTypes
import Derived.Shelf.Strings.Repeat
import Derived.Shelf.Small.Strs
set_option linter.unusedVariables false
set_option linter.unusedSimpArgs false
set_option maxRecDepth 100000
namespace Go.Proofs.Ytjekhcojebgpnaa.Shelved
open Go.RowKit Go.Proofs Go.Shelf Go.Proofs.Ytjekhcojebgpnaa.Eng Go.Proofs.Ytjekhcojebgpnaa.Ty

/-- The shelf's numbers in this program. -/
def renS : Ren where
 f := fun n => match n with | 99 => 77 | 105 => 58 | 106 => 56 | 165 => 78 | 166 => 79 | 169 => 81 | 170 => 80 | 206 => 93 | 212 => 76 | 213 => 74 | 240 => 94 | 241 => 95 | 263 => 91 | 264 => 92 | 265 => 90 | 276 => 98 | 277 => 99 | _ => 0
 t := fun n => match n with | 0 => 0 | 3 => 3 | 4 => 4 | 5 => 5 | 9 => 9 | 20 => 20 | 37 => 63 | 46 => 131 | 51 => 153 | 53 => 91 | 70 => 141 | 72 => 143 | 75 => 145 | 76 => 146 | 80 => 148 | 109 => 139 | 127 => 158 | 146 => 154 | 148 => 156 | 164 => 160 | _ => 0
 g := fun _ => 0
theorem laysR : Lays.n105 Try.prog renS where
 mixed := by kernel_rfl
 f99 := by kernel_rfl
 f105 := by kernel_rfl
 f165 := by kernel_rfl
 f166 := by kernel_rfl
 f169 := by kernel_rfl
 f170 := by kernel_rfl
 f206 := by kernel_rfl
 f212 := by kernel_rfl
 f240 := by kernel_rfl
 f241 := by kernel_rfl
 f263 := by kernel_rfl
 f264 := by kernel_rfl
 f276 := by kernel_rfl
 f277 := by kernel_rfl
 t0 := by kernel_rfl
 a0 := fun w => by kernel_rfl
 z0 := fun w => by kernel_rfl
 v0 := fun w => by kernel_rfl
 t3 := by kernel_rfl
 a3 := fun w => by kernel_rfl
 z3 := fun w => by kernel_rfl
 v3 := fun w => by kernel_rfl
 t4 := by kernel_rfl
 a4 := fun w => by kernel_rfl
 z4 := fun w => by kernel_rfl
 v4 := fun w => by kernel_rfl
 t5 := by kernel_rfl
 a5 := fun w => by kernel_rfl
 z5 := fun w => by kernel_rfl
 v5 := fun w => by kernel_rfl
 t9 := by kernel_rfl
 a9 := fun w => by kernel_rfl
 z9 := fun w => by kernel_rfl
 v9 := fun w => by kernel_rfl
 t20 := by kernel_rfl
 a20 := fun w => by kernel_rfl
 z20 := fun w => by kernel_rfl
 v20 := fun w => by kernel_rfl
 t37 := by kernel_rfl
 a37 := fun w => by kernel_rfl
 z37 := fun w => by kernel_rfl
 v37 := fun w => by kernel_rfl
 t46 := by kernel_rfl
 a46 := fun w => by kernel_rfl
 z46 := fun w => by kernel_rfl
 v46 := fun w => by kernel_rfl
 t51 := by kernel_rfl
 a51 := fun w => by kernel_rfl
 z51 := fun w => by kernel_rfl
 v51 := fun w => by kernel_rfl
 t53 := by kernel_rfl
 a53 := fun w => by kernel_rfl
 z53 := fun w => by kernel_rfl
 v53 := fun w => by kernel_rfl
 t70 := by kernel_rfl
 a70 := fun w => by kernel_rfl
 z70 := fun w => by kernel_rfl
 v70 := fun w => by kernel_rfl
 t72 := by kernel_rfl
 a72 := fun w => by kernel_rfl
 z72 := fun w => by kernel_rfl
 v72 := fun w => by kernel_rfl
 t75 := by kernel_rfl
 a75 := fun w => by kernel_rfl
 z75 := fun w => by kernel_rfl
 v75 := fun w => by kernel_rfl
 t76 := by kernel_rfl
 a76 := fun w => by kernel_rfl
 z76 := fun w => by kernel_rfl
 v76 := fun w => by kernel_rfl
 t109 := by kernel_rfl
 a109 := fun w => by kernel_rfl
 z109 := fun w => by kernel_rfl
 v109 := fun w => by kernel_rfl
 t127 := by kernel_rfl
 a127 := fun w => by kernel_rfl
 z127 := fun w => by kernel_rfl
 v127 := fun w => by kernel_rfl
 t146 := by kernel_rfl
 a146 := fun w => by kernel_rfl
 z146 := fun w => by kernel_rfl
 v146 := fun w => by kernel_rfl
 t148 := by kernel_rfl
 a148 := fun w => by kernel_rfl
 z148 := fun w => by kernel_rfl
 v148 := fun w => by kernel_rfl
 t164 := by kernel_rfl
 a164 := fun w => by kernel_rfl
 z164 := fun w => by kernel_rfl
 v164 := fun w => by kernel_rfl
theorem laysC : Lays.n106 Try.prog renS where
 mixed := by kernel_rfl
 f106 := by kernel_rfl
 f213 := by kernel_rfl
 f265 := by kernel_rfl
 t3 := by kernel_rfl
 a3 := fun w => by kernel_rfl
 z3 := fun w => by kernel_rfl
 v3 := fun w => by kernel_rfl
 t9 := by kernel_rfl
 a9 := fun w => by kernel_rfl
 z9 := fun w => by kernel_rfl
 v9 := fun w => by kernel_rfl
theorem extraR : Builder.Extra Try.prog renS where
 sizeBuilder := by kernel_rfl
 liesBuilder := by kernel_rfl
 t5 := by kernel_rfl
 a5 := fun w => by kernel_rfl
 z5 := fun w => by kernel_rfl
 v5 := fun w => by kernel_rfl
 infoByte := by kernel_rfl
 cellsByte := by kernel_rfl
 sizeByte := by kernel_rfl
 neB5 := by decide
/-- A contract of a function that turns nothing old. -/
theorem fn_of_below {P : Program} {f : FuncId} {args : Array Value} {v0 : Value} (hen : ∀ args w, (callFunc f args).run P w = .ok (.enter f args) w) (h : ∀ w, Calls P f args w fun e w' => e = .returned v0 ∧ Below w.heap.size w w') : FnOk P f args [] fun v L => v = v0 ∧ L = [] :=
 ⟨hen, fun Fr w0 w hs he => callsIn_wide.2 ((h w).mono fun e w' ⟨h1, h2⟩ => ⟨v0, [], h1, ⟨rfl, rfl⟩, by
  obtain ⟨f, hi, hf⟩ := hs
  exact ⟨f, fun b o e => by
   have := hi b o e
   rw [h2.block b (Array.getElem?_eq_some_iff.1 this).1]; exact this, hf⟩, he.trans ⟨h2.os, h2.tape, h2.output, h2.size⟩⟩)⟩
/-- n copies of a string. -/
def copies (s : ByteArray) (n : Nat) : ByteArray := ⟨(Lib.repeatL s.data.toList n).toArray⟩
theorem Repeat_ok (s : ByteArray) (n : Nat) (hn : n ≤ 1000000) (hs : s.size ≤ 1000000) : FnOk Try.prog 58 #[.string s, .int .i64 n] [] (fun v L => v = .string (copies s n) ∧ L = []) :=
 fn_of_below (enters_of laysR.f105 (by kernel_rfl) rfl) fun w => Any.strings_Repeat laysR extraR s n w (by omega) (by have := Nat.mul_le_mul hs hn; omega)
theorem Compare_ok (a b : ByteArray) : FnOk Try.prog 56 #[.string a, .string b] [] (fun v L => v = .int .i64 (Lib.compareBytes a.data.toList b.data.toList) ∧ L = []) :=
 fn_of_below (enters_of laysC.f106 (by kernel_rfl) rfl) fun w => (Any.strings_Compare laysC a b w).mono fun e w' ⟨h1, h2⟩ => ⟨h1, h2 ▸ Below.refl _ _⟩
end Go.Proofs.Ytjekhcojebgpnaa.Shelved
