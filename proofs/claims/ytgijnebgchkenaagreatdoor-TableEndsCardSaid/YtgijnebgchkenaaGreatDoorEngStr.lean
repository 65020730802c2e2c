/- The logic's rules for strings: slices of them, bytes out of them and back. No program. -/
import Derived.Test.YtgijnebgchkenaaGreatDoorEngSlice
import Derived.Laws.IdiomStrings
import Derived.Laws.Strings2
set_option linter.unusedVariables false
set_option linter.unusedSimpArgs false
namespace Go.Proofs.YtgijnebgchkenaaGreatDoor.Eng
open Go.RowKit

/-- A string's bytes as cells. -/
def bytesV (s : ByteArray) : List Value := s.data.toList.map fun b => .int .u8 (b.toNat : Int)
theorem bytesV_len (s : ByteArray) : (bytesV s).length = s.size := by simp [bytesV]
theorem bytesV_get {s : ByteArray} {i : Nat} (h : i < s.size) : (bytesV s)[i]? = some (.int .u8 ((s[i]'h).toNat : Int)) := by
  have h' : i < s.data.toList.length := by simpa using h
  simp only [bytesV, List.getElem?_map, List.getElem?_eq_getElem h', Option.map_some]
  rfl
theorem bytesV_one (s : ByteArray) : ∀ v ∈ bytesV s, v.oneCell' = true := fun v hv => by
  simp only [bytesV, List.mem_map] at hv; obtain ⟨b, _, rfl⟩ := hv; rfl

/-- A slice that holds a string's bytes, to be read. -/
def byteS (v : Value) (s : ByteArray) : HP := fun h => ∃ b cap cs e fr, v = .slice (some ⟨b, 0, none⟩) s.size cap ∧ s.size ≤ cap ∧ cs.toList.take s.size = bytesV s ∧ h = Part.one b (.cells cs e fr)
theorem byteS_open {v : Value} {s : ByteArray} {L : List HP} {w : World} (h : Sat (stars (byteS v s :: L)) w) :
    ∃ b cap cs e fr, v = .slice (some ⟨b, 0, none⟩) s.size cap ∧ s.size ≤ cap ∧ cs.toList.take s.size = bytesV s ∧ Sat (stars (pt b (.cells cs e fr) :: L)) w := by
  obtain ⟨_, hi, f, g0, ⟨b, cap, cs, e, fr, hv, h1, h2, rfl⟩, k, d, rfl⟩ := h
  exact ⟨b, cap, cs, e, fr, hv, h1, h2, _, hi, _, g0, rfl, k, d, rfl⟩

section
variable {c : Cx} {fin : Exit → Act → World → Prop} {ds : List Deferred} {E : Env} {L : List HP} {ks : List KI} {ops : Array Oper} {rest : List Oper}
variable {d : Option Tmp} {ty : TypeId} {pos : String} {af : Array Edge} {gd : Option (Nat × Bool)}
theorem reads_byteS {b cap n : Nat} {s : ByteArray} {M : List HP} (k : Nat) (ht : Take (byteS (.slice (some ⟨b, 0, none⟩) n cap) s) L M) : Reads L ⟨b, 0, none⟩ ((bytesV s).take k) := fun w hs j v hv => by
  obtain ⟨b', cap', cs, e, fr, hv', _, h2, hsat⟩ := byteS_open (hs.take ht)
  simp only [Value.slice.injEq, Option.some.injEq, Addr.mk.injEq] at hv'
  obtain ⟨⟨rfl, _⟩, _, _⟩ := hv'
  have hg := hsat.block (b := b) .here
  rw [add_none]
  rw [List.getElem?_take] at hv
  split at hv
  · have := own_at h2 hv
    rw [Nat.zero_add]
    simp [World.cell?, hg, this]
  · cases hv
/-- Bytes made a string. -/
theorem q_bytesStr {t t2 e : TypeId} {x : Operand} {a0 : Addr} {n cap : Nat} (s : ByteArray) (hx : ev E x = some (.slice (some a0) n cap)) (ht : c.P.underlying t = some (.slice e)) (he : c.P.underlying e = some (.int .u8)) (ht2 : c.P.underlying t2 = some .string)
    (hn : n = s.size) (hr : Reads L a0 (bytesV s)) : QV c ds E L ⟨d, .convert t t2 x, ty, pos, af, gd⟩ (.string s) :=
  ⟨by intro k; simp, fun a w hs => by
    have := run_convert_bytes_back (P := c.P) w t t2 e a0 cap s.data.toList ht he ht2 (fun j hj => by
      refine hr w hs.sat j _ ?_
      simp [bytesV, List.getElem?_eq_getElem hj])
    have e1 : s.data.toList.length = n := by rw [hn]; simp
    rw [e1] at this
    simp [execOp, hs.ev hx, this, Result.andThen]⟩
/-- A string's bytes in a new row. -/
theorem o_strBytes {t t2 e : TypeId} {x : Operand} {s : ByteArray} (hd : okDst d c.N = true) (hx : ev E x = some (.string s)) (ht : c.P.underlying t = some .string) (ht2 : c.P.underlying t2 = some (.slice e)) (he : c.P.underlying e = some (.int .u8))
    (k : ∀ b cap, TL c fin ds (upd d (.slice (some ⟨b, 0, none⟩) s.size cap) E) (byteS (.slice (some ⟨b, 0, none⟩) s.size cap) s :: L) ops rest ks) : TL c fin ds E L ops (⟨d, .convert t t2 x, ty, pos, af, none⟩ :: rest) ks :=
  l_op (X := Nat × Nat) hd (by intro k; simp) (fun x => .slice (some ⟨x.1, 0, none⟩) s.size x.2) (fun x => byteS (.slice (some ⟨x.1, 0, none⟩) s.size x.2) s :: L) (fun a w hs => by
    have hr := run_bytes_of_string (P := c.P) w t t2 e s ht ht2 he
    have hge := grownCap_ge w s.size 0 e
    refine ⟨(w.heap.size, grownCap w s.size 0 e), _, by simp [execOp, hs.ev hx, hr, Result.andThen]; rfl, ?_, (Ext.refl w).drew.alloc _⟩
    have h2 := Sat.alloc (A := stars L) hs.sat.drew (.cells (bytesRow s (grownCap w s.size 0 e)) e ((bytesRow s (grownCap w s.size 0 e)).size, (bytesRow s (grownCap w s.size 0 e)).size + 1))
    obtain ⟨_, hi, f, g0, rfl, kk, dd, rfl⟩ := h2
    refine ⟨_, hi, _, g0, ⟨_, _, _, _, _, rfl, hge, ?_, rfl⟩, kk, dd, rfl⟩
    simp only [bytesRow, Array.toList_append, Array.toList_map]
    rw [List.take_append_of_le_length (by simp), List.take_of_length_le (by simp)]
    rfl) fun x => k x.1 x.2

theorem q_sliceS_lh {t : TypeId} {x y z : Operand} {s : ByteArray} {kd kd' : IntKind} {l h : Int} (hx : ev E x = some (.string s)) (hy : ev E y = some (.int kd l)) (hz : ev E z = some (.int kd' h)) (hu : c.P.underlying t = some .string) (hl : 0 ≤ l ∧ l ≤ h ∧ h ≤ (s.size : Int)) :
    QV c ds E L ⟨d, .slice t x (some y) (some z) none, ty, pos, af, gd⟩ (.string (s.extract l.toNat h.toNat)) :=
  ⟨by intro k; simp, fun a w hs => by
    have := run_slice_string (P := c.P) w t s kd kd' l h hu hl.1 hl.2.1 hl.2.2
    simp [execOp, Instr.sliceAt, run_underlying hu, hs.ev hx, hs.ev hy, hs.ev hz, this, Result.andThen]⟩
theorem run_sliceS {P : Program} {w : World} {t : TypeId} {s : ByteArray} {l h : Nat} {lo hi : Option Value} (hu : P.underlying t = some .string)
    (hlo : (lo = none ∧ l = 0) ∨ ∃ k, lo = some (.int k (l : Int))) (hhi : (hi = none ∧ h = s.size) ∨ ∃ k, hi = some (.int k (h : Int))) (hb : l ≤ h) (hc : h ≤ s.size) :
    (Instr.slice t (.string s) lo hi none).run P w = .ok (.string (s.extract l h)) w := by
  have h1 : (0 : Int) ≤ (l : Int) ∧ (l : Int) ≤ (h : Int) := by omega
  have h2 : (0 : Int) ≤ (h : Int) ∧ (h : Int) ≤ (s.size : Int) := by omega
  unfold Instr.slice
  simp only [Sem.run_bind, run_underlying hu, Result.andThen]
  rcases hlo with ⟨rfl, rfl⟩ | ⟨k, rfl⟩ <;> rcases hhi with ⟨rfl, rfl⟩ | ⟨k', rfl⟩
  · simp [Instr.sliceBounds, Result.andThen]
  · simp [Instr.sliceBounds, Instr.sliceBound, asIntOf, Result.andThen, hc]
  · simp [Instr.sliceBounds, Instr.sliceBound, asIntOf, Result.andThen, hb]
  · simp [Instr.sliceBounds, Instr.sliceBound, asIntOf, Result.andThen, hc, hb]
theorem q_sliceS_l {t : TypeId} {x y : Operand} {s : ByteArray} {kd : IntKind} {l : Int} (hx : ev E x = some (.string s)) (hy : ev E y = some (.int kd l)) (hu : c.P.underlying t = some .string) (hl : 0 ≤ l ∧ l ≤ (s.size : Int)) :
    QV c ds E L ⟨d, .slice t x (some y) none none, ty, pos, af, gd⟩ (.string (s.extract l.toNat s.size)) :=
  ⟨by intro k; simp, fun a w hs => by
    obtain ⟨m, rfl⟩ := Int.eq_ofNat_of_zero_le hl.1
    have := run_sliceS (P := c.P) (w := w) (s := s) (l := m) (h := s.size) (lo := some (.int kd m)) (hi := none) hu (.inr ⟨kd, rfl⟩) (.inl ⟨rfl, rfl⟩) (by omega) (by omega)
    simp [execOp, Instr.sliceAt, run_underlying hu, hs.ev hx, hs.ev hy, this, Result.andThen]⟩
theorem q_sliceS_h {t : TypeId} {x y : Operand} {s : ByteArray} {kd : IntKind} {h : Int} (hx : ev E x = some (.string s)) (hy : ev E y = some (.int kd h)) (hu : c.P.underlying t = some .string) (hl : 0 ≤ h ∧ h ≤ (s.size : Int)) :
    QV c ds E L ⟨d, .slice t x none (some y) none, ty, pos, af, gd⟩ (.string (s.extract 0 h.toNat)) :=
  ⟨by intro k; simp, fun a w hs => by
    obtain ⟨m, rfl⟩ := Int.eq_ofNat_of_zero_le hl.1
    have := run_sliceS (P := c.P) (w := w) (s := s) (l := 0) (h := m) (lo := none) (hi := some (.int kd m)) hu (.inl ⟨rfl, rfl⟩) (.inr ⟨kd, rfl⟩) (by omega) (by omega)
    simp [execOp, Instr.sliceAt, run_underlying hu, hs.ev hx, hs.ev hy, this, Result.andThen]⟩
end
end Go.Proofs.YtgijnebgchkenaaGreatDoor.Eng
