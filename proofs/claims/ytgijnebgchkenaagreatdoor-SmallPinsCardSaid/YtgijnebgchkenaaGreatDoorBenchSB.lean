/- The bench of larderlaw11: a small map beside eight cells of its own. No program's code. -/
import Derived.Test.YtgijnebgchkenaaGreatDoorCells
import Derived.Test.YtgijnebgchkenaaGreatDoorSmallP
import Derived.Test.YtgijnebgchkenaaGreatDoorSmallN
import Derived.Test.YtgijnebgchkenaaGreatDoorOver
set_option linter.unusedVariables false
set_option linter.unusedSimpArgs false
set_option maxRecDepth 100000
namespace Go.Proofs.YtgijnebgchkenaaGreatDoor.BenchS
open Go.RowKit Go.Proofs Go.Proofs.YtgijnebgchkenaaGreatDoor.Eng Go.Proofs.YtgijnebgchkenaaGreatDoor.Ty Go.Proofs.YtgijnebgchkenaaGreatDoor.Bits Go.Proofs.YtgijnebgchkenaaGreatDoor.Mem Go.Proofs.YtgijnebgchkenaaGreatDoor.Layout Go.Proofs.YtgijnebgchkenaaGreatDoor.GroupB Go.Proofs.YtgijnebgchkenaaGreatDoor.Group Go.Proofs.YtgijnebgchkenaaGreatDoor.TableB Go.Proofs.YtgijnebgchkenaaGreatDoor.TableI Go.Proofs.YtgijnebgchkenaaGreatDoor.CtrlB Go.Proofs.YtgijnebgchkenaaGreatDoor.Small Go.Proofs.YtgijnebgchkenaaGreatDoor.Arena Go.Proofs.YtgijnebgchkenaaGreatDoor.Cells

abbrev bsc (pa po : Nat) (l : Lay) (off : Nat) (vf vo : Value) (sd : Int) (vt : Value) (cs : Nat → Cell) (ad : Nat) : List Value :=
  [.pointer (some ⟨pa, 0, none⟩), .int .i64 l.key, .int .i64 l.elem, .int .i64 l.ka, .int .i64 l.ea, .int .i64 l.cap, .int .i64 l.eo, .int .i64 l.bo, .int .i64 l.slot, .int .i64 l.group, .pointer (some ⟨po, 0, none⟩), .pointer (some ⟨pa, 0, none⟩), .int .i64 l.key, .int .i64 l.elem, .int .i64 l.ka, .int .i64 l.ea, .int .i64 l.cap, .int .i64 l.eo, .int .i64 l.bo, .int .i64 l.slot, .int .i64 l.group, .int .i64 (off : Nat), vf, vo, .int .u64 sd, vt,
   .int .i64 (cs 0).kind, .int .i64 (cs 0).tagI, .string (cs 0).keyS, .string (cs 0).elemS, .int .i64 (cs 0).birthI,
   .int .i64 (cs 1).kind, .int .i64 (cs 1).tagI, .string (cs 1).keyS, .string (cs 1).elemS, .int .i64 (cs 1).birthI,
   .int .i64 (cs 2).kind, .int .i64 (cs 2).tagI, .string (cs 2).keyS, .string (cs 2).elemS, .int .i64 (cs 2).birthI,
   .int .i64 (cs 3).kind, .int .i64 (cs 3).tagI, .string (cs 3).keyS, .string (cs 3).elemS, .int .i64 (cs 3).birthI,
   .int .i64 (cs 4).kind, .int .i64 (cs 4).tagI, .string (cs 4).keyS, .string (cs 4).elemS, .int .i64 (cs 4).birthI,
   .int .i64 (cs 5).kind, .int .i64 (cs 5).tagI, .string (cs 5).keyS, .string (cs 5).elemS, .int .i64 (cs 5).birthI,
   .int .i64 (cs 6).kind, .int .i64 (cs 6).tagI, .string (cs 6).keyS, .string (cs 6).elemS, .int .i64 (cs 6).birthI,
   .int .i64 (cs 7).kind, .int .i64 (cs 7).tagI, .string (cs 7).keyS, .string (cs 7).elemS, .int .i64 (cs 7).birthI,
   .int .i64 (ad : Nat)]
section
variable {pa po : Nat} {l : Lay} {off : Nat} {vf vo : Value} {sd : Int} {vt : Value} {cs : Nat → Cell} {ad : Nat}
theorem bsc_get {i : Int} {j : Nat} (hi : i = (j : Nat)) (hj : j < 8) {m : Nat} {v : Value} (h : (cellV (cs j))[m]? = some v) : (bsc pa po l off vf vo sd vt cs ad).toArray[26 + i.toNat * 5 + m]? = some v := by
  subst hi
  rw [Int.toNat_natCast]
  have hm : m < 5 := by have := (List.getElem?_eq_some_iff.1 h).1; simpa [cellV] using this
  have hm' : m = 0 ∨ m = 1 ∨ m = 2 ∨ m = 3 ∨ m = 4 := by omega
  rcases lt8 hj with rfl | rfl | rfl | rfl | rfl | rfl | rfl | rfl <;> rcases hm' with rfl | rfl | rfl | rfl | rfl <;> exact h
theorem bsc_part {i : Int} {j : Nat} (hi : i = (j : Nat)) (hj : j < 8) : (bsc pa po l off vf vo sd vt cs ad).toArray.extract (26 + i.toNat * 5) (26 + i.toNat * 5 + 5) = #[.int .i64 (cs j).kind, .int .i64 (cs j).tagI, .string (cs j).keyS, .string (cs j).elemS, .int .i64 (cs j).birthI] := by
  subst hi
  rw [Int.toNat_natCast]
  rcases lt8 hj with rfl | rfl | rfl | rfl | rfl | rfl | rfl | rfl <;> rfl
theorem bsc_put {i : Int} {j : Nat} (hi : i = (j : Nat)) (hj : j < 8) (c : Cell) : setCells (bsc pa po l off vf vo sd vt cs ad).toArray (26 + i.toNat * 5) (cellV c) = (bsc pa po l off vf vo sd vt (updC cs j c) ad).toArray := by
  subst hi
  rw [Int.toNat_natCast]
  rcases lt8 hj with rfl | rfl | rfl | rfl | rfl | rfl | rfl | rfl <;> simp only [setCells, cellV, bsc, List.setIfInBounds_toArray, List.set, updC, Nat.zero_mul, Nat.add_zero, Nat.reduceMul, Nat.reduceAdd, Nat.reduceEqDiff, if_true, if_false, ↓reduceIte]
theorem bsc_elem {i : Int} {j : Nat} (hi : i = (j : Nat)) (hj : j < 8) {t : Int} {k e e' : ByteArray} {b : Int} (hc : cs j = .full t k e b) :
    (bsc pa po l off vf vo sd vt cs ad).toArray.setIfInBounds (26 + i.toNat * 5 + 3) (.string e') = (bsc pa po l off vf vo sd vt (updC cs j (.full t k e' b)) ad).toArray := by
  have h := bsc_put (pa := pa) (po := po) (l := l) (off := off) (vf := vf) (vo := vo) (sd := sd) (vt := vt) (cs := cs) (ad := ad) hi hj (.full t k e' b)
  rw [← h]
  subst hi
  rw [Int.toNat_natCast]
  rcases lt8 hj with rfl | rfl | rfl | rfl | rfl | rfl | rfl | rfl <;> simp only [setCells, cellV, bsc, hc, List.setIfInBounds_toArray, List.set, Cell.kind, Cell.tagI, Cell.keyS, Cell.birthI, Nat.zero_mul, Nat.add_zero, Nat.reduceMul, Nat.reduceAdd] <;> rfl
theorem bsc_cells : (bsc pa po l off vf vo sd vt cs ad).toArray.extract 26 (26 + 40) = (arr8 cs).toArray := by
  kernel_rfl
theorem bsc_add : (bsc pa po l off vf vo sd vt cs ad).toArray.setIfInBounds 66 (.int .i64 ((ad : Nat) + 1)) = (bsc pa po l off vf vo sd vt cs (ad + 1)).toArray := by
  simp only [bsc, List.setIfInBounds_toArray, List.set]; rfl
theorem bsc_in {i : Int} {j n : Nat} (hi : i = (j : Nat)) (hj : j < 8) (hn : n ≤ 5) : Nat.ble (26 + i.toNat * 5 + n) (bsc pa po l off vf vo sd vt cs ad).toArray.size = true := Nat.ble_eq_true_of_le (by
  subst hi; rw [Int.toNat_natCast]; show _ ≤ 67; omega)
end

/-- Is the key in the slot? -/
def keyP (cs : Nat → Cell) (key : ByteArray) (i : Nat) : Bool := match cs i with
  | .full _ k _ _ => decide (k = key)
  | _ => false
/-- The first from i on. -/
def pf (p : Nat → Bool) (i : Nat) : Nat := firstF fun j => p j && decide (i ≤ j)
theorem firstF_no {s : Nat → Bool} (h : ∀ j, j < 8 → s j = false) : firstF s = 8 := by
  have h1 := firstF_le s
  rcases Nat.lt_or_ge (firstF s) 8 with q | q
  · have := firstF_lt q; rw [h _ q] at this; cases this
  · omega
theorem firstF_congr {s t : Nat → Bool} (h : ∀ j, j < 8 → s j = t j) : firstF s = firstF t := by unfold firstF; rw [slotsF_congr h]
theorem firstF_eq2 {s : Nat → Bool} {j : Nat} (h : s j = true) (hj : j < 8) : firstF s < 8 := by
  rcases Nat.lt_or_ge (firstF s) 8 with q | q
  · exact q
  · have := firstF_least (s := s) (j := j) (by omega); rw [h] at this; cases this
theorem pf_8 (p : Nat → Bool) : pf p 8 = 8 := firstF_no fun j hj => by simp; omega
theorem pf_0 (p : Nat → Bool) : pf p 0 = firstF p := firstF_congr fun j _ => by simp
theorem pf_yes {p : Nat → Bool} {i : Nat} (hi : i < 8) (h : p i = true) : pf p i = i := firstF_eq hi (by simp [h]) fun j hj => by simp; omega
theorem pf_no {p : Nat → Bool} {i : Nat} (h : p i = false) : pf p i = pf p (i + 1) := firstF_congr fun j _ => by
  by_cases q : j = i
  · subst q; simp [h]
  · have : decide (i ≤ j) = decide (i + 1 ≤ j) := by simp; omega
    rw [this]
def atV (n : Nat) : Int := if n = 8 then -1 else (n : Nat)
theorem atV_lt {n : Nat} (h : n < 8) : atV n = (n : Nat) := by unfold atV; rw [if_neg (by omega)]
theorem key_iff {cs : Nat → Cell} {key : ByteArray} {i : Nat} : keyP cs key i = true ↔ (cs i).kind = 2 ∧ (cs i).keyS = key := by
  unfold keyP; cases cs i <;> simp [Cell.kind, Cell.keyS]
theorem vac_no {cs : Nat → Cell} {i : Nat} : vacS cs i = true ↔ ¬ (cs i).kind = 2 := by
  unfold vacS; cases cs i <;> simp [Cell.kind]

/-- What holds of the bench between the steps. -/
structure SBH (kk pp nn : Int) (tg : ByteArray → Nat) (S : Sm) : Prop where
  kd : S.kind = kk
  pn : S.pins = pp
  nx : S.next = nn
  used : S.used = ((cnt isFull S.cells 8 : Nat) : Int)
  nodel : ∀ i, i < 8 → S.cells i ≠ .deleted
  tag : ∀ i, i < 8 → ∀ t k e b, S.cells i = .full t k e b → t = (tg k : Nat)
  uniq : ∀ i j, i < 8 → j < 8 → (S.cells i).kind = 2 → (S.cells j).kind = 2 → (S.cells i).keyS = (S.cells j).keyS → i = j
/-- .. of one that is neither pinned nor replaced. -/
abbrev SB := SBH 1 0 0
section
variable {tg : ByteArray → Nat} {S : Sm} {kk pp nn : Int}
theorem SB.new : SB tg newS := ⟨rfl, rfl, rfl, rfl, fun i _ h => (by cases h), fun i _ t k e b h => (by cases h), fun i j _ _ h => (by cases h)⟩
theorem SBH.used_le (h : SBH kk pp nn tg S) : 0 ≤ S.used ∧ S.used ≤ 8 := by have := cnt_le isFull S.cells 8; rw [h.used]; omega
theorem SBH.at (h : SBH kk pp nn tg S) (key : ByteArray) : atS S (tg key) key = firstF (keyP S.cells key) := firstF_congr fun i hi => by
  unfold hitS keyP
  cases e : S.cells i with
  | full t k e' b =>
    have := h.tag i hi t k e' b e
    by_cases q : k = key
    · subst q; simp [this]
    · simp [q]
  | _ => rfl
theorem SBH.atI (h : SBH kk pp nn tg S) (key : ByteArray) : atI S (tg key) key = atV (firstF (keyP S.cells key)) := by unfold Small.atI atV; rw [h.at]
theorem SBH.upd (h : SBH kk pp nn tg S) {i : Nat} (hi : i < 8) {c : Cell} {u : Int} (hn : c.kind = 2 → ∀ j, j < 8 → j ≠ i → (S.cells j).kind = 2 → (S.cells j).keyS ≠ c.keyS) (hc : c ≠ .deleted) (ht : ∀ t k e b, c = .full t k e b → t = (tg k : Nat)) (hu : u + (if isFull (S.cells i) then 1 else 0) = S.used + if isFull c then 1 else 0) : SBH kk pp nn tg { S with used := u, cells := updC S.cells i c } := by
  have hcn := cnt_upd (p := isFull) (cells := S.cells) (N := 8) hi c
  have := h.used
  refine ⟨h.kd, h.pn, h.nx, ?_, fun j hj => ?_, fun j hj t k e b he => ?_, fun a b ha hb h1 h2 h3 => ?_⟩
  · show u = _
    cases h1 : isFull (S.cells i) <;> cases h2 : isFull c <;> simp only [h1, h2, if_true, if_false, Bool.false_eq_true] at hcn hu ⊢ <;> omega
  · show updC _ _ _ _ ≠ _
    unfold updC; split
    · exact hc
    · exact h.nodel j hj
  · have he' : updC S.cells i c j = .full t k e b := he
    unfold updC at he'; split at he'
    · exact ht _ _ _ _ he'
    · exact h.tag j hj _ _ _ _ he'
  · have h1' : (updC S.cells i c a).kind = 2 := h1
    have h2' : (updC S.cells i c b).kind = 2 := h2
    have h3' : (updC S.cells i c a).keyS = (updC S.cells i c b).keyS := h3
    by_cases qa : a = i
    · by_cases qb : b = i
      · rw [qa, qb]
      · subst qa
        rw [updC_same] at h1' h3'; rw [updC_ne _ qb] at h2' h3'
        exact absurd h3'.symm (hn h1' b hb qb h2')
    · rw [updC_ne _ qa] at h1' h3'
      by_cases qb : b = i
      · subst qb
        rw [updC_same] at h2' h3'
        exact absurd h3' (hn h2' a ha qa h1')
      · rw [updC_ne _ qb] at h2' h3'
        exact h.uniq a b ha hb h1' h2' h3'
/-- A put, by the bench's own cells. -/
theorem SBH.put (h : SBH kk pp nn tg S) (key elem : ByteArray) (birth : Int) :
    (firstF (keyP S.cells key) < 8 ∧ ∃ e b, S.cells (firstF (keyP S.cells key)) = .full (tg key : Nat) key e b ∧ putS S (tg key) key elem birth = (1, { S with cells := updC S.cells (firstF (keyP S.cells key)) (.full (tg key : Nat) key elem b) }) ∧ SBH kk pp nn tg { S with cells := updC S.cells (firstF (keyP S.cells key)) (.full (tg key : Nat) key elem b) }) ∨
    (firstF (keyP S.cells key) = 8 ∧ firstF (vacS S.cells) = 8 ∧ putS S (tg key) key elem birth = (3, S)) ∨
    (firstF (keyP S.cells key) = 8 ∧ firstF (vacS S.cells) < 8 ∧ putS S (tg key) key elem birth = (2, { S with used := S.used + 1, cells := updC S.cells (firstF (vacS S.cells)) (.full (tg key : Nat) key elem birth) }) ∧ SBH kk pp nn tg { S with used := S.used + 1, cells := updC S.cells (firstF (vacS S.cells)) (.full (tg key : Nat) key elem birth) }) := by
  have h1 := firstF_le (keyP S.cells key)
  have h2 := firstF_le (vacS S.cells)
  rcases Nat.lt_or_ge (firstF (keyP S.cells key)) 8 with q | q
  · have h3 := firstF_lt q
    obtain ⟨e, b, hc⟩ : ∃ e b, S.cells (firstF (keyP S.cells key)) = .full (tg key : Nat) key e b := by
      obtain ⟨k1, k2⟩ := key_iff.1 h3
      cases hc : S.cells (firstF (keyP S.cells key)) with
      | full t k e b =>
        rw [hc] at k2
        obtain rfl : k = key := k2
        have := h.tag _ q _ _ _ _ hc
        exact ⟨e, b, by rw [this]⟩
      | _ => rw [hc] at k1; cases k1
    refine .inl ⟨q, e, b, hc, ?_, ?_⟩
    · unfold putS; rw [if_pos (by rw [h.at]; exact q), h.at, hc]; rfl
    · exact h.upd (u := S.used) q (fun _ j hj hne hk2 e2 => hne (h.uniq j _ hj q hk2 (key_iff.1 h3).1 (e2.trans (key_iff.1 h3).2.symm))) (by simp) (fun t k e' b' he => by cases he; rfl) (by rw [hc]; rfl)
  · rcases Nat.lt_or_ge (firstF (vacS S.cells)) 8 with r | r
    · refine .inr (.inr ⟨by omega, r, ?_, ?_⟩)
      · unfold putS; rw [if_neg (by rw [h.at]; omega), if_neg (by omega)]
      · have hv := vac_no.1 (firstF_lt r)
        have hf : isFull (S.cells (firstF (vacS S.cells))) = false := by
          cases e : isFull (S.cells (firstF (vacS S.cells))) with
          | false => rfl
          | true => exact absurd (kind_full.2 e) hv
        exact h.upd r (fun _ j hj hne hk2 e2 => absurd (firstF_eq2 (s := keyP S.cells key) (key_iff.2 ⟨hk2, e2⟩) hj) (by omega)) (by simp) (fun t k e' b' he => by cases he; rfl) (by rw [hf]; simp [isFull])
    · refine .inr (.inl ⟨by omega, by omega, ?_⟩)
      unfold putS; rw [if_neg (by rw [h.at]; omega), if_pos (by omega)]
theorem SBH.del (h : SBH kk pp nn tg S) (key : ByteArray) :
    (firstF (keyP S.cells key) < 8 ∧ delS S (tg key) key = (true, { S with used := S.used - 1, cells := updC S.cells (firstF (keyP S.cells key)) .empty }) ∧ SBH kk pp nn tg { S with used := S.used - 1, cells := updC S.cells (firstF (keyP S.cells key)) .empty }) ∨
    (firstF (keyP S.cells key) = 8 ∧ delS S (tg key) key = (false, S)) := by
  have h1 := firstF_le (keyP S.cells key)
  rcases Nat.lt_or_ge (firstF (keyP S.cells key)) 8 with q | q
  · refine .inl ⟨q, ?_, ?_⟩
    · unfold delS; rw [if_pos (by rw [h.at]; exact q), h.at]
    · exact h.upd q (fun h0 => by cases h0) (by simp) (fun t k e b he => by cases he) (by rw [kind_full.1 (key_iff.1 (firstF_lt q)).1]; simp [isFull])
  · refine .inr ⟨by omega, ?_⟩
    unfold delS; rw [if_neg (by rw [h.at]; omega)]
theorem SBH.get (h : SBH kk pp nn tg S) (key : ByteArray) : getS S (tg key) key = if firstF (keyP S.cells key) < 8 then S.cells (firstF (keyP S.cells key)) else .empty := by unfold getS; rw [h.at]
end
end Go.Proofs.YtgijnebgchkenaaGreatDoor.BenchS
