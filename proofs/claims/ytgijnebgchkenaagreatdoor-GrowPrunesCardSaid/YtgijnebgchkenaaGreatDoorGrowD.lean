/- A table's cells parted by a bit of their hashes; tables filled with either part. No program's code. -/
import Derived.Test.YtgijnebgchkenaaGreatDoorGrowB
set_option linter.unusedVariables false
set_option linter.unusedSimpArgs false
set_option maxRecDepth 100000
namespace Go.Proofs.YtgijnebgchkenaaGreatDoor.Grow
open Go.RowKit Go.Proofs Go.Proofs.YtgijnebgchkenaaGreatDoor.Eng Go.Proofs.YtgijnebgchkenaaGreatDoor.Ty Go.Proofs.YtgijnebgchkenaaGreatDoor.Bits Go.Proofs.YtgijnebgchkenaaGreatDoor.Mem Go.Proofs.YtgijnebgchkenaaGreatDoor.Search Go.Proofs.YtgijnebgchkenaaGreatDoor.Arena Go.Proofs.YtgijnebgchkenaaGreatDoor.CtrlB Go.Proofs.YtgijnebgchkenaaGreatDoor.Ctrl Go.Proofs.YtgijnebgchkenaaGreatDoor.Layout Go.Proofs.YtgijnebgchkenaaGreatDoor.GroupB Go.Proofs.YtgijnebgchkenaaGreatDoor.Group Go.Proofs.YtgijnebgchkenaaGreatDoor.Probe Go.Proofs.YtgijnebgchkenaaGreatDoor.TableB Go.Proofs.YtgijnebgchkenaaGreatDoor.TableI Go.Proofs.YtgijnebgchkenaaGreatDoor.Table Go.Proofs.YtgijnebgchkenaaGreatDoor.Bench Go.Proofs.YtgijnebgchkenaaGreatDoor.Cells Go.Proofs.YtgijnebgchkenaaGreatDoor.Refill Go.Proofs.YtgijnebgchkenaaGreatDoor.Oracle Go.Proofs.YtgijnebgchkenaaGreatDoor.Ref03

/-- The bit of a hash behind its top d bits. -/
def bitF (h d : Int) : Int := h / 2 ^ (63 - d).toNat % 2
theorem bitF_two (h d : Int) : bitF h d = 0 ∨ bitF h d = 1 := by
  unfold bitF
  omega
/-- The full cells whose keys' hashes have that bit. -/
def side (H : ByteArray → Int) (d : Int) (cs : Nat → Cell) (b : Int) (i : Nat) : Cell := if isFull (cs i) = true ∧ bitF (H (cs i).keyS) d = b then cs i else .empty
section
variable {H : ByteArray → Int} {d d0 b : Int} {cs : Nat → Cell} {n N i j : Nat} {U : Tb} {lives : List Life}
theorem side_full (h : isFull (side H d cs b i) = true) : isFull (cs i) = true ∧ bitF (H (cs i).keyS) d = b ∧ side H d cs b i = cs i := by
  unfold side at h ⊢
  split at h
  · next q => exact ⟨q.1, q.2, by rw [if_pos q]⟩
  · cases h
theorem side_at (h1 : isFull (cs i) = true) (h2 : bitF (H (cs i).keyS) d = b) : side H d cs b i = cs i := if_pos ⟨h1, h2⟩
theorem side_no (h2 : bitF (H (cs i).keyS) d ≠ b) : side H d cs b i = .empty := if_neg fun q => h2 q.2
theorem side_once (h : onceC cs N) : onceC (side H d cs b) N := fun i j hi hj h1 h2 he => by
  obtain ⟨a1, _, a3⟩ := side_full (kind_full.1 h1)
  obtain ⟨b1, _, b3⟩ := side_full (kind_full.1 h2)
  rw [a3, b3] at he
  exact h i j hi hj (kind_full.2 a1) (kind_full.2 b1) he
theorem side_cnt : ∀ N, cnt isFull (side H d cs 0) N + cnt isFull (side H d cs 1) N = cnt isFull cs N
  | 0 => rfl
  | N + 1 => by
    have ih := side_cnt N
    rw [cnt_succ, cnt_succ, cnt_succ]
    by_cases hf : isFull (cs N) = true
    · rcases bitF_two (H (cs N).keyS) d with e | e
      · rw [side_at hf e, side_no (b := 1) (by omega), if_pos hf, show isFull Cell.empty = false from rfl]; simp; omega
      · rw [side_at hf e, side_no (b := 0) (by omega), if_pos hf, show isFull Cell.empty = false from rfl]; simp; omega
    · have g : ∀ b, isFull (side H d cs b N) = false := fun b => by
        cases q : isFull (side H d cs b N) with
        | false => rfl
        | true => exact absurd (side_full q).1 hf
      rw [g, g, if_neg hf]; simp; omega
/-- No full cell between two places of one count. -/
theorem cnt_gap {p : Cell → Bool} (hjk : j ≤ N) (h : cnt p cs N = cnt p cs j) (h1 : j ≤ i) (h2 : i < N) : p (cs i) = false := by
  cases q : p (cs i) with
  | false => rfl
  | true =>
    have a := cnt_succ p cs i
    rw [if_pos q] at a
    have b1 := cnt_mono (p := p) (cs := cs) (show j ≤ i from h1)
    have b2 := cnt_mono (p := p) (cs := cs) (show i + 1 ≤ N from h2)
    omega
/-- A table filled with a row's full cells up to a place. -/
def fillT (n : Nat) (H : ByteArray → Int) (cs : Nat → Cell) (d0 : Int) : Nat → Tb
  | 0 => newT n d0
  | i + 1 => if isFull (cs i) = true then (putT n (fillT n H cs d0 i) (H (cs i).keyS) (cs i).keyS (cs i).elemS (cs i).birthI).2 else fillT n H cs d0 i
theorem fill_skip (h : ∀ i, j ≤ i → i < N → isFull (cs i) = false) : j ≤ N → fillT n H cs d0 N = fillT n H cs d0 j := by
  intro hj
  induction N with
  | zero => obtain rfl : j = 0 := by omega
            rfl
  | succ N ih =>
    by_cases e : j = N + 1
    · rw [e]
    · show (if isFull (cs N) = true then _ else _) = _
      rw [h N (by omega) (by omega), if_neg (by simp)]
      exact ih (fun i h1 h2 => h i h1 (by omega)) (by omega)
/-- The table U holds the full cells of that bit ahead of place j. -/
structure SS (H : ByteArray → Int) (d d0 : Int) (cs : Nat → Cell) (N n : Nat) (b : Int) (U : Tb) (lives : List Life) (j : Nat) : Prop where
  rf : RF H (side H d cs b) N n U lives (cnt isFull (side H d cs b) j)
  fill : U = fillT n H (side H d cs b) d0 j
  keeps : Keeps (newT n d0) U
theorem SS.new (hn : 0 < n) : SS H d d0 cs N n b (newT n d0) [] 0 := ⟨RF.new hn d0, rfl, Keeps.refl _⟩
theorem SS.to (h : SS H d d0 cs N n b U lives j) {k : Nat} (hjk : j ≤ k) (hc : cnt isFull cs k = cnt isFull cs j) : SS H d d0 cs N n b U lives k := by
  have hno : ∀ i, j ≤ i → i < k → isFull (side H d cs b i) = false := fun i h1 h2 => by
    cases q : isFull (side H d cs b i) with
    | false => rfl
    | true => have := (side_full q).1; rw [cnt_gap hjk hc h1 h2] at this; cases this
  have e : ∀ k, j ≤ k → (∀ i, j ≤ i → i < k → isFull (side H d cs b i) = false) → cnt isFull (side H d cs b) k = cnt isFull (side H d cs b) j := fun k => by
    induction k with
    | zero => intro h1 _; obtain rfl : j = 0 := by omega
              rfl
    | succ k ih =>
      intro h1 h2
      by_cases q : j = k + 1
      · rw [q]
      · rw [cnt_succ, h2 k (by omega) (by omega), ih (by omega) fun i a b => h2 i a (by omega)]; rfl
  exact ⟨by rw [e k hjk hno]; exact h.rf, by rw [fill_skip hno hjk]; exact h.fill, h.keeps⟩
theorem cnt_le_at {p : Cell → Bool} (h : cnt p cs j = cnt p cs i) (hf : p (cs i) = true) : j ≤ i := by
  rcases Nat.lt_or_ge i j with q | q
  · have a := cnt_succ p cs i
    rw [if_pos hf] at a
    have := cnt_mono (p := p) (cs := cs) (show i + 1 ≤ j from q)
    omega
  · exact q
theorem SS.put (h : SS H d d0 cs N n b U lives j) (hj : cnt isFull cs j = cnt isFull cs i) (hi : i < N) (hf : isFull (cs i) = true) (hb : bitF (H (cs i).keyS) d = b) (hroom : cnt isFull (side H d cs b) N ≤ 7 * n) (ho : onceC cs N) {e : Nat} (hn : n = 2 ^ e) :
    ∃ v, SS H d d0 cs N n b (putT n U (H (cs i).keyS) (cs i).keyS (cs i).elemS (cs i).birthI).2 (lives ++ [v]) (i + 1) := by
  have h2 := h.to (cnt_le_at hj hf) hj.symm
  have hs := side_at (H := H) hf hb
  have hfs : isFull (side H d cs b i) = true := by rw [hs]; exact hf
  have hsu := cnt_succ isFull (side H d cs b) i
  rw [if_pos hfs] at hsu
  have hmo := cnt_mono (p := isFull) (cs := side H d cs b) (show i + 1 ≤ N from hi)
  have hpr := putR (T := U) (h := H (cs i).keyS) (key := (cs i).keyS) (by rw [hn]; exact Nat.two_pow_pos e) (fun g hg => gk_onto hn hg) (cs i).elemS (cs i).birthI
  obtain ⟨_, v, h3⟩ := h2.rf.put (out := (putT n U (H (cs i).keyS) (cs i).keyS (cs i).elemS (cs i).birthI).1) (U' := (putT n U (H (cs i).keyS) (cs i).keyS (cs i).elemS (cs i).birthI).2) (side_once ho) hi hfs rfl (by omega) (by rw [hs]; exact hpr)
  refine ⟨v, by rw [hsu]; exact h3, ?_, h2.keeps.trans (keeps_put hpr)⟩
  show _ = if isFull (side H d cs b i) = true then _ else _
  rw [if_pos hfs, hs, ← h2.fill]
theorem SS.pass (h : SS H d d0 cs N n b U lives j) (hj : cnt isFull cs j = cnt isFull cs i) (hf : isFull (cs i) = true) (hb : bitF (H (cs i).keyS) d ≠ b) : SS H d d0 cs N n b U lives (i + 1) := by
  have h2 := h.to (cnt_le_at hj hf) hj.symm
  have hs := side_no hb
  have hsu := cnt_succ isFull (side H d cs b) i
  rw [hs, show isFull Cell.empty = false from rfl] at hsu
  refine ⟨by rw [hsu]; exact h2.rf, ?_, h2.keeps⟩
  show _ = if isFull (side H d cs b i) = true then _ else _
  rw [hs, show isFull Cell.empty = false from rfl, if_neg (by simp)]
  exact h2.fill
end
/-- What the half of a table answers. -/
theorem side_get {n N : Nat} {H : ByteArray → Int} {T U : Tb} {d b : Int} {lives : List Life} (h : LT n H T) (hn : 0 < n) (hR : RF H (side H d T.cells b) (8 * n) N U lives (cnt isFull (side H d T.cells b) (8 * n))) (key : ByteArray) :
    getC N U (H key) key = if bitF (H key) d = b then getC n T (H key) key else .empty := by
  have hno : (bitF (H key) d = b → ∀ i, i < 8 * n → isFull (T.cells i) = true → (T.cells i).keyS ≠ key) → getC N U (H key) key = .empty := fun q => hR.get_no (Nat.le_refl _) fun i hi hf he => by
    obtain ⟨a1, a2, a3⟩ := side_full hf
    rw [a3] at he
    rw [he] at a2
    exact q a2 i hi a1 he
  by_cases hb : bitF (H key) d = b
  · rw [if_pos hb]
    rcases h.has hn key with ⟨i, h1, h2, rfl⟩ | ⟨h1, h2⟩
    · have hs := side_at (H := H) h2 hb
      have hfs : isFull (side H d T.cells b i) = true := by rw [hs]; exact h2
      have hsu := cnt_succ isFull (side H d T.cells b) i
      rw [if_pos hfs] at hsu
      have hmo := cnt_mono (p := isFull) (cs := side H d T.cells b) (show i + 1 ≤ 8 * n from h1)
      have := hR.get h1 hfs (by omega)
      rw [hs] at this
      rw [this, h.get h1 h2]
    · rw [h1, hno fun _ => h2]
  · rw [if_neg hb, hno fun q => absurd q hb]
end Go.Proofs.YtgijnebgchkenaaGreatDoor.Grow
