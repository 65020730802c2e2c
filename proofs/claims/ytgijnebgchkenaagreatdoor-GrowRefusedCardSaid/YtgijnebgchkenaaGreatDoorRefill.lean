import Derived.Test.YtgijnebgchkenaaGreatDoorTableI
import Derived.Test.YtgijnebgchkenaaGreatDoorGroup
import Derived.Test.YtgijnebgchkenaaGreatDoorBenchB
import Derived.Test.YtgijnebgchkenaaGreatDoorTableN
import Derived.Test.YtgijnebgchkenaaGreatDoorGrowA
section
/- Cells as values: eight in an array, the full ones of a row. No program's code. -/
set_option linter.unusedVariables false
set_option linter.unusedSimpArgs false
set_option maxRecDepth 100000
namespace Go.Proofs.YtgijnebgchkenaaGreatDoor.Cells
open Go.RowKit Go.Proofs Go.Proofs.YtgijnebgchkenaaGreatDoor.Eng Go.Proofs.YtgijnebgchkenaaGreatDoor.Bits Go.Proofs.YtgijnebgchkenaaGreatDoor.GroupB Go.Proofs.YtgijnebgchkenaaGreatDoor.Group Go.Proofs.YtgijnebgchkenaaGreatDoor.TableB Go.Proofs.YtgijnebgchkenaaGreatDoor.TableI

def cellV (c : Cell) : List Value := [.int .i64 c.kind, .int .i64 c.tagI, .string c.keyS, .string c.elemS, .int .i64 c.birthI]
theorem kind_full {c : Cell} : c.kind = 2 ↔ isFull c = true := by cases c <;> simp [Cell.kind, isFull]
/-- The full cells of the first N, as an iterator hands them over. -/
def cellsV (cs : Nat → Cell) (N : Nat) : List (List Value) := ((List.range N).filter fun i => isFull (cs i)).map fun i => [.int .i64 (i : Nat), .agg #[.int .i64 (cs i).kind, .int .i64 (cs i).tagI, .string (cs i).keyS, .string (cs i).elemS, .int .i64 (cs i).birthI]]
theorem filt_get (p : Nat → Bool) : ∀ {N i : Nat}, i < N → p i = true → ((List.range N).filter p)[(List.range i).countP p]? = some i
  | 0, i, h, _ => by omega
  | N + 1, i, h, hp => by
    rw [List.range_succ, List.filter_append]
    by_cases q : i = N
    · subst q
      rw [List.countP_eq_length_filter, List.getElem?_append_right (Nat.le_refl _), Nat.sub_self]
      simp [hp]
    · have ih := filt_get p (N := N) (i := i) (by omega) hp
      rw [List.getElem?_append_left (List.getElem?_eq_some_iff.1 ih).1]
      exact ih
theorem cellsV_len (cs : Nat → Cell) (N : Nat) : (cellsV cs N).length = cnt isFull cs N := by
  unfold cellsV cnt
  rw [List.length_map, List.countP_eq_length_filter]
theorem cellsV_get {cs : Nat → Cell} {N i : Nat} (hi : i < N) (h : isFull (cs i) = true) : (cellsV cs N)[cnt isFull cs i]? = some [.int .i64 (i : Nat), .agg #[.int .i64 (cs i).kind, .int .i64 (cs i).tagI, .string (cs i).keyS, .string (cs i).elemS, .int .i64 (cs i).birthI]] := by
  unfold cellsV cnt
  rw [List.getElem?_map, filt_get (fun i => isFull (cs i)) hi h]; rfl
theorem cellsV_two {cs : Nat → Cell} {N : Nat} : ∀ x ∈ cellsV cs N, x.length = 2 := fun x hx => by
  unfold cellsV at hx
  obtain ⟨i, _, rfl⟩ := List.mem_map.1 hx
  rfl
theorem cellsV_at {cs : Nat → Cell} {N k : Nat} {x : List Value} (h : (cellsV cs N)[k]? = some x) : ∃ i, i < N ∧ isFull (cs i) = true ∧ cnt isFull cs i = k ∧ x = [.int .i64 (i : Nat), .agg #[.int .i64 (cs i).kind, .int .i64 (cs i).tagI, .string (cs i).keyS, .string (cs i).elemS, .int .i64 (cs i).birthI]] := by
  have hk := (List.getElem?_eq_some_iff.1 h).1
  unfold cellsV at h
  rw [List.getElem?_map, Option.map_eq_some_iff] at h
  obtain ⟨i, hi, rfl⟩ := h
  have hm := List.mem_of_getElem? hi
  rw [List.mem_filter, List.mem_range] at hm
  refine ⟨i, hm.1, hm.2, ?_, rfl⟩
  have h2 := filt_get (fun i => isFull (cs i)) hm.1 hm.2
  have hk2 : k < ((List.range N).filter fun i => isFull (cs i)).length := (List.getElem?_eq_some_iff.1 hi).1
  have hnd : ((List.range N).filter fun i => isFull (cs i)).Nodup := List.Nodup.sublist List.filter_sublist List.nodup_range
  exact (List.getElem?_inj (List.getElem?_eq_some_iff.1 h2).1 hnd).1 (h2.trans hi.symm)
theorem cnt_mono {p : Cell → Bool} {cs : Nat → Cell} {i j : Nat} (h : i ≤ j) : cnt p cs i ≤ cnt p cs j := by
  induction j with
  | zero => rw [Nat.le_zero.1 h]; exact Nat.le_refl _
  | succ j ih =>
    by_cases q : i = j + 1
    · rw [q]; exact Nat.le_refl _
    · have := ih (by omega)
      rw [cnt_succ]; omega
end Go.Proofs.YtgijnebgchkenaaGreatDoor.Cells
end
section
/- A new table that is filled with a row's full cells; tables and small maps that lie where nothing else is written. No program's code. -/
set_option linter.unusedVariables false
set_option linter.unusedSimpArgs false
set_option maxRecDepth 100000
namespace Go.Proofs.YtgijnebgchkenaaGreatDoor.Refill
open Go.RowKit Go.Proofs Go.Proofs.YtgijnebgchkenaaGreatDoor.Eng Go.Proofs.YtgijnebgchkenaaGreatDoor.Bits Go.Proofs.YtgijnebgchkenaaGreatDoor.Layout Go.Proofs.YtgijnebgchkenaaGreatDoor.Mem Go.Proofs.YtgijnebgchkenaaGreatDoor.CtrlB Go.Proofs.YtgijnebgchkenaaGreatDoor.GroupB Go.Proofs.YtgijnebgchkenaaGreatDoor.Group Go.Proofs.YtgijnebgchkenaaGreatDoor.Probe Go.Proofs.YtgijnebgchkenaaGreatDoor.TableB Go.Proofs.YtgijnebgchkenaaGreatDoor.TableI Go.Proofs.YtgijnebgchkenaaGreatDoor.Table Go.Proofs.YtgijnebgchkenaaGreatDoor.Bench Go.Proofs.YtgijnebgchkenaaGreatDoor.Cells Go.Proofs.YtgijnebgchkenaaGreatDoor.Arena

/-- Each key once. -/
def onceC (cs : Nat → Cell) (N : Nat) : Prop := ∀ i j, i < N → j < N → (cs i).kind = 2 → (cs j).kind = 2 → (cs i).keyS = (cs j).keyS → i = j
theorem cnt_inj {cs : Nat → Cell} {i j : Nat} (hi : isFull (cs i) = true) (hj : isFull (cs j) = true) (h : cnt isFull cs i = cnt isFull cs j) : i = j := by
  have a := cnt_succ isFull cs i
  have b := cnt_succ isFull cs j
  rw [if_pos hi] at a
  rw [if_pos hj] at b
  rcases Nat.lt_trichotomy i j with q | q | q
  · have := cnt_mono (p := isFull) (cs := cs) (show i + 1 ≤ j by omega); omega
  · exact q
  · have := cnt_mono (p := isFull) (cs := cs) (show j + 1 ≤ i by omega); omega
theorem full_of {c : Cell} (h : isFull c = true) : ∃ t, c = .full t c.keyS c.elemS c.birthI := by cases c <;> first | exact ⟨_, rfl⟩ | cases h
/-- The table U holds the first k of the full cells. -/
structure RF (H : ByteArray → Int) (cs : Nat → Cell) (N n : Nat) (U : Tb) (lives : List Life) (k : Nat) : Prop where
  bi : BI n H (fun _ => True) U lives k
  is : ∀ i, i < N → isFull (cs i) = true → cnt isFull cs i < k → ∃ v, lives[cnt isFull cs i]? = some v ∧ v.key = (cs i).keyS ∧ v.elem = (cs i).elemS ∧ v.birth = (cs i).birthI
  len : lives.length = k
theorem RF.new {H : ByteArray → Int} {cs : Nat → Cell} {N n : Nat} (hn : 0 < n) (d : Int) : RF H cs N n (newT n d) [] 0 := ⟨bi_new hn _ _ rfl rfl rfl, fun i _ _ h => (by omega), rfl⟩
section
variable {H : ByteArray → Int} {cs : Nat → Cell} {N n k : Nat} {U U' : Tb} {lives : List Life} {out : Int}
/-- Which cell a life is of. -/
theorem RF.of (h : RF H cs N n U lives k) (hk : k ≤ cnt isFull cs N) {j : Nat} {v : Life} (hv : lives[j]? = some v) : ∃ i, i < N ∧ isFull (cs i) = true ∧ cnt isFull cs i = j ∧ v.key = (cs i).keyS ∧ v.elem = (cs i).elemS ∧ v.birth = (cs i).birthI := by
  have hj := (List.getElem?_eq_some_iff.1 hv).1
  rw [h.len] at hj
  have hl : j < (cellsV cs N).length := by rw [cellsV_len]; omega
  obtain ⟨i, h1, h2, h3, _⟩ := cellsV_at (List.getElem?_eq_getElem hl)
  obtain ⟨u, hu, e1, e2, e3⟩ := h.is i h1 h2 (by omega)
  rw [h3, hv] at hu
  cases hu
  exact ⟨i, h1, h2, h3, e1, e2, e3⟩
theorem RF.put (h : RF H cs N n U lives k) (ho : onceC cs N) {i : Nat} (hi : i < N) (hf : isFull (cs i) = true) (hk : cnt isFull cs i = k) (hroom : k < 7 * n) (hr : PutR n U (H (cs i).keyS) (cs i).keyS (cs i).elemS (cs i).birthI (out, U')) :
    out = 2 ∧ ∃ v, RF H cs N n U' (lives ++ [v]) (k + 1) := by
  have hcN : k + 1 ≤ cnt isFull cs N := by
    have a := cnt_succ isFull cs i
    rw [if_pos hf] at a
    have := cnt_mono (p := isFull) (cs := cs) (show i + 1 ≤ N by omega)
    omega
  have hno : placeL lives (cs i).keyS = none := place_not fun j u hu e => by
    obtain ⟨i', h1, h2, h3, h4, _⟩ := h.of (by omega) hu
    have hj := (List.getElem?_eq_some_iff.1 hu).1
    rw [h.len] at hj
    have := ho i' i h1 hi (kind_full.2 h2) (kind_full.2 hf) (h4.symm.trans e)
    subst this
    omega
  rcases h.bi.put_newB trivial hno hr with ⟨_, _, h3⟩ | ⟨h1, p, hp, _, h2⟩
  · omega
  · refine ⟨h1, _, h2, fun i' hi' hf' hc' => ?_, by rw [List.length_append, h.len]; rfl⟩
    rcases Nat.lt_or_ge (cnt isFull cs i') k with q | q
    · obtain ⟨v, e1, e2⟩ := h.is i' hi' hf' q
      exact ⟨v, by rw [List.getElem?_append_left (by rw [h.len]; exact q)]; exact e1, e2⟩
    · obtain rfl := cnt_inj hf' hf (by omega)
      refine ⟨_, by rw [List.getElem?_append_right (by rw [h.len]; omega), h.len, show cnt isFull cs i' - k = 0 by omega]; rfl, rfl, rfl, rfl⟩
theorem RF.counts (h : RF H cs N n U lives k) : U.used = (k : Int) ∧ U.left = 7 * (n : Int) - (k : Int) ∧ cnt isDel U.cells (8 * n) = 0 ∧ cnt isFull U.cells (8 * n) = k := by
  have h1 := h.bi.used
  have h2 := h.bi.cnt.used
  have h3 := h.bi.cnt.left
  have h4 := h.bi.added
  have h5 := h.len
  unfold took at h4
  refine ⟨by omega, by omega, by omega, by omega⟩
/-- A key of the row is found, with its elem and birth. -/
theorem RF.get (h : RF H cs N n U lives k) {i : Nat} (hi : i < N) (hf : isFull (cs i) = true) (hc : cnt isFull cs i < k) : getC n U (H (cs i).keyS) (cs i).keyS = .full (H (cs i).keyS % 128) (cs i).keyS (cs i).elemS (cs i).birthI := by
  obtain ⟨v, hv, e1, e2, e3⟩ := h.is i hi hf hc
  obtain ⟨h1, h2, h3, h4⟩ := h.bi.found hv
  rw [e1] at h3 h4
  rw [h3] at h4
  unfold getC
  rw [h4, if_pos (by omega), Int.toNat_natCast, h2]
  unfold Life.cell
  rw [h3, e1, e2, e3]
theorem RF.get_no (h : RF H cs N n U lives k) (hk : k ≤ cnt isFull cs N) {key : ByteArray} (hno : ∀ i, i < N → isFull (cs i) = true → (cs i).keyS ≠ key) : getC n U (H key) key = .empty := by
  have := h.bi.gone (place_not (lives := lives) (key := key) fun j u hu e => by
    obtain ⟨i, h1, h2, _, h4, _⟩ := h.of hk hu
    exact hno i h1 h2 (h4.symm.trans e))
  unfold getC
  rw [this, if_neg (by omega)]
end
/-! ### What lies elsewhere stays -/
theorem NewS.keeps {s s' : ArS} {c : Int} (h : NewS s s' c) (hok : s.ok) {o k : Int} (hg : goodP s o k) {a : Nat} (h1 : o ≤ (a : Int)) (h2 : (a : Int) < o + k) : s'.m a = s.m a := by
  obtain ⟨_, p, hp, q1, q2⟩ := hg
  exact h.m p hp a (by omega) (by omega)
theorem TabP.moved {s s' : ArS} {off go : Nat} {l : Lay} {n e : Nat} {T : Tb} (h : TabP s off go l n e T) (hg : ∀ o k, goodP s o k → goodP s' o k) (hm : ∀ a, off ≤ a → a < off + 64 → s'.m a = s.m a) (hm2 : ∀ a, go ≤ a → a < go + n * gN l → s'.m a = s.m a) : TabP s' off go l n e T := by
  refine ⟨h.hl, h.he, h.hn, ⟨fun k hk => ?_, fun g hg' j hj => ?_, h.hT.okc⟩, hg _ _ h.gh, hg _ _ h.gg, h.hr, h.dj⟩
  · rw [← h.hT.head k hk]
    exact loadN_congr fun i hi => hm _ (by omega) (by omega)
  · have hmul : g * gN l + gN l ≤ n * gN l := by rw [← Nat.succ_mul]; exact Nat.mul_le_mul_right _ hg'
    rw [hm2 _ (by omega) (by omega)]
    exact h.hT.body g hg' j hj
theorem TabP.newS {s s' : ArS} {off go : Nat} {l : Lay} {n e : Nat} {T : Tb} (h : TabP s off go l n e T) (hok : s.ok) {c : Int} (hN : NewS s s' c) : TabP s' off go l n e T :=
  TabP.moved h (fun o k => hN.good) (fun a h1 h2 => NewS.keeps hN hok h.gh (by omega) (by omega)) (fun a h1 h2 => NewS.keeps hN hok h.gg (by omega) (by omega))
theorem TabP.same {s s' : ArS} {off go : Nat} {l : Lay} {n e : Nat} {T : Tb} (h : TabP s off go l n e T) {o2 g2 k2 : Nat} (hS : SameBut s s' o2 g2 k2) (h1 : off + 64 ≤ o2 ∨ o2 + 64 ≤ off) (h2 : off + 64 ≤ g2 ∨ g2 + k2 ≤ off) (h3 : go + n * gN l ≤ o2 ∨ o2 + 64 ≤ go) (h4 : go + n * gN l ≤ g2 ∨ g2 + k2 ≤ go) : TabP s' off go l n e T :=
  TabP.moved h (fun o k => hS.good) (fun a q1 q2 => hS.m a (by omega) (by omega)) (fun a q1 q2 => hS.m a (by omega) (by omega))
/-- What no put and no delete turns. -/
structure Keeps (T T' : Tb) : Prop where
  pins : T'.pins = T.pins
  next : T'.next = T.next
  kind : T'.kind = T.kind
  depth : T'.depth = T.depth
theorem Keeps.refl (T : Tb) : Keeps T T := ⟨rfl, rfl, rfl, rfl⟩
theorem Keeps.trans {a b c : Tb} (h : Keeps a b) (k : Keeps b c) : Keeps a c := ⟨k.pins.trans h.pins, k.next.trans h.next, k.kind.trans h.kind, k.depth.trans h.depth⟩
theorem keeps_put {n : Nat} {T T' : Tb} {h : Int} {key elem : ByteArray} {birth out : Int} (h : PutR n T h key elem birth (out, T')) : Keeps T T' := by
  cases h <;> exact ⟨rfl, rfl, rfl, rfl⟩
end Go.Proofs.YtgijnebgchkenaaGreatDoor.Refill
end
