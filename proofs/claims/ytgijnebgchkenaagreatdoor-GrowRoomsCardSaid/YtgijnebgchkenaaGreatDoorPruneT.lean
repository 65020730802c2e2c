import Derived.Test.YtgijnebgchkenaaGreatDoorTableG
import Derived.Test.YtgijnebgchkenaaGreatDoorGrowD
import Derived.Test.YtgijnebgchkenaaGreatDoorTableN
section
/- Contracts of ctrl.Clear and group.Prune. -/
set_option linter.unusedVariables false
set_option linter.unusedSimpArgs false
set_option maxRecDepth 100000
namespace Go.Proofs.YtgijnebgchkenaaGreatDoor.Group
open Go.RowKit Go.Proofs Go.Proofs.YtgijnebgchkenaaGreatDoor.Eng Go.Proofs.YtgijnebgchkenaaGreatDoor.Ty Go.Proofs.YtgijnebgchkenaaGreatDoor.Bits Go.Proofs.YtgijnebgchkenaaGreatDoor.Mem Go.Proofs.YtgijnebgchkenaaGreatDoor.Search Go.Proofs.YtgijnebgchkenaaGreatDoor.Arena Go.Proofs.YtgijnebgchkenaaGreatDoor.CtrlB Go.Proofs.YtgijnebgchkenaaGreatDoor.Ctrl Go.Proofs.YtgijnebgchkenaaGreatDoor.Layout Go.Proofs.YtgijnebgchkenaaGreatDoor.GroupB Go.Proofs.YtgijnebgchkenaaGreatDoor.TableB Go.Proofs.YtgijnebgchkenaaGreatDoor.Table

/-- A control word whose deleted slots are empty. -/
def clearF (f : Byt) : Byt := fun i => if f i = 254 then 128 else f i
theorem wd_mulF (f : Byt) (k : Nat) : wd f * k = wd fun i => f i * k := by unfold wd; rw [ofB_mul]; rfl
theorem sel_one (s : Nat → Bool) : selW s / 128 = ((wd fun i => if s i then 1 else 0 : Nat) : Int) := by
  have h : wd (selB s) = (wd fun i => if s i then 1 else 0) * 128 := by
    rw [wd_mulF]
    exact wd_congr fun i _ => by unfold selB; cases s i <;> rfl
  unfold selW
  rw [h]
  omega
theorem ok_clear {f : Byt} (hf : okB f) : okB (clearF f) := fun i hi => by unfold clearF; split; decide; exact hf i hi
theorem clear_word {f : Byt} (hf : okB f) : bits .xor .u64 (wI f) (IntKind.u64.wrap (selW (fun i => f i == 254) / 128 * 126)) = wI (clearF f) := by
  have o1 : okB fun i => (if (f i == 254) = true then 1 else 0) * 126 := fun i _ => by dsimp only; split <;> decide
  rw [sel_one, show ((wd fun i => if (f i == 254) = true then 1 else 0 : Nat) : Int) * 126 = (((wd fun i => if (f i == 254) = true then 1 else 0) * 126 : Nat) : Int) by simp, wd_mulF, wrap_small (wd_lt o1)]
  rw [xor_i hf o1]
  congr 1
  refine wd_congr fun i hi => ?_
  unfold clearF
  by_cases q : f i = 254
  · rw [if_pos q, q]; rfl
  · rw [if_neg q, show (f i == 254) = false by simpa using q]; simp
theorem Clear_ok (f : Byt) (hf : okB f) : FnOk Tryz.prog 155 #[.int .u64 (wI f)] [] (fun v L => v = .int .u64 (wI (clearF f)) ∧ L = []) := by
  have hc := clear_word hf
  refine fn_intro en155 Tryz.func155 rfl rfl rfl fun Fr w0 => t_nm ?_
  refine sr <| asg rfl rfl <| lz <| mv rfl rfl <| l_q rfl (qbit rfl rfl rfl) <| lc1 rfl rfl rfl (zeros_ok _ _ (xor_sel hf (c := 254) (by decide))) ?_
  refine l_q rfl (q_field1L 0 rfl yU143 rfl yA52 rfl ga) ?_
  apply l_q rfl
  · apply qi rfl rfl; first | exact fun w => b_shr_c (m := 128) w (by decide) (by decide) (by omega) | exact fun w => b_shr w (by decide)
  refine asg rfl rfl <| lz <| mv rfl rfl <| mv rfl rfl <| l_q rfl (qmul rfl rfl) ?_
  refine l_q rfl (qbit rfl rfl rfl) <| asg rfl rfl <| lc <| rt <| fr1 rfl ([]) (.tmp rfl) ?_
  exact ⟨by rw [show (2 : Int) ^ min (Int.toNat 7) IntKind.u64.bits = 128 from rfl, Int.fdiv_eq_ediv_of_nonneg _ (by decide), hc], rfl⟩
/-- A group whose deleted slots are empty. -/
def pruneC (cs : Nat → Cell) : Nat → Cell := fun i => if TableI.isDel (cs i) = true then .empty else cs i
theorem pruneC_ok {l : Lay} {cs : Nat → Cell} (h : ∀ i, i < 8 → (cs i).ok l) : ∀ i, i < 8 → (pruneC cs i).ok l := fun i hi => by unfold pruneC; split; trivial; exact h i hi
theorem ct_prune {l : Lay} {cs : Nat → Cell} (h : ∀ i, i < 8 → (cs i).ok l) {i : Nat} (hi : i < 8) : clearF (ctF cs) i = ctF (pruneC cs) i := by
  have := h i hi
  unfold clearF ctF pruneC
  cases hc : cs i with
  | empty => simp [TableI.isDel, Cell.ctrl]
  | deleted => simp [TableI.isDel, Cell.ctrl]
  | full t k e b =>
    rw [hc] at this
    have h1 : (Cell.full t k e b).ctrl = t := rfl
    have h2 := this.1
    have h3 := this.2.1
    rw [if_neg (by rw [h1]; omega)]
    simp [TableI.isDel]
theorem put_prune {off : Nat} {s : ArS} {l : Lay} {cs : Nat → Cell} (hl : l.err = 0) (hG : GAt s.m off l cs) (hok : ∀ i, i < 8 → (cs i).ok l) : s.put off 8 (byteN (wI (clearF (ctF cs)))) = s.put off (gN l) (encG l (pruneC cs)) := by
  have hN := layN hl
  have hg := hN.g_eq
  unfold ArS.put
  congr 1
  funext a
  by_cases h1 : off ≤ a ∧ a < off + 8
  · rw [lay_at h1.1 h1.2, lay_at h1.1 (by omega), byte_wd (ok_clear (ok_ct hok)) (by omega), encG_ctrl _ (by omega), ct_prune hok (by omega), ct_cast (pruneC_ok hok) (by omega)]
  · rw [lay_out (by omega)]
    by_cases h2 : off ≤ a ∧ a < off + gN l
    · rw [lay_at h2.1 h2.2]
      have := hG (a - off) (by omega)
      rw [show off + (a - off) = a by omega] at this
      rw [this]
      unfold encG
      rw [if_neg (by omega), if_neg (by omega)]
      unfold pruneC
      split
      · next q => cases hc : cs ((a - off - 8) / sN l) <;> rw [hc] at q <;> first | rfl | cases q
      · rfl
    · rw [lay_out (by omega)]
theorem filter_add {α : Type} {p q r : α → Bool} (h : ∀ x, p x = (q x || r x)) (hd : ∀ x, q x = true → r x = false) : ∀ L : List α, (L.filter p).length = (L.filter q).length + (L.filter r).length
  | [] => rfl
  | x :: L => by
    have ih := filter_add h hd L
    rw [List.filter_cons, List.filter_cons, List.filter_cons, h x]
    cases e1 : q x with
    | true => rw [hd x e1]; simp; omega
    | false => cases e2 : r x <;> simp <;> omega
/-- How many slots are deleted. -/
def delN (cs : Nat → Cell) : Nat := (slotsF fun i => TableI.isDel (cs i)).length
theorem vac_del (cs : Nat → Cell) : (slotsF (vacS cs)).length = (slotsF (empS cs)).length + delN cs := filter_add (fun i => by show vacS cs i = (empS cs i || TableI.isDel (cs i)); unfold vacS empS; cases cs i <;> rfl) (fun i hi => by show TableI.isDel (cs i) = false; unfold empS at hi; cases hc : cs i <;> rw [hc] at hi <;> first | rfl | cases hi) _
theorem Prune_ok (pa off : Nat) (s : ArS) (l : Lay) (cs : Nat → Cell) (hl : l.err = 0) (hg : goodP s off l.group) (hG : GAt s.m off l cs) (hok : ∀ i, i < 8 → (cs i).ok l) :
    FnOk Tryz.prog 109 #[.agg #[.pointer (some ⟨pa, 0, none⟩), .int .i64 l.key, .int .i64 l.elem, .int .i64 l.ka, .int .i64 l.ea, .int .i64 l.cap, .int .i64 l.eo, .int .i64 l.bo, .int .i64 l.slot, .int .i64 l.group, .int .i64 (off : Nat)]] [arenaH pa s] (fun v L => v = .tuple #[.int .i64 (delN cs : Nat), .int .i64 0] ∧ L = [arenaH pa (s.put off (gN l) (encG l (pruneC cs)))]) := by
  have hN := layN hl
  have hn8 := hN.g_eq
  have hng := hN.g
  have hg8 : goodP s off 8 := goodP.sub hg (by omega) (by omega) (by omega)
  have hv := vac_del cs
  have hv8 : (slotsF (vacS cs)).length ≤ 8 := by unfold slotsF; exact Nat.le_trans (List.length_filter_le _ _) (by simp)
  have hf := ok_ct hok
  refine fn_intro en109 Tryz.func109 rfl rfl rfl fun Fr w0 => t_nm ?_
  refine sr <| o_boxA rfl rfl fun b1 => asg rfl rfl <| asg rfl rfl <| lc <| t_seq <| sr <| l_q rfl (qlda rfl yA63 yS63) ?_
  refine lc1 rfl rfl rfl (there_ok pa off s l hl hg) ?_
  refine asg rfl rfl <| lz <| mv rfl rfl <| l_q rfl (qi rfl rfl (b_neq ·)) <| lc <| t_if rfl (fun z => ?_) fun z => ?_
  · exact absurd rfl z
  · refine t_skip <| nz <| l_q rfl (qfa 0 rfl yU63 rfl rfl yS30) <| l_q rfl (qld rfl yA30) ?_
    refine l_q rfl (qfa 10 rfl yU63 rfl rfl yS3) <| l_q rfl (qld rfl yA3) ?_
    refine lc1 rfl rfl rfl (Load_okI pa s _ _ off 8 rfl rfl (by unfold wid; omega) hg8) ?_
    rw [load_ctrl hG hN hok]
    refine mv rfl rfl <| l_q rfl (q_extractL rfl ga) ?_
    refine l_q rfl (q_extractL rfl ga) ?_
    refine asg rfl rfl <| asg rfl rfl <| lz <| mv rfl rfl <| lc1 rfl rfl rfl (MatchV_ok hok) ?_
    refine lc1 rfl rfl rfl (Count_ok (vacS cs)) ?_
    refine mv rfl rfl <| lc1 rfl rfl rfl (MatchE_ok hok) ?_
    refine lc1 rfl rfl rfl (Count_ok (empS cs)) ?_
    refine l_q rfl (qsub rfl rfl) ?_
    refine asg rfl rfl <| lc <| t_seq <| t_draw mixed ?_
    apply dq 0 rfl
    · exact yq (q_move rfl)
    apply dq 1 rfl
    · exact yq (qfa 0 rfl yU63 rfl rfl yS30)
    apply dq 2 rfl
    · exact yq (qld rfl yA30)
    apply dq 3 rfl
    · exact yq (qfa 10 rfl yU63 rfl rfl yS3)
    apply dq 4 rfl
    · exact yq (qld rfl yA3)
    apply dq 5 rfl
    · exact yq (q_move rfl)
    refine d_eff1 [5] [4, 3, 2, 1, 0] 6 [(33, _)] gO ⟨rfl, trivial⟩ (by kernel_rfl) (by kernel_rfl) fun Ex => ?_
    refine lc1 rfl rfl rfl (Clear_ok (ctF cs) hf) ?_
    refine l_nil ?_
    apply n_d
    · refine ⟨?_, ?_, ?_, ?_, ?_, trivial⟩
      · apply ya rfl rfl; exact yq (qld rfl yA3)
      · apply ya rfl rfl; exact yq (qfa 10 rfl yU63 rfl rfl yS3)
      · apply ya rfl rfl; exact yq (qld rfl yA30)
      · apply ya rfl rfl; exact yq (qfa 0 rfl yU63 rfl rfl yS30)
      · apply ya rfl rfl; exact yq (q_move rfl)
    refine d_eff1 [2, 4, 1, 3] [0] 7 [(30, _), (32, _), (34, _)] gO ⟨rfl, rfl, rfl, trivial⟩ (by kernel_rfl) (by kernel_rfl) fun Ex => ?_
    refine lc1 rfl rfl rfl (Store_okI pa s _ _ off 8 _ rfl rfl (wI_bnd (ok_clear hf)) (by unfold wid; omega) hg8) ?_
    rw [put_prune hl hG hok]
    refine l_nil ?_
    apply n_d
    · refine ⟨?_, trivial⟩
      · apply ya rfl rfl; exact yq (q_move rfl)
    refine d_eff1 [0] [] 8 [(28, _)] gO ⟨rfl, trivial⟩ (by kernel_rfl) (by kernel_rfl) fun Ex => ?_
    refine asg rfl rfl <| l_nil ?_
    apply n_d
    · exact trivial
    refine d_eff1 [] [] 9 [(35, _)] gO ⟨rfl, trivial⟩ (by kernel_rfl) (by kernel_rfl) fun Ex => ?_
    refine asg rfl rfl <| l_nil ?_
    apply n_d
    · exact trivial
    refine d_end (by kernel_rfl) ?_
    refine n_code <| rt <| fr2 rfl ([arenaH pa (s.put off (gN l) (encG l (pruneC cs)))]) (.tmp rfl) (.tmp rfl) ?_
    exact ⟨by rw [show (((slotsF (vacS cs)).length : Nat) : Int) - (((slotsF (empS cs)).length : Nat) : Int) = ((delN cs : Nat) : Int) by omega], rfl⟩
end Go.Proofs.YtgijnebgchkenaaGreatDoor.Group
end
section
/- A table whose unpassed groups' marks are gone: what holds of it. No program's code. -/
set_option linter.unusedVariables false
set_option linter.unusedSimpArgs false
set_option maxRecDepth 100000
namespace Go.Proofs.YtgijnebgchkenaaGreatDoor.Grow
open Go.RowKit Go.Proofs Go.Proofs.YtgijnebgchkenaaGreatDoor.Eng Go.Proofs.YtgijnebgchkenaaGreatDoor.Ty Go.Proofs.YtgijnebgchkenaaGreatDoor.Bits Go.Proofs.YtgijnebgchkenaaGreatDoor.Mem Go.Proofs.YtgijnebgchkenaaGreatDoor.Search Go.Proofs.YtgijnebgchkenaaGreatDoor.Arena Go.Proofs.YtgijnebgchkenaaGreatDoor.CtrlB Go.Proofs.YtgijnebgchkenaaGreatDoor.Ctrl Go.Proofs.YtgijnebgchkenaaGreatDoor.Layout Go.Proofs.YtgijnebgchkenaaGreatDoor.GroupB Go.Proofs.YtgijnebgchkenaaGreatDoor.Group Go.Proofs.YtgijnebgchkenaaGreatDoor.Probe Go.Proofs.YtgijnebgchkenaaGreatDoor.TableB Go.Proofs.YtgijnebgchkenaaGreatDoor.TableI Go.Proofs.YtgijnebgchkenaaGreatDoor.Table Go.Proofs.YtgijnebgchkenaaGreatDoor.Bench Go.Proofs.YtgijnebgchkenaaGreatDoor.Cells Go.Proofs.YtgijnebgchkenaaGreatDoor.Refill Go.Proofs.YtgijnebgchkenaaGreatDoor.Oracle Go.Proofs.YtgijnebgchkenaaGreatDoor.Ref03

/-- The group g lies on the way of a full cell, ahead of the cell's own. -/
def passesP (n : Nat) (H : ByteArray → Int) (cells : Nat → Cell) (p g : Nat) : Prop := isFull (cells p) = true ∧ ∃ j, j < n ∧ gk (H (cells p).keyS / 128) n j = p / 8 ∧ ∃ i, i < j ∧ gk (H (cells p).keyS / 128) n i = g
def passedP (n : Nat) (H : ByteArray → Int) (cells : Nat → Cell) (g : Nat) : Prop := ∃ p, p < 8 * n ∧ passesP n H cells p g
/-- The cells without the marks of these groups. -/
def pruneT (cells : Nat → Cell) (b : Nat → Bool) (p : Nat) : Cell := if isDel (cells p) = true ∧ b (p / 8) = false then .empty else cells p
section
variable {cells : Nat → Cell} {b : Nat → Bool} {p : Nat}
theorem prune_full : isFull (pruneT cells b p) = isFull (cells p) := by
  unfold pruneT
  split
  · next h => cases hc : cells p <;> rw [hc] at h <;> first | rfl | cases h.1
  · rfl
theorem prune_cell (h : isFull (cells p) = true) : pruneT cells b p = cells p := by
  unfold pruneT
  rw [if_neg fun q => by cases hc : cells p <;> rw [hc] at h q <;> first | exact absurd h (by decide) | exact absurd q.1 (by simp [isDel])]
theorem prune_get {t : Int} {k e : ByteArray} {x : Int} : pruneT cells b p = .full t k e x ↔ cells p = .full t k e x := by
  constructor
  · intro h
    unfold pruneT at h
    split at h
    · cases h
    · exact h
  · intro h; rw [prune_cell (by rw [h]; rfl)]; exact h
theorem prune_keep (h : b (p / 8) = true) : pruneT cells b p = cells p := by unfold pruneT; rw [if_neg (by rw [h]; simp)]
end
theorem lt_prune {n : Nat} {H : ByteArray → Int} {T : Tb} (h : LT n H T) (b : Nat → Bool) (hb : ∀ g, passedP n H T.cells g → b g = true) {m : Nat} (hm : cnt isDel T.cells (8 * n) = cnt isDel (pruneT T.cells b) (8 * n) + m) :
    LT n H { T with cells := pruneT T.cells b, left := T.left + (m : Int) } := by
  have hcf : cnt isFull (pruneT T.cells b) (8 * n) = cnt isFull T.cells (8 * n) := by unfold cnt; congr 1; funext i; exact prune_full
  refine ⟨⟨fun i j hi hj hij he hd => ?_, ?_, ?_, ?_⟩, ⟨fun i j hi hj t k e x t' e' x' h1 h2 => ?_, fun i hi t k e x h1 => ?_, fun i hi t k e x h1 => ?_⟩, fun i hi hf => ?_⟩
  · dsimp only at he hd
    unfold pruneT at he hd
    rw [← hij] at hd
    cases q : b (i / 8) with
    | true =>
      rw [q, if_neg (by simp)] at he
      rw [q, if_neg (by simp)] at hd
      exact h.cnt.mixed i j hi hj hij he hd
    | false =>
      rw [q] at hd
      split at hd
      · cases hd
      · next hn => rw [hd] at hn; exact hn ⟨rfl, rfl⟩
  · dsimp only; rw [hcf]; exact h.cnt.used
  · dsimp only; rw [hcf]; have := h.cnt.left; omega
  · dsimp only; have := h.cnt.room; omega
  · exact h.key.uniq i j hi hj _ _ _ _ _ _ _ (prune_get.1 h1) (prune_get.1 h2)
  · exact h.key.tag i hi _ _ _ _ (prune_get.1 h1)
  · have h2 := prune_get.1 h1
    obtain ⟨j, hj, hg, hem⟩ := h.key.way i hi _ _ _ _ h2
    refine ⟨j, hj, hg, fun a ha => ?_⟩
    have hpass : b (gk (H k / 128) n a) = true := hb _ ⟨i, hi, by rw [h2]; rfl, j, hj, by rw [h2]; exact hg, a, ha, by rw [h2]; rfl⟩
    have := hem a ha
    unfold empAt at this ⊢
    rw [firstF_none] at this ⊢
    intro r hr
    have h3 := this r hr
    unfold empS grpC at h3 ⊢
    dsimp only
    rw [prune_keep (by rw [show (8 * gk (H k / 128) n a + r) / 8 = gk (H k / 128) n a by omega]; exact hpass)]
    exact h3
  · dsimp only at hf ⊢
    rw [prune_full] at hf
    rw [prune_cell hf]
    exact h.let' i hi hf
/-- These groups, and the first k of a way. -/
def markB (b : Nat → Bool) (n : Nat) (home : Int) (k : Nat) (g : Nat) : Bool := b g || (List.range k).any fun i => gk home n i == g
theorem markB_iff {b : Nat → Bool} {n : Nat} {home : Int} {k g : Nat} : markB b n home k g = true ↔ b g = true ∨ ∃ i, i < k ∧ gk home n i = g := by
  unfold markB
  rw [Bool.or_eq_true, List.any_eq_true]
  constructor
  · rintro (h | ⟨i, h1, h2⟩)
    · exact .inl h
    · exact .inr ⟨i, List.mem_range.1 h1, by simpa using h2⟩
  · rintro (h | ⟨i, h1, h2⟩)
    · exact .inl h
    · exact .inr ⟨i, List.mem_range.2 h1, by simpa using h2⟩
/-- b tells the groups that the full cells ahead of place j pass. -/
def PB (n : Nat) (H : ByteArray → Int) (cells : Nat → Cell) (b : Nat → Bool) (j : Nat) : Prop := ∀ g, b g = true ↔ ∃ p, p < j ∧ passesP n H cells p g
theorem PB.new {n : Nat} {H : ByteArray → Int} {cells : Nat → Cell} : PB n H cells (fun _ => false) 0 := fun g => ⟨fun h => (by cases h), fun ⟨p, hp, _⟩ => (by omega)⟩
theorem PB.to {n : Nat} {H : ByteArray → Int} {cells : Nat → Cell} {b : Nat → Bool} {j k : Nat} (h : PB n H cells b j) (hjk : j ≤ k) (hno : ∀ i, j ≤ i → i < k → isFull (cells i) = false) : PB n H cells b k := fun g => by
  rw [h g]
  constructor
  · rintro ⟨p, h1, h2⟩; exact ⟨p, by omega, h2⟩
  · rintro ⟨p, h1, h2⟩
    refine ⟨p, ?_, h2⟩
    rcases Nat.lt_or_ge p j with q | q
    · exact q
    · have := hno p q h1; rw [h2.1] at this; cases this
/-- A full cell's way walked to its own group. -/
theorem PB.mark {n e : Nat} (hn : n = 2 ^ e) {H : ByteArray → Int} {cells : Nat → Cell} {b : Nat → Bool} {p k : Nat} (h : PB n H cells b p) (hf : isFull (cells p) = true) (hk : k < n) (hg : gk (H (cells p).keyS / 128) n k = p / 8) : PB n H cells (markB b n (H (cells p).keyS / 128) k) (p + 1) := fun g => by
  rw [markB_iff, h g]
  constructor
  · rintro (⟨q, h1, h2⟩ | ⟨i, h1, h2⟩)
    · exact ⟨q, by omega, h2⟩
    · exact ⟨p, by omega, hf, k, hk, hg, i, h1, h2⟩
  · rintro ⟨q, h1, h2⟩
    by_cases e1 : q = p
    · subst e1
      obtain ⟨_, j, hj, hgj, i, hi, hgi⟩ := h2
      have := gk_inj hn hj hk (hgj.trans hg.symm)
      subst this
      exact .inr ⟨i, hi, hgi⟩
    · exact .inl ⟨q, by omega, h2⟩
theorem PB.all {n : Nat} {H : ByteArray → Int} {cells : Nat → Cell} {b : Nat → Bool} (h : PB n H cells b (8 * n)) {g : Nat} (hp : passedP n H cells g) : b g = true := (h g).2 hp
end Go.Proofs.YtgijnebgchkenaaGreatDoor.Grow
end
section
/- Contracts of package table: Group, AddLeft. -/
set_option linter.unusedVariables false
set_option linter.unusedSimpArgs false
set_option maxRecDepth 100000
namespace Go.Proofs.YtgijnebgchkenaaGreatDoor.Table
open Go.RowKit Go.Proofs Go.Proofs.YtgijnebgchkenaaGreatDoor.Eng Go.Proofs.YtgijnebgchkenaaGreatDoor.Ty Go.Proofs.YtgijnebgchkenaaGreatDoor.Bits Go.Proofs.YtgijnebgchkenaaGreatDoor.Mem Go.Proofs.YtgijnebgchkenaaGreatDoor.Search Go.Proofs.YtgijnebgchkenaaGreatDoor.Arena Go.Proofs.YtgijnebgchkenaaGreatDoor.CtrlB Go.Proofs.YtgijnebgchkenaaGreatDoor.Ctrl Go.Proofs.YtgijnebgchkenaaGreatDoor.Layout Go.Proofs.YtgijnebgchkenaaGreatDoor.GroupB Go.Proofs.YtgijnebgchkenaaGreatDoor.Group Go.Proofs.YtgijnebgchkenaaGreatDoor.TableB Go.Proofs.YtgijnebgchkenaaGreatDoor.TableI

/-- A group written. -/
theorem TabP.grp {s : ArS} {off go : Nat} {l : Lay} {n e : Nat} {T : Tb} (h : TabP s off go l n e T) {g : Nat} (hg : g < n) {cs : Nat → Cell} (hc : ∀ i, i < 8 → (cs i).ok l) :
    TabP (s.put (go + g * gN l) (gN l) (encG l cs)) off go l n e { T with cells := fun j => if j / 8 = g then cs (j % 8) else T.cells j } ∧ SameBut s (s.put (go + g * gN l) (gN l) (encG l cs)) off go (n * gN l) := by
  obtain ⟨h1, h2, h3, h4⟩ := h.grpAt hg
  refine ⟨⟨h.hl, h.he, h.hn, ?_, h.gh, h.gg, h.hr, h.dj⟩, ⟨rfl, rfl, fun a _ h6 => by rw [ArS.put_m, lay_out (by omega)]⟩⟩
  exact TAt.grp h.hT h.dj hg (T' := { T with cells := fun j => if j / 8 = g then cs (j % 8) else T.cells j }) hc (fun k _ => by unfold headV; rfl) (fun j => rfl) (layN h.hl)
theorem cnt_more (p : Cell → Bool) (cells : Nat → Cell) (a : Nat) : ∀ d, cnt p cells (a + d) = cnt p cells a + ((List.range d).filter fun r => p (cells (a + r))).length
  | 0 => by simp
  | d + 1 => by
    rw [← Nat.add_assoc, cnt_succ, cnt_more p cells a d, List.range_succ, List.filter_append, List.length_append, List.filter_cons]
    split <;> simp [*] <;> omega
theorem emp_slots (cells : Nat → Cell) (i : Nat) : cnt isEmp cells (8 * (i + 1)) = cnt isEmp cells (8 * i) + (slotsF (empS (grpC cells i))).length := by
  rw [show 8 * (i + 1) = 8 * i + 8 by omega, cnt_more]
  congr 2
theorem cnt_three (cells : Nat → Cell) : ∀ N, cnt isFull cells N + cnt isDel cells N + cnt isEmp cells N = N
  | 0 => rfl
  | N + 1 => by
    have ih := cnt_three cells N
    rw [cnt_succ, cnt_succ, cnt_succ]
    cases cells N <;> simp [isFull, isDel, isEmp] <;> omega
section
variable (G : HP) (hG : TabOk G) (pa off go n e : Nat) (s : ArS) (l : Lay) (T : Tb) (hP : TabP s off go l n e T)
include hP
theorem TGroup_ok (k : Nat) (hk : k < n) : FnOk Tryz.prog 22 #[.agg #[.pointer (some ⟨pa, 0, none⟩), .int .i64 l.key, .int .i64 l.elem, .int .i64 l.ka, .int .i64 l.ea, .int .i64 l.cap, .int .i64 l.eo, .int .i64 l.bo, .int .i64 l.slot, .int .i64 l.group, .int .i64 (off : Nat)], .int .i64 (k : Nat)] [arenaH pa s] (fun v L => v = .tuple #[.agg #[.pointer (some ⟨pa, 0, none⟩), .int .i64 l.key, .int .i64 l.elem, .int .i64 l.ka, .int .i64 l.ea, .int .i64 l.cap, .int .i64 l.eo, .int .i64 l.bo, .int .i64 l.slot, .int .i64 l.group, .int .i64 ((go + k * gN l : Nat) : Int)], .int .i64 0] ∧ L = [arenaH pa s]) := by
  have hn8 := hP.n0
  obtain ⟨h1, _, _, _⟩ := hP.grpAt hk
  refine fn_intro en22 Tryz.func22 rfl rfl rfl fun Fr w0 => t_nm ?_
  refine t_pure (φ := s.ok) (fun w hw => arena_ok hw .here) fun hok0 => ?_
  have hge := goodP.end_le hok0 h1
  have hst0 := hok0.stop_eq
  have hbd := Lay.bnd hP.hl
  refine sr <| o_boxA rfl rfl fun b2 => o_allocA rfl yZ63 fun b4 => asg rfl rfl <| lz <| l_q rfl (qlda rfl yA34 yS34) ?_
  refine lc1 rfl rfl rfl (StatP_ok pa off go n e s l T hP) ?_
  refine mv rfl rfl <| l_q rfl (q_extractL rfl ga) ?_
  refine l_q rfl (q_extractL rfl ga) ?_
  refine o_allocA rfl yZ47 fun b6 => sta rfl rfl rfl yS47 rfl rfl ?_
  refine asg rfl rfl <| lc <| t_seq <| sr <| mv rfl rfl <| l_q rfl (qi rfl rfl (b_neq ·)) <| lc <| t_if rfl (fun z => ?_) fun z => ?_
  · exact absurd rfl z
  · refine t_skip <| n_code <| t_seq <| sr <| mv rfl rfl <| l_q rfl (qi rfl rfl (b_lss ·)) <| mv rfl rfl <| l_pt (t := 19) rfl (fun z1 => ?_) fun z1 => ?_
    · omega
    · refine l_on rfl rfl <| mv rfl rfl <| l_on rfl rfl <| l_q rfl (qfa 1 rfl yU47 rfl rfl yS3) <| l_on rfl rfl <| l_q rfl (qld rfl yA3) ?_
      refine l_on rfl rfl <| l_q rfl (qquo rfl rfl) ?_
      refine l_on rfl rfl <| l_q rfl (qi rfl rfl (b_geq ·)) <| l_q rfl (q_pk rfl rfl) <| lc <| t_if rfl (fun z2 => ?_) fun z2 => ?_
      · omega
      · refine t_skip <| nz <| l_q rfl (qlda rfl yA34 yS34) ?_
        refine l_q rfl (qlda rfl yA47 yS47) ?_
        refine mv rfl rfl <| lc1 rfl rfl rfl (group_ok pa off go k n l hP.hl T _ rfl (by omega)) ?_
        refine sta rfl rfl rfl yS63 rfl rfl ?_
        refine asg rfl rfl <| lc <| rt ?_
        apply f_ret (.inl rfl) ([arenaH pa s])
        · apply res2 rfl
          · apply Rv.agg rfl
            · exact tk
            · exact run_loadAll yA63 yS63 rfl
          · exact .tmp rfl
        · exact ⟨rfl, rfl⟩
        · exact en
theorem AddLeft_ok (v : Int) (h0 : 0 ≤ v) (h1 : v ≤ 7 * (n : Int) - ((cnt isFull T.cells (8 * n) : Nat) : Int) - ((cnt isDel T.cells (8 * n) : Nat) : Int) - T.left) (hl : 0 ≤ T.left ∧ T.left ≤ 1099511627776) :
    FnOk Tryz.prog 24 #[.agg #[.pointer (some ⟨pa, 0, none⟩), .int .i64 l.key, .int .i64 l.elem, .int .i64 l.ka, .int .i64 l.ea, .int .i64 l.cap, .int .i64 l.eo, .int .i64 l.bo, .int .i64 l.slot, .int .i64 l.group, .int .i64 (off : Nat)], .int .i64 v] [arenaH pa s] (fun r L => ∃ s', r = .int .i64 0 ∧ L = [arenaH pa s'] ∧ TabP s' off go l n e { T with left := T.left + v } ∧ SameBut s s' off go (n * gN l)) := by
  have hn8 := hP.n0
  have hw := hP.word (T' := { T with left := T.left + v }) (k := 5) (v := T.left + v) (by decide) (by omega) rfl (head_ne (.inr rfl) (.inr rfl) (.inr rfl) (.inr rfl) (.inl rfl) (.inr rfl)) rfl
  have h3 := cnt_three T.cells (8 * n)
  have hneg : IntKind.i64.wrap (0 - T.left) = -T.left := by rw [wrap_i64 (by omega)]; omega
  refine fn_intro en24 Tryz.func24 rfl rfl rfl fun Fr w0 => t_nm ?_
  refine t_pure (φ := s.ok) (fun w hw => arena_ok hw .here) fun hok0 => ?_
  have hst0 := hok0.stop_eq
  refine sr <| o_boxA rfl rfl fun b2 => asg rfl rfl <| lz <| l_q rfl (qlda rfl yA34 yS34) ?_
  refine lc1 rfl rfl rfl (StatP_ok pa off go n e s l T hP) ?_
  refine mv rfl rfl <| l_q rfl (q_extractL rfl ga) ?_
  refine l_q rfl (q_extractL rfl ga) ?_
  refine o_allocA rfl yZ47 fun b5 => sta rfl rfl rfl yS47 rfl rfl ?_
  refine asg rfl rfl <| lc <| t_seq <| sr <| mv rfl rfl <| l_q rfl (qi rfl rfl (b_neq ·)) <| lc <| t_if rfl (fun z => ?_) fun z => ?_
  · exact absurd rfl z
  · refine t_skip <| nz <| asg rfl rfl <| lc <| t_seq <| sr <| l_q rfl (qfa 1 rfl yU47 rfl rfl yS3) <| l_q rfl (qld rfl yA3) ?_
    refine l_q rfl (qquo rfl rfl) ?_
    refine mv rfl rfl <| lc <| t_block ?_
    rw [show (8 * (n : Int)) / 8 = ((n : Nat) : Int) by omega]
    refine t_loop (fun i : Nat => i ≤ n) (fun i => [(1, .int .i64 v), (2, .pointer (some ⟨b2, 0, none⟩)), (5, .pointer (some ⟨b5, 0, none⟩)), (7, .int .i64 (8 * (i : Int) - ((cnt isEmp T.cells (8 * i) : Nat) : Int))), (21, .int .i64 (n : Nat)), (22, .int .i64 (i : Nat))]) (fun _ => pt b5 (.cells #[.int .i64 T.used, .int .i64 (8 * (n : Int)), .int .i64 T.left, .int .i64 T.depth, .int .i64 T.pins, .int .i64 T.next, .bool (decide (T.kind = 4)), .int .i64 (go : Nat)] 47 (0, 0)) :: pt b2 (.cells #[.pointer (some ⟨pa, 0, none⟩), .int .i64 l.key, .int .i64 l.elem, .int .i64 l.ka, .int .i64 l.ea, .int .i64 l.cap, .int .i64 l.eo, .int .i64 l.bo, .int .i64 l.slot, .int .i64 l.group, .int .i64 (off : Nat)] 34 (0, 0)) :: arenaH pa s :: Fr) (fun i => n - i) 0 (Nat.zero_le _) ⟨rfl, rfl, rfl, rfl, rfl, rfl, trivial⟩ (by (exact en)) ?_
    intro i hi
    refine sr <| l_q rfl (qi rfl rfl (b_lss ·)) <| lc <| t_seq <| t_if rfl (fun q => ?_) fun q => ?_
    · skip
      obtain ⟨g1, g2, g3, g4⟩ := hP.grpAt (g := i) (by omega)
      have hge := goodP.end_le hok0 g1
      have hbd := Lay.bnd hP.hl
      have hes := emp_slots T.cells i
      have hc1 := cnt_le isEmp T.cells (8 * i)
      have hs8 : (slotsF (empS (grpC T.cells i))).length ≤ 8 := by unfold slotsF; exact Nat.le_trans (List.length_filter_le _ _) (by simp)
      refine t_skip <| n_code <| t_seq <| t_block <| sr <| mv rfl rfl <| asg rfl rfl <| lz <| l_q rfl (qlda rfl yA34 yS34) ?_
      refine l_q rfl (qlda rfl yA47 yS47) ?_
      refine mv rfl rfl <| lc1 rfl rfl rfl (group_ok pa off go i n l hP.hl T _ rfl (by omega)) ?_
      refine lc1 rfl rfl rfl (Word_ok pa (go + i * gN l) s l (grpC T.cells i) hP.hl g1 g2 g3) ?_
      refine mv rfl rfl <| l_q rfl (q_extractL rfl ga) ?_
      refine l_q rfl (q_extractL rfl ga) ?_
      refine asg rfl rfl <| asg rfl rfl <| lc <| t_seq <| sr <| mv rfl rfl <| l_q rfl (qi rfl rfl (b_neq ·)) <| lc <| t_if rfl (fun y => ?_) fun y => ?_
      · exact absurd rfl y
      · refine t_skip <| n_code <| t_region <| mv rfl rfl <| mv rfl rfl <| lc1 rfl rfl rfl (MatchE_ok g3) ?_
        refine lc1 rfl rfl rfl (Count_ok (empS (grpC T.cells i))) ?_
        refine l_q rfl (qsub rfl rfl) ?_
        refine l_q rfl (qadd rfl rfl) ?_
        refine asg rfl rfl <| l_nil <| n_blk <| n_code <| t_region <| l_q rfl (qadd rfl rfl) ?_
        refine mv rfl rfl <| l_nil ?_
        apply n_again ((i + 1))
        · exact by omega
        · omega
        · exact ⟨rfl, rfl, rfl, congrArg (fun z => some (Value.int .i64 z)) (by rw [hes]; push_cast; omega), rfl, rfl, trivial⟩
        · exact en
    · skip
      obtain rfl : i = n := by omega
      have hc1 := cnt_le isEmp T.cells (8 * i)
      refine xt rfl <| n_code <| t_seq <| t_seq <| t_draw mixed ?_
      apply dq 0 rfl
      · exact yq (q_move rfl)
      apply dq 1 rfl
      · exact yq (qfa 2 rfl yU47 rfl rfl yS3)
      apply dq 2 rfl
      · exact yq (qld rfl yA3)
      apply dq 3 rfl
      · exact yq (q_un rfl (u_neg ·))
      apply dq 4 rfl
      · exact yq (qi rfl rfl (b_lss ·))
      apply dq 5 rfl
      · exact yq (q_move rfl)
      rw [hneg]
      refine d_pt (t := 48) rfl (fun p1 => ?_) fun p1 => ?_
      · omega
      · apply dq 6 rfl
        · exact yq_on rfl rfl (q_move rfl)
        apply dq 7 rfl
        · exact yq_on rfl rfl (qfa 1 rfl yU47 rfl rfl yS3)
        apply dq 8 rfl
        · exact yq_on rfl rfl (qld rfl yA3)
        apply dq 10 rfl
        · exact yq_on rfl rfl (q_move rfl)
        apply dq 12 rfl
        · exact yq_on rfl rfl (qfa 2 rfl yU47 rfl rfl yS3)
        apply dq 13 rfl
        · exact yq_on rfl rfl (qld rfl yA3)
        refine d_eff1 [8, 5, 7, 4, 0, 3, 2, 1] [13, 12, 10, 6] 9 [(51, _), (48, _)] gO ⟨rfl, rfl, trivial⟩ (by kernel_rfl) (by kernel_rfl) fun Ex => ?_
        refine l_on rfl rfl <| lc1 rfl rfl rfl (Most_n hP.he hP.hn) ?_
        refine l_nil ?_
        apply n_d
        · refine ⟨?_, ?_, ?_, ?_, trivial⟩
          · apply ya rfl rfl; exact yq_on rfl rfl (qld rfl yA3)
          · apply ya rfl rfl; exact yq_on rfl rfl (qfa 2 rfl yU47 rfl rfl yS3)
          · apply ya rfl rfl; exact yq_on rfl rfl (q_move rfl)
          · apply ya rfl rfl; exact yq_on rfl rfl (q_move rfl)
        apply dq 11 rfl
        · exact yq_on rfl rfl (qsub rfl rfl)
        apply dq 14 rfl
        · exact yq_on rfl rfl (qsub rfl rfl)
        apply dq 15 rfl
        · exact yq_on rfl rfl (qi rfl rfl (b_gtr ·))
        apply dq 16 rfl
        · exact yq (q_pk rfl rfl)
        refine d_end (by kernel_rfl) ?_
        refine n_code <| t_if rfl (fun p2 => ?_) fun p2 => ?_
        · omega
        · refine t_skip <| nz <| l_q rfl (qlda rfl yA34 yS34) ?_
          refine l_q rfl (qfa 2 rfl yU47 rfl rfl yS3) <| l_q rfl (qld rfl yA3) ?_
          refine mv rfl rfl <| l_q rfl (qadd rfl rfl) ?_
          refine lcf rfl rfl rfl (set_ok pa off 5 s l 40 (T.left + v) rfl (by decide) hP.gh) ?_
          rintro r2 L' rfl
          refine l_nm ?_
          exact lz <| asg rfl rfl <| lc <| rt <| fr1 rfl ([arenaH pa (s.put (off + 8 * 5) 8 (byteN (IntKind.u64.wrap (T.left + v))))]) (.tmp rfl) ⟨_, rfl, rfl, hw.1, hw.2⟩
end
end Go.Proofs.YtgijnebgchkenaaGreatDoor.Table
end
