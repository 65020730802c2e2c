import Derived.Test.YtgijnebgchkenaaGreatDoorPruneT
import Derived.Test.YtgijnebgchkenaaGreatDoorTableC
import Derived.Test.YtgijnebgchkenaaGreatDoorGrowD
/- Contracts of package grow: Prune. -/
set_option linter.unusedVariables false
set_option linter.unusedSimpArgs false
set_option maxRecDepth 100000
namespace Go.Proofs.YtgijnebgchkenaaGreatDoor.Grow
open Go.RowKit Go.Proofs Go.Proofs.YtgijnebgchkenaaGreatDoor.Eng Go.Proofs.YtgijnebgchkenaaGreatDoor.Ty Go.Proofs.YtgijnebgchkenaaGreatDoor.Bits Go.Proofs.YtgijnebgchkenaaGreatDoor.Mem Go.Proofs.YtgijnebgchkenaaGreatDoor.Search Go.Proofs.YtgijnebgchkenaaGreatDoor.Arena Go.Proofs.YtgijnebgchkenaaGreatDoor.CtrlB Go.Proofs.YtgijnebgchkenaaGreatDoor.Ctrl Go.Proofs.YtgijnebgchkenaaGreatDoor.Layout Go.Proofs.YtgijnebgchkenaaGreatDoor.GroupB Go.Proofs.YtgijnebgchkenaaGreatDoor.Group Go.Proofs.YtgijnebgchkenaaGreatDoor.Probe Go.Proofs.YtgijnebgchkenaaGreatDoor.TableB Go.Proofs.YtgijnebgchkenaaGreatDoor.TableI Go.Proofs.YtgijnebgchkenaaGreatDoor.Table Go.Proofs.YtgijnebgchkenaaGreatDoor.Bench Go.Proofs.YtgijnebgchkenaaGreatDoor.Cells Go.Proofs.YtgijnebgchkenaaGreatDoor.Refill Go.Proofs.YtgijnebgchkenaaGreatDoor.Oracle Go.Proofs.YtgijnebgchkenaaGreatDoor.Ref03

/-- A row of bools. -/
def boolsV (b : Nat → Bool) (n : Nat) : List Value := (List.range n).map fun g => .bool (b g)
theorem boolsV_len (b : Nat → Bool) (n : Nat) : (boolsV b n).length = n := by simp [boolsV]
theorem boolsV_get {b : Nat → Bool} {n g : Nat} (h : g < n) : (boolsV b n)[g]? = some (.bool (b g)) := by
  unfold boolsV
  rw [List.getElem?_map, List.getElem?_range h]; rfl
theorem boolsV_new (n : Nat) : List.replicate n (Value.bool false) = boolsV (fun _ => false) n := by
  unfold boolsV
  rw [List.map_const', List.length_range]
theorem markB_zero (b : Nat → Bool) (n : Nat) (home : Int) : markB b n home 0 = b := by
  funext g
  unfold markB
  simp
theorem boolsV_eq {b c : Nat → Bool} {n : Nat} (h : ∀ g, g < n → b g = c g) : boolsV b n = boolsV c n := by
  unfold boolsV
  exact List.map_congr_left fun g hg => by rw [h g (List.mem_range.1 hg)]
theorem boolsV_set {b : Nat → Bool} {n g : Nat} : (boolsV b n).set g (.bool true) = boolsV (fun x => b x || x == g) n := by
  apply List.ext_getElem?
  intro i
  rw [List.getElem?_set, boolsV_len]
  by_cases hi : i < n
  · rw [boolsV_get hi, boolsV_get hi]
    by_cases hg : g = i
    · subst hg; simp [hi]
    · rw [if_neg hg]; have : (i == g) = false := by simp; omega
      rw [this]; simp
  · rw [List.getElem?_eq_none (l := boolsV b n) (by rw [boolsV_len]; omega), List.getElem?_eq_none (l := boolsV (fun x => b x || x == g) n) (by rw [boolsV_len]; omega)]
    split
    · split
      · omega
      · rfl
    · rfl
theorem mark_set {b : Nat → Bool} {n : Nat} {home : Int} {k : Nat} : (boolsV (markB b n home k) n).set (0 + ((gk home n k : Nat) : Int).toNat) (.bool true) = boolsV (markB b n home (k + 1)) n := by
  rw [Nat.zero_add, Int.toNat_natCast, boolsV_set]
  refine boolsV_eq fun g _ => ?_
  rw [Bool.eq_iff_iff, Bool.or_eq_true, markB_iff, markB_iff]
  constructor
  · rintro ((h | ⟨i, h1, h2⟩) | h)
    · exact .inl h
    · exact .inr ⟨i, by omega, h2⟩
    · exact .inr ⟨k, by omega, (by simpa using h : g = _).symm⟩
  · rintro (h | ⟨i, h1, h2⟩)
    · exact .inl (.inl h)
    · by_cases q : i = k
      · subst q; exact .inr (by simpa using h2.symm)
      · exact .inl (.inr ⟨i, by omega, h2⟩)
theorem encG_congr {l : Lay} (hl : LayN l) {cs cs' : Nat → Cell} (h : ∀ i, i < 8 → cs i = cs' i) {j : Nat} (hj : j < gN l) : encG l cs j = encG l cs' j := by
  have h1 := hl.g_eq
  unfold encG
  by_cases q : j < 8
  · rw [if_pos q, if_pos q, h j q]
  · rw [if_neg q, if_neg q, h ((j - 8) / sN l) (Nat.div_lt_of_lt_mul (by omega))]
theorem TabP.cellsEq {s : ArS} {off go : Nat} {l : Lay} {n e : Nat} {T : Tb} (h : TabP s off go l n e T) {c : Nat → Cell} (hc : ∀ j, j < 8 * n → T.cells j = c j) : TabP s off go l n e { T with cells := c } :=
  ⟨h.hl, h.he, h.hn, ⟨fun k hk => by have := h.hT.head k hk; rw [this]; unfold headV; rfl, fun g hg a ha => by
    rw [h.hT.body g hg a ha]
    exact encG_congr (layN h.hl) (fun i hi => hc _ (by omega)) ha, fun i hi => by show (c i).ok l; rw [← hc i hi]; exact h.hT.okc i hi⟩, h.gh, h.gg, h.hr, h.dj⟩
/-- The cells when the first i groups are done. -/
def upT (cells : Nat → Cell) (b : Nat → Bool) (i j : Nat) : Cell := if j < 8 * i then pruneT cells b j else cells j
theorem upT_zero (cells : Nat → Cell) (b : Nat → Bool) : upT cells b 0 = cells := by funext j; unfold upT; rw [if_neg (by omega)]
theorem upT_skip {cells : Nat → Cell} {b : Nat → Bool} {i : Nat} (h : b i = true) : upT cells b (i + 1) = upT cells b i := by
  funext j
  unfold upT
  by_cases h1 : j < 8 * i
  · rw [if_pos h1, if_pos (by omega)]
  · rw [if_neg h1]
    split
    · exact prune_keep (by rw [show j / 8 = i by omega]; exact h)
    · rfl
theorem upT_grp {cells : Nat → Cell} {b : Nat → Bool} {i : Nat} : grpC (upT cells b i) i = grpC cells i := by
  funext r
  unfold grpC upT
  rw [if_neg (by omega)]
theorem upT_do {cells : Nat → Cell} {b : Nat → Bool} {i : Nat} (h : b i = false) : (fun j => if j / 8 = i then pruneC (grpC cells i) (j % 8) else upT cells b i j) = upT cells b (i + 1) := by
  funext j
  unfold upT
  by_cases h1 : j / 8 = i
  · rw [if_pos h1, if_pos (by omega)]
    unfold pruneC pruneT grpC
    rw [h1, h, show 8 * i + j % 8 = j by omega]
    simp
  · rw [if_neg h1]
    by_cases h2 : j < 8 * i
    · rw [if_pos h2, if_pos (by omega)]
    · rw [if_neg h2, if_neg (by omega)]
theorem del_slots (cells : Nat → Cell) (i : Nat) : cnt isDel cells (8 * (i + 1)) = cnt isDel cells (8 * i) + delN (grpC cells i) := by
  rw [show 8 * (i + 1) = 8 * i + 8 by omega, cnt_more]
  congr 2
theorem del_skip {cells : Nat → Cell} {b : Nat → Bool} {i : Nat} (h : b i = true) : delN (grpC (pruneT cells b) i) = delN (grpC cells i) := by
  have : ∀ r, r < 8 → pruneT cells b (8 * i + r) = cells (8 * i + r) := fun r hr => prune_keep (by rw [show (8 * i + r) / 8 = i by omega]; exact h)
  unfold delN grpC slotsF
  congr 1
  exact List.filter_congr fun r hr => by dsimp only; rw [this r (by simpa using hr)]
theorem del_do {cells : Nat → Cell} {b : Nat → Bool} {i : Nat} (h : b i = false) : delN (grpC (pruneT cells b) i) = 0 := by
  unfold delN grpC slotsF
  rw [List.length_eq_zero_iff, List.filter_eq_nil_iff]
  intro r hr
  have hr : r < 8 := by simpa using hr
  dsimp only
  unfold pruneT
  rw [show (8 * i + r) / 8 = i by omega, h]
  cases cells (8 * i + r) <;> simp [isDel]
theorem Home_ok (h : Int) (hh : 0 ≤ h ∧ h < 18446744073709551616) : FnOk Tryz.prog 108 #[.int .u64 h] [] (fun v L => v = .int .u64 (h / 128) ∧ L = []) := by
  refine fn_intro en108 Tryz.func108 rfl rfl rfl fun Fr w0 => t_nm ?_
  refine sr <| asg rfl rfl <| lz <| mv rfl rfl ?_
  apply l_q rfl
  · apply qi rfl rfl; first | exact fun w => b_shr_c (m := 128) w (by decide) (by decide) (by omega) | exact fun w => b_shr w (by decide)
  refine asg rfl rfl <| lc <| rt <| fr1 rfl ([]) (.tmp rfl) ?_
  exact ⟨by first | rfl | (congr 1), rfl⟩
theorem Prune_ok (G : HP) (hGT : TabOk G) (hGO : OddOk G) (pa off po bm n e : Nat) (s : ArS) (l : Lay) (T : Tb) (m : List (ByteArray × Value)) (hm : OverOk m) (sd : Int) (hsd : 0 ≤ sd ∧ sd < 18446744073709551616) (hP : TabP s off (off + 64) l n e T) (hT : LT n (hashF m sd) T) :
    FnOk Tryz.prog 52 #[.agg #[.pointer (some ⟨pa, 0, none⟩), .int .i64 l.key, .int .i64 l.elem, .int .i64 l.ka, .int .i64 l.ea, .int .i64 l.cap, .int .i64 l.eo, .int .i64 l.bo, .int .i64 l.slot, .int .i64 l.group, .int .i64 (off : Nat)], .pointer (some ⟨po, 0, none⟩), .int .u64 sd] [pt po (.cells #[.map (some bm)] 191 (0, 0)), mapH (fun k : ByteArray => Value.string k) bm m, G, arenaH pa s] (fun v L => ∃ (s' : ArS) (b : Nat → Bool) (k : Nat), v = .tuple #[.int .i64 (k : Nat), .int .i64 0] ∧ L = [pt po (.cells #[.map (some bm)] 191 (0, 0)), mapH (fun k : ByteArray => Value.string k) bm m, G, arenaH pa s'] ∧ PB n (hashF m sd) T.cells b (8 * n) ∧ cnt isDel T.cells (8 * n) = cnt isDel (pruneT T.cells b) (8 * n) + k ∧
      TabP s' off (off + 64) l n e { T with cells := pruneT T.cells b, left := T.left + (k : Int) } ∧ SameBut s s' off (off + 64) (n * gN l)) := by
  have hn8 := hP.n0
  have hLy := layN hP.hl
  have hkk := hLy.k
  have hbd := Lay.bnd hP.hl
  refine fn_intro en52 Tryz.func52 rfl rfl rfl fun Fr w0 => t_nm ?_
  refine sr <| o_boxA rfl rfl fun b3 => o_box1 rfl rfl rfl fun b4 => o_box1 rfl rfl rfl fun b5 => asg rfl rfl <| asg rfl rfl <| lz <| l_q rfl (qlda rfl yA34 yS34) ?_
  refine lc1 rfl rfl rfl (StatP_ok pa off (off + 64) n e s l T hP) ?_
  refine mv rfl rfl <| l_q rfl (q_extractL rfl ga) ?_
  refine l_q rfl (q_extractL rfl ga) ?_
  refine o_allocA rfl yZ47 fun b8 => sta rfl rfl rfl yS47 rfl rfl ?_
  refine asg rfl rfl <| lc <| t_seq <| sr <| mv rfl rfl <| l_q rfl (qi rfl rfl (b_neq ·)) <| lc <| t_if rfl (fun z => ?_) fun z => ?_
  · exact absurd rfl z
  · skip
    refine t_skip <| nz <| l_q rfl (qfa 1 rfl yU47 rfl rfl yS3) <| l_q rfl (qld rfl yA3) ?_
    refine l_q rfl (qquo rfl rfl) ?_
    apply o_makeSlice1 rfl rfl rfl yU112 yI4 rfl (by omega) (by omega)
    intro b31
    refine o_alloc1 rfl yZ112 rfl fun b10 => st rfl rfl rfl yS112 rfl ?_
    refine lc <| t_seq <| sr <| l_q rfl (qlda rfl yA34 yS34) ?_
    rw [show (8 * (n : Int) / 8).toNat = n by omega, boolsV_new]
    refine lcf rfl rfl rfl (TCells_ok pa off l) ?_
    rintro v L' ⟨bc, rfl, rfl⟩
    refine l_nm ?_
    refine lc <| t_block ?_
    apply t_rangeH (p := (fun k (b : Nat → Bool) => ∃ j, j ≤ 8 * n ∧ cnt isFull T.cells j = k ∧ PB n (hashF m sd) T.cells b j)) (J := (fun _ b => [pt b10 (.cells #[.slice (some ⟨b31, 0, none⟩) n n] 112 (0, 0)), ownS 4 1 (.slice (some ⟨b31, 0, none⟩) n n) n (boolsV b n), pt b5 (.cells #[.int .u64 sd] 52 (0, 0)), pt b4 (.cells #[.pointer (some ⟨po, 0, none⟩)] 74 (0, 0)), pt b3 (.cells #[.pointer (some ⟨pa, 0, none⟩), .int .i64 l.key, .int .i64 l.elem, .int .i64 l.ka, .int .i64 l.ea, .int .i64 l.cap, .int .i64 l.eo, .int .i64 l.bo, .int .i64 l.slot, .int .i64 l.group, .int .i64 (off : Nat)] 34 (0, 0)), pt po (.cells #[.map (some bm)] 191 (0, 0)), mapH (fun k : ByteArray => Value.string k) bm m, G, arenaH pa s])) (q := (fun _ (y : Code × Unit) => False)) (Jx := (fun _ _ => [])) (x0 := (fun _ => false)) (hc := TCells_it pa off (off + 64) n e bc s l T hP) (hr := rfl) (hg := rfl)
    · exact pk
    · exact ⟨0, Nat.zero_le _, rfl, PB.new⟩
    · (try dsimp only); (try simp only [Int.natCast_zero, Nat.sub_zero]); exact pk
    · (try dsimp only); (try simp only [Int.natCast_zero, Nat.sub_zero]); exact pk
    · rfl
    · exact cellsV_two
    · rintro l' rc Fr' w1 k x b hrd hpn hx ⟨j, hj8, hj, hB⟩
      obtain ⟨i1, hi8, hfi, hck, rfl⟩ := cellsV_at hx
      have hj' : cnt isFull T.cells j = cnt isFull T.cells i1 := hj.trans hck.symm
      have hk1 : cnt isFull T.cells (i1 + 1) = k + 1 := by rw [cnt_succ, if_pos hfi, hck]
      have hok1 := hP.hT.okc i1 hi8
      obtain ⟨t1, hct⟩ := full_of hfi
      rw [hct] at hok1
      obtain ⟨_, _, hks, hes, hb0, hb1⟩ := hok1
      have hhb := hashF_bnd hm sd (T.cells i1).keyS
      have hB2 := hB.to (k := i1) (cnt_le_at hj' hfi) (fun i h1 h2 => cnt_gap (cnt_le_at hj' hfi) hj'.symm h1 h2)
      refine t_nm ?_
      refine sr <| o_alloc1 rfl yZ3 rfl fun b11 => st rfl rfl rfl yS3 rfl ?_
      refine lr <| o_allocA rfl yZ54 fun b12 => sta rfl rfl rfl yS54 rfl rfl ?_
      refine l_nil ?_
      apply n_begin
      · exact tk
      · assumption
      refine t_block <| t_seq <| t_draw mixed ?_
      apply dq 0 rfl
      · exact yq (qld rfl yA74)
      apply dq 1 rfl
      · exact yq (qld rfl yA52)
      apply dq 2 rfl
      · exact yq (qfa 2 rfl yU54 rfl rfl yS9)
      apply dq 3 rfl
      · exact yq (qld rfl yA9)
      apply dq 6 rfl
      · exact yq (qld rfl yA112)
      apply dq 7 rfl
      · exact yq (ql rfl yU112)
      refine d_eff1 [0, 1, 3, 2] [7, 6] 4 [(36, _), (37, _), (39, _)] gO ⟨rfl, rfl, rfl, trivial⟩ (by kernel_rfl) (by kernel_rfl) fun Ex => ?_
      refine lc1 rfl rfl rfl (Hash_ok G hGO po bm m hm sd hsd (T.cells i1).keyS (by omega)) ?_
      refine l_nil ?_
      apply n_d
      · refine ⟨?_, ?_, trivial⟩
        · apply ya rfl rfl; exact yq (ql rfl yU112)
        · apply ya rfl rfl; exact yq (qld rfl yA112)
      refine d_eff1 [] [7, 6] 5 [(40, _)] gO ⟨rfl, trivial⟩ (by kernel_rfl) (by kernel_rfl) fun Ex => ?_
      refine lc1 rfl rfl rfl (Home_ok _ hhb) ?_
      refine l_nil ?_
      apply n_d
      · refine ⟨?_, ?_, trivial⟩
        · apply ya rfl rfl; exact yq (ql rfl yU112)
        · apply ya rfl rfl; exact yq (qld rfl yA112)
      refine d_eff1 [7, 6] [] 8 [(41, _), (43, _)] gO ⟨rfl, rfl, trivial⟩ (by kernel_rfl) (by kernel_rfl) fun Ex => ?_
      refine lcf rfl rfl rfl (Order_n _ hP.he hP.hn) ?_
      rintro v L' ⟨bh, bg, rfl, rfl⟩
      refine l_nm ?_
      refine l_nil ?_
      apply n_d
      · exact trivial
      refine d_end (by kernel_rfl) ?_
      refine n_code <| t_block ?_
      rw [show boolsV b n = boolsV (markB b n (hashF m sd (T.cells i1).keyS / 128) 0) n by rw [markB_zero]]
      apply t_rangeN (p := (fun k2 (_ : Unit) => k2 ≤ n ∧ ∀ i, i < k2 → gk (hashF m sd (T.cells i1).keyS / 128) n i ≠ i1 / 8)) (J := (fun k2 _ => [pt b11 (.cells #[.int .i64 (i1 : Nat)] 3 (0, 0)), pt b10 (.cells #[.slice (some ⟨b31, 0, none⟩) n n] 112 (0, 0)), ownS 4 1 (.slice (some ⟨b31, 0, none⟩) n n) n (boolsV (markB b n (hashF m sd (T.cells i1).keyS / 128) k2) n), pt b5 (.cells #[.int .u64 sd] 52 (0, 0)), pt b4 (.cells #[.pointer (some ⟨po, 0, none⟩)] 74 (0, 0)), pt b3 (.cells #[.pointer (some ⟨pa, 0, none⟩), .int .i64 l.key, .int .i64 l.elem, .int .i64 l.ka, .int .i64 l.ea, .int .i64 l.cap, .int .i64 l.eo, .int .i64 l.bo, .int .i64 l.slot, .int .i64 l.group, .int .i64 (off : Nat)] 34 (0, 0)), pt po (.cells #[.map (some bm)] 191 (0, 0)), mapH (fun k : ByteArray => Value.string k) bm m, G, arenaH pa s])) (q := (fun k2 (y : Code × Unit) => y.1 = .exit 2 ∧ k2 < n ∧ gk (hashF m sd (T.cells i1).keyS / 128) n k2 = i1 / 8)) (Jx := (fun k2 _ => [pt b10 (.cells #[.slice (some ⟨b31, 0, none⟩) n n] 112 (0, 0)), ownS 4 1 (.slice (some ⟨b31, 0, none⟩) n n) n (boolsV (markB b n (hashF m sd (T.cells i1).keyS / 128) k2) n), pt b5 (.cells #[.int .u64 sd] 52 (0, 0)), pt b4 (.cells #[.pointer (some ⟨po, 0, none⟩)] 74 (0, 0)), pt b3 (.cells #[.pointer (some ⟨pa, 0, none⟩), .int .i64 l.key, .int .i64 l.elem, .int .i64 l.ka, .int .i64 l.ea, .int .i64 l.cap, .int .i64 l.eo, .int .i64 l.bo, .int .i64 l.slot, .int .i64 l.group, .int .i64 (off : Nat)] 34 (0, 0)), pt po (.cells #[.map (some bm)] 191 (0, 0)), mapH (fun k : ByteArray => Value.string k) bm m, G, arenaH pa s])) (x0 := ()) (hc := order_itn bh bg (hashF m sd (T.cells i1).keyS / 128) (by omega) hP.he hP.hn) (hr := rfl) (hg := rfl)
      · exact tk
      · exact pk
      · exact ⟨Nat.zero_le _, fun i h => absurd h (Nat.not_lt_zero i)⟩
      · (try dsimp only); (try simp only [Int.natCast_zero, Nat.sub_zero]); exact pk
      · rfl
      · (intro x hx; simp only [way, List.mem_map] at hx; obtain ⟨_, _, rfl⟩ := hx; rfl)
      · intro ll2 rc2 Fr2 w2 k2 x2 u2 hrd2 hpn2 hx2 ⟨hk2, hne⟩
        obtain ⟨hkn, rfl⟩ := way_get hx2
        rw [← gk_cast hn8.1]
        have hgk := gk_lt (home := hashF m sd (T.cells i1).keyS / 128) (k := k2) hn8.1
        have hset := mark_set (b := b) (n := n) (home := hashF m sd (T.cells i1).keyS / 128) (k := k2)
        refine t_nm ?_
        refine t_region <| asg rfl rfl <| l_nil ?_
        apply n_begin
        · exact tk
        · assumption
        refine t_block <| t_seq <| sr <| mv rfl rfl <| l_q rfl (qld rfl yA3) ?_
        refine l_q rfl (qquo rfl rfl) ?_
        refine l_q rfl (qi rfl rfl (b_eql ·)) <| lc <| t_if rfl (fun q1 => ?_) fun q1 => ?_
        · refine xe rfl ?_
          apply r_left (.inr ⟨_, rfl, rfl⟩) (()) (⟨rfl, hkn, by omega⟩)
          exact en
        · refine t_skip <| n_code <| t_region <| l_q rfl (qld rfl yA112) ?_
          refine mv rfl rfl <| l_q rfl (q_indexAddr1 rfl rfl yU112 yS4 (by omega)) ?_
          refine o_storeOwn rfl rfl rfl yS4 rfl tk (by omega) hset ?_
          refine l_nil <| n_blk ?_
          apply r_next (by assumption) (by assumption) (()) (⟨by omega, fun i hi => by rcases Nat.lt_or_ge i k2 with q | q; exact hne i q; rw [show i = k2 by omega]; omega⟩)
          exact en
      · intro u2 ⟨_, hne⟩
        obtain ⟨jw, hw1, hw2, _⟩ := hT.key.way i1 hi8 _ _ _ _ hct
        rw [way_length] at hne
        exact absurd hw2 (hne jw hw1)
      · rintro k2 ⟨jc, u⟩ hk2 ⟨rfl, hkn, hgk⟩
        refine t_nm ?_
        refine xt rfl <| n_blk ?_
        apply r_next (by assumption) (by assumption) ((markB b n (hashF m sd (T.cells i1).keyS / 128) k2)) (⟨i1 + 1, by omega, hk1, hB2.mark hP.hn hfi hkn hgk⟩)
        exact en
    · intro b0 b ⟨j, hj8, hj, hB⟩
      rw [cellsV_len] at hj
      have hBB := hB.to (k := 8 * n) hj8 (fun i h1 h2 => cnt_gap hj8 hj.symm h1 h2)
      refine n_nm ?_
      refine n_blk <| nz <| asg rfl rfl <| lc <| t_seq <| sr <| l_q rfl (qld rfl yA112) ?_
      refine l_q rfl (ql rfl yU112) <| mv rfl rfl <| lc <| t_block ?_
      refine t_loop (fun x : Nat × ArS × Nat => x.1 ≤ n ∧ TabP x.2.1 off (off + 64) l n e { T with cells := upT T.cells b x.1 } ∧ SameBut s x.2.1 off (off + 64) (n * gN l) ∧ cnt isDel T.cells (8 * x.1) = cnt isDel (pruneT T.cells b) (8 * x.1) + x.2.2) (fun x => [(3, .pointer (some ⟨b3, 0, none⟩)), (10, .pointer (some ⟨b10, 0, none⟩)), (14, .int .i64 (x.2.2 : Nat)), (54, .int .i64 (n : Nat)), (55, .int .i64 (x.1 : Nat))]) (fun x => pt b10 (.cells #[.slice (some ⟨b31, 0, none⟩) n n] 112 (0, 0)) :: ownS 4 1 (.slice (some ⟨b31, 0, none⟩) n n) n (boolsV b n) :: pt b3 (.cells #[.pointer (some ⟨pa, 0, none⟩), .int .i64 l.key, .int .i64 l.elem, .int .i64 l.ka, .int .i64 l.ea, .int .i64 l.cap, .int .i64 l.eo, .int .i64 l.bo, .int .i64 l.slot, .int .i64 l.group, .int .i64 (off : Nat)] 34 (0, 0)) :: pt po (.cells #[.map (some bm)] 191 (0, 0)) :: mapH (fun k : ByteArray => Value.string k) bm m :: G :: arenaH pa x.2.1 :: pt b0 (.deferred (some [])) :: Fr) (fun x => n - x.1) (0, s, 0) ⟨Nat.zero_le _, by rw [upT_zero]; exact hP, SameBut.refl _ _ _ _, rfl⟩ ⟨rfl, rfl, rfl, rfl, rfl, trivial⟩ (by (exact en)) ?_
      rintro ⟨i, s1, k1⟩ ⟨hi, hP1, hS1, hk1⟩
      dsimp only at hi hP1 hS1 hk1 ⊢
      refine sr <| l_q rfl (qi rfl rfl (b_lss ·)) <| lc <| t_seq <| t_if rfl (fun q => ?_) fun q => ?_
      · skip
        have hget : (boolsV b n)[0 + ((i : Nat) : Int).toNat]? = some (.bool (b i)) := by rw [Nat.zero_add, Int.toNat_natCast]; exact boolsV_get (by omega)
        refine t_skip <| n_code <| t_seq <| t_block <| sr <| mv rfl rfl <| asg rfl rfl <| lz <| l_q rfl (qlda rfl yA34 yS34) ?_
        refine mv rfl rfl <| lc1 rfl rfl rfl (TGroup_ok pa off (off + 64) n e s1 l _ hP1 i (by omega)) ?_
        refine mv rfl rfl <| l_q rfl (q_extractL rfl ga) ?_
        refine l_q rfl (q_extractL rfl ga) ?_
        refine o_allocA rfl yZ63 fun b16 => sta rfl rfl rfl yS63 rfl rfl ?_
        refine asg rfl rfl <| lz <| l_q rfl (qld rfl yA112) ?_
        refine mv rfl rfl <| l_q rfl (q_indexAddr1 rfl rfl yU112 yS4 (by omega)) ?_
        refine l_q rfl (q_loadOwn rfl yA4 tk hget) ?_
        refine l_q rfl (q_un rfl (u_not ·)) <| lc ?_
        obtain ⟨g1, g2, g3, g4⟩ := hP1.grpAt (g := i) (by omega)
        rw [upT_grp] at g2 g3
        have hd1 := del_slots T.cells i
        have hd2 := del_slots (pruneT T.cells b) i
        have hcd := cnt_le isDel T.cells (8 * i)
        have hd8 : delN (grpC T.cells i) ≤ 8 := by unfold delN slotsF; exact Nat.le_trans (List.length_filter_le _ _) (by simp)
        refine t_if rfl (fun y => ?_) fun y => ?_
        · refine sr <| l_q rfl (qlda rfl yA63 yS63) ?_
          have hbi : b i = false := by simpa using y
          have hd3 := del_do (cells := T.cells) hbi
          have hg2 := hP1.grp (g := i) (by omega) (pruneC_ok g3)
          refine lc1 rfl rfl rfl (Group.Prune_ok pa (off + 64 + i * gN l) s1 l (grpC T.cells i) hP.hl g1 g2 g3) ?_
          refine mv rfl rfl <| l_q rfl (q_extractL rfl ga) ?_
          refine l_q rfl (q_extractL rfl ga) ?_
          refine asg rfl rfl <| asg rfl rfl <| lr <| mv rfl rfl <| mv rfl rfl <| l_q rfl (qadd rfl rfl) ?_
          refine asg rfl rfl <| l_nil <| n_blk <| n_code <| t_region <| l_q rfl (qadd rfl rfl) ?_
          refine mv rfl rfl <| l_nil ?_
          apply n_again ((i + 1, s1.put (off + 64 + i * gN l) (gN l) (encG l (pruneC (grpC T.cells i))), k1 + delN (grpC T.cells i)))
          · exact ⟨Nat.succ_le_of_lt (by omega), by have := hg2.1; dsimp only at this; rw [upT_do hbi] at this; exact this, hS1.trans hg2.2, by dsimp only; omega⟩
          · (dsimp only; omega)
          · exact ⟨rfl, rfl, congrArg (fun z => some (Value.int .i64 z)) (by push_cast; omega), rfl, rfl, trivial⟩
          · exact en
        · refine t_skip <| n_blk <| n_code <| t_region <| l_q rfl (qadd rfl rfl) ?_
          refine mv rfl rfl <| l_nil ?_
          have hbi : b i = true := by simpa using y
          have hd3 := del_skip (cells := T.cells) hbi
          apply n_again ((i + 1, s1, k1))
          · exact ⟨Nat.succ_le_of_lt (by omega), by rw [upT_skip hbi]; exact hP1, hS1, by dsimp only; omega⟩
          · (dsimp only; omega)
          · exact ⟨rfl, rfl, rfl, rfl, rfl, trivial⟩
          · exact en
      · skip
        obtain rfl : i = n := by omega
        have hP2 : TabP s1 off (off + 64) l i e { T with cells := pruneT T.cells b } := TabP.cellsEq hP1 fun j hj => by show upT T.cells b i j = _; unfold upT; rw [if_pos hj]
        have hcf : cnt isFull (pruneT T.cells b) (8 * i) = cnt isFull T.cells (8 * i) := by unfold cnt; congr 1; funext i; exact prune_full
        have hroom := hT.cnt.left
        have hroom2 := hT.cnt.room
        refine xt rfl <| nz <| mv rfl rfl <| l_q rfl (qlda rfl yA34 yS34) ?_
        refine mv rfl rfl ?_
        refine lcf rfl rfl rfl (AddLeft_ok pa off (off + 64) i e s1 l _ hP2 (k1 : Nat) (by omega) (by dsimp only; rw [hcf]; omega) (by dsimp only; omega)) ?_
        rintro r2 L' ⟨s', rfl, rfl, hP3, hS3⟩
        refine l_nm ?_
        refine asg rfl rfl <| asg rfl rfl <| lc <| rt ?_
        apply f_retm (.inl rfl) [b0] ([pt po (.cells #[.map (some bm)] 191 (0, 0)), mapH (fun k : ByteArray => Value.string k) bm m, G, arenaH pa s'])
        · repeat (first | with_reducible exact TakeM.nil | apply TakeM.cons | with_reducible exact Take.here | apply Take.there)
        · apply res2 rfl
          · exact .tmp rfl
          · exact .tmp rfl
        · exact ⟨s', b, k1, rfl, rfl, hBB, hk1, hP3, hS1.trans hS3⟩
        · exact en
    · rintro b0 k2 ⟨jc, y⟩ hk2 hF
      exact hF.elim
end Go.Proofs.YtgijnebgchkenaaGreatDoor.Grow
