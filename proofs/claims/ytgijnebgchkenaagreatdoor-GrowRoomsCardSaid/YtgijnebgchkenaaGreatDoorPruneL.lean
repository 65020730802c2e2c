/- GrowPrunes answers true. -/
import Derived.Test.YtgijnebgchkenaaGreatDoorPruneK
set_option linter.unusedVariables false
set_option linter.unusedSimpArgs false
set_option maxRecDepth 100000
namespace Go.Proofs.YtgijnebgchkenaaGreatDoor.Grow
open Go.RowKit Go.Proofs Go.Proofs.YtgijnebgchkenaaGreatDoor.Eng Go.Proofs.YtgijnebgchkenaaGreatDoor.Ty Go.Proofs.YtgijnebgchkenaaGreatDoor.Bits Go.Proofs.YtgijnebgchkenaaGreatDoor.Mem Go.Proofs.YtgijnebgchkenaaGreatDoor.Search Go.Proofs.YtgijnebgchkenaaGreatDoor.Arena Go.Proofs.YtgijnebgchkenaaGreatDoor.CtrlB Go.Proofs.YtgijnebgchkenaaGreatDoor.Ctrl Go.Proofs.YtgijnebgchkenaaGreatDoor.Layout Go.Proofs.YtgijnebgchkenaaGreatDoor.GroupB Go.Proofs.YtgijnebgchkenaaGreatDoor.Group Go.Proofs.YtgijnebgchkenaaGreatDoor.Probe Go.Proofs.YtgijnebgchkenaaGreatDoor.TableB Go.Proofs.YtgijnebgchkenaaGreatDoor.TableI Go.Proofs.YtgijnebgchkenaaGreatDoor.Table Go.Proofs.YtgijnebgchkenaaGreatDoor.Bench Go.Proofs.YtgijnebgchkenaaGreatDoor.Cells Go.Proofs.YtgijnebgchkenaaGreatDoor.Refill Go.Proofs.YtgijnebgchkenaaGreatDoor.Oracle Go.Proofs.YtgijnebgchkenaaGreatDoor.Ref03

/-- The slot that Find tells. -/
def slotC (n : Nat) (H : ByteArray → Int) (cells : Nat → Cell) (key : ByteArray) : Int := (searchR (H key / 128) n cells (H key % 128) key).slot
theorem LT.find {n : Nat} {H : ByteArray → Int} {T : Tb} (h : LT n H T) (hn : 0 < n) (key : ByteArray) : (∃ i, i < 8 * n ∧ isFull (T.cells i) = true ∧ (T.cells i).keyS = key ∧ slotC n H T.cells key = (i : Nat)) ∨ ((∀ i, i < 8 * n → isFull (T.cells i) = true → (T.cells i).keyS ≠ key) ∧ slotC n H T.cells key = -1) := by
  rcases h.has hn key with ⟨i, hi, hf, hk⟩ | ⟨_, hno⟩
  · obtain ⟨t, e⟩ := full_of hf
    obtain ⟨_, _, _, _, k, _, _, hs⟩ := find_there h.key hi e rfl
    refine .inl ⟨i, hi, hf, hk, ?_⟩
    subst hk
    unfold slotC
    rw [hs]
  · refine .inr ⟨hno, ?_⟩
    exact (find_not (h := H key) (key := key) (cells := T.cells) hn fun i hi e b hc => hno i hi (by rw [hc]; rfl) (by rw [hc]; rfl)).1
theorem slot_prune {n : Nat} {H : ByteArray → Int} {T : Tb} {b : Nat → Bool} {d : Int} (h : LT n H T) (h2 : LT n H { T with cells := pruneT T.cells b, left := d }) (hn : 0 < n) (key : ByteArray) : slotC n H (pruneT T.cells b) key = slotC n H T.cells key := by
  rcases h.find hn key with ⟨i, hi, hf, hk, hs⟩ | ⟨hno, hs⟩
  · rcases h2.find hn key with ⟨j, hj, hf2, hk2, hs2⟩ | ⟨hno2, _⟩
    · dsimp only at hf2 hk2 hs2
      rw [prune_full] at hf2
      rw [prune_cell hf2] at hk2
      have := h.once i j hi hj (kind_full.2 hf) (kind_full.2 hf2) (hk.trans hk2.symm)
      rw [hs, hs2, this]
    · exact absurd (by dsimp only; rw [prune_cell hf]; exact hk) (hno2 i hi (by dsimp only; rw [prune_full]; exact hf))
  · rcases h2.find hn key with ⟨j, hj, hf2, hk2, hs2⟩ | ⟨_, hs2⟩
    · dsimp only at hf2 hk2
      rw [prune_full] at hf2
      rw [prune_cell hf2] at hk2
      exact absurd hk2 (hno j hj hf2)
    · dsimp only at hs2; rw [hs, hs2]
theorem passes_prune {n : Nat} {H : ByteArray → Int} {cells : Nat → Cell} {b : Nat → Bool} {p g : Nat} : passesP n H (pruneT cells b) p g ↔ passesP n H cells p g := by
  unfold passesP
  rw [prune_full]
  constructor
  · rintro ⟨h, r⟩; rw [prune_cell h] at r; exact ⟨h, r⟩
  · rintro ⟨h, r⟩; rw [← prune_cell (b := b) h] at r; exact ⟨h, r⟩
theorem PB.again {n : Nat} {H : ByteArray → Int} {cells : Nat → Cell} {b b2 : Nat → Bool} {N : Nat} (h : PB n H cells b N) (h2 : PB n H (pruneT cells b) b2 N) : pruneT (pruneT cells b) b2 = pruneT cells b := by
  have : b2 = b := by
    funext g
    rw [Bool.eq_iff_iff, h g, h2 g]
    constructor
    · rintro ⟨p, hp, q⟩; exact ⟨p, hp, passes_prune.1 q⟩
    · rintro ⟨p, hp, q⟩; exact ⟨p, hp, passes_prune.2 q⟩
  subst this
  funext p
  unfold pruneT
  split
  · split <;> rfl
  · rfl
/-- The slots of the first letters. -/
def slotsV (n : Nat) (H : ByteArray → Int) (cells : Nat → Cell) (i : Nat) : List Value := (List.range i).map fun j => .int .i64 (slotC n H cells (letter j))
theorem slotsV_get {n : Nat} {H : ByteArray → Int} {cs : Nat → Cell} {N i : Nat} (h : i < N) : (slotsV n H cs N)[i]? = some (.int .i64 (slotC n H cs (letter i))) := by
  unfold slotsV
  rw [List.getElem?_map, List.getElem?_range h]; rfl
theorem slotsV_succ (n : Nat) (H : ByteArray → Int) (cs : Nat → Cell) (i : Nat) : slotsV n H cs i ++ [.int .i64 (slotC n H cs (letter i))] = slotsV n H cs (i + 1) := by
  unfold slotsV
  rw [List.range_succ, List.map_append]; rfl
theorem cls_fit1 (size : Int) : 64 + classI ((nOf size * gN l64 : Nat) : Int) ≤ 65536 := by
  have := eOf_le size
  rw [gN64]
  unfold nOf
  have : eOf size = 1 ∨ eOf size = 2 ∨ eOf size = 3 := by omega
  rcases this with e | e | e <;> rw [e] <;> decide
theorem GrowPrunes_ok (G : HP) (hGT : TabOk G) (hGO : OddOk G) (seed size depth : Int) (vh vs : Value) (hs : List Int) (ts : List (Int × Int × Bool)) (hL : LifeAt G seed size depth vh vs hs ts) :
    FnOk Tryz.prog 6 #[.agg #[.int .u64 seed, .int .i64 size, .int .i64 depth, vh, vs]] [G] (fun v L => v = .bool true ∧ L = [G]) := by
  have hfit := cls_fit1 size
  have hn2 := nOf_le size
  have hm := osOf_ok hL.hashWf
  have hseed := hL.seed
  refine fn_intro en6 Tryz.func6 rfl rfl rfl fun Fr w0 => t_nm ?_
  refine sr <| o_boxA rfl rfl fun b1 => asg rfl rfl <| lz <| l_q rfl (qlda rfl yA72 yS72) ?_
  refine lcf rfl rfl rfl (live_ok G hGT hGO seed size depth vh vs hs ts hL 65536 (by decide) (by omega)) ?_
  rintro v L' ⟨pa, po, bm, off, s, T, rfl, rfl, hW, hl, hv, hK⟩
  refine l_nm ?_
  refine mv rfl rfl <| l_q rfl (q_extractL rfl ga) ?_
  refine l_q rfl (q_extractL rfl ga) ?_
  refine o_allocA rfl yZ76 fun b3 => sta rfl rfl rfl yS76 rfl rfl ?_
  refine asg rfl rfl <| lc <| t_seq <| sr <| mv rfl rfl <| l_q rfl (q_un rfl (u_not ·)) <| lc <| t_if rfl (fun z1 => ?_) fun z1 => ?_
  · simp at z1
  · refine t_skip <| nz <| l_q rfl (qfa 2 rfl yU76 rfl rfl yS34) <| l_q rfl (qlda rfl yA34 yS34) ?_
    have hlb := hW.bnd
    have hn0 : 0 < nOf size := by omega
    refine lc1 rfl rfl rfl (StatP_ok pa off (off + 64) (nOf size) (eOf size) s l64 T hW.tab) ?_
    refine mv rfl rfl <| l_q rfl (q_extractL rfl ga) ?_
    refine l_q rfl (q_extractL rfl ga) ?_
    refine o_allocA rfl yZ47 fun b5 => sta rfl rfl rfl yS47 rfl rfl ?_
    refine asg rfl rfl <| lc <| t_seq <| sr <| mv rfl rfl <| l_q rfl (qi rfl rfl (b_neq ·)) <| mv rfl rfl <| l_pt (t := 39) rfl (fun c1 => ?_) fun c1 => ?_
    · exact absurd rfl c1
    · refine l_on rfl rfl <| l_q rfl (qfa 1 rfl yU47 rfl rfl yS3) <| l_on rfl rfl <| l_q rfl (qld rfl yA3) ?_
      refine l_on rfl rfl <| l_q rfl (qi rfl rfl (b_lss ·)) <| l_q rfl (q_pk rfl rfl) <| mv rfl rfl <| l_pt (t := 44) rfl (fun c2 => ?_) fun c2 => ?_
      · omega
      · refine l_on rfl rfl <| l_q rfl (qfa 1 rfl yU47 rfl rfl yS3) <| l_on rfl rfl <| l_q rfl (qld rfl yA3) ?_
        refine l_on rfl rfl <| l_q rfl (qi rfl rfl (b_gtr ·)) <| l_q rfl (q_pk rfl rfl) <| lc <| t_if rfl (fun c3 => ?_) fun c3 => ?_
        · omega
        · refine t_skip <| nz <| l_q rfl (qfa 2 rfl yU76 rfl rfl yS34) <| l_q rfl (qlda rfl yA34 yS34) ?_
          refine l_q rfl (qfa 1 rfl yU47 rfl rfl yS3) <| l_q rfl (qld rfl yA3) ?_
          refine lcf rfl rfl rfl (kinds_ok pa off (nOf size) (eOf size) s T hW.tab (by omega)) ?_
          rintro vk L' rfl
          refine l_nm ?_
          refine l_shape (e := 3) (sz := 1) (v := vk) (n := 8 * nOf size) (xs := kindsV T.cells (8 * nOf size)) .here fun _ hsa => ?_
          obtain ⟨a1, cap1, rfl, hsa, _, _⟩ := hsa
          refine asg rfl rfl <| lz <| l_q rfl (qlda rfl yA76 yS76) ?_
          refine l_q rfl (qfa 0 rfl yU72 rfl rfl yS52) <| l_q rfl (qld rfl yA52) ?_
          refine l_q rfl (qfa 1 rfl yU47 rfl rfl yS3) <| l_q rfl (qld rfl yA3) ?_
          refine lcf rfl rfl rfl (passed_ok G hGO pa off po bm (nOf size) (eOf size) s T _ hm seed hseed hW.tab (by omega)) ?_
          rintro v L' ⟨b, q, rfl, rfl, hbp⟩
          refine l_nm ?_
          refine asg rfl rfl <| lz <| asg rfl rfl <| lc <| t_seq <| sr <| asg rfl rfl <| lc <| t_block ?_
          refine t_ent (show Ent _ (ownS 3 1 (.slice none 0 0) 0 (slotsV (nOf size) (hashF (mapO (osOf hs)) seed) T.cells 0) :: _) from fun w h => own_nil h) ?_
          refine t_loop (fun x : Nat × Value => x.1 ≤ 62) (fun x => [(1, .pointer (some ⟨b1, 0, none⟩)), (3, .pointer (some ⟨b3, 0, none⟩)), (5, .pointer (some ⟨b5, 0, none⟩)), (7, .slice a1 (8 * nOf size) cap1), (8, .slice (some ⟨q, 0, none⟩) (nOf size) (nOf size)), (9, x.2), (10, .int .i64 (x.1 : Nat))]) (fun x => ownS 3 1 x.2 x.1 (slotsV (nOf size) (hashF (mapO (osOf hs)) seed) T.cells x.1) :: ownS 3 1 (.slice a1 (8 * nOf size) cap1) (8 * nOf size) (kindsV T.cells (8 * nOf size)) :: ownS 4 1 (.slice (some ⟨q, 0, none⟩) (nOf size) (nOf size)) (nOf size) (boolsV b (nOf size)) :: pt b5 (.cells #[.int .i64 T.used, .int .i64 (8 * ((nOf size) : Int)), .int .i64 T.left, .int .i64 T.depth, .int .i64 T.pins, .int .i64 T.next, .bool (decide (T.kind = 4)), .int .i64 ((off + 64) : Nat)] 47 (0, 0)) :: pt b3 (.cells #[.pointer (some ⟨pa, 0, none⟩), .pointer (some ⟨po, 0, none⟩), .pointer (some ⟨pa, 0, none⟩), .int .i64 l64.key, .int .i64 l64.elem, .int .i64 l64.ka, .int .i64 l64.ea, .int .i64 l64.cap, .int .i64 l64.eo, .int .i64 l64.bo, .int .i64 l64.slot, .int .i64 l64.group, .int .i64 (off : Nat)] 76 (0, 0)) :: pt b1 (.cells #[.int .u64 seed, .int .i64 size, .int .i64 depth, vh, vs] 72 (0, 0)) :: pt po (.cells #[.map (some bm)] 191 (0, 0)) :: mapH (fun k : ByteArray => Value.string k) bm (mapO (osOf hs)) :: G :: arenaH pa s :: Fr) (fun x => 62 - x.1) (0, .slice none 0 0) (Nat.zero_le _) ⟨rfl, rfl, rfl, rfl, rfl, rfl, rfl, trivial⟩ (by (exact en)) ?_
          rintro ⟨i, vl⟩ hi
          dsimp only at hi ⊢
          refine t_shape (e := 3) (sz := 1) (v := vl) (n := i) (xs := slotsV (nOf size) (hashF (mapO (osOf hs)) seed) T.cells i) tk fun _ hsb => ?_
          obtain ⟨a2, cap2, rfl, hsb, _, _⟩ := hsb
          refine t_seq <| sr <| mv rfl rfl <| l_q rfl (qi rfl rfl (b_lss ·)) <| lc <| t_if rfl (fun g1 => ?_) fun g1 => ?_
          · skip
            have hrow := slotsV_succ (nOf size) (hashF (mapO (osOf hs)) seed) T.cells i
            have hks := letter_size (i := i) (by omega)
            have hhb := hashF_bnd hm seed (letter i)
            refine t_skip <| n_code <| t_seq <| t_block <| sr <| mv rfl rfl <| mv rfl rfl <| l_q rfl (qadd rfl rfl) ?_
            apply l_q rfl
            · refine QV.to (v' := .string (letter i)) (q_sliceS_lh (s := letters) rfl rfl rfl Tryz.underlying9 ⟨by omega, by omega, by show _ ≤ (62 : Int); omega⟩) (by rw [show ((i : Int) + 1).toNat = i + 1 by omega, Int.toNat_natCast]; rfl)
            refine asg rfl rfl <| lc <| t_seq <| t_draw mixed ?_
            apply dq 0 rfl
            · exact yq (qfa 2 rfl yU76 rfl rfl yS34)
            apply dq 1 rfl
            · exact yq (qlda rfl yA34 yS34)
            apply dq 2 rfl
            · exact yq (qfa 1 rfl yU76 rfl rfl yS74)
            apply dq 3 rfl
            · exact yq (qld rfl yA74)
            apply dq 4 rfl
            · exact yq (qfa 0 rfl yU72 rfl rfl yS52)
            apply dq 5 rfl
            · exact yq (qld rfl yA52)
            apply dq 6 rfl
            · exact yq (q_move rfl)
            apply dq 8 rfl
            · exact yq (q_move rfl)
            refine d_eff1 [3, 5, 6, 2, 4] [8, 1, 0] 7 [(72, _), (74, _), (75, _)] gO ⟨rfl, rfl, rfl, trivial⟩ (by kernel_rfl) (by kernel_rfl) fun Ex => ?_
            refine lc1 rfl rfl rfl (Hash_ok G hGO po bm _ hm seed hseed (letter i) (by omega)) ?_
            refine l_nil ?_
            apply n_d
            · refine ⟨?_, ?_, ?_, trivial⟩
              · apply ya rfl rfl; exact yq (q_move rfl)
              · apply ya rfl rfl; exact yq (qlda rfl yA34 yS34)
              · apply ya rfl rfl; exact yq (qfa 2 rfl yU76 rfl rfl yS34)
            refine d_eff1 [1, 8, 0] [] 9 [(70, _), (76, _), (77, _)] gO ⟨rfl, rfl, rfl, trivial⟩ (by kernel_rfl) (by kernel_rfl) fun Ex => ?_
            refine lc1 rfl rfl rfl (Find_ok G hGT pa off (off + 64) (nOf size) (eOf size) s l64 T hW.tab _ hhb (letter i) (by rw [hks, kN64])) ?_
            refine l_nil ?_
            apply n_d
            · exact trivial
            apply dq 10 rfl
            · exact yq (q_move rfl)
            apply dq 11 rfl
            · exact yq (q_extractL rfl ga)
            apply dq 12 rfl
            · exact yq (q_extractL rfl ga)
            refine d_eff1 [11, 10] [12] 13 [(79, _)] gO ⟨rfl, trivial⟩ (by kernel_rfl) (by kernel_rfl) fun Ex => ?_
            refine asg rfl rfl <| l_nil ?_
            apply n_d
            · refine ⟨?_, trivial⟩
              · apply ya rfl rfl; exact yq (q_extractL rfl ga)
            refine d_eff1 [12] [] 14 [(80, _)] gO ⟨rfl, trivial⟩ (by kernel_rfl) (by kernel_rfl) fun Ex => ?_
            refine asg rfl rfl <| l_nil ?_
            apply n_d
            · exact trivial
            refine d_end (by kernel_rfl) ?_
            refine n_code <| t_region <| mv rfl rfl <| mv rfl rfl ?_
            refine o_buildSlice1 [_] rfl rfl yU22 yS3 yZ3 rfl rfl rfl rfl (fun b83 => ?_)
            apply o_append (sz := 1) rfl rfl rfl yU22 yI3 rfl rfl
            · exact tk
            · exact tk
            · rfl
            · rfl
            · simp only [maxLen]; omega
            · omega
            intro v84
            refine asg rfl rfl <| l_nil <| n_blk <| n_code <| t_region <| mv rfl rfl <| l_q rfl (qadd rfl rfl) ?_
            refine asg rfl rfl <| l_nil ?_
            change TN _ _ _ _ (ownS _ _ _ _ (slotsV (nOf size) (hashF (mapO (osOf hs)) seed) T.cells i ++ [.int .i64 (slotC (nOf size) (hashF (mapO (osOf hs)) seed) T.cells (letter i))]) :: _) _ _
            rw [hrow]
            apply n_again ((i + 1, v84))
            · exact (show i + 1 ≤ 62 by omega)
            · (dsimp only; omega)
            · exact ⟨rfl, rfl, rfl, rfl, rfl, rfl, rfl, trivial⟩
            · exact en
          · skip
            obtain rfl : i = 62 := by omega
            obtain ⟨g2, rfl⟩ := hsb (by omega)
            refine xt rfl <| nz <| l_q rfl (qfa 2 rfl yU76 rfl rfl yS34) <| l_q rfl (qlda rfl yA34 yS34) ?_
            refine l_q rfl (qfa 1 rfl yU76 rfl rfl yS74) <| l_q rfl (qld rfl yA74) ?_
            refine l_q rfl (qfa 0 rfl yU72 rfl rfl yS52) <| l_q rfl (qld rfl yA52) ?_
            refine lcf rfl rfl rfl (Prune_ok G hGT hGO pa off po bm (nOf size) (eOf size) s l64 T _ hm seed hseed hW.tab hW.lt) ?_
            rintro v L' ⟨s', b', k, rfl, rfl, hPB, hcnt, hP', hS'⟩
            refine l_nm ?_
            have hT' := lt_prune hW.lt b' (fun g hp => hPB.all hp) hcnt
            have hbb : boolsV b (nOf size) = boolsV b' (nOf size) := boolsV_eq fun g hg => by rw [Bool.eq_iff_iff, hbp g hg, hPB g]; rfl
            have hkb := cnt_le isDel T.cells (8 * nOf size)
            rw [hbb]
            refine mv rfl rfl <| l_q rfl (q_extractL rfl ga) ?_
            refine l_q rfl (q_extractL rfl ga) ?_
            refine asg rfl rfl <| asg rfl rfl <| lz <| l_q rfl (qfa 2 rfl yU76 rfl rfl yS34) <| l_q rfl (qlda rfl yA34 yS34) ?_
            refine l_q rfl (qfa 1 rfl yU47 rfl rfl yS3) <| l_q rfl (qld rfl yA3) ?_
            refine lcf rfl rfl rfl (kinds_ok pa off (nOf size) (eOf size) s' _ hP' (by omega)) ?_
            rintro vm L' rfl
            refine l_nm ?_
            refine l_shape (e := 3) (sz := 1) (v := vm) (n := 8 * nOf size) (xs := kindsV (pruneT T.cells b') (8 * nOf size)) .here fun _ hsm => ?_
            obtain ⟨a3, cap3, rfl, hsm, _, _⟩ := hsm
            refine asg rfl rfl <| lc <| t_seq <| sr <| mv rfl rfl <| l_q rfl (qi rfl rfl (b_neq ·)) <| mv rfl rfl <| l_pt (t := 102) rfl (fun d1 => ?_) fun d1 => ?_
            · exact absurd rfl d1
            · refine l_on rfl rfl <| mv rfl rfl <| l_on rfl rfl <| l_q rfl (ql rfl yU22) <| l_on rfl rfl <| l_q rfl (qfa 1 rfl yU47 rfl rfl yS3) <| l_on rfl rfl <| l_q rfl (qld rfl yA3) ?_
              refine l_on rfl rfl <| l_q rfl (qi rfl rfl (b_neq ·)) <| l_q rfl (q_pk rfl rfl) <| mv rfl rfl <| l_pt (t := 109) rfl (fun d2 => ?_) fun d2 => ?_
              · omega
              · refine l_on rfl rfl <| mv rfl rfl <| l_on rfl rfl <| l_q rfl (ql rfl yU22) <| l_on rfl rfl <| l_q rfl (qfa 1 rfl yU47 rfl rfl yS3) <| l_on rfl rfl <| l_q rfl (qld rfl yA3) ?_
                refine l_on rfl rfl <| l_q rfl (qi rfl rfl (b_neq ·)) <| l_q rfl (q_pk rfl rfl) <| mv rfl rfl <| l_pt (t := 116) rfl (fun d3 => ?_) fun d3 => ?_
                · omega
                · refine l_on rfl rfl <| mv rfl rfl <| l_on rfl rfl <| mv rfl rfl <| l_on rfl rfl <| mv rfl rfl <| l_on rfl rfl <| mv rfl rfl <| l_on rfl rfl <| lc1 rfl rfl rfl (pruned_ok (nOf size) (by omega) T.cells b' k hcnt _ _ q) ?_
                  refine l_on rfl rfl <| l_q rfl (q_un rfl (u_not ·)) <| l_q rfl (q_pk rfl rfl) <| lc <| t_if rfl (fun d4 => ?_) fun d4 => ?_
                  · simp at d4
                  · skip
                    refine t_skip <| n_code <| t_seq <| sr <| asg rfl rfl <| lc <| t_block ?_
                    refine t_loop (fun i : Nat => i ≤ 62) (fun i => [(1, .pointer (some ⟨b1, 0, none⟩)), (3, .pointer (some ⟨b3, 0, none⟩)), (5, .pointer (some ⟨b5, 0, none⟩)), (9, .slice (some ⟨g2, 0, none⟩) 62 cap2), (14, .int .i64 (k : Nat)), (16, .int .i64 (i : Nat))]) (fun _ => ownS 3 1 (.slice (some ⟨g2, 0, none⟩) 62 cap2) 62 (slotsV (nOf size) (hashF (mapO (osOf hs)) seed) T.cells 62) :: pt b5 (.cells #[.int .i64 T.used, .int .i64 (8 * ((nOf size) : Int)), .int .i64 T.left, .int .i64 T.depth, .int .i64 T.pins, .int .i64 T.next, .bool (decide (T.kind = 4)), .int .i64 ((off + 64) : Nat)] 47 (0, 0)) :: pt b3 (.cells #[.pointer (some ⟨pa, 0, none⟩), .pointer (some ⟨po, 0, none⟩), .pointer (some ⟨pa, 0, none⟩), .int .i64 l64.key, .int .i64 l64.elem, .int .i64 l64.ka, .int .i64 l64.ea, .int .i64 l64.cap, .int .i64 l64.eo, .int .i64 l64.bo, .int .i64 l64.slot, .int .i64 l64.group, .int .i64 (off : Nat)] 76 (0, 0)) :: pt b1 (.cells #[.int .u64 seed, .int .i64 size, .int .i64 depth, vh, vs] 72 (0, 0)) :: pt po (.cells #[.map (some bm)] 191 (0, 0)) :: mapH (fun k : ByteArray => Value.string k) bm (mapO (osOf hs)) :: G :: arenaH pa s' :: Fr) (fun i => 62 - i) 0 (Nat.zero_le _) ⟨rfl, rfl, rfl, rfl, rfl, rfl, trivial⟩ (by (exact en)) ?_
                    intro i hi
                    refine t_seq <| sr <| mv rfl rfl <| l_q rfl (qi rfl rfl (b_lss ·)) <| lc <| t_if rfl (fun e1 => ?_) fun e1 => ?_
                    · skip
                      have hks := letter_size (i := i) (by omega)
                      have hhb := hashF_bnd hm seed (letter i)
                      have hga : (slotsV (nOf size) (hashF (mapO (osOf hs)) seed) T.cells 62)[0 + ((i : Nat) : Int).toNat]? = some (.int .i64 (slotC (nOf size) (hashF (mapO (osOf hs)) seed) T.cells (letter i))) := by rw [Nat.zero_add, Int.toNat_natCast]; exact slotsV_get (by omega)
                      have hsame : (searchR (hashF (mapO (osOf hs)) seed (letter i) / 128) (nOf size) (pruneT T.cells b') (hashF (mapO (osOf hs)) seed (letter i) % 128) (letter i)).slot = slotC (nOf size) (hashF (mapO (osOf hs)) seed) T.cells (letter i) := slot_prune hW.lt hT' hn0 (letter i)
                      refine t_skip <| n_code <| t_seq <| t_block <| sr <| mv rfl rfl <| mv rfl rfl <| l_q rfl (qadd rfl rfl) ?_
                      apply l_q rfl
                      · refine QV.to (v' := .string (letter i)) (q_sliceS_lh (s := letters) rfl rfl rfl Tryz.underlying9 ⟨by omega, by omega, by show _ ≤ (62 : Int); omega⟩) (by rw [show ((i : Int) + 1).toNat = i + 1 by omega, Int.toNat_natCast]; rfl)
                      refine asg rfl rfl <| lc <| t_seq <| t_draw mixed ?_
                      apply dq 0 rfl
                      · exact yq (qfa 2 rfl yU76 rfl rfl yS34)
                      apply dq 1 rfl
                      · exact yq (qlda rfl yA34 yS34)
                      apply dq 2 rfl
                      · exact yq (qfa 1 rfl yU76 rfl rfl yS74)
                      apply dq 3 rfl
                      · exact yq (qld rfl yA74)
                      apply dq 4 rfl
                      · exact yq (qfa 0 rfl yU72 rfl rfl yS52)
                      apply dq 5 rfl
                      · exact yq (qld rfl yA52)
                      apply dq 6 rfl
                      · exact yq (q_move rfl)
                      apply dq 8 rfl
                      · exact yq (q_move rfl)
                      refine d_eff1 [3, 5, 6, 2, 4] [8, 1, 0] 7 [(136, _), (138, _), (139, _)] gO ⟨rfl, rfl, rfl, trivial⟩ (by kernel_rfl) (by kernel_rfl) fun Ex => ?_
                      refine lc1 rfl rfl rfl (Hash_ok G hGO po bm _ hm seed hseed (letter i) (by omega)) ?_
                      refine l_nil ?_
                      apply n_d
                      · refine ⟨?_, ?_, ?_, trivial⟩
                        · apply ya rfl rfl; exact yq (q_move rfl)
                        · apply ya rfl rfl; exact yq (qlda rfl yA34 yS34)
                        · apply ya rfl rfl; exact yq (qfa 2 rfl yU76 rfl rfl yS34)
                      refine d_eff1 [1, 8, 0] [] 9 [(134, _), (140, _), (141, _)] gO ⟨rfl, rfl, rfl, trivial⟩ (by kernel_rfl) (by kernel_rfl) fun Ex => ?_
                      refine lc1 rfl rfl rfl (Find_ok G hGT pa off (off + 64) (nOf size) (eOf size) s' l64 _ hP' _ hhb (letter i) (by rw [hks, kN64])) ?_
                      rw [hsame]
                      refine l_nil ?_
                      apply n_d
                      · exact trivial
                      apply dq 10 rfl
                      · exact yq (q_move rfl)
                      apply dq 11 rfl
                      · exact yq (q_extractL rfl ga)
                      apply dq 12 rfl
                      · exact yq (q_extractL rfl ga)
                      refine d_eff1 [11, 10] [12] 13 [(143, _)] gO ⟨rfl, trivial⟩ (by kernel_rfl) (by kernel_rfl) fun Ex => ?_
                      refine asg rfl rfl <| l_nil ?_
                      apply n_d
                      · refine ⟨?_, trivial⟩
                        · apply ya rfl rfl; exact yq (q_extractL rfl ga)
                      refine d_eff1 [12] [] 14 [(144, _)] gO ⟨rfl, trivial⟩ (by kernel_rfl) (by kernel_rfl) fun Ex => ?_
                      refine asg rfl rfl <| l_nil ?_
                      apply n_d
                      · exact trivial
                      refine d_end (by kernel_rfl) ?_
                      refine nz <| mv rfl rfl <| l_q rfl (qi rfl rfl (b_neq ·)) <| mv rfl rfl <| l_pt (t := 147) rfl (fun e2 => ?_) fun e2 => ?_
                      · exact absurd rfl e2
                      · refine l_on rfl rfl <| mv rfl rfl <| l_on rfl rfl <| mv rfl rfl <| l_on rfl rfl <| mv rfl rfl <| l_on rfl rfl <| l_q rfl (q_indexAddr1 rfl rfl yU22 yS3 (by omega)) ?_
                        refine l_on rfl rfl <| l_q rfl (q_loadOwn rfl yA3 tk hga) ?_
                        refine l_on rfl rfl <| l_q rfl (qi rfl rfl (b_neq ·)) <| l_q rfl (q_pk rfl rfl) <| lc <| t_if rfl (fun e3 => ?_) fun e3 => ?_
                        · exact absurd rfl e3
                        · refine t_skip <| n_blk <| n_code <| t_region <| mv rfl rfl <| l_q rfl (qadd rfl rfl) ?_
                          refine asg rfl rfl <| l_nil ?_
                          apply n_again ((i + 1))
                          · exact by omega
                          · omega
                          · exact ⟨rfl, rfl, rfl, rfl, rfl, rfl, trivial⟩
                          · exact en
                    · skip
                      refine xt rfl <| nz <| l_q rfl (qfa 2 rfl yU47 rfl rfl yS3) <| l_q rfl (qld rfl yA3) ?_
                      refine mv rfl rfl <| l_q rfl (qadd rfl rfl) ?_
                      refine l_q rfl (qfa 2 rfl yU47 rfl rfl yS3) <| st rfl rfl rfl yS3 rfl ?_
                      refine lz <| l_q rfl (qfa 2 rfl yU76 rfl rfl yS34) <| l_q rfl (qlda rfl yA34 yS34) ?_
                      refine lc1 rfl rfl rfl (StatP_ok pa off (off + 64) (nOf size) (eOf size) s' l64 _ hP') ?_
                      refine mv rfl rfl <| l_q rfl (q_extractL rfl ga) ?_
                      refine l_q rfl (q_extractL rfl ga) ?_
                      refine o_allocA rfl yZ47 fun b20 => sta rfl rfl rfl yS47 rfl rfl ?_
                      refine asg rfl rfl <| lz <| l_q rfl (qfa 2 rfl yU76 rfl rfl yS34) <| l_q rfl (qlda rfl yA34 yS34) ?_
                      refine l_q rfl (qfa 1 rfl yU76 rfl rfl yS74) <| l_q rfl (qld rfl yA74) ?_
                      refine l_q rfl (qfa 0 rfl yU72 rfl rfl yS52) <| l_q rfl (qld rfl yA52) ?_
                      refine lcf rfl rfl rfl (Prune_ok G hGT hGO pa off po bm (nOf size) (eOf size) s' l64 _ _ hm seed hseed hP' hT') ?_
                      rintro v L' ⟨s2, b2, k2, rfl, rfl, hPB2, hcnt2, hP2, hS2⟩
                      refine l_nm ?_
                      have hk2 : k2 = 0 := by dsimp only at hcnt2; rw [hPB.again hPB2] at hcnt2; omega
                      subst hk2
                      refine mv rfl rfl <| l_q rfl (q_extractL rfl ga) ?_
                      refine l_q rfl (q_extractL rfl ga) ?_
                      refine asg rfl rfl <| asg rfl rfl <| lz <| mv rfl rfl <| l_q rfl (qi rfl rfl (b_eql ·)) <| mv rfl rfl <| l_pt (t := 178) rfl (fun f1 => ?_) fun f1 => ?_
                      · refine l_on rfl rfl <| mv rfl rfl <| l_on rfl rfl <| l_q rfl (qi rfl rfl (b_eql ·)) <| l_q rfl (q_pk rfl rfl) <| mv rfl rfl <| l_pt (t := 182) rfl (fun f2 => ?_) fun f2 => ?_
                        · refine l_on rfl rfl <| mv rfl rfl <| l_on rfl rfl <| l_q rfl (qi rfl rfl (b_eql ·)) <| l_q rfl (q_pk rfl rfl) <| mv rfl rfl <| l_pt (t := 186) rfl (fun f3 => ?_) fun f3 => ?_
                          · refine l_on rfl rfl <| l_q rfl (qlda rfl yA47 yS47) ?_
                            refine l_on rfl rfl <| l_q rfl (qlda rfl yA47 yS47) ?_
                            refine l_on rfl rfl <| l_q rfl (q_bin rfl rfl (g_flat · yG47) fun w => b_eqlFlat w yU47 yH47 (by kernel_rfl) (by kernel_rfl)) ?_
                            refine l_q rfl (q_pk rfl rfl) <| mv rfl rfl <| l_pt (t := 191) rfl (fun f4 => ?_) fun f4 => ?_
                            · refine l_on rfl rfl <| lc1 rfl rfl rfl (fixed_ok G hGT hGO) ?_
                              exact l_q rfl (q_pk rfl rfl) <| asg rfl rfl <| lc <| rt <| fr1 rfl ([G]) (.tmp rfl) ⟨rfl, rfl⟩
                            · simp at f4
                          · exact absurd rfl f3
                        · exact absurd rfl f2
                      · exact absurd rfl f1
end Go.Proofs.YtgijnebgchkenaaGreatDoor.Grow
