import Derived.Test.YtgijnebgchkenaaGreatDoorGrowW
section
/- Contracts of larderlaw09: live. -/
set_option linter.unusedVariables false
set_option linter.unusedSimpArgs false
set_option maxRecDepth 100000
namespace Go.Proofs.YtgijnebgchkenaaGreatDoor.Grow
open Go.RowKit Go.Proofs Go.Proofs.YtgijnebgchkenaaGreatDoor.Eng Go.Proofs.YtgijnebgchkenaaGreatDoor.Ty Go.Proofs.YtgijnebgchkenaaGreatDoor.Bits Go.Proofs.YtgijnebgchkenaaGreatDoor.Mem Go.Proofs.YtgijnebgchkenaaGreatDoor.Search Go.Proofs.YtgijnebgchkenaaGreatDoor.Arena Go.Proofs.YtgijnebgchkenaaGreatDoor.CtrlB Go.Proofs.YtgijnebgchkenaaGreatDoor.Ctrl Go.Proofs.YtgijnebgchkenaaGreatDoor.Layout Go.Proofs.YtgijnebgchkenaaGreatDoor.GroupB Go.Proofs.YtgijnebgchkenaaGreatDoor.Group Go.Proofs.YtgijnebgchkenaaGreatDoor.Probe Go.Proofs.YtgijnebgchkenaaGreatDoor.TableB Go.Proofs.YtgijnebgchkenaaGreatDoor.TableI Go.Proofs.YtgijnebgchkenaaGreatDoor.Table Go.Proofs.YtgijnebgchkenaaGreatDoor.Bench Go.Proofs.YtgijnebgchkenaaGreatDoor.Cells Go.Proofs.YtgijnebgchkenaaGreatDoor.Refill Go.Proofs.YtgijnebgchkenaaGreatDoor.Oracle Go.Proofs.YtgijnebgchkenaaGreatDoor.Ref03

/-- What a world keeps. -/
theorem WP.put {s s' : ArS} {off go n e : Nat} {H : ByteArray → Int} {T T' : Tb} (h : WP s off go n e H T) (hT : TabP s' off go l64 n e T') (hS : SameBut s s' off go (n * gN l64)) (hl : LT n H T') : WP s' off go n e H T' := ⟨hT, hl, by rw [hS.bl]; exact h.hd, by rw [hS.bl]; exact h.blk⟩
theorem kN64 : kN l64 = 1 := by kernel_rfl
theorem eN64 : eN l64 = 1 := by kernel_rfl
/-- The number of full cells keeps the words small. -/
theorem WP.bnd {s : ArS} {off go n e : Nat} {H : ByteArray → Int} {T : Tb} (h : WP s off go n e H T) : (0 ≤ T.used ∧ T.used ≤ 1099511627776) ∧ (0 ≤ T.left ∧ T.left ≤ 1099511627776) := by
  have h1 := h.lt.cnt.used
  have h2 := h.lt.cnt.left
  have h3 := h.lt.cnt.room
  have h4 := cnt_le isFull T.cells (8 * n)
  have h5 := h.tab.n0
  omega

theorem keeps_del {n : Nat} {T T' : Tb} {h : Int} {key : ByteArray} {b : Bool} (h : DelR n T h key (b, T')) : Keeps T T' := by
  cases h <;> exact ⟨rfl, rfl, rfl, rfl⟩
theorem LT.puts {n : Nat} {H : ByteArray → Int} {T : Tb} {key : ByteArray} (h : LT n H T) (hk : isLetter key) {e : Nat} (hn : n = 2 ^ e) (elem : ByteArray) (birth : Int) :
    LT n H (putT n T (H key) key elem birth).2 ∧ 1 ≤ (putT n T (H key) key elem birth).1 ∧ (putT n T (H key) key elem birth).1 ≤ 3 ∧ Keeps T (putT n T (H key) key elem birth).2 := by
  have hpr := putR (T := T) (h := H key) (key := key) (by rw [hn]; exact Nat.two_pow_pos e) (fun g hg => gk_onto hn hg) elem birth
  have := h.put hk hpr
  exact ⟨this.1, this.2.1, this.2.2, keeps_put hpr⟩
theorem LT.dels {n : Nat} {H : ByteArray → Int} {T : Tb} (h : LT n H T) (key : ByteArray) (hn : 0 < n) :
    LT n H (delT n T (H key) key).2 ∧ (delT n T (H key) key).1 = decide (0 ≤ (searchR (H key / 128) n T.cells (H key % 128) key).slot) ∧ Keeps T (delT n T (H key) key).2 := by
  have hdr := delR (T := T) (h := H key) (key := key) hn
  have := h.del hdr
  exact ⟨this.1, this.2, keeps_del hdr⟩

theorem live_ok (G : HP) (hGT : TabOk G) (hGO : OddOk G) (seed size depth : Int) (vh vs : Value) (hs : List Int) (ts : List (Int × Int × Bool)) (hL : LifeAt G seed size depth vh vs hs ts) (limit : Int) (hlim : limit ≤ 2097152) (hfit : 64 + classI ((nOf size * gN l64 : Nat) : Int) ≤ limit) :
    FnOk Tryz.prog 31 #[.agg #[.int .u64 seed, .int .i64 size, .int .i64 depth, vh, vs], .int .i64 limit] [G]
      (fun v L => ∃ pa po bm off go s T, v = .tuple #[.agg #[.pointer (some ⟨pa, 0, none⟩), .pointer (some ⟨po, 0, none⟩), .pointer (some ⟨pa, 0, none⟩), .int .i64 l64.key, .int .i64 l64.elem, .int .i64 l64.ka, .int .i64 l64.ea, .int .i64 l64.cap, .int .i64 l64.eo, .int .i64 l64.bo, .int .i64 l64.slot, .int .i64 l64.group, .int .i64 ((off : Nat) : Int)], .bool true] ∧ L = [pt po (.cells #[.map (some bm)] 191 (0, 0)), mapH (fun k : ByteArray => Value.string k) bm (mapO (osOf hs)), G, arenaH pa s] ∧ WP s off go (nOf size) (eOf size) (hashF (mapO (osOf hs)) seed) T ∧ s.limit = limit ∧ s.live = 64 + classI ((nOf size * gN l64 : Nat) : Int) ∧ Keeps (newT (nOf size) (depth % 6)) T) := by
  have hn2 := nOf_le size
  have hsl := hL.slen
  have hm := osOf_ok hL.hashWf
  obtain ⟨a, cap, rfl, hA⟩ := hL.step
  refine fn_intro en31 Tryz.func31 rfl rfl rfl fun Fr w0 => t_nm ?_
  refine sr <| o_boxA rfl rfl fun b2 => o_allocA rfl yZ76 fun b4 => asg rfl rfl <| lz <| l_q rfl (qlda rfl yA72 yS72) ?_
  refine mv rfl rfl <| lcf rfl rfl rfl (world_ok G hGT hGO seed size depth vh (.slice a ts.length cap) hs ts hL limit hlim hfit) ?_
  rintro v L' ⟨pa, po, bm, off, go, s0, rfl, rfl, hW0, hl0, hv0⟩
  refine l_nm ?_
  refine mv rfl rfl <| l_q rfl (q_extractL rfl ga) ?_
  refine l_q rfl (q_extractL rfl ga) ?_
  refine o_allocA rfl yZ76 fun b6 => sta rfl rfl rfl yS76 rfl rfl ?_
  refine asg rfl rfl <| lc <| t_seq <| sr <| asg rfl rfl <| lc <| t_block ?_
  refine t_loop (fun x : Nat × ArS × Tb => x.1 ≤ ts.length ∧ WP x.2.1 off go (nOf size) (eOf size) (hashF (mapO (osOf hs)) seed) x.2.2 ∧ x.2.1.limit = limit ∧ x.2.1.live = 64 + classI ((nOf size * gN l64 : Nat) : Int) ∧ Keeps (newT (nOf size) (depth % 6)) x.2.2) (fun x => [(2, .pointer (some ⟨b2, 0, none⟩)), (4, .pointer (some ⟨b4, 0, none⟩)), (6, .pointer (some ⟨b6, 0, none⟩)), (7, .bool true), (8, .int .i64 (x.1 : Nat))]) (fun x => pt b6 (.cells #[.pointer (some ⟨pa, 0, none⟩), .pointer (some ⟨po, 0, none⟩), .pointer (some ⟨pa, 0, none⟩), .int .i64 l64.key, .int .i64 l64.elem, .int .i64 l64.ka, .int .i64 l64.ea, .int .i64 l64.cap, .int .i64 l64.eo, .int .i64 l64.bo, .int .i64 l64.slot, .int .i64 l64.group, .int .i64 ((off : Nat) : Int)] 76 (0, 0)) :: pt po (.cells #[.map (some bm)] 191 (0, 0)) :: mapH (fun k : ByteArray => Value.string k) bm (mapO (osOf hs)) :: arenaH pa x.2.1 :: pt b4 (.cells #[.pointer none, .pointer none, .pointer none, .int .i64 0, .int .i64 0, .int .i64 0, .int .i64 0, .int .i64 0, .int .i64 0, .int .i64 0, .int .i64 0, .int .i64 0, .int .i64 0] 76 (0, 0)) :: pt b2 (.cells #[.int .u64 seed, .int .i64 size, .int .i64 depth, vh, .slice a ts.length cap] 72 (0, 0)) :: G :: Fr) (fun x => ts.length - x.1) (0, s0, newT (nOf size) (depth % 6)) ⟨Nat.zero_le _, hW0, hl0, hv0, Keeps.refl _⟩ ⟨rfl, rfl, rfl, rfl, rfl, trivial⟩ (by (exact en)) ?_
  rintro ⟨i, s, T⟩ ⟨hi, hW, hl, hv, hK⟩
  dsimp only at hi hW hl hv hK ⊢
  refine t_seq <| sr <| mv rfl rfl <| l_q rfl (qfa 4 rfl yU72 rfl rfl yS70) <| l_q rfl (qld rfl yA70) ?_
  refine l_q rfl (ql rfl yU70) <| l_q rfl (qi rfl rfl (b_lss ·)) <| mv rfl rfl <| l_pt (t := 28) rfl (fun h1 => ?_) fun h1 => ?_
  · refine l_on rfl rfl <| mv rfl rfl <| l_q rfl (q_pk rfl rfl) <| lc <| t_if rfl (fun h2 => ?_) fun h2 => ?_
    · skip
      obtain ⟨b, o, rfl, hA2⟩ := hA (by omega)
      obtain ⟨t, ht⟩ : ∃ t, ts[i]? = some t := ⟨ts[i], List.getElem?_eq_getElem (by omega)⟩
      have hc := touch_cell hA2 ht
      have hwf := hL.stepWf t (List.mem_of_getElem? ht)
      have hkm1 := Int.emod_nonneg t.1 (show (62 : Int) ≠ 0 by omega)
      have hkm2 := Int.emod_lt_of_pos t.1 (show (0 : Int) < 62 by omega)
      have hks := letter_size (i := (t.1 % 62).toNat) (by omega)
      have hhb := hashF_bnd hm seed (letter (t.1 % 62).toNat)
      obtain ⟨hub, hlb⟩ := hW.bnd
      have hbb := birth_bnd hwf.2
      refine t_skip <| n_code <| t_seq <| t_block <| sr <| l_q rfl (qfa 4 rfl yU72 rfl rfl yS70) <| l_q rfl (qld rfl yA70) ?_
      refine mv rfl rfl <| l_q rfl (q_indexAddr rfl rfl yU70 yS158 (by omega)) ?_
      refine l_q rfl (qfa 0 rfl yU158 rfl rfl yS3) <| l_q rfl (q_loadR (A := G) rfl yA3 tk hc.1) ?_
      refine lc1 rfl rfl rfl (key_ok _ hwf.1) ?_
      refine asg rfl rfl <| lz <| l_q rfl (qfa 1 rfl yU76 rfl rfl yS74) <| l_q rfl (qld rfl yA74) ?_
      refine l_q rfl (qfa 0 rfl yU72 rfl rfl yS52) <| l_q rfl (qld rfl yA52) ?_
      refine mv rfl rfl <| lc1 rfl rfl rfl (Hash_ok G hGO po bm _ hm seed hL.seed (letter (t.1 % 62).toNat) (by omega)) ?_
      refine asg rfl rfl <| lz <| l_q rfl (qfa 4 rfl yU72 rfl rfl yS70) <| l_q rfl (qld rfl yA70) ?_
      refine mv rfl rfl <| l_q rfl (q_indexAddr rfl rfl yU70 yS158 (by omega)) ?_
      refine l_q rfl (qfa 2 rfl yU158 rfl rfl yS4) <| l_q rfl (q_loadR (A := G) rfl yA4 tk hc.2.2) ?_
      refine lc <| t_if rfl (fun h3 => ?_) fun h3 => ?_
      · refine sr <| l_q rfl (qfa 2 rfl yU76 rfl rfl yS34) <| l_q rfl (qlda rfl yA34 yS34) ?_
        refine mv rfl rfl <| mv rfl rfl <| lc1 rfl rfl rfl (Find_ok G hGT pa off go (nOf size) (eOf size) s l64 T hW.tab _ hhb (letter (t.1 % 62).toNat) (by rw [hks, kN64])) ?_
        refine mv rfl rfl <| l_q rfl (q_extractL rfl ga) ?_
        refine l_q rfl (q_extractL rfl ga) ?_
        refine asg rfl rfl <| asg rfl rfl <| lz <| l_q rfl (qfa 2 rfl yU76 rfl rfl yS34) <| l_q rfl (qlda rfl yA34 yS34) ?_
        refine mv rfl rfl <| mv rfl rfl <| lcf rfl rfl rfl (Delete_ok G hGT pa off go (nOf size) (eOf size) s l64 T hW.tab _ hhb (letter (t.1 % 62).toNat) (by rw [hks, kN64]) hub hlb) ?_
        rintro v L' ⟨s2, rfl, rfl, hT2, hS2⟩
        refine l_nm ?_
        refine mv rfl rfl <| l_q rfl (q_extractL rfl ga) ?_
        refine l_q rfl (q_extractL rfl ga) ?_
        refine asg rfl rfl <| asg rfl rfl <| lr <| mv rfl rfl <| l_q rfl (qi rfl rfl (b_eql ·)) <| mv rfl rfl ?_
        obtain ⟨hLT, hb, hKd⟩ := hW.lt.dels (letter (t.1 % 62).toNat) (show 0 < nOf size by omega)
        refine l_pt (t := 70) rfl (fun z1 => ?_) fun z1 => ?_
        · refine l_on rfl rfl <| mv rfl rfl <| l_on rfl rfl <| mv rfl rfl <| l_on rfl rfl <| l_q rfl (qi rfl rfl (b_geq ·)) <| l_on rfl rfl <| l_q rfl (qb rfl rfl (b_eqlB · yU4)) <| l_q rfl (q_pk rfl rfl) <| asg rfl rfl <| l_nil <| n_blk <| n_code <| t_region <| mv rfl rfl <| l_q rfl (qadd rfl rfl) ?_
          refine asg rfl rfl <| l_nil ?_
          apply n_again ((i + 1, s2, (delT (nOf size) T (hashF (mapO (osOf hs)) seed (letter (t.1 % 62).toNat)) (letter (t.1 % 62).toNat)).2))
          · exact ⟨by dsimp only; omega, hW.put hT2 hS2 hLT, hS2.limit.trans hl, by rw [← hv]; unfold ArS.live; rw [hS2.bl], hK.trans hKd⟩
          · dsimp only; omega
          · exact ⟨rfl, rfl, rfl, by rw [hb, beq_self_eq_true]; rfl, rfl, trivial⟩
          · exact en
        · exact absurd rfl z1
      · refine t_seq <| t_draw mixed ?_
        apply dq 0 rfl
        · exact yq (qfa 2 rfl yU76 rfl rfl yS34)
        apply dq 1 rfl
        · exact yq (qlda rfl yA34 yS34)
        apply dq 2 rfl
        · exact yq (q_move rfl)
        apply dq 3 rfl
        · exact yq (q_move rfl)
        apply dq 4 rfl
        · exact yq (q_move rfl)
        apply dq 5 rfl
        · exact yq (qfa 4 rfl yU72 rfl rfl yS70)
        apply dq 6 rfl
        · exact yq (qld rfl yA70)
        apply dq 7 rfl
        · exact yq (q_move rfl)
        apply dq 8 rfl
        · exact yq (q_indexAddr rfl rfl yU70 yS158 (by omega))
        apply dq 9 rfl
        · exact yq (qfa 1 rfl yU158 rfl rfl yS3)
        apply dq 10 rfl
        · exact yq (q_loadR (A := G) rfl yA3 tk hc.2.1)
        refine d_eff1 [10, 9, 8, 6, 7, 5] [4, 3, 2, 1, 0] 11 [(87, _)] gO ⟨rfl, trivial⟩ (by kernel_rfl) (by kernel_rfl) fun Ex => ?_
        refine lc1 rfl rfl rfl (birth_ok _ hwf.2) ?_
        refine l_nil ?_
        apply n_d
        · refine ⟨?_, ?_, ?_, ?_, ?_, trivial⟩
          · apply ya rfl rfl; exact yq (q_move rfl)
          · apply ya rfl rfl; exact yq (q_move rfl)
          · apply ya rfl rfl; exact yq (q_move rfl)
          · apply ya rfl rfl; exact yq (qlda rfl yA34 yS34)
          · apply ya rfl rfl; exact yq (qfa 2 rfl yU76 rfl rfl yS34)
        refine d_eff1 [1, 2, 3, 4, 0] [] 12 [(78, _), (79, _), (80, _), (81, _), (88, _)] gO ⟨rfl, rfl, rfl, rfl, rfl, trivial⟩ (by kernel_rfl) (by kernel_rfl) fun Ex => ?_
        refine lcf rfl rfl rfl (Put_ok G hGT pa off go (nOf size) (eOf size) s l64 T hW.tab _ hhb (letter (t.1 % 62).toNat) (letter (t.1 % 62).toNat) (by rw [hks, kN64]) (by rw [hks, eN64]) _ hbb hub hlb) ?_
        rintro v L' ⟨s2, rfl, rfl, hT2, hS2⟩
        refine l_nm ?_
        refine l_nil ?_
        apply n_d
        · exact trivial
        apply dq 13 rfl
        · exact yq (q_move rfl)
        apply dq 14 rfl
        · exact yq (q_extractL rfl ga)
        apply dq 15 rfl
        · exact yq (q_extractL rfl ga)
        refine d_eff1 [14, 13] [15] 16 [(90, _)] gO ⟨rfl, trivial⟩ (by kernel_rfl) (by kernel_rfl) fun Ex => ?_
        refine asg rfl rfl <| l_nil ?_
        apply n_d
        · refine ⟨?_, trivial⟩
          · apply ya rfl rfl; exact yq (q_extractL rfl ga)
        refine d_eff1 [15] [] 17 [(91, _)] gO ⟨rfl, trivial⟩ (by kernel_rfl) (by kernel_rfl) fun Ex => ?_
        refine asg rfl rfl <| l_nil ?_
        apply n_d
        · exact trivial
        refine d_end (by kernel_rfl) ?_
        refine n_code <| t_region <| mv rfl rfl <| l_q rfl (qi rfl rfl (b_eql ·)) <| mv rfl rfl ?_
        obtain ⟨hLT, ho1, ho3, hKp⟩ := hW.lt.puts (key := letter (t.1 % 62).toNat) ⟨_, by omega, rfl⟩ hW.tab.hn (letter (t.1 % 62).toNat) (birthI t.2.1)
        refine l_pt (t := 94) rfl (fun z1 => ?_) fun z1 => ?_
        · refine l_on rfl rfl <| mv rfl rfl <| l_on rfl rfl <| l_q rfl (qi rfl rfl (b_geq ·)) <| l_q rfl (q_pk rfl rfl) <| mv rfl rfl <| l_pt (t := 98) rfl (fun z2 => ?_) fun z2 => ?_
          · refine l_on rfl rfl <| mv rfl rfl <| l_on rfl rfl <| l_q rfl (qi rfl rfl (b_leq ·)) <| l_q rfl (q_pk rfl rfl) <| asg rfl rfl <| l_nil <| n_blk <| n_code <| t_region <| mv rfl rfl <| l_q rfl (qadd rfl rfl) ?_
            refine asg rfl rfl <| l_nil ?_
            apply n_again ((i + 1, s2, (putT (nOf size) T (hashF (mapO (osOf hs)) seed (letter (t.1 % 62).toNat)) (letter (t.1 % 62).toNat) (letter (t.1 % 62).toNat) (birthI t.2.1)).2))
            · exact ⟨by dsimp only; omega, hW.put hT2 hS2 hLT, hS2.limit.trans hl, by rw [← hv]; unfold ArS.live; rw [hS2.bl], hK.trans hKp⟩
            · dsimp only; omega
            · exact ⟨rfl, rfl, rfl, by rw [decide_eq_true ho3]; rfl, rfl, trivial⟩
            · exact en
          · exact absurd ho1 z2
        · exact absurd rfl z1
    · cases h2
  · refine l_off rfl rfl rfl rfl <| l_q rfl (q_pk rfl rfl) <| lc <| t_cond_f rfl <| xt rfl <| nz <| l_q rfl (qlda rfl yA76 yS76) ?_
    refine mv rfl rfl <| sta rfl rfl rfl yS76 rfl rfl ?_
    refine asg rfl rfl <| lc <| rt ?_
    apply f_ret (.inl rfl) ([pt po (.cells #[.map (some bm)] 191 (0, 0)), mapH (fun k : ByteArray => Value.string k) bm (mapO (osOf hs)), G, arenaH pa s])
    · apply res2 rfl
      · apply Rv.agg rfl
        · exact tk
        · exact run_loadAll yA76 yS76 rfl
      · exact .tmp rfl
    · exact ⟨pa, po, bm, off, go, s, T, rfl, rfl, hW, hl, hv, hK⟩
    · exact en
end Go.Proofs.YtgijnebgchkenaaGreatDoor.Grow
end
section
/- Contracts of larderlaw09: picture, fresh, holds. -/
set_option linter.unusedVariables false
set_option linter.unusedSimpArgs false
set_option maxRecDepth 100000
namespace Go.Proofs.YtgijnebgchkenaaGreatDoor.Grow
open Go.RowKit Go.Proofs Go.Proofs.YtgijnebgchkenaaGreatDoor.Eng Go.Proofs.YtgijnebgchkenaaGreatDoor.Ty Go.Proofs.YtgijnebgchkenaaGreatDoor.Bits Go.Proofs.YtgijnebgchkenaaGreatDoor.Mem Go.Proofs.YtgijnebgchkenaaGreatDoor.Search Go.Proofs.YtgijnebgchkenaaGreatDoor.Arena Go.Proofs.YtgijnebgchkenaaGreatDoor.CtrlB Go.Proofs.YtgijnebgchkenaaGreatDoor.Ctrl Go.Proofs.YtgijnebgchkenaaGreatDoor.Layout Go.Proofs.YtgijnebgchkenaaGreatDoor.GroupB Go.Proofs.YtgijnebgchkenaaGreatDoor.Group Go.Proofs.YtgijnebgchkenaaGreatDoor.Probe Go.Proofs.YtgijnebgchkenaaGreatDoor.TableB Go.Proofs.YtgijnebgchkenaaGreatDoor.TableI Go.Proofs.YtgijnebgchkenaaGreatDoor.Table Go.Proofs.YtgijnebgchkenaaGreatDoor.Bench Go.Proofs.YtgijnebgchkenaaGreatDoor.Cells Go.Proofs.YtgijnebgchkenaaGreatDoor.Refill Go.Proofs.YtgijnebgchkenaaGreatDoor.Oracle Go.Proofs.YtgijnebgchkenaaGreatDoor.Ref03

/-- The bytes of a table's two blocks. -/
def picS (m : Nat → Int) (off go n : Nat) : ByteArray := strM m off 64 ++ strM m go (classI ((n * gN l64 : Nat) : Int)).toNat
theorem strM_congr {m m' : Nat → Int} {o k : Nat} (h : ∀ a, o ≤ a → a < o + k → m a = m' a) : strM m o k = strM m' o k := by
  unfold strM
  congr 2
  exact List.map_congr_left fun i hi => by rw [List.mem_range] at hi; rw [h _ (by omega) (by omega)]
theorem strM_size (m : Nat → Int) (o k : Nat) : (strM m o k).size = k := by simp [strM, ByteArray.size]
theorem picture_ok (pa po off go n e : Nat) (wo : Int) (s : ArS) (T : Tb) (hP : TabP s off go l64 n e T) (hb : (((go : Nat) : Int), classI ((n * gN l64 : Nat) : Int)) ∈ s.bl) (hn : n ≤ 64) :
    FnOk Tryz.prog 32 #[.agg #[.pointer (some ⟨pa, 0, none⟩), .pointer (some ⟨po, 0, none⟩), .pointer (some ⟨pa, 0, none⟩), .int .i64 l64.key, .int .i64 l64.elem, .int .i64 l64.ka, .int .i64 l64.ea, .int .i64 l64.cap, .int .i64 l64.eo, .int .i64 l64.bo, .int .i64 l64.slot, .int .i64 l64.group, .int .i64 wo], .agg #[.pointer (some ⟨pa, 0, none⟩), .int .i64 l64.key, .int .i64 l64.elem, .int .i64 l64.ka, .int .i64 l64.ea, .int .i64 l64.cap, .int .i64 l64.eo, .int .i64 l64.bo, .int .i64 l64.slot, .int .i64 l64.group, .int .i64 (off : Nat)]] [arenaH pa s] (fun v L => v = .string (picS s.m off go n) ∧ L = [arenaH pa s]) := by
  have hn8 := hP.n0
  have hcb := classI_bnd (n := ((n * gN l64 : Nat) : Int)) (by rw [gN64]; omega)
  have hcb2 := hcb.2.2 (by rw [gN64]; omega)
  have hc0 : (0 : Int) ≤ classI ((n * gN l64 : Nat) : Int) := by rw [gN64] at *; omega
  have hgg : goodP s ((go : Nat) : Int) (classI ((n * gN l64 : Nat) : Int)) := ⟨hc0, _, hb, by dsimp only; omega, by dsimp only; omega⟩
  have hz1 := strM_size s.m off 64
  have hz2 := strM_size s.m go (classI ((n * gN l64 : Nat) : Int)).toNat
  refine fn_intro en32 Tryz.func32 rfl rfl rfl fun Fr w0 => t_nm ?_
  refine sr <| o_boxA rfl rfl fun b2 => o_boxA rfl rfl fun b3 => asg rfl rfl <| lz <| l_q rfl (qlda rfl yA34 yS34) ?_
  refine lc1 rfl rfl rfl (StatP_ok pa off go n e s l64 T hP) ?_
  refine mv rfl rfl <| l_q rfl (q_extractL rfl ga) ?_
  refine l_q rfl (q_extractL rfl ga) ?_
  refine o_allocA rfl yZ47 fun b5 => sta rfl rfl rfl yS47 rfl rfl ?_
  refine asg rfl rfl <| lz <| l_q rfl (qfa 0 rfl yU76 rfl rfl yS30) <| l_q rfl (qld rfl yA30) ?_
  refine l_q rfl (qfa 7 rfl yU47 rfl rfl yS3) <| l_q rfl (qld rfl yA3) ?_
  refine lc1 rfl rfl rfl (Size_ok pa s _ _ hb) ?_
  refine mv rfl rfl <| l_q rfl (q_extractL rfl ga) ?_
  refine l_q rfl (q_extractL rfl ga) ?_
  refine asg rfl rfl <| asg rfl rfl <| lc <| t_seq <| t_draw mixed ?_
  apply dq 0 rfl
  · exact yq (qfa 0 rfl yU76 rfl rfl yS30)
  apply dq 1 rfl
  · exact yq (qld rfl yA30)
  apply dq 2 rfl
  · exact yq (qlda rfl yA34 yS34)
  refine d_eff1 [2] [1, 0] 3 [(29, _)] gO ⟨rfl, trivial⟩ (by kernel_rfl) (by kernel_rfl) fun Ex => ?_
  refine lc1 rfl rfl rfl (TOff_ok pa l64 (off : Nat)) ?_
  refine l_nil ?_
  apply n_d
  · refine ⟨?_, ?_, trivial⟩
    · apply ya rfl rfl; exact yq (qld rfl yA30)
    · apply ya rfl rfl; exact yq (qfa 0 rfl yU76 rfl rfl yS30)
  refine d_eff1 [1, 0] [] 4 [(28, _), (30, _)] gO ⟨rfl, rfl, trivial⟩ (by kernel_rfl) (by kernel_rfl) fun Ex => ?_
  refine lc1 rfl rfl rfl (Arena.Read_okI pa s (off : Nat) 64 off 64 rfl rfl hP.gh) ?_
  refine l_nil ?_
  apply n_d
  · exact trivial
  apply dq 5 rfl
  · exact yq (q_move rfl)
  apply dq 6 rfl
  · exact yq (q_extractL rfl ga)
  apply dq 7 rfl
  · exact yq (q_extractL rfl ga)
  refine d_eff1 [6, 5] [7] 8 [(32, _)] gO ⟨rfl, trivial⟩ (by kernel_rfl) (by kernel_rfl) fun Ex => ?_
  refine asg rfl rfl <| l_nil ?_
  apply n_d
  · refine ⟨?_, trivial⟩
    · apply ya rfl rfl; exact yq (q_extractL rfl ga)
  refine d_eff1 [7] [] 9 [(33, _)] gO ⟨rfl, trivial⟩ (by kernel_rfl) (by kernel_rfl) fun Ex => ?_
  refine asg rfl rfl <| l_nil ?_
  apply n_d
  · exact trivial
  refine d_end (by kernel_rfl) ?_
  refine nz <| l_q rfl (qfa 0 rfl yU76 rfl rfl yS30) <| l_q rfl (qld rfl yA30) ?_
  refine l_q rfl (qfa 7 rfl yU47 rfl rfl yS3) <| l_q rfl (qld rfl yA3) ?_
  refine mv rfl rfl <| lc1 rfl rfl rfl (Arena.Read_okI pa s _ _ go (classI ((n * gN l64 : Nat) : Int)).toNat rfl (Int.toNat_of_nonneg hc0).symm hgg) ?_
  refine mv rfl rfl <| l_q rfl (q_extractL rfl ga) ?_
  refine l_q rfl (q_extractL rfl ga) ?_
  refine asg rfl rfl <| asg rfl rfl <| lc <| t_seq <| sr <| mv rfl rfl <| l_q rfl (qi rfl rfl (b_neq ·)) <| mv rfl rfl <| l_pt (t := 45) rfl (fun z1 => ?_) fun z1 => ?_
  · exact absurd rfl z1
  · refine l_on rfl rfl <| mv rfl rfl <| l_on rfl rfl <| l_q rfl (qi rfl rfl (b_neq ·)) <| l_q rfl (q_pk rfl rfl) <| mv rfl rfl <| l_pt (t := 49) rfl (fun z2 => ?_) fun z2 => ?_
    · exact absurd rfl z2
    · refine l_on rfl rfl <| mv rfl rfl <| l_on rfl rfl <| l_q rfl (qi rfl rfl (b_neq ·)) <| l_q rfl (q_pk rfl rfl) <| mv rfl rfl <| l_pt (t := 53) rfl (fun z3 => ?_) fun z3 => ?_
      · exact absurd rfl z3
      · refine l_on rfl rfl <| mv rfl rfl <| l_on rfl rfl <| l_q rfl (qi rfl rfl (b_neq ·)) <| l_q rfl (q_pk rfl rfl) <| lc <| t_if rfl (fun z4 => ?_) fun z4 => ?_
        · exact absurd rfl z4
        · refine t_skip <| nz <| mv rfl rfl <| mv rfl rfl ?_
          apply l_q rfl
          · apply qs rfl rfl; first | exact fun w => b_addS w | exact fun w => b_addS w (by omega)
          exact asg rfl rfl <| lc <| rt <| fr1 rfl ([arenaH pa s]) (.tmp rfl) ⟨rfl, rfl⟩
/-- The picture stays where none of its bytes is turned. -/
theorem picS_congr {m m' : Nat → Int} {off go n : Nat} (h : ∀ a, off ≤ a → a < off + 64 → m' a = m a) (h2 : ∀ a, go ≤ a → a < go + (classI ((n * gN l64 : Nat) : Int)).toNat → m' a = m a) : picS m' off go n = picS m off go n := by
  unfold picS
  rw [strM_congr h, strM_congr h2]
theorem picS_ne (m : Nat → Int) (off go n : Nat) : picS m off go n ≠ ⟨#[]⟩ := fun h => by
  have h1 : (picS m off go n).size = 0 := by rw [h]; rfl
  unfold picS at h1
  rw [ByteArray.size_append, strM_size] at h1
  omega
end Go.Proofs.YtgijnebgchkenaaGreatDoor.Grow
end
