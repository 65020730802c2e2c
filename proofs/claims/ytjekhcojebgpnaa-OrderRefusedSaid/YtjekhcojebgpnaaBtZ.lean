/- Contracts of package order: New, Stat, Cut. -/
import Derived.Test.YtjekhcojebgpnaaBtY
set_option linter.unusedVariables false
set_option linter.unusedSimpArgs false
set_option maxRecDepth 100000
namespace Go.Proofs.Ytjekhcojebgpnaa.Bt
open Go.RowKit Go.Proofs Go.Proofs.Ytjekhcojebgpnaa.Eng Go.Proofs.Ytjekhcojebgpnaa.Ty Go.Proofs.Ytjekhcojebgpnaa.Bits Go.Proofs.Ytjekhcojebgpnaa.Mem Go.Proofs.Ytjekhcojebgpnaa.Search Go.Proofs.Ytjekhcojebgpnaa.Layout Go.Proofs.Ytjekhcojebgpnaa.Arena Go.Proofs.Ytjekhcojebgpnaa.GroupB
/-- An empty tree, just made. -/
theorem new_tree {l : Lay} {s : ArS} (hs : s.ok) (hfit : s.live + 64 ≤ s.limit) : (s.take 64).ok ∧ TrOk l (s.take 64) (s.at 64) none s.bl ∧ Keep s.bl s (s.take 64) ∧ (s.take 64).limit = s.limit := by
 have hc : (64 : Int) ∈ classes := by decide
 have hok := ArS.take_ok hs hc hfit
 have hz : ∀ j, j + 8 ≤ 64 → loadN (s.take 64).m (s.at 64 + j) 8 = 0 := fun j hj => by
  have : loadN (s.take 64).m (s.at 64 + j) 8 = loadN (fun _ => 0) 0 8 := loadN_congr fun i hi => take_zero hs (by decide) (by omega) (by omega)
  rw [this]; rfl
 refine ⟨hok, ⟨?_, hz 0 (by omega), hz 8 (by omega), hz 16 (by omega), hz 24 (by omega), fun h t e => (by cases e), List.Pairwise.nil, fun p hp => (by cases hp)⟩, fun p hp a a1 a2 => take_keep hs (by decide) hp a1 a2, take_limit hs⟩
 refine (List.perm_ext_iff_of_nodup (bl_nodup hok) ?_).2 fun p => ?_
 ·refine List.nodup_cons.2 ⟨fun w => ?_, bl_nodup hs⟩
  have w' : ((((s.at 64 : Nat)) : Int), (64 : Int)) ∈ s.bl := w
  rcases take_apart hs w' (c := 64) (by omega) with z | z
  ·simp only at z; omega
  ·simp only at z; omega
 ·rw [take_bl hs]
  show _ ↔ p ∈ (((s.at 64 : Nat) : Int), (64 : Int)) :: s.bl
  rw [List.mem_cons]; exact or_comm
/-! ### Cuts -/
/-- Is the key in the range? -/
def inB (a b : ByteArray) (p : Pr) : Bool := !Op.bytesLess p.1.toList a.toList && Op.bytesLess p.1.toList b.toList
def cutL (a b : ByteArray) (L : List Pr) : List Pr := L.filter fun p => !inB a b p
/-- What has gone when the cut has come to k. -/
def gone (a b k : ByteArray) (p : Pr) : Bool := inB a b p && Op.bytesLess p.1.toList k.toList
def succK (k : ByteArray) : ByteArray := k ++ ⟨#[0]⟩
theorem bl_succ : ∀ x y : List UInt8, Op.bytesLess x (y ++ [0]) = true ↔ Op.bytesLess x y = true ∨ x = y
 | [], [] => by simp [Op.bytesLess]
 | [], b :: y => by simp [Op.bytesLess]
 | a :: x, [] => by
  cases x <;> simp [Op.bytesLess]
 | a :: x, b :: y => by
  have ih := bl_succ x y
  simp only [List.cons_append, Op.bytesLess, Bool.or_eq_true, Bool.and_eq_true, decide_eq_true_eq, beq_iff_eq, List.cons.injEq]
  rw [ih]
  constructor
  ·rintro (h | ⟨h, h2 | h2⟩)
   ·exact .inl (.inl h)
   ·exact .inl (.inr ⟨h, h2⟩)
   ·exact .inr ⟨h, h2⟩
  ·rintro ((h | ⟨h, h2⟩) | ⟨h, h2⟩)
   ·exact .inl h
   ·exact .inr ⟨h, .inl h2⟩
   ·exact .inr ⟨h, .inr h2⟩
theorem lt_succ {a b : ByteArray} : lt a (succK b) ↔ lt a b ∨ a = b := by
 unfold lt succK
 have e : (b ++ (⟨#[0]⟩ : ByteArray)).toList = b.toList ++ [0] := by
  rw [ByteArray.toList_eq, ByteArray.toList_eq]; simp [ByteArray.data_append]
 rw [e, bl_succ]
 refine or_congr Iff.rfl ⟨fun h => ?_, fun h => by rw [h]⟩
 rw [ByteArray.toList_eq, ByteArray.toList_eq] at h
 exact WideShapes.bytes_inj h
theorem ceil_min {L : List Pr} {k : ByteArray} {p q : Pr} (hs : SL L) (hp : ceilL L k = some p) (hq : q ∈ L) (h : ¬ lt q.1 k) : q = p ∨ lt p.1 q.1 := by
 obtain ⟨j, hj⟩ := List.getElem?_of_mem hq
 rcases Nat.lt_trichotomy j (rk L k) with w | w | w
 ·exact absurd (rk_lt w hj) h
 ·left
  have hp' : L[rk L k]? = some p := hp
  rw [w, hp'] at hj
  exact (Option.some.inj hj).symm
 ·exact .inr (sl_lt hs w hp hj)
/-- How far a cut has come. -/
structure CutI (l : Lay) (s : ArS) (off : Nat) (x : TX) (R : List (Int × Int)) (frm upt : ByteArray) (i : ByteArray × Nat) (y : ArS × TX) : Prop where
 ok : y.1.ok
 tr : TrOk l y.1 off y.2 R
 keep : Keep R s y.1
 lim : y.1.limit = s.limit
 L : y.2.L = x.L.filter fun p => !gone frm upt i.1 p
 low : ¬ lt i.1 frm
 cnt : y.2.L.length ≤ i.2
section
variable {l : Lay} {s : ArS} {off : Nat} {x : TX} {R : List (Int × Int)} {frm upt : ByteArray} {i : ByteArray × Nat} {y y' : ArS × TX} {p : Pr}
theorem CutI.pos (I : CutI l s off x R frm upt i y) (h : rowR upt y.2 i ≠ none) : 0 < i.2 := by
 have hc := I.cnt
 rcases Nat.eq_zero_or_pos y.2.L.length with w | w
 ·exfalso
  apply h
  unfold rowR ceilL
  rw [List.eq_nil_of_length_eq_zero w]
  rfl
 ·omega
theorem CutI.step (I : CutI l s off x R frm upt i y) (hsl : SL x.L) (hp : ceilL y.2.L i.1 = some p) (hu : lt p.1 upt) (h1 : y'.1.ok) (h2 : TrOk l y'.1 off y'.2 R) (h3 : Keep R y.1 y'.1) (h4 : y'.1.limit = y.1.limit) (hL : y'.2.L = delL p.1 y.2.L) : CutI l s off x R frm upt (succK p.1, i.2 - 1) y' := by
 have hpm : p ∈ y.2.L := List.mem_of_getElem? hp
 have hpx : p ∈ x.L := by have := hpm; rw [I.L] at this; exact (List.mem_filter.1 this).1
 have hys : SL y.2.L := by rw [I.L]; exact hsl.sublist List.filter_sublist
 have hpk : ¬ lt p.1 i.1 := rk_ge hys (Nat.le_refl _) hp
 have hpf : ¬ lt p.1 frm := fun w => by
  rcases lt_tri i.1 p.1 with z | z | z
  ·exact I.low (lt_trans z w)
  ·exact I.low (by rw [z]; exact w)
  ·exact hpk z
 have hin : inB frm upt p = true := by
  unfold inB
  rw [Bool.and_eq_true]
  exact ⟨by simpa [lt] using hpf, hu⟩
 refine ⟨h1, h2, fun q hq a a1 a2 => (h3 q hq a a1 a2).trans (I.keep q hq a a1 a2), h4.trans I.lim, ?_, fun w => ?_, ?_⟩
 ·rw [hL, I.L]
  unfold delL
  rw [List.filter_filter]
  refine List.filter_congr fun q hq => ?_
  by_cases e : q.1 = p.1
  ·have hq1 : gone frm upt (succK p.1) q = true := by
    unfold gone
    rw [Bool.and_eq_true]
    refine ⟨?_, lt_succ.2 (.inr e)⟩
    unfold inB at hin ⊢
    rw [e]; exact hin
   simp [hq1, e]
  ·have : gone frm upt i.1 q = gone frm upt (succK p.1) q := by
    unfold gone
    cases hb : inB frm upt q with
    | false => rfl
    | true =>
     rw [Bool.true_and, Bool.true_and]
     have hiff : lt q.1 i.1 ↔ lt q.1 (succK p.1) := by
      constructor
      ·intro w
       rcases lt_tri q.1 p.1 with z | z | z
       ·exact lt_succ.2 (.inl z)
       ·exact absurd z e
       ·exact absurd (lt_trans z w) hpk
      ·intro w
       rcases lt_succ.1 w with w | w
       ·rcases Decidable.em (lt q.1 i.1) with z | z
        ·exact z
        ·exfalso
         have hqy : q ∈ y.2.L := by
          rw [I.L, List.mem_filter]
          refine ⟨hq, ?_⟩
          have : gone frm upt i.1 q = false := by
           unfold gone
           rw [hb, Bool.true_and]
           simpa [lt] using z
          rw [this]; rfl
         rcases ceil_min hys hp hqy z with v | v
         ·exact e (by rw [v])
         ·exact lt_asymm v w
       ·exact absurd w e
     exact Bool.eq_iff_iff.2 hiff
   rw [this]
   simp [e]
 ·rcases lt_tri p.1 frm with z | z | z
  ·exact hpf z
  ·exact lt_irr _ (lt_trans w (by rw [← z]; exact lt_succ.2 (.inr rfl)))
  ·exact lt_irr _ (lt_trans (lt_trans w z) (lt_succ.2 (.inr rfl)))
 ·have := delL_len hys ⟨p, hpm, rfl⟩
  have hc := I.cnt
  rw [hL]; show _ ≤ i.2 - 1
  omega
theorem CutI.fin (I : CutI l s off x R frm upt i y) (hsl : SL x.L) (hrow : rowR upt y.2 i = none) : y.2.L = cutL frm upt x.L := by
 have hys : SL y.2.L := by rw [I.L]; exact hsl.sublist List.filter_sublist
 rw [I.L]
 unfold cutL
 refine List.filter_congr fun q hq => ?_
 congr 1
 unfold gone
 cases hb : inB frm upt q with
 | false => rfl
 | true =>
  rw [Bool.true_and]
  rcases Bool.eq_false_or_eq_true (Op.bytesLess q.1.toList i.1.toList) with z | z
  ·exact z
  ·exfalso
   have hqy : q ∈ y.2.L := by
    rw [I.L, List.mem_filter]
    refine ⟨hq, ?_⟩
    unfold gone
    rw [hb, z]; rfl
   have hqk : ¬ lt q.1 i.1 := by unfold lt; rw [z]; simp
   have hqu : lt q.1 upt := by
    unfold inB at hb
    rw [Bool.and_eq_true] at hb
    exact hb.2
   unfold rowR at hrow
   cases hc : ceilL y.2.L i.1 with
   | none =>
    obtain ⟨j, hj⟩ := List.getElem?_of_mem hqy
    have h0 : y.2.L[rk y.2.L i.1]? = none := hc
    have h1 := List.getElem?_eq_none_iff.1 h0
    have h2 := (List.getElem?_eq_some_iff.1 hj).1
    exact hqk (rk_lt (by omega) hj)
   | some p =>
    rw [hc] at hrow
    have hpu : lt p.1 upt := by
     rcases ceil_min hys hc hqy hqk with v | v
     ·rw [← v]; exact hqu
     ·exact lt_trans v hqu
    simp only at hrow
    rw [if_pos (show Op.bytesLess p.1.toList upt.toList = true from hpu)] at hrow
    cases hrow
theorem CutI.start (hs : s.ok) (H : TrOk l s off x R) : CutI l s off x R frm upt (frm, x.L.length) (s, x) := by
 refine ⟨hs, H, fun _ _ _ _ _ => rfl, rfl, ?_, lt_irr _, Nat.le_refl _⟩
 symm
 refine List.filter_eq_self.2 fun q hq => ?_
 unfold gone inB
 cases Op.bytesLess q.1.toList frm.toList <;> simp
end
theorem rowR_some {upt : ByteArray} {x : TX} {i i' : ByteArray × Nat} {v : List Value} (h : rowR upt x i = some (v, i')) : ∃ p, ceilL x.L i.1 = some p ∧ lt p.1 upt ∧ v = [.string p.1, .string p.2] ∧ i' = (succK p.1, i.2 - 1) := by
 unfold rowR at h
 split at h
 ·next p hp =>
  split at h
  ·next q => cases h; exact ⟨p, hp, q, rfl, rfl⟩
  ·cases h
 ·cases h
section
variable (pa off : Nat) (s : ArS) {l : Lay}
theorem NewT_ok (hs : s.ok) : FnOk Try.prog 17 #[.pointer (some ⟨pa, 0, none⟩), .agg l.cells] [arenaH pa s]
  (fun v L => (s.limit - s.live < 64 ∧ v = .tuple #[.agg #[.pointer none, .int .i64 0, .int .i64 0, .int .i64 0, .int .i64 0, .int .i64 0, .int .i64 0, .int .i64 0, .int .i64 0, .int .i64 0, .int .i64 0], .int .i64 22] ∧ L = [arenaH pa s]) ∨
   (s.live + 64 ≤ s.limit ∧ v = .tuple #[.agg #[.pointer (some ⟨pa, 0, none⟩), .int .i64 l.key, .int .i64 l.elem, .int .i64 l.ka, .int .i64 l.ea, .int .i64 l.cap, .int .i64 l.eo, .int .i64 l.bo, .int .i64 l.slot, .int .i64 l.group, .int .i64 ((s.at 64 : Nat) : Int)], .int .i64 0] ∧ L = [arenaH pa (s.take 64)])) := by
 have hc64 : classI 64 = 64 := by decide
 refine fn_intro en17 Try.func17 rfl rfl rfl fun Fr w0 => t_nm ?_
 refine sr<|o_boxA O O fun b3 => o_allocA O yZ27 fun b4 => asg O O<|lz<|mv O O<|lcf O O O (Alloc_ok pa s 64 (by decide)) ?_
 rintro v L' hout
 refine l_nm ?_
 rw [hc64] at hout
 rcases hout with ⟨hbad, rfl, rfl⟩ | ⟨_, hroom, rfl, rfl⟩
 ·skip
  refine l_nm ?_
  refine mv O O<|l_q O (q_extractL O ga) ?_
  refine l_q O (q_extractL O ga) ?_
  refine asg O O<|asg O O<|lc<|t_seq<|sr<|mv O O<|l_q O (qi O O (b_neq ·))<|lc<|t_if O (fun z => ?_) fun z => ?_
  ·refine sr ?_
   apply l_q O
   ·apply q_buildS O yP27 yZ27
    ·exact FillR.nil
   refine mv O O<|sta O O O yS27 O O ?_
   refine asg O O<|lc<|rt ?_
   apply f_ret (.inl rfl) ([arenaH pa s])
   ·apply res2 O
    ·apply Rv.agg rfl
     ·exact tk
     ·exact run_loadAll yA27 yS27 O
    ·exact .tmp rfl
   ·exact .inl ⟨by omega, rfl, rfl⟩
   ·exact en
  ·exact absurd z (by decide)
 ·skip
  refine l_nm ?_
  refine mv O O<|l_q O (q_extractL O ga) ?_
  refine l_q O (q_extractL O ga) ?_
  refine asg O O<|asg O O<|lc<|t_seq<|sr<|mv O O<|l_q O (qi O O (b_neq ·))<|lc<|t_if O (fun z => ?_) fun z => ?_
  ·exact absurd rfl z
  ·refine t_skip<|nz<|mv O O<|l_q O (qlda O yA25 yS25) ?_
   refine mv O O ?_
   apply l_q O
   ·apply q_buildS O yP27 yZ27
    ·apply FillR.one
     ·repeat (first | exact PlAt.here | apply PlAt.there)
     ·rfl
     ·exact sa
     apply FillR.all
     ·repeat (first | exact PlAt.here | apply PlAt.there)
     ·rfl
     ·simp
     ·exact sal
     apply FillR.one
     ·repeat (first | exact PlAt.here | apply PlAt.there)
     ·rfl
     ·exact sa
     exact FillR.nil
   refine sta O O O yS27 O O ?_
   refine asg O O<|lc<|rt ?_
   apply f_ret (.inl rfl) ([arenaH pa (s.take 64)])
   ·apply res2 O
    ·apply Rv.agg rfl
     ·exact tk
     ·exact run_loadAll yA27 yS27 O
    ·exact .tmp rfl
   ·exact .inr ⟨by omega, rfl, rfl⟩
   ·exact en
theorem StatT_ok {x : TX} {R : List (Int × Int)} (hs : s.ok) (H : TrOk l s off x R) : FnOk Try.prog 11 #[.agg #[.pointer (some ⟨pa, 0, none⟩), .int .i64 l.key, .int .i64 l.elem, .int .i64 l.ka, .int .i64 l.ea, .int .i64 l.cap, .int .i64 l.eo, .int .i64 l.bo, .int .i64 l.slot, .int .i64 l.group, .int .i64 ((off : Nat) : Int)]] [arenaH pa s] (fun v L => v = .tuple #[.agg #[.int .i64 ((x.L.length : Nat) : Int), .int .i64 ((x.height : Nat) : Int), .int .i64 ((x.offs.length : Nat) : Int)], .int .i64 0] ∧ L = [arenaH pa s]) := by
 refine fn_intro en11 Try.func11 rfl rfl rfl fun Fr w0 => t_nm ?_
 refine sr<|o_boxA O O fun b1 => o_allocA O yZ43 fun b2 => asg O O<|lz<|l_q O (qlda O yA27 yS27) ?_
 refine lc1 O O O (headT_ok pa off s hs H) ?_
 refine mv O O<|l_q O (q_extractL O ga) ?_
 refine l_q O (q_extractL O ga) ?_
 refine o_allocA O yZ57 fun b4 => sta O O O yS57 O O ?_
 refine asg O O<|lz<|l_q O (qfa 0 O yU57 O O yS3)<|l_q O (qld O yA3) ?_
 refine l_q O (qfa 2 O yU57 O O yS3)<|l_q O (qld O yA3) ?_
 refine l_q O (qfa 3 O yU57 O O yS3)<|l_q O (qld O yA3) ?_
 apply l_q O
 ·apply q_buildS O yP43 yZ43
  ·apply FillR.one
   ·repeat (first | exact PlAt.here | apply PlAt.there)
   ·rfl
   ·exact sa
   apply FillR.one
   ·repeat (first | exact PlAt.here | apply PlAt.there)
   ·rfl
   ·exact sa
   apply FillR.one
   ·repeat (first | exact PlAt.here | apply PlAt.there)
   ·rfl
   ·exact sa
   exact FillR.nil
 refine mv O O<|sta O O O yS43 O O ?_
 refine asg O O<|lc<|rt ?_
 apply f_ret (.inl rfl) ([arenaH pa s])
 ·apply res2 O
  ·apply Rv.agg rfl
   ·exact tk
   ·exact run_loadAll yA43 yS43 O
  ·exact .tmp rfl
 ·exact ⟨rfl, rfl⟩
 ·exact en
theorem CutT_ok (hl : l.err = 0) {x : TX} {R : List (Int × Int)} (hs : s.ok) (H : TrOk l s off x R) (frm upt : ByteArray) : FnOk Try.prog 6 #[.agg #[.pointer (some ⟨pa, 0, none⟩), .int .i64 l.key, .int .i64 l.elem, .int .i64 l.ka, .int .i64 l.ea, .int .i64 l.cap, .int .i64 l.eo, .int .i64 l.bo, .int .i64 l.slot, .int .i64 l.group, .int .i64 ((off : Nat) : Int)], .string frm, .string upt] [arenaH pa s]
  (fun v L => ∃ s' x', v = .tuple #[.int .i64 ((x.L.length - x'.L.length : Nat) : Int), .int .i64 0] ∧ L = [arenaH pa s'] ∧ s'.ok ∧ TrOk l s' off x' R ∧ Keep R s s' ∧ s'.limit = s.limit ∧ x'.L = cutL frm upt x.L) := by
 obtain ⟨hS, hob, hLb, _⟩ := H.bnd hs
 refine fn_intro en6 Try.func6 rfl rfl rfl fun Fr w0 => t_nm ?_
 refine sr<|o_boxA O O fun b3 => o_alloc1 O yZ3 O fun b6 => o_alloc1 O yZ31 O fun b7 => lc<|t_seq<|sr<|l_q O (qlda O yA27 yS27) ?_
 refine lc1 O O O (headT_ok pa off s hs H) ?_
 refine mv O O<|l_q O (q_extractL O ga) ?_
 refine l_q O (q_extractL O ga) ?_
 refine o_allocA O yZ57 fun b8 => sta O O O yS57 O O ?_
 refine asg O O<|lz<|mv O O<|l_q O (qi O O (b_neq ·))<|lc<|t_if O (fun z => ?_) fun z => ?_
 ·exact absurd rfl z
 ·refine t_skip<|nz<|o_alloc1 O yZ3 O fun b10 => st O O O yS3 O ?_
  refine lc<|t_seq<|sr<|l_q O (qlda O yA27 yS27) ?_
  refine mv O O<|mv O O<|lcf O O O (Range_ok pa off frm upt) ?_
  rintro v L' ⟨bt, bf, bo, rfl, rfl⟩
  refine l_nm ?_
  refine lc<|t_block ?_
  apply t_rangeG (p := (fun _ (y : ArS × TX) (c : Int) => 0 ≤ c ∧ c + ((y.2.L.length : Nat) : Int) = ((x.L.length : Nat) : Int))) (J := (fun _ _ c => [pt b10 (.cells #[.int .i64 c] 3 (0, 0)), pt b3 (.cells #[.pointer (some ⟨pa, 0, none⟩), .int .i64 l.key, .int .i64 l.elem, .int .i64 l.ka, .int .i64 l.ea, .int .i64 l.cap, .int .i64 l.eo, .int .i64 l.bo, .int .i64 l.slot, .int .i64 l.group, .int .i64 ((off : Nat) : Int)] 27 (0, 0))])) (q := (fun _ : Code × Unit => False)) (Jx := (fun _ => [])) (s0 := (s, x)) (x0 := (0 : Int)) (hc := (Range1_ok pa off hl bt bf bo frm upt x.L.length (CutI l s off x R frm upt) (fun i y I => ⟨I.ok, ⟨R, I.tr⟩, I.pos⟩))) (hr := rfl) (hg := rfl)
  ·exact pk
  ·exact CutI.start hs H
  ·exact ⟨Int.le_refl _, Int.zero_add _⟩
  ·(try dsimp only); (try simp only [List.cons_append, List.nil_append]); exact pk
  ·rfl
  ·(intro i y v i' _ h; obtain ⟨p, _, _, rfl, _⟩ := rowR_some h; rfl)
  ·intro ll rc Fr2 w2 i y vv i' c hrd hpn hI hrow hc
   obtain ⟨p, hp, hu, rfl, rfl⟩ := rowR_some hrow
   have hm : p ∈ y.2.L := List.mem_of_getElem? hp
   have hys : SL y.2.L := hI.tr.sl
   have hdl := delL_len hys ⟨p, hm, rfl⟩
   (try dsimp only at hc)
   refine t_nm ?_
   refine t_region<|asg O O<|l_nil ?_
   apply n_begin
   ·exact tk
   ·assumption
   refine t_block<|t_seq<|sr<|l_q O (qlda O yA27 yS27) ?_
   refine mv O O<|lcf O O O (okA (pa := pa) (Del_yes pa off y.1 hl hI.ok hI.tr p.1 (hI.tr.sz p hm).1)) ?_
   rintro v L' ⟨⟨s', x', rfl, t1, t2, t3, t4, hcase⟩, hA⟩
   refine l_nm ?_
   obtain ⟨rfl, _⟩ := hcase.resolve_left (fun w => w.2.1 p hm rfl)
   refine mv O O<|l_q O (q_extractL O ga) ?_
   refine l_q O (q_extractL O ga) ?_
   refine asg O O<|asg O O<|lz<|mv O O<|l_q O (qi O O (b_neq ·))<|lc<|t_if O (fun z3 => ?_) fun z3 => ?_
   ·exact absurd rfl z3
   ·refine t_skip<|n_code<|t_region<|l_q O (qld O yA3) ?_
    refine l_q O (qadd O O) ?_
    refine st O O O yS3 O ?_
    refine l_nil<|n_blk ?_
    apply r_next (by assumption) (by assumption) (((s', x'), c + 1)) (⟨hI.step H.sl hp hu (hA _ (.head _)) t1 t2 t3 t4, by dsimp only; omega, by dsimp only; rw [t4]; omega⟩)
    exact en
  ·intro b i y c hI hrow hc
   (try dsimp only at hc)
   refine n_nm ?_
   refine n_blk<|nz<|l_q O (qld O yA3) ?_
   refine st O O O yS3 O ?_
   refine st O O O yS31 O ?_
   refine lc<|rt ?_
   apply f_retm (.inl rfl) [b] ([arenaH pa y.1])
   ·repeat (first | with_reducible exact TakeM.nil | apply TakeM.cons | with_reducible exact Take.here | apply Take.there)
   ·apply res2 O
    ·apply Rv.cellL rfl
     ·exact tk
     ·exact ga
     ·exact yA3
    ·apply Rv.cellL rfl
     ·exact tk
     ·exact ga
     ·exact yA31
   ·exact ⟨y.1, y.2, by rw [show ((x.L.length - y.2.L.length : Nat) : Int) = c by omega], rfl, hI.ok, hI.tr, hI.keep, hI.lim, hI.fin H.sl hrow⟩
   ·exact en
  ·rintro b ⟨_, _⟩ w
   cases w
end
end Go.Proofs.Ytjekhcojebgpnaa.Bt
