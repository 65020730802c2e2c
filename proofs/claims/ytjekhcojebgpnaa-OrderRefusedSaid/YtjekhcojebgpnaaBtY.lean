import Derived.Test.YtjekhcojebgpnaaBtT
import Derived.Test.YtjekhcojebgpnaaBtJ
import Derived.Test.YtjekhcojebgpnaaBtR
import Derived.Test.YtjekhcojebgpnaaEngShare
section
/- Contracts of package order: Delete. -/
set_option linter.unusedVariables false
set_option linter.unusedSimpArgs false
set_option maxRecDepth 100000
namespace Go.Proofs.Ytjekhcojebgpnaa.Bt
open Go.RowKit Go.Proofs Go.Proofs.Ytjekhcojebgpnaa.Eng Go.Proofs.Ytjekhcojebgpnaa.Ty Go.Proofs.Ytjekhcojebgpnaa.Bits Go.Proofs.Ytjekhcojebgpnaa.Mem Go.Proofs.Ytjekhcojebgpnaa.Search Go.Proofs.Ytjekhcojebgpnaa.Layout Go.Proofs.Ytjekhcojebgpnaa.Arena Go.Proofs.Ytjekhcojebgpnaa.GroupB
section
variable (pa off : Nat) (s : ArS) {l : Lay} (hl : l.err = 0)
include hl
theorem Del_yes {x : TX} {R : List (Int × Int)} (hs : s.ok) (H : TrOk l s off x R) (k : ByteArray) (hkz : k.size = kN l) : FnOk Try.prog 8 #[.agg #[.pointer (some ⟨pa, 0, none⟩), .int .i64 l.key, .int .i64 l.elem, .int .i64 l.ka, .int .i64 l.ea, .int .i64 l.cap, .int .i64 l.eo, .int .i64 l.bo, .int .i64 l.slot, .int .i64 l.group, .int .i64 ((off : Nat) : Int)], .string k] [arenaH pa s] (fun v L => ∃ s' x', L = [arenaH pa s'] ∧ TrOk l s' off x' R ∧ Keep R s s' ∧ s'.limit = s.limit ∧ x'.L = delL k x.L ∧ ((v = .tuple #[.bool false, .int .i64 0] ∧ (∀ p ∈ x.L, p.1 ≠ k) ∧ s' = s ∧ x' = x) ∨ (v = .tuple #[.bool true, .int .i64 0] ∧ ∃ p ∈ x.L, p.1 = k))) := by
 have hnb := nb_bnd hl
 have hap := apart_of hl hs H.bl
 obtain ⟨hS, hob, hLb, hhb, hrb, hoffb, hoff16⟩ := H.bnd hs
 refine fn_intro en8 Try.func8 rfl rfl rfl fun Fr w0 => t_nm ?_
 refine sr<|o_boxA O O fun b2 => asg O O<|asg O O<|lz<|l_q O (qlda O yA27 yS27) ?_
 refine mv O O ?_
 refine lc1 O O O (widths_yes pa off s hl hs H k ⟨#[]⟩ false (by unfold widE; rw [if_neg (by omega), if_neg (by rintro ⟨w, _⟩; cases w)])) ?_
 refine mv O O<|l_q O (q_extractL O ga) ?_
 refine l_q O (q_extractL O ga) ?_
 refine o_allocA O yZ57 fun b6 => sta O O O yS57 O O ?_
 refine asg O O<|lc<|t_seq<|sr<|mv O O<|l_q O (qi O O (b_neq ·))<|lc<|t_if O (fun z => ?_) fun z => ?_
 ·exact absurd rfl z
 ·refine t_skip<|n_code<|t_seq<|sr<|l_q O (qfa 1 O yU57 O O yS3)<|l_q O (qld O yA3) ?_
  refine l_q O (qi O O (b_eql ·))<|lc<|t_if O (fun z2 => ?_) fun z2 => ?_
  ·obtain rfl : x = none := (root_ne hs hS).1.1 (by omega)
   refine sr<|asg O O<|asg O O<|lc<|rt<|fr2 O ([arenaH pa s]) (.tmp rfl) (.tmp rfl) ?_
   exact ⟨s, none, rfl, H, fun _ _ _ _ _ => rfl, rfl, rfl, .inl ⟨rfl, (fun p hp => by cases hp), rfl, rfl⟩⟩
  ·refine t_skip<|n_code<|t_seq<|sr<|l_q O (qlda O yA27 yS27) ?_
   refine l_q O (qfa 1 O yU57 O O yS3)<|l_q O (qld O yA3) ?_
   refine mv O O<|lc1 O O O (has_ok pa s hl hs hS k ((off : Nat) : Int)) ?_
   refine l_q O (q_un O (u_not ·))<|lc<|t_if O (fun z3 => ?_) fun z3 => ?_
   ·have hno : getL x.L k = none := by simpa using z3
    have hnok : ∀ p ∈ x.L, p.1 ≠ k := fun p hp hpk => by
     unfold getL at hno
     rw [Option.map_eq_none_iff, List.find?_eq_none] at hno
     exact absurd hpk (by simpa using hno p hp)
    exact sr<|asg O O<|asg O O<|lc<|rt<|fr2 O ([arenaH pa s]) (.tmp rfl) (.tmp rfl) (⟨s, x, rfl, H, fun _ _ _ _ _ => rfl, rfl, (delL_no hnok).symm, .inl ⟨rfl, hnok, rfl, rfl⟩⟩)
   ·have hyes : ∃ p ∈ x.L, p.1 = k := by
     have z4 : (getL x.L k).isSome = true := by simpa using z3
     unfold getL at z4
     rw [Option.isSome_map, List.find?_isSome] at z4
     obtain ⟨p, hp, hpk⟩ := z4
     exact ⟨p, hp, by simpa using hpk⟩
    obtain ⟨⟨h, t⟩, rfl⟩ : ∃ z, x = some z := by
     cases x with
     | none => obtain ⟨p, hp, _⟩ := hyes; cases hp
     | some z => exact ⟨z, rfl⟩
    obtain ⟨hk, hT0, hbl, hsl, hsz, hlen⟩ := hS h t O
    obtain ⟨k1, k2, k3⟩ := take_law (Nat.le_refl 1) hk hsl hyes
    have hG : (takeG h t k).length ≤ (TX.offs (some (h, t))).length := by show _ ≤ (offs h t).length; rw [k3.length_eq, List.length_append]; omega
    have P : TkP l s h t k := ⟨hS, hap.1, hyes⟩
    have hlt := delL_len hsl hyes
    obtain ⟨T, hTe⟩ : ∃ T, T = takeB h t k := ⟨_, rfl⟩
    rw [← hTe] at k1 k2 k3
    have hTk : ok h 0 T := k2
    have hT7 := (ok_len hTk).2
    have hT8 := ks_len hTk
    have hTo : T.o = t.o := by rw [hTe]; exact take_o
    have hnd := (P.apart.perm k3).nodup hl
    have hTin : ∀ o ∈ offs h T, o ∈ offs h t := fun o ho => k3.mem_iff.2 (List.mem_append_left _ ho)
    have hToff : T.o ∈ offs h T := by cases h <;> simp [offs]
    have hTb : ∀ o ∈ offs h T, blkN l o ∈ (s.gives (gv (takeG h t k))).bl := fun o ho => gives_bl.2 ⟨hbl o (hTin o ho), fun hx => by
     obtain ⟨o', ho', e⟩ := mem_gv.1 hx
     have : o' = o := by simp only [blkN] at e; omega
     subst this
     exact (List.nodup_append.1 hnd).2.2 o' ho o' ho' rfl⟩
    have hTz : ∀ p ∈ T.ps, szs l p := fun p hp => hsz p ((delL_sub k _).subset (by rw [← k1]; exact ps_mem (ok_one hTk (List.length_pos_of_mem hp)) p hp))
    have hTt : tot h T ≤ 1000000000 := by unfold tot; rw [k1]; omega
    have hTL : tot h T + 1 = (TX.L (some (h, t))).length := by unfold tot; rw [k1]; exact hlt
    have hTk2 : ∀ c ∈ T.ks.map BT.o, c < 9223372036854775808 := fun c hc => by
     obtain ⟨y, hy, rfl⟩ := List.mem_map.1 hc
     have : y.o ∈ offs h T := by
      cases h with
      | zero => rw [hTk.2.2] at hy; cases hy
      | succ g => exact offs_kid hy _ (by cases g <;> simp [offs])
     have := (bl_bnd hs (hbl _ (hTin _ this))).2
     omega
    have hLo : (TX.offs (some (h, t))).length = (offs h T).length + (takeG h t k).length := by show (offs h t).length = _; rw [k3.length_eq, List.length_append]
    refine t_skip<|nz<|l_q O (qlda O yA27 yS27) ?_
    refine l_q O (qfa 1 O yU57 O O yS3)<|l_q O (qld O yA3) ?_
    refine mv O O<|lcf O O O (okA (pa := pa) (take_ok pa ((off : Nat) : Int) hl b6 (((TX.L (some (h, t))).length : Nat) : Int) (((TX.root (some (h, t)) : Nat)) : Int) ((TX.height (some (h, t)) : Nat) : Int) h s t k (TX.offs (some (h, t))).length hs P hG (by omega))) ?_
    rintro v L' ⟨⟨m1, rfl, rfl, hT1, hS1⟩, hA1⟩
    refine l_nm ?_
    refine lz<|l_q O (qfa 0 O yU57 O O yS3)<|l_q O (qld O yA3) ?_
    refine l_q O (qsub O O) ?_
    refine l_q O (qfa 0 O yU57 O O yS3)<|st O O O yS3 O ?_
    refine lz<|l_q O (qlda O yA27 yS27) ?_
    refine l_q O (qfa 1 O yU57 O O yS3)<|l_q O (qld O yA3) ?_
    have hA2 := hA1 _ (.tail _ (.head _))
    rw [← hTe] at hT1
    refine lc1 O O O (read_ok pa ((off : Nat) : Int) (wm (s.gives (gv (takeG h t k))) m1) hl T.o ((TX.root (some (h, t)) : Nat) : Int) T.ps (decide (h = 0)) (T.ks.map BT.o) (tot h T) (by rw [hTo]; rfl) (bl_bnd hs (hbl _ (hTin _ hToff))).2 (hTb _ hToff) hT1.node hT7 hT8 hTk2 (by omega) hTz) ?_
    refine o_allocA O yZ73 fun b8 => ?_
    apply o_storeP (us := nodeT h T) (xs' := nodeT h T) rfl rfl rfl yS73 (nodeT_len hTk) (List.all_eq_true.2 (node_one _ _ _ _ _ _))
    ·exact tk
    ·decide
    ·exact lay_full (by rw [nodeT_len hTk]; rfl)
    refine lc<|t_seq<|sr<|l_q O (qfa 1 O yU73 O O yS3)<|l_q O (qld O yA3) ?_
    refine l_q O (qi O O (b_eql ·))<|lc<|t_if O (fun z5 => ?_) fun z5 => ?_
    ·have hc0 : T.ps.length = 0 := by omega
     obtain ⟨r1, r2, r3, r4⟩ := root_drop (l := l) (m := m1) hTk hc0
     have hroot := root_kid hTk hT8
     have hrL : (nxt h T 0).L.length + 1 = (TX.L (some (h, t))).length := by rw [r1]; exact hTL
     have hrO : (offs h T).length = (nxt h T 0).offs.length + 1 := by rw [r2]; simp
     refine sr<|l_q O (qfa 0 O yU27 O O yS23)<|l_q O (qld O yA23) ?_
     refine l_q O (qfa 1 O yU57 O O yS3)<|l_q O (qld O yA3) ?_
     refine o_buildSlice1 [_] rfl rfl yU28 yS3 yZ3 rfl rfl rfl rfl (fun b47 => ?_)
     refine lcf O O O (okA (pa := pa) (Free1_ok pa (wm (s.gives (gv (takeG h t k))) m1) b47 ((TX.root (some (h, t)) : Nat) : Int) ⟨nC l, by have := hTb _ hToff; rw [hTo] at this; exact this⟩)) ?_
     rintro v L' ⟨⟨rfl, rfl⟩, hA3⟩
     refine l_nm ?_
     refine lz<|l_q O (qfa 18 O yU73 O O yS71)<|l_q O (q_indexAddrA O O yU71 yS3 (by omega)) ?_
     apply l_q O
     ·apply q_loadP1 (v := .int .i64 (((nxt h T 0).root : Nat) : Int)) rfl yA3
      ·exact tk
      ·exact pkV_kid _ _ _ _ (pad_len hT7) hroot
     refine l_q O (qfa 1 O yU57 O O yS3)<|st O O O yS3 O ?_
     refine lz<|l_q O (qfa 2 O yU57 O O yS3)<|l_q O (qld O yA3) ?_
     refine l_q O (qsub O O) ?_
     refine l_q O (qfa 2 O yU57 O O yS3)<|st O O O yS3 O ?_
     refine lr<|l_q O (qfa 3 O yU57 O O yS3)<|l_q O (qld O yA3) ?_
     refine l_q O (qsub O O) ?_
     refine l_q O (qfa 3 O yU57 O O yS3)<|st O O O yS3 O ?_
     refine lz<|l_q O (qlda O yA27 yS27) ?_
     refine l_q O (qlda O yA57 yS57) ?_
     have e : (wm (s.gives (gv (takeG h t k))) m1).gives [((TX.root (some (h, t)) : Nat) : Int)] = wm (s.gives (gv (takeG h t k ++ [t.o]))) m1 := by rw [gives_wm, ← gives_cat, gv_app]; rfl
     rw [e]
     have hoffs : (TX.offs (some (h, t))).Perm ((nxt h T 0).offs ++ (takeG h t k ++ [t.o])) := k3.trans (by
      rw [r2, hTo, List.cons_append, ← List.append_assoc]
      exact (List.perm_append_singleton _ _).symm)
     obtain ⟨g1, g2⟩ := gives_tree hl hs H hoffs
     have hrb2 := pad_bnd hT8 (by omega) hTk2 hroot
     rw [show (((TX.L (some (h, t))).length : Nat) : Int) - 1 = (((nxt h T 0).L.length : Nat) : Int) by omega, show ((TX.height (some (h, t)) : Nat) : Int) - 1 = (((nxt h T 0).height : Nat) : Int) by rw [r3]; show (((h + 1 : Nat)) : Int) - 1 = _; omega, show (((TX.offs (some (h, t))).length - (takeG h t k).length : Nat) : Int) - 1 = (((nxt h T 0).offs.length : Nat) : Int) by omega]
     have hh9 : (nxt h T 0).height < 9223372036854775808 := by rw [r3]; have hhb' : h + 1 ≤ 67108880 := hhb; omega
     refine lcf O O O (setHead_ok pa off (wm (s.gives (gv (takeG h t k ++ [t.o]))) m1) l (nxt h T 0).L.length (nxt h T 0).root (nxt h T 0).height (nxt h T 0).offs.length g2 hoffb (by omega) hrb2 hh9 (by omega)) ?_
     rintro v L' ⟨m3, rfl, rfl, ⟨w0, w1, w2, w3⟩, hS3⟩
     refine l_nm ?_
     refine lz<|asg O O<|asg O O<|lc<|rt ?_
     obtain ⟨t1, t2⟩ := del_fin hl hs H hoffs (k := k) (r1.trans k1) (m2 := m1) (m3 := m3) (fun h' t' e => ⟨(r4 h' t' e).1, (r4 h' t' e).2 hT1⟩) hS1 w0 w1 w2 w3 hS3
     rw [wm_wm]
     exact fr2 O ([arenaH pa (wm (s.gives (gv (takeG h t k ++ [t.o]))) m3)]) (.tmp rfl) (.tmp rfl) (⟨_, nxt h T 0, rfl, t1, t2, (gives_m s _).2, r1.trans k1, .inr ⟨rfl, hyes⟩⟩)
    ·have hc1 : 1 ≤ T.ps.length := by omega
     have hoffs : (TX.offs (some (h, t))).Perm ((TX.offs (some (h, T))) ++ takeG h t k) := k3
     obtain ⟨g1, g2⟩ := gives_tree (x' := some (h, T)) hl hs H hoffs
     have hLT : (TX.L (some (h, T))).length + 1 = (TX.L (some (h, t))).length := hTL
     have hOT : (TX.offs (some (h, T))).length = (offs h T).length := rfl
     have hhb' : TX.height (some (h, t)) ≤ 67108880 := hhb
     refine t_skip<|nz<|l_q O (qlda O yA27 yS27) ?_
     refine l_q O (qlda O yA57 yS57) ?_
     rw [show (((TX.L (some (h, t))).length : Nat) : Int) - 1 = (((TX.L (some (h, T))).length : Nat) : Int) by omega, show (TX.offs (some (h, t))).length - (takeG h t k).length = (TX.offs (some (h, T))).length by omega]
     refine lcf O O O (setHead_ok pa off (wm (s.gives (gv (takeG h t k))) m1) l (TX.L (some (h, T))).length (TX.root (some (h, t))) (TX.height (some (h, t))) (TX.offs (some (h, T))).length g2 hoffb (by omega) (by omega) (by omega) (by omega)) ?_
     rintro v L' ⟨m3, rfl, rfl, ⟨w0, w1, w2, w3⟩, hS3⟩
     refine l_nm ?_
     refine lz<|asg O O<|asg O O<|lc<|rt ?_
     obtain ⟨t1, t2⟩ := del_fin (x' := some (h, T)) hl hs H hoffs (k := k) k1 (m2 := m1) (m3 := m3) (fun h' t' e => by cases e; exact ⟨ok_one hTk hc1, hT1⟩) hS1 w0 (by rw [w1]; show ((t.o : Nat) : Int) = ((T.o : Nat) : Int); rw [hTo]) w2 w3 hS3
     rw [wm_wm]
     exact fr2 O ([arenaH pa (wm (s.gives (gv (takeG h t k))) m3)]) (.tmp rfl) (.tmp rfl) (⟨_, some (h, T), rfl, t1, t2, (gives_m s _).2, k1, .inr ⟨rfl, hyes⟩⟩)
end
end Go.Proofs.Ytjekhcojebgpnaa.Bt
end
section
/- Contracts of package order: Range, Back. -/
set_option linter.unusedVariables false
set_option linter.unusedSimpArgs false
set_option maxRecDepth 100000
namespace Go.Proofs.Ytjekhcojebgpnaa.Bt
open Go.RowKit Go.Proofs Go.Proofs.Ytjekhcojebgpnaa.Eng Go.Proofs.Ytjekhcojebgpnaa.Ty Go.Proofs.Ytjekhcojebgpnaa.Bits Go.Proofs.Ytjekhcojebgpnaa.Mem Go.Proofs.Ytjekhcojebgpnaa.Search Go.Proofs.Ytjekhcojebgpnaa.Layout Go.Proofs.Ytjekhcojebgpnaa.Arena Go.Proofs.Ytjekhcojebgpnaa.GroupB
/-- What a Range yields next: whatever has been asked from, how often it may still yield. -/
def rowR (upt : ByteArray) (x : TX) (i : ByteArray × Nat) : Option (List Value × (ByteArray × Nat)) :=
 match ceilL x.L i.1 with
 | some p => if Op.bytesLess p.1.toList upt.toList then some ([.string p.1, .string p.2], (p.1 ++ ⟨#[0]⟩, i.2 - 1)) else none
 | none => none
section
variable (pa off : Nat) {l : Lay} (hl : l.err = 0)
include hl
theorem Range1_ok (bt bf bo : Nat) (frm upt : ByteArray) (n0 : Nat) (Inv : ByteArray × Nat → ArS × TX → Prop) (hI : ∀ i y, Inv i y → y.1.ok ∧ (∃ R, TrOk l y.1 off y.2 R) ∧ (rowR upt y.2 i ≠ none → 0 < i.2)) :
  IterG Try.prog 35 #[.pointer (some ⟨bt, 0, none⟩), .pointer (some ⟨bf, 0, none⟩), .pointer (some ⟨bo, 0, none⟩)] [pt bt (.cells #[.pointer (some ⟨pa, 0, none⟩), .int .i64 l.key, .int .i64 l.elem, .int .i64 l.ka, .int .i64 l.ea, .int .i64 l.cap, .int .i64 l.eo, .int .i64 l.bo, .int .i64 l.slot, .int .i64 l.group, .int .i64 ((off : Nat) : Int)] 27 (0, 0)), pt bf (.cells #[.string frm] 9 (0, 0)), pt bo (.cells #[.string upt] 9 (0, 0))] [pt bt (.cells #[.pointer (some ⟨pa, 0, none⟩), .int .i64 l.key, .int .i64 l.elem, .int .i64 l.ka, .int .i64 l.ea, .int .i64 l.cap, .int .i64 l.eo, .int .i64 l.bo, .int .i64 l.slot, .int .i64 l.group, .int .i64 ((off : Nat) : Int)] 27 (0, 0)), pt bf (.cells #[.string frm] 9 (0, 0)), pt bo (.cells #[.string upt] 9 (0, 0))] Inv (fun y => [arenaH pa y.1]) (fun i y => rowR upt y.2 i) (frm, n0) := by
 refine ⟨en35, fun lp B Bo Z hB hY s0 hs0 => ?_⟩
 show FnOk _ _ #[.func (.yield lp) #[] #[], .pointer (some ⟨bt, 0, none⟩), .pointer (some ⟨bf, 0, none⟩), .pointer (some ⟨bo, 0, none⟩)] ([pt bt (.cells #[.pointer (some ⟨pa, 0, none⟩), .int .i64 l.key, .int .i64 l.elem, .int .i64 l.ka, .int .i64 l.ea, .int .i64 l.cap, .int .i64 l.eo, .int .i64 l.bo, .int .i64 l.slot, .int .i64 l.group, .int .i64 ((off : Nat) : Int)] 27 (0, 0)), pt bf (.cells #[.string frm] 9 (0, 0)), pt bo (.cells #[.string upt] 9 (0, 0))] ++ ([arenaH pa s0.1] ++ [Bo (frm, n0) s0])) _
 obtain ⟨hs, ⟨R, H⟩, _⟩ := hI _ _ hs0
 refine fn_intro en35 Try.func35 rfl rfl rfl fun Fr w0 => t_nm ?_
 refine sr<|l_q O (qlda O yA27 yS27) ?_
 refine l_q O (qld O yA9) ?_
 refine lc1 O O O (Ceiling_ok pa off s0.1 hl hs H frm) ?_
 refine mv O O<|l_q O (q_extractL O ga) ?_
 refine l_q O (q_extractL O ga) ?_
 refine l_q O (q_extractL O ga) ?_
 refine o_allocA O yZ69 fun b5 => sta O O O yS69 O O ?_
 refine asg O O<|asg O O<|lc<|t_block ?_
 refine t_loop (fun y : (ByteArray × Nat) × (ArS × TX) => Inv y.1 y.2) (fun y => [(0, .func (.yield lp) #[] #[]), (1, .pointer (some ⟨bt, 0, none⟩)), (3, .pointer (some ⟨bo, 0, none⟩)), (5, .pointer (some ⟨b5, 0, none⟩)), (6, .bool (ceilL y.2.2.L y.1.1).isSome)]) (fun y => pt b5 (.cells #[.string ((ceilL y.2.2.L y.1.1).getD p0).1, .string ((ceilL y.2.2.L y.1.1).getD p0).2] 69 (0, 0)) :: pt bt (.cells #[.pointer (some ⟨pa, 0, none⟩), .int .i64 l.key, .int .i64 l.elem, .int .i64 l.ka, .int .i64 l.ea, .int .i64 l.cap, .int .i64 l.eo, .int .i64 l.bo, .int .i64 l.slot, .int .i64 l.group, .int .i64 ((off : Nat) : Int)] 27 (0, 0)) :: pt bf (.cells #[.string frm] 9 (0, 0)) :: pt bo (.cells #[.string upt] 9 (0, 0)) :: arenaH pa y.2.1 :: Bo y.1 y.2 :: Fr) (fun y => y.1.2) ((frm, n0), s0) hs0 ⟨rfl, rfl, rfl, rfl, rfl, trivial⟩ (by (exact en)) ?_
 rintro ⟨⟨k, n⟩, ⟨s, x⟩⟩ hy
 dsimp only at hy ⊢
 obtain ⟨hs1, ⟨R1, H1⟩, hpos⟩ := hI _ _ hy
 dsimp only at hs1 H1 hpos
 refine t_seq<|sr<|mv O O<|mv O O<|l_pt (t := 16) rfl (fun c => ?_) fun c => ?_
 ·refine l_on O O<|l_q O (qfa 0 O yU69 O O yS9)<|l_on O O<|l_q O (qld O yA9) ?_
  refine l_on O O<|l_q O (qld O yA9) ?_
  refine l_on O O ?_
  apply l_q O
  ·apply qs O O; first | exact fun w => b_lssS w | exact fun w => b_lssS w (by omega)
  refine l_q O (q_pk O O)<|lc<|t_if O (fun c2 => ?_) fun c2 => ?_
  ·obtain ⟨p, hp⟩ := Option.isSome_iff_exists.1 c
   rw [hp] at c2
   have hrow : rowR upt x (k, n) = some ([.string p.1, .string p.2], (p.1 ++ ⟨#[0]⟩, n - 1)) := by unfold rowR; simp only [hp]; exact if_pos c2
   have hn := hpos (by rw [hrow]; simp)
   have hsz := (H1.sz p (List.mem_of_getElem? hp)).1
   have hl9 := wN_bnd hl
   have hsz2 : p.1.size ≤ 1000 := by unfold wN at hl9; omega
   have hsz3 : (⟨#[0]⟩ : ByteArray).size = 1 := rfl
   rw [hp, Option.getD_some]
   refine t_skip<|n_code<|t_block<|t_seq<|sr<|mv O O<|l_q O (qfa 0 O yU69 O O yS9)<|l_q O (qld O yA9) ?_
   refine l_q O (qfa 1 O yU69 O O yS9)<|l_q O (qld O yA9) ?_
   apply l_yield O O O ((hY _ _ _ _ hy hrow))
   ·exact pk
   ·exact pk
   rintro b L' (⟨rfl, rfl⟩ | ⟨rfl, rfl⟩)
   ·refine l_nm ?_
    refine l_turn (X := { z : ArS × TX // Inv (p.1 ++ ⟨#[0]⟩, n - 1) z }) (LL := fun z => [arenaH pa z.1.1] ++ (Bo (p.1 ++ ⟨#[0]⟩, n - 1) z.1 :: _)) (fun w h => hB _ _ _ h) ?_
    rintro ⟨⟨s', x'⟩, hy'⟩
    dsimp only
    obtain ⟨hs2, ⟨R2, H2⟩, _⟩ := hI _ _ hy'
    dsimp only at hs2 H2
    refine l_nm ?_
    refine l_q O (q_un O (u_not ·))<|lc<|t_cond_f O<|t_skip<|n_code<|t_region<|l_q O (qlda O yA27 yS27) ?_
    refine l_q O (qfa 0 O yU69 O O yS9)<|l_q O (qld O yA9) ?_
    apply l_q O
    ·apply qs O O; first | exact fun w => b_addS w | exact fun w => b_addS w (by omega)
    refine lc1 O O O (Ceiling_ok pa off s' hl hs2 H2 (p.1 ++ ⟨#[0]⟩)) ?_
    refine mv O O<|l_q O (q_extractL O ga) ?_
    refine l_q O (q_extractL O ga) ?_
    refine l_q O (q_extractL O ga) ?_
    refine sta O O O yS69 O O ?_
    refine asg O O<|l_nil<|n_blk ?_
    apply n_again (((p.1 ++ ⟨#[0]⟩, n - 1), (s', x')))
    ·exact hy'
    ·(try dsimp only); omega
    ·exact ⟨O, O, O, O, O, trivial⟩
    ·exact en
   ·refine l_nm ?_
    refine l_q O (q_un O (u_not ·))<|lc<|t_cond_t O<|rt ?_
    apply f_ret (.inl rfl) ([pt bt (.cells #[.pointer (some ⟨pa, 0, none⟩), .int .i64 l.key, .int .i64 l.elem, .int .i64 l.ka, .int .i64 l.ea, .int .i64 l.cap, .int .i64 l.eo, .int .i64 l.bo, .int .i64 l.slot, .int .i64 l.group, .int .i64 ((off : Nat) : Int)] 27 (0, 0)), pt bf (.cells #[.string frm] 9 (0, 0)), pt bo (.cells #[.string upt] 9 (0, 0))] ++ [Z])
    ·exact res0 O
    ·exact .inr rfl
    ·exact en
  ·have hrow : rowR upt x (k, n) = none := by (obtain ⟨p, hp⟩ := Option.isSome_iff_exists.1 c; rw [hp] at c2; unfold rowR; simp only [hp]; exact if_neg (fun w => by rw [Option.getD_some] at c2; rw [c2] at w; cases w))
   refine xt O ?_
   apply f_ret (.inr rfl) ([pt bt (.cells #[.pointer (some ⟨pa, 0, none⟩), .int .i64 l.key, .int .i64 l.elem, .int .i64 l.ka, .int .i64 l.ea, .int .i64 l.cap, .int .i64 l.eo, .int .i64 l.bo, .int .i64 l.slot, .int .i64 l.group, .int .i64 ((off : Nat) : Int)] 27 (0, 0)), pt bf (.cells #[.string frm] 9 (0, 0)), pt bo (.cells #[.string upt] 9 (0, 0))] ++ ([arenaH pa s] ++ [Bo (k, n) (s, x)]))
   ·exact res0 O
   ·exact .inl ⟨(k, n), (s, x), hy, hrow, rfl⟩
   ·exact en
 ·refine l_off O O O O<|l_off O O O O<|l_off O O O O<|l_off O O O O<|l_q O (q_pk O O)<|lc<|t_cond_f O<|xt O ?_
  have hrow : rowR upt x (k, n) = none := by (have hp : ceilL x.L k = none := by simpa using c); unfold rowR; simp only [hp]
  apply f_ret (.inr rfl) ([pt bt (.cells #[.pointer (some ⟨pa, 0, none⟩), .int .i64 l.key, .int .i64 l.elem, .int .i64 l.ka, .int .i64 l.ea, .int .i64 l.cap, .int .i64 l.eo, .int .i64 l.bo, .int .i64 l.slot, .int .i64 l.group, .int .i64 ((off : Nat) : Int)] 27 (0, 0)), pt bf (.cells #[.string frm] 9 (0, 0)), pt bo (.cells #[.string upt] 9 (0, 0))] ++ ([arenaH pa s] ++ [Bo (k, n) (s, x)]))
  ·exact res0 O
  ·exact .inl ⟨(k, n), (s, x), hy, hrow, rfl⟩
  ·exact en
omit hl in
theorem Range_ok (frm upt : ByteArray) : FnOk Try.prog 19 #[.agg #[.pointer (some ⟨pa, 0, none⟩), .int .i64 l.key, .int .i64 l.elem, .int .i64 l.ka, .int .i64 l.ea, .int .i64 l.cap, .int .i64 l.eo, .int .i64 l.bo, .int .i64 l.slot, .int .i64 l.group, .int .i64 ((off : Nat) : Int)], .string frm, .string upt] [] (fun v L => ∃ bt bf bo, v = .func (.func 35) #[] #[.pointer (some ⟨bt, 0, none⟩), .pointer (some ⟨bf, 0, none⟩), .pointer (some ⟨bo, 0, none⟩)] ∧ L = [pt bt (.cells #[.pointer (some ⟨pa, 0, none⟩), .int .i64 l.key, .int .i64 l.elem, .int .i64 l.ka, .int .i64 l.ea, .int .i64 l.cap, .int .i64 l.eo, .int .i64 l.bo, .int .i64 l.slot, .int .i64 l.group, .int .i64 ((off : Nat) : Int)] 27 (0, 0)), pt bf (.cells #[.string frm] 9 (0, 0)), pt bo (.cells #[.string upt] 9 (0, 0))]) := by
 refine fn_intro en19 Try.func19 rfl rfl rfl fun Fr w0 => t_nm ?_
 exact sr<|o_boxA O O fun b3 => o_box1 O O O fun b4 => o_box1 O O O fun b5 => asg O O<|lz<|l_q O (q_makeFunc O O)<|asg O O<|lc<|rt<|fr1 O ([pt b3 (.cells #[.pointer (some ⟨pa, 0, none⟩), .int .i64 l.key, .int .i64 l.elem, .int .i64 l.ka, .int .i64 l.ea, .int .i64 l.cap, .int .i64 l.eo, .int .i64 l.bo, .int .i64 l.slot, .int .i64 l.group, .int .i64 ((off : Nat) : Int)] 27 (0, 0)), pt b4 (.cells #[.string frm] 9 (0, 0)), pt b5 (.cells #[.string upt] 9 (0, 0))]) (.tmp rfl) ⟨b3, b4, b5, rfl, rfl⟩
end
end Go.Proofs.Ytjekhcojebgpnaa.Bt
end
