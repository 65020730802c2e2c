import Derived.Test.YtjekhcojebgpnaaBtH
import Derived.Test.YtjekhcojebgpnaaBtW
section
/- A balanced tree in an arena's bytes: a taking, between what was taken below and the filling. No program's code. -/
set_option linter.unusedVariables false
set_option linter.unusedSimpArgs false
set_option linter.unusedSectionVars false
namespace Go.Proofs.Ytjekhcojebgpnaa.Bt
open Go.RowKit Go.Proofs Go.Proofs.Ytjekhcojebgpnaa.Eng Go.Proofs.Ytjekhcojebgpnaa.Mem Go.Proofs.Ytjekhcojebgpnaa.Layout Go.Proofs.Ytjekhcojebgpnaa.Arena Go.Proofs.Ytjekhcojebgpnaa.GroupB
def gv (G : List Nat) : List Int := G.map fun o => ((o : Nat) : Int)
theorem gv_app (a b : List Nat) : gv (a ++ b) = gv a ++ gv b := List.map_append
theorem gives_wm (m : Nat → Int) : ∀ (G : List Int) (s : ArS), (wm s m).gives G = wm (s.gives G) m
 | [], _ => rfl
 | o :: G, s => gives_wm m G (s.give o)
/-- An arena that is told of is sound. -/
theorem okA {P : Program} {f : FuncId} {args : Array Value} {D : List HP} {Post : Value → List HP → Prop} {pa : Nat} (h : FnOk P f args D Post) : FnOk P f args D fun v L => Post v L ∧ ∀ s1, arenaH pa s1 ∈ L → s1.ok :=
 h.know fun v L _ Fr w hw s1 hm => by
  obtain ⟨A, B, rfl⟩ := List.append_of_mem hm
  have := hw.perm (M := arenaH pa s1 :: (A ++ B ++ Fr)) (by
   rw [List.append_assoc, List.append_assoc]
   exact List.perm_middle)
  obtain ⟨x, hp, _⟩ := sat_exP.1 this
  exact hp.1
theorem gives_cat (s : ArS) (a b : List Int) : s.gives (a ++ b) = (s.gives a).gives b := List.foldl_append ..
theorem gives_ok : ∀ {G : List Int} {s : ArS}, s.ok → G.Nodup → (∀ o ∈ G, ∃ c, (o, c) ∈ s.bl) → (s.gives G).ok
 | [], s, hs, _, _ => hs
 | o :: G, s, hs, hn, hb => by
  obtain ⟨c, hc⟩ := hb o (by simp)
  have hn' := List.nodup_cons.1 hn
  refine gives_ok (G := G) (give_ok hs hc) hn'.2 fun o' ho' => ?_
  obtain ⟨c', hc'⟩ := hb o' (by simp [ho'])
  refine ⟨c', (give_bl hs hc).2 ⟨hc', fun e => ?_⟩⟩
  cases e
  exact hn'.1 ho'
theorem delL_sub (k : ByteArray) (L : List Pr) : List.Sublist (delL k L) L := List.filter_sublist
theorem delL_len {k : ByteArray} {L : List Pr} (hs : SL L) (h : ∃ p ∈ L, p.1 = k) : (delL k L).length + 1 = L.length := by
 obtain ⟨p, hp, hpk⟩ := h
 obtain ⟨a, b, rfl⟩ := List.append_of_mem hp
 rw [delL_mid hs hpk]
 simp only [List.length_append, List.length_cons]; omega
theorem takeP_len {h : Nat} {t : BT} {k : ByteArray} : (takeP h t k).length = t.ps.length := by unfold takeP; split <;> simp
/-- The node, its kid taken out of, before the filling. -/
def takeT (h : Nat) (t : BT) (k : ByteArray) : BT := .nd t.o (takeP h t k) (t.ks.set (rk t.ps k) (takeB h (kid t (rk t.ps k)) (takeK h t k)))
theorem offs_set {h i : Nat} {t c c' : BT} {G : List Nat} {ps : List Pr} (hc : t.ks[i]? = some c) (hp : (offs h c).Perm (offs h c' ++ G)) : (offs (h + 1) t).Perm (offs (h + 1) (.nd t.o ps (t.ks.set i c')) ++ G) := by
 obtain ⟨A, B, hAB, hA⟩ := part_at hc
 show (t.o :: (t.ks.map (offs h)).flatten).Perm (t.o :: ((t.ks.set i c').map (offs h)).flatten ++ G)
 rw [hAB, ← hA, set_mid]
 simp only [List.map_append, List.map_cons, List.flatten_append, List.flatten_cons, List.cons_append, List.append_assoc]
 refine List.Perm.cons _ (List.Perm.append_left _ ?_)
 refine (hp.append_right _).trans ?_
 rw [List.append_assoc]
 exact List.Perm.append_left _ List.perm_append_comm
section
variable {h : Nat} {t : BT} {k : ByteArray}
theorem take_key (hk : ok (h + 1) 1 t) (hs : SL (lst (h + 1) t)) (hex : ∃ p ∈ lst (h + 1) t, p.1 = k) : ∃ p ∈ lst h (kid t (rk t.ps k)), p.1 = takeK h t k := by
 have hle := rk_le t.ps k
 have hm : kid t (rk t.ps k) ∈ t.ks := List.mem_of_getElem? (kid_at (by have := hk.2.2.1; omega))
 by_cases ho : own t k = true
 ·obtain ⟨init, hi⟩ := last_law (ok_mono (show 1 ≤ 3 by omega) (hk.2.2.2 _ hm))
  refine ⟨lastB h (kid t (rk t.ps k)), by rw [hi]; simp, ?_⟩
  unfold takeK; rw [if_pos ho]
 ·have ho' : own t k = false := by simpa using ho
  obtain ⟨a, b, q1, _, _, _, q5, q6⟩ := way_on hk hs ho'
  obtain ⟨p, hp, hpk⟩ := hex
  have q1' : lst (h + 1) t = a ++ lst h (kid t (rk t.ps k)) ++ b := q1
  rw [q1'] at hp
  unfold takeK; rw [if_neg ho]
  rcases List.mem_append.1 hp with w | w
  ·rcases List.mem_append.1 w with w | w
   ·exact absurd hpk (lt_ne (q5 p w))
   ·exact ⟨p, w, hpk⟩
  ·exact absurd hpk.symm (lt_ne (q6 p w))
theorem take_kid (hk : ok (h + 1) 1 t) (hs : SL (lst (h + 1) t)) (hex : ∃ p ∈ lst (h + 1) t, p.1 = k) : ok h 2 (takeB h (kid t (rk t.ps k)) (takeK h t k)) ∧ (offs h (kid t (rk t.ps k))).Perm (offs h (takeB h (kid t (rk t.ps k)) (takeK h t k)) ++ takeG h (kid t (rk t.ps k)) (takeK h t k)) := by
 have hle := rk_le t.ps k
 have hlt : rk t.ps k < t.ks.length := by have := hk.2.2.1; omega
 have hm : kid t (rk t.ps k) ∈ t.ks := List.mem_of_getElem? (kid_at hlt)
 obtain ⟨a, b, q1, _⟩ := lst_parts (i := rk t.ps k) hk hle
 have q1' : lst (h + 1) t = a ++ lst h (kid t (rk t.ps k)) ++ b := q1
 have hs' := hs
 rw [q1'] at hs'
 obtain ⟨_, r2, r3⟩ := take_law (show 1 ≤ 3 by omega) (hk.2.2.2 _ hm) (SL.app (SL.app hs').1).2.1 (take_key hk hs hex)
 exact ⟨r2, r3⟩
/-- All that holds of the node then, but for the bytes. -/
theorem take_mid (hk : ok (h + 1) 1 t) (hs : SL (lst (h + 1) t)) (hex : ∃ p ∈ lst (h + 1) t, p.1 = k) : (takeT h t k).ks.length = (takeT h t k).ps.length + 1 ∧ rk t.ps k ≤ (takeT h t k).ps.length ∧ (∀ j, j ≠ rk t.ps k → ∀ c, (takeT h t k).ks[j]? = some c → t.ks[j]? = some c ∧ ok h 3 c) ∧
  kid (takeT h t k) (rk t.ps k) = takeB h (kid t (rk t.ps k)) (takeK h t k) ∧ lst (h + 1) (takeT h t k) = delL k (lst (h + 1) t) ∧ (offs (h + 1) t).Perm (offs (h + 1) (takeT h t k) ++ takeG h (kid t (rk t.ps k)) (takeK h t k)) := by
 have hle := rk_le t.ps k
 have hlt : rk t.ps k < t.ks.length := by have := hk.2.2.1; omega
 obtain ⟨r2, r3⟩ := take_kid hk hs hex
 have e1 : (takeT h t k).ks.length = (takeT h t k).ps.length + 1 := by
  show (t.ks.set _ _).length = (takeP h t k).length + 1
  rw [List.length_set, takeP_len]; exact hk.2.2.1
 have e2 : rk t.ps k ≤ (takeT h t k).ps.length := by show _ ≤ (takeP h t k).length; rw [takeP_len]; exact hle
 have e3 : ∀ j, j ≠ rk t.ps k → ∀ c, (takeT h t k).ks[j]? = some c → t.ks[j]? = some c ∧ ok h 3 c := fun j hj c hc => by
  have hc' : (t.ks.set (rk t.ps k) (takeB h (kid t (rk t.ps k)) (takeK h t k)))[j]? = some c := hc
  rw [List.getElem?_set, if_neg (fun e => hj e.symm)] at hc'
  exact ⟨hc', hk.2.2.2 c (List.mem_of_getElem? hc')⟩
 have e4 : kid (takeT h t k) (rk t.ps k) = takeB h (kid t (rk t.ps k)) (takeK h t k) := by
  unfold kid
  rw [show (takeT h t k).ks = t.ks.set (rk t.ps k) (takeB h (kid t (rk t.ps k)) (takeK h t k)) from rfl, List.getElem?_set, if_pos rfl, if_pos hlt]; rfl
 have f := fill_law (h := h) (lo := 1) (o := t.o) (i := rk t.ps k) (ps := takeP h t k) (ks := t.ks.set (rk t.ps k) (takeB h (kid t (rk t.ps k)) (takeK h t k))) (Nat.le_refl 1) (by rw [takeP_len]; exact hk.1) (by rw [takeP_len]; exact hk.2.1) e1 e2 (fun j hj c hc => (e3 j hj c hc).2) (by
  rw [show kid (BT.nd t.o (takeP h t k) (t.ks.set (rk t.ps k) (takeB h (kid t (rk t.ps k)) (takeK h t k)))) (rk t.ps k) = _ from e4]; exact r2)
 refine ⟨e1, e2, e3, e4, ?_, offs_set (kid_at hlt) r3⟩
 have := (take_law (Nat.le_refl 1) hk hs hex).1
 exact f.1.symm.trans this
end
/-- What holds ahead of a taking. -/
structure TkP (l : Lay) (s : ArS) (h : Nat) (t : BT) (k : ByteArray) : Prop where
 sub : SubT l s (some (h, t))
 apart : Apart l (offs h t)
 key : ∃ p ∈ lst h t, p.1 = k
section
variable {l : Lay} {s : ArS} {h : Nat} {t : BT} {k : ByteArray}
theorem Apart.perm {os os' : List Nat} (h : Apart l os) (hp : os.Perm os') : Apart l os' := (hp.pairwise_iff (fun h => Or.symm h)).1 h
theorem Apart.nodup (hl : l.err = 0) {os : List Nat} (h : Apart l os) : os.Nodup := h.imp fun w e => by
 subst e
 have := nb_bnd hl
 omega
theorem gv_nodup {G : List Nat} (h : G.Nodup) : (gv G).Nodup := List.Pairwise.map _ (fun a b w e => w (by exact_mod_cast e)) h
theorem mem_gv {G : List Nat} {x : Int} : x ∈ gv G ↔ ∃ o ∈ G, ((o : Nat) : Int) = x := by simp [gv]
/-- The kid, when the node has been written. -/
theorem TkP.kid (P : TkP l s (h + 1) t k) {m1 : Nat → Int} (hS : ∀ a, a < t.o ∨ t.o + nbN l ≤ a → m1 a = s.m a) : TkP l (wm s m1) h (Bt.kid t (rk t.ps k)) (takeK h t k) := by
 obtain ⟨hk, h2, h3, h4, h5, h6⟩ := P.sub _ _ rfl
 have hle := rk_le t.ps k
 have hlt : rk t.ps k < t.ks.length := by have := hk.2.2.1; omega
 have hm : Bt.kid t (rk t.ps k) ∈ t.ks := List.mem_of_getElem? (kid_at hlt)
 have hap := apart_kids (os := []) (by rw [List.append_nil]; exact P.apart)
 have hsub : SubT l s (some (h, Bt.kid t (rk t.ps k))) := P.sub.nxt hle
 refine ⟨fun h' t' e => ?_, List.Pairwise.sublist (offs_sub hm) P.apart, take_key hk h4 P.key⟩
 cases e
 obtain ⟨a1, a2, a3, a4, a5, a6⟩ := hsub _ _ rfl
 exact ⟨a1, a2.same a1 fun o ho a b1 b2 => hS a (by rcases hap.1 _ _ (kid_at hlt) o ho with w | w <;> omega), a3, a4, a5, a6⟩
/-- The node, when the kid has been taken out of. -/
theorem TkP.mid (hl : l.err = 0) (hs : s.ok) (P : TkP l s (h + 1) t k) {m1 m2 : Nat → Int} (hN : NodeM l m1 t.o (takeP h t k) false (t.ks.map BT.o) (tot (h + 1) t - 1)) (hS1 : ∀ a, a < t.o ∨ t.o + nbN l ≤ a → m1 a = s.m a)
  (hT : TreeM l m2 h (takeB h (Bt.kid t (rk t.ps k)) (takeK h t k))) (hS2 : ∀ a, Away l (offs h (Bt.kid t (rk t.ps k))) a → m2 a = m1 a) :
  (s.gives (gv (takeG h (Bt.kid t (rk t.ps k)) (takeK h t k)))).ok ∧ NdP l (wm (s.gives (gv (takeG h (Bt.kid t (rk t.ps k)) (takeK h t k)))) m2) h (takeT h t k) (rk t.ps k) ∧ tot (h + 1) (takeT h t k) = tot (h + 1) t - 1 ∧ (takeT h t k).ks.map BT.o = t.ks.map BT.o ∧ ∀ o ∈ offs (h + 1) (takeT h t k), o ∈ offs (h + 1) t := by
 obtain ⟨hk, h2, h3, h4, h5, h6⟩ := P.sub _ _ rfl
 obtain ⟨e1, e2, e3, e4, e5, e6⟩ := take_mid hk h4 P.key
 obtain ⟨r2, r3⟩ := take_kid hk h4 P.key
 have hle := rk_le t.ps k
 have hlt : rk t.ps k < t.ks.length := by have := hk.2.2.1; omega
 have hm : Bt.kid t (rk t.ps k) ∈ t.ks := List.mem_of_getElem? (kid_at hlt)
 have hap := apart_kids (os := []) (by rw [List.append_nil]; exact P.apart)
 have hap2 := P.apart.perm e6
 have hnd := hap2.nodup hl
 have hnd3 := List.nodup_append.1 hnd
 have hin : ∀ o ∈ offs (h + 1) (takeT h t k), o ∈ offs (h + 1) t := fun o ho => e6.mem_iff.2 (List.mem_append_left _ ho)
 have hG : ∀ o ∈ takeG h (Bt.kid t (rk t.ps k)) (takeK h t k), o ∈ offs (h + 1) t := fun o ho => e6.mem_iff.2 (List.mem_append_right _ ho)
 have hdl := delL_len h4 P.key
 have htot : tot (h + 1) (takeT h t k) = tot (h + 1) t - 1 := by unfold tot; rw [e5]; omega
 have hKo : (takeT h t k).ks.map BT.o = t.ks.map BT.o := set_o (kid_at hlt) take_o
 have hok : (s.gives (gv (takeG h (Bt.kid t (rk t.ps k)) (takeK h t k)))).ok := gives_ok hs (gv_nodup hnd3.2.1) fun x hx => by
  obtain ⟨o, ho, rfl⟩ := mem_gv.1 hx
  exact ⟨_, h3 o (hG o ho)⟩
 have hK8 : (t.ks.map BT.o).length ≤ 8 := ks_len hk
 refine ⟨hok, ⟨by show 1 ≤ (takeP h t k).length; rw [takeP_len]; exact hk.1, by show (takeP h t k).length ≤ 7; rw [takeP_len]; exact hk.2.1, e1, e2, fun j hj c hc => (e3 j hj c hc).2, by rw [e4]; exact r2, ⟨?_, fun c hc => ?_⟩, fun o ho => ?_, hap2.sublist (List.sublist_append_left _ _), by rw [e5]; exact h4.sublist (delL_sub _ _), fun p hp => h5 p ((delL_sub k _).subset (by rw [← e5]; exact hp)), by rw [e5]; omega⟩, htot, hKo, hin⟩
 ·show NodeM l m2 t.o (takeP h t k) false ((takeT h t k).ks.map BT.o) (tot (h + 1) (takeT h t k))
  rw [hKo, htot]
  refine hN.same (by rw [takeP_len]; exact hk.2.1) hK8 fun a b1 b2 => hS2 a fun o ho => ?_
  rcases hap.1 _ _ (kid_at hlt) o ho with w | w <;> omega
 ·obtain ⟨j, hj⟩ := List.getElem?_of_mem hc
  by_cases q : j = rk t.ps k
  ·subst q
   have : (takeT h t k).ks[rk t.ps k]? = some (Bt.kid (takeT h t k) (rk t.ps k)) := kid_at (by rw [e1]; omega)
   rw [this] at hj
   cases hj
   rw [e4]
   exact hT
  ·obtain ⟨hj', hok3⟩ := e3 j q c hj
   have hcm := List.mem_of_getElem? hj'
   refine (h2.2 c hcm).same hok3 fun o ho a b1 b2 => ?_
   rw [wm_m, hS2 a fun x hx => ?_, hS1 a ?_]
   ·rcases hap.1 j c hj' o ho with w | w <;> omega
   ·rcases hap.2.2.1 j _ c _ q hj' (kid_at hlt) o ho x hx with w | w <;> omega
 ·rw [wm_bl]
  refine gives_bl.2 ⟨h3 o (hin o ho), fun hx => ?_⟩
  obtain ⟨o', ho', e⟩ := mem_gv.1 hx
  have : o' = o := by simp only [blkN] at e; omega
  subst this
  exact hnd3.2.2 o' ho o' ho' rfl
end
end Go.Proofs.Ytjekhcojebgpnaa.Bt
end
section
/- A balanced tree in an arena: behind a deletion. No program's code. -/
set_option linter.unusedVariables false
set_option linter.unusedSimpArgs false
set_option linter.unusedSectionVars false
namespace Go.Proofs.Ytjekhcojebgpnaa.Bt
open Go.RowKit Go.Proofs Go.Proofs.Ytjekhcojebgpnaa.Eng Go.Proofs.Ytjekhcojebgpnaa.Mem Go.Proofs.Ytjekhcojebgpnaa.Layout Go.Proofs.Ytjekhcojebgpnaa.Arena Go.Proofs.Ytjekhcojebgpnaa.GroupB
/-- The blocks that are left. -/
theorem gives_perm {s : ArS} {A B : List (Int × Int)} {G : List Int} (hs : s.ok) (hs2 : (s.gives G).ok) (hp : s.bl.Perm (A ++ B)) (hG : B.map (·.1) = G) : (s.gives G).bl.Perm A := by
 have hnd := (hp.map (·.1)).nodup (bl_fst hs)
 rw [List.map_append] at hnd
 have hnd3 := List.nodup_append.1 hnd
 have hA : A.Nodup := (List.pairwise_map.1 hnd3.1).imp fun h e => h (by rw [e])
 refine (List.perm_ext_iff_of_nodup (bl_nodup hs2) hA).2 fun p => ?_
 rw [gives_bl, hp.mem_iff, List.mem_append, ← hG]
 constructor
 ·rintro ⟨w | w, h2⟩
  ·exact w
  ·exact absurd (List.mem_map.2 ⟨p, w, rfl⟩) h2
 ·intro w
  exact ⟨.inl w, fun hx => hnd3.2.2 p.1 (List.mem_map.2 ⟨p, w, rfl⟩) p.1 hx rfl⟩
section
variable {l : Lay} {s : ArS} {off : Nat} {x x' : TX} {R : List (Int × Int)} {G : List Nat}
theorem gives_tree (hl : l.err = 0) (hs : s.ok) (H : TrOk l s off x R) (hoffs : x.offs.Perm (x'.offs ++ G)) : (s.gives (gv G)).ok ∧ (((off : Nat) : Int), 64) ∈ (s.gives (gv G)).bl := by
 obtain ⟨a1, a2, a3, a4⟩ := apart_of hl hs H.bl
 have hnb := nb_bnd hl
 have hnd := (a1.perm hoffs).nodup hl
 have hin : ∀ o ∈ G, o ∈ x.offs := fun o ho => hoffs.mem_iff.2 (List.mem_append_right _ ho)
 refine ⟨gives_ok hs (gv_nodup (List.nodup_append.1 hnd).2.1) fun y hy => ?_, gives_bl.2 ⟨H.hdr, fun hy => ?_⟩⟩
 ·obtain ⟨o, ho, rfl⟩ := mem_gv.1 hy
  exact ⟨_, a3 o (hin o ho)⟩
 ·obtain ⟨o, ho, e⟩ := mem_gv.1 hy
  have := a2 o (hin o ho)
  simp only at e
  omega
theorem del_fin (hl : l.err = 0) (hs : s.ok) (H : TrOk l s off x R) (hoffs : x.offs.Perm (x'.offs ++ G)) {k : ByteArray} (hL : x'.L = delL k x.L) {m2 m3 : Nat → Int} (htree : ∀ h t, x' = some (h, t) → ok h 1 t ∧ TreeM l m2 h t) (hS2 : ∀ a, Away l x.offs a → m2 a = s.m a)
  (w0 : loadN m3 off 8 = ((x'.L.length : Nat) : Int)) (w1 : loadN m3 (off + 8) 8 = ((x'.root : Nat) : Int)) (w2 : loadN m3 (off + 16) 8 = ((x'.height : Nat) : Int)) (w3 : loadN m3 (off + 24) 8 = ((x'.offs.length : Nat) : Int)) (hS3 : ∀ a, a < off ∨ off + 64 ≤ a → m3 a = m2 a) :
  TrOk l (wm (s.gives (gv G)) m3) off x' R ∧ ∀ p ∈ R, ∀ a : Nat, p.1 ≤ a → (a : Int) < p.1 + p.2 → m3 a = s.m a := by
 obtain ⟨a1, a2, a3, a4⟩ := apart_of hl hs H.bl
 have hs2 := (gives_tree hl hs H hoffs).1
 refine ⟨⟨?_, w0, w1, w2, w3, fun h t e => ⟨(htree h t e).1, (htree h t e).2.same (htree h t e).1 fun o ho a b1 b2 => hS3 a ?_⟩, by rw [hL]; exact H.sl.sublist (delL_sub _ _), fun p hp => H.sz p ((delL_sub k _).subset (by rw [← hL]; exact hp))⟩, fun p hp a b1 b2 => ?_⟩
 ·rw [wm_bl]
  refine gives_perm (B := G.map (blkN l)) hs hs2 (H.bl.trans ?_) (by rw [List.map_map]; rfl)
  unfold ownB
  simp only [List.cons_append, List.append_assoc]
  refine List.Perm.cons _ ?_
  refine ((hoffs.map (blkN l)).append_right R).trans ?_
  rw [List.map_append, List.append_assoc]
  exact List.Perm.append_left _ List.perm_append_comm
 ·subst e
  have : o ∈ x.offs := hoffs.mem_iff.2 (List.mem_append_left _ ho)
  rcases a2 o this with w | w <;> omega
 ·rw [hS3 a ((a4 p hp).2 a b1 b2)]
  exact hS2 a fun o ho => (a4 p hp).1 o ho a b1 b2
end
/-- A root without pairs: what is below it is the tree. -/
theorem root_drop {l : Lay} {m : Nat → Int} : ∀ {h : Nat} {t : BT}, ok h 0 t → t.ps.length = 0 → (nxt h t 0).L = lst h t ∧ offs h t = t.o :: (nxt h t 0).offs ∧ (nxt h t 0).height = h ∧ ∀ h' t', nxt h t 0 = some (h', t') → ok h' 1 t' ∧ (TreeM l m h t → TreeM l m h' t')
 | 0, t, hk, h0 => ⟨(List.eq_nil_of_length_eq_zero h0).symm, rfl, rfl, fun h' t' e => by cases e⟩
 | g + 1, t, ⟨k1, k2, k3, k4⟩, h0 => by
  have hne : 0 < t.ks.length := by omega
  have hc := kid_at hne
  have hks : t.ks = [kid t 0] := by
   cases e : t.ks with
   | nil => rw [e] at hne; simp at hne
   | cons a r =>
    rw [e] at k3 hc
    have : r = [] := List.eq_nil_of_length_eq_zero (by simp at k3; omega)
    subst this
    simp at hc
    rw [hc]
  have hps : t.ps = [] := List.eq_nil_of_length_eq_zero h0
  refine ⟨?_, ?_, rfl, fun h' t' e => ?_⟩
  ·show lst g (kid t 0) = il (t.ks.map (lst g)) t.ps
   rw [hps]
   conv => rhs; rw [hks]
   rfl
  ·show t.o :: (t.ks.map (offs g)).flatten = t.o :: offs g (kid t 0)
   conv => lhs; rw [hks]
   simp
  ·cases e
   have hm := List.mem_of_getElem? hc
   exact ⟨ok_mono (by omega) (k4 _ hm), fun q => q.2 _ hm⟩
theorem root_kid {h : Nat} {t : BT} (hk : ok h 0 t) (h7 : (t.ks.map BT.o).length ≤ 8) : (pad 0 8 (t.ks.map BT.o))[0]? = some (nxt h t 0).root := by
 cases h with
 | zero => rw [hk.2.2]; rfl
 | succ g =>
  have hne : 0 < t.ks.length := by have := hk.2.2.1; omega
  rw [pad_at h7 (by simpa using hne), List.getElem?_map, kid_at hne]; rfl
theorem ok_one {h : Nat} {t : BT} (hk : ok h 0 t) (h1 : 1 ≤ t.ps.length) : ok h 1 t := by
 cases h with
 | zero => exact ⟨h1, hk.2⟩
 | succ g => exact ⟨h1, hk.2⟩
end Go.Proofs.Ytjekhcojebgpnaa.Bt
end
