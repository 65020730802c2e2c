import Derived.Test.YtgijnebgchkenaaGreatDoorGroupB
import Derived.Test.YtgijnebgchkenaaGreatDoorSearch
/- The contracts of package arena. -/
set_option linter.unusedVariables false
set_option linter.unusedSimpArgs false
set_option maxRecDepth 100000
namespace Go.Proofs.YtgijnebgchkenaaGreatDoor.Arena
open Go.RowKit Go.Proofs Go.Proofs.YtgijnebgchkenaaGreatDoor.Eng Go.Proofs.YtgijnebgchkenaaGreatDoor.Ty Go.Proofs.YtgijnebgchkenaaGreatDoor.Bits Go.Proofs.YtgijnebgchkenaaGreatDoor.Mem Go.Proofs.YtgijnebgchkenaaGreatDoor.Search

/-- The power of two from 16 on that n bytes fit into. -/
def twoI (n : Int) : Int := match (List.range 17).find? (fun e => decide (n ≤ 16 * 2 ^ e)) with | some e => 16 * 2 ^ e | none => 0
theorem two_hit {n : Int} {e : Nat} (h : n ≤ 16 * 2 ^ e) (he : e ≤ 16) (hno : ∀ j, j < e → 16 * (2 : Int) ^ j < n) : twoI n = 16 * 2 ^ e := by
  unfold twoI
  have : (List.range 17).find? (fun e => decide (n ≤ 16 * 2 ^ e)) = some e := by
    rw [List.find?_range_eq_some]
    exact ⟨by simpa using h, by simp; omega, fun j hj => by have := hno j hj; simp; omega⟩
  rw [this]
/-- The bytes of a block for n bytes. -/
def classI (n : Int) : Int := if n < 1 ∨ 1048576 < n then 0 else if 24 < twoI n / 4 * 3 ∧ n ≤ twoI n / 4 * 3 then twoI n / 4 * 3 else twoI n

theorem Class_ok (n : Int) : FnOk Tryz.prog 10 #[.int .i64 n] [] (fun v L => v = .int .i64 (classI n) ∧ L = []) := by
  refine fn_intro en10 Tryz.func10 rfl rfl rfl fun Fr w0 => t_nm ?_
  refine sr <| asg rfl rfl <| lc <| t_seq <| sr <| mv rfl rfl <| l_q rfl (qi rfl rfl (b_lss ·)) <| mv rfl rfl <| l_pt (t := 7) rfl (fun h => ?_) fun h => ?_
  · refine l_off rfl rfl rfl rfl <| l_off rfl rfl rfl rfl <| l_q rfl (q_pk rfl rfl) <| lc <| t_cond_t rfl <| sr <| asg rfl rfl <| lc <| rt <| fr1 rfl ([]) (.tmp rfl) ?_
    exact ⟨by unfold classI; rw [if_pos (.inl h)], rfl⟩
  · refine l_on rfl rfl <| mv rfl rfl <| l_on rfl rfl <| l_q rfl (qi rfl rfl (b_gtr ·)) <| l_q rfl (q_pk rfl rfl) <| lc <| t_if rfl (fun h2 => ?_) fun h2 => ?_
    · refine sr <| asg rfl rfl <| lc <| rt <| fr1 rfl ([]) (.tmp rfl) ?_
      exact ⟨by unfold classI; rw [if_pos (.inr h2)], rfl⟩
    · refine t_skip <| nz <| asg rfl rfl <| lc <| t_seq <| t_block ?_
      refine t_loop (fun e : Nat => e ≤ 16 ∧ ∀ j, j < e → 16 * (2 : Int) ^ j < n) (fun e => [(0, .int .i64 n), (3, .int .i64 (16 * 2 ^ e))]) (fun _ => Fr) (fun e => 17 - e) 0 ⟨by omega, by omega⟩ ⟨rfl, rfl, trivial⟩ (Ent.refl _) ?_
      rintro e ⟨he, hno⟩
      have pe : (2 : Int) ^ (e + 1) = 2 * 2 ^ e := by rw [Int.pow_succ]; omega
      have p0 : (1 : Int) ≤ 2 ^ e := by have := pow_cast e; have := Nat.two_pow_pos e; omega
      have p1 : (2 : Int) ^ e ≤ 65536 := by
        have h1 : 2 ^ e ≤ 2 ^ 16 := Nat.pow_le_pow_right (by decide) he
        have := pow_cast e
        omega
      refine t_seq <| sr <| mv rfl rfl <| mv rfl rfl <| l_q rfl (qi rfl rfl (b_lss ·)) <| lc <| t_if rfl (fun q => ?_) fun q => ?_
      · refine t_skip <| n_code <| t_block <| t_region <| mv rfl rfl <| l_q rfl (qmul rfl rfl) ?_
        refine asg rfl rfl <| l_nil <| n_blk ?_
        apply n_again ((e + 1))
        · exact ⟨by rcases Nat.lt_or_ge e 16 with h16 | h16; omega; (have : e = 16 := by omega); subst this; omega, fun j hj => by by_cases hje : j = e; (subst hje; exact q); exact hno j (by omega)⟩
        · omega
        · exact ⟨rfl, congrArg (fun z => some (Value.int .i64 z)) (by omega), trivial⟩
        · exact en
      · refine xt rfl <| n_code <| t_seq <| sr <| mv rfl rfl <| l_q rfl (qquo rfl rfl) ?_
        refine l_q rfl (qmul rfl rfl) ?_
        refine asg rfl rfl <| lz <| mv rfl rfl <| l_q rfl (qi rfl rfl (b_gtr ·)) <| mv rfl rfl ?_
        have ht := two_hit (n := n) (e := e) (by omega) he hno
        refine l_pt (t := 21) rfl (fun r => ?_) fun r => ?_
        · refine l_on rfl rfl <| mv rfl rfl <| l_on rfl rfl <| mv rfl rfl <| l_on rfl rfl <| l_q rfl (qi rfl rfl (b_leq ·)) <| l_q rfl (q_pk rfl rfl) <| lc <| t_if rfl (fun s => ?_) fun s => ?_
          · refine sr <| mv rfl rfl <| asg rfl rfl <| lc <| rt <| fr1 rfl ([]) (.tmp rfl) ?_
            exact ⟨by unfold classI; rw [if_neg (by omega), ht, if_pos (by omega)], rfl⟩
          · refine t_skip <| nz <| mv rfl rfl <| asg rfl rfl <| lc <| rt <| fr1 rfl ([]) (.tmp rfl) ?_
            exact ⟨by unfold classI; rw [if_neg (by omega), ht, if_neg (by omega)], rfl⟩
        · refine l_off rfl rfl rfl rfl <| l_off rfl rfl rfl rfl <| l_off rfl rfl rfl rfl <| l_q rfl (q_pk rfl rfl) <| lc <| t_cond_f rfl <| t_skip <| nz <| mv rfl rfl <| asg rfl rfl <| lc <| rt <| fr1 rfl ([]) (.tmp rfl) ?_
          exact ⟨by unfold classI; rw [if_neg (by omega), ht, if_neg (by omega)], rfl⟩

/-- An arena none of whose blocks has been freed: its limit, its memory, its blocks (offset, bytes) one behind the other. -/
structure ArS where
  limit : Int
  m : Nat → Int
  bl : List (Int × Int)
namespace ArS
def sum : List (Int × Int) → Int
  | [] => 0
  | p :: r => p.2 + sum r
/-- The blocks lie one behind the other from o on. -/
def chain : Int → List (Int × Int) → Prop
  | _, [] => True
  | o, p :: r => p.1 = o ∧ 1 ≤ p.2 ∧ chain (o + p.2) r
def live (s : ArS) : Int := sum s.bl
def stop (s : ArS) : Nat := (16 + sum s.bl).toNat
structure ok (s : ArS) : Prop where
  limit : 0 ≤ s.limit ∧ s.limit ≤ 2097152
  room : s.live ≤ s.limit
  chain : chain 16 s.bl
  bytes : ∀ i, 0 ≤ s.m i ∧ s.m i < 256
theorem sum_nonneg : ∀ {o : Int} {bl : List (Int × Int)}, ArS.chain o bl → 0 ≤ sum bl ∧ (bl.length : Int) ≤ sum bl
  | _, [], _ => by simp [sum]
  | o, p :: r, h => by have := sum_nonneg h.2.2; have := h.2.1; simp only [sum, List.length_cons]; omega
theorem ok.stop_eq {s : ArS} (h : s.ok) : (s.stop : Int) = 16 + s.live ∧ 0 ≤ s.live ∧ s.stop ≤ 2097168 := by
  have h1 := sum_nonneg h.chain
  have h2 := h.room
  have h3 := h.limit
  unfold stop live at *
  omega
end ArS
/-- Where its parts lie. -/
structure ArX where
  pm : Nat
  g : Nat
  cap : Nat
  sb : Nat
  fb : Nat
  vs : Value
  vc : Value
@[reducible] def arP (pa : Nat) (s : ArS) (x : ArX) : List HP :=
  [pt pa (.cells #[.int .i64 s.limit, .int .i64 s.live, .pointer (some ⟨x.pm, 0, none⟩), x.vs, x.vc, .map (some x.sb), .map (some x.fb)] 128 (0, 0)), pt x.pm (.cells #[.slice (some ⟨x.g, 0, none⟩) s.stop x.cap] 231 (0, 0)), ownS 5 1 (.slice (some ⟨x.g, 0, none⟩) s.stop x.cap) s.stop (memV s.m s.stop),
   ownS 3 1 x.vs s.bl.length (ints (s.bl.map (·.1))), ownS 3 1 x.vc s.bl.length (ints (s.bl.map (·.2))), mapH (fun k : Int => Value.int .i64 k) x.sb (s.bl.map fun p => (p.1, Value.int .i64 p.2)), mapH (fun k : Int => Value.int .i64 k) x.fb []]
def arOk (s : ArS) (x : ArX) : Prop := s.ok ∧ s.stop ≤ x.cap ∧ x.cap ≤ 134217728
def arenaH (pa : Nat) (s : ArS) : HP := exP (arOk s) (arP pa s)
theorem arena_open {c : Cx} {fin : Exit → Act → World → Prop} {ds : List Deferred} {E : Env} {ks : List KI} {pa : Nat} {s : ArS} {R : List HP} {y : Code} (k : ∀ x, arOk s x → TC c fin ds E (arP pa s x ++ R) y ks) : TC c fin ds E (arenaH pa s :: R) y ks :=
  t_turn (X := { x : ArX // arOk s x }) (LL := fun x => arP pa s x.1 ++ R) (fun w hs => let ⟨x, hp, h⟩ := sat_exP.1 hs; ⟨⟨x, hp⟩, h⟩) fun x => k x.1 x.2
theorem arena_close {pa : Nat} {s : ArS} {x : ArX} {L R : List HP} (hp : arOk s x) (he : Ent L (arP pa s x ++ R)) : Ent L ([arenaH pa s] ++ R) := fun w h => sat_exP.2 ⟨x, hp, he w h⟩

theorem End_ok (pa : Nat) (s : ArS) : FnOk Tryz.prog 171 #[.pointer (some ⟨pa, 0, none⟩)] [arenaH pa s] (fun v L => v = .int .i64 (s.stop : Nat) ∧ L = [arenaH pa s]) := by
  refine fn_intro en171 Tryz.func171 rfl rfl rfl fun Fr w0 => t_nm ?_
  refine arena_open fun x hx => ?_
  refine t_norm fun M hM => ?_
  simp only [List.cons_append, List.nil_append] at hM
  subst M
  refine sr <| asg rfl rfl <| lz <| mv rfl rfl <| l_q rfl (q_nilCheck rfl) <| l_q rfl (qfa 2 rfl yU128 rfl rfl yS124) <| l_q rfl (qld rfl yA124) ?_
  refine lc1 rfl rfl rfl (Len_ok x.pm x.g s.stop x.cap s.m) ?_
  refine asg rfl rfl <| lc <| rt ?_
  apply f_ret (.inl rfl) ([arenaH pa s])
  · apply res1 rfl
    · exact .tmp rfl
  · exact ⟨rfl, rfl⟩
  · refine arena_close hx ?_; (exact en)

theorem chain_lk : ∀ {o : Int} {bl : List (Int × Int)}, ArS.chain o bl → ∀ {p : Int × Int}, p ∈ bl → o ≤ p.1 ∧ 1 ≤ p.2 ∧ lkK (bl.map fun p => (p.1, Value.int .i64 p.2)) p.1 = some (.int .i64 p.2)
  | _, [], _, _, h => by cases h
  | o, q :: r, hc, p, h => by
    obtain ⟨h1, h2, h3⟩ := hc
    rcases List.mem_cons.1 h with rfl | h
    · exact ⟨by omega, h2, by simp [lkK]⟩
    · obtain ⟨a1, a2, a3⟩ := chain_lk h3 h
      refine ⟨by omega, a2, ?_⟩
      simp only [List.map_cons, lkK]
      rw [if_neg (by omega)]; exact a3
theorem chain_rise : ∀ {o : Int} {bl : List (Int × Int)}, ArS.chain o bl → ∀ i j (hi : i < (bl.map (·.1)).length) (hj : j < (bl.map (·.1)).length), i < j → (bl.map (·.1))[i] < (bl.map (·.1))[j]
  | _, [], _, i, j, hi, _, _ => by simp at hi
  | o, q :: r, hc, i, j, hi, hj, hij => by
    obtain ⟨h1, h2, h3⟩ := hc
    cases j with
    | zero => omega
    | succ j =>
      have hj' : j < (r.map (·.1)).length := by simpa using hj
      cases i with
      | zero =>
        simp only [List.map_cons, List.getElem_cons_zero, List.getElem_cons_succ]
        have hm : r[j]'(by simpa using hj') ∈ r := List.getElem_mem _
        have := (chain_lk h3 hm).1
        simp only [List.getElem_map]
        omega
      | succ i =>
        simp only [List.map_cons, List.getElem_cons_succ]
        exact chain_rise h3 i j (by simpa using hi) hj' (by omega)

theorem chain_end : ∀ {o : Int} {bl : List (Int × Int)}, ArS.chain o bl → ∀ {p : Int × Int}, p ∈ bl → p.1 + p.2 ≤ o + ArS.sum bl
  | _, [], _, _, h => by cases h
  | o, q :: r, hc, p, h => by
    obtain ⟨h1, h2, h3⟩ := hc
    have := (ArS.sum_nonneg h3).1
    rcases List.mem_cons.1 h with rfl | h
    · simp only [ArS.sum]; omega
    · have := chain_end h3 h
      simp only [ArS.sum]; omega

theorem holds_ok (pa : Nat) (s : ArS) (i : Nat) (hi : i < s.bl.length) (off n : Int) (ho : 0 ≤ off ∧ off ≤ 1000000000) : FnOk Tryz.prog 173 #[.pointer (some ⟨pa, 0, none⟩), .int .i64 i, .int .i64 off, .int .i64 n] [arenaH pa s]
    (fun v L => v = .bool (decide (n ≤ s.bl[i].1 + s.bl[i].2 - off)) ∧ L = [arenaH pa s]) := by
  refine fn_intro en173 Tryz.func173 rfl rfl rfl fun Fr w0 => t_nm ?_
  refine arena_open fun x hx => ?_
  refine t_norm fun M hM => ?_
  simp only [List.cons_append, List.nil_append] at hM
  subst M
  obtain ⟨pm, g, cap, sb, fb, vs, vc⟩ := x
  have hst := hx.1.stop_eq
  have hmem : s.bl[i] ∈ s.bl := List.getElem_mem hi
  obtain ⟨hb1, hb2, hlk⟩ := chain_lk hx.1.chain hmem
  refine t_shape (.there (.there (.there .here))) fun _ hvs => ?_
  obtain ⟨av, cv, rfl, hav, _, _⟩ := hvs
  obtain ⟨gv, rfl⟩ := hav (by omega)
  have hend := chain_end hx.1.chain hmem
  have hlive : s.live = ArS.sum s.bl := rfl
  dsimp only
  refine sr <| asg rfl rfl <| lc <| t_seq <| sr <| mv rfl rfl <| l_q rfl (qi rfl rfl (b_lss ·)) <| lc <| t_if rfl (fun z => ?_) fun z => ?_
  · omega
  · refine t_skip <| n_code <| t_seq <| t_draw mixed ?_
    apply dq 0 rfl
    · exact yq (q_move rfl)
    apply dq 1 rfl
    · exact yq (q_nilCheck rfl)
    apply dq 2 rfl
    · exact yq (qfa 5 rfl yU128 rfl rfl yS125)
    apply dq 3 rfl
    · exact yq (qld rfl yA125)
    apply dq 4 rfl
    · exact yq (q_move rfl)
    apply dq 5 rfl
    · exact yq (q_nilCheck rfl)
    apply dq 6 rfl
    · exact yq (qfa 3 rfl yU128 rfl rfl yS22)
    apply dq 7 rfl
    · exact yq (qld rfl yA22)
    apply dq 8 rfl
    · exact yq (q_move rfl)
    apply dq 9 rfl
    · exact yq (q_indexAddr1 rfl rfl yU22 yS3 (by omega))
    apply dq 10 rfl
    · apply yq
      apply q_loadOwn rfl yA3
      · exact tk
      · rw [Nat.zero_add, Int.toNat_natCast, ints_at (by simpa using hi), List.getElem_map]
    apply dq 11 rfl
    · apply yq
      refine QV.to (v' := .tuple #[.int .i64 s.bl[i].2, .bool true]) (q_lookup2 keyInt rfl rfl Tryz.underlying125 Tryz.underlying3 yZ3 (by exact tk)) (by rw [hlk]; rfl)
    apply dq 12 rfl
    · exact yq (q_move rfl)
    apply dq 13 rfl
    · exact yq (q_extractL rfl ga)
    apply dq 14 rfl
    · exact yq (q_extractL rfl ga)
    refine d_eff1 [13, 0, 1, 2, 3, 4, 5, 6, 7, 8, 9, 10, 11, 12] [14] 15 [(26, _)] gO ⟨rfl, trivial⟩ (by kernel_rfl) (by kernel_rfl) fun Ex => ?_
    refine asg rfl rfl <| l_nil ?_
    apply n_d
    · refine ⟨?_, trivial⟩
      · apply ya rfl rfl; exact yq (q_extractL rfl ga)
    refine d_eff1 [14] [] 16 [(27, _)] gO ⟨rfl, trivial⟩ (by kernel_rfl) (by kernel_rfl) fun Ex => ?_
    refine asg rfl rfl <| l_nil ?_
    apply n_d
    · exact trivial
    refine d_end (by kernel_rfl) ?_
    refine nz <| mv rfl rfl <| mv rfl rfl <| l_pt (t := 29) rfl (fun q => ?_) fun q => ?_
    · refine l_on rfl rfl <| mv rfl rfl <| l_on rfl rfl <| mv rfl rfl <| l_on rfl rfl <| l_q rfl (q_nilCheck rfl) <| l_on rfl rfl <| l_q rfl (qfa 3 rfl yU128 rfl rfl yS22) <| l_on rfl rfl <| l_q rfl (qld rfl yA22) ?_
      refine l_on rfl rfl <| mv rfl rfl <| l_on rfl rfl <| l_q rfl (q_indexAddr1 rfl rfl yU22 yS3 (by omega)) ?_
      refine l_on rfl rfl ?_
      apply l_q rfl
      · apply q_loadOwn rfl yA3
        · exact tk
        · rw [Nat.zero_add, Int.toNat_natCast, ints_at (by simpa using hi), List.getElem_map]
      refine l_on rfl rfl <| mv rfl rfl <| l_on rfl rfl <| l_q rfl (qadd rfl rfl) ?_
      refine l_on rfl rfl <| mv rfl rfl <| l_on rfl rfl <| l_q rfl (qsub rfl rfl) ?_
      refine l_on rfl rfl <| l_q rfl (qi rfl rfl (b_leq ·)) <| l_q rfl (q_pk rfl rfl) <| asg rfl rfl <| lc <| rt ?_
      apply f_ret (.inl rfl) ([arenaH pa s])
      · apply res1 rfl
        · exact .tmp rfl
      · exact ⟨rfl, rfl⟩
      · refine arena_close hx ?_; dsimp only [arP]; (exact en)
    · cases q

theorem chain_gap : ∀ {o : Int} {bl : List (Int × Int)}, ArS.chain o bl → ∀ i j (hi : i < bl.length) (hj : j < bl.length), i < j → bl[i].1 + bl[i].2 ≤ bl[j].1
  | _, [], _, i, _, hi, _, _ => by simp at hi
  | o, q :: r, hc, i, j, hi, hj, hij => by
    obtain ⟨h1, h2, h3⟩ := hc
    cases j with
    | zero => omega
    | succ j =>
      have hj' : j < r.length := by simpa using hj
      cases i with
      | zero =>
        simp only [List.getElem_cons_zero, List.getElem_cons_succ]
        have := (chain_lk h3 (List.getElem_mem hj')).1
        omega
      | succ i =>
        simp only [List.getElem_cons_succ]
        exact chain_gap h3 i j (by simpa using hi) hj' (by omega)
/-- May one read or write there? -/
def goodP (s : ArS) (off n : Int) : Prop := 0 ≤ n ∧ ∃ p ∈ s.bl, p.1 ≤ off ∧ off + n ≤ p.1 + p.2
/-- Of the blocks, the i-th alone can hold what begins in it or at its end. -/
theorem good_iff {s : ArS} (h : ArS.chain 16 s.bl) {i : Nat} (hi : i < s.bl.length) {off n : Int} (h0 : 0 ≤ n) (h1 : s.bl[i].1 ≤ off) (h2 : ∀ j (hj : j < s.bl.length), i < j → off < s.bl[j].1) :
    goodP s off n ↔ n ≤ s.bl[i].1 + s.bl[i].2 - off ∨ (n = 0 ∧ goodP s off n) := by
  constructor
  · rintro ⟨_, p, hp, p1, p2⟩
    obtain ⟨j, hj, rfl⟩ := List.getElem_of_mem hp
    rcases Nat.lt_trichotomy j i with q | q | q
    · have := chain_gap h j i hj hi q
      exact .inr ⟨by omega, h0, _, hp, p1, p2⟩
    · subst q; exact .inl (by omega)
    · have := h2 j hj q; omega
  · rintro (h3 | ⟨_, h3⟩)
    · exact ⟨h0, _, List.getElem_mem hi, h1, by omega⟩
    · exact h3

/-- Each block ends where the next begins; the last one at the end. -/
theorem chain_next : ∀ {o : Int} {bl : List (Int × Int)}, ArS.chain o bl → ∀ i (hi : i < bl.length), (∀ (hj : i + 1 < bl.length), bl[i].1 + bl[i].2 = bl[i + 1].1) ∧ (i + 1 = bl.length → bl[i].1 + bl[i].2 = o + ArS.sum bl)
  | _, [], _, i, hi => by simp at hi
  | o, [q], hc, i, hi => by
    have : i = 0 := by simpa using hi
    subst this
    obtain ⟨h1, h2, _⟩ := hc
    refine ⟨fun hj => by simp at hj, fun _ => ?_⟩
    simp only [List.getElem_cons_zero, ArS.sum]; omega
  | o, q :: q' :: r, hc, i, hi => by
    obtain ⟨h1, h2, h3⟩ := hc
    cases i with
    | zero =>
      refine ⟨fun hj => ?_, fun h => by simp at h⟩
      have := h3.1
      simp only [List.getElem_cons_zero, List.getElem_cons_succ]; omega
    | succ i =>
      obtain ⟨a1, a2⟩ := chain_next h3 i (by simpa using hi)
      refine ⟨fun hj => ?_, fun h => ?_⟩
      · have := a1 (by simpa using hj)
        simpa using this
      · have := a2 (by simpa using h)
        simp only [List.getElem_cons_succ, ArS.sum] at this ⊢
        omega

theorem chain_head {o : Int} {bl : List (Int × Int)} (h : ArS.chain o bl) (hp : 0 < bl.length) : bl[0].1 = o := by
  cases bl with
  | nil => simp at hp
  | cons q r => simpa using h.1

theorem good_ok (pa : Nat) (s : ArS) (hne : s.bl ≠ []) (off n : Int) : FnOk Tryz.prog 146 #[.pointer (some ⟨pa, 0, none⟩), .int .i64 off, .int .i64 n] [arenaH pa s]
    (fun v L => (∃ b : Bool, v = .bool b ∧ (b = true ↔ goodP s off n)) ∧ L = [arenaH pa s]) := by
  refine fn_intro en146 Tryz.func146 rfl rfl rfl fun Fr w0 => t_nm ?_
  refine t_pure (φ := s.ok) (fun w hw => by obtain ⟨x, hx, _⟩ := sat_exP.1 hw; exact hx.1) fun hok => ?_
  have hst := hok.stop_eq
  have hlive : s.live = ArS.sum s.bl := rfl
  have low : ∀ p ∈ s.bl, 16 ≤ p.1 ∧ 1 ≤ p.2 ∧ p.1 + p.2 ≤ 16 + ArS.sum s.bl := fun p hp => ⟨(chain_lk hok.chain hp).1, (chain_lk hok.chain hp).2.1, chain_end hok.chain hp⟩
  refine sr <| asg rfl rfl <| lc <| t_seq <| sr <| mv rfl rfl <| l_q rfl (qi rfl rfl (b_lss ·)) <| mv rfl rfl <| l_pt (t := 11) rfl (fun h1 => ?_) fun h1 => ?_
  · refine l_off rfl rfl rfl rfl <| l_off rfl rfl rfl rfl <| l_q rfl (q_pk rfl rfl) <| mv rfl rfl <| l_off rfl rfl rfl rfl <| l_off rfl rfl rfl rfl <| l_off rfl rfl rfl rfl <| l_off rfl rfl rfl rfl <| l_q rfl (q_pk rfl rfl) <| lc <| t_cond_t rfl <| sr <| asg rfl rfl <| lc <| rt <| fr1 rfl ([arenaH pa s]) (.tmp rfl) ?_
    exact ⟨⟨true && false, rfl, by simp; rintro ⟨h0, _⟩; omega⟩, rfl⟩
  · refine l_on rfl rfl <| mv rfl rfl <| l_on rfl rfl <| l_q rfl (qi rfl rfl (b_lss ·)) <| l_q rfl (q_pk rfl rfl) <| mv rfl rfl <| l_pt (t := 15) rfl (fun h2 => ?_) fun h2 => ?_
    · refine l_off rfl rfl rfl rfl <| l_off rfl rfl rfl rfl <| l_off rfl rfl rfl rfl <| l_off rfl rfl rfl rfl <| l_q rfl (q_pk rfl rfl) <| lc <| t_cond_t rfl <| sr <| asg rfl rfl <| lc <| rt <| fr1 rfl ([arenaH pa s]) (.tmp rfl) ?_
      exact ⟨⟨false, rfl, by simp; rintro ⟨_, p, hp, p1, p2⟩; have := low p hp; omega⟩, rfl⟩
    · refine l_on rfl rfl <| mv rfl rfl <| l_on rfl rfl <| mv rfl rfl <| l_on rfl rfl <| lc1 rfl rfl rfl (End_ok pa s) ?_
      refine l_on rfl rfl <| l_q rfl (qi rfl rfl (b_gtr ·)) <| l_q rfl (q_pk rfl rfl) <| lc <| t_if rfl (fun h3 => ?_) fun h3 => ?_
      · refine sr <| asg rfl rfl <| lc <| rt <| fr1 rfl ([arenaH pa s]) (.tmp rfl) ?_
        exact ⟨⟨false, rfl, by simp; rintro ⟨_, p, hp, p1, p2⟩; have := low p hp; omega⟩, rfl⟩
      · refine arena_open fun x hx => ?_
        refine t_norm fun M hM => ?_
        simp only [List.cons_append, List.nil_append] at hM
        subst M
        obtain ⟨pm, g, cap, sb, fb, vs, vc⟩ := x
        have hpos : 0 < s.bl.length := List.length_pos_iff.2 hne
        refine t_shape (.there (.there (.there .here))) fun _ hvs => ?_
        obtain ⟨av, cv, rfl, hav, hcv, hcm⟩ := hvs
        obtain ⟨gv, rfl⟩ := hav (by omega)
        dsimp only
        refine t_skip <| nz <| mv rfl rfl <| l_q rfl (q_nilCheck rfl) <| l_q rfl (qfa 3 rfl yU128 rfl rfl yS22) <| l_q rfl (qld rfl yA22) ?_
        refine mv rfl rfl ?_
        have hsn := ArS.sum_nonneg hok.chain
        have hlim := hok.limit
        have hroom := hok.room
        refine lcf rfl rfl rfl (Search_ok (s.bl.map (·.1)) gv s.bl.length cv off (by simp) (by omega) (chain_rise hok.chain)) ?_
        rintro v L' ⟨⟨i, rfl, hpl⟩, rfl⟩
        refine l_nm ?_
        refine mv rfl rfl <| l_q rfl (q_extractL rfl ga) ?_
        refine l_q rfl (q_extractL rfl ga) ?_
        refine asg rfl rfl <| asg rfl rfl <| lc <| t_seq <| sr <| mv rfl rfl <| l_q rfl (q_un rfl (u_not ·)) <| lc ?_
        obtain ⟨hp1, hp2, hp3⟩ := hpl
        simp only [List.length_map, List.getElem_map] at hp1 hp2 hp3
        have hx0 := chain_head hok.chain hpos
        refine t_turn (X := Unit) (LL := fun _ => arenaH pa s :: Fr) (fun w hs => ⟨(), arena_close (x := ⟨pm, g, cap, sb, fb, .slice (some ⟨gv, 0, none⟩) s.bl.length cv, vc⟩) hx (by dsimp only [arP]; (exact en)) w hs⟩) fun _ => ?_
        refine t_if rfl (fun e => ?_) fun e => ?_
        · refine t_region <| mv rfl rfl <| l_q rfl (qsub rfl rfl) ?_
          refine asg rfl rfl <| lz <| mv rfl rfl <| mv rfl rfl <| mv rfl rfl <| mv rfl rfl ?_
          have hi1 : 1 ≤ i := by
            rcases Nat.eq_zero_or_pos i with h0 | h0
            · subst h0
              have := hp3 0 hpos (by omega)
              exact absurd (by rw [List.getElem?_eq_getElem (by simpa using hpos)]; simp only [List.getElem_map]; congr 1; omega) e
            · exact h0
          rw [show (i : Int) - 1 = ((i - 1 : Nat) : Int) by omega]
          have hlt : i - 1 < s.bl.length := by omega
          have hge := hp2 (i - 1) hlt (by omega)
          have hup : ∀ j (hj : j < s.bl.length), i - 1 < j → off < s.bl[j].1 := fun j hj hij => by
            have h5 := hp3 j hj (by omega)
            rcases Nat.lt_or_ge i j with h6 | h6
            · have h7 := hp3 i (by omega) (by omega)
              have h8 := chain_rise hok.chain i j (by simp; omega) (by simpa using hj) h6
              simp only [List.getElem_map] at h8
              omega
            · have : j = i := by omega
              subst this
              have h9 : s.bl[j].1 ≠ off := fun q => e (by rw [List.getElem?_eq_getElem (by simpa using hj)]; simp only [List.getElem_map]; rw [q])
              omega
          have hgi := good_iff hok.chain hlt (n := n) (by omega) (by omega) hup
          refine lc1 rfl rfl rfl (holds_ok pa s (i - 1) hlt off n ⟨by omega, by omega⟩) ?_
          refine mv rfl rfl ?_
          have hnx := chain_next hok.chain (i - 1) hlt
          have hin : off ≤ s.bl[i - 1].1 + s.bl[i - 1].2 := by
            rcases Nat.lt_or_ge i s.bl.length with h6 | h6
            · have h7 := hnx.1 (by omega)
              have h8 := hup i h6 (by omega)
              simp only [show i - 1 + 1 = i by omega] at h7
              omega
            · have h7 := hnx.2 (by omega)
              omega
          refine l_pt (t := 39) rfl (fun r => ?_) fun r => ?_
          · refine l_off rfl rfl rfl rfl <| l_off rfl rfl rfl rfl <| l_off rfl rfl rfl rfl <| l_offu rfl rfl rfl <| l_off rfl rfl rfl rfl <| l_off rfl rfl rfl rfl <| l_offu rfl rfl rfl <| l_offu rfl rfl rfl <| l_offu rfl rfl rfl <| l_offu rfl rfl rfl <| l_offu rfl rfl rfl <| l_offu rfl rfl rfl <| l_off rfl rfl rfl rfl <| l_q rfl (q_pk rfl rfl) <| asg rfl rfl <| lc <| rt <| fr1 rfl ([arenaH pa s]) (.tmp rfl) ?_
            exact ⟨⟨true, rfl, by simp only [true_iff]; exact hgi.2 (.inl r)⟩, rfl⟩
          · refine l_on rfl rfl <| mv rfl rfl <| l_on rfl rfl <| l_q rfl (qi rfl rfl (b_eql ·)) <| l_on rfl rfl <| mv rfl rfl <| l_pt (t := 42) rfl (fun t => ?_) fun t => ?_
            · omega
            · refine l_off rfl rfl rfl rfl <| l_on rfl rfl <| l_q rfl (q_pk rfl rfl) <| l_on rfl rfl <| mv rfl rfl <| l_off rfl rfl rfl rfl <| l_off rfl rfl rfl rfl <| l_off rfl rfl rfl rfl <| l_off rfl rfl rfl rfl <| l_off rfl rfl rfl rfl <| l_off rfl rfl rfl rfl <| l_on rfl rfl <| l_q rfl (q_pk rfl rfl) <| l_q rfl (q_pk rfl rfl) <| asg rfl rfl <| lc <| rt <| fr1 rfl ([arenaH pa s]) (.tmp rfl) ?_
              exact ⟨⟨false, rfl, by simp only [Bool.false_eq_true, false_iff]; intro hg; rcases hgi.1 hg with q | ⟨q, _⟩; exact r q; exact t q⟩, rfl⟩
        · refine t_skip <| nz <| mv rfl rfl <| mv rfl rfl <| mv rfl rfl <| mv rfl rfl ?_
          have he := e
          have hlt : i < s.bl.length := by have := (List.getElem?_eq_some_iff.1 he).1; simpa using this
          have heq : s.bl[i].1 = off := by
            rw [List.getElem?_eq_getElem (by simpa using hlt)] at he
            simpa using he
          have hup : ∀ j (hj : j < s.bl.length), i < j → off < s.bl[j].1 := fun j hj hij => by
            have h8 := chain_rise hok.chain i j (by simpa using hlt) (by simpa using hj) hij
            simp only [List.getElem_map] at h8
            omega
          have hgi := good_iff hok.chain hlt (n := n) (by omega) (by omega) hup
          have hz := low _ (List.getElem_mem hlt)
          refine lc1 rfl rfl rfl (holds_ok pa s i hlt off n ⟨by omega, by omega⟩) ?_
          refine mv rfl rfl <| l_pt (t := 39) rfl (fun r => ?_) fun r => ?_
          · refine l_off rfl rfl rfl rfl <| l_off rfl rfl rfl rfl <| l_off rfl rfl rfl rfl <| l_offu rfl rfl rfl <| l_off rfl rfl rfl rfl <| l_off rfl rfl rfl rfl <| l_offu rfl rfl rfl <| l_offu rfl rfl rfl <| l_offu rfl rfl rfl <| l_offu rfl rfl rfl <| l_offu rfl rfl rfl <| l_offu rfl rfl rfl <| l_off rfl rfl rfl rfl <| l_q rfl (q_pk rfl rfl) <| asg rfl rfl <| lc <| rt <| fr1 rfl ([arenaH pa s]) (.tmp rfl) ?_
            exact ⟨⟨true, rfl, by simp only [true_iff]; exact hgi.2 (.inl r)⟩, rfl⟩
          · refine l_on rfl rfl <| mv rfl rfl <| l_on rfl rfl <| l_q rfl (qi rfl rfl (b_eql ·)) <| l_on rfl rfl <| mv rfl rfl <| l_pt (t := 42) rfl (fun t => ?_) fun t => ?_
            · omega
            · refine l_off rfl rfl rfl rfl <| l_on rfl rfl <| l_q rfl (q_pk rfl rfl) <| l_on rfl rfl <| mv rfl rfl <| l_off rfl rfl rfl rfl <| l_off rfl rfl rfl rfl <| l_off rfl rfl rfl rfl <| l_off rfl rfl rfl rfl <| l_off rfl rfl rfl rfl <| l_off rfl rfl rfl rfl <| l_on rfl rfl <| l_q rfl (q_pk rfl rfl) <| l_q rfl (q_pk rfl rfl) <| asg rfl rfl <| lc <| rt <| fr1 rfl ([arenaH pa s]) (.tmp rfl) ?_
              exact ⟨⟨false, rfl, by simp only [Bool.false_eq_true, false_iff]; intro hg; rcases hgi.1 hg with q | ⟨q, _⟩; exact r q; exact t q⟩, rfl⟩

theorem goodP.end_le {s : ArS} (h : s.ok) {off n : Int} (hg : goodP s off n) : 16 ≤ off ∧ off + n ≤ (s.stop : Int) ∧ s.bl ≠ [] := by
  obtain ⟨_, p, hp, p1, p2⟩ := hg
  have a := chain_lk h.chain hp
  have b := chain_end h.chain hp
  have c := h.stop_eq
  have d : s.live = ArS.sum s.bl := rfl
  exact ⟨by omega, by omega, fun e => by rw [e] at hp; cases hp⟩
theorem word_ok (pa : Nat) (s : ArS) (off : Int) (k : Nat) (hk : wid k) (hg : goodP s off k) (hne : s.bl ≠ []) : FnOk Tryz.prog 100 #[.pointer (some ⟨pa, 0, none⟩), .int .i64 off, .int .i64 k] [arenaH pa s]
    (fun v L => v = .int .i64 0 ∧ L = [arenaH pa s]) := by
  refine fn_intro en100 Tryz.func100 rfl rfl rfl fun Fr w0 => t_nm ?_
  refine sr <| asg rfl rfl <| lc <| t_seq <| sr <| mv rfl rfl <| lc <| t_block <| t_seq <| sr <| l_q rfl (qi rfl rfl (b_eql ·)) <| asg rfl rfl <| lc <| t_pt (t := 8) rfl (fun h1 => ?_) fun h1 => ?_
  · refine t_cond_t rfl <| t_skip <| n_code <| t_cond_t rfl <| t_skip <| n_blk <| n_code <| t_seq <| sr <| mv rfl rfl <| mv rfl rfl <| mv rfl rfl <| lcf rfl rfl rfl (good_ok pa s hne off k) ?_
    rintro v L' ⟨⟨b, rfl, hb⟩, rfl⟩
    refine l_nm ?_
    refine l_q rfl (q_un rfl (u_not ·)) <| lc <| t_if rfl (fun z => ?_) fun z => ?_
    · rw [hb.2 hg] at z; cases z
    · exact t_skip <| nz <| asg rfl rfl <| lc <| rt <| fr1 rfl ([arenaH pa s]) (.tmp rfl) ⟨rfl, rfl⟩
  · refine t_cond_f rfl <| sr <| l_q rfl (qi rfl rfl (b_eql ·)) <| asg rfl rfl <| lc <| t_pt (t := 8) rfl (fun h2 => ?_) fun h2 => ?_
    · refine t_cond_t rfl <| t_skip <| n_code <| t_cond_t rfl <| t_skip <| n_blk <| n_code <| t_seq <| sr <| mv rfl rfl <| mv rfl rfl <| mv rfl rfl <| lcf rfl rfl rfl (good_ok pa s hne off k) ?_
      rintro v L' ⟨⟨b, rfl, hb⟩, rfl⟩
      refine l_nm ?_
      refine l_q rfl (q_un rfl (u_not ·)) <| lc <| t_if rfl (fun z => ?_) fun z => ?_
      · rw [hb.2 hg] at z; cases z
      · exact t_skip <| nz <| asg rfl rfl <| lc <| rt <| fr1 rfl ([arenaH pa s]) (.tmp rfl) ⟨rfl, rfl⟩
    · refine t_cond_f rfl <| sr <| l_q rfl (qi rfl rfl (b_eql ·)) <| asg rfl rfl <| lc <| t_pt (t := 8) rfl (fun h4 => ?_) fun h4 => ?_
      · refine t_cond_t rfl <| t_skip <| n_code <| t_cond_t rfl <| t_skip <| n_blk <| n_code <| t_seq <| sr <| mv rfl rfl <| mv rfl rfl <| mv rfl rfl <| lcf rfl rfl rfl (good_ok pa s hne off k) ?_
        rintro v L' ⟨⟨b, rfl, hb⟩, rfl⟩
        refine l_nm ?_
        refine l_q rfl (q_un rfl (u_not ·)) <| lc <| t_if rfl (fun z => ?_) fun z => ?_
        · rw [hb.2 hg] at z; cases z
        · exact t_skip <| nz <| asg rfl rfl <| lc <| rt <| fr1 rfl ([arenaH pa s]) (.tmp rfl) ⟨rfl, rfl⟩
      · refine t_cond_f rfl <| t_region <| l_q rfl (qi rfl rfl (b_eql ·)) <| asg rfl rfl <| lc <| t_pt (t := 8) rfl (fun h8 => ?_) fun h8 => ?_
        · refine t_cond_t rfl <| t_skip <| n_blk <| n_code <| t_seq <| sr <| mv rfl rfl <| mv rfl rfl <| mv rfl rfl <| lcf rfl rfl rfl (good_ok pa s hne off k) ?_
          rintro v L' ⟨⟨b, rfl, hb⟩, rfl⟩
          refine l_nm ?_
          refine l_q rfl (q_un rfl (u_not ·)) <| lc <| t_if rfl (fun z => ?_) fun z => ?_
          · rw [hb.2 hg] at z; cases z
          · exact t_skip <| nz <| asg rfl rfl <| lc <| rt <| fr1 rfl ([arenaH pa s]) (.tmp rfl) ⟨rfl, rfl⟩
        · unfold wid at hk; omega

theorem Load_ok (pa : Nat) (s : ArS) (off k : Nat) (hk : wid k) (hg : goodP s off k) (hne : s.bl ≠ []) : FnOk Tryz.prog 46 #[.pointer (some ⟨pa, 0, none⟩), .int .i64 off, .int .i64 k] [arenaH pa s]
    (fun v L => v = .tuple #[.int .u64 (loadN s.m off k), .int .i64 0] ∧ L = [arenaH pa s]) := by
  refine fn_intro en46 Tryz.func46 rfl rfl rfl fun Fr w0 => t_nm ?_
  refine sr <| asg rfl rfl <| asg rfl rfl <| lc <| t_seq <| sr <| mv rfl rfl <| mv rfl rfl <| mv rfl rfl <| lc1 rfl rfl rfl (word_ok pa s off k hk hg hne) ?_
  refine asg rfl rfl <| lz <| mv rfl rfl <| l_q rfl (qi rfl rfl (b_neq ·)) <| lc <| t_if rfl (fun z => ?_) fun z => ?_
  · exact absurd rfl z
  · skip
    refine arena_open fun x hx => ?_
    refine t_norm fun M hM => ?_
    simp only [List.cons_append, List.nil_append] at hM
    subst M
    obtain ⟨pm, g, cap, sb, fb, vs, vc⟩ := x
    obtain ⟨hok, hcap, hcap2⟩ := hx
    dsimp only at hcap hcap2 ⊢
    have hst := hok.stop_eq
    have hge := goodP.end_le hok hg
    refine t_skip <| nz <| mv rfl rfl <| l_q rfl (q_nilCheck rfl) <| l_q rfl (qfa 2 rfl yU128 rfl rfl yS124) <| l_q rfl (qld rfl yA124) ?_
    refine mv rfl rfl <| mv rfl rfl <| lc1 rfl rfl rfl (Mem.Load_ok pm g s.stop cap off k s.m hok.bytes (by omega) hcap hk (by omega)) ?_
    refine l_q rfl (q_extractL rfl ga) ?_
    refine l_q rfl (q_extractL rfl ga) ?_
    refine asg rfl rfl <| asg rfl rfl <| lc <| rt ?_
    apply f_ret (.inl rfl) ([arenaH pa s])
    · apply res2 rfl
      · exact .tmp rfl
      · exact .tmp rfl
    · exact ⟨rfl, rfl⟩
    · refine arena_close (x := ⟨pm, g, cap, sb, fb, vs, vc⟩) ⟨hok, hcap, hcap2⟩ ?_; dsimp only [arP]; (exact en)

theorem lay_bytes {m f : Nat → Int} {o k : Nat} (hm : ∀ i, 0 ≤ m i ∧ m i < 256) (hf : ∀ i, 0 ≤ f i ∧ f i < 256) : ∀ i, 0 ≤ layM m o k f i ∧ layM m o k f i < 256 := fun i => by
  unfold layM; split
  · exact hf _
  · exact hm _
/-- The same arena with other bytes. -/
def ArS.put (s : ArS) (o k : Nat) (f : Nat → Int) : ArS := { s with m := layM s.m o k f }
theorem ArS.put_ok {s : ArS} (h : s.ok) {o k : Nat} {f : Nat → Int} (hf : ∀ i, 0 ≤ f i ∧ f i < 256) : (s.put o k f).ok := ⟨h.limit, h.room, h.chain, lay_bytes h.bytes hf⟩
theorem byteN_bytes (v : Int) : ∀ i, 0 ≤ byteN v i ∧ byteN v i < 256 := fun i => by unfold byteN; omega
theorem Store_ok (pa : Nat) (s : ArS) (off k : Nat) (v : Int) (hv : 0 ≤ v ∧ v < 18446744073709551616) (hk : wid k) (hg : goodP s off k) (hne : s.bl ≠ []) : FnOk Tryz.prog 137 #[.pointer (some ⟨pa, 0, none⟩), .int .i64 off, .int .i64 k, .int .u64 v] [arenaH pa s]
    (fun r L => r = .int .i64 0 ∧ L = [arenaH pa (s.put off k (byteN v))]) := by
  refine fn_intro en137 Tryz.func137 rfl rfl rfl fun Fr w0 => t_nm ?_
  refine sr <| asg rfl rfl <| lc <| t_seq <| sr <| mv rfl rfl <| mv rfl rfl <| mv rfl rfl <| lcf rfl rfl rfl (word_ok pa s off k hk hg hne) ?_
  rintro v' L' ⟨rfl, rfl⟩
  refine l_nm ?_
  refine asg rfl rfl <| lz <| mv rfl rfl <| l_q rfl (qi rfl rfl (b_neq ·)) <| lc <| t_if rfl (fun z => ?_) fun z => ?_
  · exact absurd rfl z
  · skip
    refine arena_open fun x hx => ?_
    refine t_norm fun M hM => ?_
    simp only [List.cons_append, List.nil_append] at hM
    subst M
    obtain ⟨pm, g, cap, sb, fb, vs, vc⟩ := x
    obtain ⟨hok, hcap, hcap2⟩ := hx
    dsimp only at hcap hcap2 ⊢
    have hst := hok.stop_eq
    have hge := goodP.end_le hok hg
    refine t_skip <| nz <| mv rfl rfl <| l_q rfl (q_nilCheck rfl) <| l_q rfl (qfa 2 rfl yU128 rfl rfl yS124) <| l_q rfl (qld rfl yA124) ?_
    refine mv rfl rfl <| mv rfl rfl <| mv rfl rfl <| lcf rfl rfl rfl (Mem.Store_ok pm g s.stop cap off k s.m v hv (by omega) hcap hk (by omega)) ?_
    rintro v' L' ⟨rfl, rfl⟩
    refine l_nm ?_
    refine asg rfl rfl <| lc <| rt ?_
    apply f_ret (.inl rfl) ([arenaH pa (s.put off k (byteN v))])
    · apply res1 rfl
      · exact .tmp rfl
    · exact ⟨rfl, rfl⟩
    · refine arena_close (x := ⟨pm, g, cap, sb, fb, vs, vc⟩) ⟨ArS.put_ok hok (byteN_bytes v), hcap, hcap2⟩ ?_; show Ent _ (arP pa _ _ ++ _); dsimp only [arP, ArS.put]; exact fun w h => h.perm (by first | exact List.Perm.refl _ | exact List.perm_middle (l₁ := [_, _]) )

theorem Fill_ok (pa : Nat) (s : ArS) (off k : Nat) (b : Int) (hb : 0 ≤ b ∧ b < 256) (hg : goodP s off k) (hne : s.bl ≠ []) : FnOk Tryz.prog 140 #[.pointer (some ⟨pa, 0, none⟩), .int .i64 off, .int .i64 k, .int .u8 b] [arenaH pa s]
    (fun r L => r = .int .i64 0 ∧ L = [arenaH pa (s.put off k (fun _ => b))]) := by
  refine fn_intro en140 Tryz.func140 rfl rfl rfl fun Fr w0 => t_nm ?_
  refine sr <| asg rfl rfl <| lc <| t_seq <| sr <| mv rfl rfl <| mv rfl rfl <| mv rfl rfl <| lcf rfl rfl rfl (good_ok pa s hne off k) ?_
  rintro v' L' ⟨⟨q, rfl, hq⟩, rfl⟩
  refine l_nm ?_
  refine l_q rfl (q_un rfl (u_not ·)) <| lc <| t_if rfl (fun z => ?_) fun z => ?_
  · rw [hq.2 hg] at z; cases z
  · skip
    refine arena_open fun x hx => ?_
    refine t_norm fun M hM => ?_
    simp only [List.cons_append, List.nil_append] at hM
    subst M
    obtain ⟨pm, g, cap, sb, fb, vs, vc⟩ := x
    obtain ⟨hok, hcap, hcap2⟩ := hx
    dsimp only at hcap hcap2 ⊢
    have hst := hok.stop_eq
    have hge := goodP.end_le hok hg
    refine t_skip <| nz <| mv rfl rfl <| l_q rfl (q_nilCheck rfl) <| l_q rfl (qfa 2 rfl yU128 rfl rfl yS124) <| l_q rfl (qld rfl yA124) ?_
    refine mv rfl rfl <| mv rfl rfl <| mv rfl rfl <| lcf rfl rfl rfl (Mem.Fill_ok pm g s.stop cap off k s.m b hb (by omega) hcap (by omega)) ?_
    rintro v' L' ⟨rfl, rfl⟩
    refine l_nm ?_
    refine asg rfl rfl <| lc <| rt ?_
    apply f_ret (.inl rfl) ([arenaH pa (s.put off k (fun _ => b))])
    · apply res1 rfl
      · exact .tmp rfl
    · exact ⟨rfl, rfl⟩
    · refine arena_close (x := ⟨pm, g, cap, sb, fb, vs, vc⟩) ⟨ArS.put_ok hok (fun _ => hb), hcap, hcap2⟩ ?_; show Ent _ (arP pa _ _ ++ _); dsimp only [arP, ArS.put]; exact fun w h => h.perm (by first | exact List.Perm.refl _ | exact List.perm_middle (l₁ := [_, _]) )

theorem Equal_ok (pa : Nat) (s : ArS) (a b k : Nat) (ha : goodP s a k) (hb : goodP s b k) (hne : s.bl ≠ []) : FnOk Tryz.prog 164 #[.pointer (some ⟨pa, 0, none⟩), .int .i64 a, .int .i64 b, .int .i64 k] [arenaH pa s]
    (fun r L => (∃ q : Bool, r = .tuple #[.bool q, .int .i64 0] ∧ (q = true ↔ ∀ i, i < k → s.m (a + i) = s.m (b + i))) ∧ L = [arenaH pa s]) := by
  refine fn_intro en164 Tryz.func164 rfl rfl rfl fun Fr w0 => t_nm ?_
  refine sr <| asg rfl rfl <| asg rfl rfl <| lc <| t_seq <| sr <| mv rfl rfl <| mv rfl rfl <| mv rfl rfl <| lcf rfl rfl rfl (good_ok pa s hne a k) ?_
  rintro v' L' ⟨⟨q, rfl, hq⟩, rfl⟩
  refine l_nm ?_
  refine l_q rfl (q_un rfl (u_not ·)) <| mv rfl rfl <| l_pt (t := 15) rfl (fun z => ?_) fun z => ?_
  · rw [hq.2 ha] at z; cases z
  · refine l_on rfl rfl <| mv rfl rfl <| l_on rfl rfl <| mv rfl rfl <| l_on rfl rfl <| mv rfl rfl <| l_on rfl rfl <| lcf rfl rfl rfl (good_ok pa s hne b k) ?_
    rintro v' L' ⟨⟨q2, rfl, hq2⟩, rfl⟩
    refine l_nm ?_
    refine l_on rfl rfl <| l_q rfl (q_un rfl (u_not ·)) <| l_q rfl (q_pk rfl rfl) <| lc <| t_if rfl (fun z2 => ?_) fun z2 => ?_
    · rw [hq2.2 hb] at z2; cases z2
    · skip
      refine arena_open fun x hx => ?_
      refine t_norm fun M hM => ?_
      simp only [List.cons_append, List.nil_append] at hM
      subst M
      obtain ⟨pm, g, cap, sb, fb, vs, vc⟩ := x
      obtain ⟨hok, hcap, hcap2⟩ := hx
      dsimp only at hcap hcap2 ⊢
      have hst := hok.stop_eq
      have hge := goodP.end_le hok ha
      have hge2 := goodP.end_le hok hb
      refine t_skip <| nz <| mv rfl rfl <| l_q rfl (q_nilCheck rfl) <| l_q rfl (qfa 2 rfl yU128 rfl rfl yS124) <| l_q rfl (qld rfl yA124) ?_
      refine mv rfl rfl <| mv rfl rfl <| mv rfl rfl <| lcf rfl rfl rfl (Mem.Equal_ok pm g s.stop cap a b k s.m (by omega) (by omega) (by omega)) ?_
      rintro v' L' ⟨⟨q3, rfl, hq3⟩, rfl⟩
      refine l_nm ?_
      refine l_q rfl (q_extractL rfl ga) ?_
      refine l_q rfl (q_extractL rfl ga) ?_
      refine asg rfl rfl <| asg rfl rfl <| lc <| rt ?_
      apply f_ret (.inl rfl) ([arenaH pa s])
      · apply res2 rfl
        · exact .tmp rfl
        · exact .tmp rfl
      · exact ⟨⟨q3, rfl, hq3⟩, rfl⟩
      · refine arena_close (x := ⟨pm, g, cap, sb, fb, vs, vc⟩) ⟨hok, hcap, hcap2⟩ ?_; dsimp only [arP]; (exact en)

theorem strM_bytes {m : Nat → Int} (hm : ∀ i, 0 ≤ m i ∧ m i < 256) (o k : Nat) : bytesV (strM m o k) = memV (fun i => m (o + i)) k := by
  simp only [bytesV, strM, memV, List.map_map]
  refine List.map_congr_left fun i _ => ?_
  have := hm (o + i)
  simp only [Function.comp, Value.int.injEq, true_and]
  rw [UInt8.toNat_ofNat']
  omega
end Go.Proofs.YtgijnebgchkenaaGreatDoor.Arena
