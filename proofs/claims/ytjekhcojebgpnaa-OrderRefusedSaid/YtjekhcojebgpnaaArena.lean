/- The contracts of package arena. -/
import Derived.Test.YtjekhcojebgpnaaArenaB
import Derived.Test.YtjekhcojebgpnaaInsert
set_option linter.unusedVariables false
set_option linter.unusedSimpArgs false
set_option maxRecDepth 100000
namespace Go.Proofs.Ytjekhcojebgpnaa.Arena
open Go.RowKit Go.Proofs Go.Proofs.Ytjekhcojebgpnaa.Eng Go.Proofs.Ytjekhcojebgpnaa.Ty Go.Proofs.Ytjekhcojebgpnaa.Bits Go.Proofs.Ytjekhcojebgpnaa.Mem Go.Proofs.Ytjekhcojebgpnaa.Search

theorem Class_ok (n : Int) : FnOk Try.prog 10 #[.int .i64 n] [] (fun v L => v = .int .i64 (classI n) ∧ L = []) := by
  refine fn_intro en10 Try.func10 rfl rfl rfl fun Fr w0 => t_nm ?_
  refine sr<|asg O O<|lc<|t_seq<|sr<|mv O O<|l_q O (qi O O (b_lss ·))<|mv O O<|l_pt (t := 7) rfl (fun h => ?_) fun h => ?_
  · refine l_off O O O O<|l_off O O O O<|l_q O (q_pk O O)<|lc<|t_cond_t O<|sr<|asg O O<|lc<|rt<|fr1 O ([]) (.tmp rfl) ?_
    exact ⟨by unfold classI; rw [if_pos (.inl h)], rfl⟩
  · refine l_on O O<|mv O O<|l_on O O<|l_q O (qi O O (b_gtr ·))<|l_q O (q_pk O O)<|lc<|t_if O (fun h2 => ?_) fun h2 => ?_
    · refine sr<|asg O O<|lc<|rt<|fr1 O ([]) (.tmp rfl) ?_
      exact ⟨by unfold classI; rw [if_pos (.inr h2)], rfl⟩
    · refine t_skip<|nz<|asg O O<|lc<|t_seq<|t_block ?_
      refine t_loop (fun e : Nat => e ≤ 16 ∧ ∀ j, j < e → 16 * (2 : Int) ^ j < n) (fun e => [(0, .int .i64 n), (3, .int .i64 (16 * 2 ^ e))]) (fun _ => Fr) (fun e => 17 - e) 0 ⟨by omega, by omega⟩ ⟨rfl, rfl, trivial⟩ (Ent.refl _) ?_
      rintro e ⟨he, hno⟩
      have pe : (2 : Int) ^ (e + 1) = 2 * 2 ^ e := by rw [Int.pow_succ]; omega
      have p0 : (1 : Int) ≤ 2 ^ e := by have := pow_cast e; have := Nat.two_pow_pos e; omega
      have p1 : (2 : Int) ^ e ≤ 65536 := by
        have h1 : 2 ^ e ≤ 2 ^ 16 := Nat.pow_le_pow_right (by decide) he
        have := pow_cast e
        omega
      refine t_seq<|sr<|mv O O<|mv O O<|l_q O (qi O O (b_lss ·))<|lc<|t_if O (fun q => ?_) fun q => ?_
      · refine t_skip<|n_code<|t_block<|t_region<|mv O O<|l_q O (qmul O O) ?_
        refine asg O O<|l_nil<|n_blk ?_
        apply n_again ((e + 1))
        · exact ⟨by rcases Nat.lt_or_ge e 16 with h16 | h16; omega; (have : e = 16 := by omega); subst this; omega, fun j hj => by by_cases hje : j = e; (subst hje; exact q); exact hno j (by omega)⟩
        · omega
        · exact ⟨rfl, congrArg (fun z => some (Value.int .i64 z)) (by omega), trivial⟩
        · exact en
      · refine xt O<|n_code<|t_seq<|sr<|mv O O<|l_q O (qquo O O) ?_
        refine l_q O (qmul O O) ?_
        refine asg O O<|lz<|mv O O<|l_q O (qi O O (b_gtr ·))<|mv O O ?_
        have ht := two_hit (n := n) (e := e) (by omega) he hno
        refine l_pt (t := 21) rfl (fun r => ?_) fun r => ?_
        · refine l_on O O<|mv O O<|l_on O O<|mv O O<|l_on O O<|l_q O (qi O O (b_leq ·))<|l_q O (q_pk O O)<|lc<|t_if O (fun s => ?_) fun s => ?_
          · refine sr<|mv O O<|asg O O<|lc<|rt<|fr1 O ([]) (.tmp rfl) ?_
            exact ⟨by unfold classI; rw [if_neg (by omega), ht, if_pos (by omega)], rfl⟩
          · refine t_skip<|nz<|mv O O<|asg O O<|lc<|rt<|fr1 O ([]) (.tmp rfl) ?_
            exact ⟨by unfold classI; rw [if_neg (by omega), ht, if_neg (by omega)], rfl⟩
        · refine l_off O O O O<|l_off O O O O<|l_off O O O O<|l_q O (q_pk O O)<|lc<|t_cond_f O<|t_skip<|nz<|mv O O<|asg O O<|lc<|rt<|fr1 O ([]) (.tmp rfl) ?_
          exact ⟨by unfold classI; rw [if_neg (by omega), ht, if_neg (by omega)], rfl⟩

/-- The free lists as they lie: class, the slice's value, what it holds. -/
abbrev FL := List (Int × Value × List Int)
def getFl : FL → Int → Value × List Int
  | [], _ => (.slice none 0 0, [])
  | p :: r, k => if p.1 = k then p.2 else getFl r k
def putFl : FL → Int → Value × List Int → FL
  | [], k, y => [(k, y)]
  | p :: r, k, y => if p.1 = k then (p.1, y) :: r else p :: putFl r k y
def cutFl : FL → Int → FL
  | [], _ => []
  | p :: r, k => if p.1 = k then r else p :: cutFl r k
def valFl (fl : FL) : List (Int × Value) := fl.map fun p => (p.1, p.2.1)
theorem lk_putFl (fl : FL) (k k' : Int) (y : Value × List Int) : getFl (putFl fl k y) k' = if k' = k then y else getFl fl k' := by
  induction fl with
  | nil =>
    simp only [putFl, getFl]
    by_cases q : k = k'
    · rw [if_pos q, if_pos q.symm]
    · rw [if_neg q, if_neg (Ne.symm q)]
  | cons p r ih =>
    simp only [putFl]
    by_cases q : p.1 = k
    · rw [if_pos q]
      simp only [getFl]
      by_cases q2 : p.1 = k'
      · rw [if_pos q2, if_pos (by omega)]
      · rw [if_neg q2, if_neg (by omega), if_neg q2]
    · rw [if_neg q]
      simp only [getFl]
      by_cases q2 : p.1 = k'
      · rw [if_pos q2, if_neg (by omega), if_pos q2]
      · rw [if_neg q2, ih, if_neg q2]
theorem val_putFl (fl : FL) (k : Int) (y : Value × List Int) : valFl (putFl fl k y) = setK (valFl fl) k y.1 := by
  induction fl with
  | nil => rfl
  | cons p r ih =>
    simp only [putFl, valFl, List.map_cons, setK]
    by_cases q : p.1 = k
    · rw [if_pos q, if_pos q]; simp
    · rw [if_neg q, if_neg q, List.map_cons]
      exact congrArg _ ih
theorem val_getFl (fl : FL) (k : Int) : (lkK (valFl fl) k).getD (.slice none 0 0) = (getFl fl k).1 := by
  induction fl with
  | nil => rfl
  | cons p r ih =>
    simp only [valFl, List.map_cons, lkK, getFl]
    by_cases q : p.1 = k
    · rw [if_pos q, if_pos q]; rfl
    · rw [if_neg q, if_neg q]; exact ih
/-- The rows of the free lists. -/
def freesL (fl : FL) : List HP := fl.map fun p => ownT 3 p.2.1 (ints p.2.2)
def freesH (fl : FL) : HP := stars (freesL fl)
theorem frees_lk (fl : FL) (k : Int) : (freesL fl).Perm (ownT 3 (getFl fl k).1 (ints (getFl fl k).2) :: freesL (cutFl fl k)) ∨ (getFl fl k = (.slice none 0 0, []) ∧ cutFl fl k = fl) := by
  induction fl with
  | nil => exact .inr ⟨rfl, rfl⟩
  | cons p r ih =>
    simp only [getFl, cutFl]
    by_cases q : p.1 = k
    · rw [if_pos q, if_pos q]; exact .inl (List.Perm.refl _)
    · rw [if_neg q, if_neg q]
      rcases ih with h | ⟨h1, h2⟩
      · exact .inl ((List.Perm.cons _ h).trans (List.Perm.swap _ _ _))
      · exact .inr ⟨h1, by rw [h2]⟩
theorem frees_set (fl : FL) (k : Int) (y : Value × List Int) : (ownT 3 y.1 (ints y.2) :: freesL (cutFl fl k)).Perm (freesL (putFl fl k y)) := by
  induction fl with
  | nil => exact List.Perm.refl _
  | cons p r ih =>
    simp only [putFl, cutFl]
    by_cases q : p.1 = k
    · rw [if_pos q, if_pos q]; exact List.Perm.refl _
    · rw [if_neg q, if_neg q]
      exact (List.Perm.swap _ _ _).trans (List.Perm.cons _ ih)
/-- One list taken out. -/
theorem frees_open {fl : FL} {k : Int} {L : List HP} : Ent (freesH fl :: L) (ownT 3 (getFl fl k).1 (ints (getFl fl k).2) :: freesH (cutFl fl k) :: L) := fun w h => by
  have h1 := sat_all.1 h
  rcases frees_lk fl k with hp | ⟨e1, e2⟩
  · have h2 := h1.perm (hp.append_right L)
    have h3 : Sat (stars ((freesL (cutFl fl k) ++ (ownT 3 (getFl fl k).1 (ints (getFl fl k).2) :: L)))) w := h2.perm (by
      simp only [List.cons_append]
      exact List.perm_middle.symm)
    exact (sat_all.2 h3 : Sat (stars (freesH (cutFl fl k) :: ownT 3 (getFl fl k).1 (ints (getFl fl k).2) :: L)) w).perm (List.Perm.swap _ _ _)
  · rw [e1, e2]
    exact ownT_nil w h
theorem frees_close {fl : FL} {k : Int} {v : Value} {xs : List Int} {L : List HP} : Ent (ownT 3 v (ints xs) :: freesH (cutFl fl k) :: L) (freesH (putFl fl k (v, xs)) :: L) := fun w h => by
  have h1 := (h.perm (List.Perm.swap _ _ _) : Sat (stars (freesH (cutFl fl k) :: ownT 3 v (ints xs) :: L)) w)
  have h2 := sat_all.1 h1
  refine sat_all.2 (h2.perm ?_)
  refine List.perm_middle.trans ?_
  rw [← List.cons_append]
  exact (frees_set fl k (v, xs)).append_right L
/-- The map of sizes holds the live ones. -/
def LmOk (s : ArS) (lm : List (Int × Value)) : Prop := (∀ p ∈ s.bl, lkK lm p.1 = some (.int .i64 p.2)) ∧ ∀ k, (∀ c, (k, c) ∉ s.bl) → lkK lm k = none
def FlOk (s : ArS) (fl : FL) : Prop := ∀ c, (getFl fl c).2 = s.frL c
/-- Where its parts lie. -/
structure ArX where
  pm : Nat
  g : Nat
  cap : Nat
  sb : Nat
  fb : Nat
  vs : Value
  vc : Value
  lm : List (Int × Value)
  fl : FL
@[reducible] def arP (pa : Nat) (s : ArS) (x : ArX) : List HP :=
  [pt pa (.cells #[.int .i64 s.limit, .int .i64 s.live, .pointer (some ⟨x.pm, 0, none⟩), x.vs, x.vc, .map (some x.sb), .map (some x.fb)] 83 (0, 0)), pt x.pm (.cells #[.slice (some ⟨x.g, 0, none⟩) s.stop x.cap] 116 (0, 0)), ownS 5 1 (.slice (some ⟨x.g, 0, none⟩) s.stop x.cap) s.stop (memV s.m s.stop),
   ownS 3 1 x.vs s.all.length (ints (s.all.map (·.1))), ownS 3 1 x.vc s.all.length (ints (s.all.map (·.2))), mapH (fun k : Int => Value.int .i64 k) x.sb x.lm, mapH (fun k : Int => Value.int .i64 k) x.fb (valFl x.fl), freesH x.fl]
def arOk (s : ArS) (x : ArX) : Prop := s.ok ∧ s.stop ≤ x.cap ∧ x.cap ≤ 134217728 ∧ LmOk s x.lm ∧ FlOk s x.fl
def arenaH (pa : Nat) (s : ArS) : HP := exP (arOk s) (arP pa s)
theorem arena_open {c : Cx} {fin : Exit → Act → World → Prop} {ds : List Deferred} {E : Env} {ks : List KI} {pa : Nat} {s : ArS} {R : List HP} {y : Code} (k : ∀ x, arOk s x → TC c fin ds E (arP pa s x ++ R) y ks) : TC c fin ds E (arenaH pa s :: R) y ks :=
  t_turn (X := { x : ArX // arOk s x }) (LL := fun x => arP pa s x.1 ++ R) (fun w hs => let ⟨x, hp, h⟩ := sat_exP.1 hs; ⟨⟨x, hp⟩, h⟩) fun x => k x.1 x.2
theorem arena_close {pa : Nat} {s : ArS} {x : ArX} {L R : List HP} (hp : arOk s x) (he : Ent L (arP pa s x ++ R)) : Ent L ([arenaH pa s] ++ R) := fun w h => sat_exP.2 ⟨x, hp, he w h⟩

theorem End_ok (pa : Nat) (s : ArS) : FnOk Try.prog 83 #[.pointer (some ⟨pa, 0, none⟩)] [arenaH pa s] (fun v L => v = .int .i64 (s.stop : Nat) ∧ L = [arenaH pa s]) := by
  refine fn_intro en83 Try.func83 rfl rfl rfl fun Fr w0 => t_nm ?_
  refine arena_open fun x hx => ?_
  refine t_norm fun M hM => ?_
  simp only [List.cons_append, List.nil_append] at hM
  subst M
  refine sr<|asg O O<|lz<|mv O O<|l_q O (q_nilCheck O)<|l_q O (qfa 2 O yU83 O O yS79)<|l_q O (qld O yA79) ?_
  refine lc1 O O O (Len_ok x.pm x.g s.stop x.cap s.m) ?_
  refine asg O O<|lc<|rt ?_
  apply f_ret (.inl rfl) ([arenaH pa s])
  · apply res1 O
    · exact .tmp rfl
  · exact ⟨rfl, rfl⟩
  · refine arena_close hx ?_; (exact en)

theorem bl_size {s : ArS} {lm : List (Int × Value)} (h : LmOk s lm) (hok : s.ok) {i : Nat} (hi : i < s.all.length) : ∃ zz, (lkK lm s.all[i].1).getD (.int .i64 0) = .int .i64 zz ∧ (lkK lm s.all[i].1).isSome = !s.dead s.all[i].1 ∧ (s.dead s.all[i].1 = false → zz = s.all[i].2) ∧ (zz = 0 ∨ zz = s.all[i].2) := by
  have hm : s.all[i] ∈ s.all := List.getElem_mem hi
  cases hd : s.dead s.all[i].1 with
  | false =>
    have := h.1 _ (mem_bl.2 ⟨hm, hd⟩)
    rw [this]
    exact ⟨_, rfl, rfl, fun _ => rfl, .inr rfl⟩
  | true =>
    have := h.2 s.all[i].1 fun c hc => by have := (mem_bl.1 hc).2; dsimp only at this; rw [hd] at this; cases this
    rw [this]
    exact ⟨0, rfl, rfl, fun q => (by cases q), .inl rfl⟩
theorem holds_ok (pa : Nat) (s : ArS) (i : Nat) (hi : i < s.all.length) (off n : Int) (ho : 0 ≤ off ∧ off ≤ 1000000000) : FnOk Try.prog 84 #[.pointer (some ⟨pa, 0, none⟩), .int .i64 i, .int .i64 off, .int .i64 n] [arenaH pa s]
    (fun v L => v = .bool (!s.dead s.all[i].1 && decide (n ≤ s.all[i].1 + s.all[i].2 - off)) ∧ L = [arenaH pa s]) := by
  refine fn_intro en84 Try.func84 rfl rfl rfl fun Fr w0 => t_nm ?_
  refine arena_open fun x hx => ?_
  refine t_norm fun M hM => ?_
  simp only [List.cons_append, List.nil_append] at hM
  subst M
  obtain ⟨pm, g, cap, sb, fb, vs, vc, lm, fl⟩ := x
  have hst := hx.1.stop_eq
  have hmem : s.all[i] ∈ s.all := List.getElem_mem hi
  obtain ⟨hb1, hb2⟩ := ArS.chain_pos hx.1.chain _ hmem
  obtain ⟨zz, hz1, hz2, hz3, hz4⟩ := bl_size hx.2.2.2.1 hx.1 hi
  dsimp only at hz1 hz2
  refine t_shape (.there (.there (.there .here))) fun _ hvs => ?_
  obtain ⟨av, cv, rfl, hav, _, _⟩ := hvs
  obtain ⟨gv, rfl⟩ := hav (by omega)
  have hend := chain_end hx.1.chain hmem
  dsimp only
  refine sr<|asg O O<|lc<|t_seq<|sr<|mv O O<|l_q O (qi O O (b_lss ·))<|lc<|t_if O (fun z => ?_) fun z => ?_
  · omega
  · refine t_skip<|n_code<|t_seq<|t_draw mixed ?_
    apply dq 0 O
    · exact yq (q_move O)
    apply dq 1 O
    · exact yq (q_nilCheck O)
    apply dq 2 O
    · exact yq (qfa 5 O yU83 O O yS80)
    apply dq 3 O
    · exact yq (qld O yA80)
    apply dq 4 O
    · exact yq (q_move O)
    apply dq 5 O
    · exact yq (q_nilCheck O)
    apply dq 6 O
    · exact yq (qfa 3 O yU83 O O yS28)
    apply dq 7 O
    · exact yq (qld O yA28)
    apply dq 8 O
    · exact yq (q_move O)
    apply dq 9 O
    · exact yq (q_indexAddr1 O O yU28 yS3 (by omega))
    apply dq 10 O
    · apply yq
      apply q_loadOwn O yA3
      · exact tk
      · rw [Nat.zero_add, Int.toNat_natCast, ints_at (by simpa using hi), List.getElem_map]
    apply dq 11 O
    · apply yq
      refine QV.to (v' := .tuple #[.int .i64 zz, .bool (!s.dead s.all[i].1)]) (q_lookup2 keyInt O O Try.underlying80 Try.underlying3 yZ3 (by exact tk)) (by rw [hz1, hz2])
    apply dq 12 O
    · exact yq (q_move O)
    apply dq 13 O
    · exact yq (q_extractL O ga)
    apply dq 14 O
    · exact yq (q_extractL O ga)
    refine d_eff1 [13, 0, 1, 2, 3, 4, 5, 6, 7, 8, 9, 10, 11, 12] [14] 15 [(26, _)] gO ⟨rfl, trivial⟩ (by kernel_rfl) (by kernel_rfl) fun Ex => ?_
    refine asg O O<|l_nil ?_
    apply n_d
    · refine ⟨?_, trivial⟩
      · apply ya O O; exact yq (q_extractL O ga)
    refine d_eff1 [14] [] 16 [(27, _)] gO ⟨rfl, trivial⟩ (by kernel_rfl) (by kernel_rfl) fun Ex => ?_
    refine asg O O<|l_nil ?_
    apply n_d
    · exact trivial
    refine d_end (by kernel_rfl) ?_
    refine nz<|mv O O<|mv O O<|l_pt (t := 29) rfl (fun q => ?_) fun q => ?_
    · refine l_on O O<|mv O O<|l_on O O<|mv O O<|l_on O O<|l_q O (q_nilCheck O)<|l_on O O<|l_q O (qfa 3 O yU83 O O yS28)<|l_on O O<|l_q O (qld O yA28) ?_
      refine l_on O O<|mv O O<|l_on O O<|l_q O (q_indexAddr1 O O yU28 yS3 (by omega)) ?_
      refine l_on O O ?_
      apply l_q O
      · apply q_loadOwn O yA3
        · exact tk
        · rw [Nat.zero_add, Int.toNat_natCast, ints_at (by simpa using hi), List.getElem_map]
      refine l_on O O<|mv O O<|l_on O O<|l_q O (qadd O O) ?_
      refine l_on O O<|mv O O<|l_on O O<|l_q O (qsub O O) ?_
      refine l_on O O<|l_q O (qi O O (b_leq ·))<|l_q O (q_pk O O)<|asg O O<|lc<|rt ?_
      have hdd : s.dead s.all[i].1 = false := by simpa using q
      apply f_ret (.inl rfl) ([arenaH pa s])
      · apply res1 O
        · exact .tmp rfl
      · exact ⟨by rw [hz3 hdd, hdd]; rfl, rfl⟩
      · refine arena_close hx ?_; dsimp only [arP]; (exact en)
    · refine l_off O O O O<|l_off O O O O<|l_off O O O O<|l_off O O O O<|l_off O O O O<|l_off O O O O<|l_off O O O O<|l_off O O O O<|l_off O O O O<|l_off O O O O<|l_off O O O O<|l_off O O O O<|l_off O O O O<|l_q O (q_pk O O)<|asg O O<|lc<|rt ?_
      have hdd : s.dead s.all[i].1 = true := by simpa using q
      apply f_ret (.inl rfl) ([arenaH pa s])
      · apply res1 O
        · exact .tmp rfl
      · exact ⟨by rw [hdd]; rfl, rfl⟩
      · refine arena_close hx ?_; dsimp only [arP]; (exact en)
theorem holds_no (pa : Nat) (s : ArS) (off n i : Int) (hi : i < 0) : FnOk Try.prog 84 #[.pointer (some ⟨pa, 0, none⟩), .int .i64 i, .int .i64 off, .int .i64 n] [arenaH pa s]
    (fun v L => v = .bool false ∧ L = [arenaH pa s]) := by
  refine fn_intro en84 Try.func84 rfl rfl rfl fun Fr w0 => t_nm ?_
  refine sr<|asg O O<|lc<|t_seq<|sr<|mv O O<|l_q O (qi O O (b_lss ·))<|lc<|t_if O (fun z => ?_) fun z => ?_
  · exact sr<|asg O O<|lc<|rt<|fr1 O ([arenaH pa s]) (.tmp rfl) ⟨rfl, rfl⟩
  · omega
/-- The block i holds the span. -/
def Hd (s : ArS) (i : Nat) (off n : Int) : Prop := ∃ h : i < s.all.length, s.dead s.all[i].1 = false ∧ n ≤ s.all[i].1 + s.all[i].2 - off
theorem hd_iff {s : ArS} {i : Nat} (hi : i < s.all.length) {off n : Int} : (!s.dead s.all[i].1 && decide (n ≤ s.all[i].1 + s.all[i].2 - off)) = true ↔ Hd s i off n := by
  rw [Bool.and_eq_true, decide_eq_true_eq]
  constructor
  · rintro ⟨a, b⟩; exact ⟨hi, by simpa using a, b⟩
  · rintro ⟨_, a, b⟩; exact ⟨by rw [a]; rfl, b⟩
theorem good_not {s : ArS} (hc : ArS.chain 16 s.all) {i : Nat} (hi : i < s.all.length) {off n : Int} (h0 : 0 ≤ n) (h1 : s.all[i].1 < off) (h2 : ∀ j (hj : j < s.all.length), i < j → off < s.all[j].1) : goodP s off n ↔ Hd s i off n := by
  constructor
  · rintro ⟨_, p, hp, p1, p2⟩
    obtain ⟨hp, hd⟩ := mem_bl.1 hp
    obtain ⟨j, hj, rfl⟩ := List.getElem_of_mem hp
    rcases Nat.lt_trichotomy j i with q | q | q
    · have := chain_gap hc j i hj hi q
      omega
    · subst q; exact ⟨hi, hd, by omega⟩
    · have := h2 j hj q; omega
  · rintro ⟨_, a, b⟩
    exact ⟨h0, _, mem_bl.2 ⟨List.getElem_mem hi, a⟩, by omega, by omega⟩
theorem good_at {s : ArS} (hc : ArS.chain 16 s.all) {i : Nat} (hi : i < s.all.length) {off n : Int} (h0 : 0 ≤ n) (h1 : s.all[i].1 = off) : goodP s off n ↔ Hd s i off n ∨ (n = 0 ∧ ∃ j, i = j + 1 ∧ Hd s j off n) := by
  constructor
  · rintro ⟨_, p, hp, p1, p2⟩
    obtain ⟨hp, hd⟩ := mem_bl.1 hp
    obtain ⟨j, hj, rfl⟩ := List.getElem_of_mem hp
    have hpos := (ArS.chain_pos hc _ hp).2
    rcases Nat.lt_trichotomy j i with q | q | q
    · have h3 := chain_gap hc j i hj hi q
      refine .inr ⟨by omega, j, ?_, hj, hd, by omega⟩
      rcases Nat.lt_or_ge (j + 1) i with q2 | q2
      · have h4 := chain_gap hc j (j + 1) hj (by omega) (by omega)
        have h5 := chain_gap hc (j + 1) i (by omega) hi q2
        have h6 := (ArS.chain_pos hc _ (List.getElem_mem (show j + 1 < s.all.length by omega))).2
        omega
      · omega
    · subst q; exact .inl ⟨hi, hd, by omega⟩
    · have := chain_gap hc i j hi hj q
      have h6 := (ArS.chain_pos hc _ (List.getElem_mem hi)).2
      omega
  · rintro (⟨_, a, b⟩ | ⟨rfl, j, rfl, hj, a, b⟩)
    · exact ⟨h0, _, mem_bl.2 ⟨List.getElem_mem hi, a⟩, by omega, by omega⟩
    · have h3 := chain_gap hc j (j + 1) hj hi (by omega)
      have h6 := (ArS.chain_pos hc _ (List.getElem_mem hj)).2
      exact ⟨h0, _, mem_bl.2 ⟨List.getElem_mem hj, a⟩, by omega, by omega⟩
theorem goodP.end_le {s : ArS} (h : s.ok) {off n : Int} (hg : goodP s off n) : 16 ≤ off ∧ off + n ≤ (s.stop : Int) ∧ s.all ≠ [] := by
  obtain ⟨_, p, hp, p1, p2⟩ := hg
  obtain ⟨hp, _⟩ := mem_bl.1 hp
  have a := ArS.chain_pos h.chain p hp
  have b := chain_end h.chain hp
  have c := h.stop_eq
  exact ⟨by omega, by omega, fun e => by rw [e] at hp; cases hp⟩
theorem good_ok (pa : Nat) (s : ArS) (hne : s.all ≠ []) (off n : Int) : FnOk Try.prog 62 #[.pointer (some ⟨pa, 0, none⟩), .int .i64 off, .int .i64 n] [arenaH pa s]
    (fun v L => (∃ b : Bool, v = .bool b ∧ (b = true ↔ goodP s off n)) ∧ L = [arenaH pa s]) := by
  refine fn_intro en62 Try.func62 rfl rfl rfl fun Fr w0 => t_nm ?_
  refine t_pure (φ := s.ok) (fun w hw => by obtain ⟨x, hx, _⟩ := sat_exP.1 hw; exact hx.1) fun hok => ?_
  have hst := hok.stop_eq
  refine sr<|asg O O<|lc<|t_seq<|sr<|mv O O<|l_q O (qi O O (b_lss ·))<|mv O O<|l_pt (t := 11) rfl (fun h1 => ?_) fun h1 => ?_
  · refine l_off O O O O<|l_off O O O O<|l_q O (q_pk O O)<|mv O O<|l_off O O O O<|l_off O O O O<|l_off O O O O<|l_off O O O O<|l_q O (q_pk O O)<|lc<|t_cond_t O<|sr<|asg O O<|lc<|rt<|fr1 O ([arenaH pa s]) (.tmp rfl) ?_
    exact ⟨⟨true && false, rfl, by simp; rintro ⟨h0, _⟩; omega⟩, rfl⟩
  · refine l_on O O<|mv O O<|l_on O O<|l_q O (qi O O (b_lss ·))<|l_q O (q_pk O O)<|mv O O<|l_pt (t := 15) rfl (fun h2 => ?_) fun h2 => ?_
    · refine l_off O O O O<|l_off O O O O<|l_off O O O O<|l_off O O O O<|l_q O (q_pk O O)<|lc<|t_cond_t O<|sr<|asg O O<|lc<|rt<|fr1 O ([arenaH pa s]) (.tmp rfl) ?_
      exact ⟨⟨false, rfl, by simp; intro hg; have := goodP.end_le hok hg; omega⟩, rfl⟩
    · refine l_on O O<|mv O O<|l_on O O<|mv O O<|l_on O O<|lc1 O O O (End_ok pa s) ?_
      refine l_on O O<|l_q O (qi O O (b_gtr ·))<|l_q O (q_pk O O)<|lc<|t_if O (fun h3 => ?_) fun h3 => ?_
      · refine sr<|asg O O<|lc<|rt<|fr1 O ([arenaH pa s]) (.tmp rfl) ?_
        exact ⟨⟨false, rfl, by simp; intro hg; have := goodP.end_le hok hg; omega⟩, rfl⟩
      · refine arena_open fun x hx => ?_
        refine t_norm fun M hM => ?_
        simp only [List.cons_append, List.nil_append] at hM
        subst M
        obtain ⟨pm, g, cap, sb, fb, vs, vc, lm, fl⟩ := x
        have hpos : 0 < s.all.length := List.length_pos_iff.2 hne
        refine t_shape (.there (.there (.there .here))) fun _ hvs => ?_
        obtain ⟨av, cv, rfl, hav, hcv, hcm⟩ := hvs
        obtain ⟨gv, rfl⟩ := hav (by omega)
        dsimp only
        refine t_skip<|nz<|mv O O<|l_q O (q_nilCheck O)<|l_q O (qfa 3 O yU83 O O yS28)<|l_q O (qld O yA28) ?_
        refine mv O O ?_
        have hsn := ArS.sum_nonneg hok.chain
        refine lcf O O O (Search_ok (s.all.map (·.1)) gv s.all.length cv off (by simp) (by omega) (chain_rise hok.chain)) ?_
        rintro v L' ⟨⟨i, rfl, hpl⟩, rfl⟩
        refine l_nm ?_
        refine mv O O<|l_q O (q_extractL O ga) ?_
        refine l_q O (q_extractL O ga) ?_
        refine asg O O<|asg O O<|lc<|t_seq<|sr<|mv O O<|l_q O (q_un O (u_not ·))<|lc ?_
        obtain ⟨hp1, hp2, hp3⟩ := hpl
        simp only [List.length_map, List.getElem_map] at hp1 hp2 hp3
        have hx0 := chain_head hok.chain hpos
        refine t_turn (X := Unit) (LL := fun _ => arenaH pa s :: Fr) (fun w hs => ⟨(), arena_close (x := ⟨pm, g, cap, sb, fb, .slice (some ⟨gv, 0, none⟩) s.all.length cv, vc, lm, fl⟩) hx (by dsimp only [arP]; (exact en)) w hs⟩) fun _ => ?_
        refine t_if O (fun e => ?_) fun e => ?_
        · refine t_region<|mv O O<|l_q O (qsub O O) ?_
          refine asg O O<|lz<|mv O O<|mv O O<|mv O O<|mv O O ?_
          have hi1 : 1 ≤ i := by
            rcases Nat.eq_zero_or_pos i with h0 | h0
            · subst h0
              have := hp3 0 hpos (by omega)
              exact absurd (by rw [List.getElem?_eq_getElem (by simpa using hpos)]; simp only [List.getElem_map]; congr 1; omega) e
            · exact h0
          rw [show (i : Int) - 1 = ((i - 1 : Nat) : Int) by omega]
          have hlt : i - 1 < s.all.length := by omega
          have hge := hp2 (i - 1) hlt (by omega)
          have hup : ∀ j (hj : j < s.all.length), i - 1 < j → off < s.all[j].1 := fun j hj hij => by
            have h5 := hp3 j hj (by omega)
            rcases Nat.lt_or_ge i j with h6 | h6
            · have h7 := hp3 i (by omega) (by omega)
              have h8 := chain_rise hok.chain i j (by simp; omega) (by simpa using hj) h6
              simp only [List.getElem_map] at h8
              omega
            · have : j = i := by omega
              subst this
              have h9 : s.all[j].1 ≠ off := fun q => e (by rw [List.getElem?_eq_getElem (by simpa using hj)]; simp only [List.getElem_map]; rw [q])
              omega
          have hgi := good_not hok.chain hlt (n := n) (by omega) hge hup
          have hHd := hd_iff hlt (off := off) (n := n)
          refine lc1 O O O (holds_ok pa s (i - 1) hlt off n ⟨by omega, by omega⟩) ?_
          refine mv O O<|l_pt (t := 39) rfl (fun r => ?_) fun r => ?_
          · refine l_off O O O O<|l_off O O O O<|l_off O O O O<|l_offu O O O<|l_off O O O O<|l_off O O O O<|l_offu O O O<|l_offu O O O<|l_offu O O O<|l_offu O O O<|l_offu O O O<|l_offu O O O<|l_off O O O O<|l_q O (q_pk O O)<|asg O O<|lc<|rt<|fr1 O ([arenaH pa s]) (.tmp rfl) ?_
            exact ⟨⟨true, rfl, by simp only [true_iff]; exact hgi.2 (hHd.1 r)⟩, rfl⟩
          · refine l_on O O<|mv O O<|l_on O O<|l_q O (qi O O (b_eql ·))<|l_on O O<|mv O O ?_
            have hng : ¬ goodP s off n := fun hg => by have := hHd.2 (hgi.1 hg); rw [r] at this; cases this
            refine l_pt (t := 42) rfl (fun t => ?_) fun t => ?_
            · refine l_on O O<|mv O O<|l_on O O<|l_q O (q_pk O O)<|l_on O O<|mv O O<|l_pt (t := 45) rfl (fun u => ?_) fun u => ?_
              · exact absurd u e
              · refine l_off O O O O<|l_off O O O O<|l_off O O O O<|l_off O O O O<|l_off O O O O<|l_off O O O O<|l_on O O<|l_q O (q_pk O O)<|l_q O (q_pk O O)<|asg O O<|lc<|rt<|fr1 O ([arenaH pa s]) (.tmp rfl) ?_
                exact ⟨⟨false, rfl, by simp only [Bool.false_eq_true, false_iff]; exact hng⟩, rfl⟩
            · refine l_off O O O O<|l_on O O<|l_q O (q_pk O O)<|l_on O O<|mv O O<|l_off O O O O<|l_off O O O O<|l_off O O O O<|l_off O O O O<|l_off O O O O<|l_off O O O O<|l_on O O<|l_q O (q_pk O O)<|l_q O (q_pk O O)<|asg O O<|lc<|rt<|fr1 O ([arenaH pa s]) (.tmp rfl) ?_
              exact ⟨⟨false, rfl, by simp only [Bool.false_eq_true, false_iff]; exact hng⟩, rfl⟩
        · refine t_skip<|nz<|mv O O<|mv O O<|mv O O<|mv O O ?_
          have he := e
          have hlt : i < s.all.length := by have := (List.getElem?_eq_some_iff.1 he).1; simpa using this
          have heq : s.all[i].1 = off := by
            rw [List.getElem?_eq_getElem (by simpa using hlt)] at he
            simpa using he
          have hgi := good_at hok.chain hlt (n := n) (by omega) heq
          have hHd := hd_iff hlt (off := off) (n := n)
          refine lc1 O O O (holds_ok pa s i hlt off n ⟨by omega, by omega⟩) ?_
          refine mv O O<|l_pt (t := 39) rfl (fun r => ?_) fun r => ?_
          · refine l_off O O O O<|l_off O O O O<|l_off O O O O<|l_offu O O O<|l_off O O O O<|l_off O O O O<|l_offu O O O<|l_offu O O O<|l_offu O O O<|l_offu O O O<|l_offu O O O<|l_offu O O O<|l_off O O O O<|l_q O (q_pk O O)<|asg O O<|lc<|rt<|fr1 O ([arenaH pa s]) (.tmp rfl) ?_
            exact ⟨⟨true, rfl, by simp only [true_iff]; exact hgi.2 (.inl (hHd.1 r))⟩, rfl⟩
          · refine l_on O O<|mv O O<|l_on O O<|l_q O (qi O O (b_eql ·))<|l_on O O<|mv O O ?_
            have hnr : ¬ Hd s i off n := fun hg => by have := hHd.2 hg; rw [r] at this; cases this
            refine l_pt (t := 42) rfl (fun t => ?_) fun t => ?_
            · refine l_on O O<|mv O O<|l_on O O<|l_q O (q_pk O O)<|l_on O O<|mv O O<|l_pt (t := 45) rfl (fun u => ?_) fun u => ?_
              · rcases Nat.eq_zero_or_pos i with hi0 | hi0
                · skip
                  refine l_on O O<|mv O O<|l_on O O<|mv O O<|l_on O O<|l_q O (qsub O O) ?_
                  refine l_on O O<|mv O O<|l_on O O<|mv O O<|l_on O O<|lc1 O O O (holds_no pa s off n _ (by omega)) ?_
                  refine l_on O O<|l_q O (q_pk O O)<|l_q O (q_pk O O)<|asg O O<|lc<|rt<|fr1 O ([arenaH pa s]) (.tmp rfl) ?_
                  exact ⟨⟨false, rfl, by simp only [Bool.false_eq_true, false_iff]; intro hg; rcases hgi.1 hg with q | ⟨_, j, q, _⟩; exact hnr q; omega⟩, rfl⟩
                · skip
                  have hi1 : (i : Int) - 1 = ((i - 1 : Nat) : Int) := by omega
                  have hlt2 : i - 1 < s.all.length := by omega
                  have hHd2 := hd_iff hlt2 (off := off) (n := n)
                  refine l_on O O<|mv O O<|l_on O O<|mv O O<|l_on O O<|l_q O (qsub O O) ?_
                  refine l_on O O<|mv O O<|l_on O O<|mv O O<|l_on O O ?_
                  rw [hi1]
                  refine lc1 O O O (holds_ok pa s (i - 1) hlt2 off n ⟨by omega, by omega⟩) ?_
                  refine l_on O O<|l_q O (q_pk O O)<|l_q O (q_pk O O)<|asg O O<|lc<|rt<|fr1 O ([arenaH pa s]) (.tmp rfl) ?_
                  exact ⟨⟨_, rfl, by rw [hHd2, hgi]; constructor; (exact fun q => .inr ⟨t, i - 1, by omega, q⟩); rintro (q | ⟨_, j, q, q2⟩); (exact absurd q hnr); rw [show i - 1 = j by omega]; exact q2⟩, rfl⟩
              · exact absurd he u
            · refine l_off O O O O<|l_on O O<|l_q O (q_pk O O)<|l_on O O<|mv O O<|l_off O O O O<|l_off O O O O<|l_off O O O O<|l_off O O O O<|l_off O O O O<|l_off O O O O<|l_on O O<|l_q O (q_pk O O)<|l_q O (q_pk O O)<|asg O O<|lc<|rt<|fr1 O ([arenaH pa s]) (.tmp rfl) ?_
              exact ⟨⟨false, rfl, by simp only [Bool.false_eq_true, false_iff]; intro hg; rcases hgi.1 hg with q | ⟨q, _⟩; exact hnr q; exact t q⟩, rfl⟩
theorem word_ok (pa : Nat) (s : ArS) (off : Int) (k : Nat) (hk : wid k) (hg : goodP s off k) (hne : s.all ≠ []) : FnOk Try.prog 52 #[.pointer (some ⟨pa, 0, none⟩), .int .i64 off, .int .i64 k] [arenaH pa s]
    (fun v L => v = .int .i64 0 ∧ L = [arenaH pa s]) := by
  refine fn_intro en52 Try.func52 rfl rfl rfl fun Fr w0 => t_nm ?_
  refine sr<|asg O O<|lc<|t_seq<|sr<|mv O O<|lc<|t_block<|t_seq<|sr<|l_q O (qi O O (b_eql ·))<|asg O O<|lc<|t_pt (t := 8) rfl (fun h1 => ?_) fun h1 => ?_
  · refine t_cond_t O<|t_skip<|n_code<|t_cond_t O<|t_skip<|n_blk<|n_code<|t_seq<|sr<|mv O O<|mv O O<|mv O O<|lcf O O O (good_ok pa s hne off k) ?_
    rintro v L' ⟨⟨b, rfl, hb⟩, rfl⟩
    refine l_nm ?_
    refine l_q O (q_un O (u_not ·))<|lc<|t_if O (fun z => ?_) fun z => ?_
    · rw [hb.2 hg] at z; cases z
    · exact t_skip<|nz<|asg O O<|lc<|rt<|fr1 O ([arenaH pa s]) (.tmp rfl) ⟨rfl, rfl⟩
  · refine t_cond_f O<|sr<|l_q O (qi O O (b_eql ·))<|asg O O<|lc<|t_pt (t := 8) rfl (fun h2 => ?_) fun h2 => ?_
    · refine t_cond_t O<|t_skip<|n_code<|t_cond_t O<|t_skip<|n_blk<|n_code<|t_seq<|sr<|mv O O<|mv O O<|mv O O<|lcf O O O (good_ok pa s hne off k) ?_
      rintro v L' ⟨⟨b, rfl, hb⟩, rfl⟩
      refine l_nm ?_
      refine l_q O (q_un O (u_not ·))<|lc<|t_if O (fun z => ?_) fun z => ?_
      · rw [hb.2 hg] at z; cases z
      · exact t_skip<|nz<|asg O O<|lc<|rt<|fr1 O ([arenaH pa s]) (.tmp rfl) ⟨rfl, rfl⟩
    · refine t_cond_f O<|sr<|l_q O (qi O O (b_eql ·))<|asg O O<|lc<|t_pt (t := 8) rfl (fun h4 => ?_) fun h4 => ?_
      · refine t_cond_t O<|t_skip<|n_code<|t_cond_t O<|t_skip<|n_blk<|n_code<|t_seq<|sr<|mv O O<|mv O O<|mv O O<|lcf O O O (good_ok pa s hne off k) ?_
        rintro v L' ⟨⟨b, rfl, hb⟩, rfl⟩
        refine l_nm ?_
        refine l_q O (q_un O (u_not ·))<|lc<|t_if O (fun z => ?_) fun z => ?_
        · rw [hb.2 hg] at z; cases z
        · exact t_skip<|nz<|asg O O<|lc<|rt<|fr1 O ([arenaH pa s]) (.tmp rfl) ⟨rfl, rfl⟩
      · refine t_cond_f O<|t_region<|l_q O (qi O O (b_eql ·))<|asg O O<|lc<|t_pt (t := 8) rfl (fun h8 => ?_) fun h8 => ?_
        · refine t_cond_t O<|t_skip<|n_blk<|n_code<|t_seq<|sr<|mv O O<|mv O O<|mv O O<|lcf O O O (good_ok pa s hne off k) ?_
          rintro v L' ⟨⟨b, rfl, hb⟩, rfl⟩
          refine l_nm ?_
          refine l_q O (q_un O (u_not ·))<|lc<|t_if O (fun z => ?_) fun z => ?_
          · rw [hb.2 hg] at z; cases z
          · exact t_skip<|nz<|asg O O<|lc<|rt<|fr1 O ([arenaH pa s]) (.tmp rfl) ⟨rfl, rfl⟩
        · unfold wid at hk; omega

theorem Load_ok (pa : Nat) (s : ArS) (off k : Nat) (hk : wid k) (hg : goodP s off k) (hne : s.all ≠ []) : FnOk Try.prog 34 #[.pointer (some ⟨pa, 0, none⟩), .int .i64 off, .int .i64 k] [arenaH pa s]
    (fun v L => v = .tuple #[.int .u64 (loadN s.m off k), .int .i64 0] ∧ L = [arenaH pa s]) := by
  refine fn_intro en34 Try.func34 rfl rfl rfl fun Fr w0 => t_nm ?_
  refine sr<|asg O O<|asg O O<|lc<|t_seq<|sr<|mv O O<|mv O O<|mv O O<|lc1 O O O (word_ok pa s off k hk hg hne) ?_
  refine asg O O<|lz<|mv O O<|l_q O (qi O O (b_neq ·))<|lc<|t_if O (fun z => ?_) fun z => ?_
  · exact absurd rfl z
  · skip
    refine arena_open fun x hx => ?_
    refine t_norm fun M hM => ?_
    simp only [List.cons_append, List.nil_append] at hM
    subst M
    obtain ⟨pm, g, cap, sb, fb, vs, vc, lm, fl⟩ := x
    obtain ⟨hok, hcap, hcap2, hlm, hfl⟩ := hx
    dsimp only at hcap hcap2 hlm hfl ⊢
    have hst := hok.stop_eq
    have hge := goodP.end_le hok hg
    refine t_skip<|nz<|mv O O<|l_q O (q_nilCheck O)<|l_q O (qfa 2 O yU83 O O yS79)<|l_q O (qld O yA79) ?_
    refine mv O O<|mv O O<|lc1 O O O (Mem.Load_ok pm g s.stop cap off k s.m hok.bytes (by omega) hcap hk (by omega)) ?_
    refine l_q O (q_extractL O ga) ?_
    refine l_q O (q_extractL O ga) ?_
    refine asg O O<|asg O O<|lc<|rt ?_
    apply f_ret (.inl rfl) ([arenaH pa s])
    · apply res2 O
      · exact .tmp rfl
      · exact .tmp rfl
    · exact ⟨rfl, rfl⟩
    · refine arena_close (x := ⟨pm, g, cap, sb, fb, vs, vc, lm, fl⟩) ⟨hok, hcap, hcap2, hlm, hfl⟩ ?_; dsimp only [arP]; (exact en)

/-- The same arena with other bytes. -/
def ArS.put (s : ArS) (o k : Nat) (f : Nat → Int) : ArS := { s with m := layM s.m o k f }
theorem ArS.put_ok {s : ArS} (h : s.ok) {o k : Nat} {f : Nat → Int} (hf : ∀ i, 0 ≤ f i ∧ f i < 256) : (s.put o k f).ok := ⟨h.limit, h.room, h.chain, lay_bytes h.bytes hf, h.cls, h.isC, h.deadIn⟩
theorem byteN_bytes (v : Int) : ∀ i, 0 ≤ byteN v i ∧ byteN v i < 256 := fun i => by unfold byteN; omega
theorem Store_ok (pa : Nat) (s : ArS) (off k : Nat) (v : Int) (hv : 0 ≤ v ∧ v < 18446744073709551616) (hk : wid k) (hg : goodP s off k) (hne : s.all ≠ []) : FnOk Try.prog 48 #[.pointer (some ⟨pa, 0, none⟩), .int .i64 off, .int .i64 k, .int .u64 v] [arenaH pa s]
    (fun r L => r = .int .i64 0 ∧ L = [arenaH pa (s.put off k (byteN v))]) := by
  refine fn_intro en48 Try.func48 rfl rfl rfl fun Fr w0 => t_nm ?_
  refine sr<|asg O O<|lc<|t_seq<|sr<|mv O O<|mv O O<|mv O O<|lcf O O O (word_ok pa s off k hk hg hne) ?_
  rintro v' L' ⟨rfl, rfl⟩
  refine l_nm ?_
  refine asg O O<|lz<|mv O O<|l_q O (qi O O (b_neq ·))<|lc<|t_if O (fun z => ?_) fun z => ?_
  · exact absurd rfl z
  · skip
    refine arena_open fun x hx => ?_
    refine t_norm fun M hM => ?_
    simp only [List.cons_append, List.nil_append] at hM
    subst M
    obtain ⟨pm, g, cap, sb, fb, vs, vc, lm, fl⟩ := x
    obtain ⟨hok, hcap, hcap2, hlm, hfl⟩ := hx
    dsimp only at hcap hcap2 hlm hfl ⊢
    have hst := hok.stop_eq
    have hge := goodP.end_le hok hg
    refine t_skip<|nz<|mv O O<|l_q O (q_nilCheck O)<|l_q O (qfa 2 O yU83 O O yS79)<|l_q O (qld O yA79) ?_
    refine mv O O<|mv O O<|mv O O<|lcf O O O (Mem.Store_ok pm g s.stop cap off k s.m v hv (by omega) hcap hk (by omega)) ?_
    rintro v' L' ⟨rfl, rfl⟩
    refine l_nm ?_
    refine asg O O<|lc<|rt ?_
    apply f_ret (.inl rfl) ([arenaH pa (s.put off k (byteN v))])
    · apply res1 O
      · exact .tmp rfl
    · exact ⟨rfl, rfl⟩
    · refine arena_close (x := ⟨pm, g, cap, sb, fb, vs, vc, lm, fl⟩) ⟨ArS.put_ok hok (byteN_bytes v), hcap, hcap2, hlm, hfl⟩ ?_; show Ent _ (arP pa _ _ ++ _); dsimp only [arP, ArS.put]; exact fun w h => h.perm (by first | exact List.Perm.refl _ | exact List.perm_middle (l₁ := [_, _]) )

theorem strM_bytes {m : Nat → Int} (hm : ∀ i, 0 ≤ m i ∧ m i < 256) (o k : Nat) : bytesV (strM m o k) = memV (fun i => m (o + i)) k := by
  simp only [bytesV, strM, memV, List.map_map]
  refine List.map_congr_left fun i _ => ?_
  have := hm (o + i)
  simp only [Function.comp, Value.int.injEq, true_and]
  rw [UInt8.toNat_ofNat']
  omega
end Go.Proofs.Ytjekhcojebgpnaa.Arena
