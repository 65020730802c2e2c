/- The contracts of the document's own arena (larderref02). -/
import Derived.Test.YthkajgkagnenbaaGreatDoorRefAB
set_option linter.unusedVariables false
set_option linter.unusedSimpArgs false
set_option maxRecDepth 100000
namespace Go.Proofs.YthkajgkagnenbaaGreatDoor.RefA
open Go.RowKit Go.Proofs Go.Proofs.YthkajgkagnenbaaGreatDoor.Eng Go.Proofs.YthkajgkagnenbaaGreatDoor.Ty Go.Proofs.YthkajgkagnenbaaGreatDoor.Bits Go.Proofs.YthkajgkagnenbaaGreatDoor.Mem Go.Proofs.YthkajgkagnenbaaGreatDoor.Search Go.Proofs.YthkajgkagnenbaaGreatDoor.Arena

@[reducible] def raP (pr : Nat) (s : ArS) (x : Value × List RB) : List HP := [pt pr (.cells #[.int .i64 s.limit, .int .i64 (s.stop : Nat), x.1] 51 (0, 0)), ownS 119 3 x.1 x.2.length (rowOf RB.cells x.2)]
def rarH (pr : Nat) (s : ArS) : HP := exP (fun x : Value × List RB => RAok s x.2) (raP pr s)
theorem rar_congr {pr : Nat} {s s' : ArS} (h1 : s'.limit = s.limit) (h2 : s'.all = s.all) (h3 : s'.dead = s.dead) : rarH pr s' = rarH pr s := by
 unfold rarH raP RAok ArS.stop
 rw [h1, h2, h3]
theorem rar_open {c : Cx} {fin : Exit → Act → World → Prop} {ds : List Deferred} {E : Env} {ks : List KI} {pr : Nat} {s : ArS} {L M : List HP} {y : Code} (ht : Take (rarH pr s) L M) (k : ∀ va rs, RAok s rs → TC c fin ds E (pt pr (.cells #[.int .i64 s.limit, .int .i64 (s.stop : Nat), va] 51 (0, 0)) :: ownS 119 3 va rs.length (rowOf RB.cells rs) :: M) y ks) : TC c fin ds E L y ks :=
 t_turn (X := { x : Value × List RB // RAok s x.2 }) (LL := fun x => raP pr s x.1 ++ M) (fun w hs => let ⟨x, hp, h⟩ := sat_exP.1 (hs.take ht); ⟨⟨x, hp⟩, h⟩) fun x => k x.1.1 x.1.2 x.2
theorem rar_openL {c : Cx} {fin : Exit → Act → World → Prop} {ds : List Deferred} {E : Env} {ks : List KI} {pr : Nat} {s : ArS} {L M : List HP} {ops : Array Oper} {y : List Oper} (ht : Take (rarH pr s) L M) (k : ∀ va rs, RAok s rs → TL c fin ds E (pt pr (.cells #[.int .i64 s.limit, .int .i64 (s.stop : Nat), va] 51 (0, 0)) :: ownS 119 3 va rs.length (rowOf RB.cells rs) :: M) ops y ks) : TL c fin ds E L ops y ks :=
 l_turn (X := { x : Value × List RB // RAok s x.2 }) (LL := fun x => raP pr s x.1 ++ M) (fun w hs => let ⟨x, hp, h⟩ := sat_exP.1 (hs.take ht); ⟨⟨x, hp⟩, h⟩) fun x => k x.1.1 x.1.2 x.2
theorem rar_close {pr n : Nat} {s : ArS} {v : Value} {rs : List RB} {L R : List HP} {lim st : Int} (hp : RAok s rs) (h1 : s.limit = lim) (h2 : ((s.stop : Nat) : Int) = st) (hn : rs.length = n) (he : Ent L (pt pr (.cells #[.int .i64 lim, .int .i64 st, v] 51 (0, 0)) :: ownS 119 3 v n (rowOf RB.cells rs) :: R)) : Ent L (rarH pr s :: R) := by
 subst h1 h2 hn
 exact fun w h => sat_exP.2 ⟨(v, rs), hp, he w h⟩
theorem Class_ok (n : Int) : FnOk Tryz.prog 49 #[.int .i64 n] [] (fun v L => v = .int .i64 (classI n) ∧ L = []) := by
 refine fn_intro en49 Tryz.func49 rfl rfl rfl fun Fr w0 => t_nm ?_
 refine sr<|asg O O<|lc<|t_seq<|sr<|mv O O<|l_q O (qi O O (b_lss ·))<|mv O O<|l_pt (t := 6) rfl (fun h => ?_) fun h => ?_
 ·refine l_off O O O O<|l_off O O O O<|l_q O (q_pk O O)<|lc<|t_cond_t O<|sr<|asg O O<|lc<|rt<|fr1 O ([]) (.tmp rfl) ?_
  exact ⟨by unfold classI; rw [if_pos (.inl h)], rfl⟩
 ·refine l_on O O<|mv O O<|l_on O O<|l_q O (qi O O (b_gtr ·))<|l_q O (q_pk O O)<|lc<|t_if O (fun h2 => ?_) fun h2 => ?_
  ·refine sr<|asg O O<|lc<|rt<|fr1 O ([]) (.tmp rfl) ?_
   exact ⟨by unfold classI; rw [if_pos (.inr h2)], rfl⟩
  ·skip
   have hlast : ∀ e, e ≤ 16 → (∀ j, j < e → 16 * (2 : Int) ^ j < n) → n ≤ 16 * 2 ^ e → twoI n = 16 * 2 ^ e := fun e he hno h => two_hit h he hno
   refine t_skip<|n_code<|t_seq<|sr<|asg O O<|lc<|t_block ?_
   refine t_loop (fun e : Nat => e ≤ 16 ∧ (∀ j, j < e → 16 * (2 : Int) ^ j < n) ∧ (∀ j, j < e → 1 ≤ j → 24 * (2 : Int) ^ j < n)) (fun e => [(0, .int .i64 n), (3, .int .i64 (16 * 2 ^ e))]) (fun _ => Fr) (fun e => 17 - e) 0 ⟨by omega, by omega, by omega⟩ ⟨rfl, rfl, trivial⟩ (Ent.refl _) ?_
   rintro e ⟨he, hno, hmid⟩
   have pe : (2 : Int) ^ (e + 1) = 2 * 2 ^ e := by rw [Int.pow_succ]; omega
   have p0 : (1 : Int) ≤ 2 ^ e := by have := pow_cast e; have := Nat.two_pow_pos e; omega
   have p1 : (2 : Int) ^ e ≤ 65536 := by
    have h1 : 2 ^ e ≤ 2 ^ 16 := Nat.pow_le_pow_right (by decide) (by omega)
    have := pow_cast e
    omega
   have hprev : 2 ≤ e → 24 * (2 : Int) ^ (e - 1) < n ∧ 2 * (2 : Int) ^ (e - 1) = 2 ^ e := fun h2 => ⟨hmid (e - 1) (by omega) (by omega), by rw [show e = (e - 1) + 1 by omega, Int.pow_succ]; simp; omega⟩
   refine t_seq<|sr<|mv O O<|l_q O (qi O O (b_lss ·))<|lc<|t_if O (fun q => ?_) fun q => ?_
   ·skip
    have he16 : e ≤ 15 := by
     rcases Nat.lt_or_ge e 16 with h16 | h16
     ·omega
     ·obtain rfl : e = 16 := by omega
      omega
    refine t_skip<|n_code<|t_seq<|t_block<|t_seq<|sr<|mv O O<|mv O O<|l_q O (qi O O (b_leq ·))<|lc<|t_if O (fun r => ?_) fun r => ?_
    ·skip
     have ht := hlast e he hno (by omega)
     have hcls : classI n = 16 * 2 ^ e := by
      unfold classI
      rw [if_neg (by omega), ht]
      by_cases h2e : 2 ≤ e
      ·have := hprev h2e
       rw [if_neg (by omega)]
      ·have : e = 0 ∨ e = 1 := by omega
       rcases this with rfl | rfl
       ·rw [if_neg (by omega)]
       ·rw [if_neg (by omega)]
     refine sr<|mv O O<|asg O O<|lc<|rt<|fr1 O ([]) (.tmp rfl) ?_
     exact ⟨by rw [hcls], rfl⟩
    ·skip
     have hno' : ∀ j, j < e + 1 → 16 * (2 : Int) ^ j < n := fun j hj => by
      by_cases hje : j = e
      ·subst hje; omega
      ·exact hno j (by omega)
     refine t_skip<|nz<|mv O O<|l_q O (qi O O (b_gtr ·))<|mv O O<|l_pt (t := 20) rfl (fun c1 => ?_) fun c1 => ?_
     ·refine l_on O O<|mv O O<|l_on O O<|mv O O<|l_on O O<|l_q O (qquo O O) ?_
      refine l_on O O<|l_q O (qmul O O) ?_
      refine l_on O O<|l_q O (qi O O (b_leq ·))<|l_q O (q_pk O O)<|lc<|t_if O (fun c2 => ?_) fun c2 => ?_
      ·skip
       have he1 : 1 ≤ e := by
        rcases Nat.eq_zero_or_pos e with h0 | h0
        ·subst h0; omega
        ·omega
       have ht := hlast (e + 1) (by omega) hno' (by omega)
       have hcls : classI n = 24 * 2 ^ e := by
        unfold classI
        rw [if_neg (by omega), ht, if_pos (by omega)]
        omega
       refine sr<|mv O O<|l_q O (qquo O O) ?_
       refine l_q O (qmul O O) ?_
       refine asg O O<|lc<|rt<|fr1 O ([]) (.tmp rfl) ?_
       exact ⟨by rw [hcls]; congr 1; omega, rfl⟩
      ·refine t_skip<|n_blk<|n_code<|t_region<|mv O O<|l_q O (qmul O O) ?_
       refine asg O O<|l_nil ?_
       apply n_again ((e + 1))
       ·exact ⟨by omega, hno', fun j hj h1 => by by_cases hje : j = e; (subst hje; omega); exact hmid j (by omega) h1⟩
       ·omega
       ·exact ⟨rfl, congrArg (fun z => some (Value.int .i64 z)) (by omega), trivial⟩
       ·exact en
     ·refine l_off O O O O<|l_off O O O O<|l_off O O O O<|l_off O O O O<|l_off O O O O<|l_q O (q_pk O O)<|lc<|t_cond_f O<|t_skip<|n_blk<|n_code<|t_region<|mv O O<|l_q O (qmul O O) ?_
      refine asg O O<|l_nil ?_
      apply n_again ((e + 1))
      ·exact ⟨by omega, hno', fun j hj h1 => by by_cases hje : j = e; (subst hje; (have : (2 : Int) * 2 ^ (j - 1) = 2 ^ j := by rw [show j = (j - 1) + 1 by omega, Int.pow_succ]; simp; omega); (have h3 : (1 : Int) ≤ 2 ^ (j - 1) := by have := pow_cast (j - 1); have := Nat.two_pow_pos (j - 1); omega); omega); exact hmid j (by omega) h1⟩
      ·omega
      ·exact ⟨rfl, congrArg (fun z => some (Value.int .i64 z)) (by omega), trivial⟩
      ·exact en
   ·skip
    have he16 : e = 16 := by
     rcases Nat.lt_or_ge e 16 with h16 | h16
     ·exfalso
      have : (2 : Int) ^ e ≤ 32768 := by
       have h1 : 2 ^ e ≤ 2 ^ 15 := Nat.pow_le_pow_right (by decide) (by omega)
       have := pow_cast e
       omega
      omega
     ·omega
    subst he16
    have ht := hlast 16 (by omega) hno (by omega)
    have hm15 := hmid 15 (by omega) (by omega)
    have hcls : classI n = 1048576 := by
     unfold classI
     rw [if_neg (by omega), ht, if_neg (by omega)]
     decide
    refine xt O<|nz<|asg O O<|lc<|rt<|fr1 O ([]) (.tmp rfl) ?_
    exact ⟨by rw [hcls], rfl⟩
section
variable (pr : Nat) (s : ArS) (hs : s.ok)
include hs
theorem RLive_ok : FnOk Tryz.prog 12 #[.pointer (some ⟨pr, 0, none⟩)] [rarH pr s] (fun v L => v = .int .i64 s.live ∧ L = [rarH pr s]) := by
 have hst := hs.stop_eq
 have hsn := ArS.sum_nonneg hs.chain
 have hroom := hs.room
 have hlim := hs.limit
 refine fn_intro en12 Tryz.func12 rfl rfl rfl fun Fr w0 => t_nm ?_
 refine rar_open .here fun va rs hx => ?_
 have hlen := hx.len
 refine t_shape (.there .here) fun _ hva => ?_
 obtain ⟨a0, cap, rfl, ha, _, _⟩ := hva
 refine sr<|asg O O<|lz<|asg O O<|lc<|t_seq<|sr<|asg O O<|lc<|t_block ?_
 refine t_loop (fun i : Nat => i ≤ rs.length) (fun i => [(0, .pointer (some ⟨pr, 0, none⟩)), (3, .int .i64 (liveN s i)), (4, .int .i64 (i : Nat))]) (fun _ => pt pr (.cells #[.int .i64 s.limit, .int .i64 (s.stop : Nat), (.slice a0 rs.length cap)] 51 (0, 0)) :: ownS 119 3 (.slice a0 rs.length cap) rs.length (rowOf RB.cells rs) :: Fr) (fun i => rs.length - i) 0 (Nat.zero_le _) ⟨rfl, rfl, rfl, trivial⟩ (by (exact en)) ?_
 intro i hi
 refine t_seq<|sr<|mv O O<|mv O O<|l_q O (q_nilCheck O)<|l_q O (qfa 2 rfl yU51 O O yS49)<|l_q O (qld O yA49) ?_
 refine l_q O (ql O yU49)<|l_q O (qi O O (b_lss ·))<|lc<|t_if O (fun h => ?_) fun h => ?_
 ·skip
  obtain ⟨g, rfl⟩ := ha (by omega)
  obtain ⟨r, hr⟩ : ∃ r, rs[i]? = some r := ⟨rs[i], List.getElem?_eq_getElem (by omega)⟩
  obtain ⟨hra, hrl⟩ := hx.at hr
  have hln := liveN_next hra
  have hb := liveN_bnd hs i
  have hb1 := liveN_bnd hs (i + 1)
  have hpos := (ArS.chain_pos hs.chain _ (List.mem_of_getElem? hra)).2
  dsimp only at hln hpos
  have hcell : ∀ j v, r.cells[j]? = some v → (rowOf RB.cells rs)[0 + ((i : Nat) : Int).toNat * 3 + j]? = some v := fun j v hv => by
   have hj : j < 3 := by rcases Nat.lt_or_ge j 3 with q | q; exact q; rw [List.getElem?_eq_none (by rw [rb3]; exact q)] at hv; cases hv
   rw [Nat.zero_add, Int.toNat_natCast, rowOf_get rb3 rs i j r hr hj]
   exact hv
  refine t_skip<|n_code<|t_seq<|t_block<|sr<|mv O O<|l_q O (q_nilCheck O)<|l_q O (qfa 2 rfl yU51 O O yS49)<|l_q O (qld O yA49) ?_
  refine mv O O<|l_q O (q_indexAddr O O yU49 yS119 (by omega)) ?_
  refine l_q O (qfa 1 rfl yU119 O O yS4) ?_
  apply l_q O
  ·apply q_loadOwn O yA4
   ·exact tk
   ·exact hcell 1 _ rfl
  refine lc<|t_if O (fun q => ?_) fun q => ?_
  ·skip
   rw [q] at hrl
   have hdd : s.dead r.off = false := by cases hd : s.dead r.off with | false => rfl | true => rw [hd] at hrl; cases hrl
   rw [hdd] at hln
   simp only [Bool.false_eq_true, if_false] at hln
   refine t_region<|mv O O<|mv O O<|l_q O (q_nilCheck O)<|l_q O (qfa 2 rfl yU51 O O yS49)<|l_q O (qld O yA49) ?_
   refine mv O O<|l_q O (q_indexAddr O O yU49 yS119 (by omega)) ?_
   refine l_q O (qfa 2 rfl yU119 O O yS117) ?_
   apply l_q O
   ·apply q_loadOwn O yA117
    ·exact tk
    ·exact hcell 2 _ rfl
   refine l_q O (ql O yU117)<|l_q O (qadd O O) ?_
   refine asg O O<|l_nil<|n_blk<|n_code<|t_region<|mv O O<|l_q O (qadd O O) ?_
   refine asg O O<|l_nil ?_
   apply n_again ((i + 1))
   ·exact by omega
   ·omega
   ·exact ⟨rfl, congrArg (fun z => some (Value.int .i64 z)) (by omega), rfl, trivial⟩
   ·exact en
  ·skip
   have hdd : s.dead r.off = true := by cases hd : s.dead r.off with | true => rfl | false => rw [hd, q] at hrl; cases hrl
   rw [hdd] at hln
   simp only [if_true] at hln
   refine t_skip<|n_blk<|n_code<|t_region<|mv O O<|l_q O (qadd O O) ?_
   refine asg O O<|l_nil ?_
   apply n_again ((i + 1))
   ·exact by omega
   ·omega
   ·exact ⟨rfl, congrArg (fun z => some (Value.int .i64 z)) (by omega), rfl, trivial⟩
   ·exact en
 ·skip
  obtain rfl : i = rs.length := by omega
  have hla := liveN_all s
  rw [← hlen] at hla
  rw [hla]
  refine xt O<|nz<|mv O O<|asg O O<|lc<|rt ?_
  apply f_ret (.inl rfl) ([rarH pr s])
  ·apply res1 O
   ·exact .tmp rfl
  ·exact ⟨rfl, rfl⟩
  ·refine rar_close (v := .slice a0 rs.length cap) hx rfl rfl rfl ?_; (exact en)
theorem rtake_ok (c : Int) (hc : c ∈ classes) (hl : s.live + c ≤ s.limit) : FnOk Tryz.prog 157 #[.pointer (some ⟨pr, 0, none⟩), .int .i64 c] [rarH pr s] (fun v L => v = .int .i64 ((s.at c : Nat) : Int) ∧ L = [rarH pr (s.take c)]) := by
 have hst := hs.stop_eq
 have hsn := ArS.sum_nonneg hs.chain
 have hroom := hs.room
 have hlim := hs.limit
 have hc16 := classes_pos c hc
 refine fn_intro en157 Tryz.func157 rfl rfl rfl fun Fr w0 => t_nm ?_
 refine rar_open .here fun va rs hx => ?_
 have hlen := hx.len
 refine t_shape (.there .here) fun _ hva => ?_
 obtain ⟨a0, cap, rfl, ha, _, _⟩ := hva
 refine sr<|asg O O<|lc<|t_seq<|sr<|asg O O<|lc<|t_block ?_
 refine t_loop (fun i : Nat => i ≤ rs.length ∧ ∀ (j : Nat) (q : Int × Int), j < i → s.all[j]? = some q → ¬ (s.dead q.1 = true ∧ q.2 = c)) (fun i => [(0, .pointer (some ⟨pr, 0, none⟩)), (1, .int .i64 c), (5, .int .i64 (i : Nat))]) (fun _ => pt pr (.cells #[.int .i64 s.limit, .int .i64 (s.stop : Nat), (.slice a0 rs.length cap)] 51 (0, 0)) :: ownS 119 3 (.slice a0 rs.length cap) rs.length (rowOf RB.cells rs) :: Fr) (fun i => rs.length - i) 0 ⟨Nat.zero_le _, fun j q h => by omega⟩ ⟨rfl, rfl, rfl, trivial⟩ (by (exact en)) ?_
 rintro i ⟨hi, hno⟩
 refine t_seq<|sr<|mv O O<|mv O O<|l_q O (q_nilCheck O)<|l_q O (qfa 2 rfl yU51 O O yS49)<|l_q O (qld O yA49) ?_
 refine l_q O (ql O yU49)<|l_q O (qi O O (b_lss ·))<|lc<|t_if O (fun h => ?_) fun h => ?_
 ·skip
  obtain ⟨g, rfl⟩ := ha (by omega)
  obtain ⟨r, hr⟩ : ∃ r, rs[i]? = some r := ⟨rs[i], List.getElem?_eq_getElem (by omega)⟩
  obtain ⟨hra, hrl⟩ := hx.at hr
  have hpos := (ArS.chain_pos hs.chain _ (List.mem_of_getElem? hra)).2
  have hpo := (ArS.chain_pos hs.chain _ (List.mem_of_getElem? hra)).1
  dsimp only at hpos hpo
  have hcell : ∀ j v, r.cells[j]? = some v → (rowOf RB.cells rs)[0 + ((i : Nat) : Int).toNat * 3 + j]? = some v := fun j v hv => by
   have hj : j < 3 := by rcases Nat.lt_or_ge j 3 with q | q; exact q; rw [List.getElem?_eq_none (by rw [rb3]; exact q)] at hv; cases hv
   rw [Nat.zero_add, Int.toNat_natCast, rowOf_get rb3 rs i j r hr hj]
   exact hv
  have hnext : ¬ (s.dead r.off = true ∧ r.c = c) → ∀ (j : Nat) (q : Int × Int), j < i + 1 → s.all[j]? = some q → ¬ (s.dead q.1 = true ∧ q.2 = c) := fun hn j q hj hq => by
   rcases Nat.lt_or_ge j i with q2 | q2
   ·exact hno j q q2 hq
   ·obtain rfl : j = i := by omega
    rw [hra] at hq
    cases hq
    exact hn
  refine t_skip<|n_code<|t_seq<|t_block<|sr<|mv O O<|l_q O (q_nilCheck O)<|l_q O (qfa 2 rfl yU51 O O yS49)<|l_q O (qld O yA49) ?_
  refine mv O O<|l_q O (q_indexAddr O O yU49 yS119 (by omega)) ?_
  refine l_q O (qfa 1 rfl yU119 O O yS4) ?_
  apply l_q O
  ·apply q_loadOwn O yA4
   ·exact tk
   ·exact hcell 1 _ rfl
  refine l_q O (q_un O (u_not ·))<|mv O O<|l_pt (t := 25) rfl (fun z1 => ?_) fun z1 => ?_
  ·skip
   have hdd : s.dead r.off = true := by cases hd : s.dead r.off with | true => rfl | false => rw [hd] at hrl; simp [hrl] at z1
   refine l_on O O<|mv O O<|l_on O O<|l_q O (q_nilCheck O)<|l_on O O<|l_q O (qfa 2 rfl yU51 O O yS49)<|l_on O O<|l_q O (qld O yA49) ?_
   refine l_on O O<|mv O O<|l_on O O<|l_q O (q_indexAddr O O yU49 yS119 (by omega)) ?_
   refine l_on O O<|l_q O (qfa 2 rfl yU119 O O yS117)<|l_on O O ?_
   apply l_q O
   ·apply q_loadOwn O yA117
    ·exact tk
    ·exact hcell 2 _ rfl
   refine l_on O O<|l_q O (ql O yU117)<|l_on O O<|mv O O<|l_on O O<|l_q O (qi O O (b_eql ·))<|l_q O (q_pk O O)<|lc<|t_if O (fun z2 => ?_) fun z2 => ?_
   ·skip
    obtain rfl : r.c = c := by omega
    obtain ⟨l', hfr⟩ := fr_first hra hdd rfl hno
    obtain ⟨_, hat, _, _, h16⟩ := take_cons hs hfr
    have hset1 : (rowOf RB.cells rs).set (0 + ((i : Nat) : Int).toNat * 3 + 1) (.bool true) = rowOf RB.cells (rs.set i { r with live := true }) := by
     rw [Nat.zero_add, Int.toNat_natCast]
     exact rowOf_set rb3 (by decide) rs i r hr rfl
    have hr2 : (rs.set i { r with live := true })[i]? = some { r with live := true } := by rw [List.getElem?_set]; simp; omega
    have hset2 : ∀ b, (rowOf RB.cells (rs.set i { r with live := true })).set (0 + ((i : Nat) : Int).toNat * 3 + 2) (.slice (some ⟨b, 0, none⟩) r.c.toNat r.c.toNat) = rowOf RB.cells ((rs.set i { r with live := true }).set i ⟨r.off, true, r.c, b⟩) := fun b => by
     rw [Nat.zero_add, Int.toNat_natCast]
     exact rowOf_set rb3 (by decide) _ i _ hr2 rfl
    have hcell2 : ∀ b, (rowOf RB.cells ((rs.set i { r with live := true }).set i ⟨r.off, true, r.c, b⟩))[0 + ((i : Nat) : Int).toNat * 3 + 0]? = some (.int .i64 r.off) := fun b => by
     rw [Nat.zero_add, Int.toNat_natCast, rowOf_get rb3 _ i 0 ⟨r.off, true, r.c, b⟩ (by rw [List.getElem?_set]; simp; omega) (by decide)]
     rfl
    refine sr<|mv O O<|l_q O (q_nilCheck O)<|l_q O (qfa 2 rfl yU51 O O yS49)<|l_q O (qld O yA49) ?_
    refine mv O O<|l_q O (q_indexAddr O O yU49 yS119 (by omega)) ?_
    refine l_q O (qfa 1 rfl yU119 O O yS4) ?_
    refine o_storeOwn O O O yS4 O tk (by omega) hset1 ?_
    refine lc<|t_seq<|t_draw mixed ?_
    apply dq 0 rfl
    ·exact yq (q_move O)
    apply dq 1 rfl
    ·exact yq (q_nilCheck O)
    apply dq 2 rfl
    ·exact yq (qfa 2 rfl yU51 O O yS49)
    apply dq 3 rfl
    ·exact yq (qld O yA49)
    apply dq 4 rfl
    ·exact yq (q_move O)
    apply dq 5 rfl
    ·exact yq (q_move O)
    refine d_eff1 [5] [4, 3, 2, 1, 0] 6 [(50, _)] gO ⟨rfl, trivial⟩ (by kernel_rfl) (by kernel_rfl) fun Ex => ?_
    apply o_makeSlice1 O O O yU117 yI5 O (by omega) (by omega)
    intro b51
    refine l_nil ?_
    apply n_d
    ·refine ⟨?_, ?_, ?_, ?_, ?_, trivial⟩
     ·apply ya O O; exact yq (q_move O)
     ·apply ya O O; exact yq (qld O yA49)
     ·apply ya O O; exact yq (qfa 2 rfl yU51 O O yS49)
     ·apply ya O O; exact yq (q_nilCheck O)
     ·apply ya O O; exact yq (q_move O)
    apply dq 7 rfl
    ·exact yq (q_indexAddr O O yU49 yS119 (by omega))
    apply dq 8 rfl
    ·exact yq (qfa 2 rfl yU119 O O yS117)
    refine d_eff1 [8, 0, 1, 2, 3, 4, 7] [] 9 [(53, _), (51, _)] gO ⟨rfl, rfl, trivial⟩ (by kernel_rfl) (by kernel_rfl) fun Ex => ?_
    refine o_storeOwn O O O yS117 O tk (by omega) (hset2 b51) ?_
    refine l_nil ?_
    apply n_d
    ·exact trivial
    refine d_end (by kernel_rfl) ?_
    refine nz<|mv O O<|l_q O (q_nilCheck O)<|l_q O (qfa 2 rfl yU51 O O yS49)<|l_q O (qld O yA49) ?_
    refine mv O O<|l_q O (q_indexAddr O O yU49 yS119 (by omega)) ?_
    refine l_q O (qfa 0 rfl yU119 O O yS3) ?_
    apply l_q O
    ·apply q_loadOwn O yA3
     ·exact tk
     ·exact hcell2 b51
    refine asg O O<|lc<|rt ?_
    apply f_ret (.inl rfl) ([rarH pr (s.take r.c)])
    ·apply res1 O
     ·exact .tmp rfl
    ·exact ⟨by rw [hat, Int.toNat_of_nonneg (by omega)], rfl⟩
    ·refine rar_close (v := .slice (some ⟨g, 0, none⟩) rs.length cap) (n := rs.length) (hx.revive hs hr hfr b51) (take_limit hs) (by rw [stop_old hs hfr]) (by simp) ?_; rw [show rs.set i ⟨r.off, true, r.c, b51⟩ = (rs.set i { r with live := true }).set i ⟨r.off, true, r.c, b51⟩ from by rw [List.set_set]]; (exact en)
   ·refine t_skip<|n_blk<|n_code<|t_region<|mv O O<|l_q O (qadd O O) ?_
    refine asg O O<|l_nil ?_
    apply n_again ((i + 1))
    ·exact ⟨by omega, hnext (by omega)⟩
    ·omega
    ·exact ⟨rfl, rfl, rfl, trivial⟩
    ·exact en
  ·skip
   have hdd : s.dead r.off = false := by cases hd : s.dead r.off with | false => rfl | true => rw [hd] at hrl; simp [hrl] at z1
   refine l_off O O O O<|l_off O O O O<|l_off O O O O<|l_off O O O O<|l_off O O O O<|l_off O O O O<|l_off O O O O<|l_off O O O O<|l_off O O O O<|l_off O O O O<|l_off O O O O<|l_q O (q_pk O O)<|lc<|t_cond_f O<|t_skip<|n_blk<|n_code<|t_region<|mv O O<|l_q O (qadd O O) ?_
   refine asg O O<|l_nil ?_
   apply n_again ((i + 1))
   ·exact ⟨by omega, hnext (by rw [hdd]; simp)⟩
   ·omega
   ·exact ⟨rfl, rfl, rfl, trivial⟩
   ·exact en
 ·skip
  obtain rfl : i = rs.length := by omega
  have hfr : s.frL c = [] := fr_none fun j q hq => hno j q (by rcases Nat.lt_or_ge j rs.length with q2 | q2; exact q2; rw [List.getElem?_eq_none (by omega)] at hq; cases hq) hq
  have hat := (take_nil hs hfr).2
  refine xt O<|nz<|mv O O<|l_q O (q_nilCheck O)<|l_q O (qfa 1 rfl yU51 O O yS3)<|l_q O (qld O yA3) ?_
  refine asg O O<|lc<|t_seq<|t_draw mixed ?_
  apply dq 0 rfl
  ·exact yq (q_move O)
  apply dq 1 rfl
  ·exact yq (q_move O)
  apply dq 2 rfl
  ·exact yq (q_nilCheck O)
  apply dq 3 rfl
  ·exact yq (qfa 2 rfl yU51 O O yS49)
  apply dq 4 rfl
  ·exact yq (qld O yA49)
  apply dq 5 rfl
  ·exact yq (q_move O)
  apply dq 6 rfl
  ·exact yq (q_move O)
  refine d_eff1 [6] [5, 4, 3, 2, 1, 0] 7 [(72, _)] gO ⟨rfl, trivial⟩ (by kernel_rfl) (by kernel_rfl) fun Ex => ?_
  apply o_makeSlice1 O O O yU117 yI5 O (by omega) (by omega)
  intro b73
  refine l_nil ?_
  apply n_d
  ·refine ⟨?_, ?_, ?_, ?_, ?_, ?_, trivial⟩
   ·apply ya O O; exact yq (q_move O)
   ·apply ya O O; exact yq (qld O yA49)
   ·apply ya O O; exact yq (qfa 2 rfl yU51 O O yS49)
   ·apply ya O O; exact yq (q_nilCheck O)
   ·apply ya O O; exact yq (q_move O)
   ·apply ya O O; exact yq (q_move O)
  apply dq 8 rfl
  ·apply yq
   apply q_buildS O yP119 yZ119
   ·apply FillR.one
    ·repeat (first | exact PlAt.here | apply PlAt.there)
    ·rfl
    ·exact sa
    apply FillR.one
    ·repeat (first | exact PlAt.here | apply PlAt.there)
    ·rfl
    ·exact sa
    apply FillR.one
    ·repeat (first | exact PlAt.here | apply PlAt.there)
    ·rfl
    ·exact sa
    exact FillR.nil
  refine d_eff1 [8, 5] [4, 3, 2, 1, 0] 9 [(74, _)] gO ⟨rfl, trivial⟩ (by kernel_rfl) (by kernel_rfl) fun Ex => ?_
  refine o_buildSlice (us := [_]) rfl rfl yU49 yS119 yZ119 O O O O O (fun b75 => ?_)
  refine l_nil ?_
  apply n_d
  ·refine ⟨?_, ?_, ?_, ?_, ?_, trivial⟩
   ·apply ya O O; exact yq (qld O yA49)
   ·apply ya O O; exact yq (qfa 2 rfl yU51 O O yS49)
   ·apply ya O O; exact yq (q_nilCheck O)
   ·apply ya O O; exact yq (q_move O)
   ·apply ya O O; exact yq (q_move O)
  refine d_eff1 [4, 3, 2, 1] [0] 10 [(70, _), (75, _)] gO ⟨rfl, rfl, trivial⟩ (by kernel_rfl) (by kernel_rfl) fun Ex => ?_
  apply o_append (sz := 3) rfl rfl rfl yU49 yI119 O O
  ·exact tk
  ·exact tk
  ·rfl
  ·rfl
  ·simp only [maxLen]; omega
  ·omega
  intro v76
  refine l_shape (v := v76) tk fun _ hs76 => ?_
  obtain ⟨a76, cap76, rfl, hs76, _, _⟩ := hs76
  refine l_nil ?_
  apply n_d
  ·refine ⟨?_, trivial⟩
   ·apply ya O O; exact yq (q_move O)
  apply dq 11 rfl
  ·exact yq (q_nilCheck O)
  apply dq 12 rfl
  ·exact yq (qfa 2 rfl yU51 O O yS49)
  refine d_eff1 [12, 0, 11] [] 13 [(78, _), (76, _)] gO ⟨rfl, rfl, trivial⟩ (by kernel_rfl) (by kernel_rfl) fun Ex => ?_
  refine st O O O yS49 O ?_
  refine l_nil ?_
  apply n_d
  ·exact trivial
  refine d_end (by kernel_rfl) ?_
  refine nz<|mv O O<|mv O O<|mv O O<|l_q O (qadd O O) ?_
  refine l_q O (q_nilCheck O)<|l_q O (qfa 1 rfl yU51 O O yS3)<|st O O O yS3 O ?_
  refine lz<|mv O O<|asg O O<|lc<|rt ?_
  apply f_ret (.inl rfl) ([rarH pr (s.take c)])
  ·apply res1 O
   ·exact .tmp rfl
  ·exact ⟨by rw [hat], rfl⟩
  ·rw [show rowOf RB.cells rs ++ ([Value.agg #[.int .i64 (s.stop : Nat), .bool true, .slice (some ⟨b73, 0, none⟩) c.toNat c.toNat]].flatMap fun x => x.cells.toList).toArray.toList = rowOf RB.cells (rs ++ [⟨((s.stop : Nat) : Int), true, c, b73⟩]) from by rw [rowOf_app]; rfl]; refine rar_close (v := .slice a76 (rs.length + 1) cap76) (n := rs.length + 1) (hx.new hs hfr b73) (take_limit hs) (stop_new hs (by omega) hfr) (by simp) ?_; (exact en)
/-- Where a live block stands in the list. -/
theorem rfind_ok (o : Int) : FnOk Tryz.prog 154 #[.pointer (some ⟨pr, 0, none⟩), .int .i64 o] [rarH pr s] (fun v L => ((∃ i c, i < s.all.length ∧ s.all[i]? = some (o, c) ∧ s.dead o = false ∧ v = .int .i64 (i : Nat)) ∨ ((∀ c, (o, c) ∉ s.bl) ∧ v = .int .i64 (-1))) ∧ L = [rarH pr s]) := by
 have hst := hs.stop_eq
 have hsn := ArS.sum_nonneg hs.chain
 refine fn_intro en154 Tryz.func154 rfl rfl rfl fun Fr w0 => t_nm ?_
 refine rar_open .here fun va rs hx => ?_
 have hlen := hx.len
 refine t_shape (.there .here) fun _ hva => ?_
 obtain ⟨a0, cap, rfl, ha, _, _⟩ := hva
 refine sr<|asg O O<|lc<|t_seq<|sr<|asg O O<|lc<|t_block ?_
 refine t_loop (fun i : Nat => i ≤ rs.length ∧ ∀ (j : Nat) (q : Int × Int), j < i → s.all[j]? = some q → ¬ (s.dead q.1 = false ∧ q.1 = o)) (fun i => [(0, .pointer (some ⟨pr, 0, none⟩)), (1, .int .i64 o), (5, .int .i64 (i : Nat))]) (fun _ => pt pr (.cells #[.int .i64 s.limit, .int .i64 (s.stop : Nat), (.slice a0 rs.length cap)] 51 (0, 0)) :: ownS 119 3 (.slice a0 rs.length cap) rs.length (rowOf RB.cells rs) :: Fr) (fun i => rs.length - i) 0 ⟨Nat.zero_le _, fun j q h => by omega⟩ ⟨rfl, rfl, rfl, trivial⟩ (by (exact en)) ?_
 rintro i ⟨hi, hno⟩
 refine t_seq<|sr<|mv O O<|mv O O<|l_q O (q_nilCheck O)<|l_q O (qfa 2 rfl yU51 O O yS49)<|l_q O (qld O yA49) ?_
 refine l_q O (ql O yU49)<|l_q O (qi O O (b_lss ·))<|lc<|t_if O (fun h => ?_) fun h => ?_
 ·skip
  obtain ⟨g, rfl⟩ := ha (by omega)
  obtain ⟨r, hr⟩ : ∃ r, rs[i]? = some r := ⟨rs[i], List.getElem?_eq_getElem (by omega)⟩
  obtain ⟨hra, hrl⟩ := hx.at hr
  have hpos := (ArS.chain_pos hs.chain _ (List.mem_of_getElem? hra)).2
  have hpo := (ArS.chain_pos hs.chain _ (List.mem_of_getElem? hra)).1
  dsimp only at hpos hpo
  have hcell : ∀ j v, r.cells[j]? = some v → (rowOf RB.cells rs)[0 + ((i : Nat) : Int).toNat * 3 + j]? = some v := fun j v hv => by
   have hj : j < 3 := by rcases Nat.lt_or_ge j 3 with q | q; exact q; rw [List.getElem?_eq_none (by rw [rb3]; exact q)] at hv; cases hv
   rw [Nat.zero_add, Int.toNat_natCast, rowOf_get rb3 rs i j r hr hj]
   exact hv
  have hnext : ¬ (s.dead r.off = false ∧ r.off = o) → ∀ (j : Nat) (q : Int × Int), j < i + 1 → s.all[j]? = some q → ¬ (s.dead q.1 = false ∧ q.1 = o) := fun hn j q hj hq => by
   rcases Nat.lt_or_ge j i with q2 | q2
   ·exact hno j q q2 hq
   ·obtain rfl : j = i := by omega
    rw [hra] at hq
    cases hq
    exact hn
  refine t_skip<|n_code<|t_seq<|t_block<|sr<|mv O O<|l_q O (q_nilCheck O)<|l_q O (qfa 2 rfl yU51 O O yS49)<|l_q O (qld O yA49) ?_
  refine mv O O<|l_q O (q_indexAddr O O yU49 yS119 (by omega)) ?_
  refine l_q O (qfa 1 rfl yU119 O O yS4) ?_
  apply l_q O
  ·apply q_loadOwn O yA4
   ·exact tk
   ·exact hcell 1 _ rfl
  refine mv O O<|l_pt (t := 23) rfl (fun z1 => ?_) fun z1 => ?_
  ·skip
   have hdd : s.dead r.off = false := by cases hd : s.dead r.off with | false => rfl | true => rw [hd, z1] at hrl; cases hrl
   refine l_on O O<|mv O O<|l_on O O<|l_q O (q_nilCheck O)<|l_on O O<|l_q O (qfa 2 rfl yU51 O O yS49)<|l_on O O<|l_q O (qld O yA49) ?_
   refine l_on O O<|mv O O<|l_on O O<|l_q O (q_indexAddr O O yU49 yS119 (by omega)) ?_
   refine l_on O O<|l_q O (qfa 0 rfl yU119 O O yS3)<|l_on O O ?_
   apply l_q O
   ·apply q_loadOwn O yA3
    ·exact tk
    ·exact hcell 0 _ rfl
   refine l_on O O<|mv O O<|l_on O O<|l_q O (qi O O (b_eql ·))<|l_q O (q_pk O O)<|lc<|t_if O (fun z2 => ?_) fun z2 => ?_
   ·skip
    obtain rfl : r.off = o := by omega
    refine sr<|mv O O<|asg O O<|lc<|rt ?_
    apply f_ret (.inl rfl) ([rarH pr s])
    ·apply res1 O
     ·exact .tmp rfl
    ·exact ⟨.inl ⟨i, r.c, by omega, hra, hdd, rfl⟩, rfl⟩
    ·refine rar_close (v := .slice (some ⟨g, 0, none⟩) rs.length cap) hx rfl rfl rfl ?_; (exact en)
   ·refine t_skip<|n_blk<|n_code<|t_region<|mv O O<|l_q O (qadd O O) ?_
    refine asg O O<|l_nil ?_
    apply n_again ((i + 1))
    ·exact ⟨by omega, hnext (by omega)⟩
    ·omega
    ·exact ⟨rfl, rfl, rfl, trivial⟩
    ·exact en
  ·skip
   have hdd : s.dead r.off = true := by cases hd : s.dead r.off with | true => rfl | false => rw [hd, z1] at hrl; cases hrl
   refine l_off O O O O<|l_off O O O O<|l_off O O O O<|l_off O O O O<|l_off O O O O<|l_off O O O O<|l_off O O O O<|l_off O O O O<|l_off O O O O<|l_off O O O O<|l_q O (q_pk O O)<|lc<|t_cond_f O<|t_skip<|n_blk<|n_code<|t_region<|mv O O<|l_q O (qadd O O) ?_
   refine asg O O<|l_nil ?_
   apply n_again ((i + 1))
   ·exact ⟨by omega, hnext (by rw [hdd]; simp)⟩
   ·omega
   ·exact ⟨rfl, rfl, rfl, trivial⟩
   ·exact en
 ·skip
  obtain rfl : i = rs.length := by omega
  have hnb : ∀ c, (o, c) ∉ s.bl := fun c hc => by
   obtain ⟨h1, h2⟩ := mem_bl.1 hc
   obtain ⟨j, hj, he⟩ := List.getElem_of_mem h1
   exact hno j (o, c) (by omega) (by rw [List.getElem?_eq_getElem hj, he]) ⟨h2, rfl⟩
  refine xt O<|nz<|asg O O<|lc<|rt ?_
  apply f_ret (.inl rfl) ([rarH pr s])
  ·apply res1 O
   ·exact .tmp rfl
  ·exact ⟨.inr ⟨hnb, rfl⟩, rfl⟩
  ·refine rar_close (v := .slice a0 rs.length cap) hx rfl rfl rfl ?_; (exact en)
theorem RAllocAll_ok (p k : Nat) (ns : List Int) (hk : ns.length = k) (hkb : k ≤ 1000) :
  FnOk Tryz.prog 74 #[.pointer (some ⟨pr, 0, none⟩), .slice (some ⟨p, 0, none⟩) k k] [pt p (.cells (ints ns).toArray 3 (0, 0)), rarH pr s] (fun v L =>
   ((∃ n ∈ ns, n < 1) ∧ v = .tuple #[.slice none 0 0, .int .i64 21] ∧ L = [rarH pr s]) ∨
   ((∀ n ∈ ns, 1 ≤ n) ∧ ((∃ n ∈ ns, 1048576 < n) ∨ s.limit - s.live < sumC ns) ∧ v = .tuple #[.slice none 0 0, .int .i64 22] ∧ L = [rarH pr s]) ∨
   ((∀ n ∈ ns, 1 ≤ n ∧ n ≤ 1048576) ∧ s.live + sumC ns ≤ s.limit ∧ ∃ vo, v = .tuple #[vo, .int .i64 0] ∧ L = [ownS 3 1 vo k (ints (s.offs ns)), rarH pr (s.takes ns)])) := by
 subst hk
 have hst := hs.stop_eq
 have hlim := hs.limit
 refine fn_intro en74 Tryz.func74 rfl rfl rfl fun Fr w0 => t_nm ?_
 refine sr<|asg O O<|asg O O<|lc<|t_seq<|sr<|asg O O<|lc<|t_block ?_
 refine t_loop (fun j : Nat => j ≤ ns.length ∧ ∀ n ∈ ns.take j, 1 ≤ n) (fun j => [(0, .pointer (some ⟨pr, 0, none⟩)), (1, .slice (some ⟨p, 0, none⟩) ns.length ns.length), (6, .int .i64 (j : Nat))]) (fun _ => pt p (.cells (ints ns).toArray 3 (0, 0)) :: rarH pr s :: Fr) (fun j => ns.length - j) 0 ⟨Nat.zero_le _, by simp⟩ ⟨rfl, rfl, rfl, trivial⟩ (by (exact en)) ?_
 rintro j ⟨hj, hpos⟩
 refine t_seq<|sr<|mv O O<|mv O O<|l_q O (ql O yU22)<|l_q O (qi O O (b_lss ·))<|lc<|t_if O (fun h => ?_) fun h => ?_
 ·skip
  have hjl : j < ns.length := by omega
  refine t_skip<|n_code<|t_seq<|t_block<|sr<|mv O O<|mv O O<|l_q O (q_indexAddr1 O O yU22 yS3 (by omega)) ?_
  apply l_q O
  ·apply q_load O yA3
   ·exact tk
   ·rw [Nat.zero_add, Int.toNat_natCast]; simp [ints, hjl]; rfl
  refine l_q O (qi O O (b_lss ·))<|lc<|t_if O (fun q => ?_) fun q => ?_
  ·exact sr<|asg O O<|asg O O<|lc<|rt<|fr2 O ([rarH pr s]) (.tmp rfl) (.tmp rfl) (.inl ⟨⟨ns[j], List.getElem_mem hjl, q⟩, rfl, rfl⟩)
  ·refine t_skip<|n_blk<|n_code<|t_region<|mv O O<|l_q O (qadd O O) ?_
   refine asg O O<|l_nil ?_
   apply n_again ((j + 1))
   ·exact ⟨by omega, fun n hn => by rw [List.take_succ_eq_append_getElem hjl] at hn; rcases List.mem_append.1 hn with q2 | q2; exact hpos n q2; rw [List.mem_singleton.1 q2]; omega⟩
   ·omega
   ·exact ⟨rfl, rfl, rfl, trivial⟩
   ·exact en
 ·skip
  obtain rfl : j = ns.length := by omega
  rw [List.take_length] at hpos
  refine xt O<|nz<|mv O O<|lc1 O O O (RLive_ok pr s hs) ?_
  refine asg O O<|lc<|t_seq<|sr<|asg O O<|lc<|t_block ?_
  have hnn := fun j => sumC_nn (ns := ns.take j) fun n hn => hpos n (List.mem_of_mem_take hn)
  have hroom := hs.room
  refine t_loop (fun j : Nat => j ≤ ns.length ∧ (∀ n ∈ ns.take j, n ≤ 1048576) ∧ s.live + sumC (ns.take j) ≤ s.limit) (fun j => [(0, .pointer (some ⟨pr, 0, none⟩)), (1, .slice (some ⟨p, 0, none⟩) ns.length ns.length), (7, .int .i64 (s.live + sumC (ns.take j))), (8, .int .i64 (j : Nat))]) (fun _ => pt p (.cells (ints ns).toArray 3 (0, 0)) :: rarH pr s :: Fr) (fun j => ns.length - j) 0 ⟨Nat.zero_le _, by simp, by simp [sumC]; omega⟩ ⟨rfl, rfl, by simp [sumC]; rfl, rfl, trivial⟩ (by (exact en)) ?_
  rintro j ⟨hj, hsm, hsu⟩
  have hnj0 := hnn j
  refine t_seq<|sr<|mv O O<|mv O O<|l_q O (ql O yU22)<|l_q O (qi O O (b_lss ·))<|lc<|t_if O (fun h => ?_) fun h => ?_
  ·skip
   have hjl : j < ns.length := by omega
   have hnj := hpos ns[j] (List.getElem_mem hjl)
   have hcj := classI_bnd hnj
   have hsj : sumC (ns.take (j + 1)) = sumC (ns.take j) + classI ns[j] := by rw [take_next hjl, sumC_app]
   have hsp := sumC_split hjl
   have hs2 := (sumC_nn (ns := ns.drop (j + 1)) fun n hm => hpos n (List.mem_of_mem_drop hm)).1
   refine t_ent (L' := rarH pr s :: pt p (.cells (ints ns).toArray 3 (0, 0)) :: Fr) (by (exact en)) ?_
   refine rar_open .here fun va rs hx => ?_
   refine t_skip<|n_code<|t_seq<|t_block<|sr<|mv O O<|mv O O<|l_q O (q_indexAddr1 O O yU22 yS3 (by omega)) ?_
   apply l_q O
   ·apply q_load O yA3
    ·exact tk
    ·rw [Nat.zero_add, Int.toNat_natCast]; simp [ints, hjl]; rfl
   refine lc1 O O O (Class_ok ns[j]) ?_
   refine asg O O<|lc<|t_seq<|sr<|mv O O<|l_q O (qi O O (b_eql ·))<|mv O O<|l_pt (t := 40) rfl (fun z1 => ?_) fun z1 => ?_
   ·skip
    have hbig : 1048576 < ns[j] := by
     rcases Int.lt_or_le 1048576 ns[j] with q | q
     ·exact q
     ·have := hcj.2.2 q; omega
    refine l_off O O O O<|l_off O O O O<|l_off O O O O<|l_off O O O O<|l_off O O O O<|l_off O O O O<|l_off O O O O<|l_off O O O O<|l_q O (q_pk O O)<|lc<|t_cond_t O<|sr<|asg O O<|asg O O<|lc<|rt ?_
    apply f_ret (.inl rfl) ([rarH pr s])
    ·apply res2 O
     ·exact .tmp rfl
     ·exact .tmp rfl
    ·exact .inr (.inl ⟨hpos, .inl ⟨_, List.getElem_mem hjl, hbig⟩, rfl, rfl⟩)
    ·refine rar_close (v := va) (n := rs.length) hx rfl rfl rfl ?_; (exact en)
   ·refine l_on O O<|mv O O<|l_on O O<|mv O O<|l_on O O<|l_q O (q_nilCheck O)<|l_on O O<|l_q O (qfa 0 rfl yU51 O O yS3)<|l_on O O<|l_q O (qld O yA3) ?_
    refine l_on O O<|mv O O<|l_on O O<|l_q O (qsub O O) ?_
    refine l_on O O<|l_q O (qi O O (b_gtr ·))<|l_q O (q_pk O O)<|lc<|t_if O (fun z2 => ?_) fun z2 => ?_
    ·refine sr<|asg O O<|asg O O<|lc<|rt ?_
     apply f_ret (.inl rfl) ([rarH pr s])
     ·apply res2 O
      ·exact .tmp rfl
      ·exact .tmp rfl
     ·exact .inr (.inl ⟨hpos, .inr (by omega), rfl, rfl⟩)
     ·refine rar_close (v := va) (n := rs.length) hx rfl rfl rfl ?_; (exact en)
    ·skip
     have hsmall : ns[j] ≤ 1048576 := by
      rcases Int.lt_or_le 1048576 ns[j] with q | q
      ·have : classI ns[j] = 0 := by unfold classI; rw [if_pos (.inr q)]
       exact absurd this z1
      ·exact q
     have hsm' : ∀ n ∈ ns.take (j + 1), n ≤ 1048576 := fun n hn => by
      rw [take_next hjl] at hn
      rcases List.mem_append.1 hn with q2 | q2
      ·exact hsm n q2
      ·rw [List.mem_singleton.1 q2]; exact hsmall
     refine t_turn (X := Unit) (LL := fun _ => rarH pr s :: pt p (.cells (ints ns).toArray 3 (0, 0)) :: Fr) (fun w hs => ⟨(), rar_close (v := va) (n := rs.length) hx rfl rfl rfl (by (exact en)) w hs⟩) fun _ => ?_
     refine t_skip<|n_code<|t_region<|mv O O<|mv O O<|l_q O (qadd O O) ?_
     refine asg O O<|l_nil<|n_blk<|n_code<|t_region<|mv O O<|l_q O (qadd O O) ?_
     refine asg O O<|l_nil ?_
     apply n_again ((j + 1))
     ·exact ⟨by omega, hsm', by omega⟩
     ·omega
     ·exact ⟨rfl, rfl, congrArg (fun z => some (Value.int .i64 z)) (by omega), rfl, trivial⟩
     ·exact en
  ·skip
   obtain rfl : j = ns.length := by omega
   rw [List.take_length] at hsm hsu
   refine xt O<|nz<|asg O O<|lc<|t_seq<|sr<|asg O O<|lc<|t_block ?_
   refine t_loop (fun x : Nat × Value => x.1 ≤ ns.length) (fun x => [(0, .pointer (some ⟨pr, 0, none⟩)), (1, .slice (some ⟨p, 0, none⟩) ns.length ns.length), (10, x.2), (11, .int .i64 (x.1 : Nat))]) (fun x => ownS 3 1 x.2 x.1 (ints (s.offs (ns.take x.1))) :: rarH pr (s.takes (ns.take x.1)) :: pt p (.cells (ints ns).toArray 3 (0, 0)) :: Fr) (fun x => ns.length - x.1) (0, .slice none 0 0) (Nat.zero_le _) ⟨rfl, rfl, rfl, rfl, trivial⟩ (fun w h => own_nil (h.perm (by simp; exact List.Perm.swap _ _ _))) ?_
   rintro ⟨j, v10⟩ hj
   dsimp only at hj ⊢
   refine t_seq<|sr<|mv O O<|mv O O<|l_q O (ql O yU22)<|l_q O (qi O O (b_lss ·))<|lc<|t_if O (fun h3 => ?_) fun h3 => ?_
   ·skip
    have hjl : j < ns.length := by omega
    have hnj := hpos ns[j] (List.getElem_mem hjl)
    have hcj := (classI_bnd hnj).2.2 (hsm _ (List.getElem_mem hjl))
    have hsp := sumC_split hjl
    have et : (s.takes (ns.take j)).take (classI ns[j]) = s.takes (ns.take (j + 1)) := by rw [take_next hjl, takes_app]
    have eo : ints (s.offs (ns.take j)) ++ #[Value.int .i64 (((s.takes (ns.take j)).at (classI ns[j]) : Nat) : Int)].toList = ints (s.offs (ns.take (j + 1))) := by rw [take_next hjl, offs_app]; simp [ints]
    have hs2 := (sumC_nn (ns := ns.drop (j + 1)) fun n hm => hpos n (List.mem_of_mem_drop hm)).1
    have htk := takes_ok (ns := ns.take j) hs (fun n hm => ⟨hpos n (List.mem_of_mem_take hm), hsm n (List.mem_of_mem_take hm)⟩) (by omega)
    refine t_skip<|n_code<|t_seq<|t_block<|sr<|mv O O<|mv O O<|l_q O (q_indexAddr1 O O yU22 yS3 (by omega)) ?_
    apply l_q O
    ·apply q_load O yA3
     ·exact tk
     ·rw [Nat.zero_add, Int.toNat_natCast]; simp [ints, hjl]; rfl
    refine lc1 O O O (Class_ok ns[j]) ?_
    refine asg O O<|lz<|mv O O<|mv O O ?_
    refine lc1 O O O (rtake_ok pr (s.takes (ns.take j)) htk.1 (classI ns[j]) (class_mem hnj (hsm _ (List.getElem_mem hjl))) (by rw [htk.2.1, htk.2.2]; omega)) ?_
    refine asg O O<|lr<|mv O O<|mv O O ?_
    refine o_buildSlice1 [_] rfl rfl yU22 yS3 yZ3 O O O O (fun b69 => ?_)
    apply o_append (sz := 1) rfl rfl rfl yU22 yI3 O O
    ·exact tk
    ·exact tk
    ·rfl
    ·rfl
    ·simp only [maxLen]; omega
    ·omega
    intro v70
    refine asg O O<|l_nil<|n_blk<|n_code<|t_region<|mv O O<|l_q O (qadd O O) ?_
    refine asg O O<|l_nil ?_
    rw [et, eo]
    apply n_again ((j + 1, v70))
    ·exact (show j + 1 ≤ ns.length by omega)
    ·dsimp only; omega
    ·exact ⟨rfl, rfl, rfl, rfl, trivial⟩
    ·exact en
   ·refine xt O<|nz<|mv O O<|asg O O<|asg O O<|lc<|rt ?_
    obtain rfl : j = ns.length := by omega
    rw [List.take_length]
    exact fr2 O ([ownS 3 1 v10 ns.length (ints (s.offs ns)), rarH pr (s.takes ns)]) (.tmp rfl) (.tmp rfl) (.inr (.inr ⟨fun n hn => ⟨hpos n hn, hsm n hn⟩, hsu, _, rfl, rfl⟩))
theorem RAllocAll1 (p : Nat) (n : Int) : FnOk Tryz.prog 74 #[.pointer (some ⟨pr, 0, none⟩), .slice (some ⟨p, 0, none⟩) 1 1] [pt p (.cells #[.int .i64 n] 3 (0, 0)), rarH pr s] (fun v L =>
   (n < 1 ∧ v = .tuple #[.slice none 0 0, .int .i64 21] ∧ L = [rarH pr s]) ∨
   (1 ≤ n ∧ (1048576 < n ∨ s.limit - s.live < classI n) ∧ v = .tuple #[.slice none 0 0, .int .i64 22] ∧ L = [rarH pr s]) ∨
   (1 ≤ n ∧ n ≤ 1048576 ∧ s.live + classI n ≤ s.limit ∧ ∃ vo, v = .tuple #[vo, .int .i64 0] ∧ L = [ownS 3 1 vo 1 [.int .i64 ((s.at (classI n) : Nat) : Int)], rarH pr (s.take (classI n))])) :=
 (RAllocAll_ok pr s hs p 1 [n] rfl (by decide)).mono fun v L h => by
  rcases h with ⟨h1, h2, h3⟩ | ⟨h1, h2, h3, h4⟩ | ⟨h1, h2, h3⟩
  ·exact .inl ⟨by simpa using h1, h2, h3⟩
  ·exact .inr (.inl ⟨by simpa using h1, by simpa [sumC] using h2, h3, h4⟩)
  ·have h4 := h1 n (by simp)
   exact .inr (.inr ⟨h4.1, h4.2, by simpa [sumC] using h2, h3⟩)
theorem RAllocAll2 (p : Nat) (a b : Int) (ha : 1 ≤ a) (hb : 1 ≤ b) : FnOk Tryz.prog 74 #[.pointer (some ⟨pr, 0, none⟩), .slice (some ⟨p, 0, none⟩) 2 2] [pt p (.cells #[.int .i64 a, .int .i64 b] 3 (0, 0)), rarH pr s] (fun v L =>
   ((1048576 < a ∨ 1048576 < b ∨ s.limit - s.live < classI a + classI b) ∧ v = .tuple #[.slice none 0 0, .int .i64 22] ∧ L = [rarH pr s]) ∨
   (a ≤ 1048576 ∧ b ≤ 1048576 ∧ s.live + (classI a + classI b) ≤ s.limit ∧ ∃ vo, v = .tuple #[vo, .int .i64 0] ∧ L = [ownS 3 1 vo 2 [.int .i64 ((s.at (classI a) : Nat) : Int), .int .i64 (((s.take (classI a)).at (classI b) : Nat) : Int)], rarH pr ((s.take (classI a)).take (classI b))])) :=
 (RAllocAll_ok pr s hs p 2 [a, b] rfl (by decide)).mono fun v L h => by
  rcases h with ⟨⟨n, h1, h11⟩, h2, h3⟩ | ⟨h1, h2, h3, h4⟩ | ⟨h1, h2, h3⟩
  ·simp at h1; omega
  ·exact .inl ⟨by simpa [sumC, or_assoc] using h2, h3, h4⟩
  ·exact .inr ⟨(h1 a (by simp)).2, (h1 b (by simp)).2, by simpa [sumC] using h2, h3⟩
theorem RAlloc_ok (n : Int) : FnOk Tryz.prog 31 #[.pointer (some ⟨pr, 0, none⟩), .int .i64 n] [rarH pr s] (fun v L =>
   (n < 1 ∧ v = .tuple #[.int .i64 0, .int .i64 21] ∧ L = [rarH pr s]) ∨
   (1 ≤ n ∧ (1048576 < n ∨ s.limit - s.live < classI n) ∧ v = .tuple #[.int .i64 0, .int .i64 22] ∧ L = [rarH pr s]) ∨
   (1 ≤ n ∧ n ≤ 1048576 ∧ s.live + classI n ≤ s.limit ∧ v = .tuple #[.int .i64 (s.at (classI n) : Nat), .int .i64 0] ∧ L = [rarH pr (s.take (classI n))])) := by
 refine fn_intro en31 Tryz.func31 rfl rfl rfl fun Fr w0 => t_nm ?_
 refine sr<|asg O O<|asg O O<|lz<|mv O O<|mv O O ?_
 refine o_buildSlice1 [_] rfl rfl yU22 yS3 yZ3 O O O O (fun b11 => ?_)
 refine lcf O O O (RAllocAll1 pr s hs b11 n) ?_
 rintro v L' (⟨hb, rfl, rfl⟩ | ⟨h1, hb, rfl, rfl⟩ | ⟨h1, h2, hb, vo, rfl, rfl⟩)
 refine l_nm ?_
 ·skip
  refine mv O O<|l_q O (q_extractL O ga) ?_
  refine l_q O (q_extractL O ga) ?_
  refine asg O O<|asg O O<|lc<|t_seq<|sr<|mv O O<|l_q O (qi O O (b_neq ·))<|lc<|t_if O (fun z => ?_) fun z => ?_
  ·exact sr<|mv O O<|asg O O<|asg O O<|lc<|rt<|fr2 O ([rarH pr s]) (.tmp rfl) (.tmp rfl) (.inl ⟨hb, rfl, rfl⟩)
  ·exact absurd z (by decide)
 ·skip
  refine mv O O<|l_q O (q_extractL O ga) ?_
  refine l_q O (q_extractL O ga) ?_
  refine asg O O<|asg O O<|lc<|t_seq<|sr<|mv O O<|l_q O (qi O O (b_neq ·))<|lc<|t_if O (fun z => ?_) fun z => ?_
  ·exact sr<|mv O O<|asg O O<|asg O O<|lc<|rt<|fr2 O ([rarH pr s]) (.tmp rfl) (.tmp rfl) (.inr (.inl ⟨h1, hb, rfl, rfl⟩))
  ·exact absurd z (by decide)
 ·skip
  refine l_nm ?_
  refine l_shape (.here) fun _ hsh => ?_
  obtain ⟨a8, c8, rfl, ha8, _, _⟩ := hsh
  obtain ⟨g8, rfl⟩ := ha8 (by decide)
  refine mv O O<|l_q O (q_extractL O ga) ?_
  refine l_q O (q_extractL O ga) ?_
  refine asg O O<|asg O O<|lc<|t_seq<|sr<|mv O O<|l_q O (qi O O (b_neq ·))<|lc<|t_if O (fun z => ?_) fun z => ?_
  ·exact absurd rfl z
  ·refine t_skip<|nz<|mv O O ?_
   first | refine l_q O (q_indexAddrC 0 rfl rfl yU22 yS3 (by omega)) ?_ | refine l_q O (q_indexAddr1 O O yU22 yS3 (by omega)) ?_
   apply l_q O
   ·apply q_loadOwn O yA3
    ·exact tk
    ·exact rfl
   exact asg O O<|asg O O<|lc<|rt<|fr2 O ([rarH pr (s.take (classI n))]) (.tmp rfl) (.tmp rfl) (.inr (.inr ⟨h1, h2, hb, rfl, rfl⟩))
omit hs in
theorem gives_okN : ∀ {os : List Int} {s : ArS}, s.ok → os.Nodup → (∀ o ∈ os, ∃ c, (o, c) ∈ s.bl) → (s.gives os).ok
 | [], s, hs, _, _ => hs
 | o :: r, s, hs, hn, hlv => by
  rw [List.nodup_cons] at hn
  obtain ⟨c, hc⟩ := hlv o List.mem_cons_self
  refine gives_okN (os := r) (s := s.give o) (give_ok hs hc) hn.2 fun o' ho' => ?_
  obtain ⟨c', hc'⟩ := hlv o' (List.mem_cons_of_mem _ ho')
  exact ⟨c', (give_bl hs hc).2 ⟨hc', fun e => by rw [Prod.mk.injEq] at e; exact hn.1 (e.1 ▸ ho')⟩⟩
/-- Live blocks given back. -/
theorem RFree_ok (p k : Nat) (os : List Int) (hk : os.length = k) (hkb : k ≤ 1000) (hnd : os.Nodup) (hlv : ∀ o ∈ os, ∃ c, (o, c) ∈ s.bl) :
  FnOk Tryz.prog 166 #[.pointer (some ⟨pr, 0, none⟩), .slice (some ⟨p, 0, none⟩) k k] [pt p (.cells (ints os).toArray 3 (0, 0)), rarH pr s] (fun v L => v = .int .i64 0 ∧ L = [rarH pr (s.gives os)]) := by
 subst hk
 refine fn_intro en166 Tryz.func166 rfl rfl rfl fun Fr w0 => t_nm ?_
 refine sr<|asg O O<|lc<|t_seq<|sr<|asg O O<|lc<|t_block ?_
 refine t_loop (fun j : Nat => j ≤ os.length) (fun j => [(0, .pointer (some ⟨pr, 0, none⟩)), (1, .slice (some ⟨p, 0, none⟩) os.length os.length), (5, .int .i64 (j : Nat))]) (fun _ => pt p (.cells (ints os).toArray 3 (0, 0)) :: rarH pr s :: Fr) (fun j => os.length - j) 0 (Nat.zero_le _) ⟨rfl, rfl, rfl, trivial⟩ (by (exact en)) ?_
 rintro j hj
 refine t_seq<|sr<|mv O O<|mv O O<|l_q O (ql O yU22)<|l_q O (qi O O (b_lss ·))<|lc<|t_if O (fun h => ?_) fun h => ?_
 ·skip
  have hjl : j < os.length := by omega
  obtain ⟨c0, hc0⟩ := hlv os[j] (List.getElem_mem hjl)
  refine t_skip<|n_code<|t_seq<|t_block<|sr<|mv O O<|mv O O<|mv O O<|l_q O (q_indexAddr1 O O yU22 yS3 (by omega)) ?_
  apply l_q O
  ·apply q_load O yA3
   ·exact tk
   ·rw [Nat.zero_add, Int.toNat_natCast]; simp [ints, hjl]; rfl
  refine lcf O O O (rfind_ok pr s hs os[j]) ?_
  rintro v L' ⟨⟨i, c, hi, hia, hid, rfl⟩ | ⟨hno, rfl⟩, rfl⟩
  refine l_nm ?_
  ·skip
   refine asg O O<|lc<|t_seq<|sr<|mv O O<|l_q O (qi O O (b_lss ·))<|lc<|t_if O (fun z => ?_) fun z => ?_
   ·omega
   ·refine t_skip<|nz<|asg O O<|lc<|t_block ?_
    refine t_loop (fun i : Nat => i ≤ j) (fun i => [(0, .pointer (some ⟨pr, 0, none⟩)), (1, .slice (some ⟨p, 0, none⟩) os.length os.length), (5, .int .i64 (j : Nat)), (7, .int .i64 (i : Nat))]) (fun _ => pt p (.cells (ints os).toArray 3 (0, 0)) :: rarH pr s :: Fr) (fun i => j - i) 0 (Nat.zero_le _) ⟨rfl, rfl, rfl, rfl, trivial⟩ (by (exact en)) ?_
    rintro i hi2
    refine t_seq<|sr<|mv O O<|mv O O<|l_q O (qi O O (b_lss ·))<|lc<|t_if O (fun h2 => ?_) fun h2 => ?_
    ·skip
     have hil : i < os.length := by omega
     refine t_skip<|n_code<|t_seq<|t_block<|t_seq<|t_draw mixed ?_
     apply dq 0 rfl
     ·exact yq (q_move O)
     apply dq 1 rfl
     ·exact yq (q_move O)
     apply dq 2 rfl
     ·exact yq (q_indexAddr1 O O yU22 yS3 (by omega))
     apply dq 3 rfl
     ·apply yq
      apply q_load O yA3
      ·exact tk
      ·rw [Nat.zero_add, Int.toNat_natCast]; simp [ints, hil]; rfl
     apply dq 4 rfl
     ·exact yq (q_move O)
     apply dq 5 rfl
     ·exact yq (q_move O)
     apply dq 6 rfl
     ·exact yq (q_indexAddr1 O O yU22 yS3 (by omega))
     apply dq 7 rfl
     ·apply yq
      apply q_load O yA3
      ·exact tk
      ·rw [Nat.zero_add, Int.toNat_natCast]; simp [ints, hjl]; rfl
     apply dq 8 rfl
     ·exact yq (qi O O (b_eql ·))
     refine d_end (by kernel_rfl) ?_
     refine n_code<|t_if O (fun h3 => ?_) fun h3 => ?_
     ·exact absurd ((List.getElem_inj hnd).1 h3) (by omega)
     ·refine t_skip<|n_blk<|n_code<|t_region<|mv O O<|l_q O (qadd O O) ?_
      refine asg O O<|l_nil ?_
      apply n_again ((i + 1))
      ·exact by omega
      ·omega
      ·exact ⟨rfl, rfl, rfl, rfl, trivial⟩
      ·exact en
    ·refine xt O<|n_blk<|n_code<|t_region<|mv O O<|l_q O (qadd O O) ?_
     refine asg O O<|l_nil ?_
     apply n_again ((j + 1))
     ·exact by omega
     ·omega
     ·exact ⟨rfl, rfl, rfl, trivial⟩
     ·exact en
  ·exact absurd hc0 (hno c0)
 ·skip
  obtain rfl : j = os.length := by omega
  refine xt O<|n_code<|t_seq<|sr<|asg O O<|lc<|t_block ?_
  refine t_loop (fun j : Nat => j ≤ os.length) (fun j => [(0, .pointer (some ⟨pr, 0, none⟩)), (1, .slice (some ⟨p, 0, none⟩) os.length os.length), (8, .int .i64 (j : Nat))]) (fun j => pt p (.cells (ints os).toArray 3 (0, 0)) :: rarH pr (s.gives (os.take j)) :: Fr) (fun j => os.length - j) 0 (Nat.zero_le _) ⟨rfl, rfl, rfl, trivial⟩ (by (exact en)) ?_
  rintro j hj
  refine t_seq<|sr<|mv O O<|mv O O<|l_q O (ql O yU22)<|l_q O (qi O O (b_lss ·))<|lc<|t_if O (fun h2 => ?_) fun h2 => ?_
  ·skip
   have hjl : j < os.length := by omega
   obtain ⟨c0, hc0⟩ := hlv os[j] (List.getElem_mem hjl)
   have hokj : (s.gives (os.take j)).ok := gives_okN hs (hnd.sublist (List.take_sublist _ _)) fun o ho => hlv o (List.mem_of_mem_take ho)
   have hnin : os[j] ∉ os.take j := fun hm => by
    obtain ⟨k, hk, he⟩ := List.getElem_of_mem hm
    rw [List.length_take] at hk
    rw [List.getElem_take] at he
    exact absurd ((List.getElem_inj hnd).1 he) (by omega)
   have hlj : (os[j], c0) ∈ (s.gives (os.take j)).bl := gives_bl.2 ⟨hc0, hnin⟩
   have eg : (s.gives (os.take j)).give os[j] = s.gives (os.take (j + 1)) := by rw [List.take_succ_eq_append_getElem hjl, gives_app]
   refine t_skip<|n_code<|t_seq<|t_block<|sr<|mv O O<|mv O O<|mv O O<|l_q O (q_indexAddr1 O O yU22 yS3 (by omega)) ?_
   apply l_q O
   ·apply q_load O yA3
    ·exact tk
    ·rw [Nat.zero_add, Int.toNat_natCast]; simp [ints, hjl]; rfl
   refine lcf O O O (rfind_ok pr (s.gives (os.take j)) hokj os[j]) ?_
   rintro v L' ⟨⟨i, c, hi, hia, hid, rfl⟩ | ⟨hno, rfl⟩, rfl⟩
   refine l_nm ?_
   ·skip
    refine rar_openL .here fun va rs hx => ?_
    have hlen := hx.len
    refine l_shape (.there .here) fun _ hva => ?_
    obtain ⟨a0, cap, rfl, ha, _, _⟩ := hva
    obtain ⟨g, rfl⟩ := ha (by omega)
    obtain ⟨r, hr⟩ : ∃ r, rs[i]? = some r := ⟨rs[i], List.getElem?_eq_getElem (by omega)⟩
    have hra := (hx.at hr).1
    rw [hia] at hra
    have hro : r.off = os[j] := by have := Option.some.inj hra; rw [Prod.mk.injEq] at this; exact this.1.symm
    have hset : (rowOf RB.cells rs).set (0 + ((i : Nat) : Int).toNat * 3 + 1) (.bool false) = rowOf RB.cells (rs.set i ⟨os[j], false, r.c, r.b⟩) := by
     rw [Nat.zero_add, Int.toNat_natCast]
     exact rowOf_set rb3 (by decide) rs i r hr (by rw [← hro]; rfl)
    have hgv := hx.give hokj hr
    rw [hro, eg] at hgv
    refine asg O O<|lr<|mv O O<|l_q O (q_nilCheck O)<|l_q O (qfa 2 rfl yU51 O O yS49)<|l_q O (qld O yA49) ?_
    refine mv O O<|l_q O (q_indexAddr O O yU49 yS119 (by omega)) ?_
    refine l_q O (qfa 1 rfl yU119 O O yS4) ?_
    refine o_storeOwn O O O yS4 O tk (by omega) hset ?_
    refine l_nil<|n_blk<|n_code<|t_region<|mv O O<|l_q O (qadd O O) ?_
    refine asg O O<|l_nil ?_
    refine n_ent (L' := rarH pr (s.gives (os.take (j + 1))) :: pt p (.cells (ints os).toArray 3 (0, 0)) :: Fr) (rar_close (v := .slice (some ⟨g, 0, none⟩) rs.length cap) (n := rs.length) (lim := (s.gives (os.take j)).limit) (st := (((s.gives (os.take j)).stop : Nat) : Int)) hgv (by rw [(gives_m _ _).2, (gives_m _ _).2]) (by unfold ArS.stop; rw [gives_all, gives_all]) (by simp) (by (exact en))) ?_
    apply n_again ((j + 1))
    ·exact by omega
    ·omega
    ·exact ⟨rfl, rfl, rfl, trivial⟩
    ·exact en
   ·exact absurd hlj (hno c0)
  ·skip
   obtain rfl : j = os.length := by omega
   rw [List.take_length]
   exact xt O<|nz<|asg O O<|lc<|rt<|fr1 O ([rarH pr (s.gives os)]) (.tmp rfl) ⟨rfl, rfl⟩
theorem RFree2_ok (p : Nat) (a b : Int) (hab : a ≠ b) (h1 : ∃ c, (a, c) ∈ s.bl) (h2 : ∃ c, (b, c) ∈ s.bl) : FnOk Tryz.prog 166 #[.pointer (some ⟨pr, 0, none⟩), .slice (some ⟨p, 0, none⟩) 2 2] [pt p (.cells #[.int .i64 a, .int .i64 b] 3 (0, 0)), rarH pr s] (fun v L => v = .int .i64 0 ∧ L = [rarH pr (s.gives [a, b])]) :=
 RFree_ok pr s hs p 2 [a, b] rfl (by decide) (by simp [hab]) (by intro o ho; simp at ho; rcases ho with rfl | rfl; exact h1; exact h2)
end
theorem RNew_ok (limit : Int) : FnOk Tryz.prog 27 #[.int .i64 limit] [] (fun v L => ((limit < 0 ∨ 2097152 < limit) ∧ v = .tuple #[.pointer none, .int .i64 20] ∧ L = []) ∨ (0 ≤ limit ∧ limit ≤ 2097152 ∧ ∃ pr, v = .tuple #[.pointer (some ⟨pr, 0, none⟩), .int .i64 0] ∧ L = [rarH pr (ArS.new limit)])) := by
 refine fn_intro en27 Tryz.func27 rfl rfl rfl fun Fr w0 => t_nm ?_
 refine sr<|asg O O<|asg O O<|lc<|t_seq<|sr<|mv O O<|l_q O (qi O O (b_lss ·))<|mv O O<|l_pt (t := 6) rfl (fun h => ?_) fun h => ?_
 ·exact l_off O O O O<|l_off O O O O<|l_q O (q_pk O O)<|lc<|t_cond_t O<|sr<|asg O O<|asg O O<|lc<|rt<|fr2 O ([]) (.tmp rfl) (.tmp rfl) (.inl ⟨.inl h, rfl, rfl⟩)
 ·refine l_on O O<|mv O O<|l_on O O<|l_q O (qi O O (b_gtr ·))<|l_q O (q_pk O O)<|lc<|t_if O (fun h2 => ?_) fun h2 => ?_
  ·exact sr<|asg O O<|asg O O<|lc<|rt<|fr2 O ([]) (.tmp rfl) (.tmp rfl) (.inl ⟨.inr h2, rfl, rfl⟩)
  ·refine t_skip<|nz<|mv O O ?_
   apply l_q O
   ·apply q_buildS O yP51 yZ51
    ·apply FillR.one
     ·repeat (first | exact PlAt.here | apply PlAt.there)
     ·rfl
     ·exact sa
     apply FillR.one
     ·repeat (first | exact PlAt.here | apply PlAt.there)
     ·rfl
     ·exact sa
     exact FillR.nil
   refine o_boxA O O fun b12 => asg O O<|asg O O<|lc<|rt ?_
   apply f_ret (.inl rfl) ([rarH b12 (ArS.new limit)])
   ·apply res2 O
    ·exact .tmp rfl
    ·exact .tmp rfl
   ·exact .inr ⟨by omega, by omega, _, rfl, rfl⟩
   ·refine rar_close (v := .slice none 0 0) (rs := []) (n := 0) ⟨rfl, fun r hr => (by cases hr)⟩ rfl rfl rfl (fun w h => (own_nil (e := 119) (sz := 3) h).perm (List.Perm.swap _ _ _))
end Go.Proofs.YthkajgkagnenbaaGreatDoor.RefA
