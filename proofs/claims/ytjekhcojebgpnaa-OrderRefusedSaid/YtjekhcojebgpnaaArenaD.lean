import Derived.Test.YtjekhcojebgpnaaEngStr
import Derived.Test.YtjekhcojebgpnaaInsert
import Derived.Test.YtjekhcojebgpnaaArenaW
section
/- The logic's rules for rows whose elements are of several cells. No program. -/
set_option linter.unusedVariables false
set_option linter.unusedSimpArgs false
namespace Go.Proofs.Ytjekhcojebgpnaa.Eng
open Go.RowKit

/-- Where a slice's tail begins, its elements of n cells. -/
def tailN (n o l cap : Nat) : Nat := if cap = l then o else o + l * n
section
variable {c : Cx} {fin : Exit → Act → World → Prop} {ds : List Deferred} {E : Env} {L : List HP} {ks : List KI} {ops : Array Oper} {rest : List Oper}
variable {d : Option Tmp} {ty : TypeId} {pos : String} {af : Array Edge} {gd : Option (Nat × Bool)}

end
theorem reads_nil {L : List HP} {a : Addr} : Reads L a [] := fun w hs j v hv => by simp at hv
/-- A cell of a row. -/
theorem own_cell {e : TypeId} {sz g n cap o : Nat} {xs : List Value} {v : Value} (hv : xs[o]? = some v) : CellAt (ownS e sz (.slice (some ⟨g, 0, none⟩) n cap) n xs) ⟨g, o, none⟩ v := fun w hs => by
 have hs' : Sat (stars (ownS e sz (.slice (some ⟨g, 0, none⟩) n cap) n xs :: [])) w := by
  obtain ⟨f, hi, ha⟩ := hs
  exact ⟨f, hi, f, Part.none, ha, rfl, Part.disj_none _, (Part.join_none _).symm⟩
 obtain ⟨cur, _, c2, _, _, _, hsat⟩ := own_open hs'
 have hg := hsat.block (b := g) .here
 have := own_at c2 hv
 simp [World.cell?, hg, this]
/-- A list's row: each element's cells, one after the other. -/
def rowOf {A : Type} (f : A → List Value) (xs : List A) : List Value := xs.flatMap f
theorem rowOf_len {A : Type} {f : A → List Value} {sz : Nat} (hf : ∀ a, (f a).length = sz) (xs : List A) : (rowOf f xs).length = xs.length * sz := by
 induction xs with
 | nil => simp [rowOf]
 | cons a xs ih =>
  have : rowOf f (a :: xs) = f a ++ rowOf f xs := by simp [rowOf]
  rw [this, List.length_append, ih, hf, List.length_cons, Nat.add_mul]; omega
theorem rowOf_get {A : Type} {f : A → List Value} {sz : Nat} (hf : ∀ a, (f a).length = sz) : ∀ (xs : List A) (i j : Nat) (a : A), xs[i]? = some a → j < sz → (rowOf f xs)[i * sz + j]? = (f a)[j]?
 | [], i, j, a, h, _ => by simp at h
 | b :: xs, 0, j, a, h, hj => by
  simp at h; subst h
  have : rowOf f (b :: xs) = f b ++ rowOf f xs := by simp [rowOf]
  rw [this, Nat.zero_mul, Nat.zero_add, List.getElem?_append_left (by rw [hf]; exact hj)]
 | b :: xs, i + 1, j, a, h, hj => by
  have : rowOf f (b :: xs) = f b ++ rowOf f xs := by simp [rowOf]
  rw [this, List.getElem?_append_right (by rw [hf, Nat.add_mul]; omega), hf, show (i + 1) * sz + j - sz = i * sz + j by rw [Nat.add_mul]; omega]
  exact rowOf_get hf xs i j a (by simpa using h) hj
theorem rowOf_app {A : Type} (f : A → List Value) (xs ys : List A) : rowOf f (xs ++ ys) = rowOf f xs ++ rowOf f ys := by simp [rowOf]
theorem rowOf_drop {A : Type} {f : A → List Value} {sz : Nat} (hf : ∀ a, (f a).length = sz) : ∀ (xs : List A) (i : Nat), i ≤ xs.length → (rowOf f xs).drop (i * sz) = rowOf f (xs.drop i)
 | xs, 0, _ => by simp
 | [], i + 1, h => by simp at h
 | b :: xs, i + 1, h => by
  have : rowOf f (b :: xs) = f b ++ rowOf f xs := by simp [rowOf]
  rw [this, List.drop_append, List.drop_eq_nil_of_le (by rw [hf, Nat.add_mul]; omega), hf, List.nil_append, show (i + 1) * sz - sz = i * sz by rw [Nat.add_mul]; omega]
  simpa using rowOf_drop hf xs i (by simpa using h)
theorem rowOf_take {A : Type} {f : A → List Value} {sz : Nat} (hf : ∀ a, (f a).length = sz) : ∀ (xs : List A) (i : Nat), i ≤ xs.length → (rowOf f xs).take (i * sz) = rowOf f (xs.take i)
 | xs, 0, _ => by simp [rowOf]
 | [], i + 1, h => by simp at h
 | b :: xs, i + 1, h => by
  have : rowOf f (b :: xs) = f b ++ rowOf f xs := by simp [rowOf]
  have h2 : rowOf f ((b :: xs).take (i + 1)) = f b ++ rowOf f (xs.take i) := by simp [rowOf]
  rw [this, h2, List.take_append, List.take_of_length_le (by rw [hf, Nat.add_mul]; omega), hf, show (i + 1) * sz - sz = i * sz by rw [Nat.add_mul]; omega, rowOf_take hf xs i (by simpa using h)]
theorem rowOf_set {A : Type} {f : A → List Value} {sz : Nat} (hf : ∀ a, (f a).length = sz) {a' : A} {v : Value} {j : Nat} (hj : j < sz) : ∀ (xs : List A) (i : Nat) (a : A), xs[i]? = some a → f a' = (f a).set j v → (rowOf f xs).set (i * sz + j) v = rowOf f (xs.set i a')
 | [], i, a, h, _ => by simp at h
 | b :: xs, 0, a, h, he => by
  simp at h; subst h
  have : rowOf f (b :: xs) = f b ++ rowOf f xs := by simp [rowOf]
  have h2 : rowOf f ((b :: xs).set 0 a') = f a' ++ rowOf f xs := by simp [rowOf]
  rw [this, h2, Nat.zero_mul, Nat.zero_add, List.set_append_left _ _ (by rw [hf]; exact hj), he]
 | b :: xs, i + 1, a, h, he => by
  have : rowOf f (b :: xs) = f b ++ rowOf f xs := by simp [rowOf]
  have h2 : rowOf f ((b :: xs).set (i + 1) a') = f b ++ rowOf f (xs.set i a') := by simp [rowOf]
  rw [this, h2, List.set_append_right _ _ (by rw [hf, Nat.add_mul]; omega), hf, show (i + 1) * sz + j - sz = i * sz + j by rw [Nat.add_mul]; omega, rowOf_set hf hj xs i a (by simpa using h) he]
theorem rowOf_one {A : Type} {f : A → List Value} (hf : ∀ a, (f a).all (·.oneCell') = true) (xs : List A) : (rowOf f xs).all (·.oneCell') = true := by
 rw [List.all_eq_true]
 intro v hv
 obtain ⟨a, _, h⟩ := List.mem_flatMap.1 hv
 exact List.all_eq_true.1 (hf a) v h
/-- Strings laid one behind the other. -/
theorem b_addS {P : Program} {t : TypeId} (w : World) {a b : ByteArray} (h : a.size + b.size ≤ 9223372036854775807) : (binOp .add t (.string a) (.string b)).run P w = .ok (.string (a ++ b)) w := by
 have : ¬ (((a.size + b.size : Nat) : Int) > IntKind.i64.max) := by show ¬ (_ > (9223372036854775807 : Int)); omega
 simp only [binOp, Op.stringOp]
 rw [if_neg this]; rfl
end Go.Proofs.Ytjekhcojebgpnaa.Eng
end
section
/- The logic's rules for writing an element of several cells into a row, and for a new row of such elements. No program. -/
set_option linter.unusedVariables false
set_option linter.unusedSimpArgs false
namespace Go.Proofs.Ytjekhcojebgpnaa.Eng
open Go.RowKit

section
variable {c : Cx} {fin : Exit → Act → World → Prop} {ds : List Deferred} {E : Env} {L : List HP} {ks : List KI} {ops : Array Oper} {rest : List Oper}
variable {d : Option Tmp} {ty : TypeId} {pos : String} {af : Array Edge}
end
end Go.Proofs.Ytjekhcojebgpnaa.Eng
end
section
/- Contracts of package arena: loads where nothing lies; writes out of a slice with room behind it. -/
set_option linter.unusedVariables false
set_option linter.unusedSimpArgs false
set_option maxRecDepth 100000
namespace Go.Proofs.Ytjekhcojebgpnaa.Arena
open Go.RowKit Go.Proofs Go.Proofs.Ytjekhcojebgpnaa.Eng Go.Proofs.Ytjekhcojebgpnaa.Ty Go.Proofs.Ytjekhcojebgpnaa.Bits Go.Proofs.Ytjekhcojebgpnaa.Mem Go.Proofs.Ytjekhcojebgpnaa.Search
theorem strs_at {ss : List ByteArray} {j : Nat} (h : j < ss.length) : (strs ss)[j]? = some (.string ss[j]) := by simp [strs, h]
theorem WriteO_ok (pa : Nat) (s : ArS) (p k kc off : Nat) (offI : Int) (ss : List ByteArray) (ho : offI = (off : Nat)) (hk : ss.length = k) (hk1 : 1 ≤ k) (hkb : k ≤ 1000) (hg : goodP s offI (totS ss)) :
  FnOk Try.prog 57 #[.pointer (some ⟨pa, 0, none⟩), .int .i64 offI, .slice (some ⟨p, 0, none⟩) k kc] [ownS 9 1 (.slice (some ⟨p, 0, none⟩) k kc) k (strs ss), arenaH pa s]
   (fun r L => r = .int .i64 0 ∧ L = [arenaH pa (s.put off (totS ss) (catM ss))]) := by
 subst ho
 refine fn_intro en57 Try.func57 rfl rfl rfl fun Fr w0 => t_nm ?_
 refine t_pure (φ := s.ok) (fun w hw => arena_ok hw (.there .here)) fun hok0 => ?_
 have hge := goodP.end_le hok0 hg
 have hst0 := hok0.stop_eq
 refine sr<|asg O O<|lz<|asg O O<|lz<|mv O O<|l_q O (ql O yU123) ?_
 apply o_makeSlice1 O O O yU137 yI63 O (by omega) (by omega)
 intro b13
 refine asg O O<|lc<|t_seq<|sr<|mv O O<|l_q O (ql O yU123)<|mv O O<|lc<|t_block ?_
 refine t_ent (L' := bytesAll [] [] :: ownS 63 1 (.slice (some ⟨b13, 0, none⟩) 0 k) 0 [] :: ownS 9 1 (.slice (some ⟨p, 0, none⟩) k kc) k (strs ss) :: arenaH pa s :: Fr) ?_ ?_
 ·refine (Ent.trans (M := ownS 63 1 (.slice (some ⟨b13, 0, none⟩) 0 k) 0 [] :: ownS 9 1 (.slice (some ⟨p, 0, none⟩) k kc) k (strs ss) :: arenaH pa s :: Fr) ?_ bytesAll_nil)
  have e : (Int.toNat ((k : Nat) : Int)) = k := Int.toNat_natCast k
  first | exact Ent.refl _ | (simp only [Int.toNat_natCast]; exact Ent.refl _)
 refine t_loop (fun x : Nat × List Value × Value => x.1 ≤ k ∧ x.2.1.length = x.1) (fun x => [(0, .pointer (some ⟨pa, 0, none⟩)), (1, .int .i64 off), (7, .int .i64 (totS (ss.take x.1) : Nat)), (8, x.2.2), (14, .slice (some ⟨p, 0, none⟩) k kc), (15, .int .i64 k), (16, .int .i64 x.1)]) (fun x => bytesAll x.2.1 (ss.take x.1) :: ownS 63 1 x.2.2 x.1 x.2.1 :: ownS 9 1 (.slice (some ⟨p, 0, none⟩) k kc) k (strs ss) :: arenaH pa s :: Fr) (fun x => k - x.1) (0, [], .slice (some ⟨b13, 0, none⟩) 0 k) ⟨by omega, rfl⟩ ⟨rfl, rfl, rfl, rfl, rfl, rfl, rfl, trivial⟩ (Ent.refl _) ?_
 rintro ⟨j, vs, v8⟩ ⟨hj, hvl⟩
 dsimp only at hj hvl ⊢
 have hle := tot_le ss (j + 1)
 refine sr<|l_q O (qi O O (b_lss ·))<|lc<|t_seq<|t_if O (fun h => ?_) fun h => ?_
 ·have hjl : j < ss.length := by omega
  have htt := tot_take (List.getElem?_eq_getElem hjl)
  refine t_skip<|n_code<|t_seq<|t_block<|sr<|l_q O (q_indexAddr1 O O yU123 yS9 (by omega)) ?_
  apply l_q O
  ·apply q_loadOwn O yA9
   ·exact tk
   ·rw [Nat.zero_add, Int.toNat_natCast]; exact strs_at hjl
  refine asg O O<|lz<|mv O O<|mv O O<|l_q O (qls O yU9)<|l_q O (qadd O O) ?_
  refine asg O O<|lr<|mv O O<|mv O O ?_
  refine o_strBytes O O yU9 yU63 yU5 (fun b26 cap26 => ?_)
  refine o_buildSlice1 [_] rfl rfl yU137 yS63 yZ63 rfl rfl rfl rfl (fun b27 => ?_)
  apply o_append (sz := 1) rfl rfl rfl yU137 yI63 rfl rfl
  ·exact tk
  ·exact tk
  ·rfl
  ·rfl
  ·simp only [maxLen]; omega
  ·omega
  intro v28
  refine asg O O<|l_nil<|n_blk<|n_code<|t_region<|l_q O (qadd O O) ?_
  refine mv O O<|l_nil ?_
  refine n_ent (L' := bytesAll (vs ++ [.slice (some ⟨b26, 0, none⟩) ss[j].size cap26]) (ss.take j ++ [ss[j]]) :: ownS 63 1 v28 (j + 1) (vs ++ [.slice (some ⟨b26, 0, none⟩) ss[j].size cap26]) :: ownS 9 1 (.slice (some ⟨p, 0, none⟩) k kc) k (strs ss) :: arenaH pa s :: Fr) ?_ ?_
  ·refine Ent.trans (M := byteS (.slice (some ⟨b26, 0, none⟩) ss[j].size cap26) ss[j] :: bytesAll vs (ss.take j) :: ownS 63 1 v28 (j + 1) (vs ++ [.slice (some ⟨b26, 0, none⟩) ss[j].size cap26]) :: ownS 9 1 (.slice (some ⟨p, 0, none⟩) k kc) k (strs ss) :: arenaH pa s :: Fr) ?_ (bytesAll_add (by simp [hvl]; omega))
   (exact en)
  rw [← take_next hjl]
  apply n_again ((j + 1, vs ++ [.slice (some ⟨b26, 0, none⟩) ss[j].size cap26], v28))
  ·exact ⟨by dsimp only; omega, by simp [hvl]⟩
  ·dsimp only; omega
  ·exact ⟨rfl, rfl, by dsimp only; rw [htt, Int.natCast_add]; rfl, rfl, rfl, rfl, rfl, trivial⟩
  ·exact en
 ·refine xt O<|n_code<|t_seq<|sr<|mv O O<|mv O O<|mv O O ?_
  have hjk : j = ss.length := by omega
  subst hjk
  rw [List.take_length]
  refine lcf O O O (good_ok pa s hg.ne off (totS ss)) ?_
  rintro v' L' ⟨⟨q, rfl, hq⟩, rfl⟩
  refine l_nm ?_
  refine l_q O (q_un O (u_not ·))<|lc<|t_if O (fun z => ?_) fun z => ?_
  ·rw [hq.2 hg] at z; cases z
  ·skip
   refine t_shape (.there (.there .here)) fun _ hsh => ?_
   obtain ⟨a8, c8, rfl, ha8, hc8, hcm8⟩ := hsh
   obtain ⟨g8, rfl⟩ := ha8 (by omega)
   refine arena_open fun x hx => ?_
   refine t_norm fun M hM => ?_
   simp only [List.cons_append, List.nil_append] at hM
   subst M
   obtain ⟨pm, g, cap, sb, fb, vs_, vc, lm, fl⟩ := x
   obtain ⟨hok, hcap, hcap2, hlm, hfl⟩ := hx
   dsimp only at hcap hcap2 hlm hfl ⊢
   have hst := hok.stop_eq
   refine t_skip<|nz<|mv O O<|l_q O (q_nilCheck O)<|l_q O (qfa 2 O yU83 O O yS79)<|l_q O (qld O yA79) ?_
   refine mv O O<|mv O O<|lcf O O O (Mem.Write_ok pm g s.stop cap off g8 ss.length c8 s.m vs ss (by omega) hcap rfl (by omega) (by omega)) ?_
   rintro v' L' ⟨rfl, rfl⟩
   refine l_nm ?_
   refine asg O O<|lc<|rt ?_
   apply f_ret (.inl rfl) ([arenaH pa (s.put off (totS ss) (catM ss))])
   ·apply res1 O
    ·exact .tmp rfl
   ·exact ⟨rfl, rfl⟩
   ·refine arena_close (x := ⟨pm, g, cap, sb, fb, vs_, vc, lm, fl⟩) ⟨ArS.put_ok hok (catM_bytes ss), hcap, hcap2, hlm, hfl⟩ ?_; dsimp only [arP]; simp only [ArS.put_limit, ArS.put_live, ArS.put_stop, ArS.put_all, ArS.put_m]; (exact en)
end Go.Proofs.Ytjekhcojebgpnaa.Arena
end
