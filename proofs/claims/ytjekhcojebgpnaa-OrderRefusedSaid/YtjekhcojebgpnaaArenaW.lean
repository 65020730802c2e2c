import Derived.Test.YtjekhcojebgpnaaArena
import Derived.Test.YtjekhcojebgpnaaInsert
/- More contracts of package arena: reading and writing strings, new blocks, a new arena. -/
set_option linter.unusedVariables false
set_option linter.unusedSimpArgs false
set_option maxRecDepth 100000
namespace Go.Proofs.Ytjekhcojebgpnaa.Arena
open Go.RowKit Go.Proofs Go.Proofs.Ytjekhcojebgpnaa.Eng Go.Proofs.Ytjekhcojebgpnaa.Ty Go.Proofs.Ytjekhcojebgpnaa.Bits Go.Proofs.Ytjekhcojebgpnaa.Mem Go.Proofs.Ytjekhcojebgpnaa.Search

theorem ArS.put_limit (s : ArS) (o k : Nat) (f : Nat → Int) : (s.put o k f).limit = s.limit := rfl
theorem ArS.put_live (s : ArS) (o k : Nat) (f : Nat → Int) : (s.put o k f).live = s.live := rfl
theorem ArS.put_stop (s : ArS) (o k : Nat) (f : Nat → Int) : (s.put o k f).stop = s.stop := rfl
theorem ArS.put_all (s : ArS) (o k : Nat) (f : Nat → Int) : (s.put o k f).all = s.all := rfl
theorem ArS.put_m (s : ArS) (o k : Nat) (f : Nat → Int) : (s.put o k f).m = layM s.m o k f := rfl
theorem goodP.ne {s : ArS} {off n : Int} (h : goodP s off n) : s.all ≠ [] := by
 obtain ⟨_, p, hp, _⟩ := h
 intro e; rw [mem_bl, e] at hp; cases hp.1
theorem goodP.sub {s : ArS} {off n off' n' : Int} (h : goodP s off n) (h0 : 0 ≤ n') (h1 : off ≤ off') (h2 : off' + n' ≤ off + n) : goodP s off' n' := by
 obtain ⟨_, p, hp, p1, p2⟩ := h
 exact ⟨h0, p, hp, by omega, by omega⟩
theorem goodP.put {s : ArS} {off n : Int} {o k : Nat} {f : Nat → Int} (h : goodP s off n) : goodP (s.put o k f) off n := h
theorem arena_ok {pa : Nat} {s : ArS} {L M : List HP} {w : World} (h : Sat (stars L) w) (ht : Take (arenaH pa s) L M) : s.ok := by
 obtain ⟨x, hx, _⟩ := sat_exP.1 (h.take ht)
 exact hx.1
theorem byteAt_bytes (s : ByteArray) (i : Nat) : 0 ≤ byteAt s i ∧ byteAt s i < 256 := by
 unfold byteAt
 split
 ·next h => have := (s[i]'h).toNat_lt; omega
 ·omega
theorem catM_bytes (ss : List ByteArray) : ∀ i, 0 ≤ catM ss i ∧ catM ss i < 256 := by
 induction ss with
 | nil => intro i; simp [catM]
 | cons s r ih => intro i; simp only [catM]; split; exact byteAt_bytes _ _; exact ih _

/-! ### The same with places that are whole numbers -/
theorem Load_okI (pa : Nat) (s : ArS) (off w : Int) (o k : Nat) (ho : off = (o : Nat)) (hw : w = (k : Nat)) (hk : wid k) (hg : goodP s off w) : FnOk Try.prog 34 #[.pointer (some ⟨pa, 0, none⟩), .int .i64 off, .int .i64 w] [arenaH pa s]
  (fun v L => v = .tuple #[.int .u64 (loadN s.m o k), .int .i64 0] ∧ L = [arenaH pa s]) := by subst ho; subst hw; exact Load_ok pa s o k hk hg hg.ne
theorem Store_okI (pa : Nat) (s : ArS) (off w : Int) (o k : Nat) (v : Int) (ho : off = (o : Nat)) (hw : w = (k : Nat)) (hv : 0 ≤ v ∧ v < 18446744073709551616) (hk : wid k) (hg : goodP s off w) : FnOk Try.prog 48 #[.pointer (some ⟨pa, 0, none⟩), .int .i64 off, .int .i64 w, .int .u64 v] [arenaH pa s]
  (fun r L => r = .int .i64 0 ∧ L = [arenaH pa (s.put o k (byteN v))]) := by subst ho; subst hw; exact Store_ok pa s o k v hv hk hg hg.ne
theorem Read_ok (pa : Nat) (s : ArS) (off k : Nat) (hg : goodP s off k) : FnOk Try.prog 43 #[.pointer (some ⟨pa, 0, none⟩), .int .i64 off, .int .i64 k] [arenaH pa s]
  (fun v L => v = .tuple #[.string (strM s.m off k), .int .i64 0] ∧ L = [arenaH pa s]) := by
 refine fn_intro en43 Try.func43 rfl rfl rfl fun Fr w0 => t_nm ?_
 refine sr<|asg O O<|asg O O<|lc<|t_seq<|sr<|mv O O<|mv O O<|mv O O<|lcf O O O (good_ok pa s hg.ne off k) ?_
 rintro v' L' ⟨⟨q, rfl, hq⟩, rfl⟩
 refine l_nm ?_
 refine l_q O (q_un O (u_not ·))<|lc<|t_if O (fun z => ?_) fun z => ?_
 ·rw [hq.2 hg] at z; cases z
 ·skip
  refine arena_open fun x hx => ?_
  refine t_norm fun M hM => ?_
  simp only [List.cons_append, List.nil_append] at hM
  subst M
  obtain ⟨pm, g, cap, sb, fb, vs, vc, lm, fl⟩ := x
  obtain ⟨hok, hcap, hcap2, hlm, hfl⟩ := hx
  dsimp only at hcap hcap2 hlm hfl ⊢
  have hst := hok.stop_eq
  have hge := goodP.end_le hok hg
  refine t_skip<|nz<|mv O O<|l_q O (q_nilCheck O)<|l_q O (qfa 2 O yU83 O O yS79)<|l_q O (qld O yA79) ?_
  refine mv O O<|mv O O<|lcf O O O (Mem.Read_ok pm g s.stop cap off k s.m (by omega) hcap (by omega)) ?_
  rintro v' L' ⟨g2, rfl, rfl⟩
  refine l_nm ?_
  refine mv O O<|l_q O (q_extractL O ga) ?_
  refine l_q O (q_extractL O ga) ?_
  refine asg O O<|asg O O<|lz<|mv O O ?_
  apply l_q O
  ·apply q_bytesStr (strM s.m off k) rfl Try.underlying63 Try.underlying5 Try.underlying9
   ·simp [strM, ByteArray.size]
   ·rw [strM_bytes hok.bytes]; exact reads_mem0 (by exact tk)
  refine mv O O<|asg O O<|asg O O<|lc<|rt ?_
  apply f_ret (.inl rfl) ([arenaH pa s])
  ·apply res2 O
   ·exact .tmp rfl
   ·exact .tmp rfl
  ·exact ⟨rfl, rfl⟩
  ·refine arena_close (x := ⟨pm, g, cap, sb, fb, vs, vc, lm, fl⟩) ⟨hok, hcap, hcap2, hlm, hfl⟩ ?_; dsimp only [arP]; (exact en)
theorem Read_okI (pa : Nat) (s : ArS) (off n : Int) (o k : Nat) (ho : off = (o : Nat)) (hw : n = (k : Nat)) (hg : goodP s off n) : FnOk Try.prog 43 #[.pointer (some ⟨pa, 0, none⟩), .int .i64 off, .int .i64 n] [arenaH pa s]
  (fun v L => v = .tuple #[.string (strM s.m o k), .int .i64 0] ∧ L = [arenaH pa s]) := by subst ho; subst hw; exact Read_ok pa s o k hg

/-- Strings as cells. -/
def strs (ss : List ByteArray) : List Value := ss.map fun s => .string s
theorem bytesAll_nil {L : List HP} : Ent L (bytesAll [] [] :: L) := fun w h => sat_all.2 h
theorem bytesAll_add {vs : List Value} {ss : List ByteArray} {v : Value} {s : ByteArray} {L : List HP} (hl : vs.length = ss.length) : Ent (byteS v s :: bytesAll vs ss :: L) (bytesAll (vs ++ [v]) (ss ++ [s]) :: L) := fun w h => by
 have h1 := (h.perm (.swap _ _ _) : Sat (stars (bytesAll vs ss :: byteS v s :: L)) w)
 have h2 := sat_all.1 h1
 refine sat_all.2 ?_
 unfold bytesAll at *
 rw [List.zipWith_append hl]
 simpa using h2
theorem take_next {α : Type} {l : List α} {j : Nat} (h : j < l.length) : l.take (j + 1) = l.take j ++ [l[j]] := by rw [List.take_add_one, List.getElem?_eq_getElem h]; rfl
theorem Write_ok (pa : Nat) (s : ArS) (p k off : Nat) (ss : List ByteArray) (hk : ss.length = k) (hk1 : 1 ≤ k) (hkb : k ≤ 1000) (hg : goodP s off (totS ss)) :
  FnOk Try.prog 57 #[.pointer (some ⟨pa, 0, none⟩), .int .i64 off, .slice (some ⟨p, 0, none⟩) k k] [pt p (.cells (strs ss).toArray 9 (0, 0)), arenaH pa s]
   (fun r L => r = .int .i64 0 ∧ L = [arenaH pa (s.put off (totS ss) (catM ss))]) := by
 refine fn_intro en57 Try.func57 rfl rfl rfl fun Fr w0 => t_nm ?_
 refine t_pure (φ := s.ok) (fun w hw => arena_ok hw (.there .here)) fun hok0 => ?_
 have hge := goodP.end_le hok0 hg
 have hst0 := hok0.stop_eq
 refine sr<|asg O O<|lz<|asg O O<|lz<|mv O O<|l_q O (ql O yU123) ?_
 apply o_makeSlice1 O O O yU137 yI63 O (by omega) (by omega)
 intro b13
 refine asg O O<|lc<|t_seq<|sr<|mv O O<|l_q O (ql O yU123)<|mv O O<|lc<|t_block ?_
 refine t_ent (L' := bytesAll [] [] :: ownS 63 1 (.slice (some ⟨b13, 0, none⟩) 0 k) 0 [] :: pt p (.cells (strs ss).toArray 9 (0, 0)) :: arenaH pa s :: Fr) ?_ ?_
 ·refine (Ent.trans (M := ownS 63 1 (.slice (some ⟨b13, 0, none⟩) 0 k) 0 [] :: pt p (.cells (strs ss).toArray 9 (0, 0)) :: arenaH pa s :: Fr) ?_ bytesAll_nil)
  have e : (Int.toNat ((k : Nat) : Int)) = k := Int.toNat_natCast k
  first | exact Ent.refl _ | (simp only [Int.toNat_natCast]; exact Ent.refl _)
 refine t_loop (fun x : Nat × List Value × Value => x.1 ≤ k ∧ x.2.1.length = x.1) (fun x => [(0, .pointer (some ⟨pa, 0, none⟩)), (1, .int .i64 off), (7, .int .i64 (totS (ss.take x.1) : Nat)), (8, x.2.2), (14, .slice (some ⟨p, 0, none⟩) k k), (15, .int .i64 k), (16, .int .i64 x.1)]) (fun x => bytesAll x.2.1 (ss.take x.1) :: ownS 63 1 x.2.2 x.1 x.2.1 :: pt p (.cells (strs ss).toArray 9 (0, 0)) :: arenaH pa s :: Fr) (fun x => k - x.1) (0, [], .slice (some ⟨b13, 0, none⟩) 0 k) ⟨by omega, rfl⟩ ⟨rfl, rfl, rfl, rfl, rfl, rfl, rfl, trivial⟩ (Ent.refl _) ?_
 rintro ⟨j, vs, v8⟩ ⟨hj, hvl⟩
 dsimp only at hj hvl ⊢
 have hle := tot_le ss (j + 1)
 refine sr<|l_q O (qi O O (b_lss ·))<|lc<|t_seq<|t_if O (fun h => ?_) fun h => ?_
 ·have hjl : j < ss.length := by omega
  have htt := tot_take (List.getElem?_eq_getElem hjl)
  refine t_skip<|n_code<|t_seq<|t_block<|sr<|l_q O (q_indexAddr1 O O yU123 yS9 (by omega)) ?_
  apply l_q O
  ·apply q_load O yA9
   ·exact tk
   ·rw [Nat.zero_add, Int.toNat_natCast]; simp [strs, hjl]; rfl
  refine asg O O<|lz<|mv O O<|mv O O<|l_q O (qls O yU9)<|l_q O (qadd O O) ?_
  refine asg O O<|lr<|mv O O<|mv O O ?_
  refine o_strBytes O O yU9 yU63 yU5 (fun b26 cap26 => ?_)
  refine o_buildSlice1 [_] rfl rfl yU137 yS63 yZ63 rfl rfl rfl rfl (fun b27 => ?_)
  apply o_append (sz := 1) rfl rfl rfl yU137 yI63 rfl rfl
  ·exact tk
  ·exact tk
  ·rfl
  ·rfl
  ·simp only [maxLen]; omega
  ·omega
  intro v28
  refine asg O O<|l_nil<|n_blk<|n_code<|t_region<|l_q O (qadd O O) ?_
  refine mv O O<|l_nil ?_
  refine n_ent (L' := bytesAll (vs ++ [.slice (some ⟨b26, 0, none⟩) ss[j].size cap26]) (ss.take j ++ [ss[j]]) :: ownS 63 1 v28 (j + 1) (vs ++ [.slice (some ⟨b26, 0, none⟩) ss[j].size cap26]) :: pt p (.cells (strs ss).toArray 9 (0, 0)) :: arenaH pa s :: Fr) ?_ ?_
  ·refine Ent.trans (M := byteS (.slice (some ⟨b26, 0, none⟩) ss[j].size cap26) ss[j] :: bytesAll vs (ss.take j) :: ownS 63 1 v28 (j + 1) (vs ++ [.slice (some ⟨b26, 0, none⟩) ss[j].size cap26]) :: pt p (.cells (strs ss).toArray 9 (0, 0)) :: arenaH pa s :: Fr) ?_ (bytesAll_add (by simp [hvl]; omega))
   (exact en)
  rw [← take_next hjl]
  apply n_again ((j + 1, vs ++ [.slice (some ⟨b26, 0, none⟩) ss[j].size cap26], v28))
  ·exact ⟨by dsimp only; omega, by simp [hvl]⟩
  ·dsimp only; omega
  ·exact ⟨rfl, rfl, by dsimp only; rw [htt, Int.natCast_add]; rfl, rfl, rfl, rfl, rfl, trivial⟩
  ·exact en
 ·refine xt O<|n_code<|t_seq<|sr<|mv O O<|mv O O<|mv O O ?_
  have hjk : j = ss.length := by omega
  subst hjk
  rw [List.take_length]
  refine lcf O O O (good_ok pa s hg.ne off (totS ss)) ?_
  rintro v' L' ⟨⟨q, rfl, hq⟩, rfl⟩
  refine l_nm ?_
  refine l_q O (q_un O (u_not ·))<|lc<|t_if O (fun z => ?_) fun z => ?_
  ·rw [hq.2 hg] at z; cases z
  ·skip
   refine t_shape (.there (.there .here)) fun _ hsh => ?_
   obtain ⟨a8, c8, rfl, ha8, hc8, hcm8⟩ := hsh
   obtain ⟨g8, rfl⟩ := ha8 (by omega)
   refine arena_open fun x hx => ?_
   refine t_norm fun M hM => ?_
   simp only [List.cons_append, List.nil_append] at hM
   subst M
   obtain ⟨pm, g, cap, sb, fb, vs_, vc, lm, fl⟩ := x
   obtain ⟨hok, hcap, hcap2, hlm, hfl⟩ := hx
   dsimp only at hcap hcap2 hlm hfl ⊢
   have hst := hok.stop_eq
   refine t_skip<|nz<|mv O O<|l_q O (q_nilCheck O)<|l_q O (qfa 2 O yU83 O O yS79)<|l_q O (qld O yA79) ?_
   refine mv O O<|mv O O<|lcf O O O (Mem.Write_ok pm g s.stop cap off g8 ss.length c8 s.m vs ss (by omega) hcap rfl (by omega) (by omega)) ?_
   rintro v' L' ⟨rfl, rfl⟩
   refine l_nm ?_
   refine asg O O<|lc<|rt ?_
   apply f_ret (.inl rfl) ([arenaH pa (s.put off (totS ss) (catM ss))])
   ·apply res1 O
    ·exact .tmp rfl
   ·exact ⟨rfl, rfl⟩
   ·refine arena_close (x := ⟨pm, g, cap, sb, fb, vs_, vc, lm, fl⟩) ⟨ArS.put_ok hok (catM_bytes ss), hcap, hcap2, hlm, hfl⟩ ?_; dsimp only [arP]; simp only [ArS.put_limit, ArS.put_live, ArS.put_stop, ArS.put_all, ArS.put_m]; (exact en)
/-! ### New blocks -/
theorem goodP.take {s : ArS} (hs : s.ok) {c off n : Int} (h : goodP s off n) : goodP (s.take c) off n := by
 obtain ⟨h0, p, hp, p1, p2⟩ := h
 exact ⟨h0, p, (take_bl hs).2 (.inl hp), p1, p2⟩
theorem goodP.new {s : ArS} (hs : s.ok) {c n : Int} (h0 : 0 ≤ n) (h1 : n ≤ c) : goodP (s.take c) ((s.at c : Nat) : Int) n := ⟨h0, _, (take_bl hs).2 (.inr rfl), by simp, by simp; omega⟩
theorem lm_take {s : ArS} (hs : s.ok) {c : Int} (hc : 1 ≤ c) {lm : List (Int × Value)} (h : LmOk s lm) : LmOk (s.take c) (setK lm ((s.at c : Nat) : Int) (.int .i64 c)) := by
 constructor
 ·intro p hp
  rw [lk_set]
  rcases (take_bl hs).1 hp with q | q
  ·have := take_apart hs q hc
   have := (ArS.chain_pos hs.chain p (mem_bl.1 q).1).2
   rw [if_neg (by omega)]
   exact h.1 p q
  ·rw [q, if_pos rfl]
 ·intro k hk
  rw [lk_set, if_neg fun e => hk c ((take_bl hs).2 (.inr (by rw [e])))]
  exact h.2 k fun d hd => hk d ((take_bl hs).2 (.inl hd))
theorem fl_take_nil {s : ArS} (hs : s.ok) {c : Int} (hc : c ∈ classes) (hl : s.live + c ≤ s.limit) (h0 : s.frL c = []) {fl : FL} (h : FlOk s fl) : FlOk (s.take c) fl := fun d => by
 rw [take_fr hs hc hl d, h d]
 split
 ·next q => rw [q, h0]; rfl
 ·rfl
theorem fl_take_cons {s : ArS} (hs : s.ok) {c o : Int} {r : List Int} (hc : c ∈ classes) (hl : s.live + c ≤ s.limit) (h0 : s.frL c = o :: r) {fl : FL} (h : FlOk s fl) (v : Value) : FlOk (s.take c) (putFl fl c (v, r)) := fun d => by
 rw [take_fr hs hc hl d, lk_putFl]
 split
 ·rw [h0]; rfl
 ·exact h d
theorem frees_openT {fl : FL} {k : Int} {L M : List HP} (h : Take (freesH fl) L M) : Ent L (ownT 3 (getFl fl k).1 (ints (getFl fl k).2) :: freesH (cutFl fl k) :: M) := fun w hw => frees_open w (hw.perm h.perm)
theorem frees_closeT {fl : FL} {k : Int} {v : Value} {xs : List Int} {L M N : List HP} (h : Take (ownT 3 v (ints xs)) L M) (h2 : Take (freesH (cutFl fl k)) M N) : Ent L (freesH (putFl fl k (v, xs)) :: N) := fun w hw => frees_close w (hw.perm (h.perm.trans (List.Perm.cons _ h2.perm)))
/-- A list's tail. -/
theorem ownT_tail {e : TypeId} {g o n cap : Nat} {x : Value} {r : List Value} {L : List HP} (hn : n = r.length + 1) : Ent (ownT e (.slice (some ⟨g, o, none⟩) n cap) (x :: r) :: L) (ownT e (.slice (some ⟨g, tailAt o 1 cap, none⟩) (n - 1) (cap - 1)) r :: L) := fun w h => by
 obtain ⟨y, hy, hs⟩ := sat_exP.1 h
 cases y with
 | none => obtain ⟨q, _⟩ := hy; cases q
 | some t =>
  obtain ⟨q, h1, h2, h3, h4⟩ := hy
  cases q
  refine sat_exP.2 ⟨some ⟨t.g, tailAt t.o 1 t.cap, t.cap - 1, t.cur⟩, ⟨by simp, ?_, ?_, ?_, fun i u hu => ?_⟩, hs⟩
  ·simp only [List.length_cons] at h1; show r.length ≤ t.cap - 1; omega
  ·show t.cap - 1 ≤ maxLen; omega
  ·show tailAt t.o 1 t.cap + (t.cap - 1) ≤ t.cur.size
   unfold tailAt; split <;> omega
  ·dsimp only
   have := h4 (i + 1) u (by simpa using hu)
   simp only [List.length_cons] at h1
   have hi := (List.getElem?_eq_some_iff.1 hu).1
   rw [tailAt_lt (by omega)]
   rw [show t.o + 1 + i = t.o + (i + 1) by omega]; exact this

theorem frees_backT {fl : FL} {c : Int} {g o n cap : Nat} {x : Int} {r : List Int} {L M N : List HP} (hn : n = r.length + 1) (h : Take (ownT 3 (.slice (some ⟨g, o, none⟩) n cap) (ints (x :: r))) L M) (h2 : Take (freesH (cutFl fl c)) M N) :
  Ent L (freesH (putFl fl c (.slice (some ⟨g, tailAt o 1 cap, none⟩) (n - 1) (cap - 1), r)) :: N) := fun w hw => frees_close w (ownT_tail (r := ints r) (by rw [ints_len]; exact hn) w (hw.perm (h.perm.trans (List.Perm.cons _ h2.perm))))
theorem arena_openL {c : Cx} {fin : Exit → Act → World → Prop} {ds : List Deferred} {E : Env} {ks : List KI} {pa : Nat} {s : ArS} {R : List HP} {ops : Array Oper} {l : List Oper} (k : ∀ x, arOk s x → TL c fin ds E (arP pa s x ++ R) ops l ks) : TL c fin ds E (arenaH pa s :: R) ops l ks :=
 l_turn (X := { x : ArX // arOk s x }) (LL := fun x => arP pa s x.1 ++ R) (fun w hs => let ⟨x, hp, h⟩ := sat_exP.1 hs; ⟨⟨x, hp⟩, h⟩) fun x => k x.1 x.2
theorem Grow_okI (pm g n cap : Nat) (sI : Int) (s : Nat) (m : Nat → Int) (he : sI = (s : Nat)) (hn : n ≤ 134217728) (hc : n ≤ cap) (hcm : cap ≤ 134217728) (h1 : n ≤ s) (h2 : s ≤ 134217728) :
  FnOk Try.prog 89 #[.pointer (some ⟨pm, 0, none⟩), .int .i64 sI] [pt pm (.cells #[.slice (some ⟨g, 0, none⟩) n cap] 116 (0, 0)), ownS 5 1 (.slice (some ⟨g, 0, none⟩) n cap) n (memV m n)] (fun r L => ∃ g2 cap2, r = .int .i64 0 ∧ s ≤ cap2 ∧ cap2 ≤ 134217728 ∧ L = [pt pm (.cells #[.slice (some ⟨g2, 0, none⟩) s cap2] 116 (0, 0)), ownS 5 1 (.slice (some ⟨g2, 0, none⟩) s cap2) s (memV (growM m n) s)]) := by subst he; exact Mem.Grow_ok pm g n cap s m hn hc hcm h1 h2
theorem Fill_okM (pm g n cap : Nat) (oI kI : Int) (o k : Nat) (m : Nat → Int) (b : Int) (ho : oI = (o : Nat)) (hk : kI = (k : Nat)) (hb : 0 ≤ b ∧ b < 256) (hn : n ≤ 134217728) (hc : n ≤ cap) (hle : o + k ≤ n) :
  FnOk Try.prog 88 #[.pointer (some ⟨pm, 0, none⟩), .int .i64 oI, .int .i64 kI, .int .u8 b] [pt pm (.cells #[.slice (some ⟨g, 0, none⟩) n cap] 116 (0, 0)), ownS 5 1 (.slice (some ⟨g, 0, none⟩) n cap) n (memV m n)] (fun r L => r = .int .i64 0 ∧ L = [pt pm (.cells #[.slice (some ⟨g, 0, none⟩) n cap] 116 (0, 0)), ownS 5 1 (.slice (some ⟨g, 0, none⟩) n cap) n (memV (layM m o k (fun _ => b)) n)]) := by subst ho; subst hk; exact Mem.Fill_ok pm g n cap o k m b hb hn hc hle
theorem take_ok (pa : Nat) (s : ArS) (c : Int) (hc : c ∈ classes) (hl : s.live + c ≤ s.limit) : FnOk Try.prog 70 #[.pointer (some ⟨pa, 0, none⟩), .int .i64 c] [arenaH pa s]
  (fun v L => v = .tuple #[.int .i64 (s.at c : Nat), .int .i64 0] ∧ L = [arenaH pa (s.take c)]) := by
 have hcp := classes_pos c hc
 refine fn_intro en70 Try.func70 rfl rfl rfl fun Fr w0 => t_nm ?_
 refine t_pure (φ := s.ok) (fun w hw => arena_ok hw .here) fun hok0 => ?_
 have hst0 := hok0.stop_eq
 have hlim := hok0.limit
 have hab := at_bnd hok0 hc hl
 have htok := ArS.take_ok hok0 hc hl
 have hts := htok.stop_eq
 have hsn := ArS.sum_nonneg hok0.chain
 refine sr<|asg O O<|asg O O<|lz<|mv O O<|lc1 O O O (End_ok pa s) ?_
 refine arena_openL fun x hx => ?_
 refine l_norm fun M hM => ?_
 simp only [List.cons_append, List.nil_append] at hM
 subst M
 obtain ⟨pm, g, cap, sb, fb, vs, vc, lm, fl⟩ := x
 obtain ⟨hok, hcap, hcap2, hlm, hfl⟩ := hx
 dsimp only at hcap hcap2 hlm hfl ⊢
 have hlm' := lm_take hok (by omega : 1 ≤ c) hlm
 have hfc := hfl c
 obtain ⟨v7, xs7, hlk⟩ : ∃ v7 xs7, getFl fl c = (v7, xs7) := ⟨_, _, rfl⟩
 rw [hlk] at hfc
 dsimp only at hfc
 subst hfc
 refine l_pure (φ := ∃ a n cap, v7 = .slice a n cap ∧ n = (s.frL c).length ∧ (0 < n → ∃ g o, a = some ⟨g, o, none⟩) ∧ n ≤ cap ∧ cap ≤ maxLen) (fun w hw => by
  have h1 := frees_open (k := c) w (hw.perm (Take.perm (show Take (freesH fl) _ _ from tk)))
  rw [hlk] at h1
  obtain ⟨a, cp, e1, e2, e3, e4⟩ := ownT_shape h1
  rw [ints_len] at e1 e2 e3
  exact ⟨a, _, cp, e1, rfl, e2, e3, e4⟩) fun ⟨a7, n7, cap7, hv7, hn7, ha7, hc7, hm7⟩ => ?_
 subst hv7
 have hvl := val_getFl fl c
 rw [hlk] at hvl
 dsimp only at hvl
 cases hfr : s.frL c with
 | nil =>
  rw [hfr] at hn7
  obtain rfl : n7 = 0 := by simpa using hn7
  obtain ⟨et, ea⟩ := take_nil hok hfr
  obtain ⟨cn, hcn⟩ : ∃ cn : Nat, c = (cn : Nat) := ⟨c.toNat, by omega⟩
  have hall : (s.take c).all = s.all ++ [(((s.stop : Nat) : Int), c)] := by rw [et]
  have hsum := ArS.sum_app s.all (((s.stop : Nat) : Int), c)
  rw [hall] at hts
  have hsn2 : (s.take c).stop = s.stop + cn := by omega
  have e3 : ints ((s.take c).all.map (·.1)) = ints (s.all.map (·.1)) ++ [.int .i64 ((s.stop : Nat) : Int)] := by rw [hall]; simp [ints]
  have e4 : ints ((s.take c).all.map (·.2)) = ints (s.all.map (·.2)) ++ [.int .i64 c] := by rw [hall]; simp [ints]
  have e6 : (s.take c).all.length = s.all.length + 1 := by rw [hall]; simp
  have e7 : (s.take c).m = growM s.m s.stop := by rw [et]
  have e8 : (s.take c).limit = s.limit := by rw [et]
  have hfl' := fl_take_nil hok hc hl hfr hfl
  rw [ea] at hlm' ⊢
  refine asg O O<|lc<|t_seq<|sr<|mv O O<|l_q O (q_nilCheck O)<|l_q O (qfa 6 O yU83 O O yS81)<|l_q O (qld O yA81) ?_
  refine mv O O<|l_q O (QV.to (q_lookup1 keyInt O O Try.underlying81 Try.underlying3 yZ28 (by exact tk)) hvl) ?_
  refine asg O O<|lz<|mv O O<|l_q O (ql O yU28)<|l_q O (qi O O (b_gtr ·))<|lc<|t_if O (fun z => ?_) fun z => ?_
  ·exact absurd z (by decide)
  ·refine t_seq<|sr<|mv O O<|l_q O (q_nilCheck O)<|l_q O (qfa 2 O yU83 O O yS79)<|l_q O (qld O yA79) ?_
   refine mv O O<|mv O O<|l_q O (qadd O O) ?_
   refine lcf O O O (Grow_okI pm g s.stop cap _ (s.stop + cn) s.m (by omega) (by omega) hcap hcap2 (by omega) (by omega)) ?_
   rintro v' L' ⟨g2, cap2, rfl, hc2, hc3, rfl⟩
   refine l_nm ?_
   refine asg O O<|lz<|mv O O<|l_q O (qi O O (b_neq ·))<|lc<|t_if O (fun z2 => ?_) fun z2 => ?_
   ·exact absurd rfl z2
   ·refine t_skip<|nz<|mv O O<|mv O O<|l_q O (q_nilCheck O)<|l_q O (qfa 3 O yU83 O O yS28)<|l_q O (qld O yA28) ?_
    refine mv O O ?_
    refine o_buildSlice1 [_] rfl rfl yU28 yS3 yZ3 rfl rfl rfl rfl (fun b54 => ?_)
    apply o_append (sz := 1) rfl rfl rfl yU28 yI3 rfl rfl
    ·exact tk
    ·exact tk
    ·rfl
    ·rfl
    ·simp only [maxLen]; omega
    ·omega
    intro v55
    refine l_q O (q_nilCheck O)<|l_q O (qfa 3 O yU83 O O yS28) ?_
    refine l_shape .here (fun _ hs57 => ?_)
    obtain ⟨a57, c57, rfl, _, _, _⟩ := hs57
    apply o_storeL O O O yS28 O
    ·exact tk
    ·repeat (first | exact SetAt.here | apply SetAt.there)
    refine lr<|mv O O<|mv O O<|l_q O (q_nilCheck O)<|l_q O (qfa 4 O yU83 O O yS28)<|l_q O (qld O yA28) ?_
    refine mv O O ?_
    refine o_buildSlice1 [_] rfl rfl yU28 yS3 yZ3 rfl rfl rfl rfl (fun b64 => ?_)
    apply o_append (sz := 1) rfl rfl rfl yU28 yI3 rfl rfl
    ·exact tk
    ·exact tk
    ·rfl
    ·rfl
    ·simp only [maxLen]; omega
    ·omega
    intro v65
    refine l_q O (q_nilCheck O)<|l_q O (qfa 4 O yU83 O O yS28) ?_
    refine l_shape .here (fun _ hs67 => ?_)
    obtain ⟨a67, c67, rfl, _, _, _⟩ := hs67
    apply o_storeL O O O yS28 O
    ·exact tk
    ·repeat (first | exact SetAt.here | apply SetAt.there)
    refine lz<|mv O O<|l_q O (q_nilCheck O)<|l_q O (qfa 5 O yU83 O O yS80)<|l_q O (qld O yA80) ?_
    refine mv O O<|mv O O ?_
    apply o_mapUpdate keyInt O O O O yU80 yU3
    ·exact tk
    refine lz<|mv O O<|l_q O (q_nilCheck O)<|l_q O (qfa 1 O yU83 O O yS3)<|l_q O (qld O yA3) ?_
    refine mv O O<|l_q O (qadd O O) ?_
    refine l_q O (q_nilCheck O)<|l_q O (qfa 1 O yU83 O O yS3)<|st O O O yS3 O ?_
    refine lz<|mv O O<|asg O O<|asg O O<|lc<|rt ?_
    apply f_ret (.inl rfl) ([arenaH pa (s.take c)])
    ·apply res2 O
     ·exact .tmp rfl
     ·exact .tmp rfl
    ·exact ⟨rfl, rfl⟩
    ·refine arena_close (x := ⟨pm, g2, cap2, sb, fb, .slice a57 (s.all.length + 1) c57, .slice a67 (s.all.length + 1) c67, setK lm ((s.stop : Nat) : Int) (.int .i64 c), fl⟩) ⟨htok, by rw [hsn2]; exact hc2, hc3, hlm', hfl'⟩ ?_; dsimp only [arP]; rw [ArS.take_live hok, e3, e4, e6, e7, e8, hsn2]; (exact en)
 | cons o r =>
  rw [hfr] at hn7
  have hn7' : n7 = r.length + 1 := hn7
  obtain ⟨ag, ao, rfl⟩ := ha7 (by omega)
  obtain ⟨et, ea, eo1, eo2, eo3⟩ := take_cons hok hfr
  have eoe := chain_end hok.chain eo1
  dsimp only at eoe
  have hall : (s.take c).all = s.all := by rw [et]
  have hstop : (s.take c).stop = s.stop := by unfold ArS.stop; rw [hall]
  have e7 : (s.take c).m = layM s.m o.toNat c.toNat fun _ => 0 := by rw [et]
  have e8 : (s.take c).limit = s.limit := by rw [et]
  have hfl' := fun v => fl_take_cons hok hc hl hfr hfl v
  rw [ea] at hlm' ⊢
  rw [Int.toNat_of_nonneg (show 0 ≤ o by omega)] at hlm' ⊢
  have hcell : CellAt (ownT 3 (.slice (some ⟨ag, ao, none⟩) n7 cap7) (ints (o :: r))) ⟨ag, ao + (0 : Int).toNat, none⟩ (.int .i64 o) := ownT_cell (i := 0) rfl
  refine l_ent (frees_openT (k := c) (show Take (freesH fl) _ _ from tk)) ?_
  rw [hlk, hfr]
  refine asg O O<|lc<|t_seq<|sr<|mv O O<|l_q O (q_nilCheck O)<|l_q O (qfa 6 O yU83 O O yS81)<|l_q O (qld O yA81) ?_
  refine mv O O<|l_q O (QV.to (q_lookup1 keyInt O O Try.underlying81 Try.underlying3 yZ28 (by exact tk)) hvl) ?_
  refine asg O O<|lz<|mv O O<|l_q O (ql O yU28)<|l_q O (qi O O (b_gtr ·))<|lc<|t_if O (fun z => ?_) fun z => ?_
  ·refine sr<|mv O O ?_
   first | refine l_q O (q_indexAddrC 0 O O yU28 yS3 (by omega)) ?_ | refine l_q O (q_indexAddr1 O O yU28 yS3 (by omega)) ?_
   refine l_q O (q_loadR (A := ownT 3 (.slice (some ⟨ag, ao, none⟩) n7 cap7) (ints (o :: r))) rfl yA3 tk hcell) ?_
   refine asg O O<|lc<|t_seq<|t_draw mixed ?_
   apply dq 0 O
   ·exact yq (q_move O)
   apply dq 1 O
   ·exact yq (q_nilCheck O)
   apply dq 2 O
   ·exact yq (qfa 6 O yU83 O O yS81)
   apply dq 3 O
   ·exact yq (qld O yA81)
   apply dq 4 O
   ·exact yq (q_move O)
   apply dq 5 O
   ·exact yq (q_move O)
   apply dq 6 O
   ·exact yq (q_slice_l O O  yU28 yS3 (by omega))
   refine d_eff1 [3, 4, 6, 0, 1, 2, 5] [] 7 [(26, _), (27, _), (29, _)] gO ⟨rfl, rfl, rfl, trivial⟩ (by kernel_rfl) (by kernel_rfl) fun Ex => ?_
   apply o_mapUpdate keyInt O O O O yU81 yU3
   ·exact tk
   refine l_nil ?_
   apply n_d
   ·exact trivial
   refine d_end (by kernel_rfl) ?_
   refine n_code<|t_region<|mv O O<|l_q O (q_nilCheck O)<|l_q O (qfa 2 O yU83 O O yS79)<|l_q O (qld O yA79) ?_
   refine mv O O<|mv O O<|lcf O O O (Fill_okM pm g s.stop cap o c o.toNat c.toNat s.m 0 (by omega) (by omega) (by decide) (by omega) hcap (by omega)) ?_
   rintro v' L' ⟨rfl, rfl⟩
   refine l_nm ?_
   refine lz<|mv O O<|l_q O (q_nilCheck O)<|l_q O (qfa 5 O yU83 O O yS80)<|l_q O (qld O yA80) ?_
   refine mv O O<|mv O O ?_
   apply o_mapUpdate keyInt O O O O yU80 yU3
   ·exact tk
   refine lz<|mv O O<|l_q O (q_nilCheck O)<|l_q O (qfa 1 O yU83 O O yS3)<|l_q O (qld O yA3) ?_
   refine mv O O<|l_q O (qadd O O) ?_
   refine l_q O (q_nilCheck O)<|l_q O (qfa 1 O yU83 O O yS3)<|st O O O yS3 O ?_
   refine lz<|mv O O<|asg O O<|asg O O<|lc<|rt ?_
   apply f_ret (.inl rfl) ([arenaH pa (s.take c)])
   ·apply res2 O
    ·exact .tmp rfl
    ·exact .tmp rfl
   ·exact ⟨rfl, rfl⟩
   ·refine Ent.trans (frees_backT (fl := fl) (c := c) (x := o) (r := r) hn7' (show Take (ownT 3 (.slice (some ⟨ag, ao, none⟩) n7 cap7) (ints (o :: r))) _ _ from tk) (show Take (freesH (cutFl fl c)) _ _ from tk)) ?_; refine arena_close (x := ⟨pm, g, cap, sb, fb, vs, vc, setK lm o (.int .i64 c), putFl fl c (.slice (some ⟨ag, tailAt ao 1 cap7, none⟩) (n7 - 1) (cap7 - 1), r)⟩) ⟨htok, by rw [hstop]; exact hcap, hcap2, hlm', hfl' _⟩ ?_; dsimp only [arP]; rw [ArS.take_live hok, hall, e7, e8, hstop, val_putFl]; (exact en)
  ·omega

/-- New blocks, one behind the other. -/
def ArS.takes (s : ArS) (ns : List Int) : ArS := ns.foldl (fun s n => s.take (classI n)) s
def ArS.offs (s : ArS) : List Int → List Int
 | [] => []
 | n :: r => ((s.at (classI n) : Nat) : Int) :: (s.take (classI n)).offs r
def sumC (ns : List Int) : Int := (ns.map classI).sum
theorem takes_app (s : ArS) (ns : List Int) (n : Int) : s.takes (ns ++ [n]) = (s.takes ns).take (classI n) := by simp [ArS.takes]
theorem offs_app (s : ArS) (ns : List Int) (n : Int) : s.offs (ns ++ [n]) = s.offs ns ++ [(((s.takes ns).at (classI n) : Nat) : Int)] := by
 induction ns generalizing s with
 | nil => rfl
 | cons a r ih => simp only [List.cons_append, ArS.offs, ih]; rfl
theorem sumC_app (ns : List Int) (n : Int) : sumC (ns ++ [n]) = sumC ns + classI n := by simp [sumC]
theorem sumC_nn : ∀ {ns : List Int}, (∀ n ∈ ns, 1 ≤ n) → 0 ≤ sumC ns ∧ sumC ns ≤ 1048576 * (ns.length : Int)
 | [], _ => by simp [sumC]
 | n :: r, h => by
  have h1 := classI_bnd (h n (by simp))
  have h2 := sumC_nn (ns := r) fun m hm => h m (by simp [hm])
  simp only [sumC, List.map_cons, List.sum_cons, List.length_cons] at h2 ⊢
  omega
theorem takes_ok : ∀ {ns : List Int} {s : ArS}, s.ok → (∀ n ∈ ns, 1 ≤ n ∧ n ≤ 1048576) → s.live + sumC ns ≤ s.limit → (s.takes ns).ok ∧ (s.takes ns).live = s.live + sumC ns ∧ (s.takes ns).limit = s.limit
 | [], s, h, _, _ => ⟨h, by simp [ArS.takes, sumC], rfl⟩
 | n :: r, s, h, hn, hl => by
  have hb := classI_bnd (hn n (by simp)).1
  have hb2 := hb.2.2 (hn n (by simp)).2
  have hs := sumC_nn (ns := r) fun m hm => (hn m (by simp [hm])).1
  have e : sumC (n :: r) = classI n + sumC r := by simp [sumC]
  rw [e] at hl ⊢
  have h1 := ArS.take_ok h (class_mem (hn n (by simp)).1 (hn n (by simp)).2) (by omega)
  have h2 := takes_ok (ns := r) (s := s.take (classI n)) h1 (fun m hm => hn m (by simp [hm])) (by rw [ArS.take_live h, take_limit h]; omega)
  obtain ⟨a, b, c⟩ := h2
  refine ⟨a, ?_, c.trans (take_limit h)⟩
  show ((s.take (classI n)).takes r).live = _
  rw [b, ArS.take_live h]; omega

theorem sumC_split : ∀ {ns : List Int} {j : Nat} (h : j < ns.length), sumC ns = sumC (ns.take j) + (classI ns[j] + sumC (ns.drop (j + 1)))
 | n :: r, 0, _ => by simp [sumC]
 | n :: r, j + 1, h => by
  have := sumC_split (ns := r) (j := j) (by simpa using h)
  simp only [sumC, List.map_cons, List.sum_cons, List.take_succ_cons, List.drop_succ_cons, List.getElem_cons_succ] at this ⊢
  omega
theorem any_take {ns : List Int} {j : Nat} (hj : j < ns.length) (P : Int → Prop) : (∃ n, n ∈ ns.take (j + 1) ∧ P n) ↔ (∃ n, n ∈ ns.take j ∧ P n) ∨ P ns[j] := by
 rw [take_next hj]; simp only [List.mem_append, List.mem_singleton, or_and_right, exists_or, exists_eq_left]
theorem AllocAll_ok (pa : Nat) (s : ArS) (p k : Nat) (ns : List Int) (hk : ns.length = k) (hkb : k ≤ 1000) (hn : ∀ n ∈ ns, 1 ≤ n) :
  FnOk Try.prog 50 #[.pointer (some ⟨pa, 0, none⟩), .slice (some ⟨p, 0, none⟩) k k] [pt p (.cells (ints ns).toArray 3 (0, 0)), arenaH pa s]
   (fun v L => ((∃ n ∈ ns, 1048576 < n) ∨ s.limit - s.live < sumC ns) ∧ v = .tuple #[.slice none 0 0, .int .i64 22] ∧ L = [arenaH pa s] ∨
    (∀ n ∈ ns, n ≤ 1048576) ∧ s.live + sumC ns ≤ s.limit ∧ ∃ vo, v = .tuple #[vo, .int .i64 0] ∧ L = [ownS 3 1 vo k (ints (s.offs ns)), arenaH pa (s.takes ns)]) := by
 subst hk
 refine fn_intro en50 Try.func50 rfl rfl rfl fun Fr w0 => t_nm ?_
 refine t_pure (φ := s.ok) (fun w hw => arena_ok hw (.there .here)) fun hok0 => ?_
 have hst0 := hok0.stop_eq
 have hlim := hok0.limit
 refine sr<|asg O O<|asg O O<|lz<|asg O O<|lz<|asg O O<|lc<|t_seq<|sr<|mv O O<|l_q O (ql O yU28)<|mv O O<|lc<|t_block ?_
 refine t_loop (fun x : Nat × Bool => x.1 ≤ ns.length ∧ (x.2 = true ↔ ∃ n ∈ ns.take x.1, 1048576 < n)) (fun x => [(0, .pointer (some ⟨pa, 0, none⟩)), (1, .slice (some ⟨p, 0, none⟩) ns.length ns.length), (6, .int .i64 (sumC (ns.take x.1))), (7, .bool x.2), (15, .slice (some ⟨p, 0, none⟩) ns.length ns.length), (16, .int .i64 ns.length), (17, .int .i64 x.1)]) (fun x => pt p (.cells (ints ns).toArray 3 (0, 0)) :: arenaH pa s :: Fr) (fun x => ns.length - x.1) (0, false) ⟨by omega, by simp⟩ ⟨rfl, rfl, rfl, rfl, rfl, rfl, rfl, trivial⟩ (Ent.refl _) ?_
 rintro ⟨j, gr⟩ ⟨hj, hgr⟩
 dsimp only at hj hgr ⊢
 have hsum := sumC_nn (ns := ns.take j) fun n hm => hn n (List.mem_of_mem_take hm)
 rw [List.length_take] at hsum
 refine sr<|l_q O (qi O O (b_lss ·))<|lc<|t_seq<|t_if O (fun h => ?_) fun h => ?_
 ·have hjl : j < ns.length := by omega
  have hnj := hn ns[j] (List.getElem_mem hjl)
  have hcj := classI_bnd hnj
  have hgt : ∀ b : Bool, (b = true ↔ (gr = true ∨ 1048576 < ns[j])) → (b = true ↔ ∃ n ∈ ns.take (j + 1), 1048576 < n) := fun b hb => by rw [hb, hgr, any_take hjl (fun n => 1048576 < n)]
  refine t_skip<|n_code<|t_seq<|t_block<|sr<|l_q O (q_indexAddr1 O O yU28 yS3 (by omega)) ?_
  apply l_q O
  ·apply q_load O yA3
   ·exact tk
   ·rw [Nat.zero_add, Int.toNat_natCast]; simp [ints, hjl]; rfl
  refine asg O O<|lc<|t_seq<|sr<|mv O O<|l_q O (qi O O (b_lss ·))<|lc<|t_if O (fun q => ?_) fun q => ?_
  ·omega
  ·refine t_skip<|nz<|mv O O<|mv O O<|l_pt (t := 24) rfl (fun r => ?_) fun r => ?_
   ·refine l_off O O O O<|l_off O O O O<|l_q O (q_pk O O)<|asg O O<|lr<|mv O O<|mv O O<|lc1 O O O (Class_ok ns[j]) ?_
    refine l_q O (qadd O O) ?_
    refine asg O O<|l_nil<|n_blk<|n_code<|t_region<|l_q O (qadd O O) ?_
    refine mv O O<|l_nil ?_
    apply n_again ((j + 1, true))
    ·exact ⟨by dsimp only; omega, hgt true (by simp [r])⟩
    ·dsimp only; omega
    ·exact ⟨rfl, rfl, by dsimp only; rw [take_next hjl, sumC_app]; rfl, rfl, rfl, rfl, rfl, trivial⟩
    ·exact en
   ·refine l_on O O<|mv O O<|l_on O O<|l_q O (qi O O (b_gtr ·))<|l_q O (q_pk O O)<|asg O O<|lr<|mv O O<|mv O O<|lc1 O O O (Class_ok ns[j]) ?_
    refine l_q O (qadd O O) ?_
    refine asg O O<|l_nil<|n_blk<|n_code<|t_region<|l_q O (qadd O O) ?_
    refine mv O O<|l_nil ?_
    apply n_again ((j + 1, decide (1048576 < ns[j])))
    ·exact ⟨by dsimp only; omega, hgt _ (by simp [r])⟩
    ·dsimp only; omega
    ·exact ⟨rfl, rfl, by dsimp only; rw [take_next hjl, sumC_app]; rfl, rfl, rfl, rfl, rfl, trivial⟩
    ·exact en
 ·obtain rfl : j = ns.length := by omega
  rw [List.take_length] at hgr hsum ⊢
  refine t_ent (L' := arenaH pa s :: pt p (.cells (ints ns).toArray 3 (0, 0)) :: Fr) (by (exact en)) ?_
  refine arena_open fun x hx => ?_
  refine t_norm fun M hM => ?_
  simp only [List.cons_append, List.nil_append] at hM
  subst M
  obtain ⟨pm, g, cap, sb, fb, vs, vc, lm, fl⟩ := x
  obtain ⟨hok, hcap, hcap2, hlm, hfl⟩ := hx
  dsimp only at hcap hcap2 hlm hfl ⊢
  have hst := hok.stop_eq
  refine xt O<|n_code<|t_seq<|t_seq<|t_draw mixed ?_
  apply dq 0 O
  ·exact yq (q_move O)
  apply dq 1 O
  ·exact yq (q_move O)
  have hfail : gr = true ∨ s.limit - s.live < sumC ns → ((∃ n, n ∈ ns ∧ 1048576 < n) ∨ s.limit - s.live < sumC ns) := fun hq => hq.imp (fun e => hgr.1 e) id
  refine d_pt (t := 34) rfl (fun gg => ?_) fun gg => ?_
  ·apply dq 2 O
   ·exact yq_off O O O (by intro k; simp)
   apply dq 3 O
   ·exact yq_off O O O (by intro k; simp)
   apply dq 4 O
   ·exact yq_off O O O (by intro k; simp)
   apply dq 5 O
   ·exact yq_off O O O (by intro k; simp)
   apply dq 6 O
   ·exact yq_off O O O (by intro k; simp)
   apply dq 7 O
   ·exact yq_off O O O (by intro k; simp)
   apply dq 8 O
   ·exact yq_off O O O (by intro k; simp)
   apply dq 9 O
   ·exact yq_off O O O (by intro k; simp)
   apply dq 10 O
   ·exact yq_off O O O (by intro k; simp)
   apply dq 11 O
   ·exact yq_off O O O (by intro k; simp)
   apply dq 12 O
   ·exact yq_off O O O (by intro k; simp)
   apply dq 13 O
   ·exact yq (q_pk O O)
   refine d_end (by kernel_rfl) ?_
   refine n_code<|t_cond_t O<|sr<|asg O O<|asg O O<|lc<|rt ?_
   apply f_ret (.inl rfl) ([arenaH pa s])
   ·apply res2 O
    ·exact .tmp rfl
    ·exact .tmp rfl
   ·exact .inl ⟨hfail (.inl gg), rfl, rfl⟩
   ·refine arena_close (x := ⟨pm, g, cap, sb, fb, vs, vc, lm, fl⟩) ⟨hok, hcap, hcap2, hlm, hfl⟩ ?_; dsimp only [arP]; (exact en)
  ·apply dq 2 O
   ·exact yq_on O O (q_move O)
   apply dq 3 O
   ·exact yq_on O O (q_move O)
   apply dq 4 O
   ·exact yq_on O O (q_nilCheck O)
   apply dq 5 O
   ·exact yq_on O O (qfa 0 O yU83 O O yS3)
   apply dq 6 O
   ·exact yq_on O O (qld O yA3)
   apply dq 7 O
   ·exact yq_on O O (q_move O)
   apply dq 8 O
   ·exact yq_on O O (q_nilCheck O)
   apply dq 9 O
   ·exact yq_on O O (qfa 1 O yU83 O O yS3)
   apply dq 10 O
   ·exact yq_on O O (qld O yA3)
   apply dq 11 O
   ·exact yq_on O O (qsub O O)
   apply dq 12 O
   ·exact yq_on O O (qi O O (b_gtr ·))
   apply dq 13 O
   ·exact yq (q_pk O O)
   refine d_end (by kernel_rfl) ?_
   refine n_code<|t_if O (fun z => ?_) fun z => ?_
   ·refine sr<|asg O O<|asg O O<|lc<|rt ?_
    apply f_ret (.inl rfl) ([arenaH pa s])
    ·apply res2 O
     ·exact .tmp rfl
     ·exact .tmp rfl
    ·exact .inl ⟨.inr z, rfl, rfl⟩
    ·refine arena_close (x := ⟨pm, g, cap, sb, fb, vs, vc, lm, fl⟩) ⟨hok, hcap, hcap2, hlm, hfl⟩ ?_; dsimp only [arP]; (exact en)
   ·have hsmall : ∀ n ∈ ns, n ≤ 1048576 := fun n hm => by rcases Int.lt_or_le 1048576 n with q | q; (have := hgr.2 ⟨n, hm, q⟩; rw [this] at gg; cases gg); exact q
    have hfit : s.live + sumC ns ≤ s.limit := by omega
    refine t_turn (X := Unit) (LL := fun _ => arenaH pa s :: pt p (.cells (ints ns).toArray 3 (0, 0)) :: Fr) (fun w hs => ⟨(), arena_close (x := ⟨pm, g, cap, sb, fb, vs, vc, lm, fl⟩) ⟨hok, hcap, hcap2, hlm, hfl⟩ (by dsimp only [arP]; (exact en)) w hs⟩) fun _ => ?_
    refine t_skip<|nz<|mv O O<|l_q O (ql O yU28) ?_
    apply o_makeSlice1 O O O yU28 yI3 O (by omega) (by omega)
    intro b49
    refine asg O O<|lc<|t_seq<|sr<|mv O O<|l_q O (ql O yU28)<|mv O O<|lc<|t_block ?_
    refine t_loop (fun x : Nat × Value => x.1 ≤ ns.length) (fun x => [(0, .pointer (some ⟨pa, 0, none⟩)), (10, x.2), (50, .slice (some ⟨p, 0, none⟩) ns.length ns.length), (51, .int .i64 ns.length), (52, .int .i64 x.1)]) (fun x => ownS 3 1 x.2 x.1 (ints (s.offs (ns.take x.1))) :: arenaH pa (s.takes (ns.take x.1)) :: pt p (.cells (ints ns).toArray 3 (0, 0)) :: Fr) (fun x => ns.length - x.1) (0, _) (by omega) ⟨rfl, rfl, rfl, rfl, rfl, trivial⟩ (by first | exact Ent.refl _ | (exact en)) ?_
    rintro ⟨j, v10⟩ hj
    dsimp only at hj ⊢
    refine sr<|l_q O (qi O O (b_lss ·))<|lc<|t_seq<|t_if O (fun h3 => ?_) fun h3 => ?_
    ·have hjl : j < ns.length := by omega
     refine t_skip<|n_code<|t_seq<|t_block<|sr<|l_q O (q_indexAddr1 O O yU28 yS3 (by omega)) ?_
     apply l_q O
     ·apply q_load O yA3
      ·exact tk
      ·rw [Nat.zero_add, Int.toNat_natCast]; simp [ints, hjl]; rfl
     refine asg O O<|lz<|mv O O<|mv O O ?_
     have hnj := hn ns[j] (List.getElem_mem hjl)
     have hcj := (classI_bnd hnj).2.2 (hsmall _ (List.getElem_mem hjl))
     have hsp := sumC_split hjl
     have et : (s.takes (ns.take j)).take (classI ns[j]) = s.takes (ns.take (j + 1)) := by rw [take_next hjl, takes_app]
     have eo : ints (s.offs (ns.take j)) ++ [.int .i64 (((s.takes (ns.take j)).at (classI ns[j]) : Nat) : Int)] = ints (s.offs (ns.take (j + 1))) := by rw [take_next hjl, offs_app]; simp [ints]
     have hs2 := (sumC_nn (ns := ns.drop (j + 1)) fun n hm => hn n (List.mem_of_mem_drop hm)).1
     have htk := takes_ok (ns := ns.take j) hok (fun n hm => ⟨hn n (List.mem_of_mem_take hm), hsmall n (List.mem_of_mem_take hm)⟩) (by omega)
     refine lc1 O O O (Class_ok ns[j]) ?_
     refine lc1 O O O (take_ok pa (s.takes (ns.take j)) (classI ns[j]) (class_mem hnj (hsmall _ (List.getElem_mem hjl))) (by rw [htk.2.1, htk.2.2]; omega)) ?_
     refine mv O O<|l_q O (q_extractL O ga) ?_
     refine l_q O (q_extractL O ga) ?_
     refine asg O O<|asg O O<|lc<|t_seq<|sr<|mv O O<|l_q O (qi O O (b_neq ·))<|lc<|t_if O (fun z3 => ?_) fun z3 => ?_
     ·exact absurd rfl z3
     ·refine t_skip<|n_code<|t_region<|mv O O<|mv O O ?_
      refine o_buildSlice1 [_] rfl rfl yU28 yS3 yZ3 rfl rfl rfl rfl (fun b68 => ?_)
      apply o_append (sz := 1) rfl rfl rfl yU28 yI3 rfl rfl
      ·exact tk
      ·exact tk
      ·rfl
      ·rfl
      ·simp only [maxLen]; omega
      ·omega
      intro v69
      refine asg O O<|l_nil<|n_blk<|n_code<|t_region<|l_q O (qadd O O) ?_
      refine mv O O<|l_nil ?_
      rw [et, eo]
      apply n_again ((j + 1, v69))
      ·exact (show j + 1 ≤ ns.length by omega)
      ·dsimp only; omega
      ·exact ⟨O, O, O, O, O, trivial⟩
      ·exact en
    ·refine xt O<|nz<|mv O O<|asg O O<|asg O O<|lc<|rt ?_
     obtain rfl : j = ns.length := by omega
     rw [List.take_length]
     exact fr2 O ([ownS 3 1 v10 ns.length (ints (s.offs ns)), arenaH pa (s.takes ns)]) (.tmp rfl) (.tmp rfl) (.inr ⟨hsmall, hfit, _, rfl, rfl⟩)
theorem AllocAll1_ok (pa : Nat) (s : ArS) (p : Nat) (n : Int) (hn : 1 ≤ n) :
  FnOk Try.prog 50 #[.pointer (some ⟨pa, 0, none⟩), .slice (some ⟨p, 0, none⟩) 1 1] [pt p (.cells #[.int .i64 n] 3 (0, 0)), arenaH pa s]
   (fun v L => ((1048576 < n ∨ s.limit - s.live < classI n) ∧ v = .tuple #[.slice none 0 0, .int .i64 22] ∧ L = [arenaH pa s]) ∨
    (n ≤ 1048576 ∧ s.live + classI n ≤ s.limit ∧ ∃ vo, v = .tuple #[vo, .int .i64 0] ∧ L = [ownS 3 1 vo 1 [.int .i64 ((s.at (classI n) : Nat) : Int)], arenaH pa (s.take (classI n))])) :=
 (AllocAll_ok pa s p 1 [n] rfl (by decide) (by simpa using hn)).mono fun v L h => by
  rcases h with ⟨h1, h2, h3⟩ | ⟨h1, h2, h3⟩
  ·exact .inl ⟨by simpa [sumC] using h1, h2, h3⟩
  ·exact .inr ⟨by simpa using h1, by simpa [sumC] using h2, h3⟩
theorem Alloc_ok (pa : Nat) (s : ArS) (n : Int) (hn : 1 ≤ n) :
  FnOk Try.prog 33 #[.pointer (some ⟨pa, 0, none⟩), .int .i64 n] [arenaH pa s]
   (fun v L => (1048576 < n ∨ s.limit - s.live < classI n) ∧ v = .tuple #[.int .i64 0, .int .i64 22] ∧ L = [arenaH pa s] ∨
    n ≤ 1048576 ∧ s.live + classI n ≤ s.limit ∧ v = .tuple #[.int .i64 (s.at (classI n) : Nat), .int .i64 0] ∧ L = [arenaH pa (s.take (classI n))]) := by
 refine fn_intro en33 Try.func33 rfl rfl rfl fun Fr w0 => t_nm ?_
 refine sr<|asg O O<|asg O O<|lz<|mv O O<|mv O O ?_
 refine o_buildSlice1 [_] rfl rfl yU28 yS3 yZ3 rfl rfl rfl rfl (fun b11 => ?_)
 refine lcf O O O (AllocAll1_ok pa s b11 n hn) ?_
 rintro v L' (⟨hb, rfl, rfl⟩ | ⟨hs, hl, vo, rfl, rfl⟩)
 refine l_nm ?_
 ·skip
  refine mv O O<|l_q O (q_extractL O ga) ?_
  refine l_q O (q_extractL O ga) ?_
  refine asg O O<|asg O O<|lc<|t_seq<|sr<|mv O O<|l_q O (qi O O (b_neq ·))<|lc<|t_if O (fun z => ?_) fun z => ?_
  ·exact sr<|mv O O<|asg O O<|asg O O<|lc<|rt<|fr2 O ([arenaH pa s]) (.tmp rfl) (.tmp rfl) (.inl ⟨hb, rfl, rfl⟩)
  ·exact absurd z (by decide)
 ·skip
  refine l_nm ?_
  refine l_shape (.here) fun _ hsh => ?_
  obtain ⟨a8, c8, rfl, ha8, _, _⟩ := hsh
  obtain ⟨g8, rfl⟩ := ha8 (by decide)
  refine mv O O<|l_q O (q_extractL O ga) ?_
  refine l_q O (q_extractL O ga) ?_
  refine asg O O<|asg O O<|lc<|t_seq<|sr<|mv O O<|l_q O (qi O O (b_neq ·))<|lc<|t_if O (fun z => ?_) fun z => ?_
  ·exact absurd rfl z
  ·refine t_skip<|nz<|mv O O ?_
   first | refine l_q O (q_indexAddrC 0 O O yU28 yS3 (by omega)) ?_ | refine l_q O (q_indexAddr1 O O yU28 yS3 (by omega)) ?_
   apply l_q O
   ·apply q_loadOwn O yA3
    ·exact tk
    ·exact rfl
   exact asg O O<|asg O O<|lc<|rt<|fr2 O ([arenaH pa (s.take (classI n))]) (.tmp rfl) (.tmp rfl) (.inr ⟨hs, hl, rfl, rfl⟩)

/-! ### A new arena -/
theorem Sat.nilH {L : List HP} {w : World} (h : Sat (stars L) w) : Sat (stars (freesH [] :: L)) w := sat_all.2 h
/-- An arena without blocks. -/
def ArS.new (limit : Int) : ArS := ⟨limit, fun _ => 0, [], fun _ => false⟩
theorem ArS.new_ok {limit : Int} (h : 0 ≤ limit ∧ limit ≤ 2097152) : (ArS.new limit).ok := ⟨h, by simp [ArS.new, ArS.live, ArS.bl, ArS.sum]; omega, trivial, fun _ => by simp [ArS.new], fun c => by show (0 : Int) ≤ limit; omega, fun p hp => (by cases hp), fun o ho => (by cases ho)⟩
theorem New_ok (limit : Int) (h : 0 ≤ limit ∧ limit ≤ 2097152) : FnOk Try.prog 15 #[.int .i64 limit] [] (fun v L => ∃ pa, v = .tuple #[.pointer (some ⟨pa, 0, none⟩), .int .i64 0] ∧ L = [arenaH pa (ArS.new limit)]) := by
 refine fn_intro en15 Try.func15 rfl rfl rfl fun Fr w0 => t_nm ?_
 refine sr<|asg O O<|asg O O<|lc<|t_seq<|sr<|mv O O<|l_q O (qi O O (b_lss ·))<|mv O O<|l_pt (t := 8) rfl (fun h1 => ?_) fun h1 => ?_
 ·omega
 ·refine l_on O O<|mv O O<|l_on O O<|l_q O (qi O O (b_gtr ·))<|l_q O (q_pk O O)<|lc<|t_if O (fun h2 => ?_) fun h2 => ?_
  ·omega
  ·refine t_skip<|nz<|lcf O O O (Mem.New_ok 16 (by decide)) ?_
   rintro v L' ⟨pm, g, rfl, rfl⟩
   refine l_nm ?_
   refine mv O O<|l_q O (q_extractL O ga) ?_
   refine l_q O (q_extractL O ga) ?_
   refine asg O O<|asg O O<|lc<|t_seq<|sr<|mv O O<|l_q O (qi O O (b_neq ·))<|lc<|t_if O (fun z => ?_) fun z => ?_
   ·exact absurd rfl z
   ·refine t_skip<|nz<|mv O O<|mv O O ?_
    refine o_makeMap (fun k : Int => Value.int .i64 k) rfl (fun b21 => ?_)
    refine o_makeMap (fun k : Int => Value.int .i64 k) rfl (fun b22 => ?_)
    apply l_q O
    ·apply q_buildS O yP83 yZ83
     ·apply FillR.one
      ·repeat (first | exact PlAt.here | apply PlAt.there)
      ·rfl
      ·exact sa
      apply FillR.one
      ·repeat (first | exact PlAt.here | apply PlAt.there)
      ·rfl
      ·exact sa
      apply FillR.one
      ·repeat (first | exact PlAt.here | apply PlAt.there)
      ·rfl
      ·exact sa
      apply FillR.one
      ·repeat (first | exact PlAt.here | apply PlAt.there)
      ·rfl
      ·exact sa
      exact FillR.nil
    refine o_boxA O O fun b24 => asg O O<|asg O O<|lc<|rt ?_
    apply f_ret (.inl rfl) ([arenaH b24 (ArS.new limit)])
    ·apply res2 O
     ·exact .tmp rfl
     ·exact .tmp rfl
    ·exact ⟨_, rfl, rfl⟩
    ·refine arena_close (x := ⟨pm, g, 16, b21, b22, .slice none 0 0, .slice none 0 0, [], []⟩) ⟨ArS.new_ok h, by simp [ArS.new, ArS.stop, ArS.sum], by simp, ⟨fun p hp => (by rw [mem_bl] at hp; cases hp.1), fun k _ => rfl⟩, fun c => rfl⟩ ?_; exact fun w hw => own_nil (own_nil (Sat.nilH hw)) |> fun h2 => Sel.ent (by dsimp only [arP]; repeat (first | apply Sel.cons | with_reducible exact Sel.nil | apply Sel.rest | exact Take.here | apply Take.there | exact Drop.refl | apply Drop.skip)) w h2
end Go.Proofs.Ytjekhcojebgpnaa.Arena
