import Derived.Test.YtgijnebgchkenaaGreatDoorArena
import Derived.Test.YtgijnebgchkenaaGreatDoorEngStr
/- More contracts of package arena: reading and writing strings, new blocks, a new arena. -/
set_option linter.unusedVariables false
set_option linter.unusedSimpArgs false
set_option maxRecDepth 100000
namespace Go.Proofs.YtgijnebgchkenaaGreatDoor.Arena
open Go.RowKit Go.Proofs Go.Proofs.YtgijnebgchkenaaGreatDoor.Eng Go.Proofs.YtgijnebgchkenaaGreatDoor.Ty Go.Proofs.YtgijnebgchkenaaGreatDoor.Bits Go.Proofs.YtgijnebgchkenaaGreatDoor.Mem Go.Proofs.YtgijnebgchkenaaGreatDoor.Search

theorem ArS.put_limit (s : ArS) (o k : Nat) (f : Nat → Int) : (s.put o k f).limit = s.limit := rfl
theorem ArS.put_live (s : ArS) (o k : Nat) (f : Nat → Int) : (s.put o k f).live = s.live := rfl
theorem ArS.put_stop (s : ArS) (o k : Nat) (f : Nat → Int) : (s.put o k f).stop = s.stop := rfl
theorem ArS.put_bl (s : ArS) (o k : Nat) (f : Nat → Int) : (s.put o k f).bl = s.bl := rfl
theorem ArS.put_m (s : ArS) (o k : Nat) (f : Nat → Int) : (s.put o k f).m = layM s.m o k f := rfl
theorem goodP.ne {s : ArS} {off n : Int} (h : goodP s off n) : s.bl ≠ [] := by
  obtain ⟨_, p, hp, _⟩ := h
  intro e; rw [e] at hp; cases hp
theorem goodP.sub {s : ArS} {off n off' n' : Int} (h : goodP s off n) (h0 : 0 ≤ n') (h1 : off ≤ off') (h2 : off' + n' ≤ off + n) : goodP s off' n' := by
  obtain ⟨_, p, hp, p1, p2⟩ := h
  exact ⟨h0, p, hp, by omega, by omega⟩
theorem goodP.put {s : ArS} {off n : Int} {o k : Nat} {f : Nat → Int} (h : goodP s off n) : goodP (s.put o k f) off n := h
theorem arena_ok {pa : Nat} {s : ArS} {L M : List HP} {w : World} (h : Sat (stars L) w) (ht : Take (arenaH pa s) L M) : s.ok := by
  obtain ⟨x, hx, _⟩ := sat_exP.1 (h.take ht)
  exact hx.1
theorem byteAt_bytes (s : ByteArray) (i : Nat) : 0 ≤ byteAt s i ∧ byteAt s i < 256 := by
  unfold byteAt
  split
  · next h => have := (s[i]'h).toNat_lt; omega
  · omega
theorem catM_bytes (ss : List ByteArray) : ∀ i, 0 ≤ catM ss i ∧ catM ss i < 256 := by
  induction ss with
  | nil => intro i; simp [catM]
  | cons s r ih => intro i; simp only [catM]; split; exact byteAt_bytes _ _; exact ih _

/-! ### The same with places that are whole numbers -/
theorem Load_okI (pa : Nat) (s : ArS) (off w : Int) (o k : Nat) (ho : off = (o : Nat)) (hw : w = (k : Nat)) (hk : wid k) (hg : goodP s off w) : FnOk Tryz.prog 46 #[.pointer (some ⟨pa, 0, none⟩), .int .i64 off, .int .i64 w] [arenaH pa s]
    (fun v L => v = .tuple #[.int .u64 (loadN s.m o k), .int .i64 0] ∧ L = [arenaH pa s]) := by subst ho; subst hw; exact Load_ok pa s o k hk hg hg.ne
theorem Store_okI (pa : Nat) (s : ArS) (off w : Int) (o k : Nat) (v : Int) (ho : off = (o : Nat)) (hw : w = (k : Nat)) (hv : 0 ≤ v ∧ v < 18446744073709551616) (hk : wid k) (hg : goodP s off w) : FnOk Tryz.prog 137 #[.pointer (some ⟨pa, 0, none⟩), .int .i64 off, .int .i64 w, .int .u64 v] [arenaH pa s]
    (fun r L => r = .int .i64 0 ∧ L = [arenaH pa (s.put o k (byteN v))]) := by subst ho; subst hw; exact Store_ok pa s o k v hv hk hg hg.ne
theorem Fill_okI (pa : Nat) (s : ArS) (off n : Int) (o k : Nat) (b : Int) (ho : off = (o : Nat)) (hw : n = (k : Nat)) (hb : 0 ≤ b ∧ b < 256) (hg : goodP s off n) : FnOk Tryz.prog 140 #[.pointer (some ⟨pa, 0, none⟩), .int .i64 off, .int .i64 n, .int .u8 b] [arenaH pa s]
    (fun r L => r = .int .i64 0 ∧ L = [arenaH pa (s.put o k (fun _ => b))]) := by subst ho; subst hw; exact Fill_ok pa s o k b hb hg hg.ne
theorem Equal_okI (pa : Nat) (s : ArS) (a b n : Int) (a' b' k : Nat) (ea : a = (a' : Nat)) (eb : b = (b' : Nat)) (hw : n = (k : Nat)) (ha : goodP s a n) (hb : goodP s b n) : FnOk Tryz.prog 164 #[.pointer (some ⟨pa, 0, none⟩), .int .i64 a, .int .i64 b, .int .i64 n] [arenaH pa s]
    (fun r L => (∃ q : Bool, r = .tuple #[.bool q, .int .i64 0] ∧ (q = true ↔ ∀ i, i < k → s.m (a' + i) = s.m (b' + i))) ∧ L = [arenaH pa s]) := by subst ea; subst eb; subst hw; exact Equal_ok pa s a' b' k ha hb ha.ne

theorem Read_ok (pa : Nat) (s : ArS) (off k : Nat) (hg : goodP s off k) : FnOk Tryz.prog 82 #[.pointer (some ⟨pa, 0, none⟩), .int .i64 off, .int .i64 k] [arenaH pa s]
    (fun v L => v = .tuple #[.string (strM s.m off k), .int .i64 0] ∧ L = [arenaH pa s]) := by
  refine fn_intro en82 Tryz.func82 rfl rfl rfl fun Fr w0 => t_nm ?_
  refine sr <| asg rfl rfl <| asg rfl rfl <| lc <| t_seq <| sr <| mv rfl rfl <| mv rfl rfl <| mv rfl rfl <| lcf rfl rfl rfl (good_ok pa s hg.ne off k) ?_
  rintro v' L' ⟨⟨q, rfl, hq⟩, rfl⟩
  refine l_nm ?_
  refine l_q rfl (q_un rfl (u_not ·)) <| lc <| t_if rfl (fun z => ?_) fun z => ?_
  · rw [hq.2 hg] at z; cases z
  · skip
    refine arena_open fun x hx => ?_
    refine t_norm fun M hM => ?_
    simp only [List.cons_append, List.nil_append] at hM
    subst M
    obtain ⟨pm, g, cap, sb, fb, vs, vc⟩ := x
    obtain ⟨hok, hcap, hcap2⟩ := hx
    dsimp only at hcap hcap2 ⊢
    have hst := hok.stop_eq
    have hge := goodP.end_le hok hg
    refine t_skip <| nz <| mv rfl rfl <| l_q rfl (q_nilCheck rfl) <| l_q rfl (qfa 2 rfl yU128 rfl rfl yS124) <| l_q rfl (qld rfl yA124) ?_
    refine mv rfl rfl <| mv rfl rfl <| lcf rfl rfl rfl (Mem.Read_ok pm g s.stop cap off k s.m (by omega) hcap (by omega)) ?_
    rintro v' L' ⟨g2, rfl, rfl⟩
    refine l_nm ?_
    refine mv rfl rfl <| l_q rfl (q_extractL rfl ga) ?_
    refine l_q rfl (q_extractL rfl ga) ?_
    refine asg rfl rfl <| asg rfl rfl <| lz <| mv rfl rfl ?_
    apply l_q rfl
    · apply q_bytesStr (strM s.m off k) rfl Tryz.underlying218 Tryz.underlying5 Tryz.underlying9
      · simp [strM, ByteArray.size]
      · rw [strM_bytes hok.bytes]; exact reads_mem0 (by exact tk)
    refine mv rfl rfl <| asg rfl rfl <| asg rfl rfl <| lc <| rt ?_
    apply f_ret (.inl rfl) ([arenaH pa s])
    · apply res2 rfl
      · exact .tmp rfl
      · exact .tmp rfl
    · exact ⟨rfl, rfl⟩
    · refine arena_close (x := ⟨pm, g, cap, sb, fb, vs, vc⟩) ⟨hok, hcap, hcap2⟩ ?_; dsimp only [arP]; (exact en)
theorem Read_okI (pa : Nat) (s : ArS) (off n : Int) (o k : Nat) (ho : off = (o : Nat)) (hw : n = (k : Nat)) (hg : goodP s off n) : FnOk Tryz.prog 82 #[.pointer (some ⟨pa, 0, none⟩), .int .i64 off, .int .i64 n] [arenaH pa s]
    (fun v L => v = .tuple #[.string (strM s.m o k), .int .i64 0] ∧ L = [arenaH pa s]) := by subst ho; subst hw; exact Read_ok pa s o k hg

/-- Strings as cells. -/
def strs (ss : List ByteArray) : List Value := ss.map fun s => .string s
theorem bytesAll_nil {L : List HP} : Ent L (bytesAll [] [] :: L) := fun w h => sat_all.2 h
theorem bytesAll_add {vs : List Value} {ss : List ByteArray} {v : Value} {s : ByteArray} {L : List HP} (hl : vs.length = ss.length) : Ent (byteS v s :: bytesAll vs ss :: L) (bytesAll (vs ++ [v]) (ss ++ [s]) :: L) := fun w h => by
  have h1 := (h.perm (.swap _ _ _) : Sat (stars (bytesAll vs ss :: byteS v s :: L)) w)
  have h2 := sat_all.1 h1
  refine sat_all.2 ?_
  unfold bytesAll at *
  rw [List.zipWith_append hl]
  simpa using h2
theorem take_next {α : Type} {l : List α} {j : Nat} (h : j < l.length) : l.take (j + 1) = l.take j ++ [l[j]] := by rw [List.take_add_one, List.getElem?_eq_getElem h]; rfl
theorem Write_ok (pa : Nat) (s : ArS) (p k off : Nat) (ss : List ByteArray) (hk : ss.length = k) (hk1 : 1 ≤ k) (hkb : k ≤ 1000) (hg : goodP s off (totS ss)) :
    FnOk Tryz.prog 132 #[.pointer (some ⟨pa, 0, none⟩), .int .i64 off, .slice (some ⟨p, 0, none⟩) k k] [pt p (.cells (strs ss).toArray 9 (0, 0)), arenaH pa s]
      (fun r L => r = .int .i64 0 ∧ L = [arenaH pa (s.put off (totS ss) (catM ss))]) := by
  refine fn_intro en132 Tryz.func132 rfl rfl rfl fun Fr w0 => t_nm ?_
  refine t_pure (φ := s.ok) (fun w hw => arena_ok hw (.there .here)) fun hok0 => ?_
  have hge := goodP.end_le hok0 hg
  have hst0 := hok0.stop_eq
  refine sr <| asg rfl rfl <| lz <| asg rfl rfl <| lz <| mv rfl rfl <| l_q rfl (ql rfl yU238) ?_
  apply o_makeSlice1 rfl rfl rfl yU239 yI218 rfl (by omega) (by omega)
  intro b13
  refine asg rfl rfl <| lc <| t_seq <| sr <| mv rfl rfl <| l_q rfl (ql rfl yU238) <| mv rfl rfl <| lc <| t_block ?_
  refine t_ent (L' := bytesAll [] [] :: ownS 218 1 (.slice (some ⟨b13, 0, none⟩) 0 k) 0 [] :: pt p (.cells (strs ss).toArray 9 (0, 0)) :: arenaH pa s :: Fr) ?_ ?_
  · refine (Ent.trans (M := ownS 218 1 (.slice (some ⟨b13, 0, none⟩) 0 k) 0 [] :: pt p (.cells (strs ss).toArray 9 (0, 0)) :: arenaH pa s :: Fr) ?_ bytesAll_nil)
    have e : (Int.toNat ((k : Nat) : Int)) = k := Int.toNat_natCast k
    first | exact Ent.refl _ | (simp only [Int.toNat_natCast]; exact Ent.refl _)
  refine t_loop (fun x : Nat × List Value × Value => x.1 ≤ k ∧ x.2.1.length = x.1) (fun x => [(0, .pointer (some ⟨pa, 0, none⟩)), (1, .int .i64 off), (7, .int .i64 (totS (ss.take x.1) : Nat)), (8, x.2.2), (14, .slice (some ⟨p, 0, none⟩) k k), (15, .int .i64 k), (16, .int .i64 x.1)]) (fun x => bytesAll x.2.1 (ss.take x.1) :: ownS 218 1 x.2.2 x.1 x.2.1 :: pt p (.cells (strs ss).toArray 9 (0, 0)) :: arenaH pa s :: Fr) (fun x => k - x.1) (0, [], .slice (some ⟨b13, 0, none⟩) 0 k) ⟨by omega, rfl⟩ ⟨rfl, rfl, rfl, rfl, rfl, rfl, rfl, trivial⟩ (Ent.refl _) ?_
  rintro ⟨j, vs, v8⟩ ⟨hj, hvl⟩
  dsimp only at hj hvl ⊢
  have hle := tot_le ss (j + 1)
  refine sr <| l_q rfl (qi rfl rfl (b_lss ·)) <| lc <| t_seq <| t_if rfl (fun h => ?_) fun h => ?_
  · have hjl : j < ss.length := by omega
    have htt := tot_take (List.getElem?_eq_getElem hjl)
    refine t_skip <| n_code <| t_seq <| t_block <| sr <| l_q rfl (q_indexAddr1 rfl rfl yU238 yS9 (by omega)) ?_
    apply l_q rfl
    · apply q_load rfl yA9
      · exact tk
      · rw [Nat.zero_add, Int.toNat_natCast]; simp [strs, hjl]; rfl
    refine asg rfl rfl <| lz <| mv rfl rfl <| mv rfl rfl <| l_q rfl (qls rfl yU9) <| l_q rfl (qadd rfl rfl) ?_
    refine asg rfl rfl <| lr <| mv rfl rfl <| mv rfl rfl ?_
    refine o_strBytes rfl rfl yU9 yU218 yU5 (fun b26 cap26 => ?_)
    refine o_buildSlice1 [_] rfl rfl yU239 yS218 yZ218 rfl rfl rfl rfl (fun b27 => ?_)
    apply o_append (sz := 1) rfl rfl rfl yU239 yI218 rfl rfl
    · exact tk
    · exact tk
    · rfl
    · rfl
    · simp only [maxLen]; omega
    · omega
    intro v28
    refine asg rfl rfl <| l_nil <| n_blk <| n_code <| t_region <| l_q rfl (qadd rfl rfl) ?_
    refine mv rfl rfl <| l_nil ?_
    refine n_ent (L' := bytesAll (vs ++ [.slice (some ⟨b26, 0, none⟩) ss[j].size cap26]) (ss.take j ++ [ss[j]]) :: ownS 218 1 v28 (j + 1) (vs ++ [.slice (some ⟨b26, 0, none⟩) ss[j].size cap26]) :: pt p (.cells (strs ss).toArray 9 (0, 0)) :: arenaH pa s :: Fr) ?_ ?_
    · refine Ent.trans (M := byteS (.slice (some ⟨b26, 0, none⟩) ss[j].size cap26) ss[j] :: bytesAll vs (ss.take j) :: ownS 218 1 v28 (j + 1) (vs ++ [.slice (some ⟨b26, 0, none⟩) ss[j].size cap26]) :: pt p (.cells (strs ss).toArray 9 (0, 0)) :: arenaH pa s :: Fr) ?_ (bytesAll_add (by simp [hvl]; omega))
      (exact en)
    rw [← take_next hjl]
    apply n_again ((j + 1, vs ++ [.slice (some ⟨b26, 0, none⟩) ss[j].size cap26], v28))
    · exact ⟨by dsimp only; omega, by simp [hvl]⟩
    · dsimp only; omega
    · exact ⟨rfl, rfl, by dsimp only; rw [htt, Int.natCast_add]; rfl, rfl, rfl, rfl, rfl, trivial⟩
    · exact en
  · refine xt rfl <| n_code <| t_seq <| sr <| mv rfl rfl <| mv rfl rfl <| mv rfl rfl ?_
    have hjk : j = ss.length := by omega
    subst hjk
    rw [List.take_length]
    refine lcf rfl rfl rfl (good_ok pa s hg.ne off (totS ss)) ?_
    rintro v' L' ⟨⟨q, rfl, hq⟩, rfl⟩
    refine l_nm ?_
    refine l_q rfl (q_un rfl (u_not ·)) <| lc <| t_if rfl (fun z => ?_) fun z => ?_
    · rw [hq.2 hg] at z; cases z
    · skip
      refine t_shape (.there (.there .here)) fun _ hsh => ?_
      obtain ⟨a8, c8, rfl, ha8, hc8, hcm8⟩ := hsh
      obtain ⟨g8, rfl⟩ := ha8 (by omega)
      refine arena_open fun x hx => ?_
      refine t_norm fun M hM => ?_
      simp only [List.cons_append, List.nil_append] at hM
      subst M
      obtain ⟨pm, g, cap, sb, fb, vs_, vc⟩ := x
      obtain ⟨hok, hcap, hcap2⟩ := hx
      dsimp only at hcap hcap2 ⊢
      have hst := hok.stop_eq
      refine t_skip <| nz <| mv rfl rfl <| l_q rfl (q_nilCheck rfl) <| l_q rfl (qfa 2 rfl yU128 rfl rfl yS124) <| l_q rfl (qld rfl yA124) ?_
      refine mv rfl rfl <| mv rfl rfl <| lcf rfl rfl rfl (Mem.Write_ok pm g s.stop cap off g8 ss.length c8 s.m vs ss (by omega) hcap rfl (by omega) (by omega)) ?_
      rintro v' L' ⟨rfl, rfl⟩
      refine l_nm ?_
      refine asg rfl rfl <| lc <| rt ?_
      apply f_ret (.inl rfl) ([arenaH pa (s.put off (totS ss) (catM ss))])
      · apply res1 rfl
        · exact .tmp rfl
      · exact ⟨rfl, rfl⟩
      · refine arena_close (x := ⟨pm, g, cap, sb, fb, vs_, vc⟩) ⟨ArS.put_ok hok (catM_bytes ss), hcap, hcap2⟩ ?_; dsimp only [arP]; simp only [ArS.put_limit, ArS.put_live, ArS.put_stop, ArS.put_bl, ArS.put_m]; (exact en)
theorem Write5_ok (pa : Nat) (s : ArS) (p off : Nat) (offI : Int) (a b c d e : ByteArray) (ho : offI = (off : Nat)) (hg : goodP s offI (totS [a, b, c, d, e])) :
    FnOk Tryz.prog 132 #[.pointer (some ⟨pa, 0, none⟩), .int .i64 offI, .slice (some ⟨p, 0, none⟩) 5 5] [pt p (.cells #[.string a, .string b, .string c, .string d, .string e] 9 (0, 0)), arenaH pa s]
      (fun r L => r = .int .i64 0 ∧ L = [arenaH pa (s.put off (totS [a, b, c, d, e]) (catM [a, b, c, d, e]))]) := by subst ho; exact Write_ok pa s p 5 off [a, b, c, d, e] rfl (by decide) (by decide) hg
theorem Write1_ok (pa : Nat) (s : ArS) (p off : Nat) (offI : Int) (a : ByteArray) (ho : offI = (off : Nat)) (hg : goodP s offI (totS [a])) :
    FnOk Tryz.prog 132 #[.pointer (some ⟨pa, 0, none⟩), .int .i64 offI, .slice (some ⟨p, 0, none⟩) 1 1] [pt p (.cells #[.string a] 9 (0, 0)), arenaH pa s]
      (fun r L => r = .int .i64 0 ∧ L = [arenaH pa (s.put off (totS [a]) (catM [a]))]) := by subst ho; exact Write_ok pa s p 1 off [a] rfl (by decide) (by decide) hg

/-! ### New blocks -/
/-- One more block, of c bytes. -/
def ArS.take (s : ArS) (c : Int) : ArS := ⟨s.limit, growM s.m s.stop, s.bl ++ [(((s.stop : Nat) : Int), c)]⟩
theorem sum_app (bl : List (Int × Int)) (p : Int × Int) : ArS.sum (bl ++ [p]) = ArS.sum bl + p.2 := by
  induction bl with
  | nil => simp [ArS.sum]
  | cons q r ih => simp only [List.cons_append, ArS.sum, ih]; omega
theorem chain_app : ∀ {o : Int} {bl : List (Int × Int)} {c : Int}, ArS.chain o bl → 1 ≤ c → ArS.chain o (bl ++ [(o + ArS.sum bl, c)])
  | o, [], c, _, hc => by simp [ArS.chain, ArS.sum]; omega
  | o, p :: r, c, h, hc => by
    obtain ⟨h1, h2, h3⟩ := h
    refine ⟨h1, h2, ?_⟩
    have := chain_app h3 hc
    rw [show o + ArS.sum (p :: r) = o + p.2 + ArS.sum r by simp only [ArS.sum]; omega]
    exact this
theorem growM_bytes {m : Nat → Int} (h : ∀ i, 0 ≤ m i ∧ m i < 256) (n : Nat) : ∀ i, 0 ≤ growM m n i ∧ growM m n i < 256 := fun i => by unfold growM; split; exact h i; omega
theorem ArS.take_live (s : ArS) (c : Int) : (s.take c).live = s.live + c := sum_app _ _
theorem ArS.take_ok {s : ArS} (h : s.ok) {c : Int} (hc : 1 ≤ c) (hl : s.live + c ≤ s.limit) : (s.take c).ok := by
  have := h.stop_eq
  refine ⟨h.limit, by rw [ArS.take_live]; exact hl, ?_, growM_bytes h.bytes _⟩
  show ArS.chain 16 (s.bl ++ [(((s.stop : Nat) : Int), c)])
  rw [this.1]; exact chain_app h.chain hc
theorem ArS.take_stop {s : ArS} (h : s.ok) {c : Int} (hc : 1 ≤ c) : ((s.take c).stop : Int) = s.stop + c := by
  have h1 := h.stop_eq
  have h2 := ArS.take_live s c
  have : (s.take c).stop = (16 + (s.take c).live).toNat := rfl
  rw [h2] at this
  omega
theorem goodP.take {s : ArS} {c off n : Int} (h : goodP s off n) : goodP (s.take c) off n := by
  obtain ⟨h0, p, hp, p1, p2⟩ := h
  exact ⟨h0, p, List.mem_append_left _ hp, p1, p2⟩
theorem goodP.new (s : ArS) {c n : Int} (h0 : 0 ≤ n) (h1 : n ≤ c) : goodP (s.take c) ((s.stop : Nat) : Int) n := ⟨h0, _, List.mem_append_right _ (List.mem_singleton_self _), by simp, by simp; omega⟩
theorem set_new {m : List (Int × Value)} {k : Int} {v : Value} (h : lkK m k = none) : setK m k v = m ++ [(k, v)] := by
  induction m with
  | nil => rfl
  | cons p r ih =>
    obtain ⟨j, u⟩ := p
    simp only [lkK] at h
    split at h
    · cases h
    · next q => simp only [setK, if_neg q, ih h, List.cons_append]
theorem chain_new : ∀ {o : Int} {bl : List (Int × Int)}, ArS.chain o bl → lkK (bl.map fun p => (p.1, Value.int .i64 p.2)) (o + ArS.sum bl) = none
  | _, [], _ => rfl
  | o, p :: r, h => by
    obtain ⟨h1, h2, h3⟩ := h
    have hs := (ArS.sum_nonneg h3).1
    simp only [List.map_cons, lkK, ArS.sum]
    rw [if_neg (by omega), show o + (p.2 + ArS.sum r) = o + p.2 + ArS.sum r by omega]
    exact chain_new h3

theorem arena_openL {c : Cx} {fin : Exit → Act → World → Prop} {ds : List Deferred} {E : Env} {ks : List KI} {pa : Nat} {s : ArS} {R : List HP} {ops : Array Oper} {l : List Oper} (k : ∀ x, arOk s x → TL c fin ds E (arP pa s x ++ R) ops l ks) : TL c fin ds E (arenaH pa s :: R) ops l ks :=
  l_turn (X := { x : ArX // arOk s x }) (LL := fun x => arP pa s x.1 ++ R) (fun w hs => let ⟨x, hp, h⟩ := sat_exP.1 hs; ⟨⟨x, hp⟩, h⟩) fun x => k x.1 x.2
theorem Grow_okI (pm g n cap : Nat) (sI : Int) (s : Nat) (m : Nat → Int) (he : sI = (s : Nat)) (hn : n ≤ 134217728) (hc : n ≤ cap) (hcm : cap ≤ 134217728) (h1 : n ≤ s) (h2 : s ≤ 134217728) :
    FnOk Tryz.prog 172 #[.pointer (some ⟨pm, 0, none⟩), .int .i64 sI] [pt pm (.cells #[.slice (some ⟨g, 0, none⟩) n cap] 231 (0, 0)), ownS 5 1 (.slice (some ⟨g, 0, none⟩) n cap) n (memV m n)] (fun r L => ∃ g2 cap2, r = .int .i64 0 ∧ s ≤ cap2 ∧ cap2 ≤ 134217728 ∧ L = [pt pm (.cells #[.slice (some ⟨g2, 0, none⟩) s cap2] 231 (0, 0)), ownS 5 1 (.slice (some ⟨g2, 0, none⟩) s cap2) s (memV (growM m n) s)]) := by subst he; exact Mem.Grow_ok pm g n cap s m hn hc hcm h1 h2
theorem take_ok (pa : Nat) (s : ArS) (c : Int) (hc : 1 ≤ c) (hl : s.live + c ≤ s.limit) : FnOk Tryz.prog 142 #[.pointer (some ⟨pa, 0, none⟩), .int .i64 c] [arenaH pa s]
    (fun v L => v = .tuple #[.int .i64 (s.stop : Nat), .int .i64 0] ∧ L = [arenaH pa (s.take c)]) := by
  refine fn_intro en142 Tryz.func142 rfl rfl rfl fun Fr w0 => t_nm ?_
  refine t_pure (φ := s.ok) (fun w hw => arena_ok hw .here) fun hok0 => ?_
  have hst0 := hok0.stop_eq
  have hlim := hok0.limit
  have hts := ArS.take_stop hok0 hc
  have hsn := ArS.sum_nonneg hok0.chain
  have hlive : s.live = ArS.sum s.bl := rfl
  obtain ⟨cn, hcn⟩ : ∃ cn : Nat, c = (cn : Nat) := ⟨c.toNat, by omega⟩
  have hsn2 : (s.take c).stop = s.stop + cn := by omega
  have hnew := chain_new hok0.chain
  rw [show (16 : Int) + ArS.sum s.bl = ((s.stop : Nat) : Int) by omega] at hnew
  have e3 : ints ((s.take c).bl.map (·.1)) = ints (s.bl.map (·.1)) ++ [.int .i64 ((s.stop : Nat) : Int)] := by simp [ints, ArS.take]
  have e4 : ints ((s.take c).bl.map (·.2)) = ints (s.bl.map (·.2)) ++ [.int .i64 c] := by simp [ints, ArS.take]
  have e5 : ((s.take c).bl.map fun p => (p.1, Value.int .i64 p.2)) = setK (s.bl.map fun p => (p.1, Value.int .i64 p.2)) ((s.stop : Nat) : Int) (.int .i64 c) := by rw [set_new hnew]; simp [ArS.take]
  have e6 : (s.take c).bl.length = s.bl.length + 1 := by simp [ArS.take]
  have e7 : (s.take c).m = growM s.m s.stop := rfl
  have e8 : (s.take c).limit = s.limit := rfl
  refine sr <| asg rfl rfl <| asg rfl rfl <| lz <| mv rfl rfl <| lc1 rfl rfl rfl (End_ok pa s) ?_
  refine arena_openL fun x hx => ?_
  refine l_norm fun M hM => ?_
  simp only [List.cons_append, List.nil_append] at hM
  subst M
  obtain ⟨pm, g, cap, sb, fb, vs, vc⟩ := x
  obtain ⟨hok, hcap, hcap2⟩ := hx
  dsimp only at hcap hcap2 ⊢
  refine asg rfl rfl <| lc <| t_seq <| sr <| mv rfl rfl <| l_q rfl (q_nilCheck rfl) <| l_q rfl (qfa 6 rfl yU128 rfl rfl yS126) <| l_q rfl (qld rfl yA126) ?_
  refine mv rfl rfl ?_
  apply l_q rfl
  · apply q_lookup1 keyInt rfl rfl yU126 yU3 yZ22
    · exact tk
  refine asg rfl rfl <| lz <| mv rfl rfl <| l_q rfl (ql rfl yU22) <| l_q rfl (qi rfl rfl (b_gtr ·)) <| lc <| t_if rfl (fun z => ?_) fun z => ?_
  · exact absurd z (by decide)
  · refine t_seq <| sr <| mv rfl rfl <| l_q rfl (q_nilCheck rfl) <| l_q rfl (qfa 2 rfl yU128 rfl rfl yS124) <| l_q rfl (qld rfl yA124) ?_
    refine mv rfl rfl <| mv rfl rfl <| l_q rfl (qadd rfl rfl) ?_
    refine lcf rfl rfl rfl (Grow_okI pm g s.stop cap _ (s.stop + cn) s.m (by omega) (by omega) hcap hcap2 (by omega) (by omega)) ?_
    rintro v' L' ⟨g2, cap2, rfl, hc2, hc3, rfl⟩
    refine l_nm ?_
    refine asg rfl rfl <| lz <| mv rfl rfl <| l_q rfl (qi rfl rfl (b_neq ·)) <| lc <| t_if rfl (fun z2 => ?_) fun z2 => ?_
    · exact absurd rfl z2
    · refine t_skip <| nz <| mv rfl rfl <| mv rfl rfl <| l_q rfl (q_nilCheck rfl) <| l_q rfl (qfa 3 rfl yU128 rfl rfl yS22) <| l_q rfl (qld rfl yA22) ?_
      refine mv rfl rfl ?_
      refine o_buildSlice1 [_] rfl rfl yU22 yS3 yZ3 rfl rfl rfl rfl (fun b54 => ?_)
      apply o_append (sz := 1) rfl rfl rfl yU22 yI3 rfl rfl
      · exact tk
      · exact tk
      · rfl
      · rfl
      · simp only [maxLen]; omega
      · omega
      intro v55
      refine l_q rfl (q_nilCheck rfl) <| l_q rfl (qfa 3 rfl yU128 rfl rfl yS22) ?_
      refine l_shape .here (fun _ hs57 => ?_)
      obtain ⟨a57, c57, rfl, _, _, _⟩ := hs57
      apply o_storeL rfl rfl rfl yS22 rfl
      · exact tk
      · repeat (first | exact SetAt.here | apply SetAt.there)
      refine lr <| mv rfl rfl <| mv rfl rfl <| l_q rfl (q_nilCheck rfl) <| l_q rfl (qfa 4 rfl yU128 rfl rfl yS22) <| l_q rfl (qld rfl yA22) ?_
      refine mv rfl rfl ?_
      refine o_buildSlice1 [_] rfl rfl yU22 yS3 yZ3 rfl rfl rfl rfl (fun b64 => ?_)
      apply o_append (sz := 1) rfl rfl rfl yU22 yI3 rfl rfl
      · exact tk
      · exact tk
      · rfl
      · rfl
      · simp only [maxLen]; omega
      · omega
      intro v65
      refine l_q rfl (q_nilCheck rfl) <| l_q rfl (qfa 4 rfl yU128 rfl rfl yS22) ?_
      refine l_shape .here (fun _ hs67 => ?_)
      obtain ⟨a67, c67, rfl, _, _, _⟩ := hs67
      apply o_storeL rfl rfl rfl yS22 rfl
      · exact tk
      · repeat (first | exact SetAt.here | apply SetAt.there)
      refine lz <| mv rfl rfl <| l_q rfl (q_nilCheck rfl) <| l_q rfl (qfa 5 rfl yU128 rfl rfl yS125) <| l_q rfl (qld rfl yA125) ?_
      refine mv rfl rfl <| mv rfl rfl ?_
      apply o_mapUpdate keyInt rfl rfl rfl rfl yU125 yU3
      · exact tk
      refine lz <| mv rfl rfl <| l_q rfl (q_nilCheck rfl) <| l_q rfl (qfa 1 rfl yU128 rfl rfl yS3) <| l_q rfl (qld rfl yA3) ?_
      refine mv rfl rfl <| l_q rfl (qadd rfl rfl) ?_
      refine l_q rfl (q_nilCheck rfl) <| l_q rfl (qfa 1 rfl yU128 rfl rfl yS3) <| st rfl rfl rfl yS3 rfl ?_
      refine lz <| mv rfl rfl <| asg rfl rfl <| asg rfl rfl <| lc <| rt ?_
      apply f_ret (.inl rfl) ([arenaH pa (s.take c)])
      · apply res2 rfl
        · exact .tmp rfl
        · exact .tmp rfl
      · exact ⟨rfl, rfl⟩
      · refine arena_close (x := ⟨pm, g2, cap2, sb, fb, .slice a57 (s.bl.length + 1) c57, .slice a67 (s.bl.length + 1) c67⟩) ⟨ArS.take_ok hok hc hl, by rw [hsn2]; exact hc2, hc3⟩ ?_; dsimp only [arP]; rw [ArS.take_live, e3, e4, e5, e6, e7, e8, hsn2]; (exact en)

/-- New blocks, one behind the other. -/
def ArS.takes (s : ArS) (ns : List Int) : ArS := ns.foldl (fun s n => s.take (classI n)) s
def ArS.offs (s : ArS) : List Int → List Int
  | [] => []
  | n :: r => ((s.stop : Nat) : Int) :: (s.take (classI n)).offs r
def sumC (ns : List Int) : Int := (ns.map classI).sum
theorem takes_app (s : ArS) (ns : List Int) (n : Int) : s.takes (ns ++ [n]) = (s.takes ns).take (classI n) := by simp [ArS.takes]
theorem offs_app (s : ArS) (ns : List Int) (n : Int) : s.offs (ns ++ [n]) = s.offs ns ++ [(((s.takes ns).stop : Nat) : Int)] := by
  induction ns generalizing s with
  | nil => rfl
  | cons a r ih => simp only [List.cons_append, ArS.offs, ih]; rfl
theorem sumC_app (ns : List Int) (n : Int) : sumC (ns ++ [n]) = sumC ns + classI n := by simp [sumC]
theorem twoI_bnd {n : Int} (h : n ≤ 1048576) : n ≤ twoI n ∧ 16 ≤ twoI n ∧ twoI n ≤ 1048576 := by
  unfold twoI
  cases e : (List.range 17).find? (fun e => decide (n ≤ 16 * 2 ^ e)) with
  | none =>
    rw [List.find?_range_eq_none] at e
    have := e 16 (by decide)
    simp at this; omega
  | some k =>
    rw [List.find?_range_eq_some] at e
    obtain ⟨h1, h2, _⟩ := e
    simp at h1 h2
    have p0 := Nat.two_pow_pos k
    have pc := pow_cast k
    have p1 : 2 ^ k ≤ 2 ^ 16 := Nat.pow_le_pow_right (by decide) (by omega)
    simp only
    omega
theorem classI_bnd {n : Int} (h0 : 1 ≤ n) : 0 ≤ classI n ∧ classI n ≤ 1048576 ∧ (n ≤ 1048576 → n ≤ classI n ∧ 1 ≤ classI n) := by
  unfold classI
  split
  · omega
  · next h =>
    have := twoI_bnd (n := n) (by omega)
    split <;> omega
theorem sumC_nn : ∀ {ns : List Int}, (∀ n ∈ ns, 1 ≤ n) → 0 ≤ sumC ns ∧ sumC ns ≤ 1048576 * (ns.length : Int)
  | [], _ => by simp [sumC]
  | n :: r, h => by
    have h1 := classI_bnd (h n (by simp))
    have h2 := sumC_nn (ns := r) fun m hm => h m (by simp [hm])
    simp only [sumC, List.map_cons, List.sum_cons, List.length_cons] at h2 ⊢
    omega
theorem takes_ok : ∀ {ns : List Int} {s : ArS}, s.ok → (∀ n ∈ ns, 1 ≤ n ∧ n ≤ 1048576) → s.live + sumC ns ≤ s.limit → (s.takes ns).ok ∧ (s.takes ns).live = s.live + sumC ns ∧ (s.takes ns).limit = s.limit
  | [], s, h, _, _ => ⟨h, by simp [ArS.takes, sumC], rfl⟩
  | n :: r, s, h, hn, hl => by
    have hb := classI_bnd (hn n (by simp)).1
    have hb2 := hb.2.2 (hn n (by simp)).2
    have hs := sumC_nn (ns := r) fun m hm => (hn m (by simp [hm])).1
    have e : sumC (n :: r) = classI n + sumC r := by simp [sumC]
    rw [e] at hl ⊢
    have h1 := ArS.take_ok h hb2.2 (by omega)
    have h2 := takes_ok (ns := r) (s := s.take (classI n)) h1 (fun m hm => hn m (by simp [hm])) (by rw [ArS.take_live]; show _ ≤ s.limit; omega)
    obtain ⟨a, b, c⟩ := h2
    refine ⟨a, ?_, c⟩
    show ((s.take (classI n)).takes r).live = _
    rw [b, ArS.take_live]; omega

theorem sumC_split : ∀ {ns : List Int} {j : Nat} (h : j < ns.length), sumC ns = sumC (ns.take j) + (classI ns[j] + sumC (ns.drop (j + 1)))
  | n :: r, 0, _ => by simp [sumC]
  | n :: r, j + 1, h => by
    have := sumC_split (ns := r) (j := j) (by simpa using h)
    simp only [sumC, List.map_cons, List.sum_cons, List.take_succ_cons, List.drop_succ_cons, List.getElem_cons_succ] at this ⊢
    omega
theorem any_take {ns : List Int} {j : Nat} (hj : j < ns.length) (P : Int → Prop) : (∃ n, n ∈ ns.take (j + 1) ∧ P n) ↔ (∃ n, n ∈ ns.take j ∧ P n) ∨ P ns[j] := by
  rw [take_next hj]; simp only [List.mem_append, List.mem_singleton, or_and_right, exists_or, exists_eq_left]
theorem AllocAll_ok (pa : Nat) (s : ArS) (p k : Nat) (ns : List Int) (hk : ns.length = k) (hkb : k ≤ 1000) (hn : ∀ n ∈ ns, 1 ≤ n) :
    FnOk Tryz.prog 73 #[.pointer (some ⟨pa, 0, none⟩), .slice (some ⟨p, 0, none⟩) k k] [pt p (.cells (ints ns).toArray 3 (0, 0)), arenaH pa s]
      (fun v L => ((∃ n ∈ ns, 1048576 < n) ∨ s.limit - s.live < sumC ns) ∧ v = .tuple #[.slice none 0 0, .int .i64 22] ∧ L = [arenaH pa s] ∨
        (∀ n ∈ ns, n ≤ 1048576) ∧ s.live + sumC ns ≤ s.limit ∧ ∃ vo, v = .tuple #[vo, .int .i64 0] ∧ L = [ownS 3 1 vo k (ints (s.offs ns)), arenaH pa (s.takes ns)]) := by
  subst hk
  refine fn_intro en73 Tryz.func73 rfl rfl rfl fun Fr w0 => t_nm ?_
  refine t_pure (φ := s.ok) (fun w hw => arena_ok hw (.there .here)) fun hok0 => ?_
  have hst0 := hok0.stop_eq
  have hlim := hok0.limit
  refine sr <| asg rfl rfl <| asg rfl rfl <| lz <| asg rfl rfl <| lz <| asg rfl rfl <| lc <| t_seq <| sr <| mv rfl rfl <| l_q rfl (ql rfl yU22) <| mv rfl rfl <| lc <| t_block ?_
  refine t_loop (fun x : Nat × Bool => x.1 ≤ ns.length ∧ (x.2 = true ↔ ∃ n ∈ ns.take x.1, 1048576 < n)) (fun x => [(0, .pointer (some ⟨pa, 0, none⟩)), (1, .slice (some ⟨p, 0, none⟩) ns.length ns.length), (6, .int .i64 (sumC (ns.take x.1))), (7, .bool x.2), (15, .slice (some ⟨p, 0, none⟩) ns.length ns.length), (16, .int .i64 ns.length), (17, .int .i64 x.1)]) (fun x => pt p (.cells (ints ns).toArray 3 (0, 0)) :: arenaH pa s :: Fr) (fun x => ns.length - x.1) (0, false) ⟨by omega, by simp⟩ ⟨rfl, rfl, rfl, rfl, rfl, rfl, rfl, trivial⟩ (Ent.refl _) ?_
  rintro ⟨j, gr⟩ ⟨hj, hgr⟩
  dsimp only at hj hgr ⊢
  have hsum := sumC_nn (ns := ns.take j) fun n hm => hn n (List.mem_of_mem_take hm)
  rw [List.length_take] at hsum
  refine sr <| l_q rfl (qi rfl rfl (b_lss ·)) <| lc <| t_seq <| t_if rfl (fun h => ?_) fun h => ?_
  · have hjl : j < ns.length := by omega
    have hnj := hn ns[j] (List.getElem_mem hjl)
    have hcj := classI_bnd hnj
    have hgt : ∀ b : Bool, (b = true ↔ (gr = true ∨ 1048576 < ns[j])) → (b = true ↔ ∃ n ∈ ns.take (j + 1), 1048576 < n) := fun b hb => by rw [hb, hgr, any_take hjl (fun n => 1048576 < n)]
    refine t_skip <| n_code <| t_seq <| t_block <| sr <| l_q rfl (q_indexAddr1 rfl rfl yU22 yS3 (by omega)) ?_
    apply l_q rfl
    · apply q_load rfl yA3
      · exact tk
      · rw [Nat.zero_add, Int.toNat_natCast]; simp [ints, hjl]; rfl
    refine asg rfl rfl <| lc <| t_seq <| sr <| mv rfl rfl <| l_q rfl (qi rfl rfl (b_lss ·)) <| lc <| t_if rfl (fun q => ?_) fun q => ?_
    · omega
    · refine t_skip <| nz <| mv rfl rfl <| mv rfl rfl <| l_pt (t := 24) rfl (fun r => ?_) fun r => ?_
      · refine l_off rfl rfl rfl rfl <| l_off rfl rfl rfl rfl <| l_q rfl (q_pk rfl rfl) <| asg rfl rfl <| lr <| mv rfl rfl <| mv rfl rfl <| lc1 rfl rfl rfl (Class_ok ns[j]) ?_
        refine l_q rfl (qadd rfl rfl) ?_
        refine asg rfl rfl <| l_nil <| n_blk <| n_code <| t_region <| l_q rfl (qadd rfl rfl) ?_
        refine mv rfl rfl <| l_nil ?_
        apply n_again ((j + 1, true))
        · exact ⟨by dsimp only; omega, hgt true (by simp [r])⟩
        · dsimp only; omega
        · exact ⟨rfl, rfl, by dsimp only; rw [take_next hjl, sumC_app]; rfl, rfl, rfl, rfl, rfl, trivial⟩
        · exact en
      · refine l_on rfl rfl <| mv rfl rfl <| l_on rfl rfl <| l_q rfl (qi rfl rfl (b_gtr ·)) <| l_q rfl (q_pk rfl rfl) <| asg rfl rfl <| lr <| mv rfl rfl <| mv rfl rfl <| lc1 rfl rfl rfl (Class_ok ns[j]) ?_
        refine l_q rfl (qadd rfl rfl) ?_
        refine asg rfl rfl <| l_nil <| n_blk <| n_code <| t_region <| l_q rfl (qadd rfl rfl) ?_
        refine mv rfl rfl <| l_nil ?_
        apply n_again ((j + 1, decide (1048576 < ns[j])))
        · exact ⟨by dsimp only; omega, hgt _ (by simp [r])⟩
        · dsimp only; omega
        · exact ⟨rfl, rfl, by dsimp only; rw [take_next hjl, sumC_app]; rfl, rfl, rfl, rfl, rfl, trivial⟩
        · exact en
  · obtain rfl : j = ns.length := by omega
    rw [List.take_length] at hgr hsum ⊢
    refine t_ent (L' := arenaH pa s :: pt p (.cells (ints ns).toArray 3 (0, 0)) :: Fr) (by (exact en)) ?_
    refine arena_open fun x hx => ?_
    refine t_norm fun M hM => ?_
    simp only [List.cons_append, List.nil_append] at hM
    subst M
    obtain ⟨pm, g, cap, sb, fb, vs, vc⟩ := x
    obtain ⟨hok, hcap, hcap2⟩ := hx
    dsimp only at hcap hcap2 ⊢
    have hst := hok.stop_eq
    refine xt rfl <| n_code <| t_seq <| t_seq <| t_draw mixed ?_
    apply dq 0 rfl
    · exact yq (q_move rfl)
    apply dq 1 rfl
    · exact yq (q_move rfl)
    have hfail : gr = true ∨ s.limit - s.live < sumC ns → ((∃ n, n ∈ ns ∧ 1048576 < n) ∨ s.limit - s.live < sumC ns) := fun hq => hq.imp (fun e => hgr.1 e) id
    refine d_pt (t := 34) rfl (fun gg => ?_) fun gg => ?_
    · apply dq 2 rfl
      · exact yq_off rfl rfl rfl (by intro k; simp)
      apply dq 3 rfl
      · exact yq_off rfl rfl rfl (by intro k; simp)
      apply dq 4 rfl
      · exact yq_off rfl rfl rfl (by intro k; simp)
      apply dq 5 rfl
      · exact yq_off rfl rfl rfl (by intro k; simp)
      apply dq 6 rfl
      · exact yq_off rfl rfl rfl (by intro k; simp)
      apply dq 7 rfl
      · exact yq_off rfl rfl rfl (by intro k; simp)
      apply dq 8 rfl
      · exact yq_off rfl rfl rfl (by intro k; simp)
      apply dq 9 rfl
      · exact yq_off rfl rfl rfl (by intro k; simp)
      apply dq 10 rfl
      · exact yq_off rfl rfl rfl (by intro k; simp)
      apply dq 11 rfl
      · exact yq_off rfl rfl rfl (by intro k; simp)
      apply dq 12 rfl
      · exact yq_off rfl rfl rfl (by intro k; simp)
      apply dq 13 rfl
      · exact yq (q_pk rfl rfl)
      refine d_end (by kernel_rfl) ?_
      refine n_code <| t_cond_t rfl <| sr <| asg rfl rfl <| asg rfl rfl <| lc <| rt ?_
      apply f_ret (.inl rfl) ([arenaH pa s])
      · apply res2 rfl
        · exact .tmp rfl
        · exact .tmp rfl
      · exact .inl ⟨hfail (.inl gg), rfl, rfl⟩
      · refine arena_close (x := ⟨pm, g, cap, sb, fb, vs, vc⟩) ⟨hok, hcap, hcap2⟩ ?_; dsimp only [arP]; (exact en)
    · apply dq 2 rfl
      · exact yq_on rfl rfl (q_move rfl)
      apply dq 3 rfl
      · exact yq_on rfl rfl (q_move rfl)
      apply dq 4 rfl
      · exact yq_on rfl rfl (q_nilCheck rfl)
      apply dq 5 rfl
      · exact yq_on rfl rfl (qfa 0 rfl yU128 rfl rfl yS3)
      apply dq 6 rfl
      · exact yq_on rfl rfl (qld rfl yA3)
      apply dq 7 rfl
      · exact yq_on rfl rfl (q_move rfl)
      apply dq 8 rfl
      · exact yq_on rfl rfl (q_nilCheck rfl)
      apply dq 9 rfl
      · exact yq_on rfl rfl (qfa 1 rfl yU128 rfl rfl yS3)
      apply dq 10 rfl
      · exact yq_on rfl rfl (qld rfl yA3)
      apply dq 11 rfl
      · exact yq_on rfl rfl (qsub rfl rfl)
      apply dq 12 rfl
      · exact yq_on rfl rfl (qi rfl rfl (b_gtr ·))
      apply dq 13 rfl
      · exact yq (q_pk rfl rfl)
      refine d_end (by kernel_rfl) ?_
      refine n_code <| t_if rfl (fun z => ?_) fun z => ?_
      · refine sr <| asg rfl rfl <| asg rfl rfl <| lc <| rt ?_
        apply f_ret (.inl rfl) ([arenaH pa s])
        · apply res2 rfl
          · exact .tmp rfl
          · exact .tmp rfl
        · exact .inl ⟨.inr z, rfl, rfl⟩
        · refine arena_close (x := ⟨pm, g, cap, sb, fb, vs, vc⟩) ⟨hok, hcap, hcap2⟩ ?_; dsimp only [arP]; (exact en)
      · have hsmall : ∀ n ∈ ns, n ≤ 1048576 := fun n hm => by rcases Int.lt_or_le 1048576 n with q | q; (have := hgr.2 ⟨n, hm, q⟩; rw [this] at gg; cases gg); exact q
        have hfit : s.live + sumC ns ≤ s.limit := by omega
        refine t_turn (X := Unit) (LL := fun _ => arenaH pa s :: pt p (.cells (ints ns).toArray 3 (0, 0)) :: Fr) (fun w hs => ⟨(), arena_close (x := ⟨pm, g, cap, sb, fb, vs, vc⟩) ⟨hok, hcap, hcap2⟩ (by dsimp only [arP]; (exact en)) w hs⟩) fun _ => ?_
        refine t_skip <| nz <| mv rfl rfl <| l_q rfl (ql rfl yU22) ?_
        apply o_makeSlice1 rfl rfl rfl yU22 yI3 rfl (by omega) (by omega)
        intro b49
        refine asg rfl rfl <| lc <| t_seq <| sr <| mv rfl rfl <| l_q rfl (ql rfl yU22) <| mv rfl rfl <| lc <| t_block ?_
        refine t_loop (fun x : Nat × Value => x.1 ≤ ns.length) (fun x => [(0, .pointer (some ⟨pa, 0, none⟩)), (10, x.2), (50, .slice (some ⟨p, 0, none⟩) ns.length ns.length), (51, .int .i64 ns.length), (52, .int .i64 x.1)]) (fun x => ownS 3 1 x.2 x.1 (ints (s.offs (ns.take x.1))) :: arenaH pa (s.takes (ns.take x.1)) :: pt p (.cells (ints ns).toArray 3 (0, 0)) :: Fr) (fun x => ns.length - x.1) (0, _) (by omega) ⟨rfl, rfl, rfl, rfl, rfl, trivial⟩ (by first | exact Ent.refl _ | (exact en)) ?_
        rintro ⟨j, v10⟩ hj
        dsimp only at hj ⊢
        refine sr <| l_q rfl (qi rfl rfl (b_lss ·)) <| lc <| t_seq <| t_if rfl (fun h3 => ?_) fun h3 => ?_
        · have hjl : j < ns.length := by omega
          refine t_skip <| n_code <| t_seq <| t_block <| sr <| l_q rfl (q_indexAddr1 rfl rfl yU22 yS3 (by omega)) ?_
          apply l_q rfl
          · apply q_load rfl yA3
            · exact tk
            · rw [Nat.zero_add, Int.toNat_natCast]; simp [ints, hjl]; rfl
          refine asg rfl rfl <| lz <| mv rfl rfl <| mv rfl rfl ?_
          have hnj := hn ns[j] (List.getElem_mem hjl)
          have hcj := (classI_bnd hnj).2.2 (hsmall _ (List.getElem_mem hjl))
          have hsp := sumC_split hjl
          have et : (s.takes (ns.take j)).take (classI ns[j]) = s.takes (ns.take (j + 1)) := by rw [take_next hjl, takes_app]
          have eo : ints (s.offs (ns.take j)) ++ [.int .i64 (((s.takes (ns.take j)).stop : Nat) : Int)] = ints (s.offs (ns.take (j + 1))) := by rw [take_next hjl, offs_app]; simp [ints]
          have hs2 := (sumC_nn (ns := ns.drop (j + 1)) fun n hm => hn n (List.mem_of_mem_drop hm)).1
          have htk := takes_ok (ns := ns.take j) hok (fun n hm => ⟨hn n (List.mem_of_mem_take hm), hsmall n (List.mem_of_mem_take hm)⟩) (by omega)
          refine lc1 rfl rfl rfl (Class_ok ns[j]) ?_
          refine lc1 rfl rfl rfl (take_ok pa (s.takes (ns.take j)) (classI ns[j]) hcj.2 (by rw [htk.2.1, htk.2.2]; omega)) ?_
          refine mv rfl rfl <| l_q rfl (q_extractL rfl ga) ?_
          refine l_q rfl (q_extractL rfl ga) ?_
          refine asg rfl rfl <| asg rfl rfl <| lc <| t_seq <| sr <| mv rfl rfl <| l_q rfl (qi rfl rfl (b_neq ·)) <| lc <| t_if rfl (fun z3 => ?_) fun z3 => ?_
          · exact absurd rfl z3
          · refine t_skip <| n_code <| t_region <| mv rfl rfl <| mv rfl rfl ?_
            refine o_buildSlice1 [_] rfl rfl yU22 yS3 yZ3 rfl rfl rfl rfl (fun b68 => ?_)
            apply o_append (sz := 1) rfl rfl rfl yU22 yI3 rfl rfl
            · exact tk
            · exact tk
            · rfl
            · rfl
            · simp only [maxLen]; omega
            · omega
            intro v69
            refine asg rfl rfl <| l_nil <| n_blk <| n_code <| t_region <| l_q rfl (qadd rfl rfl) ?_
            refine mv rfl rfl <| l_nil ?_
            rw [et, eo]
            apply n_again ((j + 1, v69))
            · exact (show j + 1 ≤ ns.length by omega)
            · dsimp only; omega
            · exact ⟨rfl, rfl, rfl, rfl, rfl, trivial⟩
            · exact en
        · refine xt rfl <| nz <| mv rfl rfl <| asg rfl rfl <| asg rfl rfl <| lc <| rt ?_
          obtain rfl : j = ns.length := by omega
          rw [List.take_length]
          exact fr2 rfl ([ownS 3 1 v10 ns.length (ints (s.offs ns)), arenaH pa (s.takes ns)]) (.tmp rfl) (.tmp rfl) (.inr ⟨hsmall, hfit, _, rfl, rfl⟩)
theorem AllocAll1_ok (pa : Nat) (s : ArS) (p : Nat) (n : Int) (hn : 1 ≤ n) :
    FnOk Tryz.prog 73 #[.pointer (some ⟨pa, 0, none⟩), .slice (some ⟨p, 0, none⟩) 1 1] [pt p (.cells #[.int .i64 n] 3 (0, 0)), arenaH pa s]
      (fun v L => ((1048576 < n ∨ s.limit - s.live < classI n) ∧ v = .tuple #[.slice none 0 0, .int .i64 22] ∧ L = [arenaH pa s]) ∨
        (n ≤ 1048576 ∧ s.live + classI n ≤ s.limit ∧ ∃ vo, v = .tuple #[vo, .int .i64 0] ∧ L = [ownS 3 1 vo 1 [.int .i64 ((s.stop : Nat) : Int)], arenaH pa (s.take (classI n))])) :=
  (AllocAll_ok pa s p 1 [n] rfl (by decide) (by simpa using hn)).mono fun v L h => by
    rcases h with ⟨h1, h2, h3⟩ | ⟨h1, h2, h3⟩
    · exact .inl ⟨by simpa [sumC] using h1, h2, h3⟩
    · exact .inr ⟨by simpa using h1, by simpa [sumC] using h2, h3⟩
theorem AllocAll2_ok (pa : Nat) (s : ArS) (p : Nat) (a b : Int) (ha : 1 ≤ a) (hb : 1 ≤ b) :
    FnOk Tryz.prog 73 #[.pointer (some ⟨pa, 0, none⟩), .slice (some ⟨p, 0, none⟩) 2 2] [pt p (.cells #[.int .i64 a, .int .i64 b] 3 (0, 0)), arenaH pa s]
      (fun v L => ((1048576 < a ∨ 1048576 < b ∨ s.limit - s.live < classI a + classI b) ∧ v = .tuple #[.slice none 0 0, .int .i64 22] ∧ L = [arenaH pa s]) ∨
        (a ≤ 1048576 ∧ b ≤ 1048576 ∧ s.live + (classI a + classI b) ≤ s.limit ∧ ∃ vo, v = .tuple #[vo, .int .i64 0] ∧ L = [ownS 3 1 vo 2 [.int .i64 ((s.stop : Nat) : Int), .int .i64 (((s.take (classI a)).stop : Nat) : Int)], arenaH pa ((s.take (classI a)).take (classI b))])) :=
  (AllocAll_ok pa s p 2 [a, b] rfl (by decide) (by intro n hn; simp at hn; omega)).mono fun v L h => by
    rcases h with ⟨h1, h2, h3⟩ | ⟨h1, h2, h3⟩
    · exact .inl ⟨by simpa [sumC, or_assoc] using h1, h2, h3⟩
    · exact .inr ⟨h1 a (by simp), h1 b (by simp), by simpa [sumC] using h2, h3⟩
theorem Alloc_ok (pa : Nat) (s : ArS) (n : Int) (hn : 1 ≤ n) :
    FnOk Tryz.prog 149 #[.pointer (some ⟨pa, 0, none⟩), .int .i64 n] [arenaH pa s]
      (fun v L => (1048576 < n ∨ s.limit - s.live < classI n) ∧ v = .tuple #[.int .i64 0, .int .i64 22] ∧ L = [arenaH pa s] ∨
        n ≤ 1048576 ∧ s.live + classI n ≤ s.limit ∧ v = .tuple #[.int .i64 (s.stop : Nat), .int .i64 0] ∧ L = [arenaH pa (s.take (classI n))]) := by
  refine fn_intro en149 Tryz.func149 rfl rfl rfl fun Fr w0 => t_nm ?_
  refine sr <| asg rfl rfl <| asg rfl rfl <| lz <| mv rfl rfl <| mv rfl rfl ?_
  refine o_buildSlice1 [_] rfl rfl yU22 yS3 yZ3 rfl rfl rfl rfl (fun b11 => ?_)
  refine lcf rfl rfl rfl (AllocAll1_ok pa s b11 n hn) ?_
  rintro v L' (⟨hb, rfl, rfl⟩ | ⟨hs, hl, vo, rfl, rfl⟩)
  refine l_nm ?_
  · skip
    refine mv rfl rfl <| l_q rfl (q_extractL rfl ga) ?_
    refine l_q rfl (q_extractL rfl ga) ?_
    refine asg rfl rfl <| asg rfl rfl <| lc <| t_seq <| sr <| mv rfl rfl <| l_q rfl (qi rfl rfl (b_neq ·)) <| lc <| t_if rfl (fun z => ?_) fun z => ?_
    · exact sr <| mv rfl rfl <| asg rfl rfl <| asg rfl rfl <| lc <| rt <| fr2 rfl ([arenaH pa s]) (.tmp rfl) (.tmp rfl) (.inl ⟨hb, rfl, rfl⟩)
    · exact absurd z (by decide)
  · skip
    refine l_nm ?_
    refine l_shape (.here) fun _ hsh => ?_
    obtain ⟨a8, c8, rfl, ha8, _, _⟩ := hsh
    obtain ⟨g8, rfl⟩ := ha8 (by decide)
    refine mv rfl rfl <| l_q rfl (q_extractL rfl ga) ?_
    refine l_q rfl (q_extractL rfl ga) ?_
    refine asg rfl rfl <| asg rfl rfl <| lc <| t_seq <| sr <| mv rfl rfl <| l_q rfl (qi rfl rfl (b_neq ·)) <| lc <| t_if rfl (fun z => ?_) fun z => ?_
    · exact absurd rfl z
    · refine t_skip <| nz <| mv rfl rfl ?_
      first | refine l_q rfl (q_indexAddrC 0 rfl rfl yU22 yS3 (by omega)) ?_ | refine l_q rfl (q_indexAddr1 rfl rfl yU22 yS3 (by omega)) ?_
      apply l_q rfl
      · apply q_loadOwn rfl yA3
        · exact tk
        · exact rfl
      exact asg rfl rfl <| asg rfl rfl <| lc <| rt <| fr2 rfl ([arenaH pa (s.take (classI n))]) (.tmp rfl) (.tmp rfl) (.inr ⟨hs, hl, rfl, rfl⟩)

/-! ### A new arena -/
/-- An arena without blocks. -/
def ArS.new (limit : Int) : ArS := ⟨limit, fun _ => 0, []⟩
theorem ArS.new_ok {limit : Int} (h : 0 ≤ limit ∧ limit ≤ 2097152) : (ArS.new limit).ok := ⟨h, by simp [ArS.new, ArS.live, ArS.sum]; omega, trivial, fun _ => by simp [ArS.new]⟩
theorem New_ok (limit : Int) (h : 0 ≤ limit ∧ limit ≤ 2097152) : FnOk Tryz.prog 56 #[.int .i64 limit] [] (fun v L => ∃ pa, v = .tuple #[.pointer (some ⟨pa, 0, none⟩), .int .i64 0] ∧ L = [arenaH pa (ArS.new limit)]) := by
  refine fn_intro en56 Tryz.func56 rfl rfl rfl fun Fr w0 => t_nm ?_
  refine sr <| asg rfl rfl <| asg rfl rfl <| lc <| t_seq <| sr <| mv rfl rfl <| l_q rfl (qi rfl rfl (b_lss ·)) <| mv rfl rfl <| l_pt (t := 8) rfl (fun h1 => ?_) fun h1 => ?_
  · omega
  · refine l_on rfl rfl <| mv rfl rfl <| l_on rfl rfl <| l_q rfl (qi rfl rfl (b_gtr ·)) <| l_q rfl (q_pk rfl rfl) <| lc <| t_if rfl (fun h2 => ?_) fun h2 => ?_
    · omega
    · refine t_skip <| nz <| lcf rfl rfl rfl (Mem.New_ok 16 (by decide)) ?_
      rintro v L' ⟨pm, g, rfl, rfl⟩
      refine l_nm ?_
      refine mv rfl rfl <| l_q rfl (q_extractL rfl ga) ?_
      refine l_q rfl (q_extractL rfl ga) ?_
      refine asg rfl rfl <| asg rfl rfl <| lc <| t_seq <| sr <| mv rfl rfl <| l_q rfl (qi rfl rfl (b_neq ·)) <| lc <| t_if rfl (fun z => ?_) fun z => ?_
      · exact absurd rfl z
      · refine t_skip <| nz <| mv rfl rfl <| mv rfl rfl ?_
        refine o_makeMap (fun k : Int => Value.int .i64 k) rfl (fun b21 => ?_)
        refine o_makeMap (fun k : Int => Value.int .i64 k) rfl (fun b22 => ?_)
        apply l_q rfl
        · apply q_buildS rfl yP128 yZ128
          · apply FillR.one
            · repeat (first | exact PlAt.here | apply PlAt.there)
            · rfl
            · exact sa
            apply FillR.one
            · repeat (first | exact PlAt.here | apply PlAt.there)
            · rfl
            · exact sa
            apply FillR.one
            · repeat (first | exact PlAt.here | apply PlAt.there)
            · rfl
            · exact sa
            apply FillR.one
            · repeat (first | exact PlAt.here | apply PlAt.there)
            · rfl
            · exact sa
            exact FillR.nil
        refine o_boxA rfl rfl fun b24 => asg rfl rfl <| asg rfl rfl <| lc <| rt ?_
        apply f_ret (.inl rfl) ([arenaH b24 (ArS.new limit)])
        · apply res2 rfl
          · exact .tmp rfl
          · exact .tmp rfl
        · exact ⟨_, rfl, rfl⟩
        · refine arena_close (x := ⟨pm, g, 16, b21, b22, .slice none 0 0, .slice none 0 0⟩) ⟨ArS.new_ok h, by simp [ArS.new, ArS.stop, ArS.sum], by simp⟩ ?_; exact fun w hw => own_nil (own_nil hw) |> fun h2 => Sel.ent (by dsimp only [arP]; repeat (first | apply Sel.cons | with_reducible exact Sel.nil | apply Sel.rest | exact Take.here | apply Take.there | exact Drop.refl | apply Drop.skip)) w h2
end Go.Proofs.YtgijnebgchkenaaGreatDoor.Arena
