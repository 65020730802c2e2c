/- Several tables of the laws over scripts: their pieces of the heap, their rows, their number. No program's code. -/
import Derived.Test.YthkajgkagnenbaaGreatDoorExactT
set_option linter.unusedVariables false
set_option linter.unusedSimpArgs false
set_option linter.unusedSectionVars false
set_option maxRecDepth 100000
namespace Go.Proofs.YthkajgkagnenbaaGreatDoor.Exact
open Go.RowKit Go.Proofs Go.Proofs.YthkajgkagnenbaaGreatDoor.Eng Go.Proofs.YthkajgkagnenbaaGreatDoor.Ty Go.Proofs.YthkajgkagnenbaaGreatDoor.Bits Go.Proofs.YthkajgkagnenbaaGreatDoor.Mem Go.Proofs.YthkajgkagnenbaaGreatDoor.Search Go.Proofs.YthkajgkagnenbaaGreatDoor.Arena Go.Proofs.YthkajgkagnenbaaGreatDoor.CtrlB Go.Proofs.YthkajgkagnenbaaGreatDoor.Ctrl Go.Proofs.YthkajgkagnenbaaGreatDoor.Layout Go.Proofs.YthkajgkagnenbaaGreatDoor.GroupB Go.Proofs.YthkajgkagnenbaaGreatDoor.Group Go.Proofs.YthkajgkagnenbaaGreatDoor.Probe Go.Proofs.YthkajgkagnenbaaGreatDoor.TableB Go.Proofs.YthkajgkagnenbaaGreatDoor.TableI Go.Proofs.YthkajgkagnenbaaGreatDoor.Table Go.Proofs.YthkajgkagnenbaaGreatDoor.Bench Go.Proofs.YthkajgkagnenbaaGreatDoor.Cells Go.Proofs.YthkajgkagnenbaaGreatDoor.Refill Go.Proofs.YthkajgkagnenbaaGreatDoor.RefA Go.Proofs.YthkajgkagnenbaaGreatDoor.RefT Go.Proofs.YthkajgkagnenbaaGreatDoor.Ref03

/-- The document's tables. -/
def rtsH (pr : Nat) (l : Lay) (ps : List PR) : HP := stars (ps.map (rtH pr l))
theorem perm_out {A : Type} : ∀ {xs : List A} {k : Nat} {x : A}, xs[k]? = some x → xs.Perm (x :: xs.eraseIdx k)
 | [], k, x, h => by simp at h
 | a :: r, 0, x, h => by simp at h; subst h; exact .refl _
 | a :: r, k + 1, x, h => by
  have := perm_out (xs := r) (k := k) (x := x) (by simpa using h)
  exact (this.cons a).trans (.swap _ _ _)
theorem erase_set {A : Type} : ∀ {xs : List A} {k : Nat} {x : A}, (xs.set k x).eraseIdx k = xs.eraseIdx k
 | [], k, x => rfl
 | a :: r, 0, x => rfl
 | a :: r, k + 1, x => by simp [erase_set (xs := r)]
theorem set_get {A : Type} {xs : List A} {k : Nat} (h : k < xs.length) (x : A) : (xs.set k x)[k]? = some x := by rw [List.getElem?_set]; simp [h]
theorem rts_open {pr : Nat} {l : Lay} {ps : List PR} {k : Nat} {x : PR} {L : List HP} (h : ps[k]? = some x) : Ent (rtsH pr l ps :: L) (rtH pr l x :: rtsH pr l (ps.eraseIdx k) :: L) := fun w hw => by
 have h1 := sat_all.1 hw
 have h2 := h1.perm (((perm_out h).map (rtH pr l)).append_right L)
 have h3 : Sat (stars ((ps.eraseIdx k).map (rtH pr l) ++ (rtH pr l x :: L))) w := h2.perm (by rw [List.map_cons, List.cons_append]; exact List.perm_middle.symm)
 exact (sat_all.2 h3 : Sat (stars (rtsH pr l (ps.eraseIdx k) :: rtH pr l x :: L)) w).perm (List.Perm.swap _ _ _)
theorem rts_close {pr : Nat} {l : Lay} {ps : List PR} {k : Nat} {x : PR} {L : List HP} (h : k < ps.length) : Ent (rtH pr l x :: rtsH pr l (ps.eraseIdx k) :: L) (rtsH pr l (ps.set k x) :: L) := fun w hw => by
 have h1 : Sat (stars (rtsH pr l (ps.eraseIdx k) :: rtH pr l x :: L)) w := hw.perm (List.Perm.swap _ _ _)
 have h2 := sat_all.1 h1
 have hp := (perm_out (set_get h x)).map (rtH pr l)
 rw [erase_set] at hp
 refine sat_all.2 (h2.perm ?_)
 refine List.perm_middle.trans ?_
 rw [← List.cons_append, ← List.map_cons]
 exact hp.symm.append_right L
theorem rts_push {pr : Nat} {l : Lay} {ps : List PR} {x : PR} {L : List HP} : Ent (rtH pr l x :: rtsH pr l ps :: L) (rtsH pr l (ps ++ [x]) :: L) := fun w hw => by
 have h1 : Sat (stars (rtsH pr l ps :: rtH pr l x :: L)) w := hw.perm (List.Perm.swap _ _ _)
 have h2 := sat_all.1 h1
 refine sat_all.2 (h2.perm ?_)
 rw [List.map_append, List.append_assoc]
 exact .refl _
theorem rts_over (pr : Nat) (l : Lay) (ps : List PR) : rtsH pr l (ps.map overP) = rtsH pr l ps := by
 unfold rtsH
 rw [List.map_map]
 rfl
theorem rts_nil {pr : Nat} {l : Lay} {L : List HP} : Ent L (rtsH pr l [] :: L) := fun w hw => sat_all.2 hw
/-- A pair's cells. -/
def pairC (pa : Nat) (l : Lay) (x : PR) : List Value := [.pointer (some ⟨pa, 0, none⟩), .int .i64 l.key, .int .i64 l.elem, .int .i64 l.ka, .int .i64 l.ea, .int .i64 l.cap, .int .i64 l.eo, .int .i64 l.bo, .int .i64 l.slot, .int .i64 l.group, .int .i64 (x.off : Nat), .pointer (some ⟨x.p, 0, none⟩), .bool x.over]
theorem pair13 (pa : Nat) (l : Lay) (x : PR) : (pairC pa l x).length = 13 := rfl
theorem pair_set {pa : Nat} {l : Lay} {ps : List PR} {k : Nat} {x x' : PR} (h : ps[k]? = some x) (he : pairC pa l x' = pairC pa l x) : rowOf (pairC pa l) (ps.set k x') = rowOf (pairC pa l) ps := by
 unfold rowOf
 have : (ps.set k x').map (pairC pa l) = ps.map (pairC pa l) := by
  rw [List.map_set, he]
  refine List.ext_getElem? fun j => ?_
  rw [List.getElem?_set]
  split
  ·next q => subst q; rw [List.getElem?_map, h, List.length_map]; simp; rcases Nat.lt_or_ge k ps.length with q2 | q2; exact q2; rw [List.getElem?_eq_none q2] at h; cases h
  ·rfl
 rw [List.flatMap_def, List.flatMap_def, this]
theorem overP_live {x : PR} (h : x.dead = false) : overP x = x := by
 cases x
 simp_all [overP]
/-- The first i of them told to be over, where they are dead. -/
def mixP (ps : List PR) (i : Nat) : List PR := (ps.take i).map overP ++ ps.drop i
theorem mix_zero (ps : List PR) : mixP ps 0 = ps := by simp [mixP]
theorem mix_all (ps : List PR) : mixP ps ps.length = ps.map overP := by simp [mixP]
theorem mix_get {ps : List PR} {i : Nat} {x : PR} (h : ps[i]? = some x) : (mixP ps i)[i]? = some x := by
 have hl : i < ps.length := by rcases Nat.lt_or_ge i ps.length with q | q; exact q; rw [List.getElem?_eq_none q] at h; cases h
 unfold mixP
 rw [List.getElem?_append_right (by simp; omega)]
 simp only [List.length_map, List.length_take, Nat.min_eq_left (Nat.le_of_lt hl), Nat.sub_self, List.getElem?_drop, Nat.add_zero]
 exact h
theorem mix_next {ps : List PR} {i : Nat} {x : PR} (h : ps[i]? = some x) : (mixP ps i).set i (overP x) = mixP ps (i + 1) := by
 have hl : i < ps.length := by rcases Nat.lt_or_ge i ps.length with q | q; exact q; rw [List.getElem?_eq_none q] at h; cases h
 unfold mixP
 have hd : ps.drop i = x :: ps.drop (i + 1) := by
  rw [List.getElem?_eq_getElem hl] at h
  rw [List.drop_eq_getElem_cons hl, Option.some.inj h]
 have ht : ps.take (i + 1) = ps.take i ++ [x] := by rw [List.take_add_one, h]; rfl
 have hlen : ((ps.take i).map overP).length = i := by simp; omega
 rw [hd, ht, List.map_append, List.set_append_right _ _ (by omega), hlen, Nat.sub_self, List.append_assoc]
 rfl
/-- How many are dead. -/
def deadN (ps : List PR) : Nat := (ps.filter (·.dead)).length
theorem deadN_over (ps : List PR) : deadN (ps.map overP) = deadN ps := by
 unfold deadN
 rw [List.filter_map, List.length_map]
 rfl
theorem deadN_app (ps : List PR) (x : PR) (h : x.dead = false) : deadN (ps ++ [x]) = deadN ps := by
 unfold deadN
 rw [List.filter_append]
 simp [h]
theorem deadN_set (ps : List PR) (k : Nat) (x : PR) : deadN (ps.set k x) ≤ deadN ps + 1 := by
 unfold deadN
 induction ps generalizing k with
 | nil => simp
 | cons a r ih =>
  cases k with
  | zero =>
   rw [List.set_cons_zero, List.filter_cons, List.filter_cons]
   split <;> split <;> simp <;> omega
  | succ k =>
   have := ih k
   rw [List.set_cons_succ, List.filter_cons, List.filter_cons]
   split
   ·simp only [List.length_cons]; omega
   ·exact this
theorem deadN_same {ps : List PR} {k : Nat} {x x' : PR} (h : ps[k]? = some x) (hd : x'.dead = x.dead) : deadN (ps.set k x') = deadN ps := by
 unfold deadN
 induction ps generalizing k with
 | nil => simp at h
 | cons a r ih =>
  cases k with
  | zero =>
   simp at h
   subst h
   rw [List.set_cons_zero, List.filter_cons, List.filter_cons, hd]
   split <;> simp
  | succ k =>
   have := ih (k := k) (by simpa using h)
   rw [List.set_cons_succ, List.filter_cons, List.filter_cons]
   split
   ·simp only [List.length_cons]; omega
   ·exact this
theorem nodup_le : ∀ {xs ys : List Int}, xs.Nodup → (∀ x ∈ xs, x ∈ ys) → xs.length ≤ ys.length
 | [], ys, _, _ => Nat.zero_le _
 | x :: r, ys, hn, h => by
  rw [List.nodup_cons] at hn
  have hx := h x List.mem_cons_self
  have := nodup_le (xs := r) (ys := ys.erase x) hn.2 fun y hy => (List.mem_erase_of_ne (show y ≠ x from fun e => hn.1 (by rw [← e]; exact hy))).2 (h y (List.mem_cons_of_mem _ hy))
  rw [List.length_erase_of_mem hx] at this
  have := List.length_pos_of_mem hx
  simp only [List.length_cons]; omega
theorem sum_len : ∀ {l : List (Int × Int)}, (∀ p ∈ l, 16 ≤ p.2) → 16 * (l.length : Int) ≤ ArS.sum l
 | [], _ => by simp [ArS.sum]
 | p :: r, h => by
  have := sum_len (l := r) fun q hq => h q (List.mem_cons_of_mem _ hq)
  have := h p List.mem_cons_self
  simp only [ArS.sum, List.length_cons]; omega
/-- Few are live at once. -/
theorem All.few {s : ArS} (hs : s.ok) {l : Lay} {ps : List PR} (h : All s l ps) : ps.length ≤ deadN ps + 131072 := by
 have h1 : (ps.filter fun x => !x.dead).length + deadN ps = ps.length := by
  unfold deadN
  clear h
  induction ps with
  | nil => rfl
  | cons a r ih =>
   rw [List.filter_cons, List.filter_cons]
   cases a.dead <;> simp only [Bool.not_false, Bool.not_true, if_true, Bool.false_eq_true, if_false, List.length_cons] <;> omega
 have hnd : ((ps.filter fun x => !x.dead).map fun x => ((x.off : Nat) : Int)).Nodup := by
  rw [List.nodup_iff_pairwise_ne, List.pairwise_map, List.pairwise_filter]
  rw [List.pairwise_iff_getElem]
  intro i j hi hj hij d1 d2 e
  have := (h.two i j ps[i] ps[j] (by omega) (List.getElem?_eq_getElem hi) (List.getElem?_eq_getElem hj) (by simpa using d1) (by simpa using d2)).1
  omega
 have h2 := nodup_le (ys := s.bl.map (·.1)) hnd fun o ho => by
  obtain ⟨x, hx, rfl⟩ := List.mem_map.1 ho
  rw [List.mem_filter] at hx
  exact List.mem_map.2 ⟨_, ((h.one x hx.1).live (by simpa using hx.2)).2.1, rfl⟩
 rw [List.length_map, List.length_map] at h2
 have h3 := sum_len (l := s.bl) fun p hp => (classes_pos p.2 (hs.isC p (mem_bl.1 hp).1)).1
 have h4 := hs.room
 have h5 := hs.limit
 unfold ArS.live at h4
 omega
end Go.Proofs.YthkajgkagnenbaaGreatDoor.Exact
