import Derived.Test.YthkajgkagnenbaaGreatDoorEngStr
import Derived.Test.YthkajgkagnenbaaGreatDoorRefAB
import Derived.Lib.AppendStr
import Derived.Lib.AppendZerosOnto
import Derived.Test.YthkajgkagnenbaaGreatDoorExactP
import Derived.Test.YthkajgkagnenbaaGreatDoorGroup
section
/- The logic's rules for appending a string's bytes or so many zero bytes to a slice of bytes, and for copying a string into one. No program. -/
set_option linter.unusedVariables false
set_option linter.unusedSimpArgs false
namespace Go.Proofs.YthkajgkagnenbaaGreatDoor.Eng
open Go.RowKit

theorem append_ownS {P : Program} {t u ty e : TypeId} {i : TypeInfo} (ht : P.underlying t = some (.slice e)) (hu : P.underlying u = some .string) (hi : P.info? e = some i) (hz : i.zero = some (.int .u8 0))
  (hsize : i.size = 1) (hby : i.bytes = 1) {v : Value} {n : Nat} {xs : List Value} {M : List HP} {w : World} (hs : Sat (stars (ownS e 1 v n xs :: M)) w) (s : ByteArray) (h63 : n + s.size ≤ maxLen) (hbytes : n + s.size ≤ 140737488355328) :
  ∃ v' w', (Builtin.append_ #[t, u] ty #[v, .string s]).run P w = .ok v' w' ∧ Sat (stars (ownS e 1 v' (n + s.size) (xs ++ bytesV s) :: M)) w' ∧ Ext w w' := by
 have hsmall : n + s.size ≤ 9223372036854775807 := by simp only [maxLen] at h63; omega
 obtain ⟨hlen, hc⟩ := own_some hs
 have hlu : (bytesV s).length = s.size := bytesV_len s
 have hlen2 : (xs ++ bytesV s).length = (n + s.size) * 1 := by rw [List.length_append, hlen, hlu]; omega
 have grown : ∀ (old : Nat), Sat (stars M) w → Sat (stars (ownS e 1 (.slice (some ⟨w.heap.size, 0, none⟩) (n + s.size) (grownCap w (n + s.size) old e)) (n + s.size) (xs ++ bytesV s) :: M))
   (w.drew.alloc (.cells (xs.toArray ++ (bytesV s).toArray ++ Builtin.zeroCells (Value.int .u8 0).cells (grownCap w (n + s.size) old e - (n + s.size))) e)) := by
  intro old hM
  have hge := grownCap_ge w (n + s.size) old e
  have hcm : grownCap w (n + s.size) old e ≤ maxLen := grownCap_le_maxLen w (n + s.size) old e h63
  refine own_of_pt (Sat.alloc (A := stars M) hM.drew _) hlen2 hge hcm ?_ ?_
  ·simp only [Array.size_append, List.size_toArray, size_zeroCells, hlen, hlu, show (Value.int .u8 0).cells.size = 1 from rfl]
   omega
  ·simp only [Array.toList_append, List.append_assoc]
   rw [← List.append_assoc, ← hlen2]
   exact List.take_left
 rcases hc with ⟨rfl, rfl, hM⟩ | ⟨g, cap, cur, rfl, hnc, hcm, hcs, htake, hM⟩
 ·have hx : xs = [] := List.eq_nil_of_length_eq_zero (by simpa using hlen)
  subst hx
  by_cases hm : s.size = 0
  ·have hn : bytesV s = [] := List.eq_nil_of_length_eq_zero (by rw [hlu, hm])
   refine ⟨.slice none 0 0, w, ?_, by rw [hn, hm]; exact own_nil hM, Ext.refl w⟩
   have hex : s.extract 0 0 = ByteArray.empty := by apply ByteArray.ext; simp
   simp [Builtin.append_, run_underlying ht, run_underlying hu, sizeOf, typeInfo, hi, Builtin.lenOf, Builtin.firstCells, hm]
  ·have hr := run_append_nil_string (P := P) w t u ty e i (.int .u8 0) ht hu hi hz s (by omega) (by omega) (by rw [hby]; omega)
   have hgr := grown 0 hM
   simp only [Nat.zero_add, List.nil_append, Array.empty_append] at hgr ⊢
   have ha : (bytesV s).toArray = s.data.map (fun b => Value.int .u8 b.toNat) := by apply Array.ext'; simp [bytesV]
   rw [ha] at hgr
   exact ⟨_, _, hr, hgr, (Ext.refl w).drew.alloc _⟩
 ·have hg := hM.block (b := g) .here
  by_cases hroom : n + s.size ≤ cap
  ·have hfit : n + s.size ≤ cur.size := by rw [hcs]; omega
   have hr := Lib.run_append_room_string (P := P) w t u ty e i ht hu hi hsize g n cap cur hg s hroom hfit
   refine ⟨_, _, hr, ?_, ⟨rfl, rfl, rfl, by simp [World.setRow]⟩⟩
   refine own_of_pt (Sat.turn (o' := .cells _ e (0, 0)) hM (setRow_heap w g cur _ e _ hg) (fun k hk _ => setRow_other w g k _ hk)) hlen2 hroom hcm ?_ ?_
   ·simp only [List.size_toArray, List.length_append, List.length_take, List.length_drop, Array.length_toList, Lib.strCells_length]
    omega
   ·rw [Nat.mul_one] at htake
    rw [htake, ← hlen2]
    exact List.take_left
  ·have holds : ∀ j u, xs[j]? = some u → w.cell? ((⟨g, 0, none⟩ : Addr).add j) = some u := fun j u hu => by
    refine cell_row hg j u ?_
    rw [← htake, List.getElem?_take] at hu
    split at hu
    ·exact hu
    ·cases hu
   have hr := Lib.run_append_grow_string (P := P) w t u ty e i (.int .u8 0) ht hu hi hz ⟨g, 0, none⟩ n cap xs (by rw [hsize]; exact hlen) holds s (by omega) (by omega) (growslice_fits (by omega) (by rw [hby]; omega))
   exact ⟨_, _, hr, grown cap hM.tail, (Ext.refl w).drew.alloc _⟩

theorem zeros_list (m : Nat) : (Builtin.zeroCells (Value.int .u8 0).cells m).toList = List.replicate m (.int .u8 0) := by
 show (Builtin.zeroCells #[Value.int .u8 0] m).toList = _
 apply List.ext_getElem?
 intro i
 simp only [Builtin.zeroCells, Array.toList_map, Array.toList_range, List.getElem?_map, List.getElem?_replicate]
 by_cases hi : i < m
 ·rw [List.getElem?_range (by simpa using hi), if_pos hi]; simp [Nat.mod_one]
 ·rw [List.getElem?_eq_none (by simpa using hi), if_neg hi]; rfl
theorem append_ownZ {P : Program} {t u ty e : TypeId} {i : TypeInfo} {kn kq : IntKind} (ht : P.underlying t = some (.slice e)) (hu : P.underlying u = some (.int kn)) (hi : P.info? e = some i) (hz : i.zero = some (.int .u8 0))
  (hsize : i.size = 1) (hby : i.bytes = 1) {v : Value} {n : Nat} {xs : List Value} {M : List HP} {w : World} (hs : Sat (stars (ownS e 1 v n xs :: M)) w) (m : Nat) (h63 : n + m ≤ maxLen) (hbytes : n + m ≤ 140737488355328) :
  ∃ v' w', (Builtin.append_ #[t, u] ty #[v, .int kq m]).run P w = .ok v' w' ∧ Sat (stars (ownS e 1 v' (n + m) (xs ++ List.replicate m (.int .u8 0)) :: M)) w' ∧ Ext w w' := by
 have hsmall : n + m ≤ 9223372036854775807 := by simp only [maxLen] at h63; omega
 obtain ⟨hlen, hc⟩ := own_some hs
 have hlu : (List.replicate m (Value.int .u8 0)).length = m := List.length_replicate
 have hlen2 : (xs ++ List.replicate m (Value.int .u8 0)).length = (n + m) * 1 := by rw [List.length_append, hlen, hlu]; omega
 have hwr : IntKind.i64.wrap (m : Int) = m := by rw [IntKind.wrap_i64]; omega
 have hwr0 : IntKind.i64.wrap 0 = 0 := by decide
 have hneg : ¬ ((m : Int) < 0) := by omega
 have h48i : ¬ (281474976710656 < (m : Int) * (i.bytes : Int)) := by rw [hby]; omega
 have grown : ∀ (old : Nat), Sat (stars M) w → Sat (stars (ownS e 1 (.slice (some ⟨w.heap.size, 0, none⟩) (n + m) (grownCap w (n + m) old e)) (n + m) (xs ++ List.replicate m (.int .u8 0)) :: M))
   (w.drew.alloc (.cells (xs.toArray ++ Builtin.zeroCells (Value.int .u8 0).cells m ++ Builtin.zeroCells (Value.int .u8 0).cells (grownCap w (n + m) old e - (n + m))) e)) := by
  intro old hM
  have hge := grownCap_ge w (n + m) old e
  have hcm : grownCap w (n + m) old e ≤ maxLen := grownCap_le_maxLen w (n + m) old e h63
  refine own_of_pt (Sat.alloc (A := stars M) hM.drew _) hlen2 hge hcm ?_ ?_
  ·simp only [Array.size_append, List.size_toArray, size_zeroCells, hlen, show (Value.int .u8 0).cells.size = 1 from rfl]
   omega
  ·simp only [Array.toList_append, List.append_assoc, zeros_list]
   rw [← List.append_assoc, ← hlen2]
   exact List.take_left
 rcases hc with ⟨rfl, rfl, hM⟩ | ⟨g, cap, cur, rfl, hnc, hcm, hcs, htake, hM⟩
 ·have hx : xs = [] := List.eq_nil_of_length_eq_zero (by simpa using hlen)
  subst hx
  by_cases hm : m = 0
  ·subst hm
   refine ⟨.slice none 0 0, w, ?_, own_nil hM, Ext.refl w⟩
   simp [Builtin.append_, run_underlying ht, run_underlying hu, sizeOf, typeInfo, hi, asInt, asIntOf, hwr, hwr0]
  ·have hr := Lib.run_append_nil_zeros (P := P) w t u ty e i (.int .u8 0) kq kn ht hu hi hz m (by omega) (by omega) (by omega) (by rw [hby]; omega)
   have hgr := grown 0 hM
   simp only [Nat.zero_add, List.nil_append, Array.empty_append] at hgr ⊢
   exact ⟨_, _, hr, hgr, (Ext.refl w).drew.alloc _⟩
 ·have hg := hM.block (b := g) .here
  by_cases hroom : n + m ≤ cap
  ·have hfit : n + m ≤ cur.size := by rw [hcs]; omega
   have hst := run_storeCells_at P g n e (List.replicate m (Value.int .u8 0)) 0 cur w hg (by rw [hlu]; omega) (fun v hv => by rw [(List.mem_replicate.1 hv).2]; rfl)
   rw [Nat.add_zero, hlu] at hst
   have hr : (Builtin.append_ #[t, u] ty #[.slice (some ⟨g, 0, none⟩) n cap, .int kq m]).run P w = .ok (.slice (some ⟨g, 0, none⟩) (n + m) cap) (w.setRow g (cur.toList.take n ++ List.replicate m (Value.int .u8 0) ++ cur.toList.drop (n + m)).toArray) := by
    by_cases hm0 : m = 0
    ·subst hm0
     simp only [List.replicate_zero, Nat.add_zero] at hst ⊢
     simp [Builtin.append_, run_underlying ht, run_underlying hu, sizeOf, typeInfo, zeroValue, hi, hz, hsize, asInt, asIntOf, hwr, hwr0, Addr.add_lit, hnc]
     have hst' : (storeCells ⟨g, n, none⟩ []).run P w = .ok () (w.setRow g cur) := by simpa using hst
     rw [hst']; rfl
    ·simp [Builtin.append_, run_underlying ht, run_underlying hu, sizeOf, typeInfo, zeroValue, hi, hz, hsize, asInt, asIntOf, hwr, hneg, h48i, hroom, hm0, zeros_list, Addr.add_lit, hst]
   refine ⟨_, _, hr, ?_, ⟨rfl, rfl, rfl, by simp [World.setRow]⟩⟩
   refine own_of_pt (Sat.turn (o' := .cells _ e (0, 0)) hM (setRow_heap w g cur _ e _ hg) (fun k hk _ => setRow_other w g k _ hk)) hlen2 hroom hcm ?_ ?_
   ·simp only [List.size_toArray, List.length_append, List.length_take, List.length_drop, Array.length_toList, hlu]
    omega
   ·rw [Nat.mul_one] at htake
    rw [htake, ← hlen2]
    exact List.take_left
  ·have holds : (Builtin.firstCells i.size n (.slice (some ⟨g, 0, none⟩) n cap)).run P w.drew = .ok xs.toArray w.drew := run_firstCells_some (P := P) w.drew i.size n ⟨g, 0, none⟩ n cap xs (by rw [hsize]; exact hlen) (by
    intro j u hu
    have := cell_row hg j u (by
     rw [← htake, List.getElem?_take] at hu
     split at hu
     ·exact hu
     ·cases hu)
    simpa using this)
   have hr := Lib.run_append_grow_zeros (P := P) w t u ty e i (.int .u8 0) kq kn ht hu hi hz (some ⟨g, 0, none⟩) n cap xs holds m (by omega) (by omega) (by omega) (by omega) (by rw [hby]; omega) (growslice_fits (by omega) (by rw [hby]; omega))
   exact ⟨_, _, hr, grown cap hM.tail, (Ext.refl w).drew.alloc _⟩
section
variable {c : Cx} {fin : Exit → Act → World → Prop} {ds : List Deferred} {E : Env} {L : List HP} {ks : List KI} {ops : Array Oper} {rest : List Oper}
variable {d : Option Tmp} {ty : TypeId} {pos : String} {af : Array Edge}
theorem o_appendStr {x y : Operand} {t u e : TypeId} {v : Value} {n : Nat} {s : ByteArray} {xs : List Value} {M : List HP}
  (hd : okDst d c.N = true) (hx : ev E x = some v) (hy : ev E y = some (.string s)) (ht : c.P.underlying t = some (.slice e)) (hu : c.P.underlying u = some .string) (hinf : ∃ i, c.P.info? e = some i ∧ i.zero = some (.int .u8 0) ∧ i.size = 1 ∧ i.bytes = 1) (hown : Take (ownS e 1 v n xs) L M)
  (h63 : n + s.size ≤ maxLen) (hbytes : n + s.size ≤ 140737488355328)
  (k : ∀ v', TL c fin ds (upd d v' E) (ownS e 1 v' (n + s.size) (xs ++ bytesV s) :: M) ops rest ks) :
  TL c fin ds E L ops (⟨d, .call { callee := .builtin .append, args := #[x, y], argTypes := #[t, u] }, ty, pos, af, none⟩ :: rest) ks :=
 l_op hd (by intro k; simp) (fun v' => v') (fun v' => ownS e 1 v' (n + s.size) (xs ++ bytesV s) :: M) (fun a w hs => by
  obtain ⟨i, hi, hz, hsize, hby⟩ := hinf
  obtain ⟨v', w', hr, hsat, hext⟩ := append_ownS (ty := ty) ht hu hi hz hsize hby (hs.sat.take hown) s h63 hbytes
  refine ⟨v', w', ?_, hsat, hext⟩
  simp [execOp, resolve, invoke, builtin, hs.ev hx, hs.ev hy, hr, Result.andThen]) k
theorem o_appendZ {x y : Operand} {t u e : TypeId} {v : Value} {n : Nat} {kn kq : IntKind} {q : Int} (m : Nat) {xs : List Value} {M : List HP}
  (hd : okDst d c.N = true) (hx : ev E x = some v) (hy : ev E y = some (.int kq q)) (hq : q = (m : Nat)) (ht : c.P.underlying t = some (.slice e)) (hu : c.P.underlying u = some (.int kn)) (hinf : ∃ i, c.P.info? e = some i ∧ i.zero = some (.int .u8 0) ∧ i.size = 1 ∧ i.bytes = 1) (hown : Take (ownS e 1 v n xs) L M)
  (h63 : n + m ≤ maxLen) (hbytes : n + m ≤ 140737488355328)
  (k : ∀ v', TL c fin ds (upd d v' E) (ownS e 1 v' (n + m) (xs ++ List.replicate m (.int .u8 0)) :: M) ops rest ks) :
  TL c fin ds E L ops (⟨d, .call { callee := .builtin .append, args := #[x, y], argTypes := #[t, u] }, ty, pos, af, none⟩ :: rest) ks := by
 subst hq
 exact l_op hd (by intro k; simp) (fun v' => v') (fun v' => ownS e 1 v' (n + m) (xs ++ List.replicate m (.int .u8 0)) :: M) (fun a w hs => by
  obtain ⟨i, hi, hz, hsize, hby⟩ := hinf
  obtain ⟨v', w', hr, hsat, hext⟩ := append_ownZ (ty := ty) (kq := kq) ht hu hi hz hsize hby (hs.sat.take hown) m h63 hbytes
  refine ⟨v', w', ?_, hsat, hext⟩
  simp [execOp, resolve, invoke, builtin, hs.ev hx, hs.ev hy, hr, Result.andThen]) k
theorem q_sliceN_lh {gd : Option (Nat × Bool)} {t e : TypeId} {x y z : Operand} {b o n len cap : Nat} {kd kd' : IntKind} {l h : Int} (hx : ev E x = some (.slice (some ⟨b, o, none⟩) len cap)) (hy : ev E y = some (.int kd l)) (hz : ev E z = some (.int kd' h)) (hu : c.P.underlying t = some (.slice e)) (hn : ∀ w, (sizeOf e).run c.P w = .ok n w) (hl : 0 ≤ l ∧ l ≤ h ∧ h ≤ (cap : Int)) :
  QV c ds E L ⟨d, .slice t x (some y) (some z) none, ty, pos, af, gd⟩ (.slice (some ⟨b, tailN n o l.toNat cap, none⟩) (h.toNat - l.toNat) (cap - l.toNat)) :=
 ⟨by intro k; simp, fun a w hs => by
  obtain ⟨m, rfl⟩ := Int.eq_ofNat_of_zero_le hl.1
  obtain ⟨m', rfl⟩ := Int.eq_ofNat_of_zero_le (by omega : 0 ≤ h)
  have := run_sliceN (P := c.P) (w := w) (b := b) (o := o) (len := len) (cap := cap) (l := m) (h := m') (lo := some (.int kd m)) (hi := some (.int kd' m')) hu hn (.inr ⟨kd, rfl⟩) (.inr ⟨kd', rfl⟩) (by omega) (by omega)
  simp [execOp, Instr.sliceAt, run_underlying hu, hs.ev hx, hs.ev hy, hs.ev hz, this, Result.andThen]⟩
/-- A string copied into bytes that have room for it. -/
theorem o_copyStr {t t2 e : TypeId} {x y : Operand} {g o n cap dl dc : Nat} {s : ByteArray} {xs xs' : List Value} {M : List HP} (hd : okDst d c.N = true) (hx : ev E x = some (.slice (some ⟨g, o, none⟩) dl dc)) (hy : ev E y = some (.string s))
  (ht : c.P.underlying t = some (.slice e)) (hinf : ∃ i, c.P.info? e = some i ∧ i.size = 1) (hown : Take (ownS e 1 (.slice (some ⟨g, 0, none⟩) n cap) n xs) L M) (hle : s.size ≤ dl) (hfit : o + s.size ≤ n) (hxs : lay xs o (bytesV s) = xs')
  (k : TL c fin ds (upd d (.int .i64 (s.size : Nat)) E) (ownS e 1 (.slice (some ⟨g, 0, none⟩) n cap) n xs' :: M) ops rest ks) :
  TL c fin ds E L ops (⟨d, .call { callee := .builtin .copy, args := #[x, y], argTypes := #[t, t2] }, ty, pos, af, none⟩ :: rest) ks :=
 l_op (X := Unit) hd (by intro k; simp) (fun _ => .int .i64 (s.size : Nat)) (fun _ => ownS e 1 (.slice (some ⟨g, 0, none⟩) n cap) n xs' :: M) (fun a w hs => by
  subst hxs
  obtain ⟨i, hi, hsz⟩ := hinf
  obtain ⟨w', h2, h3, h4⟩ := own_write (P := c.P) (o := o) (ys := bytesV s) (hs.sat.take hown) (by rw [bytesV_len]; exact hfit) (bytesV_one s)
  have hmin : Nat.min s.size dl = s.size := Nat.min_eq_left hle
  have hf : (Builtin.firstCells 1 s.size (.string s)).run c.P w = .ok (bytesV s).toArray w := Lib.run_firstCells_string w 1 s
  refine ⟨(), w', ?_, h3, h4⟩
  simp [execOp, resolve, invoke, builtin, Builtin.copy_, hs.ev hx, hs.ev hy, run_underlying ht, Builtin.lenOf, sizeOf, typeInfo, hi, hsz, hmin, hf, h2, goInt, Result.andThen]) fun _ => k
end
end Go.Proofs.YthkajgkagnenbaaGreatDoor.Eng
end
section
/- The bytes of a table's two blocks, as the document lays them. No program's code. -/
set_option linter.unusedVariables false
set_option linter.unusedSimpArgs false
set_option maxRecDepth 100000
namespace Go.Proofs.YthkajgkagnenbaaGreatDoor.BytesP
open Go.RowKit Go.Proofs Go.Proofs.YthkajgkagnenbaaGreatDoor.Eng Go.Proofs.YthkajgkagnenbaaGreatDoor.Bits Go.Proofs.YthkajgkagnenbaaGreatDoor.Mem Go.Proofs.YthkajgkagnenbaaGreatDoor.Search Go.Proofs.YthkajgkagnenbaaGreatDoor.Arena Go.Proofs.YthkajgkagnenbaaGreatDoor.CtrlB Go.Proofs.YthkajgkagnenbaaGreatDoor.Layout Go.Proofs.YthkajgkagnenbaaGreatDoor.GroupB Go.Proofs.YthkajgkagnenbaaGreatDoor.Group Go.Proofs.YthkajgkagnenbaaGreatDoor.TableB Go.Proofs.YthkajgkagnenbaaGreatDoor.TableI Go.Proofs.YthkajgkagnenbaaGreatDoor.Table Go.Proofs.YthkajgkagnenbaaGreatDoor.Exact

theorem memV_congr {m m' : Nat → Int} {n : Nat} (h : ∀ i, i < n → m i = m' i) : memV m n = memV m' n := by
 refine List.ext_getElem? fun i => ?_
 by_cases hi : i < n
 ·rw [memV_at hi, memV_at hi, h i hi]
 ·rw [List.getElem?_eq_none (by rw [memV_len]; omega), List.getElem?_eq_none (by rw [memV_len]; omega)]
theorem memV_app {m f : Nat → Int} {a b : Nat} (h : ∀ i, i < b → f i = m (a + i)) : memV m a ++ memV f b = memV m (a + b) := by
 refine List.ext_getElem? fun i => ?_
 by_cases hi : i < a
 ·rw [List.getElem?_append_left (by rw [memV_len]; exact hi), memV_at hi, memV_at (by omega)]
 ·rw [List.getElem?_append_right (by rw [memV_len]; omega), memV_len]
  by_cases hi2 : i < a + b
  ·rw [memV_at (by omega), memV_at hi2, h _ (by omega)]
   congr 3; omega
  ·rw [List.getElem?_eq_none (by rw [memV_len]; omega), List.getElem?_eq_none (by rw [memV_len]; omega)]
theorem memV_snoc {m : Nat → Int} {a : Nat} {z : Int} (h : z = m a) : memV m a ++ [Value.int .u8 z] = memV m (a + 1) := by
 have := memV_app (m := m) (f := fun _ => z) (a := a) (b := 1) (fun i hi => by (obtain rfl : i = 0 := (by omega)); exact h)
 simpa [memV] using this
/-- One more byte of a number. -/
theorem byteN_div (U : Int) (i : Nat) : U / 2 ^ (8 * (i + 1)) = U / 2 ^ (8 * i) / 256 := by
 rw [show 8 * (i + 1) = 8 * i + 8 by omega, Int.pow_add, ← Int.ediv_ediv_of_nonneg (Int.le_of_lt (Int.pow_pos (by decide)))]; rfl
/-- A header's bytes. -/
def hdF (W : Nat → Int) (j : Nat) : Int := byteN (IntKind.u64.wrap (W (j / 8))) (j % 8)
theorem hdF_bnd (W : Nat → Int) (j : Nat) : 0 ≤ hdF W j ∧ hdF W j < 256 := byteN_bnd _ _
theorem hdF_app (W : Nat → Int) (k : Nat) : memV (hdF W) (8 * k) ++ memV (byteN (IntKind.u64.wrap (W k))) 8 = memV (hdF W) (8 * (k + 1)) := by
 rw [memV_app (m := hdF W) (a := 8 * k) (b := 8) fun i hi => ?_]
 ·rw [show 8 * k + 8 = 8 * (k + 1) by omega]
 ·unfold hdF
  rw [show (8 * k + i) / 8 = k by omega, show (8 * k + i) % 8 = i by omega]
/-! ### A group -/
def encP (l : Lay) (cs : Nat → Cell) (i j : Nat) : Int := if (if j < 8 then j else (j - 8) / sN l) < i then encG l cs j else 0
theorem encP_zero (l : Lay) (cs : Nat → Cell) (n : Nat) : memV (fun _ => 0) n = memV (encP l cs 0) n := memV_congr fun i hi => by unfold encP; rw [if_neg (Nat.not_lt_zero _)]
theorem encP_full {l : Lay} (hN : LayN l) (cs : Nat → Cell) : memV (encP l cs 8) (gN l) = memV (encG l cs) (gN l) := memV_congr fun j hj => by
 have := hN.g_eq
 unfold encP
 rw [if_pos]
 split
 ·assumption
 ·exact Nat.div_lt_of_lt_mul (by omega)
theorem encS_full {l : Lay} (h : LayN l) {t : Int} {k e : ByteArray} {b : Int} (hk : k.size = kN l) (he : e.size = eN l) {r : Nat} (hr : r < sN l) :
  encS l (.full t k e b) r = if r < kN l then byteAt k r else if r < eoN l then 0 else if r < eoN l + eN l then byteAt e (r - eoN l) else if r < boN l then 0 else byteN b (r - boN l) := by
 have h1 := h.eo1; have h2 := h.bo1; have h3 := h.s_eq
 simp only [encS, parts, catM, hk, he, zeroS_size, numS_size, byteAt_zero]
 by_cases q1 : r < kN l
 ·rw [if_pos q1, if_pos q1]
 ·rw [if_neg q1, if_neg q1]
  by_cases q2 : r < eoN l
  ·rw [if_pos (show r - kN l < eoN l - kN l by omega), if_pos q2]
  ·rw [if_neg (show ¬ r - kN l < eoN l - kN l by omega), if_neg q2]
   by_cases q3 : r < eoN l + eN l
   ·rw [if_pos (show r - kN l - (eoN l - kN l) < eN l by omega), if_pos q3]; congr 1; omega
   ·rw [if_neg (show ¬ r - kN l - (eoN l - kN l) < eN l by omega), if_neg q3]
    by_cases q4 : r < boN l
    ·rw [if_pos (show r - kN l - (eoN l - kN l) - eN l < boN l - eoN l - eN l by omega), if_pos q4]
    ·rw [if_neg (show ¬ r - kN l - (eoN l - kN l) - eN l < boN l - eoN l - eN l by omega), if_neg q4, if_pos (show r - kN l - (eoN l - kN l) - eN l - (boN l - eoN l - eN l) < 8 by omega), byteAt_num b (by omega)]; congr 1; omega
/-- A place of a group: a control byte, or a slot's. -/
theorem grp_cases {l : Lay} (h : LayN l) {j : Nat} (hj : j < gN l) : j < 8 ∨ ∃ i r, i < 8 ∧ r < sN l ∧ j = 8 + i * sN l + r := by
 rcases Nat.lt_or_ge j 8 with q | q
 ·exact .inl q
 ·have hg := h.g_eq; have hs := h.s_eq
  refine .inr ⟨(j - 8) / sN l, (j - 8) % sN l, Nat.div_lt_of_lt_mul (by omega), Nat.mod_lt _ (by omega), ?_⟩
  have := Nat.div_add_mod (j - 8) (sN l)
  rw [Nat.mul_comm] at this
  omega
theorem encP_ctrl (l : Lay) (cs : Nat → Cell) (i : Nat) {j : Nat} (hj : j < 8) : encP l cs i j = if j < i then (cs j).ctrl else 0 := by
 unfold encP; rw [if_pos hj, encG_ctrl cs hj]
theorem encP_slot {l : Lay} (cs : Nat → Cell) (i : Nat) {k r : Nat} (hr : r < sN l) : encP l cs i (8 + k * sN l + r) = if k < i then encS l (cs k) r else 0 := by
 unfold encP
 obtain ⟨h1, h2⟩ := slot_div (i := k) hr
 have e1 : (if 8 + k * sN l + r < 8 then 8 + k * sN l + r else (8 + k * sN l + r - 8) / sN l) = k := by rw [if_neg (by omega), show 8 + k * sN l + r - 8 = k * sN l + r by omega, h1]
 rw [e1, encG_slot cs hr]
theorem encP_none {l : Lay} (h : LayN l) (cs : Nat → Cell) {i : Nat} (hi : i < 8) {b : Int} (hb : (cs i).ctrl = b) (hc : isFull (cs i) = false) :
  memV (fun j => if j = i then b else encP l cs i j) (gN l) = memV (encP l cs (i + 1)) (gN l) := memV_congr fun j hj => by
 rcases grp_cases h hj with q | ⟨k, r, hk, hr, rfl⟩
 ·rw [encP_ctrl l cs _ q, encP_ctrl l cs _ q]
  by_cases q2 : j = i
  ·subst q2; rw [if_pos rfl, if_pos (by omega), hb]
  ·rw [if_neg q2]
   by_cases q3 : j < i
   ·rw [if_pos q3, if_pos (by omega)]
   ·rw [if_neg q3, if_neg (by omega)]
 ·rw [if_neg (by omega), encP_slot cs _ hr, encP_slot cs _ hr]
  by_cases q3 : k < i
  ·rw [if_pos q3, if_pos (by omega)]
  ·rw [if_neg q3]
   by_cases q4 : k = i
   ·subst q4
    rw [if_pos (by omega)]
    cases hh : cs k with
    | empty => rfl
    | deleted => rfl
    | full t a e b => rw [hh] at hc; cases hc
   ·rw [if_neg (by omega)]
theorem encP_some {l : Lay} (h : LayN l) (cs : Nat → Cell) {i : Nat} (hi : i < 8) {t b : Int} {k e : ByteArray} (hc : cs i = .full t k e b) (hk : k.size = kN l) (he : e.size = eN l) :
  memV (layM (layM (layM (fun j => if j = i then t else encP l cs i j) (8 + i * sN l) k.size (byteAt k)) (8 + i * sN l + eoN l) e.size (byteAt e)) (8 + i * sN l + boN l) 8 (byteN b)) (gN l) = memV (encP l cs (i + 1)) (gN l) := memV_congr fun j hj => by
 have h1 := h.eo1; have h2 := h.bo1; have h3 := h.s_eq
 rcases grp_cases h hj with q | ⟨m, r, hm, hr, rfl⟩
 ·simp only [layM]
  rw [if_neg (by omega), if_neg (by omega), if_neg (by omega), encP_ctrl l cs _ q, encP_ctrl l cs _ q]
  by_cases q2 : j = i
  ·subst q2; rw [if_pos rfl, if_pos (by omega), hc]; rfl
  ·rw [if_neg q2]
   by_cases q3 : j < i
   ·rw [if_pos q3, if_pos (by omega)]
   ·rw [if_neg q3, if_neg (by omega)]
 ·rw [encP_slot cs _ hr]
  by_cases q4 : m = i
  ·subst q4
   rw [if_pos (by omega), hc, encS_full h hk he hr]
   simp only [layM]
   rw [hk, he]
   by_cases p1 : r < kN l
   ·rw [if_neg (by omega), if_neg (by omega), if_pos (by omega), if_pos p1]; congr 1; omega
   ·rw [if_neg p1]
    by_cases p2 : r < eoN l
    ·rw [if_neg (by omega), if_neg (by omega), if_neg (by omega), if_pos p2, if_neg (by omega), encP_slot cs _ hr, if_neg (by omega)]
    ·rw [if_neg p2]
     by_cases p3 : r < eoN l + eN l
     ·rw [if_neg (by omega), if_pos (by omega), if_pos p3]; congr 1; omega
     ·rw [if_neg p3]
      by_cases p4 : r < boN l
      ·rw [if_neg (by omega), if_neg (by omega), if_neg (by omega), if_pos p4, if_neg (by omega), encP_slot cs _ hr, if_neg (by omega)]
      ·rw [if_pos (by omega), if_neg p4]; congr 1; omega
  ·have hap : m * sN l + sN l ≤ i * sN l ∨ i * sN l + sN l ≤ m * sN l := by
    rcases Nat.lt_or_ge m i with p | p
    ·have := Nat.mul_le_mul_right (sN l) (show m + 1 ≤ i by omega); rw [Nat.add_mul] at this; omega
    ·have := Nat.mul_le_mul_right (sN l) (show i + 1 ≤ m by omega); rw [Nat.add_mul] at this; omega
   simp only [layM]
   rw [if_neg (by omega), if_neg (by omega), if_neg (by omega), if_neg (by omega), encP_slot cs _ hr]
   by_cases q3 : m < i
   ·rw [if_pos q3, if_pos (by omega)]
   ·rw [if_neg q3, if_neg (by omega)]
/-! ### All groups -/
/-- The bytes of a table's second block. -/
def grF (l : Lay) (cs : Nat → Cell) (n : Nat) (a : Nat) : Int := if a < n * gN l then encG l (grpC cs (a / gN l)) (a % gN l) else 0
theorem grF_bnd {l : Lay} {cs : Nat → Cell} {n : Nat} (hN : LayN l) (h : ∀ i, i < 8 * n → (cs i).ok l) (a : Nat) : 0 ≤ grF l cs n a ∧ grF l cs n a < 256 := by
 unfold grF
 split
 ·next q =>
  refine encG_bnd (fun i hi => h _ ?_) _
  have hg := hN.g_eq
  have := Nat.div_lt_of_lt_mul (show a < gN l * n by rw [Nat.mul_comm]; exact q)
  omega
 ·omega
theorem grF_app {l : Lay} (hN : LayN l) (cs : Nat → Cell) {n g : Nat} (hg : g < n) : memV (grF l cs n) (g * gN l) ++ memV (encG l (grpC cs g)) (gN l) = memV (grF l cs n) ((g + 1) * gN l) := by
 have h8 := hN.g_eq
 rw [memV_app (m := grF l cs n) (a := g * gN l) (b := gN l) fun i hi => ?_]
 ·rw [Nat.add_mul, Nat.one_mul]
 ·have := Nat.mul_le_mul_right (gN l) (show g + 1 ≤ n by omega)
  rw [Nat.add_mul] at this
  obtain ⟨h1, h2⟩ := slot_div (i := g) hi
  unfold grF
  rw [if_pos (by omega), h1, h2]
theorem grF_tail {l : Lay} (cs : Nat → Cell) (n m : Nat) : memV (grF l cs n) (n * gN l) ++ List.replicate m (Value.int .u8 0) = memV (grF l cs n) (n * gN l + m) := by
 rw [rep_memV]
 exact memV_app fun i hi => by unfold grF; rw [if_neg (by omega)]
/-- The table's own blocks hold just these bytes. -/
theorem strM_congr {m m' : Nat → Int} {o o' k : Nat} (h : ∀ i, i < k → m (o + i) = m' (o' + i)) : strM m o k = strM m' o' k := by
 unfold strM
 congr 2
 refine List.map_congr_left fun i hi => ?_
 rw [h i (List.mem_range.1 hi)]
theorem byteN_load {m : Nat → Int} (hm : ∀ i, 0 ≤ m i ∧ m i < 256) (o : Nat) {k i : Nat} (hi : i < k) : byteN (loadN m o k) i = m (o + i) := by
 unfold byteN
 induction k with
 | zero => omega
 | succ k ih =>
  simp only [loadN]
  have hp : (0 : Int) < 2 ^ (8 * i) := Int.pow_pos (by decide)
  rcases Nat.lt_or_ge i k with q | q
  ·have e : m (o + k) * 2 ^ (8 * k) = (m (o + k) * 2 ^ (8 * (k - i) - 8) * 256) * 2 ^ (8 * i) := by
    rw [show 8 * k = (8 * (k - i) - 8) + 8 + 8 * i by omega, Int.pow_add, Int.pow_add, ← Int.mul_assoc, ← Int.mul_assoc]; rfl
   rw [e, Int.add_mul_ediv_right _ _ (by omega)]
   have := ih q
   omega
  ·obtain rfl : i = k := by omega
   obtain ⟨h1, h2⟩ := loadN_lt hm o i
   rw [Int.add_mul_ediv_right _ _ (by omega), Int.ediv_eq_zero_of_lt h1 h2]
   have := hm (o + i)
   omega
section
variable {s : ArS} {off go : Nat} {l : Lay} {n e : Nat} {T : Tb}
theorem head_bytes (hb : ∀ i, 0 ≤ s.m i ∧ s.m i < 256) (h : TabP s off go l n e T) : strM s.m off 64 = strM (hdF (headV T n go)) 0 64 := strM_congr fun i hi => by
 have h1 := h.hT.head (i / 8) (by omega)
 have h2 := byteN_load hb (off + 8 * (i / 8)) (show i % 8 < 8 by omega)
 rw [h1] at h2
 rw [Nat.zero_add]
 unfold hdF
 rw [h2]
 congr 1; omega
theorem grp_bytes {k : Nat} (h : TabP s off go l n e T) (hz : TailZ s go (n * gN l) ((n * gN l + k : Nat) : Int)) : strM s.m go (n * gN l + k) = strM (grF l T.cells n) 0 (n * gN l + k) := strM_congr fun i hi => by
 rw [Nat.zero_add]
 have hg := (layN h.hl).g_eq
 unfold grF
 split
 ·next q =>
  have h1 := h.hT.body (i / gN l) (Nat.div_lt_of_lt_mul (by rw [Nat.mul_comm]; exact q)) (i % gN l) (Nat.mod_lt _ (by omega))
  have := Nat.div_add_mod i (gN l)
  rw [Nat.mul_comm] at this
  rw [← h1]
  congr 1; omega
 ·exact hz _ (by omega) (by omega)
end
end Go.Proofs.YthkajgkagnenbaaGreatDoor.BytesP
end
