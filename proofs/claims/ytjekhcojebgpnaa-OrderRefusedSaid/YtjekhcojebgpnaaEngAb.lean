import Derived.Test.YtjekhcojebgpnaaEngDefer
import Derived.Test.YtjekhcojebgpnaaEngDraw
/- Short forms of the logic's rules, as the printed walks use them. No program. -/
set_option linter.unusedVariables false
set_option linter.unusedSimpArgs false
namespace Go.Proofs.Ytjekhcojebgpnaa.Eng
open Go.RowKit

/-- What is known of a bool, as sentences. -/
inductive BoolAs : Bool → Prop → Prop → Prop
 | d {φ : Prop} [Decidable φ] : BoolAs (decide φ) φ (¬ φ)
 | n {φ : Prop} [Decidable φ] : BoolAs (!decide φ) (¬ φ) φ
 | b {b : Bool} : BoolAs b (b = true) (b = false)
theorem BoolAs.t {b : Bool} {P N : Prop} (h : BoolAs b P N) (e : b = true) : P := by
 cases h with
 | d => exact of_decide_eq_true e
 | n => simpa using e
 | b => exact e
theorem BoolAs.f {b : Bool} {P N : Prop} (h : BoolAs b P N) (e : b = false) : N := by
 cases h with
 | d => exact of_decide_eq_false e
 | n => simpa using e
 | b => exact e
/-- A place behind a place. -/
class AddN (o k : Nat) (r : outParam Nat) : Prop where
 eq : o + k = r
instance addN0 {k : Nat} : AddN 0 k k := ⟨Nat.zero_add k⟩
instance (priority := low) addN1 {o k : Nat} : AddN o k (o + k) := ⟨rfl⟩
/-- A number as it is kept. -/
theorem wrap_any {k : IntKind} {n : Int} : k.wrap n = k.wrap n := rfl

def aft (i : Nat) : List KI → Option (List KI)
 | [] => none
 | .blk j :: r => match Nat.beq i j with | true => some r | false => aft i r
 | .code _ :: r => aft i r
 | .lp _ :: r => aft i r
 | .sc :: r => aft i r

section
variable {c : Cx} {fin : Exit → Act → World → Prop} {ds : List Deferred} {E : Env} {L M : List HP} {ks ks' : List KI} {ops : Array Oper} {rest : List Oper}
variable {d : Option Tmp} {ty : TypeId} {pos : String} {af : Array Edge} {gd : Option (Nat × Bool)} {id : Nat} {l : List Oper} {y : Code}
theorem sr (h : TL c fin ds E L l.toArray l (.code y :: ks)) : TC c fin ds E L (.seq (.region id l.toArray false) y) ks := t_seq (t_region h)
theorem nz (h : TL c fin ds E L l.toArray l (.code y :: ks)) : TN c fin ds E L .normal (.code (.seq (.region id l.toArray false) y) :: ks) := n_code (sr h)
theorem lz (h : TL c fin ds E L l.toArray l (.code y :: ks)) : TL c fin ds E L ops [] (.code (.seq (.region id l.toArray false) y) :: ks) := l_nil (nz h)
theorem lc (h : TC c fin ds E L y ks) : TL c fin ds E L ops [] (.code y :: ks) := l_nil (n_code h)
theorem lr (h : TL c fin ds E L l.toArray l ks) : TL c fin ds E L ops [] (.code (.region id l.toArray false) :: ks) := lc (t_region h)
theorem xt_go {i : Nat} : ∀ {ks ks' : List KI}, aft i ks = some ks' → TN c fin ds E L .normal ks' → TN c fin ds E L (.exit i) ks
 | [], _, h, _ => by cases h
 | .blk j :: r, _, h, k => by
  simp only [aft] at h
  by_cases q : i = j
  ·subst q; simp only [Nat.beq_refl, Option.some.injEq] at h; subst h; exact x_hit k
  ·rw [nbeq q] at h; exact x_miss (nbeq q) (xt_go h k)
 | .code _ :: r, _, h, k => x_code (xt_go (ks := r) h k)
 | .lp _ :: r, _, h, k => x_lp (xt_go (ks := r) h k)
 | .sc :: r, _, h, k => x_sc (xt_go (ks := r) h k)
theorem xt {i : Nat} (h : aft i ks = some ks') (k : TN c fin ds E L .normal ks') : TC c fin ds E L (.exit i) ks := t_exit (xt_go h k)
theorem rt_go : ∀ {ks : List KI}, TN c fin ds E L .ret [] → TN c fin ds E L .ret ks
 | [], k => k
 | .blk _ :: r, k => r_blk (rt_go (ks := r) k)
 | .code _ :: r, k => r_code (rt_go (ks := r) k)
 | .lp _ :: r, k => r_lp (rt_go (ks := r) k)
 | .sc :: r, k => r_sc (rt_go (ks := r) k)
theorem rt (k : TN c fin ds E L .ret []) : TC c fin ds E L .ret ks := t_ret (rt_go k)

theorem t_if {x : Operand} {p q : Code} {b : Bool} {P N : Prop} (hx : ev E x = some (.bool b)) (h1 : P → TC c fin ds E L p ks) (h2 : N → TC c fin ds E L q ks)
  (hb : BoolAs b P N := by first | exact .d | exact .n | exact .b) : TC c fin ds E L (.cond x p q) ks := t_cond hx (fun e => h1 (hb.t e)) (fun e => h2 (hb.f e))
theorem l_pt {t : Tmp} {b : Bool} {P N : Prop} (hx : lk E t = some (.bool b)) (h1 : P → TL c fin ds ((t, .bool true) :: E) L ops l ks) (h2 : N → TL c fin ds ((t, .bool false) :: E) L ops l ks)
  (hb : BoolAs b P N := by first | exact .d | exact .n | exact .b) : TL c fin ds E L ops l ks := l_part hx (fun e => h1 (hb.t e)) (fun e => h2 (hb.f e))
theorem t_pt {x : Code} {t : Tmp} {b : Bool} {P N : Prop} (hx : lk E t = some (.bool b)) (h1 : P → TC c fin ds ((t, .bool true) :: E) L x ks) (h2 : N → TC c fin ds ((t, .bool false) :: E) L x ks)
  (hb : BoolAs b P N := by first | exact .d | exact .n | exact .b) : TC c fin ds E L x ks := t_part hx (fun e => h1 (hb.t e)) (fun e => h2 (hb.f e))
theorem d_pt {done q : List Nat} {t : Tmp} {b : Bool} {P N : Prop} (hx : lk E t = some (.bool b)) (h1 : P → TD c fin ds ((t, .bool true) :: E) L ops done q ks) (h2 : N → TD c fin ds ((t, .bool false) :: E) L ops done q ks)
  (hb : BoolAs b P N := by first | exact .d | exact .n | exact .b) : TD c fin ds E L ops done q ks := d_part hx (fun e => h1 (hb.t e)) (fun e => h2 (hb.f e))

/-! ### Quiet operations -/
theorem mv {x : Operand} {v : Value} (hd : okDst d c.N = true) (hx : ev E x = some v) (k : TL c fin ds (upd d v E) L ops rest ks) : TL c fin ds E L ops (⟨d, .move x, ty, pos, af, none⟩ :: rest) ks := l_q hd (q_move hx) k
theorem asg {x : Operand} {v : Value} (hd : okDst d c.N = true) (hx : ev E x = some v) (k : TL c fin ds (upd d v E) L ops rest ks) : TL c fin ds E L ops (⟨d, .assign x, ty, pos, af, none⟩ :: rest) ks := l_q hd (q_assign hx) k
theorem q_pk {x y z : Operand} {b : Bool} {v : Value} (hx : ev E x = some (.bool b)) (hy : ev E (match b with | true => y | false => z) = some v) : QV c ds E L ⟨d, .pick x y z, ty, pos, af, gd⟩ v := by
 cases b
 ·exact q_pick_f hx hy
 ·exact q_pick_t hx hy
theorem qfa {s : TypeId} {x : Operand} {b o i n r : Nat} (k : Nat) {fields : Array Field} {f : Field} (hx : ev E x = some (.pointer (some ⟨b, o, none⟩))) (hs : c.P.underlying s = some (.struct fields)) (hf : fields[i]? = some f) (hk : f.offset = k)
  (hn : ∀ w, (sizeOf f.type).run c.P w = .ok (n + 1) w) [a : AddN o k r] : QV c ds E L ⟨d, .fieldAddr s x i, ty, pos, af, gd⟩ (.pointer (some ⟨b, r, none⟩)) := by
 rw [← a.eq]; exact q_fieldAddrK k hx hs hf hk hn
theorem qld {t : TypeId} {x : Operand} {b o : Nat} {v : Value} {l : List Value} {tt : TypeId} {fr : Nat × Nat} {M : List HP} (hx : ev E x = some (.pointer (some ⟨b, o, none⟩)))
  (ha : ∀ w, (isAgg t).run c.P w = .ok false w) (ht : Take (pt b (.cells l.toArray tt fr)) L M := by exact tk) (hv : GetAt l o v := by exact ga) : QV c ds E L ⟨d, .load t x, ty, pos, af, gd⟩ v := q_loadL hx ha ht hv
theorem qlda {t : TypeId} {x : Operand} {b o n : Nat} {us l : List Value} {tt : TypeId} {fr : Nat × Nat} {M : List HP} (hx : ev E x = some (.pointer (some ⟨b, o, none⟩)))
  (ha : ∀ w, (isAgg t).run c.P w = .ok true w) (hn : ∀ w, (sizeOf t).run c.P w = .ok n w) (ht : Take (pt b (.cells l.toArray tt fr)) L M := by exact tk) (hv : SubL l o n us := by exact sb) : QV c ds E L ⟨d, .load t x, ty, pos, af, gd⟩ (.agg us.toArray) :=
 q_loadAggL hx ha hn ht hv
section
variable {op : BinOp} {t u : TypeId} {x y : Operand} {v : Value} {kx ky : IntKind} {a b : Int}
theorem qi (hx : ev E x = some (.int kx a)) (hy : ev E y = some (.int ky b)) (hr : ∀ w, (binOp op t (.int kx a) (.int ky b)).run c.P w = .ok v w) : QV c ds E L ⟨d, .binOp op t x y u, ty, pos, af, gd⟩ v := q_bin hx hy (fun w => g_int w) hr
theorem qs {a b : ByteArray} (hx : ev E x = some (.string a)) (hy : ev E y = some (.string b)) (hr : ∀ w, (binOp op t (.string a) (.string b)).run c.P w = .ok v w) : QV c ds E L ⟨d, .binOp op t x y u, ty, pos, af, gd⟩ v := q_bin hx hy (fun w => g_string w) hr
theorem qb {a b : Bool} (hx : ev E x = some (.bool a)) (hy : ev E y = some (.bool b)) (hr : ∀ w, (binOp op t (.bool a) (.bool b)).run c.P w = .ok v w) : QV c ds E L ⟨d, .binOp op t x y u, ty, pos, af, gd⟩ v := q_bin hx hy (fun w => g_bool w) hr
theorem qadd {r : Int} (hx : ev E x = some (.int kx a)) (hy : ev E y = some (.int kx b)) (hr : kx.wrap (a + b) = r := by first | exact wrap_i64 (by omega) | exact wrap_u64 (by omega) | exact wrap_any) : QV c ds E L ⟨d, .binOp .add t x y u, ty, pos, af, gd⟩ (.int kx r) := qi hx hy fun w => by rw [b_add, hr]
theorem qsub {r : Int} (hx : ev E x = some (.int kx a)) (hy : ev E y = some (.int kx b)) (hr : kx.wrap (a - b) = r := by first | exact wrap_i64 (by omega) | exact wrap_u64 (by omega) | exact wrap_any) : QV c ds E L ⟨d, .binOp .sub t x y u, ty, pos, af, gd⟩ (.int kx r) := qi hx hy fun w => by rw [b_sub, hr]
theorem qmul {r : Int} (hx : ev E x = some (.int kx a)) (hy : ev E y = some (.int kx b)) (hr : kx.wrap (a * b) = r := by first | exact wrap_i64 (by omega) | exact wrap_u64 (by omega) | exact wrap_any) : QV c ds E L ⟨d, .binOp .mul t x y u, ty, pos, af, gd⟩ (.int kx r) := qi hx hy fun w => by rw [b_mul, hr]
theorem qquo (hx : ev E x = some (.int kx a)) (hy : ev E y = some (.int kx b)) (hr : ∀ w, (binOp .quo t (.int kx a) (.int kx b)).run c.P w = .ok v w := by first | exact fun w => b_quo_i w (by omega) | exact fun w => b_quo w (by omega)) : QV c ds E L ⟨d, .binOp .quo t x y u, ty, pos, af, gd⟩ v := qi hx hy hr
theorem qrem (hx : ev E x = some (.int kx a)) (hy : ev E y = some (.int kx b)) (hr : ∀ w, (binOp .rem t (.int kx a) (.int kx b)).run c.P w = .ok v w := by first | exact fun w => b_rem_i w (by omega) | exact fun w => b_rem w (by omega)) : QV c ds E L ⟨d, .binOp .rem t x y u, ty, pos, af, gd⟩ v := qi hx hy hr
theorem qbit (hx : ev E x = some (.int kx a)) (hy : ev E y = some (.int kx b)) (ho : (match op with | .and | .or | .xor | .andNot => true | _ => false) = true) : QV c ds E L ⟨d, .binOp op t x y u, ty, pos, af, gd⟩ (.int kx (bits op kx a b)) := qi hx hy fun w => b_bits w ho
theorem qcv {s t : TypeId} {n r : Int} {k : IntKind} {u : TypeDesc} (hx : ev E x = some (.int kx n)) (hs : c.P.underlying s = some u) (ht : c.P.underlying t = some (.int k)) (hr : k.wrap n = r := by first | exact wrap_i64 (by omega) | exact wrap_u64 (by omega) | exact wrap_u8 (by omega) | exact wrap_any) :
  QV c ds E L ⟨d, .convert s t x, ty, pos, af, gd⟩ (.int k r) := q_conv hx fun w => by rw [c_int w hs ht, hr]
end
theorem ql {x : Operand} {t e : TypeId} {a : Option Addr} {n m : Nat} (hx : ev E x = some (.slice a n m)) (hu : c.P.underlying t = some (.slice e)) : QV c ds E L ⟨d, .call { callee := .builtin .len, args := #[x], argTypes := #[t] }, ty, pos, af, gd⟩ (.int .i64 n) := q_len hx fun w => len_slice hu w
theorem qls {x : Operand} {t : TypeId} {s : ByteArray} (hx : ev E x = some (.string s)) (hu : c.P.underlying t = some .string) : QV c ds E L ⟨d, .call { callee := .builtin .len, args := #[x], argTypes := #[t] }, ty, pos, af, gd⟩ (.int .i64 s.size) := q_len hx fun w => len_string hu w

/-! ### Drawn regions -/
class GetC (l : List Oper) (i : Nat) (t : outParam Tmp) (o : outParam Oper) : Prop where
 eq : l.toArray[i]? = some o
 dst : o.dst = some t
instance getC0 {t : Tmp} {op : Op} {l : List Oper} : GetC (⟨some t, op, ty, pos, af, gd⟩ :: l) 0 t ⟨some t, op, ty, pos, af, gd⟩ := ⟨by simp, rfl⟩
instance getC1 {x o : Oper} {t : Tmp} {i : Nat} {l : List Oper} [h : GetC l i t o] : GetC (x :: l) (i + 1) t o := ⟨by have := h.eq; simpa using this, h.dst⟩
def chkD (t N : Nat) (E : Env) (done q : List Nat) (i : Nat) : Bool := Nat.blt t N && (lk E t).isNone && !(done.contains i || q.contains i)
theorem dq {done q : List Nat} (i : Nat) {o : Oper} {t : Tmp} {v : Value} [g : GetC l i t o] (h : chkD t c.N E done q i = true) (hy : YQ c ds E L l.toArray o v)
  (k : TD c fin ds ((t, v) :: E) L l.toArray done (i :: q) ks) : TD c fin ds E L l.toArray done q ks := by
 simp only [chkD, Bool.and_eq_true, Bool.not_eq_true', Option.isNone_iff_eq_none] at h
 exact d_q i g.eq g.dst h.1.1 h.1.2 h.2 hy k
theorem ya {i : Nat} {o : Oper} {t : Tmp} {v : Value} [g : GetC l i t o] (ht : Nat.blt t c.N = true) (hv : lk E t = some v) (hy : YQ c ds E L l.toArray o v) : YAt c ds E L l.toArray i := yat g.eq g.dst ht hv hy
/-! ### Stores, calls, ends -/
theorem st {t : TypeId} {x y : Operand} {b o : Nat} {v : Value} {l l' : List Value} {tt : TypeId} {M : List HP} (hd : okDst d c.N = true) (hx : ev E x = some (.pointer (some ⟨b, o, none⟩))) (hy : ev E y = some v)
  (hn : ∀ w, (sizeOf t).run c.P w = .ok 1 w) (hv : v.oneCell' = true) (k : TL c fin ds (upd d undef E) (pt b (.cells l'.toArray tt (0, 0)) :: M) ops rest ks) (ht : Take (pt b (.cells l.toArray tt (0, 0))) L M := by exact tk) (hs : SetAt l o v l' := by exact sa) :
  TL c fin ds E L ops (⟨d, .store t x y, ty, pos, af, none⟩ :: rest) ks := o_storeL hd hx hy hn hv ht hs k
theorem sta {t : TypeId} {x y : Operand} {b o n : Nat} {us : List Value} {l l' : List Value} {tt : TypeId} {M : List HP} (hd : okDst d c.N = true) (hx : ev E x = some (.pointer (some ⟨b, o, none⟩))) (hy : ev E y = some (.agg us.toArray))
  (hn : ∀ w, (sizeOf t).run c.P w = .ok n w) (hus : us.length = n) (hv : us.all (·.oneCell') = true)
  (k : TL c fin ds (upd d undef E) (pt b (.cells l'.toArray tt (0, 0)) :: M) ops rest ks) (hne : us ≠ [] := by simp) (ht : Take (pt b (.cells l.toArray tt (0, 0))) L M := by exact tk) (hs : SetAll l o us l' := by exact sal) :
  TL c fin ds E L ops (⟨d, .store t x y, ty, pos, af, none⟩ :: rest) ks := o_storeAggL hd hx hy hn hus hv hne ht hs k
theorem lcf {x : Operand} {xs : Array Operand} {ats : Array TypeId} {f : FuncId} {vs : List Value} {D R : List HP} {Post : Value → List HP → Prop}
  (hd : okDst d c.N = true) (hx : ev E x = some (.func (.func f) #[] #[])) (ha : evl E xs.toList = some vs) (hc : FnOk c.P f vs.toArray D Post)
  (k : ∀ v L', Post v L' → TL c fin ds (upd d v E) (L' ++ R) ops rest ks) (hp : Pick D L R := by exact pk) : TL c fin ds E L ops (⟨d, .call { callee := .value x, args := xs, argTypes := ats }, ty, pos, af, none⟩ :: rest) ks := l_callf hd hx ha hc hp k
/-- A call whose outcome is told outright. -/
theorem lc1 {x : Operand} {xs : Array Operand} {ats : Array TypeId} {f : FuncId} {vs : List Value} {D R L' : List HP} {v : Value}
  (hd : okDst d c.N = true) (hx : ev E x = some (.func (.func f) #[] #[])) (ha : evl E xs.toList = some vs) (hc : FnOk c.P f vs.toArray D fun u K => u = v ∧ K = L')
  (k : TL c fin ds (upd d v E) M ops rest ks) (hp : Pick D L R := by exact pk) (hM : L' ++ R = M := by (try simp only [List.cons_append, List.nil_append, List.append_nil]) <;> rfl) :
  TL c fin ds E L ops (⟨d, .call { callee := .value x, args := xs, argTypes := ats }, ty, pos, af, none⟩ :: rest) ks := l_callf hd hx ha hc hp fun u K ⟨e1, e2⟩ => by subst e1 e2 hM; exact k
theorem fr1 {fn : Func} {Fr : List HP} {Post : Value → List HP → Prop} {e : Exit} {r1 : ResultVar} {v1 : Value} (hr : fn.results = #[r1]) (L' : List HP) (h1 : Rv c.P E L r1 v1) (hp : Post v1 L')
  (hl : Ent L (L' ++ Fr) := by exact en) (hx : e = .ret ∨ e = .normal := by first | exact .inl rfl | exact .inr rfl) : TN c (finF c.P fn Fr c.w0 Post) [] E L e [] := f_ret hx L' (res1 hr h1) hp hl
theorem fr2 {fn : Func} {Fr : List HP} {Post : Value → List HP → Prop} {e : Exit} {r1 r2 : ResultVar} {v1 v2 : Value} (hr : fn.results = #[r1, r2]) (L' : List HP) (h1 : Rv c.P E L r1 v1) (h2 : Rv c.P E L r2 v2) (hp : Post (.tuple #[v1, v2]) L')
  (hl : Ent L (L' ++ Fr) := by exact en) (hx : e = .ret ∨ e = .normal := by first | exact .inl rfl | exact .inr rfl) : TN c (finF c.P fn Fr c.w0 Post) [] E L e [] := f_ret hx L' (res2 hr h1 h2) hp hl
end
/-- Facts on the translation's types and functions, as the printed text of facts states them. -/
abbrev Agg (P : Program) (t : TypeId) (b : Bool) : Prop := ∀ w, (isAgg t).run P w = .ok b w
abbrev Siz (P : Program) (t : TypeId) (n : Nat) : Prop := ∀ w, (sizeOf t).run P w = .ok n w
abbrev Zer (P : Program) (t : TypeId) (v : Value) : Prop := ∀ w, (zeroValue t).run P w = .ok v w
abbrev Pla (P : Program) (t : TypeId) (l : List (Nat × Nat)) : Prop := ∀ w, (placesOf t).run P w = .ok l.toArray w
abbrev Inf (P : Program) (t : TypeId) (v : Value) (n b : Nat) : Prop := ∃ i, P.info? t = some i ∧ i.zero = some v ∧ i.size = n ∧ i.bytes = b
abbrev Ens (P : Program) (f : FuncId) : Prop := ∀ args w, (callFunc f args).run P w = .ok (.enter f args) w
end Go.Proofs.Ytjekhcojebgpnaa.Eng
