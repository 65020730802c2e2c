import Derived.RowKit3
import Derived.Below
import Derived.RangeFuncRecord
import Derived.RangeFuncLeaves
import Derived.TacticsIn
import Derived.Scope
set_option linter.unusedVariables false
set_option linter.unusedSimpArgs false
set_option linter.unusedSectionVars false
namespace Go.Proofs.YthkajgkagnenbaaGreatDoor
section
namespace Eng
theorem _root_.Go.Proofs.YthkajgkagnenbaaGreatDoor.O {A:Sort _} {a:A}:a=a:=rfl
open Go.RowKit
abbrev Part:=Nat->Option Obj
abbrev HP:=Part->Prop
def Part.disj (f g:Part):Prop:=∀ b,f b=none\/g b=none
def Part.join (f g:Part):Part:=fun b=>match f b with | some o=>some o | none=>g b
def Part.none:Part:=fun _=>Option.none
def Part.one (b:Nat) (o:Obj):Part:=fun k=>if k=b then some o else Option.none
theorem Part.disj_comm {f g:Part} (h:f.disj g):g.disj f:=fun b=>(h b).symm
theorem Part.join_comm {f g:Part} (h:f.disj g):f.join g=g.join f:=by
  funext b;simp only[Part.join]
  rcases h b with h | h <;> rw[h] <;> cases hf:f b <;> cases hg:g b <;> simp_all
theorem Part.join_assoc (f g h:Part):(f.join g).join h=f.join (g.join h):=by
  funext b;simp only[Part.join];cases f b <;> rfl
theorem Part.join_none (f:Part):f.join Part.none=f:=by funext b;simp only[Part.join,Part.none];cases f b <;> rfl
theorem Part.none_join (f:Part):Part.none.join f=f:=by funext b;rfl
theorem Part.disj_none (f:Part):f.disj Part.none:=fun b=>.inr rfl
theorem Part.none_disj (f:Part):Part.none.disj f:=fun b=>.inl rfl
theorem Part.join_eq_none {f g:Part} {b:Nat}:f.join g b=Option.none↔f b=Option.none/\g b=Option.none:=by
  simp only[Part.join];cases f b <;> simp
theorem Part.disj_join_right {f g h:Part}:f.disj (g.join h)↔f.disj g/\f.disj h:=by
  constructor
  · intro k
    exact⟨fun b=>(k b).imp id fun e=>(Part.join_eq_none.1 e).1,fun b=>(k b).imp id fun e=>(Part.join_eq_none.1 e).2⟩
  rintro⟨k1,k2⟩ b
  rcases k1 b with e | e
  · exact .inl e
  rcases k2 b with e' | e'
  · exact .inl e'
  exact .inr (Part.join_eq_none.2 ⟨e,e'⟩)
theorem Part.disj_join_left {f g h:Part}:(f.join g).disj h↔f.disj h/\g.disj h:=
  ⟨fun k=>let ⟨a,b⟩:=Part.disj_join_right.1 (Part.disj_comm k);⟨Part.disj_comm a,Part.disj_comm b⟩,
   fun⟨a,b⟩=>Part.disj_comm (Part.disj_join_right.2 ⟨Part.disj_comm a,Part.disj_comm b⟩)⟩
def star (A B:HP):HP:=fun h=>∃ f g,A f/\B g/\f.disj g/\h=f.join g
def emp:HP:=fun h=>h=Part.none
def pt (b:Nat) (o:Obj):HP:=fun h=>h=Part.one b o
def stars:List HP->HP
  | []=>emp
  | A::L=>star A (stars L)
theorem lT {A B:HP} {h:Part} (k:star A B h):star B A h:=by
  obtain⟨f,g,a,b,d,rfl⟩:=k
  exact⟨g,f,b,a,Part.disj_comm d,Part.join_comm d⟩
theorem fx {A B C:HP} {h:Part}:star (star A B) C h↔star A (star B C) h:=by
  constructor
  · rintro⟨_,g,⟨f1,f2,a,b,d1,rfl⟩,c,d2,rfl⟩
    obtain⟨d3,d4⟩:=Part.disj_join_left.1 d2
    exact⟨f1,f2.join g,a,⟨f2,g,b,c,d4,rfl⟩,Part.disj_join_right.2 ⟨d1,d3⟩,Part.join_assoc _ _ _⟩
  rintro⟨f,_,a,⟨g1,g2,b,c,d1,rfl⟩,d2,rfl⟩
  obtain⟨d3,d4⟩:=Part.disj_join_right.1 d2
  exact⟨f.join g1,g2,⟨f,g1,a,b,d3,rfl⟩,c,Part.disj_join_left.2 ⟨d4,d1⟩,(Part.join_assoc _ _ _).symm⟩
theorem ep {A A' B B':HP} (h1:∀ h,A h->A' h) (h2:∀ h,B h->B' h) {h:Part} (k:star A B h):star A' B' h:=by
  obtain⟨f,g,a,b,d,rfl⟩:=k
  exact⟨f,g,h1 _ a,h2 _ b,d,rfl⟩
theorem gF {L M:List HP} {h:Part}:stars (L ++ M) h↔star (stars L) (stars M) h:=by
  induction L generalizing h with
  | nil=>
    constructor
    · intro k;exact⟨Part.none,h,rfl,k,Part.none_disj _,(Part.none_join _).symm⟩
    rintro⟨f,g,rfl,b,d,rfl⟩;rw[Part.none_join];exact b
  | cons A L ih=>
    show star A (stars (L ++ M)) h↔_
    rw[show stars (A::L)=star A (stars L) from rfl,fx]
    constructor
    · exact ep (fun _ k=>k) fun _ k=>ih.1 k
    exact ep (fun _ k=>k) fun _ k=>ih.2 k
def Part.inW (f:Part) (w:World):Prop:=∀ b o,f b=some o->w.heap[b]?=some o
def Sat (A:HP) (w:World):Prop:=∃ f:Part,f.inW w/\A f
theorem Sat.mono {A B:HP} {w:World} (h:Sat A w) (k:∀ f,A f->B f):Sat B w:=let ⟨f,a,b⟩:=h;⟨f,a,k f b⟩
theorem Part.inW_join {f g:Part} {w:World} (h1:f.inW w) (h2:g.inW w):(f.join g).inW w:=fun b o e=>by
  simp only[Part.join] at e
  cases hf:f b with
  | some x=>rw[hf] at e;cases e;exact h1 b o hf
  | none=>rw[hf] at e;exact h2 b o e
theorem Part.inW_left {f g:Part} {w:World} (h:(f.join g).inW w):f.inW w:=fun b o e=>h b o (by simp only[Part.join,e])
theorem Part.inW_right {f g:Part} {w:World} (d:f.disj g) (h:(f.join g).inW w):g.inW w:=fun b o e=>h b o (by
  rcases d b with k | k
  · simp only[Part.join,k,e]
  rw[k] at e;cases e)
theorem Sat.left {A B:HP} {w:World} (h:Sat (star A B) w):Sat A w:=by
  obtain⟨_,hi,f,g,a,b,d,rfl⟩:=h;exact⟨f,Part.inW_left hi,a⟩
theorem Sat.right {A B:HP} {w:World} (h:Sat (star A B) w):Sat B w:=by
  obtain⟨_,hi,f,g,a,b,d,rfl⟩:=h;exact⟨g,Part.inW_right d hi,b⟩
inductive Take:HP->List HP->List HP->Prop
  | here {A:HP} {L:List HP}:Take A (A::L) L
  | there {A B:HP} {L M:List HP}:Take A L M->Take A (B::L) (B::M)
inductive fQ:List HP->List HP->List HP->Prop
  | nil {L:List HP}:fQ [] L L
  | cons {A:HP} {D L M R:List HP}:Take A L M->fQ D M R->fQ (A::D) L R
theorem Take.stars {A:HP} {L M:List HP} (h:Take A L M) {f:Part}:stars L f↔star A (Eng.stars M) f:=by
  induction h generalizing f with
  | here=>exact Iff.rfl
  | @there B L M _ ih=>
    show star B (Eng.stars L) f↔star A (star B (Eng.stars M)) f
    rw[<- fx]
    constructor
    · intro k
      exact ep (fun _ x=>lT x) (fun _ x=>x) (fx.2 (ep (fun _ x=>x) (fun _ x=>ih.1 x) k))
    intro k
    exact ep (fun _ x=>x) (fun _ x=>ih.2 x) (fx.1 (ep (fun _ x=>lT x) (fun _ x=>x) k))
theorem fQ.stars {D L R:List HP} (h:fQ D L R) {f:Part}:stars L f↔Eng.stars (D ++ R) f:=by
  induction h generalizing f with
  | nil=>exact Iff.rfl
  | @cons A D L M R t _ ih=>
    rw[t.stars]
    exact⟨ep (fun _ x=>x) fun _ x=>ih.1 x,ep (fun _ x=>x) fun _ x=>ih.2 x⟩
theorem vX {L M:List HP} (h:L.Perm M):∀ {f:Part},stars L f↔Eng.stars M f:=by
  induction h with
  | nil=>exact Iff.rfl
  | cons A _ ih=>exact⟨ep (fun _ k=>k) fun _ k=>ih.1 k,ep (fun _ k=>k) fun _ k=>ih.2 k⟩
  | swap A B L=>
    intro f
    constructor
    · intro k;exact fx.1 (ep (fun _ x=>lT x) (fun _ x=>x) (fx.2 k))
    intro k;exact fx.1 (ep (fun _ x=>lT x) (fun _ x=>x) (fx.2 k))
  | trans _ _ ih1 ih2=>exact ih1.trans ih2
theorem Sat.perm {L M:List HP} {w:World} (h:Sat (stars L) w) (p:L.Perm M):Sat (Eng.stars M) w:=h.mono fun _=>(vX p).1
theorem Take.perm {A:HP} {L M:List HP} (h:Take A L M):L.Perm (A::M):=by
  induction h with
  | here=>exact .refl _
  | there _ ih=>exact(List.Perm.cons _ ih).trans (.swap _ _ _)
theorem fQ.perm {D L R:List HP} (h:fQ D L R):L.Perm (D ++ R):=by
  induction h with
  | nil=>exact .refl _
  | cons t _ ih=>exact t.perm.trans (.cons _ ih)
theorem Sat.pick {D L R:List HP} {w:World} (h:Sat (stars L) w) (p:fQ D L R):Sat (stars (D ++ R)) w:=h.mono fun _=>p.stars.1
theorem Sat.take {A:HP} {L M:List HP} {w:World} (h:Sat (stars L) w) (t:Take A L M):Sat (star A (stars M)) w:=h.mono fun _=>t.stars.1
theorem Sat.tail {A:HP} {L:List HP} {w:World} (h:Sat (stars (A::L)) w):Sat (stars L) w:=Sat.right h
theorem Sat.drop {L M:List HP} {w:World} (h:Sat (stars (L ++ M)) w):Sat (stars L) w:=Sat.left (h.mono fun _=>gF.1)
def dS (L M:List HP):Prop:=∀ w,Sat (stars L) w->Sat (stars M) w
theorem dS.refl (L:List HP):dS L L:=fun _ h=>h
theorem dS.pick {D L R:List HP} (p:fQ D L R):dS L D:=fun _ h=>(h.pick p).drop
theorem dS.perm {L M:List HP} (p:L.Perm M):dS L M:=fun _ h=>h.perm p
theorem dS.trans {L M N:List HP} (h:dS L M) (k:dS M N):dS L N:=fun w x=>k w (h w x)
inductive Drop:List HP->List HP->Prop
  | refl {L:List HP}:Drop L L
  | skip {A:HP} {L M:List HP}:Drop L M->Drop (A::L) M
theorem Drop.sat {L M:List HP} (h:Drop L M) {w:World} (hs:Sat (stars L) w):Sat (stars M) w:=by
  induction h with
  | refl=>exact hs
  | skip _ ih=>exact ih hs.tail
inductive oZ:List HP->List HP->Prop
  | nil {L:List HP}:oZ [] L
  | rest {L F:List HP}:Drop L F->oZ F L
  | cons {A:HP} {D L M:List HP}:Take A L M->oZ D M->oZ (A::D) L
theorem Drop.perm {L F:List HP} (h:Drop L F):∃ G,L.Perm (F ++ G):=by
  induction h with
  | refl=>exact⟨[],by simp⟩
  | @skip A L M _ ih=>
    obtain⟨G,hG⟩:=ih
    exact⟨A::G,(hG.cons A).trans List.perm_middle.symm⟩
theorem oZ.perm {D L:List HP} (h:oZ D L):∃ G,L.Perm (D ++ G):=by
  induction h with
  | @nil L=>exact⟨L,.refl _⟩
  | rest d=>exact d.perm
  | cons t _ ih=>
    obtain⟨G,hG⟩:=ih
    exact⟨G,t.perm.trans (hG.cons _)⟩
theorem oZ.ent {D L:List HP} (h:oZ D L):dS L D:=fun w hs=>by
  obtain⟨G,hG⟩:=h.perm
  exact(hs.perm hG).drop
theorem lE {b:Nat} {o:Obj} {w:World} (h:Sat (pt b o) w):w.heap[b]?=some o:=by
  obtain⟨f,hi,rfl⟩:=h
  exact hi b o (by simp[Part.one])
theorem Sat.block {b:Nat} {o:Obj} {L M:List HP} {w:World} (h:Sat (stars L) w) (t:Take (pt b o) L M):w.heap[b]?=some o:=lE (h.take t).left
theorem Sat.turn {b:Nat} {o o':Obj} {A:HP} {w w':World} (h:Sat (star (pt b o) A) w) (hb:w'.heap[b]?=some o') (hk:∀ k,k≠b->k < w.heap.size->w'.heap[k]?=w.heap[k]?):Sat (star (pt b o') A) w':=by
  obtain⟨_,hi,f,g,rfl,a,d,rfl⟩:=h
  refine⟨(Part.one b o').join g,Part.inW_join (fun k x e=>?_) (fun k x e=>?_),Part.one b o',g,rfl,a,fun k=>?_,rfl⟩
  · simp only[Part.one] at e;split at e
    · next q=>subst q;cases e;exact hb
    cases e
  · have:=Part.inW_right d hi k x e
    rw[hk k ?_ (Array.getElem?_eq_some_iff.1 this).1]
    · exact this
    rintro rfl
    rcases d k with q | q
    · simp[Part.one] at q
    rw[q] at e;cases e
  rcases d k with q | q
  · refine .inl ?_
    simp only[Part.one] at q ⊢
    split at q
    · cases q
    next n=>rw[if_neg n]
  exact .inr q
theorem Sat.setCell {b off:Nat} {cs:Array Value} {t:TypeId} {fr:Nat×Nat} {A:HP} {w:World} (h:Sat (star (pt b (.cells cs t fr)) A) w) (v:Value):
    Sat (star (pt b (.cells (cs.setIfInBounds off v) t fr)) A) (w.setCell ⟨b,off,none⟩ v):=by
  refine h.turn ?_ fun k hk _=>Below.heap_setCell _ _ _ _ hk
  simp only[World.setCell,Array.getElem?_modify,lE h.left]
  simp
theorem Sat.putObj {b:Nat} {o:Obj} {A:HP} {w:World} (h:Sat (star (pt b o) A) w) (o':Obj):Sat (star (pt b o') A) (w.putObj b o'):=
  h.turn (World.putObj_heap_same (Array.getElem?_eq_some_iff.1 (lE h.left)).1) fun _ hk _=>World.putObj_heap_other hk
theorem Sat.alloc {A:HP} {w:World} (h:Sat A w) (o:Obj):Sat (star (pt w.heap.size o) A) (w.alloc o):=by
  obtain⟨f,hi,a⟩:=h
  have hlt:∀ b x,f b=some x->b < w.heap.size:=fun b x e=>(Array.getElem?_eq_some_iff.1 (hi b x e)).1
  refine⟨(Part.one w.heap.size o).join f,Part.inW_join (fun k x e=>?_) (fun k x e=>?_),_,f,rfl,a,fun k=>?_,rfl⟩
  · simp only[Part.one] at e;split at e
    · next q=>subst q;cases e;exact World.alloc_heap_new w o
    cases e
  · rw[Below.heap_alloc _ _ _ (hlt k x e)];exact hi k x e
  by_cases q:k=w.heap.size
  · refine .inr ?_
    cases e:f k with
    | none=>rfl
    | some x=>have:=hlt k x e;omega
  exact .inl (by simp[Part.one,q])
theorem Sat.drew {A:HP} {w:World} (h:Sat A w):Sat A w.drew:=h
theorem Sat.drawn {A:HP} {w:World} (h:Sat A w) (n:Nat):Sat A {w with drawn:=n}:=h
structure Ext (w w':World):Prop where
  os:w'.os=w.os
  tape:w'.tape=w.tape
  output:w'.output=w.output
  size:w.heap.size<=w'.heap.size
theorem Ext.refl (w:World):Ext w w:=⟨rfl,rfl,rfl,Nat.le_refl _⟩
theorem Ext.trans {a b c:World} (h:Ext a b) (k:Ext b c):Ext a c:=⟨k.os.trans h.os,k.tape.trans h.tape,k.output.trans h.output,Nat.le_trans h.size k.size⟩
theorem Ext.setCell {a w:World} (h:Ext a w) (p:Addr) (v:Value):Ext a (w.setCell p v):=h.trans ⟨rfl,rfl,rfl,by simp[World.setCell]⟩
theorem Ext.alloc {a w:World} (h:Ext a w) (o:Obj):Ext a (w.alloc o):=h.trans ⟨rfl,rfl,rfl,by simp⟩
theorem Ext.putObj {a w:World} (h:Ext a w) (b:Nat) (o:Obj):Ext a (w.putObj b o):=h.trans ⟨rfl,rfl,rfl,by simp⟩
theorem Ext.drew {a w:World} (h:Ext a w):Ext a w.drew:=h.trans ⟨rfl,rfl,rfl,Nat.le_refl _⟩
theorem Ext.drawn {a w:World} (h:Ext a w) (n:Nat):Ext a {w with drawn:=n}:=h.trans ⟨rfl,rfl,rfl,Nat.le_refl _⟩
def old (w:World):HP:=fun f=>f=fun b=>w.heap[b]?
theorem Sat.old (w:World):Sat (Eng.old w) w:=⟨_,fun _ _ e=>e,rfl⟩
theorem tm {w w':World} (h:Sat (Eng.old w) w') (e:Ext w w'):Below w.heap.size w w':=by
  obtain⟨f,hi,rfl⟩:=h
  refine⟨e.os,e.tape,e.output,e.size,fun k hk=>?_⟩
  have:w.heap[k]?=some w.heap[k]:=Array.getElem?_eq_getElem hk
  rw[this];exact hi k _ this
theorem tk {A:HP} {L M:List HP} (h:Take A L M:=by repeat (first | with_reducible exact Take.here | apply Take.there)):Take A L M:=h
theorem pk {D L R:List HP} (h:fQ D L R:=by repeat (first | with_reducible exact fQ.nil | apply fQ.cons | with_reducible exact Take.here | apply Take.there)):fQ D L R:=h
theorem en {L M:List HP} (h:dS L M:=by first | exact dS.refl _ | ((try push_cast);apply oZ.ent;(repeat (first | apply oZ.cons | with_reducible exact oZ.nil | apply oZ.rest | with_reducible exact Take.here | apply Take.there | exact Drop.refl | apply Drop.skip)))):dS L M:=h
end Eng
end
section
namespace Eng
open Go.RowKit
theorem mH {i t:Nat} (q:i≠t):Nat.beq i t=false:=by rw[Bool.eq_false_iff];exact fun e=>q (Nat.eq_of_beq_eq_true e)
abbrev Env:=List (Nat×Value)
def lk:Env->Nat->Option Value
  | [],_=>none
  | (i,v)::r,t=>match Nat.beq i t with | true=>some v | false=>lk r t
def ev (E:Env):Operand->Option Value
  | .tmp t=>lk E t
  | .const v=>some v
  | .global g=>some (.pointer (some ⟨g,0,none⟩))
  | .func f=>some (.func (.func f) #[] #[])
def evl (E:Env):List Operand->Option (List Value)
  | []=>some []
  | x::r=>match ev E x,evl E r with
    | some v,some vs=>some (v::vs)
    | _,_=>none
def gT (d:Option Tmp) (v:Value) (E:Env):Env:=match d with | some d=>(d,v)::E | none=>E
def FW (r:Option Nat):Fence:={Fence.wide with round:=r}
theorem kC (r:Option Nat) (f:FuncId):(FW r).fn f:=trivial
structure Cx where
  P:Program
  r:Option Nat
  w0:World
  N:Nat
structure St (c:Cx) (ds:List Deferred) (E:Env) (L:List HP) (a:Act) (w:World):Prop where
  size:a.tmps.size=c.N
  defs:a.defers=ds
  agree:∀ t v,lk E t=some v->a.tmps[t]?=some v
  sat:Sat (stars L) w
  ext:Ext c.w0 w
def dn (d:Option Tmp) (N:Nat):Bool:=match d with | some d=>Nat.blt d N | none=>true
section
variable {c:Cx} {ds:List Deferred} {E:Env} {L:List HP} {a:Act} {w:World}
theorem St.tmp (h:St c ds E L a w) {t:Nat} {v:Value} (e:lk E t=some v):a.eval (.tmp t)=v:=by
  simp only[Act.eval,Array.getD_eq_getD_getElem?,h.agree t v e,Option.getD_some]
theorem St.ev (h:St c ds E L a w) {x:Operand} {v:Value} (e:Eng.ev E x=some v):a.eval x=v:=by
  cases x with
  | tmp t=>exact h.tmp e
  | const u=>simp only[Eng.ev,Option.some.injEq] at e;exact e
  | global g=>simp only[Eng.ev,Option.some.injEq] at e;exact e
  | func f=>simp only[Eng.ev,Option.some.injEq] at e;exact e
theorem St.evl (h:St c ds E L a w) {xs:List Operand} {vs:List Value} (e:Eng.evl E xs=some vs):xs.map a.eval=vs:=by
  induction xs generalizing vs with
  | nil=>simp only[Eng.evl,Option.some.injEq] at e;exact e
  | cons x r ih=>
    simp only[Eng.evl] at e
    cases hx:Eng.ev E x with
    | none=>rw[hx] at e;cases e
    | some v=>
      cases hr:Eng.evl E r with
      | none=>rw[hx,hr] at e;cases e
      | some us=>
        rw[hx,hr] at e;cases e
        simp only[List.map_cons,h.ev hx,ih hr]
theorem St.put (h:St c ds E L a w) {d:Option Tmp} (hd:dn d c.N=true) (v:Value) {L':List HP} {w':World} (hs:Sat (stars L') w') (hw:Ext w w'):
    St c ds (gT d v E) L' (a.put d v) w':=by
  cases d with
  | none=>exact⟨h.size,h.defs,h.agree,hs,h.ext.trans hw⟩
  | some d=>
    have hlt:d < a.tmps.size:=by rw[h.size];simp only[dn,Nat.blt] at hd;exact Nat.le_of_ble_eq_true hd
    refine⟨by simp[Act.put,h.size],by simp[Act.put,h.defs],fun t u e=>?_,hs,h.ext.trans hw⟩
    simp only[gT,lk] at e
    simp only[Act.put]
    by_cases q:d=t
    · subst q
      simp only[Nat.beq_refl,Option.some.injEq] at e
      subst e
      simp[hlt]
    have:Nat.beq d t=false:=mH q
    rw[this] at e
    rw[Array.getElem?_setIfInBounds_ne q]
    exact h.agree t u e
def qI:Env->Env->Prop
  | [],_=>True
  | (t,v)::r,E=>lk E t=some v/\qI r E
theorem qI.lk {E' E:Env} (h:qI E' E) {t:Nat} {v:Value} (e:Eng.lk E' t=some v):Eng.lk E t=some v:=by
  induction E' with
  | nil=>cases e
  | cons p r ih=>
    obtain⟨i,u⟩:=p
    obtain⟨h1,h2⟩:=h
    simp only[Eng.lk] at e
    by_cases q:i=t
    · subst q;simp only[Nat.beq_refl] at e;cases e;exact h1
    rw[show Nat.beq i t=false from mH q] at e;exact ih h2 e
theorem St.weaken (h:St c ds E L a w) {E':Env} {L':List HP} (he:qI E' E) (hl:dS L L'):St c ds E' L' a w:=
  ⟨h.size,h.defs,fun _ _ e=>h.agree _ _ (he.lk e),hl _ h.sat,h.ext⟩
end
inductive KI where
  | code (c:Code)
  | blk (id:Nat)
  | lp (I:Act->World->Prop)
  | sc
def xv (c:Cx) (fin:Exit->Act->World->Prop):List KI->Exit->Act->World->Prop
  | []=>fin
  | .code y::ks=>Exit.then (y.wpIn (FW c.r) 0 c.P (xv c fin ks)) (xv c fin ks)
  | .blk id::ks=>Exit.inBlock id (xv c fin ks)
  | .lp I::ks=>Exit.then I (xv c fin ks)
  | .sc::ks=>Exit.noGoto (xv c fin ks)
section
variable {P:Program} {F:Fence} {n:Nat} {b:Frame} {a:Act} {k:List Item} {cs:List Frame} {w:World} {Q:Exit->Act->World->Prop}
theorem gi {c:Code}:step P (lone (b.atR a (.code (.scope c)::k)) cs w)=.next (lone (b.atR a (.code c::.inScope c::k)) cs w):=
  step_lone_go (by simp[stepG,stepG.exec,Frame.atR])
theorem qT {c:Code}:step P (lone (b.atR a (.inScope c::k)) cs w)=.next (lone (b.atR a k) cs w):=
  step_lone_go (by simp[stepG,stepG.exec,Frame.atR])
theorem vR {c:Code} (h:c.wpIn F n P (Exit.noGoto Q) a w):(Code.scope c).wpIn F n P Q a w:=by
  intro b k cs hro hb hr
  have h0:(lone (b.atR a (.code (.scope c)::k)) cs w).fenced P F:=fenced_calm hb hr rfl
  obtain⟨e,a₁,w₁,hq,harr⟩:=h b (.inScope c::k) cs hro hb hr
  cases e with
  | normal=>exact⟨.normal,a₁,w₁,hq,.head h0 gi (StepsIn.trans harr (.one (fenced_calm hb hr rfl) qT))⟩
  | exit id=>exact⟨.exit id,a₁,w₁,hq,fun k' hk=>.head h0 gi (harr.1 k' (by simp[exitTo,hk])),fun hr' hk=>let ⟨k₁,h1,h2⟩:=harr.2 hr' (by simp[exitTo,hk]);⟨k₁,h1,.head h0 gi h2⟩⟩
  | goto l=>exact hq.elim
  | ret=>exact⟨_,a₁,w₁,hq,.of_steps (.one h0 gi) harr⟩
  | panic ch=>exact⟨_,a₁,w₁,hq,.of_steps (.one h0 gi) harr⟩
  | outgrown=>exact⟨_,a₁,w₁,hq,.of_steps (.one h0 gi) harr⟩
end
def TC (c:Cx) (fin:Exit->Act->World->Prop) (ds:List Deferred) (E:Env) (L:List HP) (x:Code) (ks:List KI):Prop:=
  ∀ a w,St c ds E L a w->x.wpIn (FW c.r) 0 c.P (xv c fin ks) a w
def TL (c:Cx) (fin:Exit->Act->World->Prop) (ds:List Deferred) (E:Env) (L:List HP) (ops:Array Oper) (l:List Oper) (ks:List KI):Prop:=
  ∀ a w,St c ds E L a w->wpListIn (FW c.r) 0 c.P ops (xv c fin ks) l a w
def TN (c:Cx) (fin:Exit->Act->World->Prop) (ds:List Deferred) (E:Env) (L:List HP) (e:Exit) (ks:List KI):Prop:=
  ∀ a w,St c ds E L a w->xv c fin ks e a w
section
variable {c:Cx} {fin:Exit->Act->World->Prop} {ds:List Deferred} {E:Env} {L:List HP} {ks:List KI}
theorem al {x y:Code} (h:TC c fin ds E L x (.code y::ks)):TC c fin ds E L (.seq x y) ks:=fun a w hs=>wpIn_seq (h a w hs)
theorem aB {id:Nat} {x:Code} (h:TC c fin ds E L x (.blk id::ks)):TC c fin ds E L (.block id x) ks:=fun a w hs=>wpIn_block (h a w hs)
theorem sA {x:Code} (h:TC c fin ds E L x (.sc::ks)):TC c fin ds E L (.scope x) ks:=fun a w hs=>vR (h a w hs)
theorem C9 {l:Nat} (h:TN c fin ds E L .normal ks):TC c fin ds E L (.label l) ks:=fun a w hs=>wpIn_label (h a w hs)
theorem GK {i:Nat} (h:TN c fin ds E L (.exit i) ks):TN c fin ds E L (.exit i) (.sc::ks):=h
theorem JA (h:TN c fin ds E L .ret ks):TN c fin ds E L .ret (.sc::ks):=h
theorem aD {id:Nat} {l:List Oper} (h:TL c fin ds E L l.toArray l ks):TC c fin ds E L (.region id l.toArray false) ks:=fun a w hs=>wpIn_region_lit (h a w hs)
theorem aq (h:TN c fin ds E L .normal ks):TC c fin ds E L .skip ks:=fun a w hs=>wpIn_skip (h a w hs)
theorem AK {id:Nat} (h:TN c fin ds E L (.exit id) ks):TC c fin ds E L (.exit id) ks:=fun a w hs=>wpIn_exit (h a w hs)
theorem GO (h:TN c fin ds E L .ret ks):TC c fin ds E L .ret ks:=fun a w hs=>wpIn_ret (h a w hs)
theorem ai {ops:Array Oper} (h:TN c fin ds E L .normal ks):TL c fin ds E L ops [] ks:=fun a w hs=>h a w hs
theorem an {y:Code} (h:TC c fin ds E L y ks):TN c fin ds E L .normal (.code y::ks):=h
theorem bz {id:Nat} (h:TN c fin ds E L .normal ks):TN c fin ds E L .normal (.blk id::ks):=h
theorem As {y:Code} {i:Nat} (h:TN c fin ds E L (.exit i) ks):TN c fin ds E L (.exit i) (.code y::ks):=h
theorem GL {I:Act->World->Prop} {i:Nat} (h:TN c fin ds E L (.exit i) ks):TN c fin ds E L (.exit i) (.lp I::ks):=h
theorem GM {i:Nat} (h:TN c fin ds E L .normal ks):TN c fin ds E L (.exit i) (.blk i::ks):=fun a w hs=>by
  show(if i=i then _ else _);rw[if_pos rfl];exact h a w hs
theorem Ar {i j:Nat} (hn:Nat.beq i j=false) (h:TN c fin ds E L (.exit i) ks):TN c fin ds E L (.exit i) (.blk j::ks):=fun a w hs=>by
  show(if i=j then _ else _);rw[if_neg (fun e=>by subst e;rw[Nat.beq_refl] at hn;cases hn)];exact h a w hs
theorem Fu {y:Code} (h:TN c fin ds E L .ret ks):TN c fin ds E L .ret (.code y::ks):=h
theorem GR {id:Nat} (h:TN c fin ds E L .ret ks):TN c fin ds E L .ret (.blk id::ks):=h
theorem JB {I:Act->World->Prop} (h:TN c fin ds E L .ret ks):TN c fin ds E L .ret (.lp I::ks):=h
theorem Fm {x:Operand} {p q:Code} {b:Bool} (hx:ev E x=some (.bool b)) (h1:b=true->TC c fin ds E L p ks) (h2:b=false->TC c fin ds E L q ks):
    TC c fin ds E L (.cond x p q) ks:=fun a w hs=>
  wpIn_cond_split (hs.ev hx) (fun e=>h1 e a w hs) (fun e=>h2 e a w hs)
theorem bk {x:Operand} {p q:Code} (hx:ev E x=some (.bool true)) (h1:TC c fin ds E L p ks):TC c fin ds E L (.cond x p q) ks:=fun a w hs=>wpIn_cond_true (hs.ev hx) (h1 a w hs)
theorem cQ {x:Operand} {p q:Code} (hx:ev E x=some (.bool false)) (h1:TC c fin ds E L q ks):TC c fin ds E L (.cond x p q) ks:=fun a w hs=>wpIn_cond_false (hs.ev hx) (h1 a w hs)
def KB (c:Cx) (ds:List Deferred) {X:Type} (p:X->Prop) (EE:X->Env) (LL:X->List HP) (μ:X->Nat) (x:X):Act->World->Prop:=fun a w=>∃ x',p x'/\μ x' < μ x/\St c ds (EE x') (LL x') a w
theorem bK {X:Type} (p:X->Prop) (EE:X->Env) (LL:X->List HP) (μ:X->Nat) {body:Code} (x0:X) (hp:p x0) (he:qI (EE x0) E) (hl:dS L (LL x0))
    (hb:∀ x,p x->TC c fin ds (EE x) (LL x) body (.lp (KB c ds p EE LL μ x)::ks)):
    TC c fin ds E L (.loop body) ks:=fun a w hs=>by
  refine wpIn_loop (fun a w=>∃ n,∃ x,p x/\μ x=n/\St c ds (EE x) (LL x) a w) (fun a w=>open Classical in if h:∃ n,∃ x,p x/\μ x=n/\St c ds (EE x) (LL x) a w then Classical.choose (exists_least h) else 0) ⟨_,x0,hp,rfl,hs.weaken he hl⟩ ?_
  intro a w hI
  have hm:=Classical.choose_spec (exists_least hI)
  obtain⟨⟨x,hx,hn,hst⟩,hmin⟩:=hm
  refine wpIn_mono (hb x hx a w hst) ?_
  intro e a' w' hq
  cases e with
  | normal=>
    obtain⟨x',hp',hlt,hst'⟩:=hq
    have hI':∃ n,∃ x,p x/\μ x=n/\St c ds (EE x) (LL x) a' w':=⟨_,x',hp',rfl,hst'⟩
    refine⟨hI',?_⟩
    rw[dif_pos hI',dif_pos hI]
    have h2:=(Classical.choose_spec (exists_least hI')).2 _ ⟨x',hp',rfl,hst'⟩
    omega
  | exit i=>exact hq
  | goto l=>exact hq
  | ret=>exact hq
  | panic ch=>exact hq
  | outgrown=>exact hq
where
  exists_least {q:Nat->Prop} (h:∃ n,q n):∃ n,q n/\∀ m,q m->n<=m:=by
    obtain⟨n,hn⟩:=h
    induction n using Nat.strongRecOn with
    | _ n ih=>
      by_cases k:∃ m,m < n/\q m
      · obtain⟨m,hm,hq⟩:=k;exact ih m hm hq
      exact⟨n,hn,fun m hm=>Nat.le_of_not_lt fun hlt=>k ⟨m,hlt,hm⟩⟩
theorem aU {X:Type} {p:X->Prop} {EE:X->Env} {LL:X->List HP} {μ:X->Nat} {x:X} (x':X) (hp:p x') (hm:μ x' < μ x) (he:qI (EE x') E) (hl:dS L (LL x')):
    TN c fin ds E L .normal (.lp (KB c ds p EE LL μ x)::ks):=fun a w hs=>⟨x',hp,hm,hs.weaken he hl⟩
theorem AJ {E':Env} {L':List HP} {x:Code} (he:qI E' E) (hl:dS L L') (h:TC c fin ds E' L' x ks):TC c fin ds E L x ks:=fun a w hs=>h a w (hs.weaken he hl)
end
section
variable {c:Cx} {fin:Exit->Act->World->Prop} {ds:List Deferred} {E:Env} {L M:List HP} {ks:List KI} {ops:Array Oper} {l:List Oper}
theorem BB (k:∀ M,M=L->TL c fin ds E M ops l ks):TL c fin ds E L ops l ks:=k L rfl
theorem gY {x:Code} (k:∀ M,M=L->TC c fin ds E M x ks):TC c fin ds E L x ks:=k L rfl
theorem bx (k:TL c fin ds E M ops l ks) (h:L=M:=by(try simp only[List.cons_append,List.nil_append,List.append_nil]) <;> rfl):TL c fin ds E L ops l ks:=h ▸ k
theorem aZ {x:Code} (k:TC c fin ds E M x ks) (h:L=M:=by(try simp only[List.cons_append,List.nil_append,List.append_nil]) <;> rfl):TC c fin ds E L x ks:=h ▸ k
theorem oJ {e:Exit} (k:TN c fin ds E M e ks) (h:L=M:=by(try simp only[List.cons_append,List.nil_append,List.append_nil]) <;> rfl):TN c fin ds E L e ks:=h ▸ k
end
section
variable {c:Cx} {fin:Exit->Act->World->Prop} {ds:List Deferred} {E:Env} {L:List HP} {ks:List KI} {ops:Array Oper} {l:List Oper} {φ:Prop}
theorem wO (h:∀ w,Sat (stars L) w->φ) (k:φ->TL c fin ds E L ops l ks):TL c fin ds E L ops l ks:=fun a w hs=>k (h w hs.sat) a w hs
theorem dN {x:Code} (h:∀ w,Sat (stars L) w->φ) (k:φ->TC c fin ds E L x ks):TC c fin ds E L x ks:=fun a w hs=>k (h w hs.sat) a w hs
theorem wN {X:Type} {LL:X->List HP} (h:∀ w,Sat (stars L) w->∃ x,Sat (stars (LL x)) w) (k:∀ x,TL c fin ds E (LL x) ops l ks):TL c fin ds E L ops l ks:=fun a w hs=>
  let ⟨x,hx⟩:=h w hs.sat;k x a w ⟨hs.size,hs.defs,hs.agree,hx,hs.ext⟩
theorem lx {X:Type} {LL:X->List HP} {y:Code} (h:∀ w,Sat (stars L) w->∃ x,Sat (stars (LL x)) w) (k:∀ x,TC c fin ds E (LL x) y ks):TC c fin ds E L y ks:=fun a w hs=>
  let ⟨x,hx⟩:=h w hs.sat;k x a w ⟨hs.size,hs.defs,hs.agree,hx,hs.ext⟩
end
section
variable {c:Cx} {fin:Exit->Act->World->Prop} {ds:List Deferred} {E:Env} {L:List HP} {ks:List KI} {ops:Array Oper} {rest:List Oper}
theorem ki {r:Option Nat} {ρ:Operand->Value} {o:Oper} (h:∀ k,o.op≠.defer k):o.semAt r ρ=execOp ρ o:=Oper.semAt_eq r ρ o h
theorem nk {X:Type} {d:Option Tmp} {op:Op} {ty:TypeId} {pos:String} {af:Array Edge} (hd:dn d c.N=true) (hop:∀ k,op≠.defer k) (V:X->Value) (LL:X->List HP)
    (h:∀ a w,St c ds E L a w->∃ x w',(execOp a.eval ⟨d,op,ty,pos,af,none⟩).run c.P w=.ok (.value (V x)) w'/\Sat (stars (LL x)) w'/\Ext w w')
    (k:∀ x,TL c fin ds (gT d (V x) E) (LL x) ops rest ks):TL c fin ds E L ops (⟨d,op,ty,pos,af,none⟩::rest) ks:=fun a w hs=>by
  refine wpListIn_plain rfl fun K hK=>?_
  obtain⟨x,w',hr,hsat,hext⟩:=h a w hs
  refine⟨fun _ _=>kC _ _,?_⟩
  rw[ki hop,hr]
  exact hK _ _ (k x _ _ (hs.put hd _ hsat hext))
theorem BC {X:Type} {d:Option Tmp} {op:Op} {ty:TypeId} {pos:String} {af:Array Edge} (hd:dn d c.N=true) (hop:∀ k,op≠.defer k) (LL:X->List HP)
    (h:∀ a w,St c ds E L a w->∃ x w',(execOp a.eval ⟨d,op,ty,pos,af,none⟩).run c.P w=.ok .skip w'/\Sat (stars (LL x)) w'/\Ext w w')
    (k:∀ x,TL c fin ds (gT d undef E) (LL x) ops rest ks):TL c fin ds E L ops (⟨d,op,ty,pos,af,none⟩::rest) ks:=fun a w hs=>by
  refine wpListIn_plain rfl fun K hK=>?_
  obtain⟨x,w',hr,hsat,hext⟩:=h a w hs
  refine⟨fun _ _=>kC _ _,?_⟩
  rw[ki hop,hr]
  exact hK _ _ (k x _ _ (hs.put hd _ hsat hext))
theorem GY {d:Option Tmp} {op:Op} {ty:TypeId} {pos:String} {af:Array Edge} (hd:dn d c.N=true) (hop:∀ k,op≠.defer k) {v:Value}
    (h:∀ a w,St c ds E L a w->(execOp a.eval ⟨d,op,ty,pos,af,none⟩).run c.P w=.ok (.value v) w)
    (k:TL c fin ds (gT d v E) L ops rest ks):TL c fin ds E L ops (⟨d,op,ty,pos,af,none⟩::rest) ks:=
  nk (X:=Unit) hd hop (fun _=>v) (fun _=>L) (fun a w hs=>⟨(),w,h a w hs,hs.sat,Ext.refl w⟩) fun _=>k
def QV (c:Cx) (ds:List Deferred) (E:Env) (L:List HP) (o:Oper) (v:Value):Prop:=
  (∀ k,o.op≠.defer k)/\∀ a w,St c ds E L a w->(execOp a.eval o).run c.P w=.ok (.value v) w
theorem QV.to {o:Oper} {v v':Value} (h:QV c ds E L o v) (e:v=v'):QV c ds E L o v':=e ▸ h
theorem ad {d:Option Tmp} {op:Op} {ty:TypeId} {pos:String} {af:Array Edge} {v:Value} (hd:dn d c.N=true) (h:QV c ds E L ⟨d,op,ty,pos,af,none⟩ v)
    (k:TL c fin ds (gT d v E) L ops rest ks):TL c fin ds E L ops (⟨d,op,ty,pos,af,none⟩::rest) ks:=
  GY hd h.1 h.2 k
theorem aA {d:Option Tmp} {op:Op} {ty:TypeId} {pos:String} {af:Array Edge} {j:Nat} {b:Bool} {t:Tmp} (ht:(ops[j]?).bind (·.dst)=some t) (hb:lk E t=some (.bool b))
    (k:TL c fin ds E L ops (⟨d,op,ty,pos,af,none⟩::rest) ks):TL c fin ds E L ops (⟨d,op,ty,pos,af,some (j,b)⟩::rest) ks:=fun a w hs=>by
  have:=k a w hs
  have hy:yielded ops a.tmps j=some b:=by simp only[yielded,ht,Option.bind_some,hs.agree t _ hb]
  unfold wpListIn at this ⊢
  rw[if_pos (by simp[Region.wanted])] at this
  rw[if_pos (by simp[Region.wanted,hy])]
  exact this
theorem ax {d:Option Tmp} {op:Op} {ty:TypeId} {pos:String} {af:Array Edge} {j:Nat} {b b':Bool} {t:Tmp} (ht:(ops[j]?).bind (·.dst)=some t) (hb:lk E t=some (.bool b')) (hne:(b' == b)=false)
    (hd:dn d c.N=true) (k:TL c fin ds (gT d undef E) L ops rest ks):TL c fin ds E L ops (⟨d,op,ty,pos,af,some (j,b)⟩::rest) ks:=fun a w hs=>by
  have hy:yielded ops a.tmps j=some b':=by simp only[yielded,ht,Option.bind_some,hs.agree t _ hb]
  unfold wpListIn
  rw[if_neg (by simp[Region.wanted,hy];simpa using hne)]
  exact⟨fun _ _=>kC _ _,k _ _ (hs.put hd undef hs.sat (Ext.refl w))⟩
theorem cJ {d:Option Tmp} {op:Op} {ty:TypeId} {pos:String} {af:Array Edge} {j:Nat} {b:Bool} {t:Tmp} (ht:(ops[j]?).bind (·.dst)=some t) (hb:lk E t=some undef)
    (hd:dn d c.N=true) (k:TL c fin ds (gT d undef E) L ops rest ks):TL c fin ds E L ops (⟨d,op,ty,pos,af,some (j,b)⟩::rest) ks:=fun a w hs=>by
  have hy:yielded ops a.tmps j=none:=by simp only[yielded,ht,Option.bind_some,hs.agree t _ hb];rfl
  unfold wpListIn
  rw[if_neg (by simp[Region.wanted,hy])]
  exact⟨fun _ _=>kC _ _,k _ _ (hs.put hd undef hs.sat (Ext.refl w))⟩
theorem FE {l:List Oper} {t:Tmp} {b:Bool} (hb:lk E t=some (.bool b)) (h1:b=true->TL c fin ds ((t,.bool true)::E) L ops l ks) (h2:b=false->TL c fin ds ((t,.bool false)::E) L ops l ks):
    TL c fin ds E L ops l ks:=fun a w hs=>by
  have hag:∀ b',b=b'->St c ds ((t,.bool b')::E) L a w:=fun b' e=>⟨hs.size,hs.defs,fun u v e'=>by
    simp only[lk] at e'
    by_cases q:t=u
    · subst q;simp only[Nat.beq_refl,Option.some.injEq] at e';subst e';rw[<- e];exact hs.agree _ _ hb
    rw[show Nat.beq t u=false from mH q] at e';exact hs.agree _ _ e',hs.sat,hs.ext⟩
  cases b with
  | true=>exact h1 rfl a w (hag _ rfl)
  | false=>exact h2 rfl a w (hag _ rfl)
end
structure aK (P:Program) (f:FuncId) (args:Array Value) (D:List HP) (Post:Value->List HP->Prop):Prop where
  enters:∀ args w,(callFunc f args).run P w=.ok (.enter f args) w
  calls:∀(Fr:List HP) (w0 w:World),Sat (stars (D ++ Fr)) w->Ext w0 w->
    CallsIn (FW none) 0 P f args w fun e w'=>∃ v L',e=.returned v/\Post v L'/\Sat (stars (L' ++ Fr)) w'/\Ext w0 w'
theorem aK.mono {P:Program} {f:FuncId} {args:Array Value} {D:List HP} {Post Post':Value->List HP->Prop} (h:aK P f args D Post) (k:∀ v L,Post v L->Post' v L):aK P f args D Post':=
  ⟨h.enters,fun Fr w0 w hs he=>(h.calls Fr w0 w hs he).mono fun _ _ ⟨v,L',e,p,s,x⟩=>⟨v,L',e,k _ _ p,s,x⟩⟩
def zp (P:Program) (fn:Func) (Fr:List HP) (w0:World) (Post:Value->List HP->Prop):Exit->Act->World->Prop:=
  bodyPostM (FW none) 0 P fn fun e w'=>∃ v L',e=.returned v/\Post v L'/\Sat (stars (L' ++ Fr)) w'/\Ext w0 w'
def vi:Nat->List Value->Env
  | _,[]=>[]
  | i,v::r=>(i,v)::vi (i+1) r
theorem vg {vs:List Value}:∀ {i t:Nat} {v:Value},lk (vi i vs) t=some v->i<=t/\vs[t-i]?=some v:=by
  induction vs with
  | nil=>intro i t v h;cases h
  | cons u r ih=>
    intro i t v h
    simp only[vi,lk] at h
    by_cases q:i=t
    · subst q;simp only[Nat.beq_refl] at h;cases h;simp
    rw[show Nat.beq i t=false from mH q] at h
    obtain⟨h1,h2⟩:=ih h
    refine⟨by omega,?_⟩
    rw[show t-i=(t-(i+1))+1 by omega];exact h2
theorem au {P:Program} {f:FuncId} {fn:Func} {x:Code} {vs:List Value} {D:List HP} {Post:Value->List HP->Prop} {N:Nat}
    (hen:∀ args w,(callFunc f args).run P w=.ok (.enter f args) w) (hf:P.funcs[f]?=some fn) (hb:fn.body=some x) (hN:fn.ntmps=N) (hlen:Nat.ble vs.length N=true)
    (h:∀ Fr w0,TC ⟨P,none,w0,N⟩ (zp P fn Fr w0 Post) [] (vi 0 vs) (D ++ Fr) x []):aK P f vs.toArray D Post:=by
  refine⟨hen,fun Fr w0 w hs he=>?_⟩
  refine callsIn_of_wp_marks hf hb trivial ?_ rfl
  refine h Fr w0 _ w ⟨?_,rfl,?_,hs,he⟩
  · have:=Nat.le_of_ble_eq_true hlen
    simp[hN];omega
  intro t v e
  obtain⟨_,h2⟩:=vg e
  have hlt:t < vs.length:=by
    rw[Nat.sub_zero] at h2
    exact(List.getElem?_eq_some_iff.1 h2).1
  simp only[Nat.sub_zero] at h2
  rw[Array.getElem?_append_left (by simpa using hlt)]
  simpa using h2
def BQ (tmps:Array Value):ResultVar->Sem Value
  | .tmp t=>pure (tmps.getD t undef)
  | .cell a t=>do loadVar t (<- asAddr (tmps.getD a undef))
inductive Rv (P:Program) (E:Env) (L:List HP):ResultVar->Value->Prop
  | tmp {t:Tmp} {v:Value}:lk E t=some v->Rv P E L (.tmp t) v
  | cell {t b:Nat} {o:Nat} {ty tt:TypeId} {v:Value} {cs:Array Value} {fr:Nat×Nat} {M:List HP}:
      lk E t=some (.pointer (some ⟨b,o,none⟩))->Take (pt b (.cells cs tt fr)) L M->cs[o]?=some v->(∀ w,(isAgg ty).run P w=.ok false w)->Rv P E L (.cell t ty) v
  | agg {t b:Nat} {ty tt:TypeId} {cs:Array Value} {fr:Nat×Nat} {M:List HP}:
      lk E t=some (.pointer (some ⟨b,0,none⟩))->Take (pt b (.cells cs tt fr)) L M->(∀ w,w.heap[b]?=some (.cells cs tt fr)->(loadVar ty ⟨b,0,none⟩).run P w=.ok (.agg cs) w)->Rv P E L (.cell t ty) (.agg cs)
theorem Rv.run {P:Program} {E:Env} {L:List HP} {r:ResultVar} {v:Value} (h:Rv P E L r v) {c:Cx} {ds:List Deferred} {a:Act} {w:World} (hs:St c ds E L a w):(BQ a.tmps r).run P w=.ok v w:=by
  cases h with
  | tmp e=>
    have:=hs.tmp e
    simp only[Act.eval] at this
    simp only[BQ,this];rfl
  | cell e ht hc ha=>
    have:=hs.tmp e
    simp only[Act.eval] at this
    have hb:=hs.sat.block ht
    simp only[BQ,this,asAddr,loadVar,Sem.run_bind,Sem.run_pure,Result.andThen,ha]
    simp[load,Sem.run,World.cell?,hb,hc]
  | agg e ht hl=>
    have:=hs.tmp e
    simp only[Act.eval] at this
    have hb:=hs.sat.block ht
    simp only[BQ,this,asAddr,Sem.run_bind,Sem.run_pure,Result.andThen,hl w hb]
section
variable {P:Program} {fn:Func} {E:Env} {L:List HP} {c:Cx} {ds:List Deferred} {a:Act} {w:World}
def oB (P:Program) (fn:Func) (E:Env) (L:List HP) (v:Value):Prop:=∀(c:Cx) (ds:List Deferred) (a:Act) (w:World),St c ds E L a w->(results fn a.tmps).run P w=.ok v w
theorem kR (fn:Func) (tmps:Array Value):results fn tmps=(do
  let vs <- fn.results.mapM (BQ tmps)
  pure (if h:vs.size=1 then vs[0] else .tuple vs)):=by
  unfold results
  congr 1
theorem pP (h:fn.results=#[]):oB P fn E L (.tuple #[]):=fun c ds a w hs=>by
  rw[kR,h];simp[Result.andThen]
theorem cP {r1:ResultVar} {v1:Value} (h:fn.results=#[r1]) (h1:Rv P E L r1 v1):oB P fn E L v1:=fun c ds a w hs=>by
  rw[kR,h];simp[Result.andThen,h1.run hs]
theorem cF {r1 r2:ResultVar} {v1 v2:Value} (h:fn.results=#[r1,r2]) (h1:Rv P E L r1 v1) (h2:Rv P E L r2 v2):oB P fn E L (.tuple #[v1,v2]):=fun c ds a w hs=>by
  rw[kR,h];simp[Result.andThen,h1.run hs,h2.run hs]
theorem oG {r1 r2 r3:ResultVar} {v1 v2 v3:Value} (h:fn.results=#[r1,r2,r3]) (h1:Rv P E L r1 v1) (h2:Rv P E L r2 v2) (h3:Rv P E L r3 v3):oB P fn E L (.tuple #[v1,v2,v3]):=fun c ds a w hs=>by
  rw[kR,h];simp[Result.andThen,h1.run hs,h2.run hs,h3.run hs]
end
def marksOf:List Nat->List Deferred
  | []=>[]
  | b::r=>{target:=.collected b,args:=#[]}::marksOf r
def oT:List Nat->List HP
  | []=>[]
  | b::r=>pt b (.deferred (some []))::oT r
theorem ni {P:Program} {fn:Func} {tmps:Array Value} {R:Ending->World->Prop} {v:Value} {M:List HP} {w0:World}:
    ∀(bs:List Nat) (w:World),Sat (stars (oT bs ++ M)) w->Ext w0 w->(∀ w',Sat (stars M) w'->Ext w0 w'->(results fn tmps).run P w'=.ok v w'/\R (.returned v) w')->
      LeavesInM (FW none) 0 P fn tmps R (marksOf bs) .returning w
  | [],w,hs,he,h=>by
    obtain⟨h1,h2⟩:=h w hs he
    exact⟨v,h1,h2⟩
  | b::bs,w,hs,he,h=>by
    have hb:w.heap[b]?=some (Obj.deferred (some [])):=hs.block .here
    refine⟨by simp,.inl ⟨b,_,rfl,run_takeDeferred hb,?_⟩⟩
    exact ni bs _ (Sat.tail (Sat.putObj hs (.deferred none))) (he.putObj _ _) h
theorem aR {c:Cx} {fn:Func} {Fr:List HP} {Post:Value->List HP->Prop} {E:Env} {L:List HP} {e:Exit} (hx:e=.ret\/e=.normal) {v:Value} (L':List HP)
    (hr:oB c.P fn E L v) (hp:Post v L') (hl:dS L (L' ++ Fr)):TN c (zp c.P fn Fr c.w0 Post) [] E L e []:=fun a w hs=>by
  have hd:=hs.defs
  have:LeavesInM (FW none) 0 c.P fn a.tmps (fun e w'=>∃ v L',e=.returned v/\Post v L'/\Sat (stars (L' ++ Fr)) w'/\Ext c.w0 w') a.defers .returning w:=by
    rw[hd]
    exact⟨v,hr c [] a w hs,v,L',rfl,hp,hl w hs.sat,hs.ext⟩
  rcases hx with rfl | rfl <;> exact this
inductive gQ:List Nat->List HP->List HP->Prop
  | nil {L:List HP}:gQ [] L L
  | cons {b:Nat} {bs:List Nat} {L M N:List HP}:Take (pt b (.deferred (some []))) L M->gQ bs M N->gQ (b::bs) L N
theorem gQ.perm {bs:List Nat} {L M:List HP} (h:gQ bs L M):L.Perm (oT bs ++ M):=by
  induction h with
  | nil=>exact .refl _
  | cons t _ ih=>exact t.perm.trans (ih.cons _)
theorem s6 {c:Cx} {fn:Func} {Fr:List HP} {Post:Value->List HP->Prop} {E:Env} {L M:List HP} {e:Exit} (hx:e=.ret\/e=.normal) {v:Value} (bs:List Nat) (L':List HP)
    (hm:gQ bs L M) (hr:oB c.P fn E M v) (hp:Post v L') (hl:dS M (L' ++ Fr)):TN c (zp c.P fn Fr c.w0 Post) (marksOf bs) E L e []:=fun a w hs=>by
  have:LeavesInM (FW none) 0 c.P fn a.tmps (fun e w'=>∃ v L',e=.returned v/\Post v L'/\Sat (stars (L' ++ Fr)) w'/\Ext c.w0 w') a.defers .returning w:=by
    rw[hs.defs]
    refine ni bs w (hs.sat.perm hm.perm) hs.ext fun w' hs' he'=>⟨hr c _ {a with defers:=[]} w' ⟨hs.size,rfl,hs.agree,hs',he'⟩,v,L',rfl,hp,hl w' hs',he'⟩
  rcases hx with rfl | rfl <;> exact this
section
variable {c:Cx} {fin:Exit->Act->World->Prop} {ds:List Deferred} {E:Env} {L:List HP} {ks:List KI} {ops:Array Oper} {rest:List Oper}
theorem FF {d:Option Tmp} {x:Operand} {xs:Array Operand} {ats:Array TypeId} {ty:TypeId} {pos:String} {af:Array Edge} {f:FuncId} {cap:Array Value} {vs:List Value} {args:Array Value} {D R:List HP} {Post:Value->List HP->Prop}
    (hd:dn d c.N=true) (hx:ev E x=some (.func (.func f) #[] cap)) (ha:evl E xs.toList=some vs) (hargs:vs.toArray ++ cap=args) (hc:aK c.P f args D Post) (hp:fQ D L R)
    (k:∀ v L',Post v L'->TL c fin ds (gT d v E) (L' ++ R) ops rest ks):TL c fin ds E L ops (⟨d,.call {callee:=.value x,args:=xs,argTypes:=ats},ty,pos,af,none⟩::rest) ks:=fun a w hs=>by
  refine wpListIn_plain rfl fun K hK=>?_
  have e1:=hs.ev hx
  have e2:xs.map a.eval=vs.toArray:=by
    have:=hs.evl ha
    apply Array.ext'
    simpa using this
  refine⟨fun _ _=>kC _ _,?_⟩
  rw[ki (by intro k;simp)]
  have hr:(execOp a.eval ⟨d,.call {callee:=.value x,args:=xs,argTypes:=ats},ty,pos,af,none⟩).run c.P w=.ok (.enter f args) w:=by
    simp only[execOp,resolve,e1,e2,Deferred.ofValue,Sem.run_bind,Sem.run_pure,Result.andThen,invoke]
    rw[show(#[] ++ vs.toArray) ++ cap=args by rw[<- hargs];simp]
    exact hc.enters args w
  rw[hr]
  refine⟨fun h=>(by cases h),(hc.calls R c.w0 w (hs.sat.pick hp) hs.ext).mono ?_⟩
  rintro e w' ⟨v,L',rfl,hpost,hsat,hext⟩
  exact hK _ _ (k v L' hpost _ _ ⟨(hs.put hd v hs.sat (Ext.refl w)).size,(hs.put hd v hs.sat (Ext.refl w)).defs,(hs.put hd v hs.sat (Ext.refl w)).agree,hsat,hext⟩)
theorem x5 {d:Option Tmp} {x:Operand} {xs:Array Operand} {ats:Array TypeId} {ty:TypeId} {pos:String} {af:Array Edge} {f:FuncId} {vs:List Value} {D R:List HP} {Post:Value->List HP->Prop}
    (hd:dn d c.N=true) (hx:ev E x=some (.func (.func f) #[] #[])) (ha:evl E xs.toList=some vs) (hc:aK c.P f vs.toArray D Post) (hp:fQ D L R)
    (k:∀ v L',Post v L'->TL c fin ds (gT d v E) (L' ++ R) ops rest ks):TL c fin ds E L ops (⟨d,.call {callee:=.value x,args:=xs,argTypes:=ats},ty,pos,af,none⟩::rest) ks:=
  FF hd hx ha (by simp) hc hp k
end
theorem wf_i64 {a:Int} (h:(Lit.int .i64 a).wf=true):-9223372036854775808<=a/\a<=9223372036854775807:=by
  simp[Lit.wf,IntKind.min,IntKind.max,IntKind.signed,IntKind.bits] at h;omega
theorem wf_u64 {a:Int} (h:(Lit.int .u64 a).wf=true):0<=a/\a < 18446744073709551616:=by
  simp[Lit.wf,IntKind.min,IntKind.max,IntKind.signed,IntKind.bits] at h;omega
end Eng
end
end Go.Proofs.YthkajgkagnenbaaGreatDoor
