import Derived.Test.YthkajgkagnenbaaGreatDoorEngSt
import Derived.Laws.Entries
import Derived.Laws.BitsAllLaws
import Derived.Laws.BitsLemmas
import Derived.IntWalk
import Derived.WideShapes
import Derived.Laws.Strings
import Derived.Laws.AppendOwn
import Derived.Laws.MakeOwn
set_option linter.unusedVariables false
set_option linter.unusedSimpArgs false
set_option linter.unusedSectionVars false
namespace Go.Proofs.YthkajgkagnenbaaGreatDoor
section
namespace Eng
open Go.RowKit
theorem dr (b o k:Nat):(⟨b,o,none⟩:Addr).add k=⟨b,o+k,none⟩:=by
  unfold Addr.add
  split
  · next h=>subst h;rfl
  rfl
def BY (E:Env):List (Nat×Operand)->Option (List (Nat×Value))
  | []=>some []
  | (i,x)::r=>match ev E x,BY E r with
    | some v,some vs=>some ((i,v)::vs)
    | _,_=>none
theorem s7 {c:Cx} {ds:List Deferred} {E:Env} {L:List HP} {a:Act} {w:World} (hs:St c ds E L a w):∀ {ps:List (Nat×Operand)} {vs:List (Nat×Value)},BY E ps=some vs->ps.map (fun p=>(p.1,a.eval p.2))=vs
  | [],vs,e=>by simp only[BY,Option.some.injEq] at e;exact e
  | (i,x)::r,vs,e=>by
    simp only[BY] at e
    cases hx:ev E x with
    | none=>rw[hx] at e;cases e
    | some v=>
      cases hr:BY E r with
      | none=>rw[hx,hr] at e;cases e
      | some us=>rw[hx,hr] at e;cases e;simp only[List.map_cons,hs.ev hx,s7 hs hr]
section
variable {c:Cx} {fin:Exit->Act->World->Prop} {ds:List Deferred} {E:Env} {L:List HP} {ks:List KI} {ops:Array Oper} {rest:List Oper}
variable {d:Option Tmp} {ty:TypeId} {pos:String} {af:Array Edge} {gd:Option (Nat×Bool)}
theorem ah {x:Operand} {v:Value} (hx:ev E x=some v):
    QV c ds E L ⟨d,.move x,ty,pos,af,gd⟩ v:=
  ⟨by intro k;simp,fun a w hs=>by simp only[execOp,hs.ev hx];rfl⟩
theorem A8 {x:Operand} {v:Value} (hx:ev E x=some v):
    QV c ds E L ⟨d,.assign x,ty,pos,af,gd⟩ v:=
  ⟨by intro k;simp,fun a w hs=>by simp only[execOp,hs.ev hx];rfl⟩
theorem A3 {x y z:Operand} {v:Value} (hx:ev E x=some (.bool true)) (hy:ev E y=some v):
    QV c ds E L ⟨d,.pick x y z,ty,pos,af,gd⟩ v:=
  ⟨by intro k;simp,fun a w hs=>by simp[execOp,hs.ev hx,hs.ev hy,asBool,Result.andThen]⟩
theorem A4 {x y z:Operand} {v:Value} (hx:ev E x=some (.bool false)) (hz:ev E z=some v):
    QV c ds E L ⟨d,.pick x y z,ty,pos,af,gd⟩ v:=
  ⟨by intro k;simp,fun a w hs=>by simp[execOp,hs.ev hx,hs.ev hz,asBool,Result.andThen]⟩
theorem xX {elem:TypeId} {z:Value} {cs:Array Value} (hd:dn d c.N=true) (hz:∀ w,(zeroValue elem).run c.P w=.ok z w) (hcs:z.cells=cs)
    (k:∀ b,TL c fin ds (gT d (.pointer (some ⟨b,0,none⟩)) E) (pt b (.cells cs elem (0,0))::L) ops rest ks):TL c fin ds E L ops (⟨d,.alloc elem,ty,pos,af,none⟩::rest) ks:=
  nk hd (by intro k;simp) (fun b=>.pointer (some ⟨b,0,none⟩)) (fun b=>pt b (.cells cs elem (0,0))::L)
    (fun a w hs=>⟨w.heap.size,w.alloc (.cells cs elem (0,0)),by
      simp only[execOp,Instr.alloc,Sem.run_bind,hz,Result.andThen,newVar,newRow,hcs,run_newObj_alloc,Sem.run_pure],hs.sat.alloc _,(Ext.refl w).alloc _⟩) k
theorem EA {elem:TypeId} {x:Operand} {v:Value} {cs:Array Value} (hd:dn d c.N=true) (hx:ev E x=some v) (hcs:v.cells=cs)
    (k:∀ b,TL c fin ds (gT d (.pointer (some ⟨b,0,none⟩)) E) (pt b (.cells cs elem (0,0))::L) ops rest ks):TL c fin ds E L ops (⟨d,.box elem x,ty,pos,af,none⟩::rest) ks:=
  nk hd (by intro k;simp) (fun b=>.pointer (some ⟨b,0,none⟩)) (fun b=>pt b (.cells cs elem (0,0))::L)
    (fun a w hs=>⟨w.heap.size,w.alloc (.cells cs elem (0,0)),by
      simp only[execOp,Instr.box,Sem.run_bind,hs.ev hx,Result.andThen,newVar,newRow,hcs,run_newObj_alloc,Sem.run_pure],hs.sat.alloc _,(Ext.refl w).alloc _⟩) k
theorem gz {v:Value} (hv:v.oneCell'=true):v.cells=#[v]:=by cases v <;> first | rfl | (simp[Value.oneCell'] at hv)
theorem iu {elem:TypeId} {z:Value} (hd:dn d c.N=true) (hz:∀ w,(zeroValue elem).run c.P w=.ok z w) (hcs:z.oneCell'=true)
    (k:∀ b,TL c fin ds (gT d (.pointer (some ⟨b,0,none⟩)) E) (pt b (.cells #[z] elem (0,0))::L) ops rest ks):TL c fin ds E L ops (⟨d,.alloc elem,ty,pos,af,none⟩::rest) ks:=xX hd hz (gz hcs) k
theorem ay {elem:TypeId} {cs:Array Value} (hd:dn d c.N=true) (hz:∀ w,(zeroValue elem).run c.P w=.ok (.agg cs) w)
    (k:∀ b,TL c fin ds (gT d (.pointer (some ⟨b,0,none⟩)) E) (pt b (.cells cs elem (0,0))::L) ops rest ks):TL c fin ds E L ops (⟨d,.alloc elem,ty,pos,af,none⟩::rest) ks:=xX hd hz rfl k
theorem eQ {elem:TypeId} {x:Operand} {v:Value} (hd:dn d c.N=true) (hx:ev E x=some v) (hcs:v.oneCell'=true)
    (k:∀ b,TL c fin ds (gT d (.pointer (some ⟨b,0,none⟩)) E) (pt b (.cells #[v] elem (0,0))::L) ops rest ks):TL c fin ds E L ops (⟨d,.box elem x,ty,pos,af,none⟩::rest) ks:=EA hd hx (gz hcs) k
theorem bw {elem:TypeId} {x:Operand} {cs:Array Value} (hd:dn d c.N=true) (hx:ev E x=some (.agg cs))
    (k:∀ b,TL c fin ds (gT d (.pointer (some ⟨b,0,none⟩)) E) (pt b (.cells cs elem (0,0))::L) ops rest ks):TL c fin ds E L ops (⟨d,.box elem x,ty,pos,af,none⟩::rest) ks:=EA hd hx rfl k
theorem fW {t:TypeId} {x:Operand} {b o:Nat} {v:Value} {cs:Array Value} {tt:TypeId} {fr:Nat×Nat} {M:List HP} (hx:ev E x=some (.pointer (some ⟨b,o,none⟩)))
    (ha:∀ w,(isAgg t).run c.P w=.ok false w) (ht:Take (pt b (.cells cs tt fr)) L M) (hv:cs[o]?=some v):
    QV c ds E L ⟨d,.load t x,ty,pos,af,gd⟩ v:=
  ⟨by intro k;simp,fun a w hs=>by
    have hb:=hs.sat.block ht
    simp only[execOp,Instr.loadAt,Instr.sureAddr,hs.ev hx,Sem.run_bind,Sem.run_pure,Result.andThen,loadVar,ha]
    simp[load,Sem.run,World.cell?,hb,hv]⟩
inductive jS:List Value->Nat->Value->Prop
  | here {x:Value} {l:List Value}:jS (x::l) 0 x
  | there {x v:Value} {o:Nat} {l:List Value}:jS l o v->jS (x::l) (o+1) v
theorem jS.eq {l:List Value} {o:Nat} {v:Value} (h:jS l o v):l.toArray[o]?=some v:=by
  have:l[o]?=some v:=by
    induction h with
    | here=>rfl
    | there _ ih=>simpa using ih
  simpa using this
theorem ga {l:List Value} {o:Nat} {v:Value} (h:jS l o v:=by repeat (first | exact jS.here | apply jS.there)):jS l o v:=h
theorem Dm {t:TypeId} {x:Operand} {b o:Nat} {v:Value} {l:List Value} {tt:TypeId} {fr:Nat×Nat} {M:List HP} (hx:ev E x=some (.pointer (some ⟨b,o,none⟩)))
    (ha:∀ w,(isAgg t).run c.P w=.ok false w) (ht:Take (pt b (.cells l.toArray tt fr)) L M) (hv:jS l o v):QV c ds E L ⟨d,.load t x,ty,pos,af,gd⟩ v:=fW hx ha ht hv.eq
theorem Rv.cellL {P:Program} {E:Env} {L:List HP} {t b:Nat} {o:Nat} {ty tt:TypeId} {v:Value} {l:List Value} {fr:Nat×Nat} {M:List HP}
    (e:lk E t=some (.pointer (some ⟨b,o,none⟩))) (ht:Take (pt b (.cells l.toArray tt fr)) L M) (hv:jS l o v) (ha:∀ w,(isAgg ty).run P w=.ok false w):Rv P E L (.cell t ty) v:=Rv.cell e ht hv.eq ha
theorem run_loadCellsFrom {P:Program} {w:World} {b:Nat} {cs:Array Value} {tt:TypeId} {fr:Nat×Nat} (hb:w.heap[b]?=some (.cells cs tt fr)):∀(n i o:Nat) (acc:Array Value),o+i+n<=cs.size->
    (loadCellsFrom ⟨b,o,none⟩ i n acc).run P w=.ok (acc ++ cs.extract (o+i) (o+i+n)) w
  | 0,i,o,acc,h=>by
    have:cs.extract (o+i) (o+i+0)=#[]:=by simp;omega
    simp only[loadCellsFrom,Sem.run_pure,this,Array.append_empty]
  | n+1,i,o,acc,h=>by
    have hlt:o+i < cs.size:=by omega
    simp only[loadCellsFrom,Sem.run_bind,dr]
    have hl:(load ⟨b,o+i,none⟩).run P w=.ok cs[o+i] w:=by simp[load,Sem.run,World.cell?,hb,hlt]
    rw[hl]
    simp only[Result.andThen]
    rw[run_loadCellsFrom hb n (i+1) o _ (by omega)]
    congr 1
    apply Array.ext'
    simp only[Array.toList_append,Array.toList_push,Array.toList_extract,List.append_assoc,List.extract_eq_take_drop]
    rw[show o+(i+1)+n-(o+(i+1))=n by omega,show o+i+(n+1)-(o+i)=n+1 by omega,show o+(i+1)=(o+i)+1 by omega]
    rw[List.drop_eq_getElem_cons (l:=cs.toList) (i:=o+i) (by simpa using hlt)]
    simp
theorem run_loadCells {P:Program} {w:World} {b:Nat} {cs:Array Value} {tt:TypeId} {fr:Nat×Nat} (hb:w.heap[b]?=some (.cells cs tt fr)) (n o:Nat) (h:o+n<=cs.size):
    (loadCells ⟨b,o,none⟩ n).run P w=.ok (cs.extract o (o+n)) w:=by
  unfold loadCells
  rw[run_loadCellsFrom hb n 0 o #[] (by omega)]
  simp
theorem yQ {t:TypeId} {x:Operand} {b o n:Nat} {us cs:Array Value} {tt:TypeId} {fr:Nat×Nat} {M:List HP} (hx:ev E x=some (.pointer (some ⟨b,o,none⟩)))
    (ha:∀ w,(isAgg t).run c.P w=.ok true w) (hn:∀ w,(sizeOf t).run c.P w=.ok n w) (ht:Take (pt b (.cells cs tt fr)) L M) (hsz:Nat.ble (o+n) cs.size=true) (hv:cs.extract o (o+n)=us):
    QV c ds E L ⟨d,.load t x,ty,pos,af,gd⟩ (.agg us):=
  ⟨by intro k;simp,fun a w hs=>by
    have hb:=hs.sat.block ht
    simp only[execOp,Instr.loadAt,Instr.sureAddr,hs.ev hx,Sem.run_bind,Sem.run_pure,Result.andThen,loadVar,ha,hn,if_true,run_loadCells hb n o (Nat.le_of_ble_eq_true hsz),hv]⟩
theorem qX {P:Program} {w:World} {a:Addr} {v u:Value} (hv:v.oneCell'=true) (hc:w.cell? a=some u) (hf:w.frozen? a=false):(store a v).run P w=.ok () (w.setCell a v):=by
  rw[run_store P w a v .plain hv];simp[stored,hc,hf]
theorem lW {b o:Nat} {cs:Array Value} {tt:TypeId} {M:List HP} {w:World} (h:Sat (stars L) w) (ht:Take (pt b (.cells cs tt (0,0))) L M) (v:Value):
    Sat (stars (pt b (.cells (cs.setIfInBounds o v) tt (0,0))::M)) (w.setCell ⟨b,o,none⟩ v):=(h.take ht).setCell v
theorem lA {P:Program} {w:World} {b o:Nat} {cs:Array Value} {tt:TypeId} (hb:w.heap[b]?=some (.cells cs tt (0,0))) (ho:o < cs.size) {v:Value} (hv:v.oneCell'=true):
    (store ⟨b,o,none⟩ v).run P w=.ok () (w.setCell ⟨b,o,none⟩ v):=
  qX (u:=cs[o]) hv (by simp[World.cell?,hb,ho]) (by simp[World.frozen?,hb])
theorem kU {t:TypeId} {x y:Operand} {b o:Nat} {v:Value} {cs cs':Array Value} {tt:TypeId} {M:List HP} (hd:dn d c.N=true) (hx:ev E x=some (.pointer (some ⟨b,o,none⟩))) (hy:ev E y=some v)
    (hn:∀ w,(sizeOf t).run c.P w=.ok 1 w) (hv:v.oneCell'=true) (ht:Take (pt b (.cells cs tt (0,0))) L M) (ho:Nat.blt o cs.size=true) (hcs:cs.setIfInBounds o v=cs') (k:TL c fin ds (gT d undef E) (pt b (.cells cs' tt (0,0))::M) ops rest ks):
    TL c fin ds E L ops (⟨d,.store t x y,ty,pos,af,none⟩::rest) ks:=
  BC (X:=Unit) hd (by intro k;simp) (fun _=>pt b (.cells cs' tt (0,0))::M) (fun a w hs=>⟨(),w.setCell ⟨b,o,none⟩ v,by
    have hb:=hs.sat.block ht
    have hone:v.cells=#[v]:=by cases v <;> first | rfl | (simp[Value.oneCell'] at hv)
    simp only[execOp,Instr.storeAt,Instr.sureAddr,hs.ev hx,hs.ev hy,Sem.run_bind,Sem.run_pure,Result.andThen,storeVar,hn,hone]
    simp only[List.size_toArray,List.length_cons,List.length_nil,ne_eq,not_true_eq_false,if_false,Sem.run_pure,Result.andThen,storeCells,dr,Nat.add_zero,Sem.run_bind]
    rw[lA hb (Nat.le_of_ble_eq_true ho) hv]
    ,by rw[<- hcs];exact lW hs.sat ht v,(Ext.refl w).setCell _ _⟩) fun _=>k
def setCells (cs:Array Value):Nat->List Value->Array Value
  | _,[]=>cs
  | o,v::r=>setCells (cs.setIfInBounds o v) (o+1) r
def iU (w:World) (b:Nat):Nat->List Value->World
  | _,[]=>w
  | o,v::r=>iU (w.setCell ⟨b,o,none⟩ v) b (o+1) r
theorem sF {b:Nat} {tt:TypeId} {M:List HP} {vs:List Value}:∀ {o:Nat} {cs:Array Value} {w:World},Sat (stars (pt b (.cells cs tt (0,0))::M)) w->
    Sat (stars (pt b (.cells (setCells cs o vs) tt (0,0))::M)) (iU w b o vs)/\Ext w (iU w b o vs):=by
  induction vs with
  | nil=>intro o cs w h;exact⟨h,Ext.refl w⟩
  | cons v r ih=>
    intro o cs w h
    obtain⟨h1,h2⟩:=ih (o:=o+1) (lW (o:=o) h .here v)
    exact⟨h1,((Ext.refl w).setCell _ _).trans h2⟩
theorem pH {P:Program} {b o:Nat} {tt:TypeId} {M:List HP} {vs:List Value}:∀ {i:Nat} {cs:Array Value} {w:World},Sat (stars (pt b (.cells cs tt (0,0))::M)) w->(∀ v∈vs,v.oneCell'=true)->o+i+vs.length<=cs.size->
    (storeCells ⟨b,o,none⟩ vs i).run P w=.ok () (iU w b (o+i) vs):=by
  induction vs with
  | nil=>intro i cs w _ _ _;rfl
  | cons v r ih=>
    intro i cs w hs hv hl
    simp only[List.length_cons] at hl
    simp only[storeCells,dr,Sem.run_bind]
    rw[lA (hs.block .here) (by omega) (hv v (by simp))]
    simp only[Result.andThen,iU]
    have:=ih (i:=i+1) (lW (o:=o+i) hs .here v) (fun u hu=>hv u (by simp[hu])) (by simp;omega)
    rw[this];rw[show o+i+1=o+(i+1) by omega]
theorem wE {t:TypeId} {x y:Operand} {b o n:Nat} {us:Array Value} {cs cs':Array Value} {tt:TypeId} {M:List HP} (hd:dn d c.N=true) (hx:ev E x=some (.pointer (some ⟨b,o,none⟩))) (hy:ev E y=some (.agg us))
    (hn:∀ w,(sizeOf t).run c.P w=.ok n w) (hus:us.size=n) (hv:us.toList.all (·.oneCell')=true) (ht:Take (pt b (.cells cs tt (0,0))) L M) (ho:Nat.ble (o+n) cs.size=true) (hcs:setCells cs o us.toList=cs')
    (k:TL c fin ds (gT d undef E) (pt b (.cells cs' tt (0,0))::M) ops rest ks):
    TL c fin ds E L ops (⟨d,.store t x y,ty,pos,af,none⟩::rest) ks:=
  BC (X:=Unit) hd (by intro k;simp) (fun _=>pt b (.cells cs' tt (0,0))::M) (fun a w hs=>by
    have h0:=hs.sat.take ht
    obtain⟨h1,h2⟩:=sF (o:=o) (vs:=us.toList) (M:=M) (cs:=cs) (tt:=tt) (b:=b) (w:=w) h0
    refine⟨(),iU w b o us.toList,?_,by rw[hcs] at h1;exact h1,h2⟩
    have hr:=pH (P:=c.P) (b:=b) (o:=o) (i:=0) (vs:=us.toList) (M:=M) (cs:=cs) (tt:=tt) (w:=w) h0 (fun v hm=>List.all_eq_true.1 hv v hm) (by have:=Nat.le_of_ble_eq_true ho;simp[hus];omega)
    simp only[execOp,Instr.storeAt,Instr.sureAddr,hs.ev hx,hs.ev hy,Sem.run_bind,Sem.run_pure,Result.andThen,storeVar,hn,Value.cells,hus]
    simp only[ne_eq,not_true_eq_false,if_false,Sem.run_pure,Result.andThen]
    rw[hr];rfl) fun _=>k
inductive gR:List Value->Nat->Value->List Value->Prop
  | here {x v:Value} {l:List Value}:gR (x::l) 0 v (v::l)
  | there {x v:Value} {o:Nat} {l l':List Value}:gR l o v l'->gR (x::l) (o+1) v (x::l')
inductive gS:List Value->Nat->List Value->List Value->Prop
  | nil {o:Nat} {l:List Value}:gS l o [] l
  | cons {o:Nat} {v:Value} {l l1 l2 vs:List Value}:gR l o v l1->gS l1 (o+1) vs l2->gS l o (v::vs) l2
theorem gR.eq {l l':List Value} {o:Nat} {v:Value} (h:gR l o v l'):o < l.length/\l.toArray.setIfInBounds o v=l'.toArray/\l'.length=l.length:=by
  have:o < l.length/\l.set o v=l'/\l'.length=l.length:=by
    induction h with
    | here=>simp
    | there _ ih=>obtain⟨h1,h2,h3⟩:=ih;exact⟨by simpa using h1,by simp[h2],by simpa using h3⟩
  exact⟨this.1,by rw[List.setIfInBounds_toArray,this.2.1],this.2.2⟩
theorem gS.eq {l l' vs:List Value} {o:Nat} (h:gS l o vs l'):(vs= []\/o+vs.length<=l.length)/\setCells l.toArray o vs=l'.toArray:=by
  induction h with
  | nil=>exact⟨.inl rfl,rfl⟩
  | cons h1 _ ih=>
    obtain⟨a1,a2,a3⟩:=h1.eq
    obtain⟨b1,b2⟩:=ih
    refine⟨.inr ?_,by simp only[setCells,a2,b2]⟩
    rcases b1 with rfl | b1
    · simp;omega
    simp;omega
theorem sa {l l':List Value} {o:Nat} {v:Value} (h:gR l o v l':=by repeat (first | exact gR.here | apply gR.there)):gR l o v l':=h
theorem Dj {l l' vs:List Value} {o:Nat} (h:gS l o vs l':=by repeat (first | exact gS.nil | apply gS.cons | exact gR.here | apply gR.there)):gS l o vs l':=h
theorem qc {t:TypeId} {x y:Operand} {b o:Nat} {v:Value} {l l':List Value} {tt:TypeId} {M:List HP} (hd:dn d c.N=true) (hx:ev E x=some (.pointer (some ⟨b,o,none⟩))) (hy:ev E y=some v)
    (hn:∀ w,(sizeOf t).run c.P w=.ok 1 w) (hv:v.oneCell'=true) (ht:Take (pt b (.cells l.toArray tt (0,0))) L M) (hs:gR l o v l') (k:TL c fin ds (gT d undef E) (pt b (.cells l'.toArray tt (0,0))::M) ops rest ks):
    TL c fin ds E L ops (⟨d,.store t x y,ty,pos,af,none⟩::rest) ks:=
  kU hd hx hy hn hv ht (Nat.ble_eq_true_of_le (by have:=hs.eq.1;simp;omega)) hs.eq.2.1 k
theorem uH {t:TypeId} {x y:Operand} {b o n:Nat} {us:List Value} {l l':List Value} {tt:TypeId} {M:List HP} (hd:dn d c.N=true) (hx:ev E x=some (.pointer (some ⟨b,o,none⟩))) (hy:ev E y=some (.agg us.toArray))
    (hn:∀ w,(sizeOf t).run c.P w=.ok n w) (hus:us.length=n) (hv:us.all (·.oneCell')=true) (hne:us≠[]) (ht:Take (pt b (.cells l.toArray tt (0,0))) L M) (hs:gS l o us l')
    (k:TL c fin ds (gT d undef E) (pt b (.cells l'.toArray tt (0,0))::M) ops rest ks):
    TL c fin ds E L ops (⟨d,.store t x y,ty,pos,af,none⟩::rest) ks:=
  wE hd hx hy hn (by simpa using hus) (by simpa using hv) ht (Nat.ble_eq_true_of_le (by
    rcases hs.eq.1 with h | h
    · exact absurd h hne
    simpa [hus] using h)) (by simpa using hs.eq.2) k
theorem ae {x:Operand} {a0:Addr} (hx:ev E x=some (.pointer (some a0))):QV c ds E L ⟨d,.nilCheck x,ty,pos,af,gd⟩ (.pointer (some a0)):=
  ⟨by intro k;simp,fun a w hs=>by simp only[execOp,hs.ev hx];rfl⟩
theorem gI {op:BinOp} {t u:TypeId} {x y:Operand} {vx vy v:Value} (hx:ev E x=some vx) (hy:ev E y=some vy)
    (hg:∀ w,(eqGuard op t x y vx vy).run c.P w=.ok () w) (hr:∀ w,(binOp op t vx vy).run c.P w=.ok v w):
    QV c ds E L ⟨d,.binOp op t x y u,ty,pos,af,gd⟩ v:=
  ⟨by intro k;simp,fun a w hs=>by simp only[execOp,hs.ev hx,hs.ev hy,Sem.run_bind,hg,hr,Result.andThen,Sem.run_pure]⟩
theorem db {op:UnOp} {t:TypeId} {x:Operand} {vx v:Value} (hx:ev E x=some vx) (hr:∀ w,(Op.unary op vx).run c.P w=.ok v w):
    QV c ds E L ⟨d,.unOp op t x,ty,pos,af,gd⟩ v:=
  ⟨by intro k;simp,fun a w hs=>by simp only[execOp,hs.ev hx,Sem.run_bind,hr,Result.andThen,Sem.run_pure]⟩
theorem A6 {s t:TypeId} {x:Operand} {vx v:Value} (hx:ev E x=some vx) (hr:∀ w,(convert s t vx).run c.P w=.ok v w):
    QV c ds E L ⟨d,.convert s t x,ty,pos,af,gd⟩ v:=
  ⟨by intro k;simp,fun a w hs=>by simp only[execOp,hs.ev hx,Sem.run_bind,hr,Result.andThen,Sem.run_pure]⟩
theorem yR {x:Operand} {vs:Array Value} {i:Nat} {v:Value} (hx:ev E x=some (.tuple vs)) (hv:vs[i]?=some v):
    QV c ds E L ⟨d,.extract x i,ty,pos,af,gd⟩ v:=
  ⟨by intro k;simp,fun a w hs=>by simp[execOp,hs.ev hx,Instr.extract,hv,Result.andThen]⟩
theorem uv {s:TypeId} {x:Operand} {b o i:Nat} {fs:Array Field} {f:Field} {n:Nat} (hx:ev E x=some (.pointer (some ⟨b,o,none⟩))) (hs:c.P.underlying s=some (.struct fs)) (hf:fs[i]?=some f)
    (hn:∀ w,(sizeOf f.type).run c.P w=.ok (n+1) w):
    QV c ds E L ⟨d,.fieldAddr s x i,ty,pos,af,gd⟩ (.pointer (some ⟨b,o+f.offset,none⟩)):=
  ⟨by intro k;simp,fun a w hs'=>by
    simp only[execOp,Instr.fieldAt,hs'.ev hx,Sem.run_bind,run_underlying hs,Result.andThen,hf,Instr.sureAddr,Sem.run_pure,fieldPlace,hn,dr]
    simp[dr]⟩
theorem A5 {s:TypeId} {x:Operand} {cs:Array Value} {i:Nat} {fs:Array Field} {f:Field} {v:Value} (hx:ev E x=some (.agg cs)) (hs:c.P.underlying s=some (.struct fs)) (hf:fs[i]?=some f)
    (ha:∀ w,(isAgg f.type).run c.P w=.ok false w) (hv:cs[f.offset]?=some v):
    QV c ds E L ⟨d,.field s x i,ty,pos,af,gd⟩ v:=
  ⟨by intro k;simp,fun a w hs'=>by
    simp only[execOp,Instr.field,hs'.ev hx,Sem.run_bind,run_underlying hs,Result.andThen,hf,asAgg,Sem.run_pure,part,ha]
    simp[hv]⟩
theorem sK {t:TypeId} {ps:Array (Nat×Operand)} {vs:List (Nat×Value)} {us:Array Value} (hx:BY E ps.toList=some vs) (hr:∀ w,(Instr.build t vs.toArray).run c.P w=.ok (.agg us) w)
    :
    QV c ds E L ⟨d,.build t ps,ty,pos,af,gd⟩ (.agg us):=
  ⟨by intro k;simp,fun a w hs=>by
    have:=s7 hs hx
    have e:ps.map (fun(i,x)=>(i,a.eval x))=vs.toArray:=by apply Array.ext';simpa using this
    simp only[execOp,Sem.run_bind,e,hr,Result.andThen,Sem.run_pure]⟩
theorem ji {f:Fn} {first cap:Array Operand} {v1 v2:List Value} (h1:evl E first.toList=some v1) (h2:evl E cap.toList=some v2):
    QV c ds E L ⟨d,.makeFunc f first cap,ty,pos,af,gd⟩ (.func f v1.toArray v2.toArray):=
  ⟨by intro k;simp,fun a w hs=>by
    have e1:first.map a.eval=v1.toArray:=by apply Array.ext';simpa using hs.evl h1
    have e2:cap.map a.eval=v2.toArray:=by apply Array.ext';simpa using hs.evl h2
    simp only[execOp,Instr.makeFunc,e1,e2,Sem.run_bind,Sem.run_pure,Result.andThen]⟩
theorem aL {t e:TypeId} {x y:Operand} {b o len cap n:Nat} {kd:IntKind} {i:Int} (hx:ev E x=some (.slice (some ⟨b,o,none⟩) len cap)) (hy:ev E y=some (.int kd i)) (hu:c.P.underlying t=some (.slice e))
    (hn:∀ w,(sizeOf e).run c.P w=.ok n w) (hi:0<=i/\i < (len:Int)):
    QV c ds E L ⟨d,.indexAddr t x y,ty,pos,af,gd⟩ (.pointer (some ⟨b,o+i.toNat*n,none⟩)):=
  ⟨by intro k;simp,fun a w hs=>by
    simp only[execOp,Instr.indexAt,hs.ev hx,hs.ev hy,asIntOf,Sem.run_bind,Sem.run_pure,run_underlying hu,Result.andThen,if_pos hi,hn,dr]⟩
theorem az {t e:TypeId} {x y:Operand} {b o len cap:Nat} {kd:IntKind} {i:Int} (hx:ev E x=some (.slice (some ⟨b,o,none⟩) len cap)) (hy:ev E y=some (.int kd i)) (hu:c.P.underlying t=some (.slice e))
    (hn:∀ w,(sizeOf e).run c.P w=.ok 1 w) (hi:0<=i/\i < (len:Int)):QV c ds E L ⟨d,.indexAddr t x y,ty,pos,af,gd⟩ (.pointer (some ⟨b,o+i.toNat,none⟩)):=by
  have:=aL (c:=c) (ds:=ds) (L:=L) (d:=d) (ty:=ty) (pos:=pos) (af:=af) (gd:=gd) (n:=1) hx hy hu hn hi
  rwa [Nat.mul_one] at this
theorem bM {t e:TypeId} {x y:Operand} {b o len n:Nat} {kd:IntKind} {i:Int} (hx:ev E x=some (.pointer (some ⟨b,o,none⟩))) (hy:ev E y=some (.int kd i)) (hu:c.P.underlying t=some (.array len e))
    (hn:∀ w,(sizeOf e).run c.P w=.ok n w) (hi:0<=i/\i < (len:Int)):QV c ds E L ⟨d,.indexAddr t x y,ty,pos,af,gd⟩ (.pointer (some ⟨b,o+i.toNat*n,none⟩)):=
  ⟨by intro k;simp,fun a w hs=>by
    simp only[execOp,Instr.indexAt,hs.ev hx,hs.ev hy,asIntOf,Sem.run_bind,Sem.run_pure,run_underlying hu,Result.andThen,Instr.sureAddr,if_pos hi,hn,dr]⟩
theorem uu {t:TypeId} {x y:Operand} {s:ByteArray} {kd:IntKind} {i:Int} (hx:ev E x=some (.string s)) (hy:ev E y=some (.int kd i)) (hu:c.P.underlying t=some .string)
    (hi:0<=i/\i.toNat < s.size):
    QV c ds E L ⟨d,.index t x y,ty,pos,af,gd⟩ (.int .u8 (s[i.toNat]'hi.2).toNat):=
  ⟨by intro k;simp,fun a w hs=>by
    simp only[execOp,Instr.index,hs.ev hx,hs.ev hy,asIntOf,Sem.run_bind,Sem.run_pure,run_underlying hu,Result.andThen,if_pos hi.1]
    have:s[i.toNat]?=some (s[i.toNat]'hi.2):=getElem?_pos s i.toNat hi.2
    rw[this];rfl⟩
theorem Eu {x:Operand} {t:TypeId} {v:Value} {n:Int} (hx:ev E x=some v) (hr:∀ w,(Builtin.len_ #[t] ty #[v]).run c.P w=.ok (.int .i64 n) w):
    QV c ds E L ⟨d,.call {callee:=.builtin .len,args:=#[x],argTypes:=#[t]},ty,pos,af,gd⟩ (.int .i64 n):=
  ⟨by intro k;simp,fun a w hs=>by simp[execOp,resolve,invoke,builtin,hs.ev hx,hr,Result.andThen]⟩
theorem GS {x:Operand} {t:TypeId} {v:Value} {n:Int} (hx:ev E x=some v) (hr:∀ w,(Builtin.cap_ #[t] ty #[v]).run c.P w=.ok (.int .i64 n) w):
    QV c ds E L ⟨d,.call {callee:=.builtin .cap,args:=#[x],argTypes:=#[t]},ty,pos,af,gd⟩ (.int .i64 n):=
  ⟨by intro k;simp,fun a w hs=>by simp[execOp,resolve,invoke,builtin,hs.ev hx,hr,Result.andThen]⟩
theorem zc {P:Program} {t e ty:TypeId} (hu:P.underlying t=some (.slice e)) {a:Option Addr} {n m:Nat} (w:World):(Builtin.len_ #[t] ty #[.slice a n m]).run P w=.ok (.int .i64 n) w:=by
  simp[Builtin.len_,run_underlying hu,Result.andThen,goInt]
theorem wK {P:Program} {t ty:TypeId} (hu:P.underlying t=some .string) {s:ByteArray} (w:World):(Builtin.len_ #[t] ty #[.string s]).run P w=.ok (.int .i64 s.size) w:=by
  simp[Builtin.len_,run_underlying hu,Result.andThen,goInt]
theorem zB {P:Program} {t e ty:TypeId} (hu:P.underlying t=some (.slice e)) {a:Option Addr} {n m:Nat} (w:World):(Builtin.cap_ #[t] ty #[.slice a n m]).run P w=.ok (.int .i64 m) w:=by
  simp[Builtin.cap_,run_underlying hu,Result.andThen,goInt]
theorem Fv {x y:Operand} {ats:Array TypeId} {kd:IntKind} {m n:Int} (hx:ev E x=some (.int kd m)) (hy:ev E y=some (.int kd n)):
    QV c ds E L ⟨d,.call {callee:=.builtin .min,args:=#[x,y],argTypes:=ats},ty,pos,af,gd⟩ (.int kd (if n < m then n else m)):=
  ⟨by intro k;simp,fun a w hs=>by simp[execOp,resolve,invoke,builtin,hs.ev hx,hs.ev hy,Result.andThen,Builtin.min_,Builtin.min2]⟩
theorem Fw {x y:Operand} {ats:Array TypeId} {kd:IntKind} {m n:Int} (hx:ev E x=some (.int kd m)) (hy:ev E y=some (.int kd n)):
    QV c ds E L ⟨d,.call {callee:=.builtin .max,args:=#[x,y],argTypes:=ats},ty,pos,af,gd⟩ (.int kd (if m < n then n else m)):=
  ⟨by intro k;simp,fun a w hs=>by simp[execOp,resolve,invoke,builtin,hs.ev hx,hs.ev hy,Result.andThen,Builtin.max_,Builtin.max2]⟩
end
section
variable {P:Program} {t:TypeId} (w:World)
theorem G2 {op:BinOp} {x y:Operand} {k k':IntKind} {a b:Int}:(eqGuard op t x y (.int k a) (.int k' b)).run P w=.ok () w:=by cases op <;> rfl
theorem FN {op:BinOp} {x y:Operand} {a b:Bool}:(eqGuard op t x y (.bool a) (.bool b)).run P w=.ok () w:=by cases op <;> rfl
theorem BR {op:BinOp} {x y:Operand} {a b:ByteArray}:(eqGuard op t x y (.string a) (.string b)).run P w=.ok () w:=by cases op <;> rfl
theorem fH {op:BinOp} {x y:Operand} {a b:Option Addr}:(eqGuard op t x y (.pointer a) (.pointer b)).run P w=.ok () w:=by cases op <;> rfl
theorem Jc {k:IntKind} {a b:Int}:(binOp .add t (.int k a) (.int k b)).run P w=.ok (.int k (k.wrap (a+b))) w:=by simp[binOp,Op.intArith]
theorem Ja {k:IntKind} {a b:Int}:(binOp .sub t (.int k a) (.int k b)).run P w=.ok (.int k (k.wrap (a-b))) w:=by simp[binOp,Op.intArith]
theorem Jb {k:IntKind} {a b:Int}:(binOp .mul t (.int k a) (.int k b)).run P w=.ok (.int k (k.wrap (a*b))) w:=by simp[binOp,Op.intArith]
theorem wrap_i64 {n:Int} (h:-9223372036854775808<=n/\n<=9223372036854775807):IntKind.i64.wrap n=n:=by rw[IntKind.wrap_i64];omega
theorem wrap_u64 {n:Int} (h:0<=n/\n < 18446744073709551616):IntKind.u64.wrap n=n:=by rw[IntKind.wrap_u64];omega
theorem wrap_u8 {n:Int} (h:0<=n/\n < 256):IntKind.u8.wrap n=n:=by rw[IntKind.wrap_u8'];omega
theorem EX {k:IntKind} {a b:Int} (h:b≠0):(binOp .quo t (.int k a) (.int k b)).run P w=.ok (.int k (k.wrap (a.tdiv b))) w:=by simp[binOp,Op.intDiv,h]
theorem EW {k:IntKind} {a b:Int} (h:b≠0):(binOp .rem t (.int k a) (.int k b)).run P w=.ok (.int k (a.tmod b)) w:=by simp[binOp,Op.intDiv,h]
theorem DY {a b:Int} (h:0<=a/\0 < b/\a<=9223372036854775807):(binOp .quo t (.int .i64 a) (.int .i64 b)).run P w=.ok (.int .i64 (a / b)) w:=by
  rw[EX w (by omega),Int.tdiv_eq_ediv_of_nonneg h.1,wrap_i64]
  have h1:0<=a / b:=Int.ediv_nonneg h.1 (by omega)
  have h2:a / b<=a:=Int.ediv_le_self _ h.1
  omega
theorem DX {k:IntKind} {a b:Int} (h:0<=a/\0 < b):(binOp .rem t (.int k a) (.int k b)).run P w=.ok (.int k (a % b)) w:=by
  rw[EW w (by omega),Int.tmod_eq_emod_of_nonneg h.1]
theorem bj {k:IntKind} {a b:Int}:(binOp .lss t (.int k a) (.int k b)).run P w=.ok (.bool (decide (a < b))) w:=by simp[binOp,Op.intCmp]
theorem iB {k:IntKind} {a b:Int}:(binOp .leq t (.int k a) (.int k b)).run P w=.ok (.bool (decide (a<=b))) w:=by simp[binOp,Op.intCmp]
theorem di {k:IntKind} {a b:Int}:(binOp .gtr t (.int k a) (.int k b)).run P w=.ok (.bool (decide (b < a))) w:=by simp[binOp,Op.intCmp]
theorem iC {k:IntKind} {a b:Int}:(binOp .geq t (.int k a) (.int k b)).run P w=.ok (.bool (decide (b<=a))) w:=by simp[binOp,Op.intCmp]
theorem bN {k:IntKind} {a b:Int}:(binOp .eql t (.int k a) (.int k b)).run P w=.ok (.bool (decide (a=b))) w:=by
  by_cases h:a=b <;> simp[binOp,Op.intCmp,h]
theorem bf {k:IntKind} {a b:Int}:(binOp .neq t (.int k a) (.int k b)).run P w=.ok (.bool (decide (¬ a=b))) w:=by
  by_cases h:a=b <;> simp[binOp,Op.intCmp,h]
theorem F9 {op:BinOp} {k:IntKind} {a b:Int} (ho:(match op with | .and | .or | .xor | .andNot=>true | _=>false)=true):(binOp op t (.int k a) (.int k b)).run P w=.ok (.int k (bits op k a b)) w:=by
  cases op <;> first | (simp at ho;done) | simp[binOp,Op.intBits,bits]
theorem Cd {k yk:IntKind} {a b:Int} (h:0<=b):(binOp .shl t (.int k a) (.int yk b)).run P w=.ok (.int k (k.wrap (a*2 ^ min b.toNat k.bits))) w:=by
  simp[binOp,Op.shift,show ¬ b < 0 by omega]
theorem gA {k yk:IntKind} {a b:Int} (h:0<=b):(binOp .shr t (.int k a) (.int yk b)).run P w=.ok (.int k (a.fdiv (2 ^ min b.toNat k.bits))) w:=by
  simp[binOp,Op.shift,show ¬ b < 0 by omega]
theorem fp {k yk:IntKind} {a b m:Int} (hb:0<=b) (hm:(2:Int) ^ min b.toNat k.bits=m) (ha:0<=a):(binOp .shr t (.int k a) (.int yk b)).run P w=.ok (.int k (a / m)) w:=by
  rw[gA w hb,hm]
  have:0<=m:=by rw[<- hm];exact Int.pow_nonneg (by decide)
  rw[Int.fdiv_eq_ediv_of_nonneg _ this]
theorem lO {a b:ByteArray}:(binOp .eql t (.string a) (.string b)).run P w=.ok (.bool (decide (a=b))) w:=by
  have:(a.toList == b.toList)=decide (a=b):=by
    by_cases h:a=b
    · simp[h]
    have:a.toList≠b.toList:=fun e=>h (by
      rw[ByteArray.toList_eq,ByteArray.toList_eq] at e
      exact WideShapes.bytes_inj e)
    simp[h,this]
  simp[binOp,Op.stringOp,this]
theorem cy {b:Bool}:(Op.unary .not (.bool b)).run P w=.ok (.bool (!b)) w:=rfl
theorem tT {k:IntKind} {n:Int}:(Op.unary .neg (.int k n)).run P w=.ok (.int k (k.wrap (0-n))) w:=rfl
theorem Es {k:IntKind} {n:Int}:(Op.unary .xor (.int k n)).run P w=.ok (.int k (bits .xor k (if k.signed then -1 else k.max) n)) w:=rfl
theorem EV {s t:TypeId} {j k:IntKind} {n:Int} {u:TypeDesc} (hs:P.underlying s=some u) (h:P.underlying t=some (.int k)):(convert s t (.int j n)).run P w=.ok (.int k (k.wrap n)) w:=by
  simp[convert,run_underlying hs,run_underlying h,Result.andThen,Conv.intToInt]
end
end Eng
end
section
namespace Eng
open Go.RowKit
def aF (e:TypeId) (sz:Nat) (v:Value) (n:Nat) (xs:List Value):HP:=fun h=>xs.length=n*sz/\
  ((v=.slice none 0 0/\n=0/\h=Part.none)\/
   ∃ g cap cur,v=.slice (some ⟨g,0,none⟩) n cap/\n<=cap/\cap<=maxLen/\cur.size=cap*sz/\cur.toList.take (n*sz)=xs/\h=Part.one g (.cells cur e (0,0)))
theorem gJ {e:TypeId} {sz:Nat} {L:List HP} {w:World} (h:Sat (stars L) w):Sat (stars (aF e sz (.slice none 0 0) 0 []::L)) w:=by
  obtain⟨f,hi,k⟩:=h
  exact⟨f,hi,Part.none,f,⟨by simp,.inl ⟨rfl,rfl,rfl⟩⟩,k,Part.none_disj _,(Part.none_join _).symm⟩
theorem p9 {e:TypeId} {sz:Nat} {v:Value} {n:Nat} {xs:List Value} {L:List HP} {w:World} (h:Sat (stars (aF e sz v n xs::L)) w):
    xs.length=n*sz/\((v=.slice none 0 0/\n=0/\Sat (stars L) w)\/∃ g cap cur,v=.slice (some ⟨g,0,none⟩) n cap/\n<=cap/\cap<=maxLen/\cur.size=cap*sz/\cur.toList.take (n*sz)=xs/\Sat (stars (pt g (.cells cur e (0,0))::L)) w):=by
  obtain⟨_,hi,f,g0,⟨hl,hc⟩,b,d,rfl⟩:=h
  refine⟨hl,?_⟩
  rcases hc with⟨hv,hn,rfl⟩ | ⟨g,cap,cur,hv,h1,h2,h3,h4,rfl⟩
  · exact .inl ⟨hv,hn,g0,by rw[Part.none_join] at hi;exact hi,b⟩
  exact .inr ⟨g,cap,cur,hv,h1,h2,h3,h4,_,hi,_,g0,rfl,b,d,rfl⟩
theorem fC {e:TypeId} {sz:Nat} {g n cap:Nat} {cur:Array Value} {xs:List Value} {L:List HP} {w:World} (h:Sat (stars (pt g (.cells cur e (0,0))::L)) w)
    (hl:xs.length=n*sz) (h1:n<=cap) (h2:cap<=maxLen) (h3:cur.size=cap*sz) (h4:cur.toList.take (n*sz)=xs):Sat (stars (aF e sz (.slice (some ⟨g,0,none⟩) n cap) n xs::L)) w:=by
  obtain⟨_,hi,f,g0,rfl,b,d,rfl⟩:=h
  exact⟨_,hi,_,g0,⟨hl,.inr ⟨g,cap,cur,rfl,h1,h2,h3,h4,rfl⟩⟩,b,d,rfl⟩
theorem u5 {w:World} {b:Nat} {us:Array Value} {t:TypeId} {fr:Nat×Nat} (h:w.heap[b]?=some (.cells us t fr)):∀ j u,us.toList[j]?=some u->w.cell? ((⟨b,0,none⟩:Addr).add j)=some u:=fun j u hu=>by
  rw[dr];simp only[World.cell?,h];simpa using hu
theorem xc {P:Program} {t ty e:TypeId} {i:TypeInfo} {z:Value} {sz bytes:Nat} (ht:P.underlying t=some (.slice e)) (hi:P.info? e=some i) (hz:i.zero=some z)
    (hsize:i.size=sz) (hby:i.bytes=bytes) (hzs:z.cells.size=sz) (hsz:0 < sz) {v:Value} {n:Nat} {xs:List Value} {M:List HP} {w:World} (hs:Sat (stars (aF e sz v n xs::M)) w)
    {a0:Addr} {us:List Value} (hrow:∀ j u,us[j]?=some u->w.cell? (a0.add j)=some u) {m c:Nat} (hl:us.length=m*sz) (h1:us.all (·.oneCell')=true)
    (h63:n+m<=maxLen) (hbytes:(n+m)*bytes<=140737488355328):
    ∃ v' w',(Builtin.append_ #[t,t] ty #[v,.slice (some a0) m c]).run P w=.ok v' w'/\Sat (stars (aF e sz v' (n+m) (xs ++ us)::M)) w'/\Ext w w':=by
  subst hsize hby
  have hsmall:n+m<=9223372036854775807:=by simp only[maxLen] at h63;omega
  obtain⟨hlen,hc⟩:=p9 hs
  have hlu:us.length=m*i.size:=hl
  have hlen2:(xs ++ us).length=(n+m)*i.size:=by rw[List.length_append,hlen,hlu,Nat.add_mul]
  -- a new row
  have grown:∀(old:Nat),Sat (stars M) w->Sat (stars (aF e i.size (.slice (some ⟨w.heap.size,0,none⟩) (n+m) (grownCap w (n+m) old e)) (n+m) (xs ++ us)::M))
      (w.drew.alloc (.cells (xs.toArray ++ us.toArray ++ Builtin.zeroCells z.cells (grownCap w (n+m) old e-(n+m))) e)):=by
    intro old hM
    have hge:=grownCap_ge w (n+m) old e
    have hcm:grownCap w (n+m) old e<=maxLen:=grownCap_le_maxLen w (n+m) old e h63
    refine fC (Sat.alloc (A:=stars M) hM.drew _) hlen2 hge hcm ?_ ?_
    · simp only[Array.size_append,List.size_toArray,size_zeroCells,hzs,hlen,hlu,<- Nat.add_mul]
      congr 1
      omega
    simp only[Array.toList_append,List.append_assoc]
    rw[<- List.append_assoc,<- hlen2]
    exact List.take_left
  rcases hc with⟨rfl,rfl,hM⟩ | ⟨g,cap,cur,rfl,hnc,hcm,hcs,htake,hM⟩
  · have hx:xs= []:=List.eq_nil_of_length_eq_zero (by simpa using hlen)
    subst hx
    by_cases hm:m=0
    · subst hm
      have hn:us= []:=List.eq_nil_of_length_eq_zero (by simpa using hlu)
      refine⟨.slice none 0 0,w,?_,by rw[hn];exact gJ hM,Ext.refl w⟩
      simp[Builtin.append_,run_underlying ht,sizeOf,typeInfo,hi,Builtin.lenOf,Builtin.firstCells,loadCells,loadCellsFrom]
    have hr:=run_append_nil (P:=P) w t ty e i z ht hi hz a0 m c us hlu hrow (by omega) (by omega) (by have hb:=hbytes;simp only[Nat.zero_add] at hb;omega)
    have hgr:=grown 0 hM
    simp only[Nat.zero_add,List.nil_append,Array.empty_append] at hgr ⊢
    exact⟨_,_,hr,hgr,(Ext.refl w).drew.alloc _⟩
  have hg:=hM.block (b:=g) .here
  by_cases hroom:n+m<=cap
  · have hfit:n*i.size+us.length<=cur.size:=by rw[hlu,hcs,<- Nat.add_mul];exact Nat.mul_le_mul_right _ hroom
    have hr:=run_append_room (P:=P) w t ty e i ht hi g n cap cur hg a0 m c us hlu hrow (fun u hu=>List.all_eq_true.1 h1 u hu) hroom hfit
    refine⟨_,_,hr,?_,⟨rfl,rfl,rfl,by simp[World.setRow]⟩⟩
    refine fC (Sat.turn (o':=.cells _ e (0,0)) hM (setRow_heap w g cur _ e _ hg) (fun k hk _=>setRow_other w g k _ hk)) hlen2 hroom hcm ?_ ?_
    · simp only[List.size_toArray,List.length_append,List.length_take,List.length_drop,Array.length_toList]
      omega
    rw[htake,<- hlen2]
    exact List.take_left
  have holds:∀ j u,xs[j]?=some u->w.cell? ((⟨g,0,none⟩:Addr).add j)=some u:=fun j u hu=>by
    refine u5 hg j u ?_
    rw[<- htake,List.getElem?_take] at hu
    split at hu
    · exact hu
    cases hu
  have hr:=run_append_grow (P:=P) w t ty e i z ht hi hz ⟨g,0,none⟩ n cap xs hlen holds a0 m c us hlu hrow (by omega) (by omega) (growslice_fits (by omega) hbytes)
  exact⟨_,_,hr,grown cap hM.tail,(Ext.refl w).drew.alloc _⟩
section
variable {c:Cx} {fin:Exit->Act->World->Prop} {ds:List Deferred} {E:Env} {L:List HP} {ks:List KI} {ops:Array Oper} {rest:List Oper}
variable {d:Option Tmp} {ty:TypeId} {pos:String} {af:Array Edge}
theorem e9 {x y:Operand} {t e:TypeId} {z v:Value} {sz bytes n m cp b2:Nat} {xs:List Value} {us:Array Value} {t2:TypeId} {ft:Nat×Nat} {M M2:List HP}
    (hd:dn d c.N=true) (hx:ev E x=some v) (hy:ev E y=some (.slice (some ⟨b2,0,none⟩) m cp)) (ht:c.P.underlying t=some (.slice e)) (hinf:∃ i,c.P.info? e=some i/\i.zero=some z/\i.size=sz/\i.bytes=bytes) (hzs:z.cells.size=sz) (hsz:Nat.blt 0 sz=true) (hown:Take (aF e sz v n xs) L M) (hsrc:Take (pt b2 (.cells us t2 ft)) M M2) (hl:us.size=m*sz) (h1:us.toList.all (·.oneCell')=true)
    (h63:n+m<=maxLen) (hbytes:(n+m)*bytes<=140737488355328)
    (k:∀ v',TL c fin ds (gT d v' E) (aF e sz v' (n+m) (xs ++ us.toList)::M) ops rest ks):
    TL c fin ds E L ops (⟨d,.call {callee:=.builtin .append,args:=#[x,y],argTypes:=#[t,t]},ty,pos,af,none⟩::rest) ks:=
  nk hd (by intro k;simp) (fun v'=>v') (fun v'=>aF e sz v' (n+m) (xs ++ us.toList)::M) (fun a w hs=>by
    obtain⟨i,hi,hz,hsize,hby⟩:=hinf
    obtain⟨v',w',hr,hsat,hext⟩:=xc (ty:=ty) (c:=cp) ht hi hz hsize hby hzs (Nat.le_of_ble_eq_true hsz) (hs.sat.take hown) (u5 ((hs.sat.take hown).tail.block hsrc)) (by simpa using hl) h1 h63 hbytes
    refine⟨v',w',?_,hsat,hext⟩
    simp[execOp,resolve,invoke,builtin,hs.ev hx,hs.ev hy,hr,Result.andThen]) k
theorem zl:∀(us:List Value) (pre junk:List Value) (j:Nat),us.length<=junk.length->∀ cs:Array Value,cs.toList=pre ++ junk->pre.length=j->
    ((us.zipIdx 0).foldl (fun(cs:Array Value) (p:Value×Nat)=>cs.setIfInBounds (j+p.2) p.1) cs).toList=pre ++ us ++ junk.drop us.length:=by
  have key:∀(us:List Value) (k:Nat) (pre junk:List Value) (j:Nat) (cs:Array Value),us.length<=junk.length->cs.toList=pre ++ junk->pre.length=j+k->
      ((us.zipIdx k).foldl (fun(cs:Array Value) (p:Value×Nat)=>cs.setIfInBounds (j+p.2) p.1) cs).toList=pre ++ us ++ junk.drop us.length:=by
    intro us
    induction us with
    | nil=>intro k pre junk j cs _ h _;simp[h]
    | cons u r ih=>
      intro k pre junk j cs hl h hp
      simp only[List.zipIdx_cons,List.foldl_cons]
      cases junk with
      | nil=>simp at hl
      | cons q junk=>
        rw[ih (k+1) (pre ++ [u]) junk j _ (by simpa using hl) ?_ (by simp;omega)]
        · simp
        rw[Array.toList_setIfInBounds,h,<- hp]
        simp
  intro us pre junk j hl cs h hp
  exact key us 0 pre junk j cs hl h (by omega)
theorem qx {sz:Nat}:∀(vs:List Value) (k:Nat) (pre junk:List Value) (cs:Array Value),cs.toList=pre ++ junk->pre.length=k*sz->junk.length=vs.length*sz->(∀ v∈vs,v.cells.size=sz)->
    Instr.fill (fun i=>some (i*sz,sz)) cs ((vs.zipIdx k).map fun p=>(p.2,p.1))=some (pre ++ vs.flatMap (·.cells.toList)).toArray
  | [],k,pre,junk,cs,h,hp,hj,_=>by
    have:junk= []:=List.eq_nil_of_length_eq_zero (by simpa using hj)
    subst this
    simp only[List.zipIdx_nil,List.map_nil,Instr.fill,List.flatMap_nil]
    congr 1
    apply Array.ext'
    simpa using h
  | v::vs,k,pre,junk,cs,h,hp,hj,hv=>by
    simp only[List.zipIdx_cons,List.map_cons,Instr.fill]
    have h1:=hv v (by simp)
    have hcs:cs.size=k*sz+junk.length:=by rw[<- Array.length_toList,h,List.length_append,hp]
    rw[List.length_cons,Nat.add_mul,Nat.one_mul] at hj
    rw[if_neg (by simp only[ne_eq,Bool.or_eq_true,decide_eq_true_eq,not_or,Classical.not_not];exact⟨h1,by omega⟩)]
    have h2:=zl v.cells.toList pre junk (k*sz) (by simp[h1];omega) cs h hp
    have e:∀ cs:Array Value,v.cells.zipIdx.foldl (fun(cs:Array Value) (p:Value×Nat)=>cs.setIfInBounds (k*sz+p.2) p.1) cs=(v.cells.toList.zipIdx 0).foldl (fun(cs:Array Value) (p:Value×Nat)=>cs.setIfInBounds (k*sz+p.2) p.1) cs:=by
      intro cs;rw[<- Array.foldl_toList];simp
    rw[e]
    rw[qx vs (k+1) (pre ++ v.cells.toList) (junk.drop v.cells.toList.length) _ h2 (by simp[hp,h1,Nat.add_mul]) (by simp[h1];omega) (fun u hu=>hv u (by simp[hu]))]
    simp
theorem fD {t e:TypeId} {len sz:Nat} {z:Value} {ps:Array (Nat×Operand)} {us:List Value} {cs:Array Value} (hd:dn d c.N=true) (hx:BY E ps.toList=some ((us.zipIdx 0).map fun p=>(p.2,p.1)))
    (ht:c.P.underlying t=some (.slice e)) (hn:∀ w,(sizeOf e).run c.P w=.ok sz w) (hz:∀ w,(zeroValue e).run c.P w=.ok z w) (hzs:z.cells.size=sz) (hlen:us.length=len) (hsm:Nat.ble (len*sz) 16777216=true) (hsz:us.all (fun v=>v.cells.size == sz)=true)
    (hcs:(us.flatMap (·.cells.toList)).toArray=cs)
    (k:∀ b,TL c fin ds (gT d (.slice (some ⟨b,0,none⟩) len len) E) (pt b (.cells cs e (0,0))::L) ops rest ks):TL c fin ds E L ops (⟨d,.buildSlice t len ps,ty,pos,af,none⟩::rest) ks:=
  nk hd (by intro k;simp) (fun b=>.slice (some ⟨b,0,none⟩) len len) (fun b=>pt b (.cells cs e (0,0))::L) (fun a w hs=>by
    have:=s7 hs hx
    have e1:ps.map (fun(i,x)=>(i,a.eval x))=((us.zipIdx 0).map fun p=>(p.2,p.1)).toArray:=by apply Array.ext';simpa using this
    have hsm':=Nat.le_of_ble_eq_true hsm
    have hall:∀ v∈us,v.cells.size=sz:=fun v hv=>by simpa using List.all_eq_true.1 hsz v hv
    have hr:(Instr.buildSlice t len ((us.zipIdx 0).map fun p=>(p.2,p.1)).toArray).run c.P w=.ok (.slice (some ⟨w.heap.size,0,none⟩) len len) (w.alloc (.cells cs e (0,0))):=by
      unfold Instr.buildSlice
      simp only[Sem.run_bind,run_underlying ht,hn,Result.andThen,List.toList_toArray]
      rw[if_neg (by simpa using hsm')]
      by_cases h0:len*sz=0
      · rw[if_pos h0]
        have hf:=qx us 0 [] [] #[] rfl (by simp) (by simp[hlen,h0]) hall
        simp only[Sem.run_bind,Sem.run_pure,Result.andThen]
        rw[show(Array.range (len*sz)).map (fun x=>(#[]:Array Value)[x % (#[]:Array Value).size]!)=#[] by rw[h0];simp,hf]
        simp only[List.nil_append,hcs,newRow,Sem.run_bind,run_newObj_alloc,Sem.run_pure,Result.andThen]
      rw[if_neg h0]
      simp only[Sem.run_bind,hz,Result.andThen,Sem.run_pure]
      have hf:=qx us 0 [] ((Array.range (len*sz)).map (z.cells[· % z.cells.size]!)).toList ((Array.range (len*sz)).map (z.cells[· % z.cells.size]!)) rfl (by simp) (by simp[hlen]) hall
      simp only[hf,List.nil_append,hcs,newRow,Sem.run_bind,run_newObj_alloc,Sem.run_pure,Result.andThen]
    exact⟨w.heap.size,_,by simp only[execOp,Sem.run_bind,e1,hr,Result.andThen,Sem.run_pure],hs.sat.alloc _,(Ext.refl w).alloc _⟩) k
def sC (v:Value) (n:Nat):Prop:=∃ a cap,v=.slice a n cap/\(0 < n->∃ g,a=some ⟨g,0,none⟩)/\n<=cap/\cap<=maxLen
theorem lZ {e:TypeId} {sz:Nat} {v:Value} {n:Nat} {xs:List Value} {L:List HP} {w:World} (h:Sat (stars (aF e sz v n xs::L)) w):xs.length=n*sz/\sC v n:=by
  obtain⟨hl,h⟩:=p9 h
  refine⟨hl,?_⟩
  rcases h with⟨hv,hn,_⟩ | ⟨g,cap,cur,hv,h1,h2,_⟩
  · exact⟨none,0,by rw[hv,hn],by omega,by omega,by simp[maxLen]⟩
  exact⟨_,cap,hv,fun _=>⟨g,rfl⟩,h1,h2⟩
theorem gM {l:List Oper} {e:TypeId} {sz n:Nat} {v:Value} {xs:List Value} {M:List HP} (ht:Take (aF e sz v n xs) L M) (k:xs.length=n*sz->sC v n->TL c fin ds E L ops l ks):TL c fin ds E L ops l ks:=
  fun a w hs=>by obtain⟨h1,h2⟩:=lZ (hs.sat.take ht);exact k h1 h2 a w hs
theorem bU {x:Code} {e:TypeId} {sz n:Nat} {v:Value} {xs:List Value} {M:List HP} (ht:Take (aF e sz v n xs) L M) (k:xs.length=n*sz->sC v n->TC c fin ds E L x ks):TC c fin ds E L x ks:=
  fun a w hs=>by obtain⟨h1,h2⟩:=lZ (hs.sat.take ht);exact k h1 h2 a w hs
theorem jm {e:TypeId} {sz g cap n:Nat} {xs:List Value} {L:List HP} {w:World} (h:Sat (stars (aF e sz (.slice (some ⟨g,0,none⟩) n cap) n xs::L)) w):
    ∃ cur,cur.size=cap*sz/\cur.toList.take (n*sz)=xs/\n<=cap/\cap<=maxLen/\xs.length=n*sz/\Sat (stars (pt g (.cells cur e (0,0))::L)) w:=by
  obtain⟨hl,h⟩:=p9 h
  rcases h with⟨hv,_⟩ | ⟨g',cap',cur,hv,h1,h2,h3,h4,h5⟩
  · cases hv
  cases hv;exact⟨cur,h3,h4,h1,h2,hl,h5⟩
theorem sO {cur:Array Value} {k o:Nat} {xs:List Value} {v:Value} (h:cur.toList.take k=xs) (hv:xs[o]?=some v):cur[o]?=some v:=by
  rw[<- h,List.getElem?_take] at hv
  split at hv
  · simpa using hv
  cases hv
theorem aT {gd:Option (Nat×Bool)} {t:TypeId} {x:Operand} {g o n cap sz:Nat} {v:Value} {e:TypeId} {xs:List Value} {M:List HP} (hx:ev E x=some (.pointer (some ⟨g,o,none⟩)))
    (ha:∀ w,(isAgg t).run c.P w=.ok false w) (ht:Take (aF e sz (.slice (some ⟨g,0,none⟩) n cap) n xs) L M) (hv:xs[o]?=some v):QV c ds E L ⟨d,.load t x,ty,pos,af,gd⟩ v:=
  ⟨by intro k;simp,fun a w hs=>by
    obtain⟨cur,_,h2,_,_,_,h5⟩:=jm (hs.sat.take ht)
    have hb:=h5.block (b:=g) .here
    have hc:=sO h2 hv
    simp only[execOp,Instr.loadAt,Instr.sureAddr,hs.ev hx,Sem.run_bind,Sem.run_pure,Result.andThen,loadVar,ha]
    simp[load,Sem.run,World.cell?,hb,hc]⟩
theorem ee {t:TypeId} {x y:Operand} {g o n cap sz:Nat} {v:Value} {e:TypeId} {xs xs':List Value} {M:List HP} (hd:dn d c.N=true) (hx:ev E x=some (.pointer (some ⟨g,o,none⟩))) (hy:ev E y=some v)
    (hn:∀ w,(sizeOf t).run c.P w=.ok 1 w) (hv:v.oneCell'=true) (ht:Take (aF e sz (.slice (some ⟨g,0,none⟩) n cap) n xs) L M) (ho:o < n*sz) (hxs:xs.set o v=xs')
    (k:TL c fin ds (gT d undef E) (aF e sz (.slice (some ⟨g,0,none⟩) n cap) n xs'::M) ops rest ks):TL c fin ds E L ops (⟨d,.store t x y,ty,pos,af,none⟩::rest) ks:=
  BC (X:=Unit) hd (by intro k;simp) (fun _=>aF e sz (.slice (some ⟨g,0,none⟩) n cap) n xs'::M) (fun a w hs=>by
    obtain⟨cur,h1,h2,h3,h4,h6,h5⟩:=jm (hs.sat.take ht)
    have hle:n*sz<=cap*sz:=Nat.mul_le_mul_right _ h3
    refine⟨(),w.setCell ⟨g,o,none⟩ v,?_,?_,(Ext.refl w).setCell _ _⟩
    · have hb:=h5.block (b:=g) .here
      have hone:v.cells=#[v]:=by cases v <;> first | rfl | (simp[Value.oneCell'] at hv)
      simp only[execOp,Instr.storeAt,Instr.sureAddr,hs.ev hx,hs.ev hy,Sem.run_bind,Sem.run_pure,Result.andThen,storeVar,hn,hone]
      simp only[List.size_toArray,List.length_cons,List.length_nil,ne_eq,not_true_eq_false,if_false,Sem.run_pure,Result.andThen,storeCells,dr,Nat.add_zero,Sem.run_bind]
      rw[lA hb (by omega) hv]
    refine fC (lW h5 .here v) (by rw[<- hxs];simpa using h6) h3 h4 (by simpa using h1) ?_
    rw[Array.toList_setIfInBounds,List.take_set,h2,hxs]) fun _=>k
end
theorem aK.know {P:Program} {f:FuncId} {args:Array Value} {D:List HP} {Post:Value->List HP->Prop} {K:Value->List HP->Prop} (h:aK P f args D Post) (k:∀ v L,Post v L->∀ Fr w,Sat (stars (L ++ Fr)) w->K v L):aK P f args D fun v L=>Post v L/\K v L:=
  ⟨h.enters,fun Fr w0 w hs he=>(h.calls Fr w0 w hs he).mono fun _ _ ⟨v,L',e,p,s,x⟩=>⟨v,L',e,⟨p,k v L' p Fr _ s⟩,s,x⟩⟩
end Eng
end
end Go.Proofs.YthkajgkagnenbaaGreatDoor
