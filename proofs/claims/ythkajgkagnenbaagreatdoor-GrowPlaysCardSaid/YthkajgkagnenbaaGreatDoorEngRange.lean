/- The logic's rules for a range over a function. -/
import Derived.Test.YthkajgkagnenbaaGreatDoorEngSt
import Derived.RangeFuncNested
set_option linter.unusedVariables false
set_option linter.unusedSimpArgs false
set_option linter.unusedSectionVars false
namespace Go.Proofs.YthkajgkagnenbaaGreatDoor
namespace Eng
open Go.RowKit
def wS {X:Type} (p:X->Prop) (f:X->List HP):HP:=fun h=>∃ x,p x/\stars (f x) h
theorem cV {X:Type} {p:X->Prop} {f:X->List HP} {L:List HP} {w:World}:Sat (stars (wS p f::L)) w↔∃ x,p x/\Sat (stars (f x ++ L)) w:=by
 constructor
 ·rintro⟨h,hi,f1,g1,⟨x,hp,hx⟩,hg,d,rfl⟩
  exact⟨x,hp,_,hi,gF.2 ⟨f1,g1,hx,hg,d,rfl⟩⟩
 rintro⟨x,hp,h,hi,hs⟩
 obtain⟨f1,g1,a,b,d,rfl⟩:=gF.1 hs
 exact⟨_,hi,f1,g1,⟨x,hp,a⟩,b,d,rfl⟩
theorem dC {M L:List HP} {w:World}:Sat (stars (stars M::L)) w↔Sat (stars (M ++ L)) w:=
 ⟨fun h=>h.mono fun _ k=>gF.2 k,fun h=>h.mono fun _ k=>gF.1 k⟩
def tq (P:Program) (l:Nat) (args:Array Value) (D:List HP) (Post:Bool->List HP->Prop) (Sh:List HP:=[]):Prop:=
 ∀(Fr:List HP) (w0 w:World),Sat (stars (D ++ (Sh ++ Fr))) w->Ext w0 w->∃ fn tmps assign body,(Instr.yield l args).run P w=.ok (.round l fn tmps assign body) w/\
  RoundIn (FW none) 0 P l fn tmps assign body w fun e w'=>∃ b L',e=.returned (.bool b)/\Post b L'/\Sat (stars (L' ++ (Sh ++ Fr))) w'/\Ext w0 w'
section
variable {c:Cx} {fin:Exit->Act->World->Prop} {ds:List Deferred} {E:Env} {L:List HP} {ks:List KI} {ops:Array Oper} {rest:List Oper}
theorem sX {d:Option Tmp} {x:Operand} {xs:Array Operand} {ats:Array TypeId} {ty:TypeId} {pos:String} {af:Array Edge} {l:Nat} {vs:List Value} {D Sh R1 R:List HP} {Post:Bool->List HP->Prop}
  (hd:dn d c.N=true) (hx:ev E x=some (.func (.yield l) #[] #[])) (ha:evl E xs.toList=some vs) (hc:tq c.P l vs.toArray D Post Sh) (hp:fQ D L R1) (hq:fQ Sh R1 R)
  (k:∀ b L',Post b L'->TL c fin ds (gT d (.bool b) E) (L' ++ (Sh ++ R)) ops rest ks):TL c fin ds E L ops (⟨d,.call {callee:=.value x,args:=xs,argTypes:=ats},ty,pos,af,none⟩::rest) ks:=fun a w hs=>by
 refine wpListIn_plain rfl fun K hK=>?_
 have e1:=hs.ev hx
 have e2:xs.map a.eval=vs.toArray:=by
  have:=hs.evl ha
  apply Array.ext'
  simpa using this
 refine⟨fun _ _=>kC _ _,?_⟩
 obtain⟨fn,tmps,assign,body,hy,hR⟩:=hc R c.w0 w ((hs.sat.pick hp).perm (List.Perm.append_left D hq.perm)) hs.ext
 have hr:(Oper.semAt (FW c.r).round a.eval ⟨d,.call {callee:=.value x,args:=xs,argTypes:=ats},ty,pos,af,none⟩).run c.P w=.ok (.round l fn tmps assign body) w:=by
  rw[ki (by intro k;simp)]
  simp only[execOp,resolve,e1,e2,Deferred.ofValue,Sem.run_bind,Sem.run_pure,Result.andThen,invoke]
  rw[show #[] ++ vs.toArray=vs.toArray by simp]
  exact hy
 rw[hr]
 refine⟨fun h=>(by cases h),hR.mono ?_⟩
 rintro e w' ⟨b,L',rfl,hpost,hsat,hext⟩
 have h0:=hs.put hd (.bool b) hs.sat (Ext.refl w)
 exact hK _ _ (k b L' hpost _ _ ⟨h0.size,h0.defs,h0.agree,hsat,hext⟩)
end
structure j4 (P:Program) (g:FuncId) (cap:Array Value) (D:List HP) (xs:List (List Value)) (D':List HP) (Sh:List HP:=[]):Prop where
 enters:∀ args w,(callFunc g args).run P w=.ok (.enter g args) w
 calls:∀(l:Nat) (B S:Nat->HP),(∀ k x,xs[k]?=some x->tq P l x.toArray [B k] (fun b L'=>(b=true/\L'= [B (k+1)])\/(b=false/\L'= [S (k+1)])) Sh)->
  aK P g (#[.func (.yield l) #[] #[]] ++ cap) (D ++ [B 0]) fun _ L'=>L'=D' ++ [B xs.length]\/∃ k,k < xs.length/\L'=D' ++ [S (k+1)]
theorem j4.plain {P:Program} {g:FuncId} {cap:Array Value} {D:List HP} {xs:List (List Value)} {D' Sh:List HP} (h:j4 P g cap D xs D' Sh):j4 P g cap D xs D':=
 ⟨h.enters,fun l B S hY=>h.calls l B S fun k x hx Fr w0 w hs he=>hY k x hx (Sh ++ Fr) w0 w hs he⟩
def uC:List Tmp->List Value->Env->Env
 | p::ps,v::vs,E=>uC ps vs ((p,v)::E)
 | _,_,E=>E
theorem AP {c:Cx}:∀(ps:List Tmp) (vs:List Value) {E:Env} {L:List HP} {tmps:Array Value} {w:World},ps.all (fun p=>Nat.blt p c.N)=true->St c [] E L ⟨tmps,[]⟩ w->
  St c [] (uC ps vs E) L ⟨(ps.zip vs).foldl (fun t (pv:Tmp×Value)=>t.setIfInBounds pv.1 pv.2) tmps,[]⟩ w
 | [],_,E,L,tmps,w,_,hs=>hs
 | p::ps,[],E,L,tmps,w,_,hs=>hs
 | p::ps,v::vs,E,L,tmps,w,hp,hs=>by
  simp only[List.all_cons,Bool.and_eq_true] at hp
  have h1:=hs.put (d:=some p) hp.1 v hs.sat (Ext.refl w)
  exact AP ps vs hp.2 h1
def A1 (w0:World) (Fr:List HP) (Bk Sk:List HP):Ending->World->Prop:=fun e w'=>∃ b L',e=.returned (.bool b)/\((b=true/\L'= [stars Bk])\/(b=false/\L'= [stars Sk]))/\Sat (stars (L' ++ Fr)) w'/\Ext w0 w'
def DQ (P:Program) (l:Nat) (w0:World) (Fr:List HP) (Bk Sk:List HP):Exit->Act->World->Prop:=roundPost P l (A1 w0 Fr Bk Sk)
def wR (P:Program) (l:Nat) (w0:World) (Fr:List HP) (Bk Sk:List HP) (body:Code):Exit->Act->World->Prop:=
 Exit.then (fun a₁ w₁=>∃ w₂,(Instr.beginRound l).run P w₁=.ok () w₂/\body.wpIn (FW (some l)) 0 P (DQ P l w0 Fr Bk Sk) a₁ w₂) fun _ _ _=>False
theorem kV {P:Program} {l N:Nat} {w0:World} {Fr Bk Sk:List HP} {body:Code} {ds:List Deferred} {E:Env} {L M:List HP} {rc:Loop} (ht:Take (pt l (.loop rc)) L M) (hrc:rc.state=.ready)
  (h:TC ⟨P,some l,w0,N⟩ (DQ P l w0 Fr Bk Sk) ds E (pt l (.loop {rc with state:=.busy})::M) body []):TN ⟨P,some l,w0,N⟩ (wR P l w0 Fr Bk Sk body) ds E L .normal []:=fun a w hs=>by
 have hl:=hs.sat.block ht
 refine⟨_,run_beginRound hl hrc,?_⟩
 exact h a _ ⟨hs.size,hs.defs,hs.agree,Sat.putObj (hs.sat.take ht) _,hs.ext.putObj _ _⟩
section
variable {P:Program} {l N k:Nat} {w0:World} {Fr:List HP} {ds:List Deferred} {E:Env} {L:List HP} {rc:Loop} {X Y:Type} {p:X->Prop} {J:X->List HP} {q:Code×Y->Prop} {Jx:Code×Y->List HP}
def n9 (l:Nat) (rc:Loop) (p:X->Prop) (J:X->List HP):List HP:=[pt l (.loop rc),wS p J]
def left (l:Nat) (rc:Loop) (q:Code×Y->Prop) (Jx:Code×Y->List HP):List HP:=[wS q fun y=>pt l (.loop {rc with state:=.done,pending:=some y.1})::Jx y]
theorem rT (jump:Option Code) {M:List HP} {w:World} (hs:Sat (stars (pt l (.loop {rc with state:=.busy})::M)) w):
  ∃ w',(Instr.endRound l jump).run P w=.ok (.bool jump.isNone) w'/\Sat (stars (pt l (.loop {rc with state:=if jump.isNone then .ready else .done,pending:=jump})::M)) w'/\Ext w w':=
 ⟨_,run_endRound jump (hs.block .here),Sat.putObj hs _,(Ext.refl w).putObj _ _⟩
theorem kS {S:List HP} (hr:rc.state=.ready) (hpn:rc.pending=none) (x:X) (hp:p x) (hl:dS L (pt l (.loop {rc with state:=.busy})::(J x ++ Fr))):
  TN ⟨P,some l,w0,N⟩ (DQ P l w0 Fr (n9 l rc p J) S) ds E L .normal []:=fun a w hs=>by
 obtain⟨w',h1,h2,h3⟩:=rT (P:=P) none (hl w hs.sat)
 refine⟨_,w',h1,true,_,rfl,.inl ⟨rfl,rfl⟩,?_,hs.ext.trans h3⟩
 have e:({rc with state:=if(none:Option Code).isNone then .ready else .done,pending:=none}:Loop)=rc:=by
  cases rc;simp only at hr hpn;subst hr;subst hpn;rfl
 rw[e] at h2
 show Sat (stars (stars (n9 l rc p J)::Fr)) w'
 refine dC.2 ?_
 show Sat (stars (pt l (.loop rc)::wS p J::Fr)) w'
 have h4:Sat (stars (wS p J::pt l (.loop rc)::Fr)) w':=cV.2 ⟨x,hp,by
  refine h2.pick (D:=J x) (R:=pt l (.loop rc)::Fr) ?_
  have:∀(D:List HP) (A:HP) (R:List HP),fQ D (A::(D ++ R)) (A::R):=by
   intro D
   induction D with
   | nil=>intro A R;exact .nil
   | cons B D ih=>intro A R;exact .cons (.there .here) (ih A R)
  exact this _ _ _⟩
 exact h4.pick (D:=[pt l (.loop rc)]) (.cons (.there .here) .nil)
theorem nO {B:List HP} {e:Exit} {j:Code} (he:(e=.ret/\j=.ret)\/(∃ i,e=.exit i/\j=.exit i)) (y:Y) (hq:q (j,y)) (hl:dS L (pt l (.loop {rc with state:=.busy})::(Jx (j,y) ++ Fr))):
  TN ⟨P,some l,w0,N⟩ (DQ P l w0 Fr B (left l rc q Jx)) ds E L e []:=fun a w hs=>by
 obtain⟨w',h1,h2,h3⟩:=rT (P:=P) (some j) (hl w hs.sat)
 have fin:A1 w0 Fr B (left l rc q Jx) (.returned (.bool (some j).isNone)) w':=by
  refine⟨false,_,rfl,.inr ⟨rfl,rfl⟩,?_,hs.ext.trans h3⟩
  show Sat (stars (stars (left l rc q Jx)::Fr)) w'
  refine dC.2 ?_
  show Sat (stars (wS q _::Fr)) w'
  exact cV.2 ⟨(j,y),hq,h2⟩
 rcases he with⟨rfl,rfl⟩ | ⟨i,rfl,rfl⟩
 ·exact⟨_,w',h1,fin⟩
 exact⟨_,w',h1,fin⟩
end
def vp (P:Program) (l:Nat) (xs:List (List Value)) (B S:Nat->HP) (Sh:List HP):Prop:=∀ k x,xs[k]?=some x->tq P l x.toArray [B k] (fun b L'=>(b=true/\L'= [B (k+1)])\/(b=false/\L'= [S (k+1)])) Sh
theorem ov {c:Cx} {fin:Exit->Act->World->Prop} {ds:List Deferred} {E:Env} {ks:List KI} {ps:Array Tmp} {assign body:Code} {gf:FuncId} {cap:Array Value} {Z D' Sh R' X0:List HP} {xs:List (List Value)}
  {X Y:Type} (p:Nat->X->Prop) (J:Nat->X->List HP) (q:Nat->Code×Y->Prop) (Jx:Nat->Code×Y->List HP)
  (hps:ps.toList.all (fun p=>Nat.blt p c.N)=true) (hxs:∀ x∈xs,x.length=ps.size)
  (hround:∀(l:Nat) (rc:Loop) (Fr:List HP) (w0:World) (k:Nat) (x:List Value) (j:X),rc.state=.ready->rc.pending=none->xs[k]?=some x->p k j->
   TC ⟨c.P,some l,w0,c.N⟩ (wR c.P l w0 (Sh ++ Fr) (n9 l rc (p (k+1)) (J (k+1))) (left l rc (q k) (Jx k)) body) [] (uC ps.toList x E) (pt l (.loop rc)::(J k j ++ (Sh ++ Fr))) assign [])
  (hdone:∀(j:X),p xs.length j->TN c fin ds E (X0 ++ (D' ++ (J xs.length j ++ R'))) .normal ks)
  (hstop:∀(k:Nat) (y:Code×Y),k < xs.length->q k y->TC c fin ds E (X0 ++ (D' ++ (Jx k y ++ R'))) y.1 ks)
  {fn:FuncId} {a a':Act} {W:World} {l dl:Nat} {rc:Loop} (hrc:rc= {state:=.ready,pending:=none,fn,tmps:=a.tmps,params:=ps,assign,body,defers:=dl})
  (hc:∀ B S,B=(fun k=>stars (n9 l rc (p k) (J k)))->vp c.P l xs B S Sh->aK c.P gf (#[.func (.yield l) #[] #[]] ++ cap) Z fun _ L'=>L'=D' ++ [B xs.length]\/∃ k,k < xs.length/\L'=D' ++ [S (k+1)])
  (hsat:Sat (stars (Z ++ (X0 ++ R'))) W) (hext:Ext c.w0 W) (hsize:a.tmps.size=c.N) (hagree:∀ t v,lk E t=some v->a.tmps[t]?=some v) (ha':a'.tmps=a.tmps) (hd':a'.defers=ds):
  CallsIn (FW c.r) 0 c.P gf (#[.func (.yield l) #[] #[]] ++ cap) W (rangePost (FW c.r) 0 c.P l (xv c fin ks) a'):=by
 have hcall:=hc (fun k=>stars (n9 l rc (p k) (J k))) (fun k=>stars (left l rc (q (k-1)) (Jx (k-1)))) rfl ?_
 ·refine(hcall.calls (X0 ++ R') c.w0 W hsat hext).mono ?_
  rintro e w3 ⟨v,L',rfl,(rfl | ⟨k,hk,rfl⟩),hs3,he3⟩
  ·-- all have come
   rw[List.append_assoc] at hs3
   have h0:Sat (stars (pt l (.loop rc)::wS (p xs.length) (J xs.length)::(D' ++ (X0 ++ R')))) w3:=dC.1 (hs3.perm (M:=stars (n9 l rc (p xs.length) (J xs.length))::(D' ++ (X0 ++ R'))) List.perm_middle)
   have hst:rc.state≠.busy:=by rw[hrc];simp
   refine⟨rc.pending,_,run_endLoop (h0.block .here) hst,?_⟩
   have h1:=Sat.tail (Sat.putObj h0 (.loop {rc with state:=.exhausted}))
   obtain⟨x,hpx,h2⟩:=cV.1 h1
   split
   ·refine hdone x hpx _ _ ⟨by rw[ha'];exact hsize,hd',by rw[ha'];exact hagree,h2.perm ?_,he3.putObj _ _⟩
    refine(List.Perm.append_left _ (List.perm_append_comm_assoc D' X0 R')).trans ?_
    refine(List.perm_append_comm_assoc _ _ _).trans ?_
    exact List.Perm.append_left X0 (List.perm_append_comm_assoc _ _ _)
   next hne=>rw[hrc] at hne;cases hne
  -- a round has left
  rw[List.append_assoc] at hs3
  obtain⟨y,hqy,h1⟩:=(cV (L:=D' ++ (X0 ++ R'))).1 (dC.1 (hs3.perm (M:=stars (left l rc (q k) (Jx k))::(D' ++ (X0 ++ R'))) List.perm_middle))
  refine⟨some y.1,_,run_endLoop (h1.block .here) (by simp),?_⟩
  have h2:=Sat.tail (Sat.putObj h1 (.loop {{rc with state:=.done,pending:=some y.1} with state:=.exhausted}))
  refine hstop k y hk hqy _ _ ⟨by rw[ha'];exact hsize,hd',by rw[ha'];exact hagree,h2.perm ?_,he3.putObj _ _⟩
  refine(List.Perm.append_left _ (List.perm_append_comm_assoc D' X0 R')).trans ?_
  refine(List.perm_append_comm_assoc _ _ _).trans ?_
  exact List.Perm.append_left X0 (List.perm_append_comm_assoc _ _ _)
 -- one round
 intro k x hx Fr w0 w' hs' he'
 obtain⟨j,hj,h1⟩:=cV.1 ((dC.1 hs').perm (M:=wS (p k) (J k)::pt l (.loop rc)::(Sh ++ Fr)) (.swap _ _ _))
 have h2:=h1.perm (M:=pt l (.loop rc)::(J k j ++ (Sh ++ Fr))) List.perm_middle
 have hlen:x.toArray.size=rc.params.size:=by
  rw[hrc];simp only[List.size_toArray]
  exact hxs x (List.mem_of_getElem? hx)
 refine⟨fn,_,assign,body,by rw[run_yield (h2.block .here) hlen];rw[hrc],roundIn_of_wpIn (F:=FW none) trivial ?_⟩
 have hst:St ⟨c.P,some l,w0,c.N⟩ [] E (pt l (.loop rc)::(J k j ++ (Sh ++ Fr))) ⟨a.tmps,[]⟩ w':=⟨hsize,rfl,hagree,h2,he'⟩
 have hst2:=AP (c:=⟨c.P,some l,w0,c.N⟩) ps.toList x hps hst
 have:=hround l rc Fr w0 k x j (by rw[hrc]) (by rw[hrc]) hx hj _ w' hst2
 have e:(ps.zip x.toArray).foldl (fun t (pv:Tmp×Value)=>t.setIfInBounds pv.1 pv.2) a.tmps=(ps.toList.zip x).foldl (fun t (pv:Tmp×Value)=>t.setIfInBounds pv.1 pv.2) a.tmps:=by
  rw[<- Array.foldl_toList];simp
 rw[hrc] at this ⊢
 simp only
 rw[e]
 exact this
theorem pQ {c:Cx} {fin:Exit->Act->World->Prop} {ds:List Deferred} {E:Env} {ks:List KI} {ps:Array Tmp} {assign body:Code} {gf:FuncId} {cap:Array Value} {D D' Sh R R' X0:List HP} {xs:List (List Value)}
  {X Y:Type} (p:Nat->X->Prop) (J:Nat->X->List HP) (q:Nat->Code×Y->Prop) (Jx:Nat->Code×Y->List HP)
  (hc:j4 c.P gf cap D xs D' Sh) (x0:X) (hp0:p 0 x0) (hJ0:fQ (J 0 x0) R R')
  (hps:ps.toList.all (fun p=>Nat.blt p c.N)=true) (hxs:∀ x∈xs,x.length=ps.size)
  (hround:∀(l:Nat) (rc:Loop) (Fr:List HP) (w0:World) (k:Nat) (x:List Value) (j:X),rc.state=.ready->rc.pending=none->xs[k]?=some x->p k j->
   TC ⟨c.P,some l,w0,c.N⟩ (wR c.P l w0 (Sh ++ Fr) (n9 l rc (p (k+1)) (J (k+1))) (left l rc (q k) (Jx k)) body) [] (uC ps.toList x E) (pt l (.loop rc)::(J k j ++ (Sh ++ Fr))) assign [])
  (hdone:∀(j:X),p xs.length j->TN c fin ds E (X0 ++ (D' ++ (J xs.length j ++ R'))) .normal ks)
  (hstop:∀(k:Nat) (y:Code×Y),k < xs.length->q k y->TC c fin ds E (X0 ++ (D' ++ (Jx k y ++ R'))) y.1 ks)
  {fn:FuncId} {a a':Act} {W:World} {l dl:Nat} {rc:Loop} (hrc:rc= {state:=.ready,pending:=none,fn,tmps:=a.tmps,params:=ps,assign,body,defers:=dl})
  (hsat:Sat (stars (pt l (.loop rc)::(X0 ++ (D ++ R)))) W) (hext:Ext c.w0 W) (hsize:a.tmps.size=c.N) (hagree:∀ t v,lk E t=some v->a.tmps[t]?=some v) (ha':a'.tmps=a.tmps) (hd':a'.defers=ds):
  CallsIn (FW c.r) 0 c.P gf (#[.func (.yield l) #[] #[]] ++ cap) W (rangePost (FW c.r) 0 c.P l (xv c fin ks) a'):=by
 refine ov (Z:=D ++ [stars (n9 l rc (p 0) (J 0))]) p J q Jx hps hxs hround hdone hstop hrc (fun B S hB hY=>?_) ?_ hext hsize hagree ha' hd'
 ·subst hB;exact hc.calls l _ S hY
 have h1:Sat (stars (J 0 x0 ++ (pt l (.loop rc)::(X0 ++ (D ++ R'))))) W:=by
  refine hsat.perm ?_
  refine((List.Perm.append_left X0 (List.Perm.append_left D hJ0.perm)).cons _).trans ?_
  refine List.Perm.trans ?_ List.perm_middle.symm
  refine List.Perm.cons _ ?_
  refine(List.Perm.append_left X0 (List.perm_append_comm_assoc D (J 0 x0) R')).trans ?_
  exact List.perm_append_comm_assoc _ _ _
 have h2:Sat (stars (wS (p 0) (J 0)::(pt l (.loop rc)::(X0 ++ (D ++ R'))))) W:=cV.2 ⟨x0,hp0,h1⟩
 have h3:Sat (stars (stars (n9 l rc (p 0) (J 0))::(X0 ++ (D ++ R')))) W:=dC.2 (h2.perm (.swap _ _ _))
 refine h3.perm ?_
 rw[List.append_assoc]
 refine List.Perm.trans ?_ List.perm_middle.symm
 exact List.Perm.cons _ (List.perm_append_comm_assoc _ _ _)
structure qM (P:Program) (g:FuncId) (cap:Array Value) (D H:List HP) (xs:List (List Value)) (D':List HP) (Sh:List HP:=[]):Prop where
 enters:∀ args w,(callFunc g args).run P w=.ok (.enter g args) w
 calls:∀(l:Nat) (B S:Nat->HP) (C:List HP),(∀ F w,Sat (stars (H ++ (C ++ F))) w->Sat (stars (B 0::F)) w)->vp P l xs B S Sh->
  aK P g (#[.func (.yield l) #[] #[]] ++ cap) (D ++ (H ++ C)) fun _ L'=>L'=D' ++ [B xs.length]\/∃ k,k < xs.length/\L'=D' ++ [S (k+1)]
theorem qM.plain {P:Program} {g:FuncId} {cap:Array Value} {D H:List HP} {xs:List (List Value)} {D' Sh:List HP} (h:qM P g cap D H xs D' Sh):qM P g cap D H xs D':=
 ⟨h.enters,fun l B S C hC hY=>h.calls l B S C hC fun k x hx Fr w0 w hs he=>hY k x hx (Sh ++ Fr) w0 w hs he⟩
theorem uo {c:Cx} {fin:Exit->Act->World->Prop} {ds:List Deferred} {E:Env} {ks:List KI} {ps:Array Tmp} {assign body:Code} {gf:FuncId} {cap:Array Value} {D H D' Sh R R' X0 J0:List HP} {xs:List (List Value)}
  {X Y:Type} (p:Nat->X->Prop) (J:Nat->X->List HP) (q:Nat->Code×Y->Prop) (Jx:Nat->Code×Y->List HP)
  (hc:qM c.P gf cap D H xs D' Sh) (x0:X) (hp0:p 0 x0) (hH:fQ H (J 0 x0) J0) (hJ0:fQ (J 0 x0) R R')
  (hps:ps.toList.all (fun p=>Nat.blt p c.N)=true) (hxs:∀ x∈xs,x.length=ps.size)
  (hround:∀(l:Nat) (rc:Loop) (Fr:List HP) (w0:World) (k:Nat) (x:List Value) (j:X),rc.state=.ready->rc.pending=none->xs[k]?=some x->p k j->
   TC ⟨c.P,some l,w0,c.N⟩ (wR c.P l w0 (Sh ++ Fr) (n9 l rc (p (k+1)) (J (k+1))) (left l rc (q k) (Jx k)) body) [] (uC ps.toList x E) (pt l (.loop rc)::(J k j ++ (Sh ++ Fr))) assign [])
  (hdone:∀(j:X),p xs.length j->TN c fin ds E (X0 ++ (D' ++ (J xs.length j ++ R'))) .normal ks)
  (hstop:∀(k:Nat) (y:Code×Y),k < xs.length->q k y->TC c fin ds E (X0 ++ (D' ++ (Jx k y ++ R'))) y.1 ks)
  {fn:FuncId} {a a':Act} {W:World} {l dl:Nat} {rc:Loop} (hrc:rc= {state:=.ready,pending:=none,fn,tmps:=a.tmps,params:=ps,assign,body,defers:=dl})
  (hsat:Sat (stars (pt l (.loop rc)::(X0 ++ (D ++ R)))) W) (hext:Ext c.w0 W) (hsize:a.tmps.size=c.N) (hagree:∀ t v,lk E t=some v->a.tmps[t]?=some v) (ha':a'.tmps=a.tmps) (hd':a'.defers=ds):
  CallsIn (FW c.r) 0 c.P gf (#[.func (.yield l) #[] #[]] ++ cap) W (rangePost (FW c.r) 0 c.P l (xv c fin ks) a'):=by
 refine ov (Sh:=Sh) (Z:=D ++ (H ++ (J0 ++ [pt l (.loop rc)]))) p J q Jx hps hxs hround hdone hstop hrc (fun B S hB hY=>?_) ?_ hext hsize hagree ha' hd'
 ·refine hc.calls l B S _ (fun F w hs=>?_) hY
  subst hB
  have h1:Sat (stars (J 0 x0 ++ (pt l (.loop rc)::F))) w:=hs.perm (by
   rw[List.append_assoc,<- List.append_assoc]
   exact List.Perm.append_right _ hH.perm.symm)
  have h2:Sat (stars (wS (p 0) (J 0)::(pt l (.loop rc)::F))) w:=cV.2 ⟨x0,hp0,h1⟩
  exact dC.2 (h2.perm (.swap _ _ _))
 refine hsat.perm ?_
 have h1:R.Perm (H ++ (J0 ++ R')):=hJ0.perm.trans ((List.Perm.append_right R' hH.perm).trans (by rw[List.append_assoc]))
 refine((List.Perm.append_left X0 (List.Perm.append_left D h1)).cons _).trans ?_
 refine(List.Perm.cons _ (List.perm_append_comm_assoc X0 D _)).trans ?_
 simp only[List.append_assoc,List.cons_append,List.nil_append]
 refine List.perm_middle.symm.trans ?_
 refine List.Perm.append_left D ?_
 refine((List.perm_append_comm_assoc X0 H _).cons _).trans ?_
 refine List.perm_middle.symm.trans (List.Perm.append_left H ?_)
 refine((List.perm_append_comm_assoc X0 J0 _).cons _).trans ?_
 exact List.perm_middle.symm
theorem C8 {c:Cx} {fin:Exit->Act->World->Prop} {ds:List Deferred} {E:Env} {L:List HP} {ks:List KI} {g:Operand} {ps:Array Tmp} {assign body:Code} {gf:FuncId} {cap:Array Value} {D D' Sh R R':List HP} {xs:List (List Value)}
  {X Y:Type} (p:Nat->X->Prop) (J:Nat->X->List HP) (q:Nat->Code×Y->Prop) (Jx:Nat->Code×Y->List HP)
  (hr:c.r=none) (hg:ev E g=some (.func (.func gf) #[] cap)) (hc:j4 c.P gf cap D xs D' Sh) (hp:fQ D L R) (x0:X) (hp0:p 0 x0) (hJ0:fQ (J 0 x0) R R')
  (hps:ps.toList.all (fun p=>Nat.blt p c.N)=true) (hxs:∀ x∈xs,x.length=ps.size)
  (hround:∀(l:Nat) (rc:Loop) (Fr:List HP) (w0:World) (k:Nat) (x:List Value) (j:X),rc.state=.ready->rc.pending=none->xs[k]?=some x->p k j->
   TC ⟨c.P,some l,w0,c.N⟩ (wR c.P l w0 (Sh ++ Fr) (n9 l rc (p (k+1)) (J (k+1))) (left l rc (q k) (Jx k)) body) [] (uC ps.toList x E) (pt l (.loop rc)::(J k j ++ (Sh ++ Fr))) assign [])
  (hdone:∀(b:Nat) (j:X),p xs.length j->TN c fin ({target:=.collected b,args:=#[]}::ds) E (pt b (.deferred (some []))::(D' ++ (J xs.length j ++ R'))) .normal ks)
  (hstop:∀(b k:Nat) (y:Code×Y),k < xs.length->q k y->TC c fin ({target:=.collected b,args:=#[]}::ds) E (pt b (.deferred (some []))::(D' ++ (Jx k y ++ R'))) y.1 ks):
  TC c fin ds E L (.rangeFunc g ps assign body) ks:=fun a w hs=>by
 refine wpIn_rangeFunc fun fn hfn=>?_
 rw[show(FW c.r).round=none from hr]
 obtain⟨rc,hrc⟩:∃ rc:Loop,rc= {state:=.ready,pending:=none,fn,tmps:=a.tmps,params:=ps,assign,body,defers:=w.heap.size}:=⟨_,rfl⟩
 have hsat:Sat (stars (pt (w.heap.size+1) (.loop rc)::pt w.heap.size (.deferred (some []))::L)) ((w.alloc (.deferred (some []))).alloc (.loop rc)):=by
  have h2:=Sat.alloc (A:=stars (pt w.heap.size (.deferred (some []))::L)) (hs.sat.alloc (.deferred (some []))) (.loop rc)
  rw[World.size_alloc] at h2
  exact h2
 have e1:=hs.ev hg
 obtain⟨W,hW⟩:∃ W,W=(w.alloc (.deferred (some []))).alloc (.loop rc):=⟨_,rfl⟩
 refine⟨w.heap.size+1,[{target:=.collected w.heap.size,args:=#[]}],W,{target:=.fn (.func gf) cap,args:=#[.func (.yield (w.heap.size+1)) #[] #[]]},W,gf,#[.func (.yield (w.heap.size+1)) #[] #[]] ++ cap,W,?_,?_,fun f' _=>kC _ _,?_,fun h=>(by cases h),?_⟩
 ·rw[run_enterLoop_outer,hW,hrc]
 ·simp only[resolve,e1]
  simp[go_sem,Deferred.ofValue,Act.eval]
 ·simp[invoke];exact hc.enters _ _
 rw[<- hW] at hsat
 refine pQ (X0:=[pt w.heap.size (.deferred (some []))]) p J q Jx hc x0 hp0 hJ0 hps hxs hround (hdone w.heap.size) (hstop w.heap.size) hrc (hsat.perm ?_) (by rw[hW];exact(hs.ext.alloc _).alloc _) hs.size hs.agree rfl (by simp[hs.defs])
 exact(hp.perm.cons _).cons _
theorem tV {c:Cx} {fin:Exit->Act->World->Prop} {ds:List Deferred} {E:Env} {L:List HP} {ks:List KI} {g:Operand} {ps:Array Tmp} {assign body:Code} {gf:FuncId} {cap:Array Value} {D D' Sh R R' M0:List HP} {xs:List (List Value)} {l0:Nat} {r0:Loop}
  {X Y:Type} (p:Nat->X->Prop) (J:Nat->X->List HP) (q:Nat->Code×Y->Prop) (Jx:Nat->Code×Y->List HP)
  (hr:c.r=some l0) (hg:ev E g=some (.func (.func gf) #[] cap)) (hl0:Take (pt l0 (.loop r0)) L M0) (hc:j4 c.P gf cap D xs D' Sh) (hp:fQ D L R) (x0:X) (hp0:p 0 x0) (hJ0:fQ (J 0 x0) R R')
  (hps:ps.toList.all (fun p=>Nat.blt p c.N)=true) (hxs:∀ x∈xs,x.length=ps.size)
  (hround:∀(l:Nat) (rc:Loop) (Fr:List HP) (w0:World) (k:Nat) (x:List Value) (j:X),rc.state=.ready->rc.pending=none->xs[k]?=some x->p k j->
   TC ⟨c.P,some l,w0,c.N⟩ (wR c.P l w0 (Sh ++ Fr) (n9 l rc (p (k+1)) (J (k+1))) (left l rc (q k) (Jx k)) body) [] (uC ps.toList x E) (pt l (.loop rc)::(J k j ++ (Sh ++ Fr))) assign [])
  (hdone:∀(j:X),p xs.length j->TN c fin ds E (D' ++ (J xs.length j ++ R')) .normal ks)
  (hstop:∀(k:Nat) (y:Code×Y),k < xs.length->q k y->TC c fin ds E (D' ++ (Jx k y ++ R')) y.1 ks):
  TC c fin ds E L (.rangeFunc g ps assign body) ks:=fun a w hs=>by
 refine wpIn_rangeFunc fun fn hfn=>?_
 rw[show(FW c.r).round=some l0 from hr]
 obtain⟨rc,hrc⟩:∃ rc:Loop,rc= {state:=.ready,pending:=none,fn,tmps:=a.tmps,params:=ps,assign,body,defers:=r0.defers}:=⟨_,rfl⟩
 have e1:=hs.ev hg
 obtain⟨W,hW⟩:∃ W,W=w.alloc (.loop rc):=⟨_,rfl⟩
 refine⟨w.heap.size,[],W,{target:=.fn (.func gf) cap,args:=#[.func (.yield w.heap.size) #[] #[]]},W,gf,#[.func (.yield w.heap.size) #[] #[]] ++ cap,W,?_,?_,fun f' _=>kC _ _,?_,fun h=>(by cases h),?_⟩
 ·rw[run_enterLoop_inner (hs.sat.block hl0),hW,hrc]
 ·simp only[resolve,e1]
  simp[go_sem,Deferred.ofValue,Act.eval]
 ·simp[invoke];exact hc.enters _ _
 have hsat:Sat (stars (pt w.heap.size (.loop rc)::L)) W:=by rw[hW];exact hs.sat.alloc (.loop rc)
 refine pQ (X0:=[]) p J q Jx hc x0 hp0 hJ0 hps hxs hround hdone hstop hrc (hsat.perm ?_) (by rw[hW];exact hs.ext.alloc _) hs.size hs.agree rfl (by simp[hs.defs])
 exact hp.perm.cons _
theorem pA {c:Cx} {fin:Exit->Act->World->Prop} {ds:List Deferred} {E:Env} {L:List HP} {ks:List KI} {g:Operand} {ps:Array Tmp} {assign body:Code} {gf:FuncId} {cap:Array Value} {D H D' Sh R R' J0:List HP} {xs:List (List Value)}
  {X Y:Type} (p:Nat->X->Prop) (J:Nat->X->List HP) (q:Nat->Code×Y->Prop) (Jx:Nat->Code×Y->List HP)
  (hr:c.r=none) (hg:ev E g=some (.func (.func gf) #[] cap)) (hc:qM c.P gf cap D H xs D' Sh) (hp:fQ D L R) (x0:X) (hp0:p 0 x0) (hH:fQ H (J 0 x0) J0) (hJ0:fQ (J 0 x0) R R')
  (hps:ps.toList.all (fun p=>Nat.blt p c.N)=true) (hxs:∀ x∈xs,x.length=ps.size)
  (hround:∀(l:Nat) (rc:Loop) (Fr:List HP) (w0:World) (k:Nat) (x:List Value) (j:X),rc.state=.ready->rc.pending=none->xs[k]?=some x->p k j->
   TC ⟨c.P,some l,w0,c.N⟩ (wR c.P l w0 (Sh ++ Fr) (n9 l rc (p (k+1)) (J (k+1))) (left l rc (q k) (Jx k)) body) [] (uC ps.toList x E) (pt l (.loop rc)::(J k j ++ (Sh ++ Fr))) assign [])
  (hdone:∀(b:Nat) (j:X),p xs.length j->TN c fin ({target:=.collected b,args:=#[]}::ds) E (pt b (.deferred (some []))::(D' ++ (J xs.length j ++ R'))) .normal ks)
  (hstop:∀(b k:Nat) (y:Code×Y),k < xs.length->q k y->TC c fin ({target:=.collected b,args:=#[]}::ds) E (pt b (.deferred (some []))::(D' ++ (Jx k y ++ R'))) y.1 ks):
  TC c fin ds E L (.rangeFunc g ps assign body) ks:=fun a w hs=>by
 refine wpIn_rangeFunc fun fn hfn=>?_
 rw[show(FW c.r).round=none from hr]
 obtain⟨rc,hrc⟩:∃ rc:Loop,rc= {state:=.ready,pending:=none,fn,tmps:=a.tmps,params:=ps,assign,body,defers:=w.heap.size}:=⟨_,rfl⟩
 have hsat:Sat (stars (pt (w.heap.size+1) (.loop rc)::pt w.heap.size (.deferred (some []))::L)) ((w.alloc (.deferred (some []))).alloc (.loop rc)):=by
  have h2:=Sat.alloc (A:=stars (pt w.heap.size (.deferred (some []))::L)) (hs.sat.alloc (.deferred (some []))) (.loop rc)
  rw[World.size_alloc] at h2
  exact h2
 have e1:=hs.ev hg
 obtain⟨W,hW⟩:∃ W,W=(w.alloc (.deferred (some []))).alloc (.loop rc):=⟨_,rfl⟩
 refine⟨w.heap.size+1,[{target:=.collected w.heap.size,args:=#[]}],W,{target:=.fn (.func gf) cap,args:=#[.func (.yield (w.heap.size+1)) #[] #[]]},W,gf,#[.func (.yield (w.heap.size+1)) #[] #[]] ++ cap,W,?_,?_,fun f' _=>kC _ _,?_,fun h=>(by cases h),?_⟩
 ·rw[run_enterLoop_outer,hW,hrc]
 ·simp only[resolve,e1]
  simp[go_sem,Deferred.ofValue,Act.eval]
 ·simp[invoke];exact hc.enters _ _
 rw[<- hW] at hsat
 refine uo (X0:=[pt w.heap.size (.deferred (some []))]) p J q Jx hc x0 hp0 hH hJ0 hps hxs hround (hdone w.heap.size) (hstop w.heap.size) hrc (hsat.perm ?_) (by rw[hW];exact(hs.ext.alloc _).alloc _) hs.size hs.agree rfl (by simp[hs.defs])
 exact(hp.perm.cons _).cons _
end Eng
end Go.Proofs.YthkajgkagnenbaaGreatDoor
