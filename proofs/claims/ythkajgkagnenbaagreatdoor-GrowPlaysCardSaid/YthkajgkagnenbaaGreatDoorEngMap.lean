import Derived.Test.YthkajgkagnenbaaGreatDoorEngAb
import Derived.MapKept
set_option linter.unusedVariables false
set_option linter.unusedSimpArgs false
set_option linter.unusedSectionVars false
namespace Go.Proofs.YthkajgkagnenbaaGreatDoor
namespace Eng
open Go.RowKit
section
variable {K:Type} [DecidableEq K]
structure nE (d:TypeDesc) (mk:K->Value):Prop where
 isKey:∀ k,MapKept.IsKey d (mk k)
 same:∀ a b,Instr.sameNow d (mk a) (mk b)=some (decide (a=b))
 bits:∀ k,Instr.sameBits 10000 (mk k) (mk k)=true
def jZ:List (K×Value)->K->Option Value
 | [],_=>none
 | (j,v)::r,k=>if j=k then some v else jZ r k
def iE:List (K×Value)->K->Value->List (K×Value)
 | [],k,v=>[(k,v)]
 | (j,u)::r,k,v=>if j=k then(j,v)::r else(j,u)::iE r k v
def k7:List (K×Value)->K->List (K×Value)
 | [],_=>[]
 | (j,u)::r,k=>if j=k then r else(j,u)::k7 r k
theorem sW (m:List (K×Value)) (k k':K) (v:Value):jZ (iE m k v) k'=if k=k' then some v else jZ m k':=by
 induction m with
 | nil=>simp[iE,jZ]
 | cons p r ih=>
  obtain⟨j,u⟩:=p
  simp only[iE]
  by_cases h:j=k
  ·subst h
   simp only[if_true,jZ]
   by_cases q:j=k' <;> simp[q]
  rw[if_neg h]
  simp only[jZ,ih]
  by_cases q:j=k'
  ·subst q;simp[Ne.symm h]
  simp[q]
def c9 (m:List (K×Value)):Prop:=(m.map (·.1)).Nodup
theorem BD (m:List (K×Value)) (k:K) (v:Value):∀ j,j∈(iE m k v).map (·.1)↔j=k\/j∈m.map (·.1):=by
 intro j
 induction m with
 | nil=>simp[iE]
 | cons p r ih=>
  obtain⟨i,u⟩:=p
  simp only[iE]
  by_cases h:i=k
  ·subst h;simp
  rw[if_neg h]
  simp only[List.map_cons,List.mem_cons,ih]
  constructor
  ·rintro(h | h | h)
   ·exact .inr (.inl h)
   ·exact .inl h
   exact .inr (.inr h)
  rintro(h | h | h)
  ·exact .inr (.inl h)
  ·exact .inl h
  exact .inr (.inr h)
theorem nu {m:List (K×Value)} (h:c9 m) (k:K) (v:Value):c9 (iE m k v):=by
 induction m with
 | nil=>simp[iE,c9]
 | cons p r ih=>
  obtain⟨i,u⟩:=p
  simp only[c9,List.map_cons,List.nodup_cons] at h
  simp only[iE]
  by_cases q:i=k
  ·rw[if_pos q];simp only[c9,List.map_cons,List.nodup_cons];exact h
  rw[if_neg q]
  simp only[c9,List.map_cons,List.nodup_cons]
  refine⟨fun hm=>?_,ih h.2⟩
  rcases(BD r k v i).1 hm with e | e
  ·exact q e
  exact h.1 e
theorem BE {m:List (K×Value)} (k:K):∀ j,j∈(k7 m k).map (·.1)->j∈m.map (·.1):=by
 intro j
 induction m with
 | nil=>simp[k7]
 | cons p r ih=>
  obtain⟨i,u⟩:=p
  simp only[k7]
  by_cases h:i=k
  ·rw[if_pos h];intro hj;simp only[List.map_cons];exact List.mem_cons_of_mem _ hj
  rw[if_neg h]
  simp only[List.map_cons,List.mem_cons]
  rintro(h | h)
  ·exact .inl h
  exact .inr (ih h)
theorem nv {m:List (K×Value)} (h:c9 m) (k:K):c9 (k7 m k):=by
 induction m with
 | nil=>exact h
 | cons p r ih=>
  obtain⟨i,u⟩:=p
  simp only[c9,List.map_cons,List.nodup_cons] at h
  simp only[k7]
  by_cases q:i=k
  ·rw[if_pos q];exact h.2
  rw[if_neg q]
  simp only[c9,List.map_cons,List.nodup_cons]
  exact⟨fun hm=>h.1 (BE k i hm),ih h.2⟩
theorem DB {m:List (K×Value)} {k:K} (h:k∉m.map (·.1)):jZ m k=none:=by
 induction m with
 | nil=>rfl
 | cons p r ih=>
  obtain⟨i,u⟩:=p
  simp only[List.map_cons,List.mem_cons,not_or] at h
  simp only[jZ]
  rw[if_neg (Ne.symm h.1)];exact ih h.2
theorem Bw {m:List (K×Value)} (h:c9 m) (k k':K):jZ (k7 m k) k'=if k=k' then none else jZ m k':=by
 induction m with
 | nil=>simp[k7,jZ]
 | cons p r ih=>
  obtain⟨i,u⟩:=p
  simp only[c9,List.map_cons,List.nodup_cons] at h
  simp only[k7]
  by_cases q:i=k
  ·subst q
   rw[if_pos rfl]
   by_cases e:i=k'
   ·subst e;rw[if_pos rfl];exact DB h.1
   rw[if_neg e];simp[jZ,e]
  rw[if_neg q]
  simp only[jZ,ih h.2]
  by_cases e:i=k'
  ·subst e;simp[Ne.symm q]
  simp[e]
theorem B5 {m:List (K×Value)} {k:K} (h:jZ m k=none):k7 m k=m:=by
 induction m with
 | nil=>rfl
 | cons p r ih=>
  obtain⟨i,u⟩:=p
  simp only[jZ] at h
  by_cases q:i=k
  ·rw[if_pos q] at h;cases h
  rw[if_neg q] at h;simp[k7,q,ih h]
theorem nX {A B:Type} (f:A->B):∀(l:List A) (j:Nat),(l.eraseIdx j).map f=(l.map f).eraseIdx j
 | [],j=>by simp
 | x::l,0=>by simp
 | x::l,j+1=>by simp[nX f l j]
def bG (mk:K->Value) (b:Nat) (m:List (K×Value)):HP:=fun h=>c9 m/\∃ es clock,h=Part.one b (.map es clock)/\es.toList.map (fun e=>(e.key,e.val))=m.map fun p=>(mk p.1,p.2)
theorem map_some {mk:K->Value} {b:Nat} {m:List (K×Value)} {L:List HP} {w:World} (h:Sat (stars (bG mk b m::L)) w):c9 m/\∃ es clock,es.toList.map (fun e=>(e.key,e.val))=m.map (fun p=>(mk p.1,p.2))/\Sat (stars (pt b (.map es clock)::L)) w:=by
 obtain⟨_,hi,f,g0,⟨hd,es,clock,rfl,he⟩,k,d,rfl⟩:=h
 exact⟨hd,es,clock,he,_,hi,_,g0,rfl,k,d,rfl⟩
theorem nW {mk:K->Value} {b:Nat} {m:List (K×Value)} {L:List HP} {w:World} {es:Array MapEntry} {clock:Nat} (hd:c9 m) (he:es.toList.map (fun e=>(e.key,e.val))=m.map fun p=>(mk p.1,p.2)) (h:Sat (stars (pt b (.map es clock)::L)) w):
  Sat (stars (bG mk b m::L)) w:=by
 obtain⟨_,hi,f,g0,rfl,k,d,rfl⟩:=h
 exact⟨_,hi,_,g0,⟨hd,es,clock,rfl,he⟩,k,d,rfl⟩
theorem jM {d:TypeDesc} {mk:K->Value} (hk:nE d mk) (k:K):∀(m:List (K×Value)) (l:List MapEntry) (n:Nat),l.map (fun e=>(e.key,e.val))=m.map (fun p=>(mk p.1,p.2))->
  (Instr.findNow d (mk k) l n=some none/\jZ m k=none/\iE m k=fun v=>m ++ [(k,v)])\/
  ∃ j v e,Instr.findNow d (mk k) l n=some (some (n+j,v))/\jZ m k=some v/\l[j]?=some e/\e.key=mk k/\m[j]?=some (k,v)/\(∀ u,iE m k u=m.set j (k,u))/\k7 m k=m.eraseIdx j
 | [],l,n,h=>by
  have:l= []:=by simpa using h
  subst this
  exact .inl ⟨rfl,rfl,by funext v;rfl⟩
 | (i,u)::r,[],n,h=>by simp at h
 | (i,u)::r,e::l,n,h=>by
  simp only[List.map_cons,List.cons.injEq,Prod.mk.injEq] at h
  obtain⟨⟨h1,h2⟩,h3⟩:=h
  simp only[Instr.findNow,h1,hk.same]
  by_cases q:i=k
  ·subst q
   rw[decide_eq_true rfl]
   exact .inr ⟨0,u,e,by simp[h2],by simp[jZ],by simp,h1,by simp,fun v=>by simp[iE],by simp[k7]⟩
  rw[decide_eq_false (Ne.symm q)]
  simp only
  rcases jM hk k r l (n+1) h3 with⟨a1,a2,a3⟩ | ⟨j,v,e',a1,a2,a3,a4,a5,a6,a7⟩
  ·exact .inl ⟨a1,by simp[jZ,q,a2],by funext v;simp[iE,q,a3]⟩
  exact .inr ⟨j+1,v,e',by rw[a1];congr 3;omega,by simp[jZ,q,a2],by simpa using a3,a4,by simpa using a5,fun v=>by simp[iE,q,a6],by simp[k7,q,a7]⟩
theorem ia:nE (.int .i64) (fun k:Int=>Value.int .i64 k):=⟨fun k=>by simp[MapKept.IsKey],fun a b=>by simp[Instr.sameNow];by_cases q:a=b <;> simp[q],fun k=>by simp[Instr.sameBits]⟩
theorem qm:nE .string (fun k:ByteArray=>Value.string k):=⟨fun k=>by simp[MapKept.IsKey],fun a b=>by
 simp only[Instr.sameNow]
 congr 1
 by_cases q:a=b
 ·subst q;rw[decide_eq_true rfl];exact(bytes_beq a a).2 rfl
 rw[decide_eq_false q];exact Bool.eq_false_iff.2 fun h=>q ((bytes_beq a b).1 h),fun k=>by simp only[Instr.sameBits];exact(bytes_beq k k).2 rfl⟩
end
section
variable {K:Type} [DecidableEq K]
variable {c:Cx} {fin:Exit->Act->World->Prop} {ds:List Deferred} {E:Env} {L:List HP} {ks:List KI} {ops:Array Oper} {rest:List Oper}
variable {d:Option Tmp} {ty:TypeId} {pos:String} {af:Array Edge} {mk:K->Value}
theorem rE {t:TypeId} (mk:K->Value) (hd:dn d c.N=true) (k:∀ b,TL c fin ds (gT d (.map (some b)) E) (bG mk b []::L) ops rest ks):TL c fin ds E L ops (⟨d,.makeMap t none,ty,pos,af,none⟩::rest) ks:=
 nk hd (by intro k;simp) (fun b=>.map (some b)) (fun b=>bG mk b []::L) (fun a w hs=>⟨w.heap.size,w.alloc (.map #[] 0),by
  simp[execOp,Instr.makeMap,run_newObj_alloc,Result.andThen],nW (by simp[c9]) (by simp) (hs.sat.alloc _),(Ext.refl w).alloc _⟩) k
theorem qd {t kt et:TypeId} {x:Operand} {kd:IntKind} {n:Int} (mk:K->Value) (hd:dn d c.N=true) (hx:ev E x=some (.int kd n)) (ht:c.P.underlying t=some (.map kt et)) (k:∀ b,TL c fin ds (gT d (.map (some b)) E) (bG mk b []::L) ops rest ks):TL c fin ds E L ops (⟨d,.makeMap t (some x),ty,pos,af,none⟩::rest) ks:=
 nk hd (by intro k;simp) (fun b=>.map (some b)) (fun b=>bG mk b []::L) (fun a w hs=>⟨w.heap.size,w.alloc (.map #[] 0),by
  simp[execOp,Instr.makeMap,hs.ev hx,run_underlying ht,asInt,asIntOf,run_newObj_alloc,Result.andThen],nW (by simp[c9]) (by simp) (hs.sat.alloc _),(Ext.refl w).alloc _⟩) k
theorem ur {gd:Option (Nat×Bool)} {t kt et:TypeId} {kd:TypeDesc} {x y:Operand} {b:Nat} {m:List (K×Value)} {M:List HP} {z:Value} {k:K} (hx:ev E x=some (.map (some b))) (hy:ev E y=some (mk k)) (ht:c.P.underlying t=some (.map kt et)) (hkt:c.P.underlying kt=some kd)
  (hk:nE kd mk) (hz:∀ w,(zeroValue et).run c.P w=.ok z w) (hm:Take (bG mk b m) L M) (ok:Bool):
  QV c ds E L ⟨d,.lookup t x y ok,ty,pos,af,gd⟩ (if ok then .tuple #[(jZ m k).getD z,.bool (jZ m k).isSome] else(jZ m k).getD z):=
 ⟨by intro k;simp,fun a w hs=>by
  obtain⟨_,es,clock,he,hsat⟩:=map_some (hs.sat.take hm)
  have hb:=hsat.block (b:=b) .here
  have hck:=MapKept.run_checkKey (w:=w) hkt (hk.isKey k) es.isEmpty 9999
  rcases jM hk k m es.toList 0 he with⟨a1,a2,_⟩ | ⟨j,v,e,a1,a2,_⟩
  ·have hf:=MapKept.run_findKey (w:=w) hkt a1
   cases ok <;> simp[execOp,Instr.lookup,hs.ev hx,hs.ev hy,run_underlying ht,MapKept.run_getObj_map hb,hck,hf,hz,a2,Result.andThen]
  have hf:=MapKept.run_findKey (w:=w) hkt a1
  cases ok <;> simp[execOp,Instr.lookup,hs.ev hx,hs.ev hy,run_underlying ht,MapKept.run_getObj_map hb,hck,hf,a2,Result.andThen]⟩
theorem kn {gd:Option (Nat×Bool)} {t kt et:TypeId} {kd:TypeDesc} {x y:Operand} {b:Nat} {m:List (K×Value)} {M:List HP} {z:Value} {k:K} (hk:nE kd mk) (hx:ev E x=some (.map (some b))) (hy:ev E y=some (mk k)) (ht:c.P.underlying t=some (.map kt et)) (hkt:c.P.underlying kt=some kd)
  (hz:∀ w,(zeroValue et).run c.P w=.ok z w) (hm:Take (bG mk b m) L M):
  QV c ds E L ⟨d,.lookup t x y true,ty,pos,af,gd⟩ (.tuple #[(jZ m k).getD z,.bool (jZ m k).isSome]):=ur hx hy ht hkt hk hz hm true
theorem iX {gd:Option (Nat×Bool)} {t kt et:TypeId} {kd:TypeDesc} {x y:Operand} {b:Nat} {m:List (K×Value)} {M:List HP} {z:Value} {k:K} (hk:nE kd mk) (hx:ev E x=some (.map (some b))) (hy:ev E y=some (mk k)) (ht:c.P.underlying t=some (.map kt et)) (hkt:c.P.underlying kt=some kd)
  (hz:∀ w,(zeroValue et).run c.P w=.ok z w) (hm:Take (bG mk b m) L M):
  QV c ds E L ⟨d,.lookup t x y false,ty,pos,af,gd⟩ ((jZ m k).getD z):=ur hx hy ht hkt hk hz hm false
theorem qW {P:Program} {t kt et:TypeId} {kd:TypeDesc} {b:Nat} {m:List (K×Value)} {M:List HP} {k:K} {v:Value} {w:World} (ht:P.underlying t=some (.map kt et)) (hkt:P.underlying kt=some kd) (hk:nE kd mk) (h:Sat (stars (bG mk b m::M)) w):
  ∃ w',(Instr.mapUpdate t (.map (some b)) (mk k) v).run P w=.ok () w'/\Sat (stars (bG mk b (iE m k v)::M)) w'/\Ext w w':=by
 obtain⟨hd,es,clock,he,hsat⟩:=map_some h
 have hb:=hsat.block (b:=b) .here
 have hck:=MapKept.run_checkKey (w:=w) hkt (hk.isKey k) false 9999
 rcases jM hk k m es.toList 0 he with⟨a1,a2,a3⟩ | ⟨j,u,e,a1,a2,a3,a4,a5,a6,_⟩
 ·have hf:=MapKept.run_findKey (w:=w) hkt a1
  refine⟨w.putObj b (.map (es.push {key:=mk k,val:=v,born:=clock}) (clock+1)),?_,nW (nu hd k v) ?_ (Sat.putObj hsat _),(Ext.refl w).putObj _ _⟩
  ·simp[Instr.mapUpdate,run_underlying ht,MapKept.run_getObj_map hb,hck,hf,Result.andThen,MapKept.run_setObj_map _ hb,World.putObj]
  rw[a3];simp[he]
 have hf:=MapKept.run_findKey (w:=w) hkt a1
 rw[Nat.zero_add] at a1 hf
 have hj:es[j]?=some e:=by simpa using a3
 refine⟨w.putObj b (.map (es.modify j fun e=>{e with key:=mk k,val:=v}) clock),?_,nW (nu hd k v) ?_ (Sat.putObj hsat _),(Ext.refl w).putObj _ _⟩
 ·simp[Instr.mapUpdate,run_underlying ht,MapKept.run_getObj_map hb,hck,hf,Result.andThen,MapKept.run_setObj_map _ hb,World.putObj,hj,a4,Instr.keyThatStays,hk.bits]
 rw[a6,List.map_set,<- he]
 apply List.ext_getElem?
 intro i
 simp only[Array.toList_modify,List.getElem?_map,List.getElem?_modify,List.getElem?_set,List.length_map]
 by_cases q:j=i
 ·subst q
  have hlt:j < es.size:=(Array.getElem?_eq_some_iff.1 hj).1
  simp[hlt]
 simp[q]
theorem gl {t kt et:TypeId} {kd:TypeDesc} {x y z:Operand} {b:Nat} {m:List (K×Value)} {M:List HP} {k:K} {v:Value} (hk:nE kd mk) (hd:dn d c.N=true) (hx:ev E x=some (.map (some b))) (hy:ev E y=some (mk k)) (hz:ev E z=some v)
  (ht:c.P.underlying t=some (.map kt et)) (hkt:c.P.underlying kt=some kd) (hm:Take (bG mk b m) L M) (kk:TL c fin ds (gT d undef E) (bG mk b (iE m k v)::M) ops rest ks):
  TL c fin ds E L ops (⟨d,.mapUpdate t x y z,ty,pos,af,none⟩::rest) ks:=
 BC (X:=Unit) hd (by intro k;simp) (fun _=>bG mk b (iE m k v)::M) (fun a w hs=>by
  obtain⟨w',h1,h2,h3⟩:=qW (k:=k) (v:=v) ht hkt hk (hs.sat.take hm)
  exact⟨(),w',by simp[execOp,hs.ev hx,hs.ev hy,hs.ev hz,h1,Result.andThen],h2,h3⟩) fun _=>kk
theorem Bm {t kt et t2:TypeId} {kd:TypeDesc} {x y:Operand} {b:Nat} {m:List (K×Value)} {M:List HP} {k:K} (hk:nE kd mk) (hd:dn d c.N=true) (hx:ev E x=some (.map (some b))) (hy:ev E y=some (mk k))
  (ht:c.P.underlying t=some (.map kt et)) (hkt:c.P.underlying kt=some kd) (hm:Take (bG mk b m) L M) (kk:TL c fin ds (gT d (.tuple #[]) E) (bG mk b (k7 m k)::M) ops rest ks):
  TL c fin ds E L ops (⟨d,.call {callee:=.builtin .delete,args:=#[x,y],argTypes:=#[t,t2]},ty,pos,af,none⟩::rest) ks:=
 nk (X:=Unit) hd (by intro k;simp) (fun _=>.tuple #[]) (fun _=>bG mk b (k7 m k)::M) (fun a w hs=>by
  obtain⟨hdis,es,clock,he,hsat⟩:=map_some (hs.sat.take hm)
  have hb:=hsat.block (b:=b) .here
  have hck:=MapKept.run_checkKey (w:=w) hkt (hk.isKey k) es.isEmpty 9999
  rcases jM hk k m es.toList 0 he with⟨a1,a2,a3⟩ | ⟨j,u,e,a1,a2,a3,a4,a5,a6,a7⟩
  ·have hf:=MapKept.run_findKey (w:=w) hkt a1
   refine⟨(),w.putObj b (.map es clock),?_,nW (nv hdis k) ?_ (Sat.putObj hsat _),(Ext.refl w).putObj _ _⟩
   ·simp[execOp,resolve,invoke,builtin,Builtin.delete_,hs.ev hx,hs.ev hy,run_underlying ht,MapKept.run_getObj_map hb,hck,hf,Result.andThen,MapKept.run_setObj_map _ hb,World.putObj]
   have:k7 m k=m:=B5 a2
   rw[this];exact he
  have hf:=MapKept.run_findKey (w:=w) hkt a1
  rw[Nat.zero_add] at a1 hf
  have hlt:j < es.size:=by have:=(List.getElem?_eq_some_iff.1 a3).1;simpa using this
  refine⟨(),w.putObj b (.map (es.eraseIdxIfInBounds j) clock),?_,nW (nv hdis k) ?_ (Sat.putObj hsat _),(Ext.refl w).putObj _ _⟩
  ·simp[execOp,resolve,invoke,builtin,Builtin.delete_,hs.ev hx,hs.ev hy,run_underlying ht,MapKept.run_getObj_map hb,hck,hf,Result.andThen,MapKept.run_setObj_map _ hb,World.putObj]
  rw[a7,nX,<- he,<- nX]
  simp[Array.eraseIdxIfInBounds,hlt]) fun _=>kk
end
end Eng
end Go.Proofs.YthkajgkagnenbaaGreatDoor
