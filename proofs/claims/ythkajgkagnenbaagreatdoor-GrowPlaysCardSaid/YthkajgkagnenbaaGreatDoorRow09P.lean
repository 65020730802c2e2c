import Derived.Test.YthkajgkagnenbaaGreatDoorRows
import Derived.WalkKit
import Derived.ProofKit
import Derived.OpenShut
import Derived.ShutString
import Derived.ChangeOld
import Derived.Below
import Derived.Carry
import Derived.SizedLaws
import Derived.LaidMore
import Derived.Lay
import Derived.Stop.Joined
import Derived.Test.YthkajgkagnenbaaGreatDoorGpZ
set_option linter.unusedVariables false
set_option linter.unusedSimpArgs false
set_option linter.unusedSectionVars false
set_option maxRecDepth 100000
namespace Go.Proofs.YthkajgkagnenbaaGreatDoor
section
namespace RowKit
open Go.ChangeShapes Go.WideShapes Go.ChangeAt Go.RowKit Go.Proofs Eng Ref03 Ctrl CtrlB
theorem laidOut:laidOutB Tryz.prog=true:=by kernel_rfl
theorem nB {W:World} {a:Addr} {v:Value} (h:W.cell? a=some v):dt (Eng.old W) a v:=fun w hs=>by
 obtain⟨f,hi,rfl⟩:=hs
 have hb:∃ o,W.heap[a.block]?=some o:=by
  cases e:W.heap[a.block]? with
  | some o=>exact⟨o,rfl⟩
  | none=>simp[World.cell?,e] at h
 obtain⟨o,ho⟩:=hb
 have:=hi a.block o ho
 rw[World.cell?_of_block (w:=W) (by rw[this,ho])]
 exact h
theorem FO {P:Program} {f:FuncId} {args:Array Value} {v0:Value} {W:World} (h:aK P f args [Eng.old W] fun v L=>v=v0/\L= [Eng.old W]):Calls P f args W fun e W'=>e=.returned v0/\Below W.heap.size W W':=by
 have hs:Sat (stars ([Eng.old W] ++ [])) W:=by
  obtain⟨f,hi,e⟩:=Sat.old W
  exact⟨f,hi,f,Part.none,e,rfl,Part.disj_none _,(Part.join_none _).symm⟩
 refine(callsIn_wide (n:=0)).1 ((h.calls [] W W hs (Ext.refl W)).mono ?_)
 rintro e W' ⟨v,L',rfl,⟨rfl,rfl⟩,hs',he'⟩
 exact⟨rfl,tm hs'.left he'⟩
section
variable {H:Type} {enc:TypeId×Value->H} {P:Program} {W:World} {base:Nat} {held:Bool}
theorem Bo {t e:TypeId} {k:IntKind} {fuel:Nat} {cs:List Value} {x:DataW H×List MemPlace} (ht:P.underlying t=some (.slice e)) (he:P.underlying e=some (.int k)) (hc:P.cellsOf e=1)
  (h:DataW.trod enc P W base (fun _=>true) held fuel t cs=some x):∃ v xs,cs= [v]/\xy k (Eng.old W) v xs/\(∀ n∈xs,(Lit.int k n).wf=true)/\xs.length<=maxLen:=by
 rcases open_ints ht he hc h with⟨rfl,_⟩ | ⟨a,len,cap,zs,rfl,_,hl,hm,hz,_,hcell,hwf⟩
 ·exact⟨_,[],rfl,⟨none,0,rfl,fun q=>by simp at q⟩,by simp,by simp[maxLen]⟩
 simp only[if_true] at hz
 have hlen:(zs.take len).length=len:=by simp;omega
 refine⟨_,zs.take len,rfl,⟨some a,cap,by rw[hlen],fun q=>?_⟩,fun n hn=>hwf n (List.mem_of_mem_take hn),by omega⟩
 obtain⟨b,o,rfl,hp⟩:=ints_at hcell (by omega)
 refine⟨b,o,rfl,fun i x hx=>nB ?_⟩
 rw[List.getElem?_take] at hx
 split at hx
 ·have hi:i < zs.length:=by omega
  rw[hp i hi,List.getD,hx];rfl
 cases hx
end
theorem G3 : Tryz.prog.globalNamed "math/bits.deBruijn64tab" = some 1 := by kernel_rfl
theorem Jw:(Tryz.prog.globals[1]?).map (·.type)=some 304:=by kernel_rfl
theorem AI:(Rows.laid_math_bits_deBruijn64tab:DataW Unit)=.agg (F3.map fun n=>.lit (.int .u8 (n:Nat))):=by kernel_rfl
theorem Fk {W : World} {enc : TypeId × Value -> Unit} {g : Nat} {t : TypeId} {cs : Array Value} {fuel : Nat} {p : List MemPlace} {held : Bool} {sp : Nat -> Bool} (hg : Tryz.prog.globalNamed "math/bits.deBruijn64tab" = some g) (ht : (Tryz.prog.globals[g]?).map (·.type) = some t)
  (hv : W.var? Tryz.prog "math/bits.deBruijn64tab" = some cs) (hd : DataW.trod enc Tryz.prog W 0 sp held fuel t cs.toList = some (Rows.laid_math_bits_deBruijn64tab, p)) : dR (Eng.old W) := fun i b hb => nB (by
 obtain rfl:=Option.some.inj (G3.symm.trans hg)
 obtain rfl:=Option.some.inj (Jw.symm.trans ht)
 rw[AI] at hd
 obtain⟨xs,m,_,ex,_,hl,hel⟩:=DataW.trod_array Tryz.underlying304 hd
 have c5:Tryz.prog.cellsOf 5=1:=by kernel_rfl
 have hlen:F3.length=64:=by kernel_rfl
 have hi:i < 64:=by rw[<- hlen];exact(List.getElem?_eq_some_iff.1 hb).1
 have hE:=hel i hi
 rw[c5,Nat.mul_one,List.getElem?_eq_getElem (by omega)] at hE
 obtain⟨z,e1,e2,_⟩:=DataW.trod_int Tryz.underlying5 hE
 have e3:(xs.map (·.1))=F3.map fun n=>.lit (.int .u8 (n:Nat)):=(DataW.agg.inj (Prod.mk.inj ex).1).symm
 have e4:(xs.map (·.1))[i]?=(F3.map fun n=>(DataW.lit (.int .u8 (n:Nat)):DataW Unit))[i]?:=by rw[e3]
 rw[List.getElem?_map,List.getElem?_map,List.getElem?_eq_getElem (by omega:i < xs.length),hb,e2] at e4
 have hz:z=(b:Nat):=by simpa using e4
 rw[World.var?_cell G3 hv i,<- hz]
 have h0:((cs.toList.drop i).take 1)[0]?=some (.int .u8 z):=by rw[e1];rfl
 simpa using h0)
end RowKit
end
section
namespace RowKit
open Go.ChangeShapes Go.WideShapes Go.ChangeAt Go.RowKit Go.Proofs Eng
section
variable {H:Type} {enc:TypeId×Value->H} {P:Program} {W:World} {base:Nat} {held:Bool}
def Ct (A:HP) (sz:Nat) (v:Value) (rows:List (List Value)):Prop:=∃ a cap,v=.slice a rows.length cap/\(0 < rows.length->∃ b o,a=some ⟨b,o,none⟩/\∀(i:Nat) r,rows[i]?=some r->∀(j:Nat) x,r[j]?=some x->dt A ⟨b,o+i*sz+j,none⟩ x)/\(a=none->cap=0/\rows= [])
theorem ry {t e:TypeId} {sz fuel:Nat} {sp:Nat->Bool} {cs:List Value} {x:DataW H×List MemPlace} (ht:P.underlying t=some (.slice e)) (hc:P.cellsOf e=sz) (hsz:0 < sz)
  (h:DataW.trod enc P W base sp held fuel t cs=some x):∃ v rows,cs= [v]/\Ct (Eng.old W) sz v rows/\rows.length<=maxLen/\∀ r∈rows,∃ m y,DataW.trod enc P W base sp held m e r=some y/\∀ es sp',x.1=.slice es sp'->y.1∈es:=by
 rcases DataW.trod_slice ht h with⟨rfl,_⟩ | ⟨a,len,cap,elems,rest,n,_,rfl,rfl,hb,hl,hm,hlen,hel,_,_⟩
 ·exact⟨_,[],rfl,⟨none,0,rfl,fun q=>(by simp at q),fun _=>⟨rfl,rfl⟩⟩,by simp,by simp⟩
 rw[hc] at hel
 have each:∀ i,i < len->∃ r,W.cells? base (a.add (i*sz)) sz=some r/\∃ y,DataW.trod enc P W base sp held n e r=some y/\y.1∈elems.map (·.1):=fun i hi=>by
  have h1:=hel i hi
  rw[List.getElem?_eq_getElem (by omega),Option.bind_eq_some_iff] at h1
  obtain⟨r,h2,h3⟩:=h1
  exact⟨r,h2,_,h3,List.mem_map.2 ⟨_,List.getElem_mem _,rfl⟩⟩
 have hr:∀ i,i < len->((List.range len).map fun i=>(W.cells? base (a.add (i*sz)) sz).getD [])[i]?=W.cells? base (a.add (i*sz)) sz:=fun i hi=>by
  obtain⟨r,h2,_⟩:=each i hi
  rw[List.getElem?_map,List.getElem?_range hi,Option.map_some,h2];rfl
 refine⟨_,(List.range len).map fun i=>(W.cells? base (a.add (i*sz)) sz).getD [],rfl,⟨some a,cap,by simp,fun q=>?_,fun e=>by cases e⟩,by simp;omega,fun r hr'=>?_⟩
 ·have q0:0 < len:=by simpa using q
  obtain⟨b,o,spot⟩:=a
  have hspot:spot=none:=by
   obtain⟨r,h2,_⟩:=each 0 q0
   obtain⟨_,hlr,hcell⟩:=World.cells?_some h2
   have h3:=hcell 0 (by omega)
   rw[List.getElem?_eq_getElem (by omega)] at h3
   simpa [Addr.add] using World.cell?_spot h3
  subst hspot
  refine⟨b,o,rfl,fun i r hir j x hx=>nB ?_⟩
  have hi:i < len:=by have:=(List.getElem?_eq_some_iff.1 hir).1;simpa using this
  rw[hr i hi] at hir
  obtain⟨_,hlr,hcell⟩:=World.cells?_some hir
  have hj:j < sz:=by have:=(List.getElem?_eq_some_iff.1 hx).1;omega
  have h3:=hcell j hj
  rw[hx] at h3
  rw[<- h3,dr,dr]
 obtain⟨i,hi⟩:=List.getElem?_of_mem hr'
 have hil:i < len:=by have:=(List.getElem?_eq_some_iff.1 hi).1;simpa using this
 obtain⟨r',h2,y,h3,h4⟩:=each i hil
 rw[hr i hil,h2] at hi
 cases hi
 exact⟨n,y,h3,fun es sp' e=>by cases e;exact h4⟩
theorem AY {t e:TypeId} {sz fuel:Nat} {sp:Nat->Bool} {cs:List Value} {x:DataW H×List MemPlace} (ht:P.underlying t=some (.slice e)) (hc:P.cellsOf e=sz) (hsz:0 < sz)
  (h:DataW.trod enc P W base sp held fuel t cs=some x):∃ v rows,cs= [v]/\Ct (Eng.old W) sz v rows/\rows.length<=maxLen/\∀ r∈rows,∃ m y,DataW.trod enc P W base sp held m e r=some y:=by
 obtain⟨v,rows,h1,h2,h3,h4⟩:=ry ht hc hsz h
 exact⟨v,rows,h1,h2,h3,fun r hr=>(h4 r hr).elim fun m h=>⟨m,h.elim fun y h=>⟨y,h.1⟩⟩⟩
theorem pJ {A:Type} {f:A->List Value} {Q:A->Prop}:∀(rows:List (List Value)),(∀ r∈rows,∃ a,r=f a/\Q a)->∃ ys:List A,rows=ys.map f/\∀ a∈ys,Q a
 | [],_=>⟨[],rfl,by simp⟩
 | r::rows,h=>by
  obtain⟨a,rfl,hq⟩:=h r (by simp)
  obtain⟨ys,rfl,hqs⟩:=pJ rows fun r hr=>h r (by simp[hr])
  exact⟨a::ys,rfl,by simpa using ⟨hq,hqs⟩⟩
end
end RowKit
end
section
namespace RowKit
open Go.ChangeShapes Go.WideShapes Go.ChangeAt Go.RowKit Go.Proofs Eng Ctrl Oracle
theorem G4 : Tryz.prog.globalNamed "larder/oracle.odd" = some 0 := by kernel_rfl
theorem Jy:(Tryz.prog.globals[0]?).map (·.type)=some 294:=by kernel_rfl
theorem FA {W : World} {enc : TypeId × Value -> Unit} {g : Nat} {t : TypeId} {cs : Array Value} {fuel : Nat} {p : List MemPlace} {held : Bool} {sp : Nat -> Bool} (hg : Tryz.prog.globalNamed "larder/oracle.odd" = some g) (ht : (Tryz.prog.globals[g]?).map (·.type) = some t)
  (hv : W.var? Tryz.prog "larder/oracle.odd" = some cs) (hd : DataW.trod enc Tryz.prog W 0 sp held fuel t cs.toList = some (Rows.laid_larder_oracle_odd, p)) : fR (Eng.old W) := by
 obtain rfl:=Option.some.inj (G4.symm.trans hg)
 obtain rfl:=Option.some.inj (Jy.symm.trans ht)
 obtain⟨xs,m,_,ex,_,hl,hel⟩:=DataW.trod_array Tryz.underlying294 hd
 have c5:Tryz.prog.cellsOf 27=1:=by kernel_rfl
 have e3:(xs.map (·.1))= [.lit (.int .u64 13234230157428861123),.lit (.int .u64 11329751410908088055)]:=(DataW.agg.inj (Prod.mk.inj ex).1).symm
 have key:∀ i (hi:i < 2) n,(xs.map (·.1))[i]?=some (DataW.lit (.int .u64 n))->dt (Eng.old W) ⟨0,i,none⟩ (.int .u64 n):=fun i hi n hn=>nB (by
  have hE:=hel i hi
  rw[c5,Nat.mul_one,List.getElem?_eq_getElem (by omega)] at hE
  obtain⟨z,e1,e2,_⟩:=DataW.trod_int Tryz.underlying27 hE
  rw[List.getElem?_map,List.getElem?_eq_getElem (by omega:i < xs.length),Option.map_some,e2] at hn
  have hz:z=n:=by simpa using hn
  rw[World.var?_cell G4 hv i,<- hz]
  have h0:((cs.toList.drop i).take 1)[0]?=some (.int .u64 z):=by rw[e1];rfl
  simpa using h0)
 exact⟨key 0 (by decide) _ (by rw[e3];rfl),key 1 (by decide) _ (by rw[e3];rfl)⟩
theorem zh {W : World} (h : laidMetH Tryz.prog [("larder/oracle.odd", Rows.laid_larder_oracle_odd), ("math/bits.deBruijn64tab", Rows.laid_math_bits_deBruijn64tab)] W) : fR (Eng.old W) /\ dR (Eng.old W) := by
 rw[MakeChecks.laidMetH_plain _ _ _ (by kernel_rfl)] at h
 obtain⟨ps,⟨g,t,cs,fuel,p,q,hg,ht,hv,hd,⟨g',t',cs',fuel',p',q',hg',ht',hv',hd',_,_⟩,_⟩,_,_⟩:=h
 exact⟨FA hg ht hv hd,Fk hg' ht' hv' hd'⟩
theorem yX {H:Type} {enc:TypeId×Value->H} {W:World} {base:Nat} {held:Bool} {fuel:Nat} {sp:Nat->Bool} {cs:List Value} {x:DataW H×List MemPlace}
  (h:DataW.trod enc Tryz.prog W base sp held fuel 52 cs=some x):∃ v os,cs= [v]/\jR (Eng.old W) v os/\(∀ n c,v=.slice none n c->c=0/\os= [])/\∀ o∈os,0<=o.2/\o.2 < 18446744073709551616:=by
 obtain⟨v,rows,rfl,hR,hm,hrow⟩:=AY (sz:=2) Tryz.underlying52 (by kernel_rfl) (by decide) h
 have c3:Tryz.prog.cellsOf 9=1:=by kernel_rfl
 have c4:Tryz.prog.cellsOf 27=1:=by kernel_rfl
 obtain⟨os,rfl,hw⟩:=pJ (f:=gK) (Q:=fun o=>0<=o.2/\o.2 < 18446744073709551616) rows fun r hr=>by
  obtain⟨m,y,hy⟩:=hrow r hr
  obtain⟨xs,m',_,_,hcl,hxl,hfld⟩:=DataW.trod_struct Tryz.underlying134 hy
  have hx3:xs.length=2:=hxl
  have f0:DataW.trod enc Tryz.prog W base sp held m' 9 ((r.drop 0).take (Tryz.prog.cellsOf 9))=xs[0]?:=hfld 0 _ rfl
  have f1:DataW.trod enc Tryz.prog W base sp held m' 27 ((r.drop 1).take (Tryz.prog.cellsOf 27))=xs[1]?:=hfld 1 _ rfl
  rw[c3,List.getElem?_eq_getElem (by omega)] at f0
  rw[c4,List.getElem?_eq_getElem (by omega)] at f1
  obtain⟨z0,e0,_,_⟩:=DataW.trod_string Tryz.underlying9 f0
  obtain⟨z1,e1,_,w1⟩:=DataW.trod_int Tryz.underlying27 f1
  have hl3:r.length=2:=hcl.trans (by kernel_rfl)
  match r,hl3 with
  | [a,b],_=>
   refine⟨(z0,z1),?_,wf_u64 w1⟩
   simp at e0 e1
   rw[e0,e1];rfl
 obtain⟨a,cap,rfl,hA,hnil⟩:=hR
 refine⟨_,os,rfl,⟨a,cap,by rw[List.length_map],fun q=>?_⟩,fun n c e=>?_,hw⟩
 ·obtain⟨b,o,rfl,hA1⟩:=hA (by simpa using q)
  exact⟨b,o,rfl,fun i t ht j x hx=>hA1 i (gK t) (by rw[List.getElem?_map,ht];rfl) j x hx⟩
 cases e
 obtain⟨h1,h2⟩:=hnil rfl
 exact⟨h1,by simpa using h2⟩
end RowKit
end
section
namespace RowKit
open Go.ChangeShapes Go.WideShapes Go.ChangeAt Go.RowKit Go.Proofs Eng Ref03 Plays Oracle
theorem AZ {H:Type} {enc:TypeId×Value->H} {P:Program} {W:World} {base fuel:Nat} {held:Bool} {sp:Nat->Bool} {t e:TypeId} {a:Option Addr} {n cap:Nat} {x:DataW H×List MemPlace} (ht:P.underlying t=some (.slice e))
  (h:DataW.trod enc P W base sp held fuel t [.slice a n cap]=some x):n=0\/∃ es sp',x.1=.slice es sp'/\es.length=n:=by
 rcases DataW.trod_slice ht h with⟨e1,_⟩ | ⟨a',len,cap',elems,rest,m,_,e1,rfl,_,_,_,hlen,_⟩
 ·cases e1;exact .inl rfl
 cases e1;exact .inr ⟨_,_,rfl,by simpa using hlen⟩
theorem oq {H:Type} {P:Program} {e:TypeId}:∀ {ds:List (DataW H)} {d:DataW H},d∈ds->∀ n∈d.weights P e,n∈DataW.weightsAll P e ds
 | d0::ds,d,hd,n,hn=>by
  simp only[DataW.weightsAll,List.mem_append]
  rcases List.mem_cons.1 hd with rfl | hd
  ·exact .inl hn
  exact .inr (oq hd n hn)
theorem yE {H:Type} {P:Program} {ts:List TypeId} {ds:List (DataW H)} (h:(DataW.weightsEach P ts ds).all (·<=reachBytes)=true) {j i:Nat} {t e u:TypeId} {fs:Array Field} {parts elems spare:List (DataW H)} {bytes:List UInt8}
  (ht:ts[j]?=some t) (hd:ds[j]?=some (.slice elems spare)) (hs:P.underlying t=some (.slice e)) (hm:.agg parts∈elems) (hu:P.underlying e=some (.struct fs)) (hi:(fs.toList.map (·.type))[i]?=some u) (hp:parts[i]?=some (.lit (.string bytes))):bytes.length<=reachBytes:=by
 refine of_decide_eq_true (List.all_eq_true.1 h _ (DataW.weights_mem_each ht hd _ ?_))
 simp only[DataW.weights,hs]
 refine List.mem_cons_of_mem _ (List.mem_append_left _ (oq hm _ ?_))
 simp only[DataW.weights,hu]
 exact DataW.weights_mem_each hi hp _ (by simp[DataW.weights])
theorem Bi {H:Type} {enc:TypeId×Value->H} {W:World} {base:Nat} {held:Bool} {fuel:Nat} {sp:Nat->Bool} {cs:List Value} {x:DataW H×List MemPlace}
  (h:DataW.trod enc Tryz.prog W base sp held fuel 84 cs=some x):∃ v os,cs= [v]/\CG (Eng.old W) v os/\os.length<=maxLen/\(∀ o:yo,o∈os->(o.key.size<=140737488351232->o.wf)/\∀ es sp',x.1=.slice es sp'->∃ parts,DataW.agg parts∈es/\parts[4]?=some (.lit (.string o.key.data.toList)))/\(os.length=0\/∃ es sp',x.1=.slice es sp'/\es.length=os.length):=by
 obtain⟨v,rows,rfl,hR,hm,hrow⟩:=ry (sz:=6) Tryz.underlying84 (by kernel_rfl) (by decide) h
 have c3:Tryz.prog.cellsOf 3=1:=by kernel_rfl
 have c5:Tryz.prog.cellsOf 9=1:=by kernel_rfl
 obtain⟨os,rfl,hw⟩:=pJ (f:=Bj) (Q:=fun o:yo=>(o.key.size<=140737488351232->o.wf)/\∀ es sp',x.1=.slice es sp'->∃ parts,DataW.agg parts∈es/\parts[4]?=some (.lit (.string o.key.data.toList))) rows fun r hr=>by
  obtain⟨m,y,hy,hmem⟩:=hrow r hr
  obtain⟨xs,m',_,ey,hcl,hxl,hfld⟩:=DataW.trod_struct Tryz.underlying90 hy
  have hx6:xs.length=6:=hxl
  have f0:DataW.trod enc Tryz.prog W base sp held m' 3 ((r.drop 0).take (Tryz.prog.cellsOf 3))=xs[0]?:=hfld 0 _ rfl
  have f1:DataW.trod enc Tryz.prog W base sp held m' 3 ((r.drop 1).take (Tryz.prog.cellsOf 3))=xs[1]?:=hfld 1 _ rfl
  have f2:DataW.trod enc Tryz.prog W base sp held m' 3 ((r.drop 2).take (Tryz.prog.cellsOf 3))=xs[2]?:=hfld 2 _ rfl
  have f3:DataW.trod enc Tryz.prog W base sp held m' 3 ((r.drop 3).take (Tryz.prog.cellsOf 3))=xs[3]?:=hfld 3 _ rfl
  have f4:DataW.trod enc Tryz.prog W base sp held m' 9 ((r.drop 4).take (Tryz.prog.cellsOf 9))=xs[4]?:=hfld 4 _ rfl
  have f5:DataW.trod enc Tryz.prog W base sp held m' 9 ((r.drop 5).take (Tryz.prog.cellsOf 9))=xs[5]?:=hfld 5 _ rfl
  rw[c3,List.getElem?_eq_getElem (by omega)] at f0 f1 f2 f3
  rw[c5,List.getElem?_eq_getElem (by omega)] at f4 f5
  obtain⟨z0,e0,_,w0⟩:=DataW.trod_int Tryz.underlying3 f0
  obtain⟨z1,e1,_,w1⟩:=DataW.trod_int Tryz.underlying3 f1
  obtain⟨z2,e2,_,w2⟩:=DataW.trod_int Tryz.underlying3 f2
  obtain⟨z3,e3,_,w3⟩:=DataW.trod_int Tryz.underlying3 f3
  obtain⟨z4,e4,x4,w4⟩:=DataW.trod_string Tryz.underlying9 f4
  obtain⟨z5,e5,_,w5⟩:=DataW.trod_string Tryz.underlying9 f5
  have hl6:r.length=6:=hcl.trans (by kernel_rfl)
  match r,hl6 with
  | [a,b,c,d,e,f],_=>
   refine⟨⟨z0,z1,z2,z3,z4,z5⟩,?_,fun hk=>⟨wf_i64 w0,wf_i64 w1,wf_i64 w2,wf_i64 w3,hk⟩,fun es sp' he=>⟨xs.map (·.1),by have:=hmem es sp' he;rw[ey] at this;exact this,?_⟩⟩
   ·simp at e0 e1 e2 e3 e4 e5
    rw[e0,e1,e2,e3,e4,e5]
   rw[List.getElem?_map,List.getElem?_eq_getElem (by omega),Option.map_some,x4]
 obtain⟨a,cap,rfl,hA,_⟩:=hR
 refine⟨_,os,rfl,⟨a,cap,by rw[List.length_map],fun q=>?_⟩,by simpa using hm,hw,by simpa using AZ Tryz.underlying84 h⟩
 obtain⟨b,o,rfl,hA1⟩:=hA (by simpa using q)
 exact⟨b,o,rfl,fun i t ht j x hx=>hA1 i (Bj t) (by rw[List.getElem?_map,ht];rfl) j x hx⟩
theorem wa {H:Type} {enc:TypeId×Value->H} {W:World} {base:Nat} {held:Bool} {fuel:Nat} {sp:Nat->Bool} {cs:Array Value} {x:DataW H×List MemPlace} (hcs:cs.toList.length=Tryz.prog.cellsOf 83) (hsp:sp=fun _=>true)
  (h:DataW.trod enc Tryz.prog W base sp held fuel 83 cs.toList=some x):∃ vf vo lim sd xs os,cs=#[.int .i64 lim,vo,.int .u64 sd,vf]/\qN (Eng.old W) vf xs/\jR (Eng.old W) vo os/\(∀ o∈os,0<=o.2/\o.2 < 18446744073709551616)/\0<=sd/\sd < 18446744073709551616:=by
 subst hsp
 have c25:Tryz.prog.cellsOf 83=4:=by kernel_rfl
 have c22:Tryz.prog.cellsOf 22=1:=by kernel_rfl
 have c3:Tryz.prog.cellsOf 3=1:=by kernel_rfl
 have c4:Tryz.prog.cellsOf 27=1:=by kernel_rfl
 have c56:Tryz.prog.cellsOf 52=1:=by kernel_rfl
 obtain⟨a,b,c,d,rfl⟩:∃ a b c d,cs=#[a,b,c,d]:=by
  rw[c25] at hcs
  obtain⟨l⟩:=cs
  match l,hcs with
  | [a,b,c,d],_=>exact⟨a,b,c,d,rfl⟩
 obtain⟨xs,m,_,ex,_,hxl,hfld⟩:=DataW.trod_struct Tryz.underlying83 h
 have hx4:xs.length=4:=hxl
 have f0:DataW.trod enc Tryz.prog W base (fun _=>true) held m 3 (((#[a,b,c,d]:Array Value).toList.drop 0).take (Tryz.prog.cellsOf 3))=xs[0]?:=hfld 0 _ rfl
 rw[c3,List.getElem?_eq_getElem (by omega)] at f0
 have f1:DataW.trod enc Tryz.prog W base (fun _=>true) held m 52 (((#[a,b,c,d]:Array Value).toList.drop 1).take (Tryz.prog.cellsOf 52))=xs[1]?:=hfld 1 _ rfl
 rw[c56,List.getElem?_eq_getElem (by omega)] at f1
 have f2:DataW.trod enc Tryz.prog W base (fun _=>true) held m 27 (((#[a,b,c,d]:Array Value).toList.drop 2).take (Tryz.prog.cellsOf 27))=xs[2]?:=hfld 2 _ rfl
 rw[c4,List.getElem?_eq_getElem (by omega)] at f2
 have f3:DataW.trod enc Tryz.prog W base (fun _=>true) held m 22 (((#[a,b,c,d]:Array Value).toList.drop 3).take (Tryz.prog.cellsOf 22))=xs[3]?:=hfld 3 _ rfl
 rw[c22,List.getElem?_eq_getElem (by omega)] at f3
 obtain⟨z0,e0,_,w0⟩:=DataW.trod_int Tryz.underlying3 f0
 obtain⟨vo,os,e1,hov,_,how⟩:=yX f1
 obtain⟨z2,e2,_,w2⟩:=DataW.trod_int Tryz.underlying27 f2
 obtain⟨vf,zs,e3,hnum,_,_⟩:=Bo Tryz.underlying22 Tryz.underlying3 c3 f3
 obtain rfl:a=.int .i64 z0:=by simpa using e0
 obtain rfl:b=vo:=by simpa using e1
 obtain rfl:c=.int .u64 z2:=by simpa using e2
 obtain rfl:d=vf:=by simpa using e3
 exact⟨d,b,z0,z2,zs,os,rfl,hnum,hov,how,wf_u64 w2⟩
end RowKit
end
end Go.Proofs.YthkajgkagnenbaaGreatDoor
