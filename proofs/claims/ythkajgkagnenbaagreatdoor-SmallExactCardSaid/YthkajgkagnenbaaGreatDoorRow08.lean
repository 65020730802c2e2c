import Derived.Test.YthkajgkagnenbaaGreatDoorRows
import Derived.WalkKit
import Derived.ProofKit
import Derived.OpenShut
import Derived.ShutString
import Derived.ChangeOld
import Derived.Below
import Derived.Carry
import Derived.SizedLaws
import Derived.LaidMore
import Derived.Lay
import Derived.Stop.Joined
import Derived.Test.YthkajgkagnenbaaGreatDoorExact11C
set_option linter.unusedVariables false
set_option linter.unusedSimpArgs false
set_option linter.unusedSectionVars false
namespace Go.Proofs.YthkajgkagnenbaaGreatDoor
section
set_option maxRecDepth 100000
namespace RowKit
open Go.ChangeShapes Go.WideShapes Go.ChangeAt Go.RowKit Go.Proofs Eng Ref03 Ctrl CtrlB
theorem laidOut:laidOutB Tryz.prog=true:=by kernel_rfl
theorem mG {W:World} {a:Addr} {v:Value} (h:W.cell? a=some v):cr (Eng.old W) a v:=fun w hs=>by
 obtain⟨f,hi,rfl⟩:=hs
 have hb:∃ o,W.heap[a.block]?=some o:=by
  cases e:W.heap[a.block]? with
  | some o=>exact⟨o,rfl⟩
  | none=>simp[World.cell?,e] at h
 obtain⟨o,ho⟩:=hb
 have:=hi a.block o ho
 rw[World.cell?_of_block (w:=W) (by rw[this,ho])]
 exact h
theorem DJ {P:Program} {f:FuncId} {args:Array Value} {v0:Value} {W:World} (h:aG P f args [Eng.old W] fun v L=>v=v0∧L= [Eng.old W]):Calls P f args W fun e W'=>e=.returned v0∧Below W.heap.size W W':=by
 have hs:Sat (stars ([Eng.old W] ++ [])) W:=by
  obtain⟨f,hi,e⟩:=Sat.old W
  exact⟨f,hi,f,Part.none,e,rfl,Part.disj_none _,(Part.join_none _).symm⟩
 refine(callsIn_wide (n:=0)).1 ((h.calls [] W W hs (Ext.refl W)).mono ?_)
 rintro e W' ⟨v,L',rfl,⟨rfl,rfl⟩,hs',he'⟩
 exact⟨rfl,rZ hs'.left he'⟩
section
variable {H:Type} {enc:TypeId×Value→H} {P:Program} {W:World} {base:Nat} {held:Bool}
theorem zv {t e:TypeId} {k:IntKind} {fuel:Nat} {cs:List Value} {x:DataW H×List MemPlace} (ht:P.underlying t=some (.slice e)) (he:P.underlying e=some (.int k)) (hc:P.cellsOf e=1)
  (h:DataW.trod enc P W base (fun _=>true) held fuel t cs=some x):∃ v xs,cs= [v]∧AX k (Eng.old W) v xs∧(∀ n∈xs,(Lit.int k n).wf=true)∧xs.length≤maxLen:=by
 rcases open_ints ht he hc h with⟨rfl,_⟩ | ⟨a,len,cap,zs,rfl,_,hl,hm,hz,_,hcell,hwf⟩
 ·exact⟨_,[],rfl,⟨none,0,rfl,fun q=>by simp at q⟩,by simp,by simp[maxLen]⟩
 simp only[if_true] at hz
 have hlen:(zs.take len).length=len:=by simp;omega
 refine⟨_,zs.take len,rfl,⟨some a,cap,by rw[hlen],fun q=>?_⟩,fun n hn=>hwf n (List.mem_of_mem_take hn),by omega⟩
 obtain⟨b,o,rfl,hp⟩:=ints_at hcell (by omega)
 refine⟨b,o,rfl,fun i x hx=>mG ?_⟩
 rw[List.getElem?_take] at hx
 split at hx
 ·have hi:i < zs.length:=by omega
  rw[hp i hi,List.getD,hx];rfl
 cases hx
end
theorem EP : Tryz.prog.globalNamed "math/bits.deBruijn64tab" = some 1 := by kernel_rfl
theorem G9:(Tryz.prog.globals[1]?).map (·.type)=some 304:=by kernel_rfl
theorem yS:(Rows.laid_math_bits_deBruijn64tab:DataW Unit)=.agg (dbt.map fun n=>.lit (.int .u8 (n:Nat))):=by kernel_rfl
theorem Di {W : World} {enc : TypeId × Value → Unit} {g : Nat} {t : TypeId} {cs : Array Value} {fuel : Nat} {p : List MemPlace} {held : Bool} {sp : Nat → Bool} (hg : Tryz.prog.globalNamed "math/bits.deBruijn64tab" = some g) (ht : (Tryz.prog.globals[g]?).map (·.type) = some t)
  (hv : W.var? Tryz.prog "math/bits.deBruijn64tab" = some cs) (hd : DataW.trod enc Tryz.prog W 0 sp held fuel t cs.toList = some (Rows.laid_math_bits_deBruijn64tab, p)) : dx (Eng.old W) := fun i b hb => mG (by
 obtain rfl:=Option.some.inj (EP.symm.trans hg)
 obtain rfl:=Option.some.inj (G9.symm.trans ht)
 rw[yS] at hd
 obtain⟨xs,m,_,ex,_,hl,hel⟩:=DataW.trod_array Tryz.underlying304 hd
 have c5:Tryz.prog.cellsOf 5=1:=by kernel_rfl
 have hlen:dbt.length=64:=by kernel_rfl
 have hi:i < 64:=by rw[← hlen];exact(List.getElem?_eq_some_iff.1 hb).1
 have hE:=hel i hi
 rw[c5,Nat.mul_one,List.getElem?_eq_getElem (by omega)] at hE
 obtain⟨z,e1,e2,_⟩:=DataW.trod_int Tryz.underlying5 hE
 have e3:(xs.map (·.1))=dbt.map fun n=>.lit (.int .u8 (n:Nat)):=(DataW.agg.inj (Prod.mk.inj ex).1).symm
 have e4:(xs.map (·.1))[i]?=(dbt.map fun n=>(DataW.lit (.int .u8 (n:Nat)):DataW Unit))[i]?:=by rw[e3]
 rw[List.getElem?_map,List.getElem?_map,List.getElem?_eq_getElem (by omega:i < xs.length),hb,e2] at e4
 have hz:z=(b:Nat):=by simpa using e4
 rw[World.var?_cell EP hv i,← hz]
 have h0:((cs.toList.drop i).take 1)[0]?=some (.int .u8 z):=by rw[e1];rfl
 simpa using h0)
end RowKit
end
section
set_option maxRecDepth 100000
namespace RowKit
open Go.ChangeShapes Go.WideShapes Go.ChangeAt Go.RowKit Go.Proofs Eng Ref03 Ctrl CtrlB
section
variable {H:Type} {enc:TypeId×Value→H} {P:Program} {W:World} {base:Nat} {held:Bool}
def DW (A:HP) (sz:Nat) (v:Value) (rows:List (List Value)):Prop:=∃ a cap,v=.slice a rows.length cap∧(0 < rows.length→∃ b o,a=some ⟨b,o,none⟩∧∀(i:Nat) r,rows[i]?=some r→∀(j:Nat) x,r[j]?=some x→cr A ⟨b,o+i*sz+j,none⟩ x)∧(a=none→cap=0∧rows= [])
theorem sU {t e:TypeId} {sz fuel:Nat} {sp:Nat→Bool} {cs:List Value} {x:DataW H×List MemPlace} (ht:P.underlying t=some (.slice e)) (hc:P.cellsOf e=sz) (hsz:0 < sz)
  (h:DataW.trod enc P W base sp held fuel t cs=some x):∃ v rows,cs= [v]∧DW (Eng.old W) sz v rows∧rows.length≤maxLen∧∀ r∈rows,∃ m y,DataW.trod enc P W base sp held m e r=some y:=by
 rcases DataW.trod_slice ht h with⟨rfl,_⟩ | ⟨a,len,cap,elems,rest,n,_,rfl,rfl,hb,hl,hm,hlen,hel,_,_⟩
 ·exact⟨_,[],rfl,⟨none,0,rfl,fun q=>(by simp at q),fun _=>⟨rfl,rfl⟩⟩,by simp,by simp⟩
 rw[hc] at hel
 have each:∀ i,i < len→∃ r,W.cells? base (a.add (i*sz)) sz=some r∧∃ y,DataW.trod enc P W base sp held n e r=some y:=fun i hi=>by
  have h1:=hel i hi
  rw[List.getElem?_eq_getElem (by omega),Option.bind_eq_some_iff] at h1
  obtain⟨r,h2,h3⟩:=h1
  exact⟨r,h2,_,h3⟩
 have hr:∀ i,i < len→((List.range len).map fun i=>(W.cells? base (a.add (i*sz)) sz).getD [])[i]?=W.cells? base (a.add (i*sz)) sz:=fun i hi=>by
  obtain⟨r,h2,_⟩:=each i hi
  rw[List.getElem?_map,List.getElem?_range hi,Option.map_some,h2];rfl
 refine⟨_,(List.range len).map fun i=>(W.cells? base (a.add (i*sz)) sz).getD [],rfl,⟨some a,cap,by simp,fun q=>?_,fun e=>by cases e⟩,by simp;omega,fun r hr'=>?_⟩
 ·have q0:0 < len:=by simpa using q
  obtain⟨b,o,spot⟩:=a
  have hspot:spot=none:=by
   obtain⟨r,h2,_⟩:=each 0 q0
   obtain⟨_,hlr,hcell⟩:=World.cells?_some h2
   have h3:=hcell 0 (by omega)
   rw[List.getElem?_eq_getElem (by omega)] at h3
   simpa [Addr.add] using World.cell?_spot h3
  subst hspot
  refine⟨b,o,rfl,fun i r hir j x hx=>mG ?_⟩
  have hi:i < len:=by have:=(List.getElem?_eq_some_iff.1 hir).1;simpa using this
  rw[hr i hi] at hir
  obtain⟨_,hlr,hcell⟩:=World.cells?_some hir
  have hj:j < sz:=by have:=(List.getElem?_eq_some_iff.1 hx).1;omega
  have h3:=hcell j hj
  rw[hx] at h3
  rw[← h3,cD,cD]
 obtain⟨i,hi⟩:=List.getElem?_of_mem hr'
 have hil:i < len:=by have:=(List.getElem?_eq_some_iff.1 hi).1;simpa using this
 obtain⟨r',h2,y,h3⟩:=each i hil
 rw[hr i hil,h2] at hi
 cases hi
 exact⟨n,y,h3⟩
theorem ot {A:Type} {f:A→List Value} {Q:A→Prop}:∀(rows:List (List Value)),(∀ r∈rows,∃ a,r=f a∧Q a)→∃ ys:List A,rows=ys.map f∧∀ a∈ys,Q a
 | [],_=>⟨[],rfl,by simp⟩
 | r::rows,h=>by
  obtain⟨a,rfl,hq⟩:=h r (by simp)
  obtain⟨ys,rfl,hqs⟩:=ot rows fun r hr=>h r (by simp[hr])
  exact⟨a::ys,rfl,by simpa using ⟨hq,hqs⟩⟩
end
end RowKit
end
section
set_option maxRecDepth 100000
namespace Exact
open Go.RowKit Go.Proofs Eng Ty Bits Mem Search Arena CtrlB Ctrl Layout GroupB Group Probe TableB TableI Table Bench Cells Refill RefA RefT Ref03
def cA (pr:Nat) (l:Lay) (ps:List PR):HP:=stars (ps.map (rtH pr l))
theorem ik {A:Type}:∀ {xs:List A} {k:Nat} {x:A},xs[k]?=some x→xs.Perm (x::xs.eraseIdx k)
 | [],k,x,h=>by simp at h
 | a::r,0,x,h=>by simp at h;subst h;exact .refl _
 | a::r,k+1,x,h=>by
  have:=ik (xs:=r) (k:=k) (x:=x) (by simpa using h)
  exact(this.cons a).trans (.swap _ _ _)
theorem jk {A:Type}:∀ {xs:List A} {k:Nat} {x:A},(xs.set k x).eraseIdx k=xs.eraseIdx k
 | [],k,x=>rfl
 | a::r,0,x=>rfl
 | a::r,k+1,x=>by simp[jk (xs:=r)]
theorem nP {A:Type} {xs:List A} {k:Nat} (h:k < xs.length) (x:A):(xs.set k x)[k]?=some x:=by rw[List.getElem?_set];simp[h]
theorem mg {pr:Nat} {l:Lay} {ps:List PR} {k:Nat} {x:PR} {L:List HP} (h:ps[k]?=some x):Ent (cA pr l ps::L) (rtH pr l x::cA pr l (ps.eraseIdx k)::L):=fun w hw=>by
 have h1:=cj.1 hw
 have h2:=h1.perm (((ik h).map (rtH pr l)).append_right L)
 have h3:Sat (stars ((ps.eraseIdx k).map (rtH pr l) ++ (rtH pr l x::L))) w:=h2.perm (by rw[List.map_cons,List.cons_append];exact List.perm_middle.symm)
 exact(cj.2 h3:Sat (stars (cA pr l (ps.eraseIdx k)::rtH pr l x::L)) w).perm (List.Perm.swap _ _ _)
theorem mU {pr:Nat} {l:Lay} {ps:List PR} {k:Nat} {x:PR} {L:List HP} (h:k < ps.length):Ent (rtH pr l x::cA pr l (ps.eraseIdx k)::L) (cA pr l (ps.set k x)::L):=fun w hw=>by
 have h1:Sat (stars (cA pr l (ps.eraseIdx k)::rtH pr l x::L)) w:=hw.perm (List.Perm.swap _ _ _)
 have h2:=cj.1 h1
 have hp:=(ik (nP h x)).map (rtH pr l)
 rw[jk] at hp
 refine cj.2 (h2.perm ?_)
 refine List.perm_middle.trans ?_
 rw[← List.cons_append,← List.map_cons]
 exact hp.symm.append_right L
theorem mf {pr:Nat} {l:Lay} {ps:List PR} {x:PR} {L:List HP}:Ent (rtH pr l x::cA pr l ps::L) (cA pr l (ps ++ [x])::L):=fun w hw=>by
 have h1:Sat (stars (cA pr l ps::rtH pr l x::L)) w:=hw.perm (List.Perm.swap _ _ _)
 have h2:=cj.1 h1
 refine cj.2 (h2.perm ?_)
 rw[List.map_append,List.append_assoc]
 exact .refl _
theorem vR {pr:Nat} {l:Lay} {L:List HP}:Ent L (cA pr l []::L):=fun w hw=>cj.2 hw
theorem mm:∀ {xs ys:List Int},xs.Nodup→(∀ x∈xs,x∈ys)→xs.length≤ys.length
 | [],ys,_,_=>Nat.zero_le _
 | x::r,ys,hn,h=>by
  rw[List.nodup_cons] at hn
  have hx:=h x List.mem_cons_self
  have:=mm (xs:=r) (ys:=ys.erase x) hn.2 fun y hy=>(List.mem_erase_of_ne (show y≠x from fun e=>hn.1 (by rw[← e];exact hy))).2 (h y (List.mem_cons_of_mem _ hy))
  rw[List.length_erase_of_mem hx] at this
  have:=List.length_pos_of_mem hx
  simp only[List.length_cons];omega
theorem nM:∀ {l:List (Int×Int)},(∀ p∈l,16≤p.2)→16*(l.length:Int)≤ArS.sum l
 | [],_=>by simp[ArS.sum]
 | p::r,h=>by
  have:=nM (l:=r) fun q hq=>h q (List.mem_cons_of_mem _ hq)
  have:=h p List.mem_cons_self
  simp only[ArS.sum,List.length_cons];omega
end Exact
end
section
set_option maxRecDepth 100000
namespace Exact
open Go.RowKit Go.Proofs Eng Ty Bits Mem Search Arena CtrlB Ctrl Layout GroupB Group Probe TableB TableI Table Bench Cells Refill RefA RefT Ref03
section
variable (G:HP) (hG:dx G) (pb pa pr:Nat) (l:Lay) (hl:l.err=0)
end
section
variable (G:HP) (hG:dx G) (pb pa pr:Nat) (l:Lay) (hl:l.err=0)
include hl
end
end Exact
end
section
set_option maxRecDepth 100000
namespace Exact
open Go.RowKit Go.Proofs Eng Ty Bits Mem Search Arena CtrlB Ctrl Layout GroupB Group Probe TableB TableI Table Bench Cells Refill RefA RefT Ref03
theorem uo (limit:Int) (h:limit < 0∨2097152 < limit):aG Tryz.prog 26 #[.int .i64 limit] [] (fun v L=>v=.tuple #[.pointer none,.int .i64 20]∧L= []):=by
 refine aq EW Tryz.func26 rfl rfl rfl fun Fr w0=>aR ?_
 refine sr<|asg rfl rfl<|asg rfl rfl<|lc<|ah<|sr<|mv rfl rfl<|l_q rfl (qi rfl rfl (aS ·))<|mv rfl rfl<|bE (t:=8) rfl (fun h1=>?_) fun h1=>?_
 ·exact ar rfl rfl rfl rfl<|ar rfl rfl rfl rfl<|l_q rfl (aL rfl rfl)<|lc<|aX rfl<|sr<|asg rfl rfl<|asg rfl rfl<|lc<|rt<|fr2 rfl ([]) (.tmp rfl) (.tmp rfl) ⟨rfl,rfl⟩
 refine au rfl rfl<|mv rfl rfl<|au rfl rfl<|l_q rfl (qi rfl rfl (cT ·))<|l_q rfl (aL rfl rfl)<|lc<|aA rfl (fun h2=>?_) fun h2=>?_
 ·exact sr<|asg rfl rfl<|asg rfl rfl<|lc<|rt<|fr2 rfl ([]) (.tmp rfl) (.tmp rfl) ⟨rfl,rfl⟩
 omega
theorem ue (limit:Int) (h:limit < 0∨2097152 < limit):aG Tryz.prog 27 #[.int .i64 limit] [] (fun v L=>v=.tuple #[.pointer none,.int .i64 20]∧L= []):=
 (wF limit).mono fun v L h2=>by
  rcases h2 with⟨_,h3,h4⟩ | ⟨h3,h4,_⟩
  ·exact⟨h3,h4⟩
  omega
theorem qU (limit:Int) (h:0≤limit∧limit≤2097152):aG Tryz.prog 27 #[.int .i64 limit] [] (fun v L=>∃ pr,v=.tuple #[.pointer (some ⟨pr,0,none⟩),.int .i64 0]∧L= [bd pr (ArS.new limit)]):=
 (wF limit).mono fun v L h2=>by
  rcases h2 with⟨h3,_⟩ | ⟨_,_,h3⟩
  ·omega
  exact h3
theorem pP (pa:Nat) (s:ArS) (p:Nat) (n:Int) (hn:n < 1):aG Tryz.prog 73 #[.pointer (some ⟨pa,0,none⟩),.slice (some ⟨p,0,none⟩) 1 1] [pt p (.cells #[.int .i64 n] 3 (0,0)),ae pa s] (fun v L=>v=.tuple #[.slice none 0 0,.int .i64 21]∧L= [ae pa s]):=by
 refine aq ET Tryz.func73 rfl rfl rfl fun Fr w0=>aR ?_
 refine sr<|asg rfl rfl<|asg rfl rfl<|lz<|asg rfl rfl<|lz<|asg rfl rfl<|lc<|ah<|sr<|mv rfl rfl<|l_q rfl (ql rfl bn)<|mv rfl rfl<|lc<|ay ?_
 refine bw (fun x:Nat=>x=0) (fun x=>[(0,.pointer (some ⟨pa,0,none⟩)),(1,.slice (some ⟨p,0,none⟩) 1 1),(6,.int .i64 0),(7,.bool false),(15,.slice (some ⟨p,0,none⟩) 1 1),(16,.int .i64 1),(17,.int .i64 (x:Nat))]) (fun x=>pt p (.cells #[.int .i64 n] 3 (0,0))::ae pa s::Fr) (fun x=>1-x) 0 rfl ⟨rfl,rfl,rfl,rfl,rfl,rfl,rfl,trivial⟩ (Ent.refl _) ?_
 intro x hx
 refine sr<|l_q rfl (qi rfl rfl (aS ·))<|lc<|ah<|aA rfl (fun h=>?_) fun h=>?_
 ·refine al<|ak<|ah<|ay<|sr<|l_q rfl (ax rfl rfl bn yS3 (by omega)) ?_
  apply l_q rfl
  ·apply eW rfl yA3
   ·exact tk
   subst hx;exact rfl
  refine asg rfl rfl<|lc<|ah<|sr<|mv rfl rfl<|l_q rfl (qi rfl rfl (aS ·))<|lc<|aA rfl (fun q=>?_) fun q=>?_
  ·exact sr<|asg rfl rfl<|asg rfl rfl<|lc<|rt<|fr2 rfl ([ae pa s]) (.tmp rfl) (.tmp rfl) ⟨rfl,rfl⟩
  omega
 omega
theorem vB (pa:Nat) (s:ArS) (n:Int) (hn:n < 1):aG Tryz.prog 30 #[.pointer (some ⟨pa,0,none⟩),.int .i64 n] [ae pa s] (fun v L=>v=.tuple #[.int .i64 0,.int .i64 21]∧L= [ae pa s]):=by
 refine aq EV Tryz.func30 rfl rfl rfl fun Fr w0=>aR ?_
 refine sr<|asg rfl rfl<|asg rfl rfl<|lz<|mv rfl rfl<|mv rfl rfl ?_
 refine aY [_] rfl rfl bn yS3 yZ3 rfl rfl rfl rfl (fun b11=>?_)
 refine lc1 rfl rfl rfl (pP pa s b11 n hn) ?_
 refine mv rfl rfl<|l_q rfl (aa rfl ga) ?_
 refine l_q rfl (aa rfl ga) ?_
 refine asg rfl rfl<|asg rfl rfl<|lc<|ah<|sr<|mv rfl rfl<|l_q rfl (qi rfl rfl (aI ·))<|lc<|aA rfl (fun z=>?_) fun z=>?_
 ·exact sr<|mv rfl rfl<|asg rfl rfl<|asg rfl rfl<|lc<|rt<|fr2 rfl ([ae pa s]) (.tmp rfl) (.tmp rfl) ⟨rfl,rfl⟩
 exact absurd z (by decide)
theorem nB (pa pr:Nat) (s:ArS) (hs:s.ok) (n:Int):
  (∃ c:Int,c≠0∧aG Tryz.prog 30 #[.pointer (some ⟨pa,0,none⟩),.int .i64 n] [ae pa s] (fun v L=>v=.tuple #[.int .i64 0,.int .i64 c]∧L= [ae pa s])∧
   aG Tryz.prog 31 #[.pointer (some ⟨pr,0,none⟩),.int .i64 n] [bd pr s] (fun v L=>v=.tuple #[.int .i64 0,.int .i64 c]∧L= [bd pr s]))∨
  (1≤n∧n≤1048576∧s.live+aC n≤s.limit∧aG Tryz.prog 30 #[.pointer (some ⟨pa,0,none⟩),.int .i64 n] [ae pa s] (fun v L=>v=.tuple #[.int .i64 ((s.at (aC n):Nat):Int),.int .i64 0]∧L= [ae pa (s.take (aC n))])∧
   aG Tryz.prog 31 #[.pointer (some ⟨pr,0,none⟩),.int .i64 n] [bd pr s] (fun v L=>v=.tuple #[.int .i64 ((s.at (aC n):Nat):Int),.int .i64 0]∧L= [bd pr (s.take (aC n))])):=by
 have hR:=qV pr s hs n
 by_cases h1:n < 1
 ·refine .inl ⟨21,by decide,vB pa s n h1,hR.mono fun v L h=>?_⟩
  rcases h with⟨_,a,b⟩ | ⟨a,_⟩ | ⟨a,_⟩
  ·exact⟨a,b⟩
  ·omega
  omega
 have hA:=um pa s n (by omega)
 by_cases h2:1048576 < n∨s.limit-s.live < aC n
 ·refine .inl ⟨22,by decide,hA.mono fun v L h=>?_,hR.mono fun v L h=>?_⟩
  ·rcases h with⟨_,a,b⟩ | ⟨a,b,_⟩
   ·exact⟨a,b⟩
   omega
  rcases h with⟨a,_⟩ | ⟨_,_,a,b⟩ | ⟨a,b,c,_⟩
  ·omega
  ·exact⟨a,b⟩
  omega
 refine .inr ⟨by omega,by omega,by omega,hA.mono fun v L h=>?_,hR.mono fun v L h=>?_⟩
 ·rcases h with⟨a,_⟩ | ⟨_,_,a,b⟩
  ·omega
  exact⟨a,b⟩
 rcases h with⟨a,_⟩ | ⟨_,a,_⟩ | ⟨_,_,_,a,b⟩
 ·omega
 ·omega
 exact⟨a,b⟩
end Exact
end
section
set_option maxRecDepth 100000
namespace Exact
open Go.RowKit Go.Proofs Eng Ty Bits Mem Search Arena CtrlB Ctrl Layout GroupB Group Probe TableB TableI Table Bench Cells Refill RefA RefT Ref03
section
variable (G:HP) (hG:dx G) (pb pa pr:Nat) (l:Lay) (hl:l.err=0)
include hG hl
end
end Exact
end
section
set_option maxRecDepth 100000
namespace Exact
open Go.RowKit Go.Proofs Eng Ty Bits Mem Search Arena CtrlB Ctrl Layout GroupB Group Probe TableB TableI Table Bench Cells Refill RefA RefT Ref03
theorem oy {pr:Nat} {s:ArS}:cr (bd pr s) ⟨pr,1,none⟩ (.int .i64 (s.stop:Nat)):=fun w h=>by
 have h':Sat (stars [bd pr s]) w:=by
  obtain⟨f,hf,k⟩:=h
  exact⟨f,hf,f,Part.none,k,rfl,Part.disj_none _,(Part.join_none _).symm⟩
 obtain⟨x,hx,hs⟩:=bX.1 h'
 have hb:=hs.block (b:=pr) (o:=.cells #[.int .i64 s.limit,.int .i64 (s.stop:Nat),x.1] 51 (0,0)) .here
 simp only[World.cell?,hb]
 rfl
@[reducible] def opC (o:Op8):List Value:=[.int .i64 o.kind,.int .i64 o.t,.int .i64 o.n,.int .i64 o.m,.int .u64 o.h,.string o.k,.string o.e]
end Exact
end
section
set_option maxRecDepth 100000
namespace RowKit
open Go.ChangeShapes Go.WideShapes Go.ChangeAt Go.RowKit Go.Proofs Eng Ref03 Ctrl CtrlB Exact
theorem sV {H:Type} {enc:TypeId×Value→H} {P:Program} {W:World} {base fuel:Nat} {held:Bool} {sp:Nat→Bool} {t e:TypeId} {a:Option Addr} {n cap:Nat} {x:DataW H×List MemPlace} (ht:P.underlying t=some (.slice e))
  (h:DataW.trod enc P W base sp held fuel t [.slice a n cap]=some x):n=0∨∃ es sp',x.1=.slice es sp'∧es.length=n:=by
 rcases DataW.trod_slice ht h with⟨e1,_⟩ | ⟨a',len,cap',elems,rest,m,_,e1,rfl,_,_,_,hlen,_⟩
 ·cases e1;exact .inl rfl
 cases e1;exact .inr ⟨_,_,rfl,by simpa using hlen⟩
end RowKit
end
section
set_option maxRecDepth 100000
namespace Exact11
open Go.RowKit Go.Proofs Eng Ty Bits Mem Search Arena CtrlB Ctrl Layout GroupB Group TableB TableI Table Cells Refill Small RefA RefT
open Exact (PR cA ik jk nP mm nM)
def ck (pr:Nat) (l:Lay) (ps:List SR):HP:=stars (ps.map (rsH pr l))
theorem oq {pr:Nat} {l:Lay} {ps:List SR} {k:Nat} {x:SR} {L:List HP} (h:ps[k]?=some x):Ent (ck pr l ps::L) (rsH pr l x::ck pr l (ps.eraseIdx k)::L):=fun w hw=>by
 have h1:=cj.1 hw
 have h2:=h1.perm (((ik h).map (rsH pr l)).append_right L)
 have h3:Sat (stars ((ps.eraseIdx k).map (rsH pr l) ++ (rsH pr l x::L))) w:=h2.perm (by rw[List.map_cons,List.cons_append];exact List.perm_middle.symm)
 exact(cj.2 h3:Sat (stars (ck pr l (ps.eraseIdx k)::rsH pr l x::L)) w).perm (List.Perm.swap _ _ _)
theorem kS {pr:Nat} {l:Lay} {ps:List SR} {k:Nat} {x:SR} {L:List HP} (h:k < ps.length):Ent (rsH pr l x::ck pr l (ps.eraseIdx k)::L) (ck pr l (ps.set k x)::L):=fun w hw=>by
 have h1:Sat (stars (ck pr l (ps.eraseIdx k)::rsH pr l x::L)) w:=hw.perm (List.Perm.swap _ _ _)
 have h2:=cj.1 h1
 have hp:=(ik (nP h x)).map (rsH pr l)
 rw[jk] at hp
 refine cj.2 (h2.perm ?_)
 refine List.perm_middle.trans ?_
 rw[← List.cons_append,← List.map_cons]
 exact hp.symm.append_right L
theorem sT {pr:Nat} {l:Lay} {ps:List SR} {x:SR} {L:List HP}:Ent (rsH pr l x::ck pr l ps::L) (ck pr l (ps ++ [x])::L):=fun w hw=>by
 have h1:Sat (stars (ck pr l ps::rsH pr l x::L)) w:=hw.perm (List.Perm.swap _ _ _)
 have h2:=cj.1 h1
 refine cj.2 (h2.perm ?_)
 rw[List.map_append,List.append_assoc]
 exact .refl _
theorem kh (pr:Nat) (l:Lay) (ps:List SR):ck pr l (ps.map cg)=ck pr l ps:=by
 unfold ck
 rw[List.map_map]
 rfl
theorem BD {pr:Nat} {l:Lay} {L:List HP}:Ent L (ck pr l []::L):=fun w hw=>cj.2 hw
def bK (pa:Nat) (l:Lay) (x:SR):List Value:=[.pointer (some ⟨pa,0,none⟩),.int .i64 l.key,.int .i64 l.elem,.int .i64 l.ka,.int .i64 l.ea,.int .i64 l.cap,.int .i64 l.eo,.int .i64 l.bo,.int .i64 l.slot,.int .i64 l.group,.int .i64 (x.off:Nat),.pointer (some ⟨x.p,0,none⟩),.bool x.over]
theorem nR (pa:Nat) (l:Lay) (x:SR):(bK pa l x).length=13:=rfl
theorem xf {pa:Nat} {l:Lay} {ps:List SR} {k:Nat} {x x':SR} (h:ps[k]?=some x) (he:bK pa l x'=bK pa l x):rowOf (bK pa l) (ps.set k x')=rowOf (bK pa l) ps:=by
 unfold rowOf
 have:(ps.set k x').map (bK pa l)=ps.map (bK pa l):=by
  rw[List.map_set,he]
  refine List.ext_getElem? fun j=>?_
  rw[List.getElem?_set]
  split
  ·next q=>subst q;rw[List.getElem?_map,h,List.length_map];simp;rcases Nat.lt_or_ge k ps.length with q2 | q2;exact q2;rw[List.getElem?_eq_none q2] at h;cases h
  rfl
 rw[List.flatMap_def,List.flatMap_def,this]
theorem uO {x:SR} (h:x.dead=false):cg x=x:=by
 cases x
 simp_all [cg]
def mixS (ps:List SR) (i:Nat):List SR:=(ps.take i).map cg ++ ps.drop i
theorem xm (ps:List SR):mixS ps 0=ps:=by simp[mixS]
theorem zy (ps:List SR):mixS ps ps.length=ps.map cg:=by simp[mixS]
theorem zx {ps:List SR} {i:Nat} {x:SR} (h:ps[i]?=some x):(mixS ps i)[i]?=some x:=by
 have hl:i < ps.length:=by rcases Nat.lt_or_ge i ps.length with q | q;exact q;rw[List.getElem?_eq_none q] at h;cases h
 unfold mixS
 rw[List.getElem?_append_right (by simp;omega)]
 simp only[List.length_map,List.length_take,Nat.min_eq_left (Nat.le_of_lt hl),Nat.sub_self,List.getElem?_drop,Nat.add_zero]
 exact h
theorem qv {ps:List SR} {i:Nat} {x:SR} (h:ps[i]?=some x):(mixS ps i).set i (cg x)=mixS ps (i+1):=by
 have hl:i < ps.length:=by rcases Nat.lt_or_ge i ps.length with q | q;exact q;rw[List.getElem?_eq_none q] at h;cases h
 unfold mixS
 have hd:ps.drop i=x::ps.drop (i+1):=by
  rw[List.getElem?_eq_getElem hl] at h
  rw[List.drop_eq_getElem_cons hl,Option.some.inj h]
 have ht:ps.take (i+1)=ps.take i ++ [x]:=by rw[List.take_add_one,h];rfl
 have hlen:((ps.take i).map cg).length=i:=by simp;omega
 rw[hd,ht,List.map_append,List.set_append_right _ _ (by omega),hlen,Nat.sub_self,List.append_assoc]
 rfl
def fx (ps:List SR):Nat:=(ps.filter (·.dead)).length
theorem iu (ps:List SR):fx (ps.map cg)=fx ps:=by
 unfold fx
 rw[List.filter_map,List.length_map]
 rfl
theorem qM (ps:List SR) (x:SR) (h:x.dead=false):fx (ps ++ [x])=fx ps:=by
 unfold fx
 rw[List.filter_append]
 simp[h]
theorem xR (ps:List SR) (k:Nat) (x:SR):fx (ps.set k x)≤fx ps+1:=by
 unfold fx
 induction ps generalizing k with
 | nil=>simp
 | cons a r ih=>
  cases k with
  | zero=>
   rw[List.set_cons_zero,List.filter_cons,List.filter_cons]
   split <;> split <;> simp <;> omega
  | succ k=>
   have:=ih k
   rw[List.set_cons_succ,List.filter_cons,List.filter_cons]
   split
   ·simp only[List.length_cons];omega
   exact this
theorem u5 {ps:List SR} {k:Nat} {x x':SR} (h:ps[k]?=some x) (hd:x'.dead=x.dead):fx (ps.set k x')=fx ps:=by
 unfold fx
 induction ps generalizing k with
 | nil=>simp at h
 | cons a r ih=>
  cases k with
  | zero=>
   simp at h
   subst h
   rw[List.set_cons_zero,List.filter_cons,List.filter_cons,hd]
   split <;> simp
  | succ k=>
   have:=ih (k:=k) (by simpa using h)
   rw[List.set_cons_succ,List.filter_cons,List.filter_cons]
   split
   ·simp only[List.length_cons];omega
   exact this
theorem eX.few {s:ArS} (hs:s.ok) {l:Lay} {ps:List SR} {ts:List PR} (h:eX s l ps ts):ps.length≤fx ps+131072:=by
 have h1:(ps.filter fun x=>!x.dead).length+fx ps=ps.length:=by
  unfold fx
  clear h
  induction ps with
  | nil=>rfl
  | cons a r ih=>
   rw[List.filter_cons,List.filter_cons]
   cases a.dead <;> simp only[Bool.not_false,Bool.not_true,if_true,Bool.false_eq_true,if_false,List.length_cons] <;> omega
 have hnd:((ps.filter fun x=>!x.dead).map fun x=>((x.off:Nat):Int)).Nodup:=by
  rw[List.nodup_iff_pairwise_ne,List.pairwise_map,List.pairwise_filter]
  rw[List.pairwise_iff_getElem]
  intro i j hi hj hij d1 d2 e
  have:=(h.two i j ps[i] ps[j] (by omega) (List.getElem?_eq_getElem hi) (List.getElem?_eq_getElem hj) (by simpa using d1) (by simpa using d2))
  omega
 have h2:=mm (ys:=s.bl.map (·.1)) hnd fun o ho=>by
  obtain⟨x,hx,rfl⟩:=List.mem_map.1 ho
  rw[List.mem_filter] at hx
  exact List.mem_map.2 ⟨_,((h.one x hx.1).live (by simpa using hx.2)).2.1,rfl⟩
 rw[List.length_map,List.length_map] at h2
 have h3:=nM (l:=s.bl) fun p hp=>(fy p.2 (hs.isC p (cq.1 hp).1)).1
 have h4:=hs.room
 have h5:=hs.limit
 unfold ArS.live at h4
 omega
end Exact11
end
end Go.Proofs.YthkajgkagnenbaaGreatDoor
