import Derived.Test.YthkajgkagnenbaaGreatDoorRows
import Derived.WalkKit
import Derived.ProofKit
import Derived.OpenShut
import Derived.ShutString
import Derived.ChangeOld
import Derived.Below
import Derived.Carry
import Derived.SizedLaws
import Derived.LaidMore
import Derived.Lay
import Derived.Stop.Joined
import Derived.Test.YthkajgkagnenbaaGreatDoorExact11C
set_option linter.unusedVariables false
set_option linter.unusedSimpArgs false
set_option linter.unusedSectionVars false
namespace Go.Proofs.YthkajgkagnenbaaGreatDoor
section
set_option maxRecDepth 100000
namespace RowKit
open Go.ChangeShapes Go.WideShapes Go.ChangeAt Go.RowKit Go.Proofs Eng Ref03 Ctrl CtrlB
theorem laidOut:laidOutB Tryz.prog=true:=by kernel_rfl
theorem mO {W:World} {a:Addr} {v:Value} (h:W.cell? a=some v):ct (Eng.old W) a v:=fun w hs=>by
 obtain⟨f,hi,rfl⟩:=hs
 have hb:∃ o,W.heap[a.block]?=some o:=by
  cases e:W.heap[a.block]? with
  | some o=>exact⟨o,rfl⟩
  | none=>simp[World.cell?,e] at h
 obtain⟨o,ho⟩:=hb
 have:=hi a.block o ho
 rw[World.cell?_of_block (w:=W) (by rw[this,ho])]
 exact h
theorem DR {P:Program} {f:FuncId} {args:Array Value} {v0:Value} {W:World} (h:aG P f args [Eng.old W] fun v L=>v=v0∧L= [Eng.old W]):Calls P f args W fun e W'=>e=.returned v0∧Below W.heap.size W W':=by
 have hs:Sat (stars ([Eng.old W] ++ [])) W:=by
  obtain⟨f,hi,e⟩:=Sat.old W
  exact⟨f,hi,f,Part.none,e,rfl,Part.disj_none _,(Part.join_none _).symm⟩
 refine(callsIn_wide (n:=0)).1 ((h.calls [] W W hs (Ext.refl W)).mono ?_)
 rintro e W' ⟨v,L',rfl,⟨rfl,rfl⟩,hs',he'⟩
 exact⟨rfl,r9 hs'.left he'⟩
section
variable {H:Type} {enc:TypeId×Value→H} {P:Program} {W:World} {base:Nat} {held:Bool}
theorem zE {t e:TypeId} {k:IntKind} {fuel:Nat} {cs:List Value} {x:DataW H×List MemPlace} (ht:P.underlying t=some (.slice e)) (he:P.underlying e=some (.int k)) (hc:P.cellsOf e=1)
  (h:DataW.trod enc P W base (fun _=>true) held fuel t cs=some x):∃ v xs,cs= [v]∧A5 k (Eng.old W) v xs∧(∀ n∈xs,(Lit.int k n).wf=true)∧xs.length≤maxLen:=by
 rcases open_ints ht he hc h with⟨rfl,_⟩ | ⟨a,len,cap,zs,rfl,_,hl,hm,hz,_,hcell,hwf⟩
 ·exact⟨_,[],rfl,⟨none,0,rfl,fun q=>by simp at q⟩,by simp,by simp[maxLen]⟩
 simp only[if_true] at hz
 have hlen:(zs.take len).length=len:=by simp;omega
 refine⟨_,zs.take len,rfl,⟨some a,cap,by rw[hlen],fun q=>?_⟩,fun n hn=>hwf n (List.mem_of_mem_take hn),by omega⟩
 obtain⟨b,o,rfl,hp⟩:=ints_at hcell (by omega)
 refine⟨b,o,rfl,fun i x hx=>mO ?_⟩
 rw[List.getElem?_take] at hx
 split at hx
 ·have hi:i < zs.length:=by omega
  rw[hp i hi,List.getD,hx];rfl
 cases hx
end
theorem EY : Tryz.prog.globalNamed "math/bits.deBruijn64tab" = some 1 := by kernel_rfl
theorem Hi:(Tryz.prog.globals[1]?).map (·.type)=some 304:=by kernel_rfl
theorem yX:(Rows.laid_math_bits_deBruijn64tab:DataW Unit)=.agg (dbt.map fun n=>.lit (.int .u8 (n:Nat))):=by kernel_rfl
theorem Ds {W : World} {enc : TypeId × Value → Unit} {g : Nat} {t : TypeId} {cs : Array Value} {fuel : Nat} {p : List MemPlace} {held : Bool} {sp : Nat → Bool} (hg : Tryz.prog.globalNamed "math/bits.deBruijn64tab" = some g) (ht : (Tryz.prog.globals[g]?).map (·.type) = some t)
  (hv : W.var? Tryz.prog "math/bits.deBruijn64tab" = some cs) (hd : DataW.trod enc Tryz.prog W 0 sp held fuel t cs.toList = some (Rows.laid_math_bits_deBruijn64tab, p)) : dz (Eng.old W) := fun i b hb => mO (by
 obtain rfl:=Option.some.inj (EY.symm.trans hg)
 obtain rfl:=Option.some.inj (Hi.symm.trans ht)
 rw[yX] at hd
 obtain⟨xs,m,_,ex,_,hl,hel⟩:=DataW.trod_array Tryz.underlying304 hd
 have c5:Tryz.prog.cellsOf 5=1:=by kernel_rfl
 have hlen:dbt.length=64:=by kernel_rfl
 have hi:i < 64:=by rw[← hlen];exact(List.getElem?_eq_some_iff.1 hb).1
 have hE:=hel i hi
 rw[c5,Nat.mul_one,List.getElem?_eq_getElem (by omega)] at hE
 obtain⟨z,e1,e2,_⟩:=DataW.trod_int Tryz.underlying5 hE
 have e3:(xs.map (·.1))=dbt.map fun n=>.lit (.int .u8 (n:Nat)):=(DataW.agg.inj (Prod.mk.inj ex).1).symm
 have e4:(xs.map (·.1))[i]?=(dbt.map fun n=>(DataW.lit (.int .u8 (n:Nat)):DataW Unit))[i]?:=by rw[e3]
 rw[List.getElem?_map,List.getElem?_map,List.getElem?_eq_getElem (by omega:i < xs.length),hb,e2] at e4
 have hz:z=(b:Nat):=by simpa using e4
 rw[World.var?_cell EY hv i,← hz]
 have h0:((cs.toList.drop i).take 1)[0]?=some (.int .u8 z):=by rw[e1];rfl
 simpa using h0)
end RowKit
end
section
set_option maxRecDepth 100000
namespace RowKit
open Go.ChangeShapes Go.WideShapes Go.ChangeAt Go.RowKit Go.Proofs Eng Ref03 Ctrl CtrlB
section
variable {H:Type} {enc:TypeId×Value→H} {P:Program} {W:World} {base:Nat} {held:Bool}
def D4 (A:HP) (sz:Nat) (v:Value) (rows:List (List Value)):Prop:=∃ a cap,v=.slice a rows.length cap∧(0 < rows.length→∃ b o,a=some ⟨b,o,none⟩∧∀(i:Nat) r,rows[i]?=some r→∀(j:Nat) x,r[j]?=some x→ct A ⟨b,o+i*sz+j,none⟩ x)∧(a=none→cap=0∧rows= [])
theorem s0 {t e:TypeId} {sz fuel:Nat} {sp:Nat→Bool} {cs:List Value} {x:DataW H×List MemPlace} (ht:P.underlying t=some (.slice e)) (hc:P.cellsOf e=sz) (hsz:0 < sz)
  (h:DataW.trod enc P W base sp held fuel t cs=some x):∃ v rows,cs= [v]∧D4 (Eng.old W) sz v rows∧rows.length≤maxLen∧∀ r∈rows,∃ m y,DataW.trod enc P W base sp held m e r=some y:=by
 rcases DataW.trod_slice ht h with⟨rfl,_⟩ | ⟨a,len,cap,elems,rest,n,_,rfl,rfl,hb,hl,hm,hlen,hel,_,_⟩
 ·exact⟨_,[],rfl,⟨none,0,rfl,fun q=>(by simp at q),fun _=>⟨rfl,rfl⟩⟩,by simp,by simp⟩
 rw[hc] at hel
 have each:∀ i,i < len→∃ r,W.cells? base (a.add (i*sz)) sz=some r∧∃ y,DataW.trod enc P W base sp held n e r=some y:=fun i hi=>by
  have h1:=hel i hi
  rw[List.getElem?_eq_getElem (by omega),Option.bind_eq_some_iff] at h1
  obtain⟨r,h2,h3⟩:=h1
  exact⟨r,h2,_,h3⟩
 have hr:∀ i,i < len→((List.range len).map fun i=>(W.cells? base (a.add (i*sz)) sz).getD [])[i]?=W.cells? base (a.add (i*sz)) sz:=fun i hi=>by
  obtain⟨r,h2,_⟩:=each i hi
  rw[List.getElem?_map,List.getElem?_range hi,Option.map_some,h2];rfl
 refine⟨_,(List.range len).map fun i=>(W.cells? base (a.add (i*sz)) sz).getD [],rfl,⟨some a,cap,by simp,fun q=>?_,fun e=>by cases e⟩,by simp;omega,fun r hr'=>?_⟩
 ·have q0:0 < len:=by simpa using q
  obtain⟨b,o,spot⟩:=a
  have hspot:spot=none:=by
   obtain⟨r,h2,_⟩:=each 0 q0
   obtain⟨_,hlr,hcell⟩:=World.cells?_some h2
   have h3:=hcell 0 (by omega)
   rw[List.getElem?_eq_getElem (by omega)] at h3
   simpa [Addr.add] using World.cell?_spot h3
  subst hspot
  refine⟨b,o,rfl,fun i r hir j x hx=>mO ?_⟩
  have hi:i < len:=by have:=(List.getElem?_eq_some_iff.1 hir).1;simpa using this
  rw[hr i hi] at hir
  obtain⟨_,hlr,hcell⟩:=World.cells?_some hir
  have hj:j < sz:=by have:=(List.getElem?_eq_some_iff.1 hx).1;omega
  have h3:=hcell j hj
  rw[hx] at h3
  rw[← h3,cz,cz]
 obtain⟨i,hi⟩:=List.getElem?_of_mem hr'
 have hil:i < len:=by have:=(List.getElem?_eq_some_iff.1 hi).1;simpa using this
 obtain⟨r',h2,y,h3⟩:=each i hil
 rw[hr i hil,h2] at hi
 cases hi
 exact⟨n,y,h3⟩
theorem ox {A:Type} {f:A→List Value} {Q:A→Prop}:∀(rows:List (List Value)),(∀ r∈rows,∃ a,r=f a∧Q a)→∃ ys:List A,rows=ys.map f∧∀ a∈ys,Q a
 | [],_=>⟨[],rfl,by simp⟩
 | r::rows,h=>by
  obtain⟨a,rfl,hq⟩:=h r (by simp)
  obtain⟨ys,rfl,hqs⟩:=ox rows fun r hr=>h r (by simp[hr])
  exact⟨a::ys,rfl,by simpa using ⟨hq,hqs⟩⟩
end
end RowKit
end
section
set_option maxRecDepth 100000
namespace Exact
open Go.RowKit Go.Proofs Eng Ty Bits Mem Search Arena CtrlB Ctrl Layout GroupB Group Probe TableB TableI Table Bench Cells Refill RefA RefT Ref03
def cx (pr:Nat) (l:Lay) (ps:List PR):HP:=stars (ps.map (rtH pr l))
theorem ik {A:Type}:∀ {xs:List A} {k:Nat} {x:A},xs[k]?=some x→xs.Perm (x::xs.eraseIdx k)
 | [],k,x,h=>by simp at h
 | a::r,0,x,h=>by simp at h;subst h;exact .refl _
 | a::r,k+1,x,h=>by
  have:=ik (xs:=r) (k:=k) (x:=x) (by simpa using h)
  exact(this.cons a).trans (.swap _ _ _)
theorem jn {A:Type}:∀ {xs:List A} {k:Nat} {x:A},(xs.set k x).eraseIdx k=xs.eraseIdx k
 | [],k,x=>rfl
 | a::r,0,x=>rfl
 | a::r,k+1,x=>by simp[jn (xs:=r)]
theorem nY {A:Type} {xs:List A} {k:Nat} (h:k < xs.length) (x:A):(xs.set k x)[k]?=some x:=by rw[List.getElem?_set];simp[h]
theorem mq {pr:Nat} {l:Lay} {ps:List PR} {k:Nat} {x:PR} {L:List HP} (h:ps[k]?=some x):Ent (cx pr l ps::L) (rtH pr l x::cx pr l (ps.eraseIdx k)::L):=fun w hw=>by
 have h1:=cl.1 hw
 have h2:=h1.perm (((ik h).map (rtH pr l)).append_right L)
 have h3:Sat (stars ((ps.eraseIdx k).map (rtH pr l) ++ (rtH pr l x::L))) w:=h2.perm (by rw[List.map_cons,List.cons_append];exact List.perm_middle.symm)
 exact(cl.2 h3:Sat (stars (cx pr l (ps.eraseIdx k)::rtH pr l x::L)) w).perm (List.Perm.swap _ _ _)
theorem m3 {pr:Nat} {l:Lay} {ps:List PR} {k:Nat} {x:PR} {L:List HP} (h:k < ps.length):Ent (rtH pr l x::cx pr l (ps.eraseIdx k)::L) (cx pr l (ps.set k x)::L):=fun w hw=>by
 have h1:Sat (stars (cx pr l (ps.eraseIdx k)::rtH pr l x::L)) w:=hw.perm (List.Perm.swap _ _ _)
 have h2:=cl.1 h1
 have hp:=(ik (nY h x)).map (rtH pr l)
 rw[jn] at hp
 refine cl.2 (h2.perm ?_)
 refine List.perm_middle.trans ?_
 rw[← List.cons_append,← List.map_cons]
 exact hp.symm.append_right L
theorem mo {pr:Nat} {l:Lay} {ps:List PR} {x:PR} {L:List HP}:Ent (rtH pr l x::cx pr l ps::L) (cx pr l (ps ++ [x])::L):=fun w hw=>by
 have h1:Sat (stars (cx pr l ps::rtH pr l x::L)) w:=hw.perm (List.Perm.swap _ _ _)
 have h2:=cl.1 h1
 refine cl.2 (h2.perm ?_)
 rw[List.map_append,List.append_assoc]
 exact .refl _
theorem vW {pr:Nat} {l:Lay} {L:List HP}:Ent L (cx pr l []::L):=fun w hw=>cl.2 hw
theorem my:∀ {xs ys:List Int},xs.Nodup→(∀ x∈xs,x∈ys)→xs.length≤ys.length
 | [],ys,_,_=>Nat.zero_le _
 | x::r,ys,hn,h=>by
  rw[List.nodup_cons] at hn
  have hx:=h x List.mem_cons_self
  have:=my (xs:=r) (ys:=ys.erase x) hn.2 fun y hy=>(List.mem_erase_of_ne (show y≠x from fun e=>hn.1 (by rw[← e];exact hy))).2 (h y (List.mem_cons_of_mem _ hy))
  rw[List.length_erase_of_mem hx] at this
  have:=List.length_pos_of_mem hx
  simp only[List.length_cons];omega
theorem nV:∀ {l:List (Int×Int)},(∀ p∈l,16≤p.2)→16*(l.length:Int)≤ArS.sum l
 | [],_=>by simp[ArS.sum]
 | p::r,h=>by
  have:=nV (l:=r) fun q hq=>h q (List.mem_cons_of_mem _ hq)
  have:=h p List.mem_cons_self
  simp only[ArS.sum,List.length_cons];omega
end Exact
end
section
set_option maxRecDepth 100000
namespace Exact
open Go.RowKit Go.Proofs Eng Ty Bits Mem Search Arena CtrlB Ctrl Layout GroupB Group Probe TableB TableI Table Bench Cells Refill RefA RefT Ref03
section
variable (G:HP) (hG:dz G) (pb pa pr:Nat) (l:Lay) (hl:l.err=0)
end
section
variable (G:HP) (hG:dz G) (pb pa pr:Nat) (l:Lay) (hl:l.err=0)
include hl
end
end Exact
end
section
set_option maxRecDepth 100000
namespace Exact
open Go.RowKit Go.Proofs Eng Ty Bits Mem Search Arena CtrlB Ctrl Layout GroupB Group Probe TableB TableI Table Bench Cells Refill RefA RefT Ref03
theorem uv (limit:Int) (h:limit < 0∨2097152 < limit):aG Tryz.prog 26 #[.int .i64 limit] [] (fun v L=>v=.tuple #[.pointer none,.int .i64 20]∧L= []):=by
 refine aq E7 Tryz.func26 rfl rfl rfl fun Fr w0=>aR ?_
 refine sr<|asg rfl rfl<|asg rfl rfl<|lc<|ah<|sr<|mv rfl rfl<|l_q rfl (qi rfl rfl (aU ·))<|mv rfl rfl<|bD (t:=8) rfl (fun h1=>?_) fun h1=>?_
 ·exact ar rfl rfl rfl rfl<|ar rfl rfl rfl rfl<|l_q rfl (aL rfl rfl)<|lc<|aY rfl<|sr<|asg rfl rfl<|asg rfl rfl<|lc<|rt<|fr2 rfl ([]) (.tmp rfl) (.tmp rfl) ⟨rfl,rfl⟩
 refine au rfl rfl<|mv rfl rfl<|au rfl rfl<|l_q rfl (qi rfl rfl (cU ·))<|l_q rfl (aL rfl rfl)<|lc<|aA rfl (fun h2=>?_) fun h2=>?_
 ·exact sr<|asg rfl rfl<|asg rfl rfl<|lc<|rt<|fr2 rfl ([]) (.tmp rfl) (.tmp rfl) ⟨rfl,rfl⟩
 omega
theorem uj (limit:Int) (h:limit < 0∨2097152 < limit):aG Tryz.prog 27 #[.int .i64 limit] [] (fun v L=>v=.tuple #[.pointer none,.int .i64 20]∧L= []):=
 (wN limit).mono fun v L h2=>by
  rcases h2 with⟨_,h3,h4⟩ | ⟨h3,h4,_⟩
  ·exact⟨h3,h4⟩
  omega
theorem qX (limit:Int) (h:0≤limit∧limit≤2097152):aG Tryz.prog 27 #[.int .i64 limit] [] (fun v L=>∃ pr,v=.tuple #[.pointer (some ⟨pr,0,none⟩),.int .i64 0]∧L= [bj pr (ArS.new limit)]):=
 (wN limit).mono fun v L h2=>by
  rcases h2 with⟨h3,_⟩ | ⟨_,_,h3⟩
  ·omega
  exact h3
theorem pQ (pa:Nat) (s:ArS) (p:Nat) (n:Int) (hn:n < 1):aG Tryz.prog 73 #[.pointer (some ⟨pa,0,none⟩),.slice (some ⟨p,0,none⟩) 1 1] [pt p (.cells #[.int .i64 n] 3 (0,0)),ae pa s] (fun v L=>v=.tuple #[.slice none 0 0,.int .i64 21]∧L= [ae pa s]):=by
 refine aq E4 Tryz.func73 rfl rfl rfl fun Fr w0=>aR ?_
 refine sr<|asg rfl rfl<|asg rfl rfl<|lz<|asg rfl rfl<|lz<|asg rfl rfl<|lc<|ah<|sr<|mv rfl rfl<|l_q rfl (ql rfl bn)<|mv rfl rfl<|lc<|ax ?_
 refine bw (fun x:Nat=>x=0) (fun x=>[(0,.pointer (some ⟨pa,0,none⟩)),(1,.slice (some ⟨p,0,none⟩) 1 1),(6,.int .i64 0),(7,.bool false),(15,.slice (some ⟨p,0,none⟩) 1 1),(16,.int .i64 1),(17,.int .i64 (x:Nat))]) (fun x=>pt p (.cells #[.int .i64 n] 3 (0,0))::ae pa s::Fr) (fun x=>1-x) 0 rfl ⟨rfl,rfl,rfl,rfl,rfl,rfl,rfl,trivial⟩ (Ent.refl _) ?_
 intro x hx
 refine sr<|l_q rfl (qi rfl rfl (aU ·))<|lc<|ah<|aA rfl (fun h=>?_) fun h=>?_
 ·refine al<|ak<|ah<|ax<|sr<|l_q rfl (ay rfl rfl bn yS3 (by omega)) ?_
  apply l_q rfl
  ·apply fa rfl yA3
   ·exact tk
   subst hx;exact rfl
  refine asg rfl rfl<|lc<|ah<|sr<|mv rfl rfl<|l_q rfl (qi rfl rfl (aU ·))<|lc<|aA rfl (fun q=>?_) fun q=>?_
  ·exact sr<|asg rfl rfl<|asg rfl rfl<|lc<|rt<|fr2 rfl ([ae pa s]) (.tmp rfl) (.tmp rfl) ⟨rfl,rfl⟩
  omega
 omega
theorem vF (pa:Nat) (s:ArS) (n:Int) (hn:n < 1):aG Tryz.prog 30 #[.pointer (some ⟨pa,0,none⟩),.int .i64 n] [ae pa s] (fun v L=>v=.tuple #[.int .i64 0,.int .i64 21]∧L= [ae pa s]):=by
 refine aq E6 Tryz.func30 rfl rfl rfl fun Fr w0=>aR ?_
 refine sr<|asg rfl rfl<|asg rfl rfl<|lz<|mv rfl rfl<|mv rfl rfl ?_
 refine aW [_] rfl rfl bn yS3 yZ3 rfl rfl rfl rfl (fun b11=>?_)
 refine lc1 rfl rfl rfl (pQ pa s b11 n hn) ?_
 refine mv rfl rfl<|l_q rfl (aa rfl ga) ?_
 refine l_q rfl (aa rfl ga) ?_
 refine asg rfl rfl<|asg rfl rfl<|lc<|ah<|sr<|mv rfl rfl<|l_q rfl (qi rfl rfl (aI ·))<|lc<|aA rfl (fun z=>?_) fun z=>?_
 ·exact sr<|mv rfl rfl<|asg rfl rfl<|asg rfl rfl<|lc<|rt<|fr2 rfl ([ae pa s]) (.tmp rfl) (.tmp rfl) ⟨rfl,rfl⟩
 exact absurd z (by decide)
theorem nI (pa pr:Nat) (s:ArS) (hs:s.ok) (n:Int):
  (∃ c:Int,c≠0∧aG Tryz.prog 30 #[.pointer (some ⟨pa,0,none⟩),.int .i64 n] [ae pa s] (fun v L=>v=.tuple #[.int .i64 0,.int .i64 c]∧L= [ae pa s])∧
   aG Tryz.prog 31 #[.pointer (some ⟨pr,0,none⟩),.int .i64 n] [bj pr s] (fun v L=>v=.tuple #[.int .i64 0,.int .i64 c]∧L= [bj pr s]))∨
  (1≤n∧n≤1048576∧s.live+aC n≤s.limit∧aG Tryz.prog 30 #[.pointer (some ⟨pa,0,none⟩),.int .i64 n] [ae pa s] (fun v L=>v=.tuple #[.int .i64 ((s.at (aC n):Nat):Int),.int .i64 0]∧L= [ae pa (s.take (aC n))])∧
   aG Tryz.prog 31 #[.pointer (some ⟨pr,0,none⟩),.int .i64 n] [bj pr s] (fun v L=>v=.tuple #[.int .i64 ((s.at (aC n):Nat):Int),.int .i64 0]∧L= [bj pr (s.take (aC n))])):=by
 have hR:=qY pr s hs n
 by_cases h1:n < 1
 ·refine .inl ⟨21,by decide,vF pa s n h1,hR.mono fun v L h=>?_⟩
  rcases h with⟨_,a,b⟩ | ⟨a,_⟩ | ⟨a,_⟩
  ·exact⟨a,b⟩
  ·omega
  omega
 have hA:=uu pa s n (by omega)
 by_cases h2:1048576 < n∨s.limit-s.live < aC n
 ·refine .inl ⟨22,by decide,hA.mono fun v L h=>?_,hR.mono fun v L h=>?_⟩
  ·rcases h with⟨_,a,b⟩ | ⟨a,b,_⟩
   ·exact⟨a,b⟩
   omega
  rcases h with⟨a,_⟩ | ⟨_,_,a,b⟩ | ⟨a,b,c,_⟩
  ·omega
  ·exact⟨a,b⟩
  omega
 refine .inr ⟨by omega,by omega,by omega,hA.mono fun v L h=>?_,hR.mono fun v L h=>?_⟩
 ·rcases h with⟨a,_⟩ | ⟨_,_,a,b⟩
  ·omega
  exact⟨a,b⟩
 rcases h with⟨a,_⟩ | ⟨_,a,_⟩ | ⟨_,_,_,a,b⟩
 ·omega
 ·omega
 exact⟨a,b⟩
end Exact
end
section
set_option maxRecDepth 100000
namespace Exact
open Go.RowKit Go.Proofs Eng Ty Bits Mem Search Arena CtrlB Ctrl Layout GroupB Group Probe TableB TableI Table Bench Cells Refill RefA RefT Ref03
section
variable (G:HP) (hG:dz G) (pb pa pr:Nat) (l:Lay) (hl:l.err=0)
include hG hl
end
end Exact
end
section
set_option maxRecDepth 100000
namespace Exact
open Go.RowKit Go.Proofs Eng Ty Bits Mem Search Arena CtrlB Ctrl Layout GroupB Group Probe TableB TableI Table Bench Cells Refill RefA RefT Ref03
@[reducible] def opC (o:Op8):List Value:=[.int .i64 o.kind,.int .i64 o.t,.int .i64 o.n,.int .i64 o.m,.int .u64 o.h,.string o.k,.string o.e]
end Exact
end
section
set_option maxRecDepth 100000
namespace RowKit
open Go.ChangeShapes Go.WideShapes Go.ChangeAt Go.RowKit Go.Proofs Eng Ref03 Ctrl CtrlB Exact
theorem s4 {H:Type} {enc:TypeId×Value→H} {P:Program} {W:World} {base fuel:Nat} {held:Bool} {sp:Nat→Bool} {t e:TypeId} {a:Option Addr} {n cap:Nat} {x:DataW H×List MemPlace} (ht:P.underlying t=some (.slice e))
  (h:DataW.trod enc P W base sp held fuel t [.slice a n cap]=some x):n=0∨∃ es sp',x.1=.slice es sp'∧es.length=n:=by
 rcases DataW.trod_slice ht h with⟨e1,_⟩ | ⟨a',len,cap',elems,rest,m,_,e1,rfl,_,_,_,hlen,_⟩
 ·cases e1;exact .inl rfl
 cases e1;exact .inr ⟨_,_,rfl,by simpa using hlen⟩
end RowKit
end
section
set_option maxRecDepth 100000
namespace RowKit
open Go.ChangeShapes Go.WideShapes Go.ChangeAt Go.RowKit Go.Proofs Eng Ref03 Ctrl CtrlB Oracle
theorem EZ : Tryz.prog.globalNamed "larder/oracle.odd" = some 0 := by kernel_rfl
theorem Hj:(Tryz.prog.globals[0]?).map (·.type)=some 294:=by kernel_rfl
theorem DG {W : World} {enc : TypeId × Value → Unit} {g : Nat} {t : TypeId} {cs : Array Value} {fuel : Nat} {p : List MemPlace} {held : Bool} {sp : Nat → Bool} (hg : Tryz.prog.globalNamed "larder/oracle.odd" = some g) (ht : (Tryz.prog.globals[g]?).map (·.type) = some t)
  (hv : W.var? Tryz.prog "larder/oracle.odd" = some cs) (hd : DataW.trod enc Tryz.prog W 0 sp held fuel t cs.toList = some (Rows.laid_larder_oracle_odd, p)) : lI (Eng.old W) := by
 obtain rfl:=Option.some.inj (EZ.symm.trans hg)
 obtain rfl:=Option.some.inj (Hj.symm.trans ht)
 obtain⟨xs,m,_,ex,_,hl,hel⟩:=DataW.trod_array Tryz.underlying294 hd
 have c5:Tryz.prog.cellsOf 27=1:=by kernel_rfl
 have e3:(xs.map (·.1))= [.lit (.int .u64 13234230157428861123),.lit (.int .u64 11329751410908088055)]:=(DataW.agg.inj (Prod.mk.inj ex).1).symm
 have key:∀ i (hi:i < 2) n,(xs.map (·.1))[i]?=some (DataW.lit (.int .u64 n))→ct (Eng.old W) ⟨0,i,none⟩ (.int .u64 n):=fun i hi n hn=>mO (by
  have hE:=hel i hi
  rw[c5,Nat.mul_one,List.getElem?_eq_getElem (by omega)] at hE
  obtain⟨z,e1,e2,_⟩:=DataW.trod_int Tryz.underlying27 hE
  rw[List.getElem?_map,List.getElem?_eq_getElem (by omega:i < xs.length),Option.map_some,e2] at hn
  have hz:z=n:=by simpa using hn
  rw[World.var?_cell EZ hv i,← hz]
  have h0:((cs.toList.drop i).take 1)[0]?=some (.int .u64 z):=by rw[e1];rfl
  simpa using h0)
 exact⟨key 0 (by decide) _ (by rw[e3];rfl),key 1 (by decide) _ (by rw[e3];rfl)⟩
theorem xG {W : World} (h : laidMetH Tryz.prog [("larder/oracle.odd", Rows.laid_larder_oracle_odd), ("math/bits.deBruijn64tab", Rows.laid_math_bits_deBruijn64tab)] W) : lI (Eng.old W) ∧ dz (Eng.old W) := by
 rw[MakeChecks.laidMetH_plain _ _ _ (by kernel_rfl)] at h
 obtain⟨ps,⟨g,t,cs,fuel,p,q,hg,ht,hv,hd,⟨g',t',cs',fuel',p',q',hg',ht',hv',hd',_,_⟩,_⟩,_,_⟩:=h
 exact⟨DG hg ht hv hd,Ds hg' ht' hv' hd'⟩
theorem xo {H:Type} {enc:TypeId×Value→H} {W:World} {base:Nat} {held:Bool} {fuel:Nat} {sp:Nat→Bool} {cs:List Value} {x:DataW H×List MemPlace}
  (h:DataW.trod enc Tryz.prog W base sp held fuel 52 cs=some x):∃ v os,cs= [v]∧jP (Eng.old W) v os∧(∀ n c,v=.slice none n c→c=0∧os= [])∧∀ o∈os,0≤o.2∧o.2 < 18446744073709551616:=by
 obtain⟨v,rows,rfl,hR,hm,hrow⟩:=s0 (sz:=2) Tryz.underlying52 (by kernel_rfl) (by decide) h
 have c3:Tryz.prog.cellsOf 9=1:=by kernel_rfl
 have c4:Tryz.prog.cellsOf 27=1:=by kernel_rfl
 obtain⟨os,rfl,hw⟩:=ox (f:=dS) (Q:=fun o=>0≤o.2∧o.2 < 18446744073709551616) rows fun r hr=>by
  obtain⟨m,y,hy⟩:=hrow r hr
  obtain⟨xs,m',_,_,hcl,hxl,hfld⟩:=DataW.trod_struct Tryz.underlying134 hy
  have hx3:xs.length=2:=hxl
  have f0:DataW.trod enc Tryz.prog W base sp held m' 9 ((r.drop 0).take (Tryz.prog.cellsOf 9))=xs[0]?:=hfld 0 _ rfl
  have f1:DataW.trod enc Tryz.prog W base sp held m' 27 ((r.drop 1).take (Tryz.prog.cellsOf 27))=xs[1]?:=hfld 1 _ rfl
  rw[c3,List.getElem?_eq_getElem (by omega)] at f0
  rw[c4,List.getElem?_eq_getElem (by omega)] at f1
  obtain⟨z0,e0,_,_⟩:=DataW.trod_string Tryz.underlying9 f0
  obtain⟨z1,e1,_,w1⟩:=DataW.trod_int Tryz.underlying27 f1
  have hl3:r.length=2:=hcl.trans (by kernel_rfl)
  match r,hl3 with
  | [a,b],_=>
   refine⟨(z0,z1),?_,wf_u64 w1⟩
   simp at e0 e1
   rw[e0,e1];rfl
 obtain⟨a,cap,rfl,hA,hnil⟩:=hR
 refine⟨_,os,rfl,⟨a,cap,by rw[List.length_map],fun q=>?_⟩,fun n c e=>?_,hw⟩
 ·obtain⟨b,o,rfl,hA1⟩:=hA (by simpa using q)
  exact⟨b,o,rfl,fun i t ht j x hx=>hA1 i (dS t) (by rw[List.getElem?_map,ht];rfl) j x hx⟩
 cases e
 obtain⟨h1,h2⟩:=hnil rfl
 exact⟨h1,by simpa using h2⟩
end RowKit
end
section
set_option maxRecDepth 100000
namespace Exact11
open Go.RowKit Go.Proofs Eng Ty Bits Mem Search Arena CtrlB Ctrl Layout GroupB Group TableB TableI Table Cells Refill Small RefA RefT
open Exact (PR cx ik jn nY my nV)
def cf (pr:Nat) (l:Lay) (ps:List SR):HP:=stars (ps.map (rsH pr l))
theorem mr {pr:Nat} {l:Lay} {ps:List SR} {k:Nat} {x:SR} {L:List HP} (h:ps[k]?=some x):Ent (cf pr l ps::L) (rsH pr l x::cf pr l (ps.eraseIdx k)::L):=fun w hw=>by
 have h1:=cl.1 hw
 have h2:=h1.perm (((ik h).map (rsH pr l)).append_right L)
 have h3:Sat (stars ((ps.eraseIdx k).map (rsH pr l) ++ (rsH pr l x::L))) w:=h2.perm (by rw[List.map_cons,List.cons_append];exact List.perm_middle.symm)
 exact(cl.2 h3:Sat (stars (cf pr l (ps.eraseIdx k)::rsH pr l x::L)) w).perm (List.Perm.swap _ _ _)
theorem kW {pr:Nat} {l:Lay} {ps:List SR} {k:Nat} {x:SR} {L:List HP} (h:k < ps.length):Ent (rsH pr l x::cf pr l (ps.eraseIdx k)::L) (cf pr l (ps.set k x)::L):=fun w hw=>by
 have h1:Sat (stars (cf pr l (ps.eraseIdx k)::rsH pr l x::L)) w:=hw.perm (List.Perm.swap _ _ _)
 have h2:=cl.1 h1
 have hp:=(ik (nY h x)).map (rsH pr l)
 rw[jn] at hp
 refine cl.2 (h2.perm ?_)
 refine List.perm_middle.trans ?_
 rw[← List.cons_append,← List.map_cons]
 exact hp.symm.append_right L
theorem sZ {pr:Nat} {l:Lay} {ps:List SR} {x:SR} {L:List HP}:Ent (rsH pr l x::cf pr l ps::L) (cf pr l (ps ++ [x])::L):=fun w hw=>by
 have h1:Sat (stars (cf pr l ps::rsH pr l x::L)) w:=hw.perm (List.Perm.swap _ _ _)
 have h2:=cl.1 h1
 refine cl.2 (h2.perm ?_)
 rw[List.map_append,List.append_assoc]
 exact .refl _
theorem kj (pr:Nat) (l:Lay) (ps:List SR):cf pr l (ps.map cj)=cf pr l ps:=by
 unfold cf
 rw[List.map_map]
 rfl
theorem BQ {pr:Nat} {l:Lay} {L:List HP}:Ent L (cf pr l []::L):=fun w hw=>cl.2 hw
def bJ (pa:Nat) (l:Lay) (x:SR):List Value:=[.pointer (some ⟨pa,0,none⟩),.int .i64 l.key,.int .i64 l.elem,.int .i64 l.ka,.int .i64 l.ea,.int .i64 l.cap,.int .i64 l.eo,.int .i64 l.bo,.int .i64 l.slot,.int .i64 l.group,.int .i64 (x.off:Nat),.pointer (some ⟨x.p,0,none⟩),.bool x.over]
theorem n3 (pa:Nat) (l:Lay) (x:SR):(bJ pa l x).length=13:=rfl
theorem xm {pa:Nat} {l:Lay} {ps:List SR} {k:Nat} {x x':SR} (h:ps[k]?=some x) (he:bJ pa l x'=bJ pa l x):rowOf (bJ pa l) (ps.set k x')=rowOf (bJ pa l) ps:=by
 unfold rowOf
 have:(ps.set k x').map (bJ pa l)=ps.map (bJ pa l):=by
  rw[List.map_set,he]
  refine List.ext_getElem? fun j=>?_
  rw[List.getElem?_set]
  split
  ·next q=>subst q;rw[List.getElem?_map,h,List.length_map];simp;rcases Nat.lt_or_ge k ps.length with q2 | q2;exact q2;rw[List.getElem?_eq_none q2] at h;cases h
  rfl
 rw[List.flatMap_def,List.flatMap_def,this]
theorem uS {x:SR} (h:x.dead=false):cj x=x:=by
 cases x
 simp_all [cj]
def mixS (ps:List SR) (i:Nat):List SR:=(ps.take i).map cj ++ ps.drop i
theorem xu (ps:List SR):mixS ps 0=ps:=by simp[mixS]
theorem zH (ps:List SR):mixS ps ps.length=ps.map cj:=by simp[mixS]
theorem zG {ps:List SR} {i:Nat} {x:SR} (h:ps[i]?=some x):(mixS ps i)[i]?=some x:=by
 have hl:i < ps.length:=by rcases Nat.lt_or_ge i ps.length with q | q;exact q;rw[List.getElem?_eq_none q] at h;cases h
 unfold mixS
 rw[List.getElem?_append_right (by simp;omega)]
 simp only[List.length_map,List.length_take,Nat.min_eq_left (Nat.le_of_lt hl),Nat.sub_self,List.getElem?_drop,Nat.add_zero]
 exact h
theorem qy {ps:List SR} {i:Nat} {x:SR} (h:ps[i]?=some x):(mixS ps i).set i (cj x)=mixS ps (i+1):=by
 have hl:i < ps.length:=by rcases Nat.lt_or_ge i ps.length with q | q;exact q;rw[List.getElem?_eq_none q] at h;cases h
 unfold mixS
 have hd:ps.drop i=x::ps.drop (i+1):=by
  rw[List.getElem?_eq_getElem hl] at h
  rw[List.drop_eq_getElem_cons hl,Option.some.inj h]
 have ht:ps.take (i+1)=ps.take i ++ [x]:=by rw[List.take_add_one,h];rfl
 have hlen:((ps.take i).map cj).length=i:=by simp;omega
 rw[hd,ht,List.map_append,List.set_append_right _ _ (by omega),hlen,Nat.sub_self,List.append_assoc]
 rfl
def eW (ps:List SR):Nat:=(ps.filter (·.dead)).length
theorem iv (ps:List SR):eW (ps.map cj)=eW ps:=by
 unfold eW
 rw[List.filter_map,List.length_map]
 rfl
theorem qP (ps:List SR) (x:SR) (h:x.dead=false):eW (ps ++ [x])=eW ps:=by
 unfold eW
 rw[List.filter_append]
 simp[h]
theorem xX (ps:List SR) (k:Nat) (x:SR):eW (ps.set k x)≤eW ps+1:=by
 unfold eW
 induction ps generalizing k with
 | nil=>simp
 | cons a r ih=>
  cases k with
  | zero=>
   rw[List.set_cons_zero,List.filter_cons,List.filter_cons]
   split <;> split <;> simp <;> omega
  | succ k=>
   have:=ih k
   rw[List.set_cons_succ,List.filter_cons,List.filter_cons]
   split
   ·simp only[List.length_cons];omega
   exact this
theorem vd {ps:List SR} {k:Nat} {x x':SR} (h:ps[k]?=some x) (hd:x'.dead=x.dead):eW (ps.set k x')=eW ps:=by
 unfold eW
 induction ps generalizing k with
 | nil=>simp at h
 | cons a r ih=>
  cases k with
  | zero=>
   simp at h
   subst h
   rw[List.set_cons_zero,List.filter_cons,List.filter_cons,hd]
   split <;> simp
  | succ k=>
   have:=ih (k:=k) (by simpa using h)
   rw[List.set_cons_succ,List.filter_cons,List.filter_cons]
   split
   ·simp only[List.length_cons];omega
   exact this
theorem fe.few {s:ArS} (hs:s.ok) {l:Lay} {ps:List SR} {ts:List PR} (h:fe s l ps ts):ps.length≤eW ps+131072:=by
 have h1:(ps.filter fun x=>!x.dead).length+eW ps=ps.length:=by
  unfold eW
  clear h
  induction ps with
  | nil=>rfl
  | cons a r ih=>
   rw[List.filter_cons,List.filter_cons]
   cases a.dead <;> simp only[Bool.not_false,Bool.not_true,if_true,Bool.false_eq_true,if_false,List.length_cons] <;> omega
 have hnd:((ps.filter fun x=>!x.dead).map fun x=>((x.off:Nat):Int)).Nodup:=by
  rw[List.nodup_iff_pairwise_ne,List.pairwise_map,List.pairwise_filter]
  rw[List.pairwise_iff_getElem]
  intro i j hi hj hij d1 d2 e
  have:=(h.two i j ps[i] ps[j] (by omega) (List.getElem?_eq_getElem hi) (List.getElem?_eq_getElem hj) (by simpa using d1) (by simpa using d2))
  omega
 have h2:=my (ys:=s.bl.map (·.1)) hnd fun o ho=>by
  obtain⟨x,hx,rfl⟩:=List.mem_map.1 ho
  rw[List.mem_filter] at hx
  exact List.mem_map.2 ⟨_,((h.one x hx.1).live (by simpa using hx.2)).2.1,rfl⟩
 rw[List.length_map,List.length_map] at h2
 have h3:=nV (l:=s.bl) fun p hp=>(fC p.2 (hs.isC p (cr.1 hp).1)).1
 have h4:=hs.room
 have h5:=hs.limit
 unfold ArS.live at h4
 omega
end Exact11
end
end Go.Proofs.YthkajgkagnenbaaGreatDoor
