import Derived.Test.YthkajgkagnenbaaGreatDoorExact11S
import Derived.SizedLaws
set_option linter.unusedVariables false
set_option linter.unusedSimpArgs false
set_option linter.unusedSectionVars false
namespace Go.Proofs.YthkajgkagnenbaaGreatDoor
section
set_option maxRecDepth 100000
namespace RowKit
open Go.ChangeShapes Go.WideShapes Go.ChangeAt Go.RowKit Go.Proofs Eng Ref03 Ctrl CtrlB Oracle
theorem ER : Tryz.prog.globalNamed "larder/oracle.odd" = some 0 := by kernel_rfl
theorem Ha:(Tryz.prog.globals[0]?).map (·.type)=some 294:=by kernel_rfl
theorem Dx {W : World} {enc : TypeId × Value → Unit} {g : Nat} {t : TypeId} {cs : Array Value} {fuel : Nat} {p : List MemPlace} {held : Bool} {sp : Nat → Bool} (hg : Tryz.prog.globalNamed "larder/oracle.odd" = some g) (ht : (Tryz.prog.globals[g]?).map (·.type) = some t)
  (hv : W.var? Tryz.prog "larder/oracle.odd" = some cs) (hd : DataW.trod enc Tryz.prog W 0 sp held fuel t cs.toList = some (Rows.laid_larder_oracle_odd, p)) : lC (Eng.old W) := by
 obtain rfl:=Option.some.inj (ER.symm.trans hg)
 obtain rfl:=Option.some.inj (Ha.symm.trans ht)
 obtain⟨xs,m,_,ex,_,hl,hel⟩:=DataW.trod_array Tryz.underlying294 hd
 have c5:Tryz.prog.cellsOf 27=1:=by kernel_rfl
 have e3:(xs.map (·.1))= [.lit (.int .u64 13234230157428861123),.lit (.int .u64 11329751410908088055)]:=(DataW.agg.inj (Prod.mk.inj ex).1).symm
 have key:∀ i (hi:i < 2) n,(xs.map (·.1))[i]?=some (DataW.lit (.int .u64 n))→cr (Eng.old W) ⟨0,i,none⟩ (.int .u64 n):=fun i hi n hn=>mG (by
  have hE:=hel i hi
  rw[c5,Nat.mul_one,List.getElem?_eq_getElem (by omega)] at hE
  obtain⟨z,e1,e2,_⟩:=DataW.trod_int Tryz.underlying27 hE
  rw[List.getElem?_map,List.getElem?_eq_getElem (by omega:i < xs.length),Option.map_some,e2] at hn
  have hz:z=n:=by simpa using hn
  rw[World.var?_cell ER hv i,← hz]
  have h0:((cs.toList.drop i).take 1)[0]?=some (.int .u64 z):=by rw[e1];rfl
  simpa using h0)
 exact⟨key 0 (by decide) _ (by rw[e3];rfl),key 1 (by decide) _ (by rw[e3];rfl)⟩
theorem xA {W : World} (h : laidMetH Tryz.prog [("larder/oracle.odd", Rows.laid_larder_oracle_odd), ("math/bits.deBruijn64tab", Rows.laid_math_bits_deBruijn64tab)] W) : lC (Eng.old W) ∧ dx (Eng.old W) := by
 rw[MakeChecks.laidMetH_plain _ _ _ (by kernel_rfl)] at h
 obtain⟨ps,⟨g,t,cs,fuel,p,q,hg,ht,hv,hd,⟨g',t',cs',fuel',p',q',hg',ht',hv',hd',_,_⟩,_⟩,_,_⟩:=h
 exact⟨Dx hg ht hv hd,Di hg' ht' hv' hd'⟩
theorem xh {H:Type} {enc:TypeId×Value→H} {W:World} {base:Nat} {held:Bool} {fuel:Nat} {sp:Nat→Bool} {cs:List Value} {x:DataW H×List MemPlace}
  (h:DataW.trod enc Tryz.prog W base sp held fuel 52 cs=some x):∃ v os,cs= [v]∧jO (Eng.old W) v os∧(∀ n c,v=.slice none n c→c=0∧os= [])∧∀ o∈os,0≤o.2∧o.2 < 18446744073709551616:=by
 obtain⟨v,rows,rfl,hR,hm,hrow⟩:=sU (sz:=2) Tryz.underlying52 (by kernel_rfl) (by decide) h
 have c3:Tryz.prog.cellsOf 9=1:=by kernel_rfl
 have c4:Tryz.prog.cellsOf 27=1:=by kernel_rfl
 obtain⟨os,rfl,hw⟩:=ot (f:=dP) (Q:=fun o=>0≤o.2∧o.2 < 18446744073709551616) rows fun r hr=>by
  obtain⟨m,y,hy⟩:=hrow r hr
  obtain⟨xs,m',_,_,hcl,hxl,hfld⟩:=DataW.trod_struct Tryz.underlying134 hy
  have hx3:xs.length=2:=hxl
  have f0:DataW.trod enc Tryz.prog W base sp held m' 9 ((r.drop 0).take (Tryz.prog.cellsOf 9))=xs[0]?:=hfld 0 _ rfl
  have f1:DataW.trod enc Tryz.prog W base sp held m' 27 ((r.drop 1).take (Tryz.prog.cellsOf 27))=xs[1]?:=hfld 1 _ rfl
  rw[c3,List.getElem?_eq_getElem (by omega)] at f0
  rw[c4,List.getElem?_eq_getElem (by omega)] at f1
  obtain⟨z0,e0,_,_⟩:=DataW.trod_string Tryz.underlying9 f0
  obtain⟨z1,e1,_,w1⟩:=DataW.trod_int Tryz.underlying27 f1
  have hl3:r.length=2:=hcl.trans (by kernel_rfl)
  match r,hl3 with
  | [a,b],_=>
   refine⟨(z0,z1),?_,wf_u64 w1⟩
   simp at e0 e1
   rw[e0,e1];rfl
 obtain⟨a,cap,rfl,hA,hnil⟩:=hR
 refine⟨_,os,rfl,⟨a,cap,by rw[List.length_map],fun q=>?_⟩,fun n c e=>?_,hw⟩
 ·obtain⟨b,o,rfl,hA1⟩:=hA (by simpa using q)
  exact⟨b,o,rfl,fun i t ht j x hx=>hA1 i (dP t) (by rw[List.getElem?_map,ht];rfl) j x hx⟩
 cases e
 obtain⟨h1,h2⟩:=hnil rfl
 exact⟨h1,by simpa using h2⟩
end RowKit
end
section
set_option maxRecDepth 100000
namespace Exact11
open Go.RowKit Go.Proofs Eng Ty Bits Mem Search Arena CtrlB Ctrl Layout GroupB Group TableB TableI Table Cells Refill Small RefA RefT
open BytesP Ref03 Bench
open Exact (PR cA)
section
variable (pr:Nat) (l:Lay) (hl:l.err=0) (x:SR) (hk:x.S.kind=1∨x.S.kind=3) (hok:∀ i,i < 8→(x.S.cells i).ok l)
include hl hk hok
end
end Exact11
end
section
set_option maxRecDepth 100000
namespace Exact11
open Go.RowKit Go.Proofs Eng Ty Bits Mem Search Arena CtrlB Ctrl Layout GroupB Group TableB TableI Table Cells Refill Small RefA RefT
open BytesP Oracle Ref04 Ref03
open Exact (PR cA oy vR)
@[reducible] def tj (o:pz):List Value:=[.int .i64 o.kind,.int .i64 o.s,.int .i64 o.n,.int .i64 o.tag,.int .u64 o.u,.string o.k,.string o.e]
def wG (A:HP) (v:Value) (os:List pz):Prop:=∃ a cap,v=.slice a os.length cap∧(0 < os.length→∃ b o,a=some ⟨b,o,none⟩∧∀(i:Nat) t,os[i]?=some t→∀(j:Nat) x,(tj t)[j]?=some x→cr A ⟨b,o+i*7+j,none⟩ x)
theorem xT {A:HP} {os:List pz} {b o i:Nat} {t:pz} (h:∀(i:Nat) t,os[i]?=some t→∀(j:Nat) x,(tj t)[j]?=some x→cr A ⟨b,o+i*7+j,none⟩ x) (ht:os[i]?=some t):
  ∀ j x,(tj t)[j]?=some x→cr A ((⟨b,o+(i:Int).toNat*7,none⟩:Addr).add j) x:=fun j x hx=>by
 rw[cD,Int.toNat_natCast]
 exact h i t ht j x hx
theorem Bw {pr:Nat} {l:Lay} {pa:Nat} {L:List HP}:Ent L (aE 73 13 (.slice none 0 0) ([]:List SR).length (rowOf (bK pa l) [])::ck pr l []::aE 40 1 (.slice none 0 0) ([]:List PR).length (dA [])::cA pr l []::L):=
 fun w h=>ew (BD w (ew (vR w h)))
theorem pM (G:HP) (hGT:dx G) (hGO:lC G) (vf vo vs:Value) (xs:List Int) (os:List (ByteArray×Int)) (ops:List pz) (hA:pC G vf xs) (hO:jO G vo os) (hn0:∀ n c,vo=.slice none n c→c=0∧os= []) (hos:os.length*24≤140737488351232) (hov:∀ o∈os,0≤o.2∧o.2 < 18446744073709551616) (hS:wG G vs ops) (hmx:ops.length*72≤140737488351232) (how:∀ o∈ops,o.wf) (limit:Int):
  aG Tryz.prog 6 #[.agg #[vf,.int .i64 limit,vo],vs] [G] (fun v L=>v=.bool true∧L= [G]):=by
 obtain⟨ta,tcap,rfl,hT0⟩:=hS
 refine aq en6 Tryz.func6 rfl rfl rfl fun Fr w0=>aR ?_
 refine sr<|aP rfl rfl fun b2=>asg rfl rfl<|lz<|l_q rfl (aK rfl G6 G3) ?_
 refine lcf rfl rfl rfl (wY G vf vo xs os hA hO hn0 hos limit) ?_
 rintro v L' ⟨pb,b,rfl,(⟨rfl,rfl⟩ | ⟨rfl,pa,po,pr,bq,bm,l,hl,hlim,hg,rfl⟩)⟩
 refine bF ?_
 ·skip
  refine bF ?_
  refine mv rfl rfl<|l_q rfl (aa rfl ga) ?_
  refine l_q rfl (aa rfl ga) ?_
  refine l_q rfl (aa rfl ga) ?_
  refine asg rfl rfl<|asg rfl rfl<|asg rfl rfl<|lc<|ah<|sr<|mv rfl rfl<|l_q rfl (cW rfl (ca ·))<|lc<|aA rfl (fun p1=>?_) fun p1=>?_
  ·cases p1
  refine al<|ak<|ah<|sr<|mv rfl rfl<|l_q rfl (cW rfl (ca ·))<|lc<|aA rfl (fun p2=>?_) fun p2=>?_
  ·exact sr<|asg rfl rfl<|lc<|rt<|fr1 rfl ([G]) (.tmp rfl) ⟨rfl,rfl⟩
  cases p2
 refine bF ?_
 refine mv rfl rfl<|l_q rfl (aa rfl ga) ?_
 refine l_q rfl (aa rfl ga) ?_
 refine l_q rfl (aa rfl ga) ?_
 refine asg rfl rfl<|asg rfl rfl<|asg rfl rfl<|lc<|ah<|sr<|mv rfl rfl<|l_q rfl (cW rfl (ca ·))<|lc<|aA rfl (fun p1=>?_) fun p1=>?_
 ·cases p1
 refine al<|ak<|ah<|sr<|mv rfl rfl<|l_q rfl (cW rfl (ca ·))<|lc<|aA rfl (fun p2=>?_) fun p2=>?_
 ·cases p2
 refine al<|ak<|ah<|sr<|mv rfl rfl<|l_q rfl (ql rfl Ec)<|mv rfl rfl<|lc<|ay ?_
 refine fG (Bw (pr:=pr) (l:=l) (pa:=pa)) ?_
 refine bw (fun x:Nat×ArS×List SR×List PR×Value×Value=>x.1≤ops.length∧eX x.2.1 l x.2.2.1 x.2.2.2.1∧jg x.2.2.1 x.2.2.2.1≤x.1) (fun x=>[(5,.pointer (some ⟨pb,0,none⟩)),(20,(.slice ta ops.length tcap)),(21,.int .i64 (ops.length:Nat)),(22,.int .i64 (x.1:Nat))]) (fun x=>G::pt po (.cells #[.map (some bm)] 192 (0,0))::cB (fun k:ByteArray=>Value.string k) bm (bO os)::roH bq os::pt pb (.cells #[.pointer (some ⟨pa,0,none⟩),.pointer (some ⟨po,0,none⟩),.pointer (some ⟨pr,0,none⟩),.pointer (some ⟨bq,0,none⟩),.int .i64 l.key,.int .i64 l.elem,.int .i64 l.ka,.int .i64 l.ea,.int .i64 l.cap,.int .i64 l.eo,.int .i64 l.bo,.int .i64 l.slot,.int .i64 l.group,x.2.2.2.2.1,x.2.2.2.2.2] 68 (0,0))::aE 73 13 x.2.2.2.2.1 x.2.2.1.length (rowOf (bK pa l) x.2.2.1)::ck pr l x.2.2.1::aE 40 1 x.2.2.2.2.2 x.2.2.2.1.length (dA x.2.2.2.1)::cA pr l x.2.2.2.1::bd pr x.2.1::ae pa x.2.1::Fr) (fun x=>ops.length-x.1) (0,ArS.new limit,[],[],_,_) ⟨by omega,eX.nil _ _,by simp[jg,fx]⟩ ⟨rfl,rfl,rfl,rfl,trivial⟩ (by first | exact Ent.refl _ | (exact en)) ?_
 rintro⟨i,s,ps,ts,vP,vT⟩ ⟨hi,hAll,hn⟩
 dsimp only at hi hAll hn ⊢
 refine cH (φ:=s.ok) (fun w hw=>bR (pa:=pa) hw tk) fun hok=>?_
 have hfew:=hAll.few hok
 have hn2:ps.length+fx ps+ts.length≤i:=hn
 refine sr<|l_q rfl (qi rfl rfl (aS ·))<|lc<|ah<|aA rfl (fun g1=>?_) fun g1=>?_
 ·skip
  have hil:i < ops.length:=by omega
  obtain⟨tb,tof,rfl,hT1⟩:=hT0 (by omega)
  obtain⟨o,ho⟩:∃ o,ops[i]?=some o:=⟨ops[i],List.getElem?_eq_getElem hil⟩
  have hcell:=xT hT1 ho
  refine al<|ak<|ah<|ay<|sr<|mv rfl rfl<|l_q rfl (aU rfl rfl Ec wN (by omega)) ?_
  apply l_q rfl
  ·apply eF (A:=G) (us:=[.int .i64 o.kind,.int .i64 o.s,.int .i64 o.n,.int .i64 o.tag,.int .u64 o.u,.string o.k,.string o.e]) rfl Bi wN rfl
   ·exact tk
   exact hcell
  refine az rfl G1 fun b9=>asg rfl rfl<|sta rfl rfl rfl wN rfl rfl ?_
  refine lz<|mv rfl rfl<|mv rfl rfl<|l_q rfl (aK rfl Bi wN) ?_
  refine lcf rfl rfl rfl (wT G hGT hGO pb pa po pr bq bm os hg hov l hl s hok ps ts vP vT (by omega) (by omega) hAll (i:Nat) o (how o (List.mem_of_getElem? ho))) ?_
  rintro v L' ⟨s',ps',ts',vP',vT',rfl,rfl,hA2,hn3⟩
  refine bF ?_
  refine l_q rfl (cW rfl (ca ·))<|lc<|aA rfl (fun g2=>?_) fun g2=>?_
  ·cases g2
  refine al<|aV<|ak<|aB<|l_q rfl (ba rfl rfl) ?_
  refine mv rfl rfl<|aj ?_
  apply aO ((i+1,s',ps',ts',vP',vT'))
  ·exact⟨by dsimp only;omega,hA2,by dsimp only;omega⟩
  ·dsimp only;omega
  ·exact⟨rfl,rfl,rfl,rfl,trivial⟩
  exact en
 refine xt rfl<|ak<|ah<|aT mixed ?_
 apply dq 0 rfl
 ·exact yq (ai rfl)
 apply dq 1 rfl
 ·exact yq (ad rfl)
 apply dq 2 rfl
 ·exact yq (qfa 0 rfl cZ rfl rfl dk)
 apply dq 3 rfl
 ·exact yq (qld rfl dm)
 apply dq 5 rfl
 ·exact yq (ai rfl)
 apply dq 6 rfl
 ·exact yq (ad rfl)
 apply dq 7 rfl
 ·exact yq (qfa 2 rfl cZ rfl rfl mP)
 apply dq 8 rfl
 ·exact yq (qld rfl mQ)
 refine an [3,2,1,0] [8,7,6,5] 4 [(36,_)] gO ⟨rfl,trivial⟩ (by kernel_rfl) (by kernel_rfl) fun Ex=>?_
 refine lc1 rfl rfl rfl (Cr pa s) ?_
 refine aj ?_
 apply n_d
 ·refine⟨?_,?_,?_,?_,trivial⟩
  ·apply ya rfl rfl;exact yq (qld rfl mQ)
  ·apply ya rfl rfl;exact yq (qfa 2 rfl cZ rfl rfl mP)
  ·apply ya rfl rfl;exact yq (ad rfl)
  apply ya rfl rfl;exact yq (ai rfl)
 refine an [8,7,6,5] [] 9 [(41,_)] gO ⟨rfl,trivial⟩ (by kernel_rfl) (by kernel_rfl) fun Ex=>?_
 refine lc1 rfl rfl rfl (uf pr s hok) ?_
 refine aj ?_
 apply n_d
 ·exact trivial
 apply dq 10 rfl
 ·exact yq (qi rfl rfl (aW ·))
 apply dq 11 rfl
 ·exact yq (ai rfl)
 refine jq (t:=44) rfl (fun z1=>?_) fun z1=>?_
 ·apply dq 12 rfl
  ·exact br rfl rfl (ai rfl)
  apply dq 13 rfl
  ·exact br rfl rfl (ad rfl)
  apply dq 14 rfl
  ·exact br rfl rfl (qfa 0 rfl cZ rfl rfl dk)
  apply dq 15 rfl
  ·exact br rfl rfl (qld rfl dm)
  apply dq 17 rfl
  ·exact br rfl rfl (ai rfl)
  apply dq 18 rfl
  ·exact br rfl rfl (ad rfl)
  apply dq 19 rfl
  ·exact br rfl rfl (qfa 2 rfl cZ rfl rfl mP)
  apply dq 20 rfl
  ·exact br rfl rfl (qld rfl mQ)
  apply dq 21 rfl
  ·exact br rfl rfl (ad rfl)
  apply dq 22 rfl
  ·exact br rfl rfl (qfa 1 rfl g5 rfl rfl yS3)
  apply dq 23 rfl
  ·apply br rfl rfl
   apply bH (A:=bd pr s) rfl yA3
   ·exact tk
   exact oy
  refine an [15,11,14,10,13,12] [23,22,21,20,19,18,17] 16 [(48,_),(44,_)] gO ⟨rfl,rfl,trivial⟩ (by kernel_rfl) (by kernel_rfl) fun Ex=>?_
  refine au rfl rfl<|lc1 rfl rfl rfl (vz pa s) ?_
  refine aj ?_
  apply n_d
  ·refine⟨?_,?_,?_,?_,?_,?_,?_,trivial⟩
   ·apply ya rfl rfl
    apply br rfl rfl
    apply bH (A:=bd pr s) rfl yA3
    ·exact tk
    exact oy
   ·apply ya rfl rfl;exact br rfl rfl (qfa 1 rfl g5 rfl rfl yS3)
   ·apply ya rfl rfl;exact br rfl rfl (ad rfl)
   ·apply ya rfl rfl;exact br rfl rfl (qld rfl mQ)
   ·apply ya rfl rfl;exact br rfl rfl (qfa 2 rfl cZ rfl rfl mP)
   ·apply ya rfl rfl;exact br rfl rfl (ad rfl)
   apply ya rfl rfl;exact br rfl rfl (ai rfl)
  apply dq 24 rfl
  ·exact br rfl rfl (qi rfl rfl (aW ·))
  apply dq 25 rfl
  ·exact yq (aL rfl rfl)
  apply dq 26 rfl
  ·exact yq (ai rfl)
  refine jq (t:=59) rfl (fun z2=>?_) fun z2=>?_
  ·apply dq 27 rfl
   ·exact br rfl rfl (ai rfl)
   refine an [27,26,25,24,23,22,21,20,19,18,17] [] 28 [(60,_),(59,_)] gO ⟨rfl,rfl,trivial⟩ (by kernel_rfl) (by kernel_rfl) fun Ex=>?_
   refine au rfl rfl<|lc1 rfl rfl rfl (lJ pb pa po pr bq l hl s hok ts vP vT (by omega) hAll.tab) ?_
   refine aj ?_
   apply n_d
   ·exact trivial
   apply dq 29 rfl
   ·exact yq (aL rfl rfl)
   refine an [29] [] 30 [(62,_)] gO ⟨rfl,trivial⟩ (by kernel_rfl) (by kernel_rfl) fun Ex=>?_
   refine asg rfl rfl<|aj ?_
   apply n_d
   ·exact trivial
   refine bj (by kernel_rfl) ?_
   exact ak<|rt<|fr1 rfl ([G]) (.tmp rfl) ⟨rfl,rfl⟩
  exact absurd rfl z2
 exact absurd rfl z1
end Exact11
end
section
set_option maxRecDepth 100000
namespace RowKit
open Go.ChangeShapes Go.WideShapes Go.ChangeAt Go.RowKit Go.Proofs Eng Ref03 Ctrl CtrlB Exact11 Oracle
theorem xk {H:Type} {enc:TypeId×Value→H} {W:World} {base:Nat} {held:Bool} {fuel:Nat} {sp:Nat→Bool} {cs:List Value} {x:DataW H×List MemPlace}
  (h:DataW.trod enc Tryz.prog W base sp held fuel 55 cs=some x):∃ v os,cs= [v]∧wG (Eng.old W) v os∧os.length≤maxLen∧(∀ o∈os,o.wf)∧(os.length=0∨∃ es sp',x.1=.slice es sp'∧es.length=os.length):=by
 obtain⟨v,rows,rfl,hR,hm,hrow⟩:=sU (sz:=7) Tryz.underlying55 (by kernel_rfl) (by decide) h
 have c3:Tryz.prog.cellsOf 3=1:=by kernel_rfl
 have c4:Tryz.prog.cellsOf 27=1:=by kernel_rfl
 have c5:Tryz.prog.cellsOf 9=1:=by kernel_rfl
 obtain⟨os,rfl,hw⟩:=ot (f:=tj) (Q:=pz.wf) rows fun r hr=>by
  obtain⟨m,y,hy⟩:=hrow r hr
  obtain⟨xs,m',_,_,hcl,hxl,hfld⟩:=DataW.trod_struct Tryz.underlying60 hy
  have hx7:xs.length=7:=hxl
  have f0:DataW.trod enc Tryz.prog W base sp held m' 3 ((r.drop 0).take (Tryz.prog.cellsOf 3))=xs[0]?:=hfld 0 _ rfl
  have f1:DataW.trod enc Tryz.prog W base sp held m' 3 ((r.drop 1).take (Tryz.prog.cellsOf 3))=xs[1]?:=hfld 1 _ rfl
  have f2:DataW.trod enc Tryz.prog W base sp held m' 3 ((r.drop 2).take (Tryz.prog.cellsOf 3))=xs[2]?:=hfld 2 _ rfl
  have f3:DataW.trod enc Tryz.prog W base sp held m' 3 ((r.drop 3).take (Tryz.prog.cellsOf 3))=xs[3]?:=hfld 3 _ rfl
  have f4:DataW.trod enc Tryz.prog W base sp held m' 27 ((r.drop 4).take (Tryz.prog.cellsOf 27))=xs[4]?:=hfld 4 _ rfl
  have f5:DataW.trod enc Tryz.prog W base sp held m' 9 ((r.drop 5).take (Tryz.prog.cellsOf 9))=xs[5]?:=hfld 5 _ rfl
  have f6:DataW.trod enc Tryz.prog W base sp held m' 9 ((r.drop 6).take (Tryz.prog.cellsOf 9))=xs[6]?:=hfld 6 _ rfl
  rw[c3,List.getElem?_eq_getElem (by omega)] at f0 f1 f2 f3
  rw[c4,List.getElem?_eq_getElem (by omega)] at f4
  rw[c5,List.getElem?_eq_getElem (by omega)] at f5 f6
  obtain⟨z0,e0,_,w0⟩:=DataW.trod_int Tryz.underlying3 f0
  obtain⟨z1,e1,_,w1⟩:=DataW.trod_int Tryz.underlying3 f1
  obtain⟨z2,e2,_,w2⟩:=DataW.trod_int Tryz.underlying3 f2
  obtain⟨z3,e3,_,w3⟩:=DataW.trod_int Tryz.underlying3 f3
  obtain⟨z4,e4,_,w4⟩:=DataW.trod_int Tryz.underlying27 f4
  obtain⟨z5,e5,_,w5⟩:=DataW.trod_string Tryz.underlying9 f5
  obtain⟨z6,e6,_,w6⟩:=DataW.trod_string Tryz.underlying9 f6
  have hl7:r.length=7:=hcl.trans (by kernel_rfl)
  match r,hl7 with
  | [a,b,c,d,e,f,g],_=>
   refine⟨⟨z0,z1,z2,z3,z4,z5,z6⟩,?_,⟨wf_i64 w0,wf_i64 w1,wf_i64 w2,wf_i64 w3,wf_u64 w4⟩⟩
   simp at e0 e1 e2 e3 e4 e5 e6
   rw[e0,e1,e2,e3,e4,e5,e6]
 obtain⟨a,cap,rfl,hA,_⟩:=hR
 refine⟨_,os,rfl,⟨a,cap,by rw[List.length_map],fun q=>?_⟩,by simpa using hm,hw,by simpa using sV Tryz.underlying55 h⟩
 obtain⟨b,o,rfl,hA1⟩:=hA (by simpa using q)
 exact⟨b,o,rfl,fun i t ht j x hx=>hA1 i (tj t) (by rw[List.getElem?_map,ht];rfl) j x hx⟩
theorem wV {H:Type} {enc:TypeId×Value→H} {W:World} {base:Nat} {held:Bool} {fuel:Nat} {sp:Nat→Bool} {cs:Array Value} {x:DataW H×List MemPlace} (hcs:cs.toList.length=Tryz.prog.cellsOf 54) (hsp:sp=fun _=>true)
  (h:DataW.trod enc Tryz.prog W base sp held fuel 54 cs.toList=some x):∃ vf vo lim xs os,cs=#[vf,.int .i64 lim,vo]∧pC (Eng.old W) vf xs∧jO (Eng.old W) vo os∧(∀ n c,vo=.slice none n c→c=0∧os= [])∧(∀ o∈os,0≤o.2∧o.2 < 18446744073709551616)∧
   (os.length=0∨∃ fs es sp',x.1=.agg fs∧fs[2]?=some (.slice es sp')∧es.length=os.length):=by
 subst hsp
 have c25:Tryz.prog.cellsOf 54=3:=by kernel_rfl
 have c22:Tryz.prog.cellsOf 22=1:=by kernel_rfl
 have c3:Tryz.prog.cellsOf 3=1:=by kernel_rfl
 have c56:Tryz.prog.cellsOf 52=1:=by kernel_rfl
 obtain⟨a,b,c,rfl⟩:∃ a b c,cs=#[a,b,c]:=by
  rw[c25] at hcs
  obtain⟨l⟩:=cs
  match l,hcs with
  | [a,b,c],_=>exact⟨a,b,c,rfl⟩
 obtain⟨xs,m,_,ex,_,hxl,hfld⟩:=DataW.trod_struct Tryz.underlying54 h
 have hx3:xs.length=3:=hxl
 have f0:DataW.trod enc Tryz.prog W base (fun _=>true) held m 22 (((#[a,b,c]:Array Value).toList.drop 0).take (Tryz.prog.cellsOf 22))=xs[0]?:=hfld 0 _ rfl
 rw[c22,List.getElem?_eq_getElem (by omega)] at f0
 have f1:DataW.trod enc Tryz.prog W base (fun _=>true) held m 3 (((#[a,b,c]:Array Value).toList.drop 1).take (Tryz.prog.cellsOf 3))=xs[1]?:=hfld 1 _ rfl
 rw[c3,List.getElem?_eq_getElem (by omega)] at f1
 have f2:DataW.trod enc Tryz.prog W base (fun _=>true) held m 52 (((#[a,b,c]:Array Value).toList.drop 2).take (Tryz.prog.cellsOf 52))=xs[2]?:=hfld 2 _ rfl
 rw[c56,List.getElem?_eq_getElem (by omega)] at f2
 obtain⟨vf,zs,e0,hnum,_,_⟩:=zv Tryz.underlying22 Tryz.underlying3 c3 f0
 obtain⟨z1,e1,_,w1⟩:=DataW.trod_int Tryz.underlying3 f1
 obtain⟨vo,os,e2,hov,hn0,how⟩:=xh f2
 obtain rfl:a=vf:=by simpa using e0
 obtain rfl:b=.int .i64 z1:=by simpa using e1
 obtain rfl:c=vo:=by simpa using e2
 refine⟨a,c,z1,zs,os,rfl,hnum,hov,hn0,how,?_⟩
 obtain⟨sa,sc,rfl,_⟩:=hov
 have f2':DataW.trod enc Tryz.prog W base (fun _=>true) held m 52 [.slice sa os.length sc]=some xs[2]:=f2
 rcases sV Tryz.underlying52 f2' with h0 | ⟨es,sp',h1,h2⟩
 ·exact .inl h0
 refine .inr ⟨xs.map (·.1),es,sp',by rw[ex],?_,h2⟩
 rw[List.getElem?_map,List.getElem?_eq_getElem (by omega),Option.map_some,h1]
theorem sJ {H:Type} {P:Program} {ts:List TypeId} {ds:List (DataW H)} (h:(DataW.weightsEach P ts ds).all (·≤reachBytes)=true) {j i:Nat} {t u e:TypeId} {fs:Array Field} {parts elems spare:List (DataW H)}
  (ht:ts[j]?=some t) (hd:ds[j]?=some (.agg parts)) (hu:P.underlying t=some (.struct fs)) (hi:(fs.toList.map (·.type))[i]?=some u) (hp:parts[i]?=some (.slice elems spare)) (he:P.underlying u=some (.slice e)):(elems.length+spare.length)*P.bytesOf e≤reachBytes:=by
 refine of_decide_eq_true (List.all_eq_true.1 h _ (DataW.weights_mem_each ht hd _ ?_))
 simp only[DataW.weights,hu]
 exact DataW.weights_mem_each hi hp _ (by simp[DataW.weights,he])
end RowKit
end
section
set_option maxRecDepth 100000
namespace Exact11
open Go.RowKit Go.Proofs Eng Ty Bits Mem Search Arena CtrlB Ctrl Layout GroupB Group TableB TableI Table Cells Refill Small RefA RefT
open BytesP Oracle Ref04 Ref03
open Exact (PR cA)
end Exact11
end
end Go.Proofs.YthkajgkagnenbaaGreatDoor
