import Derived.Test.YthkajgkagnenbaaGreatDoorExact11S
import Derived.SizedLaws
set_option linter.unusedVariables false
set_option linter.unusedSimpArgs false
set_option linter.unusedSectionVars false
namespace Go.Proofs.YthkajgkagnenbaaGreatDoor
section
set_option maxRecDepth 100000
namespace Exact11
open Go.RowKit Go.Proofs Eng Ty Bits Mem Search Arena CtrlB Ctrl Layout GroupB Group TableB TableI Table Cells Refill Small RefA RefT
open BytesP Ref03 Bench
open Exact (PR cx)
def smF (l:Lay) (S:Sm) (a:Nat):Int:=if a < 32 then hdF (smV S) a else if a < 32+gN l then c7 l S.cells (a-32) else 0
theorem BH {l:Lay} {S:Sm} (h:∀ i,i < 8→(S.cells i).ok l) (a:Nat):0≤smF l S a∧smF l S a < 256:=by
 unfold smF
 split
 ·exact rO _ _
 split
 ·exact kH h _
 omega
theorem ze (l:Lay) (S:Sm):bt (hdF (smV S)) 32=bt (smF l S) 32:=iq fun i hi=>by unfold smF;rw[if_pos hi]
theorem BJ (l:Lay) (S:Sm):bt (smF l S) 32 ++ bt (c7 l S.cells) (gN l)=bt (smF l S) (32+gN l):=jk fun i hi=>by
 unfold smF
 rw[if_neg (by omega),if_pos (by omega),show 32+i-32=i by omega]
theorem zd (l:Lay) (S:Sm) (m:Nat):bt (smF l S) (32+gN l) ++ List.replicate m (Value.int .u8 0)=bt (smF l S) (32+gN l+m):=by
 rw[kp]
 exact jk fun i hi=>by unfold smF;rw[if_neg (by omega),if_neg (by omega)]
theorem zc {s:ArS} (hb:∀ i,0≤s.m i∧s.m i < 256) {off:Nat} {l:Lay} {S:Sm} (h:SmP s off l S) {C:Nat} (hz:iy s off (32+gN l) (C:Int)):dE s.m off C=dE (smF l S) 0 C:=lP fun i hi=>by
 rw[Nat.zero_add]
 unfold smF
 split
 ·next q=>
  have h1:=h.head (i / 8) (by omega)
  have h2:=pd hb (off+8*(i / 8)) (show i % 8 < 8 by omega)
  rw[h1] at h2
  unfold hdF
  rw[h2]
  congr 1;omega
 split
 ·next q1 q2=>
  have h1:=h.body (i-32) (by omega)
  rw[← h1]
  congr 1;omega
 exact hz _ (by omega) (by omega)
theorem BP (x:SR) (b:Nat):aG Tryz.prog 47 #[.slice (some ⟨b,0,none⟩) 4 4] [pt b (.cells #[.int .i64 x.S.kind,.int .i64 x.S.pins,.int .i64 x.S.next,.int .i64 x.S.used] 3 (0,0))] (fun r L=>r=.string (dE (hdF (smV x.S)) 0 32)∧L= [pt b (.cells #[.int .i64 x.S.kind,.int .i64 x.S.pins,.int .i64 x.S.next,.int .i64 x.S.used] 3 (0,0))]):=
 re (pt b (.cells #[.int .i64 x.S.kind,.int .i64 x.S.pins,.int .i64 x.S.next,.int .i64 x.S.used] 3 (0,0))) b 0 4 4 (by decide) (by decide) (smV x.S) fun i hi=>by
  refine vZ ?_
  rw[Nat.zero_add]
  have:i=0∨i=1∨i=2∨i=3:=by omega
  rcases this with rfl | rfl | rfl | rfl <;> rfl
theorem uC {x:SR} {g0 cap:Nat}:su (aE 142 5 (.slice (some ⟨g0,0,none⟩) 8 cap) 8 (rowOf bH (bu x.S.cells 8))) g0 0 x.S.cells:=fun i hi j u hu=>by
 have hj:j < 5:=by
  have:=(List.getElem?_eq_some_iff.1 hu).1
  simpa [bH] using this
 rw[cz]
 refine ji ?_
 rw[show 0+i*5+j=i*5+j by omega,RefT.cells_row x.S.cells hi j hj]
 exact hu
section
variable (pr:Nat) (l:Lay) (hl:l.err=0) (x:SR) (hk:x.S.kind=1∨x.S.kind=3) (hok:∀ i,i < 8→(x.S.cells i).ok l)
include hl hk hok
theorem vz:aG Tryz.prog 17 #[.pointer (some ⟨x.p,0,none⟩)] [rsH pr l x] (fun v L=>v=.string (dE (smF l x.S) 0 (fc l).toNat)∧L= [rsH pr l x]):=by
 have hbd:=Lay.bnd hl
 have hN:=eL hl
 have hgl:=hN.g
 obtain⟨k1,k2,k3⟩:=lg hl
 have hcc:aC ((32+gN l:Nat):Int)=fc l:=by unfold fc;congr 1;omega
 have hwr:IntKind.i64.wrap (fc l-((32+gN l:Nat):Int))=fc l-((32+gN l:Nat):Int):=wrap_i64 (by omega)
 refine aq HX Tryz.func17 rfl rfl rfl fun Fr w0=>aR ?_
 refine dM .here fun vc=>?_
 refine cw (.there .here) fun _ hvc=>?_
 obtain⟨a0,cap,rfl,ha,hcap,_⟩:=hvc
 obtain⟨g0,rfl⟩:=ha (by decide)
 refine sr<|asg rfl rfl<|lz<|asg rfl rfl<|lc<|ah<|sr<|mv rfl rfl<|l_q rfl (ad rfl)<|l_q rfl (qfa 14 rfl cL rfl rfl yS4)<|l_q rfl (qld rfl yA4) ?_
 refine lc ?_
 apply qf (p:=(fun _:Unit=>True)) (EE:=(fun _=>[(0,.pointer (some ⟨x.p,0,none⟩)),(3,.int .i64 x.S.kind)])) (LL:=(fun _=>pt x.p (.cells #[.pointer (some ⟨pr,0,none⟩),.int .i64 l.key,.int .i64 l.elem,.int .i64 l.ka,.int .i64 l.ea,.int .i64 l.cap,.int .i64 l.eo,.int .i64 l.bo,.int .i64 l.slot,.int .i64 l.group,.int .i64 (x.off:Nat),.int .i64 x.S.used,.int .i64 x.S.pins,.int .i64 x.S.next,.bool (decide (x.S.kind=3)),.bool x.dead,(.slice (some ⟨g0,0,none⟩) 8 cap)] 75 (0,0))::aE 142 5 (.slice (some ⟨g0,0,none⟩) 8 cap) 8 (rowOf bH (bu x.S.cells 8))::Fr))
 refine aA rfl (fun z=>?_) fun z=>?_
 ·refine aB<|asg rfl rfl<|aj ?_
  apply ej (())
  ·exact trivial
  ·exact⟨rfl,congrArg (fun q=>some (Value.int .i64 q)) z.symm,trivial⟩
  exact en
 ·refine al ?_
  apply ej (())
  ·exact trivial
  ·exact⟨rfl,congrArg (fun q=>some (Value.int .i64 q)) (hk.resolve_right z).symm,trivial⟩
  exact en
 rintro _ -
 try dsimp only
 refine nQ ?_
 refine nz<|asg rfl rfl<|lc<|ah<|aS mixed ?_
 apply dq 0 rfl
 ·exact yq (ai rfl)
 apply dq 1 rfl
 ·exact yq (ai rfl)
 apply dq 2 rfl
 ·exact yq (ai rfl)
 apply dq 3 rfl
 ·exact yq (ad rfl)
 apply dq 4 rfl
 ·exact yq (qfa 12 rfl cL rfl rfl yS3)
 apply dq 5 rfl
 ·exact yq (qld rfl yA3)
 apply dq 6 rfl
 ·exact yq (ai rfl)
 apply dq 7 rfl
 ·exact yq (ad rfl)
 apply dq 8 rfl
 ·exact yq (qfa 13 rfl cL rfl rfl yS3)
 apply dq 9 rfl
 ·exact yq (qld rfl yA3)
 apply dq 10 rfl
 ·exact yq (ai rfl)
 apply dq 11 rfl
 ·exact yq (ad rfl)
 apply dq 12 rfl
 ·exact yq (qfa 11 rfl cL rfl rfl yS3)
 apply dq 13 rfl
 ·exact yq (qld rfl yA3)
 refine an [1,5,9,13,4,8,12,3,7,11,2,6,10] [0] 14 [(11,_),(15,_),(19,_),(23,_)] gO ⟨rfl,rfl,rfl,rfl,trivial⟩ (by kernel_rfl) (by kernel_rfl) fun Ex=>?_
 refine aW [_,_,_,_] rfl rfl bn yS3 yZ3 rfl rfl rfl rfl (fun b24=>?_)
 refine aj ?_
 apply n_d
 ·refine⟨?_,trivial⟩
  apply ya rfl rfl;exact yq (ai rfl)
 refine an [] [0] 15 [(24,_)] gO ⟨rfl,trivial⟩ (by kernel_rfl) (by kernel_rfl) fun Ex=>?_
 refine wk (L':=aE 5 1 (.slice none 0 0) (0) (bt (smF l x.S) (0))::_) (fun w h=>eh h) ?_
 refine lc1 rfl rfl rfl (BP x b24) ?_
 refine aj ?_
 apply n_d
 ·refine⟨?_,trivial⟩
  apply ya rfl rfl;exact yq (ai rfl)
 refine an [0] [] 16 [(10,_),(25,_)] gO ⟨rfl,rfl,trivial⟩ (by kernel_rfl) (by kernel_rfl) fun Ex=>?_
 apply kz (n:=0) (v:=.slice none 0 0) (xs:=bt (smF l x.S) 0) rfl rfl rfl Tryz.underlying117 Tryz.underlying9 yI5
 ·exact tk
 ·rw[cC];simp only[maxLen];omega
 ·rw[cC];omega
 intro v26
 rw[cC,ec (rO _),show bt (smF l x.S) 0 ++ bt (hdF (smV x.S)) 32=bt (smF l x.S) 32 from by rw[← ze];rfl]
 refine aj ?_
 apply n_d
 ·exact trivial
 refine an [] [] 17 [(26,_)] gO ⟨rfl,trivial⟩ (by kernel_rfl) (by kernel_rfl) fun Ex=>?_
 refine asg rfl rfl<|aj ?_
 apply n_d
 ·exact trivial
 refine bd (by kernel_rfl) ?_
 refine ak<|ah<|aS mixed ?_
 apply dq 0 rfl
 ·exact yq (ai rfl)
 apply dq 1 rfl
 ·exact yq (ai rfl)
 apply dq 2 rfl
 ·exact yq (ad rfl)
 apply dq 3 rfl
 ·exact yq (qfa 1 rfl cL rfl rfl aX)
 apply dq 4 rfl
 ·exact yq (aK rfl cu aX)
 apply dq 5 rfl
 ·exact yq (ai rfl)
 apply dq 6 rfl
 ·exact yq (ad rfl)
 apply dq 7 rfl
 ·exact yq (qfa 16 rfl cL rfl rfl gQ)
 apply dq 8 rfl
 ·exact yq (qld rfl gR)
 refine an [4,8,3,7,2,6,1,5] [0] 9 [(31,_),(35,_)] gO ⟨rfl,rfl,trivial⟩ (by kernel_rfl) (by kernel_rfl) fun Ex=>?_
 refine lc1 rfl rfl rfl (lK (aE 142 5 (.slice (some ⟨g0,0,none⟩) 8 cap) 8 (rowOf bH (bu x.S.cells 8))) g0 0 cap l hl x.S.cells hok uC) ?_
 refine aj ?_
 apply n_d
 ·refine⟨?_,trivial⟩
  apply ya rfl rfl;exact yq (ai rfl)
 refine an [0] [] 10 [(27,_),(36,_)] gO ⟨rfl,rfl,trivial⟩ (by kernel_rfl) (by kernel_rfl) fun Ex=>?_
 apply kz (n:=32) (v:=v26) (xs:=bt (smF l x.S) 32) rfl rfl rfl Tryz.underlying117 Tryz.underlying9 yI5
 ·exact tk
 ·rw[cC];simp only[maxLen];omega
 ·rw[cC];omega
 intro v37
 rw[cC,ec (kH hok),BJ]
 refine db (v:=v37) tk fun _ hv37=>?_
 obtain⟨a37,c37,rfl,_,_,_⟩:=hv37
 refine aj ?_
 apply n_d
 ·exact trivial
 refine an [] [] 11 [(37,_)] gO ⟨rfl,trivial⟩ (by kernel_rfl) (by kernel_rfl) fun Ex=>?_
 refine asg rfl rfl<|aj ?_
 apply n_d
 ·exact trivial
 refine bd (by kernel_rfl) ?_
 refine nz<|mv rfl rfl<|l_q rfl (ql rfl ck)<|lc1 rfl rfl rfl (Class_ok ((32+gN l:Nat):Int)) ?_
 rw[hcc]
 refine asg rfl rfl<|lz<|mv rfl rfl<|mv rfl rfl<|mv rfl rfl<|l_q rfl (ql rfl ck)<|l_q rfl (e9 rfl rfl) ?_
 apply qv (n:=32+gN l) (xs:=bt (smF l x.S) (32+gN l)) ((fc l).toNat-(32+gN l)) rfl rfl rfl ?hq Tryz.underlying117 Tryz.underlying3 yI5
 case hq=>omega
 ·exact tk
 ·simp only[maxLen];omega
 ·omega
 intro v46
 rw[zd,show 32+gN l+((fc l).toNat-(32+gN l))=(fc l).toNat by omega]
 refine db (v:=v46) tk fun _ hv46=>?_
 obtain⟨a46,c46,rfl,ha46,_,_⟩:=hv46
 obtain⟨g46,rfl⟩:=ha46 (by omega)
 refine asg rfl rfl<|lz<|mv rfl rfl ?_
 apply l_q rfl
 ·apply eI (dE (smF l x.S) 0 (fc l).toNat) rfl Tryz.underlying117 Tryz.underlying5 Tryz.underlying9
  ·rw[cC]
  rw[ec (BH hok)];exact dQ (by exact tk)
 refine asg rfl rfl<|lc<|rt ?_
 apply aJ (.inl rfl) ([rsH pr l x])
 ·apply cO rfl
  exact .tmp rfl
 ·exact⟨rfl,rfl⟩
 refine bB (.slice (some ⟨g0,0,none⟩) 8 cap) ?_;(exact en)
end
theorem BK (pr:Nat) (s:ArS) (hs:s.ok) (l:Lay) (hl:l.err=0) (x:SR) (hO:l9 s l x) (hd:x.dead=false):
  ∃ C:Nat,C≤1048576∧aG Tryz.prog 17 #[.pointer (some ⟨x.p,0,none⟩)] [rsH pr l x] (fun v L=>v=.string (dE s.m x.off C)∧L= [rsH pr l x])∧aN s ((x.off:Nat):Int) ((C:Nat):Int):=by
 obtain⟨hP,hb,hz⟩:=hO.live hd
 obtain⟨k1,k2,k3⟩:=lg hl
 have hB:=vz pr l hl x hO.rng.kind hP.okc
 obtain⟨C,hC⟩:∃ C:Nat,fc l=(C:Int):=⟨(fc l).toNat,by omega⟩
 rw[hC] at hB hz hb k1 k2 k3
 rw[Int.toNat_natCast,← zc hs.bytes hP hz] at hB
 exact⟨C,by omega,hB,Exact.bl_good hb (by omega) (Int.le_refl _)⟩
end Exact11
end
section
set_option maxRecDepth 100000
namespace Exact11
open Go.RowKit Go.Proofs Eng Ty Bits Mem Search Arena CtrlB Ctrl Layout GroupB Group TableB TableI Table Cells Refill Small RefA RefT
open BytesP Oracle Ref04 Ref03
open Exact (PR cx vW)
@[reducible] def tr (o:pC):List Value:=[.int .i64 o.kind,.int .i64 o.s,.int .i64 o.n,.int .i64 o.tag,.int .u64 o.u,.string o.k,.string o.e]
def wO (A:HP) (v:Value) (os:List pC):Prop:=∃ a cap,v=.slice a os.length cap∧(0 < os.length→∃ b o,a=some ⟨b,o,none⟩∧∀(i:Nat) t,os[i]?=some t→∀(j:Nat) x,(tr t)[j]?=some x→ct A ⟨b,o+i*7+j,none⟩ x)
theorem xZ {A:HP} {os:List pC} {b o i:Nat} {t:pC} (h:∀(i:Nat) t,os[i]?=some t→∀(j:Nat) x,(tr t)[j]?=some x→ct A ⟨b,o+i*7+j,none⟩ x) (ht:os[i]?=some t):
  ∀ j x,(tr t)[j]?=some x→ct A ((⟨b,o+(i:Int).toNat*7,none⟩:Addr).add j) x:=fun j x hx=>by
 rw[cz,Int.toNat_natCast]
 exact h i t ht j x hx
theorem BE {pr:Nat} {l:Lay} {pa:Nat} {L:List HP}:Ent L (aE 73 13 (.slice none 0 0) ([]:List SR).length (rowOf (bJ pa l) [])::cf pr l []::aE 40 1 (.slice none 0 0) ([]:List PR).length (dv [])::cx pr l []::L):=
 fun w h=>eh (BQ w (eh (vW w h)))
end Exact11
end
section
set_option maxRecDepth 100000
namespace RowKit
open Go.ChangeShapes Go.WideShapes Go.ChangeAt Go.RowKit Go.Proofs Eng Ref03 Ctrl CtrlB Exact11 Oracle
theorem xr {H:Type} {enc:TypeId×Value→H} {W:World} {base:Nat} {held:Bool} {fuel:Nat} {sp:Nat→Bool} {cs:List Value} {x:DataW H×List MemPlace}
  (h:DataW.trod enc Tryz.prog W base sp held fuel 55 cs=some x):∃ v os,cs= [v]∧wO (Eng.old W) v os∧os.length≤maxLen∧(∀ o∈os,o.wf)∧(os.length=0∨∃ es sp',x.1=.slice es sp'∧es.length=os.length):=by
 obtain⟨v,rows,rfl,hR,hm,hrow⟩:=s0 (sz:=7) Tryz.underlying55 (by kernel_rfl) (by decide) h
 have c3:Tryz.prog.cellsOf 3=1:=by kernel_rfl
 have c4:Tryz.prog.cellsOf 27=1:=by kernel_rfl
 have c5:Tryz.prog.cellsOf 9=1:=by kernel_rfl
 obtain⟨os,rfl,hw⟩:=ox (f:=tr) (Q:=pC.wf) rows fun r hr=>by
  obtain⟨m,y,hy⟩:=hrow r hr
  obtain⟨xs,m',_,_,hcl,hxl,hfld⟩:=DataW.trod_struct Tryz.underlying60 hy
  have hx7:xs.length=7:=hxl
  have f0:DataW.trod enc Tryz.prog W base sp held m' 3 ((r.drop 0).take (Tryz.prog.cellsOf 3))=xs[0]?:=hfld 0 _ rfl
  have f1:DataW.trod enc Tryz.prog W base sp held m' 3 ((r.drop 1).take (Tryz.prog.cellsOf 3))=xs[1]?:=hfld 1 _ rfl
  have f2:DataW.trod enc Tryz.prog W base sp held m' 3 ((r.drop 2).take (Tryz.prog.cellsOf 3))=xs[2]?:=hfld 2 _ rfl
  have f3:DataW.trod enc Tryz.prog W base sp held m' 3 ((r.drop 3).take (Tryz.prog.cellsOf 3))=xs[3]?:=hfld 3 _ rfl
  have f4:DataW.trod enc Tryz.prog W base sp held m' 27 ((r.drop 4).take (Tryz.prog.cellsOf 27))=xs[4]?:=hfld 4 _ rfl
  have f5:DataW.trod enc Tryz.prog W base sp held m' 9 ((r.drop 5).take (Tryz.prog.cellsOf 9))=xs[5]?:=hfld 5 _ rfl
  have f6:DataW.trod enc Tryz.prog W base sp held m' 9 ((r.drop 6).take (Tryz.prog.cellsOf 9))=xs[6]?:=hfld 6 _ rfl
  rw[c3,List.getElem?_eq_getElem (by omega)] at f0 f1 f2 f3
  rw[c4,List.getElem?_eq_getElem (by omega)] at f4
  rw[c5,List.getElem?_eq_getElem (by omega)] at f5 f6
  obtain⟨z0,e0,_,w0⟩:=DataW.trod_int Tryz.underlying3 f0
  obtain⟨z1,e1,_,w1⟩:=DataW.trod_int Tryz.underlying3 f1
  obtain⟨z2,e2,_,w2⟩:=DataW.trod_int Tryz.underlying3 f2
  obtain⟨z3,e3,_,w3⟩:=DataW.trod_int Tryz.underlying3 f3
  obtain⟨z4,e4,_,w4⟩:=DataW.trod_int Tryz.underlying27 f4
  obtain⟨z5,e5,_,w5⟩:=DataW.trod_string Tryz.underlying9 f5
  obtain⟨z6,e6,_,w6⟩:=DataW.trod_string Tryz.underlying9 f6
  have hl7:r.length=7:=hcl.trans (by kernel_rfl)
  match r,hl7 with
  | [a,b,c,d,e,f,g],_=>
   refine⟨⟨z0,z1,z2,z3,z4,z5,z6⟩,?_,⟨wf_i64 w0,wf_i64 w1,wf_i64 w2,wf_i64 w3,wf_u64 w4⟩⟩
   simp at e0 e1 e2 e3 e4 e5 e6
   rw[e0,e1,e2,e3,e4,e5,e6]
 obtain⟨a,cap,rfl,hA,_⟩:=hR
 refine⟨_,os,rfl,⟨a,cap,by rw[List.length_map],fun q=>?_⟩,by simpa using hm,hw,by simpa using s4 Tryz.underlying55 h⟩
 obtain⟨b,o,rfl,hA1⟩:=hA (by simpa using q)
 exact⟨b,o,rfl,fun i t ht j x hx=>hA1 i (tr t) (by rw[List.getElem?_map,ht];rfl) j x hx⟩
theorem w9 {H:Type} {enc:TypeId×Value→H} {W:World} {base:Nat} {held:Bool} {fuel:Nat} {sp:Nat→Bool} {cs:Array Value} {x:DataW H×List MemPlace} (hcs:cs.toList.length=Tryz.prog.cellsOf 54) (hsp:sp=fun _=>true)
  (h:DataW.trod enc Tryz.prog W base sp held fuel 54 cs.toList=some x):∃ vf vo lim xs os,cs=#[vf,.int .i64 lim,vo]∧pF (Eng.old W) vf xs∧jP (Eng.old W) vo os∧(∀ n c,vo=.slice none n c→c=0∧os= [])∧(∀ o∈os,0≤o.2∧o.2 < 18446744073709551616)∧
   (os.length=0∨∃ fs es sp',x.1=.agg fs∧fs[2]?=some (.slice es sp')∧es.length=os.length):=by
 subst hsp
 have c25:Tryz.prog.cellsOf 54=3:=by kernel_rfl
 have c22:Tryz.prog.cellsOf 22=1:=by kernel_rfl
 have c3:Tryz.prog.cellsOf 3=1:=by kernel_rfl
 have c56:Tryz.prog.cellsOf 52=1:=by kernel_rfl
 obtain⟨a,b,c,rfl⟩:∃ a b c,cs=#[a,b,c]:=by
  rw[c25] at hcs
  obtain⟨l⟩:=cs
  match l,hcs with
  | [a,b,c],_=>exact⟨a,b,c,rfl⟩
 obtain⟨xs,m,_,ex,_,hxl,hfld⟩:=DataW.trod_struct Tryz.underlying54 h
 have hx3:xs.length=3:=hxl
 have f0:DataW.trod enc Tryz.prog W base (fun _=>true) held m 22 (((#[a,b,c]:Array Value).toList.drop 0).take (Tryz.prog.cellsOf 22))=xs[0]?:=hfld 0 _ rfl
 rw[c22,List.getElem?_eq_getElem (by omega)] at f0
 have f1:DataW.trod enc Tryz.prog W base (fun _=>true) held m 3 (((#[a,b,c]:Array Value).toList.drop 1).take (Tryz.prog.cellsOf 3))=xs[1]?:=hfld 1 _ rfl
 rw[c3,List.getElem?_eq_getElem (by omega)] at f1
 have f2:DataW.trod enc Tryz.prog W base (fun _=>true) held m 52 (((#[a,b,c]:Array Value).toList.drop 2).take (Tryz.prog.cellsOf 52))=xs[2]?:=hfld 2 _ rfl
 rw[c56,List.getElem?_eq_getElem (by omega)] at f2
 obtain⟨vf,zs,e0,hnum,_,_⟩:=zE Tryz.underlying22 Tryz.underlying3 c3 f0
 obtain⟨z1,e1,_,w1⟩:=DataW.trod_int Tryz.underlying3 f1
 obtain⟨vo,os,e2,hov,hn0,how⟩:=xo f2
 obtain rfl:a=vf:=by simpa using e0
 obtain rfl:b=.int .i64 z1:=by simpa using e1
 obtain rfl:c=vo:=by simpa using e2
 refine⟨a,c,z1,zs,os,rfl,hnum,hov,hn0,how,?_⟩
 obtain⟨sa,sc,rfl,_⟩:=hov
 have f2':DataW.trod enc Tryz.prog W base (fun _=>true) held m 52 [.slice sa os.length sc]=some xs[2]:=f2
 rcases s4 Tryz.underlying52 f2' with h0 | ⟨es,sp',h1,h2⟩
 ·exact .inl h0
 refine .inr ⟨xs.map (·.1),es,sp',by rw[ex],?_,h2⟩
 rw[List.getElem?_map,List.getElem?_eq_getElem (by omega),Option.map_some,h1]
theorem sQ {H:Type} {P:Program} {ts:List TypeId} {ds:List (DataW H)} (h:(DataW.weightsEach P ts ds).all (·≤reachBytes)=true) {j i:Nat} {t u e:TypeId} {fs:Array Field} {parts elems spare:List (DataW H)}
  (ht:ts[j]?=some t) (hd:ds[j]?=some (.agg parts)) (hu:P.underlying t=some (.struct fs)) (hi:(fs.toList.map (·.type))[i]?=some u) (hp:parts[i]?=some (.slice elems spare)) (he:P.underlying u=some (.slice e)):(elems.length+spare.length)*P.bytesOf e≤reachBytes:=by
 refine of_decide_eq_true (List.all_eq_true.1 h _ (DataW.weights_mem_each ht hd _ ?_))
 simp only[DataW.weights,hu]
 exact DataW.weights_mem_each hi hp _ (by simp[DataW.weights,he])
end RowKit
end
section
set_option maxRecDepth 100000
namespace Exact11
open Go.RowKit Go.Proofs Eng Ty Bits Mem Search Arena CtrlB Ctrl Layout GroupB Group TableB TableI Table Cells Refill Small RefA RefT
open BytesP Oracle Ref04 Ref03
open Exact (PR cx)
theorem vX {pr:Nat} {l:Lay} {x:SR} {j:Nat} {u:Value} (hj:(j=10∧u=.int .i64 (x.off:Nat))∨(j=15∧u=.bool x.dead)):ct (rsH pr l x) ⟨x.p,j,none⟩ u:=fun w hw=>by
 have h':Sat (stars [rsH pr l x]) w:=by
  obtain⟨f,hf,k⟩:=hw
  exact⟨f,hf,f,Part.none,k,rfl,Part.disj_none _,(Part.join_none _).symm⟩
 obtain⟨v,_,h3⟩:=bZ.1 h'
 have hb:=h3.block (b:=x.p) (o:=.cells #[.pointer (some ⟨pr,0,none⟩),.int .i64 l.key,.int .i64 l.elem,.int .i64 l.ka,.int .i64 l.ea,.int .i64 l.cap,.int .i64 l.eo,.int .i64 l.bo,.int .i64 l.slot,.int .i64 l.group,.int .i64 (x.off:Nat),.int .i64 x.S.used,.int .i64 x.S.pins,.int .i64 x.S.next,.bool (decide (x.S.kind=3)),.bool x.dead,v] 75 (0,0)) .here
 simp only[World.cell?,hb]
 rcases hj with⟨rfl,rfl⟩ | ⟨rfl,rfl⟩ <;> rfl
theorem pO (G:HP) (hGT:dz G) (hGO:lI G) (vf vo vs:Value) (xs:List Int) (os:List (ByteArray×Int)) (ops:List pC) (hA:pF G vf xs) (hO:jP G vo os) (hn0:∀ n c,vo=.slice none n c→c=0∧os= []) (hos:os.length*24≤140737488351232) (hov:∀ o∈os,0≤o.2∧o.2 < 18446744073709551616) (hS:wO G vs ops) (hmx:ops.length*72≤140737488351232) (how:∀ o∈ops,o.wf) (limit:Int):
  aG Tryz.prog 5 #[.agg #[vf,.int .i64 limit,vo],vs] [G] (fun v L=>v=.bool true∧L= [G]):=by
 obtain⟨ta,tcap,rfl,hT0⟩:=hS
 refine aq en5 Tryz.func5 rfl rfl rfl fun Fr w0=>aR ?_
 refine sr<|aP rfl rfl fun b2=>asg rfl rfl<|lz<|l_q rfl (aK rfl Hf Hb) ?_
 refine lcf rfl rfl rfl (xc G vf vo xs os hA hO hn0 hos limit) ?_
 rintro v L' ⟨pb,b,rfl,(⟨rfl,rfl⟩ | ⟨rfl,pa,po,pr,bq,bm,l,hl,hlim,hg,rfl⟩)⟩
 refine bF ?_
 ·skip
  refine bF ?_
  refine mv rfl rfl<|l_q rfl (aa rfl ga) ?_
  refine l_q rfl (aa rfl ga) ?_
  refine l_q rfl (aa rfl ga) ?_
  refine asg rfl rfl<|asg rfl rfl<|asg rfl rfl<|lc<|ah<|sr<|mv rfl rfl<|l_q rfl (cX rfl (bY ·))<|lc<|aA rfl (fun p1=>?_) fun p1=>?_
  ·cases p1
  refine al<|ak<|ah<|sr<|mv rfl rfl<|l_q rfl (cX rfl (bY ·))<|lc<|aA rfl (fun p2=>?_) fun p2=>?_
  ·exact sr<|asg rfl rfl<|lc<|rt<|fr1 rfl ([G]) (.tmp rfl) ⟨rfl,rfl⟩
  cases p2
 refine bF ?_
 refine mv rfl rfl<|l_q rfl (aa rfl ga) ?_
 refine l_q rfl (aa rfl ga) ?_
 refine l_q rfl (aa rfl ga) ?_
 refine asg rfl rfl<|asg rfl rfl<|asg rfl rfl<|lc<|ah<|sr<|mv rfl rfl<|l_q rfl (cX rfl (bY ·))<|lc<|aA rfl (fun p1=>?_) fun p1=>?_
 ·cases p1
 refine al<|ak<|ah<|sr<|mv rfl rfl<|l_q rfl (cX rfl (bY ·))<|lc<|aA rfl (fun p2=>?_) fun p2=>?_
 ·cases p2
 refine al<|ak<|ah<|sr<|mv rfl rfl<|l_q rfl (ql rfl Ek)<|mv rfl rfl<|lc<|ax ?_
 refine fw (BE (pr:=pr) (l:=l) (pa:=pa)) ?_
 refine bw (fun x:Nat×ArS×List SR×List PR×Value×Value=>x.1≤ops.length∧fe x.2.1 l x.2.2.1 x.2.2.2.1∧iJ x.2.2.1 x.2.2.2.1≤x.1) (fun x=>[(5,.pointer (some ⟨pb,0,none⟩)),(25,(.slice ta ops.length tcap)),(26,.int .i64 (ops.length:Nat)),(27,.int .i64 (x.1:Nat))]) (fun x=>G::pt po (.cells #[.map (some bm)] 192 (0,0))::cy (fun k:ByteArray=>Value.string k) bm (bN os)::roH bq os::pt pb (.cells #[.pointer (some ⟨pa,0,none⟩),.pointer (some ⟨po,0,none⟩),.pointer (some ⟨pr,0,none⟩),.pointer (some ⟨bq,0,none⟩),.int .i64 l.key,.int .i64 l.elem,.int .i64 l.ka,.int .i64 l.ea,.int .i64 l.cap,.int .i64 l.eo,.int .i64 l.bo,.int .i64 l.slot,.int .i64 l.group,x.2.2.2.2.1,x.2.2.2.2.2] 68 (0,0))::aE 73 13 x.2.2.2.2.1 x.2.2.1.length (rowOf (bJ pa l) x.2.2.1)::cf pr l x.2.2.1::aE 40 1 x.2.2.2.2.2 x.2.2.2.1.length (dv x.2.2.2.1)::cx pr l x.2.2.2.1::bj pr x.2.1::ae pa x.2.1::Fr) (fun x=>ops.length-x.1) (0,ArS.new limit,[],[],_,_) ⟨by omega,fe.nil _ _,by simp[iJ,eW]⟩ ⟨rfl,rfl,rfl,rfl,trivial⟩ (by first | exact Ent.refl _ | (exact en)) ?_
 rintro⟨i,s,ps,ts,vP,vT⟩ ⟨hi,hAll,hn⟩
 dsimp only at hi hAll hn ⊢
 refine cI (φ:=s.ok) (fun w hw=>bQ (pa:=pa) hw tk) fun hok=>?_
 have hfew:=hAll.few hok
 have hn2:ps.length+eW ps+ts.length≤i:=hn
 refine sr<|l_q rfl (qi rfl rfl (aU ·))<|lc<|ah<|aA rfl (fun g1=>?_) fun g1=>?_
 ·skip
  have hil:i < ops.length:=by omega
  obtain⟨tb,tof,rfl,hT1⟩:=hT0 (by omega)
  obtain⟨o,ho⟩:∃ o,ops[i]?=some o:=⟨ops[i],List.getElem?_eq_getElem hil⟩
  have hcell:=xZ hT1 ho
  refine al<|ak<|ah<|ax<|sr<|mv rfl rfl<|l_q rfl (aT rfl rfl Ek wU (by omega)) ?_
  apply l_q rfl
  ·apply eu (A:=G) (us:=[.int .i64 o.kind,.int .i64 o.s,.int .i64 o.n,.int .i64 o.tag,.int .u64 o.u,.string o.k,.string o.e]) rfl Br wU rfl
   ·exact tk
   exact hcell
  refine az rfl G9 fun b9=>asg rfl rfl<|sta rfl rfl rfl wU rfl rfl ?_
  refine lc<|ah<|sr<|mv rfl rfl<|mv rfl rfl<|l_q rfl (aK rfl Br wU) ?_
  refine lcf rfl rfl rfl (w7 G hGT hGO pb pa po pr bq bm os hg hov l hl s hok ps ts vP vT (by omega) (by omega) hAll (i:Nat) o (how o (List.mem_of_getElem? ho))) ?_
  rintro v L' ⟨s',ps',ts',vP',vT',rfl,rfl,hA2,hn3⟩
  refine bF ?_
  refine l_q rfl (cX rfl (bY ·))<|mv rfl rfl ?_
  have hn4:ps'.length+eW ps'+ts'.length≤i+1:=by have h4:iJ ps' ts'=ps'.length+eW ps'+ts'.length:=rfl;omega
  refine zS (φ:=s'.ok) (fun w hw=>bQ (pa:=pa) hw tk) fun hok2=>?_
  refine bD (t:=37) rfl (fun g2=>?_) fun g2=>?_
  ·cases g2
  refine au rfl rfl<|mv rfl rfl<|au rfl rfl<|lc1 rfl rfl rfl (lQ pb pa po pr bq l hl s' hok2 ts' vP' vT' (by omega) hA2.tab) ?_
  refine au rfl rfl<|l_q rfl (cX rfl (bY ·))<|l_q rfl (aL rfl rfl)<|lc<|aA rfl (fun g3=>?_) fun g3=>?_
  ·cases g3
  refine cw (e:=73) (sz:=13) (n:=ps'.length) (v:=vP') (xs:=rowOf (bJ pa l) ps') tk fun _ hvp=>?_
  obtain⟨a0,cap0,rfl,ha0,hcap0,_⟩:=hvp
  refine al<|nz<|mv rfl rfl<|l_q rfl (ad rfl)<|l_q rfl (qfa 13 rfl di rfl rfl lq)<|l_q rfl (qld rfl nO) ?_
  refine l_q rfl (ql rfl mV)<|mv rfl rfl<|lc<|ax ?_
  refine bw (fun j:Nat=>j≤ps'.length) (fun j=>[(5,.pointer (some ⟨pb,0,none⟩)),(25,(.slice (some ⟨tb,tof,none⟩) ops.length tcap)),(26,.int .i64 (ops.length:Nat)),(27,.int .i64 (i:Nat)),(45,(.slice a0 ps'.length cap0)),(46,.int .i64 (ps'.length:Nat)),(47,.int .i64 (j:Nat))]) (fun _=>G::pt po (.cells #[.map (some bm)] 192 (0,0))::cy (fun k:ByteArray=>Value.string k) bm (bN os)::roH bq os::pt pb (.cells #[.pointer (some ⟨pa,0,none⟩),.pointer (some ⟨po,0,none⟩),.pointer (some ⟨pr,0,none⟩),.pointer (some ⟨bq,0,none⟩),.int .i64 l.key,.int .i64 l.elem,.int .i64 l.ka,.int .i64 l.ea,.int .i64 l.cap,.int .i64 l.eo,.int .i64 l.bo,.int .i64 l.slot,.int .i64 l.group,(.slice a0 ps'.length cap0),vT'] 68 (0,0))::aE 73 13 (.slice a0 ps'.length cap0) ps'.length (rowOf (bJ pa l) ps')::cf pr l ps'::aE 40 1 vT' ts'.length (dv ts')::cx pr l ts'::bj pr s'::ae pa s'::Fr) (fun j=>ps'.length-j) 0 (Nat.zero_le _) ⟨rfl,rfl,rfl,rfl,rfl,rfl,rfl,trivial⟩ (by(exact en)) ?_
  intro k hkl
  refine sr<|l_q rfl (qi rfl rfl (aU ·))<|lc<|ah<|aA rfl (fun m1=>?_) fun m1=>?_
  ·skip
   have hk:k < ps'.length:=by omega
   obtain⟨x,hx⟩:∃ x,ps'[k]?=some x:=⟨ps'[k],List.getElem?_eq_getElem hk⟩
   obtain⟨g0,rfl⟩:=ha0 (by omega)
   refine fw (L':=rsH pr l x::cf pr l (ps'.eraseIdx k)::G::pt po (.cells #[.map (some bm)] 192 (0,0))::cy (fun k:ByteArray=>Value.string k) bm (bN os)::roH bq os::pt pb (.cells #[.pointer (some ⟨pa,0,none⟩),.pointer (some ⟨po,0,none⟩),.pointer (some ⟨pr,0,none⟩),.pointer (some ⟨bq,0,none⟩),.int .i64 l.key,.int .i64 l.elem,.int .i64 l.ka,.int .i64 l.ea,.int .i64 l.cap,.int .i64 l.eo,.int .i64 l.bo,.int .i64 l.slot,.int .i64 l.group,(.slice (some ⟨g0,0,none⟩) ps'.length cap0),vT'] 68 (0,0))::aE 73 13 (.slice (some ⟨g0,0,none⟩) ps'.length cap0) ps'.length (rowOf (bJ pa l) ps')::aE 40 1 vT' ts'.length (dv ts')::cx pr l ts'::bj pr s'::ae pa s'::Fr) (fun w h=>mr hx w ((show Ent _ (cf pr l ps'::G::pt po (.cells #[.map (some bm)] 192 (0,0))::cy (fun k:ByteArray=>Value.string k) bm (bN os)::roH bq os::pt pb (.cells #[.pointer (some ⟨pa,0,none⟩),.pointer (some ⟨po,0,none⟩),.pointer (some ⟨pr,0,none⟩),.pointer (some ⟨bq,0,none⟩),.int .i64 l.key,.int .i64 l.elem,.int .i64 l.ka,.int .i64 l.ea,.int .i64 l.cap,.int .i64 l.eo,.int .i64 l.bo,.int .i64 l.slot,.int .i64 l.group,(.slice (some ⟨g0,0,none⟩) ps'.length cap0),vT'] 68 (0,0))::aE 73 13 (.slice (some ⟨g0,0,none⟩) ps'.length cap0) ps'.length (rowOf (bJ pa l) ps')::aE 40 1 vT' ts'.length (dv ts')::cx pr l ts'::bj pr s'::ae pa s'::Fr) by(exact en)) w h)) ?_
   refine al<|ak<|ah<|ax<|sr<|l_q rfl (aT rfl rfl mV mW (by omega)) ?_
   apply l_q rfl
   ·apply eu (A:=aE 73 13 (.slice (some ⟨g0,0,none⟩) ps'.length cap0) ps'.length (rowOf (bJ pa l) ps')) (us:=[.pointer (some ⟨pa,0,none⟩),.int .i64 l.key,.int .i64 l.elem,.int .i64 l.ka,.int .i64 l.ea,.int .i64 l.cap,.int .i64 l.eo,.int .i64 l.bo,.int .i64 l.slot,.int .i64 l.group,.int .i64 (x.off:Nat),.pointer (some ⟨x.p,0,none⟩),.bool x.over]) rfl yG mW rfl
    ·exact tk
    exact oG hx _ _ _
   refine az rfl wT fun b11=>sta rfl rfl rfl mW rfl rfl ?_
   refine lc<|ah<|sr<|l_q rfl (qfa 11 rfl c9 rfl rfl eZ)<|l_q rfl (qld rfl ee) ?_
   refine l_q rfl (ad rfl)<|l_q rfl (qfa 15 rfl cL rfl rfl yS4) ?_
   apply l_q rfl
   ·apply bI (A:=rsH pr l x) rfl yA4
    ·exact tk
    exact vX (.inr ⟨rfl,rfl⟩)
   refine lc<|aA rfl (fun d1=>?_) fun d1=>?_
   ·skip
    refine xt rfl<|ak<|aB<|l_q rfl (ba rfl rfl) ?_
    refine mv rfl rfl<|aj ?_
    refine mB hx tk tk ?_
    apply aO ((k+1))
    ·exact(show k+1≤ps'.length by omega)
    ·omega
    ·exact⟨rfl,rfl,rfl,rfl,rfl,rfl,rfl,trivial⟩
    exact en
   have hd:x.dead=false:=by simpa using d1
   obtain⟨C,hC,hB,hgd⟩:=BK pr s' hok2 l hl x (hA2.at hx) hd
   refine al<|nz<|l_q rfl (qfa 11 rfl c9 rfl rfl eZ)<|l_q rfl (qld rfl ee) ?_
   refine lc1 rfl rfl rfl (hB) ?_
   refine asg rfl rfl<|lc<|ah<|aS mixed ?_
   apply dq 0 rfl
   ·exact yq (ai rfl)
   apply dq 1 rfl
   ·exact yq (ad rfl)
   apply dq 2 rfl
   ·exact yq (qfa 0 rfl di rfl rfl dt)
   apply dq 3 rfl
   ·exact yq (qld rfl du)
   apply dq 4 rfl
   ·exact yq (qfa 11 rfl c9 rfl rfl eZ)
   apply dq 5 rfl
   ·exact yq (qld rfl ee)
   apply dq 6 rfl
   ·exact yq (ad rfl)
   apply dq 7 rfl
   ·exact yq (qfa 10 rfl cL rfl rfl yS3)
   apply dq 8 rfl
   ·apply yq
    apply bI (A:=rsH pr l x) rfl yA3
    ·exact tk
    exact vX (.inl ⟨rfl,rfl⟩)
   apply dq 9 rfl
   ·exact yq (ai rfl)
   apply dq 10 rfl
   ·exact yq (qls rfl yU9)
   refine an [3,8,10,2,7,9,1,6,0,5,4] [] 11 [(63,_),(68,_),(70,_)] gO ⟨rfl,rfl,rfl,trivial⟩ (by kernel_rfl) (by kernel_rfl) fun Ex=>?_
   rw[cC]
   refine lc1 rfl rfl rfl (Read_ok pa s' x.off C hgd) ?_
   refine aj ?_
   apply n_d
   ·exact trivial
   apply dq 12 rfl
   ·exact yq (ai rfl)
   apply dq 13 rfl
   ·exact yq (aa rfl ga)
   apply dq 14 rfl
   ·exact yq (aa rfl ga)
   refine an [13,12] [14] 15 [(72,_)] gO ⟨rfl,trivial⟩ (by kernel_rfl) (by kernel_rfl) fun Ex=>?_
   refine asg rfl rfl<|aj ?_
   apply n_d
   ·refine⟨?_,trivial⟩
    apply ya rfl rfl;exact yq (aa rfl ga)
   refine an [14] [] 16 [(73,_)] gO ⟨rfl,trivial⟩ (by kernel_rfl) (by kernel_rfl) fun Ex=>?_
   refine asg rfl rfl<|aj ?_
   apply n_d
   ·exact trivial
   refine bd (by kernel_rfl) ?_
   refine nz<|mv rfl rfl<|lc1 rfl rfl rfl (bW _) ?_
   refine l_q rfl (qi rfl rfl (aI ·))<|mv rfl rfl<|bD (t:=77) rfl (fun z1=>?_) fun z1=>?_
   ·exact absurd rfl z1
   refine au rfl rfl<|mv rfl rfl<|au rfl rfl<|mv rfl rfl<|au rfl rfl<|l_q rfl (qs rfl rfl (vn ·))<|l_q rfl (aL rfl rfl)<|lc<|aA rfl (fun z2=>?_) fun z2=>?_
   ·exact absurd rfl z2
   refine al<|aV<|ak<|aB<|l_q rfl (ba rfl rfl) ?_
   refine mv rfl rfl<|aj ?_
   refine mB hx tk tk ?_
   apply aO ((k+1))
   ·exact(show k+1≤ps'.length by omega)
   ·omega
   ·exact⟨rfl,rfl,rfl,rfl,rfl,rfl,rfl,trivial⟩
   exact en
  refine xt rfl<|aV<|ak<|aB<|l_q rfl (ba rfl rfl) ?_
  refine mv rfl rfl<|aj ?_
  apply aO ((i+1,s',ps',ts',(.slice a0 ps'.length cap0),vT'))
  ·exact⟨by dsimp only;omega,hA2,by dsimp only;exact hn4⟩
  ·dsimp only;omega
  ·exact⟨rfl,rfl,rfl,rfl,trivial⟩
  exact en
 exact xt rfl<|nz<|asg rfl rfl<|lc<|rt<|fr1 rfl ([G]) (.tmp rfl) ⟨rfl,rfl⟩
end Exact11
end
end Go.Proofs.YthkajgkagnenbaaGreatDoor
