import Derived.Test.YthkajgkagnenbaaGreatDoorRow11
set_option linter.unusedVariables false
set_option linter.unusedSimpArgs false
set_option linter.unusedSectionVars false
set_option maxRecDepth 100000
namespace Go.Proofs.YthkajgkagnenbaaGreatDoor
namespace Exact11
open Go.RowKit Go.Proofs Eng Ty Bits Mem Search Arena CtrlB Ctrl Layout GroupB Group TableB TableI Table Cells Refill Small RefA RefT
open Exact (PR cx mo ik jn nY my nV)
def dv (ts:List PR):List Value:=ts.map fun t=>.pointer (some ⟨t.p,0,none⟩)
theorem sL (ts:List PR) (t:PR):dv (ts ++ [t])=dv ts ++ [.pointer (some ⟨t.p,0,none⟩)]:=by simp[dv]
theorem kU {A:Type} {ps:List A} {i:Nat} {x:A} (hx:ps[i]?=some x):ps.set i x=ps:=by
 have hil:i < ps.length:=by rcases Nat.lt_or_ge i ps.length with q | q;exact q;rw[List.getElem?_eq_none q] at hx;cases hx
 refine List.ext_getElem? fun j=>?_
 rw[List.getElem?_set]
 split
 ·next q=>subst q;exact hx.symm
 rfl
section
variable (G:HP) (hG:dz G) (pb pa po pr bq:Nat) (l:Lay) (hl:l.err=0)
theorem j6 (ps:List SR) (vP vT:Value) (hlen:ps.length≤1000000000000):aG Tryz.prog 42 #[.pointer (some ⟨pb,0,none⟩)] [pt pb (.cells #[.pointer (some ⟨pa,0,none⟩),.pointer (some ⟨po,0,none⟩),.pointer (some ⟨pr,0,none⟩),.pointer (some ⟨bq,0,none⟩),.int .i64 l.key,.int .i64 l.elem,.int .i64 l.ka,.int .i64 l.ea,.int .i64 l.cap,.int .i64 l.eo,.int .i64 l.bo,.int .i64 l.slot,.int .i64 l.group,vP,vT] 68 (0,0)),aE 73 13 vP ps.length (rowOf (bJ pa l) ps),cf pr l ps] (fun v L=>L= [pt pb (.cells #[.pointer (some ⟨pa,0,none⟩),.pointer (some ⟨po,0,none⟩),.pointer (some ⟨pr,0,none⟩),.pointer (some ⟨bq,0,none⟩),.int .i64 l.key,.int .i64 l.elem,.int .i64 l.ka,.int .i64 l.ea,.int .i64 l.cap,.int .i64 l.eo,.int .i64 l.bo,.int .i64 l.slot,.int .i64 l.group,vP,vT] 68 (0,0)),aE 73 13 vP ps.length (rowOf (bJ pa l) (ps.map cj)),cf pr l ps]):=by
 refine aq HM Tryz.func42 rfl rfl rfl fun Fr w0=>aR ?_
 refine cw (.there .here) fun _ hvp=>?_
 obtain⟨a0,cap,rfl,ha,_,_⟩:=hvp
 refine sr<|mv rfl rfl<|l_q rfl (ad rfl)<|l_q rfl (qfa 13 rfl di rfl rfl lq)<|l_q rfl (qld rfl nO) ?_
 refine l_q rfl (ql rfl mV)<|mv rfl rfl<|lc<|ax ?_
 refine bw (fun i:Nat=>i≤ps.length) (fun i=>[(0,.pointer (some ⟨pb,0,none⟩)),(7,.int .i64 (ps.length:Nat)),(8,.int .i64 (i:Nat))]) (fun i=>pt pb (.cells #[.pointer (some ⟨pa,0,none⟩),.pointer (some ⟨po,0,none⟩),.pointer (some ⟨pr,0,none⟩),.pointer (some ⟨bq,0,none⟩),.int .i64 l.key,.int .i64 l.elem,.int .i64 l.ka,.int .i64 l.ea,.int .i64 l.cap,.int .i64 l.eo,.int .i64 l.bo,.int .i64 l.slot,.int .i64 l.group,(.slice a0 ps.length cap),vT] 68 (0,0))::aE 73 13 (.slice a0 ps.length cap) ps.length (rowOf (bJ pa l) (mixS ps i))::cf pr l ps::Fr) (fun i=>ps.length-i) 0 (Nat.zero_le _) ⟨rfl,rfl,rfl,trivial⟩ (by rw[xu];(exact en)) ?_
 intro i hi
 refine sr<|l_q rfl (qi rfl rfl (aU ·))<|lc<|ah<|aA rfl (fun h1=>?_) fun h1=>?_
 ·skip
  have hil:i < ps.length:=by omega
  obtain⟨g0,rfl⟩:=ha (by omega)
  obtain⟨x,hx⟩:∃ x,ps[i]?=some x:=⟨ps[i],List.getElem?_eq_getElem hil⟩
  have hm:=zG hx
  have hcell:(rowOf (bJ pa l) (mixS ps i))[0+((i:Nat):Int).toNat*13+11]?=some (.pointer (some ⟨x.p,0,none⟩)):=by
   rw[Nat.zero_add,Int.toNat_natCast,dA (n3 pa l) _ i 11 x hm (by decide)];rfl
  refine fw (L':=rsH pr l x::cf pr l (ps.eraseIdx i)::pt pb (.cells #[.pointer (some ⟨pa,0,none⟩),.pointer (some ⟨po,0,none⟩),.pointer (some ⟨pr,0,none⟩),.pointer (some ⟨bq,0,none⟩),.int .i64 l.key,.int .i64 l.elem,.int .i64 l.ka,.int .i64 l.ea,.int .i64 l.cap,.int .i64 l.eo,.int .i64 l.bo,.int .i64 l.slot,.int .i64 l.group,(.slice (some ⟨g0,0,none⟩) ps.length cap),vT] 68 (0,0))::aE 73 13 (.slice (some ⟨g0,0,none⟩) ps.length cap) ps.length (rowOf (bJ pa l) (mixS ps i))::Fr) (fun w h=>mr hx w ((show Ent _ (cf pr l ps::_) by(exact en)) w h)) ?_
  refine dM .here fun vc=>?_
  refine al<|ak<|ah<|ax<|sr<|mv rfl rfl<|asg rfl rfl<|lz<|mv rfl rfl<|l_q rfl (ad rfl)<|l_q rfl (qfa 13 rfl di rfl rfl lq)<|l_q rfl (qld rfl nO) ?_
  refine mv rfl rfl<|l_q rfl (aT rfl rfl mV mW (by omega)) ?_
  refine l_q rfl (qfa 11 rfl c9 rfl rfl eZ) ?_
  apply l_q rfl
  ·apply bf rfl ee
   ·exact tk
   exact hcell
  refine l_q rfl (ad rfl)<|l_q rfl (qfa 15 rfl cL rfl rfl yS4)<|l_q rfl (qld rfl yA4) ?_
  refine lc<|aA rfl (fun q=>?_) fun q=>?_
  ·skip
   have hset:(rowOf (bJ pa l) (mixS ps i)).set (0+((i:Nat):Int).toNat*13+12) (.bool true)=rowOf (bJ pa l) (mixS ps (i+1)):=by
    rw[Nat.zero_add,Int.toNat_natCast,fU (n3 pa l) (by decide) _ i x hm (a':=cj x) (by unfold cj bJ;rw[q,Bool.or_true];rfl),qy hx]
   refine aB<|mv rfl rfl<|l_q rfl (ad rfl)<|l_q rfl (qfa 13 rfl di rfl rfl lq)<|l_q rfl (qld rfl nO) ?_
   refine mv rfl rfl<|l_q rfl (aT rfl rfl mV mW (by omega)) ?_
   refine l_q rfl (qfa 12 rfl c9 rfl rfl yS4) ?_
   refine dp rfl rfl rfl yS4 rfl tk (by omega) hset ?_
   refine aj<|aV<|ak<|aB<|l_q rfl (ba rfl rfl) ?_
   refine mv rfl rfl<|aj ?_
   refine lF (L':=pt pb (.cells #[.pointer (some ⟨pa,0,none⟩),.pointer (some ⟨po,0,none⟩),.pointer (some ⟨pr,0,none⟩),.pointer (some ⟨bq,0,none⟩),.int .i64 l.key,.int .i64 l.elem,.int .i64 l.ka,.int .i64 l.ea,.int .i64 l.cap,.int .i64 l.eo,.int .i64 l.bo,.int .i64 l.slot,.int .i64 l.group,(.slice (some ⟨g0,0,none⟩) ps.length cap),vT] 68 (0,0))::aE 73 13 (.slice (some ⟨g0,0,none⟩) ps.length cap) ps.length (rowOf (bJ pa l) (mixS ps (i+1)))::cf pr l ps::Fr) (fun w h=>?_) ?_
   ·have h2:=kW hil w (bB vc (show Ent _ (pt x.p (.cells #[.pointer (some ⟨pr,0,none⟩),.int .i64 l.key,.int .i64 l.elem,.int .i64 l.ka,.int .i64 l.ea,.int .i64 l.cap,.int .i64 l.eo,.int .i64 l.bo,.int .i64 l.slot,.int .i64 l.group,.int .i64 (x.off:Nat),.int .i64 x.S.used,.int .i64 x.S.pins,.int .i64 x.S.next,.bool (decide (x.S.kind=3)),.bool x.dead,vc] 75 (0,0))::aE 142 5 vc 8 (rowOf bH (bu x.S.cells 8))::cf pr l (ps.eraseIdx i)::pt pb (.cells #[.pointer (some ⟨pa,0,none⟩),.pointer (some ⟨po,0,none⟩),.pointer (some ⟨pr,0,none⟩),.pointer (some ⟨bq,0,none⟩),.int .i64 l.key,.int .i64 l.elem,.int .i64 l.ka,.int .i64 l.ea,.int .i64 l.cap,.int .i64 l.eo,.int .i64 l.bo,.int .i64 l.slot,.int .i64 l.group,(.slice (some ⟨g0,0,none⟩) ps.length cap),vT] 68 (0,0))::aE 73 13 (.slice (some ⟨g0,0,none⟩) ps.length cap) ps.length (rowOf (bJ pa l) (mixS ps (i+1)))::Fr) by(exact en)) w h)
    rw[kU hx] at h2
    exact(show Ent (cf pr l ps::pt pb (.cells #[.pointer (some ⟨pa,0,none⟩),.pointer (some ⟨po,0,none⟩),.pointer (some ⟨pr,0,none⟩),.pointer (some ⟨bq,0,none⟩),.int .i64 l.key,.int .i64 l.elem,.int .i64 l.ka,.int .i64 l.ea,.int .i64 l.cap,.int .i64 l.eo,.int .i64 l.bo,.int .i64 l.slot,.int .i64 l.group,(.slice (some ⟨g0,0,none⟩) ps.length cap),vT] 68 (0,0))::aE 73 13 (.slice (some ⟨g0,0,none⟩) ps.length cap) ps.length (rowOf (bJ pa l) (mixS ps (i+1)))::Fr) _ by(exact en)) w h2
   apply aO ((i+1))
   ·exact by omega
   ·omega
   ·exact⟨rfl,rfl,rfl,trivial⟩
   exact en
  have hov:cj x=x:=uS (by simpa using q)
  have hnx:mixS ps (i+1)=mixS ps i:=by rw[← qy hx,hov,kU hm]
  refine al<|aV<|ak<|aB<|l_q rfl (ba rfl rfl) ?_
  refine mv rfl rfl<|aj ?_
  refine lF (L':=pt pb (.cells #[.pointer (some ⟨pa,0,none⟩),.pointer (some ⟨po,0,none⟩),.pointer (some ⟨pr,0,none⟩),.pointer (some ⟨bq,0,none⟩),.int .i64 l.key,.int .i64 l.elem,.int .i64 l.ka,.int .i64 l.ea,.int .i64 l.cap,.int .i64 l.eo,.int .i64 l.bo,.int .i64 l.slot,.int .i64 l.group,(.slice (some ⟨g0,0,none⟩) ps.length cap),vT] 68 (0,0))::aE 73 13 (.slice (some ⟨g0,0,none⟩) ps.length cap) ps.length (rowOf (bJ pa l) (mixS ps (i+1)))::cf pr l ps::Fr) (fun w h=>?_) ?_
  ·rw[hnx]
   have h2:=kW hil w (bB vc (show Ent _ (pt x.p (.cells #[.pointer (some ⟨pr,0,none⟩),.int .i64 l.key,.int .i64 l.elem,.int .i64 l.ka,.int .i64 l.ea,.int .i64 l.cap,.int .i64 l.eo,.int .i64 l.bo,.int .i64 l.slot,.int .i64 l.group,.int .i64 (x.off:Nat),.int .i64 x.S.used,.int .i64 x.S.pins,.int .i64 x.S.next,.bool (decide (x.S.kind=3)),.bool x.dead,vc] 75 (0,0))::aE 142 5 vc 8 (rowOf bH (bu x.S.cells 8))::cf pr l (ps.eraseIdx i)::pt pb (.cells #[.pointer (some ⟨pa,0,none⟩),.pointer (some ⟨po,0,none⟩),.pointer (some ⟨pr,0,none⟩),.pointer (some ⟨bq,0,none⟩),.int .i64 l.key,.int .i64 l.elem,.int .i64 l.ka,.int .i64 l.ea,.int .i64 l.cap,.int .i64 l.eo,.int .i64 l.bo,.int .i64 l.slot,.int .i64 l.group,(.slice (some ⟨g0,0,none⟩) ps.length cap),vT] 68 (0,0))::aE 73 13 (.slice (some ⟨g0,0,none⟩) ps.length cap) ps.length (rowOf (bJ pa l) (mixS ps i))::Fr) by(exact en)) w h)
   rw[kU hx] at h2
   exact(show Ent (cf pr l ps::pt pb (.cells #[.pointer (some ⟨pa,0,none⟩),.pointer (some ⟨po,0,none⟩),.pointer (some ⟨pr,0,none⟩),.pointer (some ⟨bq,0,none⟩),.int .i64 l.key,.int .i64 l.elem,.int .i64 l.ka,.int .i64 l.ea,.int .i64 l.cap,.int .i64 l.eo,.int .i64 l.bo,.int .i64 l.slot,.int .i64 l.group,(.slice (some ⟨g0,0,none⟩) ps.length cap),vT] 68 (0,0))::aE 73 13 (.slice (some ⟨g0,0,none⟩) ps.length cap) ps.length (rowOf (bJ pa l) (mixS ps i))::Fr) _ by(exact en)) w h2
  apply aO ((i+1))
  ·exact by omega
  ·omega
  ·exact⟨rfl,rfl,rfl,trivial⟩
  exact en
 obtain rfl:i=ps.length:=by omega
 rw[zH]
 refine xt rfl ?_
 apply aJ (.inr rfl) ([pt pb (.cells #[.pointer (some ⟨pa,0,none⟩),.pointer (some ⟨po,0,none⟩),.pointer (some ⟨pr,0,none⟩),.pointer (some ⟨bq,0,none⟩),.int .i64 l.key,.int .i64 l.elem,.int .i64 l.ka,.int .i64 l.ea,.int .i64 l.cap,.int .i64 l.eo,.int .i64 l.bo,.int .i64 l.slot,.int .i64 l.group,(.slice a0 ps.length cap),vT] 68 (0,0)),aE 73 13 (.slice a0 ps.length cap) ps.length (rowOf (bJ pa l) (ps.map cj)),cf pr l ps])
 ·exact pM rfl
 ·rfl
 exact en
end
theorem BF (pa pr:Nat) (s:ArS) (hs:s.ok) (l:Lay) (hl:l.err=0) (hb:s.limit-s.live < fc l):aG Tryz.prog 100 #[.pointer (some ⟨pa,0,none⟩),.agg #[.int .i64 l.key,.int .i64 l.elem,.int .i64 l.ka,.int .i64 l.ea,.int .i64 l.cap,.int .i64 l.eo,.int .i64 l.bo,.int .i64 l.slot,.int .i64 l.group]] [ae pa s] (fun v L=>v=.tuple #[.agg #[.pointer none,.int .i64 0,.int .i64 0,.int .i64 0,.int .i64 0,.int .i64 0,.int .i64 0,.int .i64 0,.int .i64 0,.int .i64 0,.int .i64 0],.int .i64 22]∧L= [ae pa s])∧
  aG Tryz.prog 101 #[.pointer (some ⟨pr,0,none⟩),.agg #[.int .i64 l.key,.int .i64 l.elem,.int .i64 l.ka,.int .i64 l.ea,.int .i64 l.cap,.int .i64 l.eo,.int .i64 l.bo,.int .i64 l.slot,.int .i64 l.group]] [bj pr s] (fun v L=>v=.tuple #[.pointer none,.int .i64 22]∧L= [bj pr s]):=by
 refine⟨(ub pa s l hl).mono fun v L h=>?_,(uh pr s hs l hl).mono fun v L h=>?_⟩
 ·rcases h with⟨_,h1,h2⟩ | ⟨h1,_⟩
  ·exact⟨h1,h2⟩
  exact absurd hb (by unfold fc;omega)
 rcases h with⟨_,h1,h2⟩ | ⟨h1,_⟩
 ·exact⟨h1,h2⟩
 exact absurd hb (by unfold fc;omega)
theorem za (pa pr:Nat) (s:ArS) (hs:s.ok) (l:Lay) (hl:l.err=0) (hb:s.live+fc l≤s.limit) (o:Nat) (ho:s.at (fc l)=o):aG Tryz.prog 100 #[.pointer (some ⟨pa,0,none⟩),.agg #[.int .i64 l.key,.int .i64 l.elem,.int .i64 l.ka,.int .i64 l.ea,.int .i64 l.cap,.int .i64 l.eo,.int .i64 l.bo,.int .i64 l.slot,.int .i64 l.group]] [ae pa s] (fun v L=>∃ s',v=.tuple #[.agg #[.pointer (some ⟨pa,0,none⟩),.int .i64 l.key,.int .i64 l.elem,.int .i64 l.ka,.int .i64 l.ea,.int .i64 l.cap,.int .i64 l.eo,.int .i64 l.bo,.int .i64 l.slot,.int .i64 l.group,.int .i64 ((o:Nat):Int)],.int .i64 0]∧L= [ae pa s']∧SmP s' o l newS∧CC s s' (fc l)∧iy s' o (32+gN l) (fc l))∧
  aG Tryz.prog 101 #[.pointer (some ⟨pr,0,none⟩),.agg #[.int .i64 l.key,.int .i64 l.elem,.int .i64 l.ka,.int .i64 l.ea,.int .i64 l.cap,.int .i64 l.eo,.int .i64 l.bo,.int .i64 l.slot,.int .i64 l.group]] [bj pr s] (fun v L=>∃ p,v=.tuple #[.pointer (some ⟨p,0,none⟩),.int .i64 0]∧L= [rsH pr l ⟨p,o,newS,false,false⟩,bj pr (s.take (fc l))]):=by
 subst ho
 refine⟨(ub pa s l hl).mono fun v L h=>?_,(uh pr s hs l hl).mono fun v L h=>?_⟩
 ·rcases h with⟨h1,_⟩ | ⟨_,h⟩
  ·exact absurd hb (by unfold fc;omega)
  exact h
 rcases h with⟨h1,_⟩ | ⟨_,h⟩
 ·exact absurd hb (by unfold fc;omega)
 exact h
theorem SRng.new:SRng newS:=⟨rfl,by decide,.inl rfl⟩
section
variable (G:HP) (hG:dz G) (pb pa po pr bq:Nat) (l:Lay) (hl:l.err=0)
include hl
theorem w8 (s:ArS) (hs:s.ok) (ps:List SR) (ts:List PR) (vP vT:Value) (hlen:ps.length≤980000000000) (hA:fe s l ps ts):aG Tryz.prog 41 #[.pointer (some ⟨pb,0,none⟩)] [pt pb (.cells #[.pointer (some ⟨pa,0,none⟩),.pointer (some ⟨po,0,none⟩),.pointer (some ⟨pr,0,none⟩),.pointer (some ⟨bq,0,none⟩),.int .i64 l.key,.int .i64 l.elem,.int .i64 l.ka,.int .i64 l.ea,.int .i64 l.cap,.int .i64 l.eo,.int .i64 l.bo,.int .i64 l.slot,.int .i64 l.group,vP,vT] 68 (0,0)),aE 73 13 vP ps.length (rowOf (bJ pa l) ps),cf pr l ps,bj pr s,ae pa s] (fun v L=>∃ s' ps' vP',v=.bool true∧L= [pt pb (.cells #[.pointer (some ⟨pa,0,none⟩),.pointer (some ⟨po,0,none⟩),.pointer (some ⟨pr,0,none⟩),.pointer (some ⟨bq,0,none⟩),.int .i64 l.key,.int .i64 l.elem,.int .i64 l.ka,.int .i64 l.ea,.int .i64 l.cap,.int .i64 l.eo,.int .i64 l.bo,.int .i64 l.slot,.int .i64 l.group,vP',vT] 68 (0,0)),aE 73 13 vP' ps'.length (rowOf (bJ pa l) ps'),cf pr l ps',bj pr s',ae pa s']∧fe s' l ps' ts∧ps'.length+eW ps'≤ps.length+eW ps+1):=by
 obtain⟨k1,k2,k3⟩:=lg hl
 have hbd:=Lay.bnd hl
 have hcc:fc l∈dx:=fZ (by omega) (by omega)
 refine aq HN Tryz.func41 rfl rfl rfl fun Fr w0=>aR ?_
 by_cases hb:s.limit-s.live < fc l
 ·obtain⟨hp,hr⟩:=BF pa pr s hs l hl hb
  refine sr<|asg rfl rfl<|lc<|ah<|aS mixed ?_
  apply dq 0 rfl
  ·exact yq (ai rfl)
  apply dq 1 rfl
  ·exact yq (ad rfl)
  apply dq 2 rfl
  ·exact yq (qfa 0 rfl di rfl rfl dt)
  apply dq 3 rfl
  ·exact yq (qld rfl du)
  apply dq 4 rfl
  ·exact yq (ai rfl)
  apply dq 5 rfl
  ·exact yq (ad rfl)
  apply dq 6 rfl
  ·exact yq (qfa 4 rfl di rfl rfl aX)
  apply dq 7 rfl
  ·exact yq (aK rfl cu aX)
  apply iW 8 12
  ·kernel_rfl
  ·apply fj (q1:=[3,7,2,6,1,5,0,4]) (q2:=[]) [(11,_),(15,_)]
   ·exact gO
   ·exact⟨rfl,rfl,trivial⟩
   ·kernel_rfl
   intro Ex
   refine lc1 rfl rfl rfl (hp) ?_
   refine aj ?_
   apply n_d
   ·exact trivial
   apply dq 9 rfl
   ·exact yq (ai rfl)
   apply dq 10 rfl
   ·exact yq (aa rfl ga)
   apply dq 11 rfl
   ·exact yq (aa rfl ga)
   refine an [] [11,10,9] 12 [] gO trivial (by kernel_rfl) (by kernel_rfl) fun Ex=>?_
   refine az rfl n9 fun b3=>aj ?_
   apply n_d
   ·refine⟨?_,?_,?_,trivial⟩
    ·apply ya rfl rfl;exact yq (aa rfl ga)
    ·apply ya rfl rfl;exact yq (aa rfl ga)
    apply ya rfl rfl;exact yq (ai rfl)
   refine an [10,9] [11] 13 [(3,_),(17,_)] gO ⟨rfl,rfl,trivial⟩ (by kernel_rfl) (by kernel_rfl) fun Ex=>?_
   refine sta rfl rfl rfl bM rfl rfl ?_
   refine aj ?_
   apply n_d
   ·refine⟨?_,trivial⟩
    apply ya rfl rfl;exact yq (aa rfl ga)
   refine an [11] [] 14 [(18,_)] gO ⟨rfl,trivial⟩ (by kernel_rfl) (by kernel_rfl) fun Ex=>?_
   refine asg rfl rfl<|aj ?_
   apply n_d
   ·exact trivial
   refine bd (by kernel_rfl) ?_
   refine ak<|ah<|aS mixed ?_
   apply dq 0 rfl
   ·exact yq (ai rfl)
   apply dq 1 rfl
   ·exact yq (ad rfl)
   apply dq 2 rfl
   ·exact yq (qfa 2 rfl di rfl rfl rf)
   apply dq 3 rfl
   ·exact yq (qld rfl rh)
   apply dq 4 rfl
   ·exact yq (ai rfl)
   apply dq 5 rfl
   ·exact yq (ad rfl)
   apply dq 6 rfl
   ·exact yq (qfa 4 rfl di rfl rfl aX)
   apply dq 7 rfl
   ·exact yq (aK rfl cu aX)
   refine an [3,7,2,6,1,5,0,4] [] 8 [(23,_),(27,_)] gO ⟨rfl,rfl,trivial⟩ (by kernel_rfl) (by kernel_rfl) fun Ex=>?_
   refine lc1 rfl rfl rfl (hr) ?_
   refine aj ?_
   apply n_d
   ·exact trivial
   apply dq 9 rfl
   ·exact yq (ai rfl)
   apply dq 10 rfl
   ·exact yq (aa rfl ga)
   apply dq 11 rfl
   ·exact yq (aa rfl ga)
   refine an [10,9] [11] 12 [(29,_)] gO ⟨rfl,trivial⟩ (by kernel_rfl) (by kernel_rfl) fun Ex=>?_
   refine asg rfl rfl<|aj ?_
   apply n_d
   ·refine⟨?_,trivial⟩
    apply ya rfl rfl;exact yq (aa rfl ga)
   refine an [11] [] 13 [(30,_)] gO ⟨rfl,trivial⟩ (by kernel_rfl) (by kernel_rfl) fun Ex=>?_
   refine asg rfl rfl<|aj ?_
   apply n_d
   ·exact trivial
   refine bd (by kernel_rfl) ?_
   refine ak<|ah<|sr<|mv rfl rfl<|lc1 rfl rfl rfl (bW _) ?_
   refine mv rfl rfl<|l_q rfl (qi rfl rfl (aI ·))<|lc<|aA rfl (fun z1=>?_) fun z1=>?_
   ·exact absurd rfl z1
   refine al<|ak<|ah<|sr<|mv rfl rfl<|l_q rfl (qi rfl rfl (aI ·))<|lc<|aA rfl (fun z2=>?_) fun z2=>?_
   ·refine sr<|asg rfl rfl<|lc<|rt<|fr1 rfl ([pt pb (.cells #[.pointer (some ⟨pa,0,none⟩),.pointer (some ⟨po,0,none⟩),.pointer (some ⟨pr,0,none⟩),.pointer (some ⟨bq,0,none⟩),.int .i64 l.key,.int .i64 l.elem,.int .i64 l.ka,.int .i64 l.ea,.int .i64 l.cap,.int .i64 l.eo,.int .i64 l.bo,.int .i64 l.slot,.int .i64 l.group,vP,vT] 68 (0,0)),aE 73 13 vP ps.length (rowOf (bJ pa l) ps),cf pr l ps,bj pr s,ae pa s]) (.tmp rfl) ?_
    exact⟨s,ps,vP,rfl,rfl,hA,by omega⟩
   exact absurd (by decide) z2
  apply fj (q1:=[]) (q2:=[7,6,5,4,3,2,1,0]) []
  ·exact gO
  ·exact trivial
  ·kernel_rfl
  intro Ex
  refine az rfl n9 fun b3=>aj ?_
  apply n_d
  ·refine⟨?_,?_,?_,?_,?_,?_,?_,?_,trivial⟩
   ·apply ya rfl rfl;exact yq (aK rfl cu aX)
   ·apply ya rfl rfl;exact yq (qfa 4 rfl di rfl rfl aX)
   ·apply ya rfl rfl;exact yq (ad rfl)
   ·apply ya rfl rfl;exact yq (ai rfl)
   ·apply ya rfl rfl;exact yq (qld rfl du)
   ·apply ya rfl rfl;exact yq (qfa 0 rfl di rfl rfl dt)
   ·apply ya rfl rfl;exact yq (ad rfl)
   apply ya rfl rfl;exact yq (ai rfl)
  refine an [3,7,2,6,1,5,0,4] [] 8 [(11,_),(15,_)] gO ⟨rfl,rfl,trivial⟩ (by kernel_rfl) (by kernel_rfl) fun Ex=>?_
  refine lc1 rfl rfl rfl (hp) ?_
  refine aj ?_
  apply n_d
  ·exact trivial
  apply dq 9 rfl
  ·exact yq (ai rfl)
  apply dq 10 rfl
  ·exact yq (aa rfl ga)
  apply dq 11 rfl
  ·exact yq (aa rfl ga)
  refine an [10,9] [11] 13 [(3,_),(17,_)] gO ⟨rfl,rfl,trivial⟩ (by kernel_rfl) (by kernel_rfl) fun Ex=>?_
  refine sta rfl rfl rfl bM rfl rfl ?_
  refine aj ?_
  apply n_d
  ·refine⟨?_,trivial⟩
   apply ya rfl rfl;exact yq (aa rfl ga)
  refine an [11] [] 14 [(18,_)] gO ⟨rfl,trivial⟩ (by kernel_rfl) (by kernel_rfl) fun Ex=>?_
  refine asg rfl rfl<|aj ?_
  apply n_d
  ·exact trivial
  refine bd (by kernel_rfl) ?_
  refine ak<|ah<|aS mixed ?_
  apply dq 0 rfl
  ·exact yq (ai rfl)
  apply dq 1 rfl
  ·exact yq (ad rfl)
  apply dq 2 rfl
  ·exact yq (qfa 2 rfl di rfl rfl rf)
  apply dq 3 rfl
  ·exact yq (qld rfl rh)
  apply dq 4 rfl
  ·exact yq (ai rfl)
  apply dq 5 rfl
  ·exact yq (ad rfl)
  apply dq 6 rfl
  ·exact yq (qfa 4 rfl di rfl rfl aX)
  apply dq 7 rfl
  ·exact yq (aK rfl cu aX)
  refine an [3,7,2,6,1,5,0,4] [] 8 [(23,_),(27,_)] gO ⟨rfl,rfl,trivial⟩ (by kernel_rfl) (by kernel_rfl) fun Ex=>?_
  refine lc1 rfl rfl rfl (hr) ?_
  refine aj ?_
  apply n_d
  ·exact trivial
  apply dq 9 rfl
  ·exact yq (ai rfl)
  apply dq 10 rfl
  ·exact yq (aa rfl ga)
  apply dq 11 rfl
  ·exact yq (aa rfl ga)
  refine an [10,9] [11] 12 [(29,_)] gO ⟨rfl,trivial⟩ (by kernel_rfl) (by kernel_rfl) fun Ex=>?_
  refine asg rfl rfl<|aj ?_
  apply n_d
  ·refine⟨?_,trivial⟩
   apply ya rfl rfl;exact yq (aa rfl ga)
  refine an [11] [] 13 [(30,_)] gO ⟨rfl,trivial⟩ (by kernel_rfl) (by kernel_rfl) fun Ex=>?_
  refine asg rfl rfl<|aj ?_
  apply n_d
  ·exact trivial
  refine bd (by kernel_rfl) ?_
  refine ak<|ah<|sr<|mv rfl rfl<|lc1 rfl rfl rfl (bW _) ?_
  refine mv rfl rfl<|l_q rfl (qi rfl rfl (aI ·))<|lc<|aA rfl (fun z1=>?_) fun z1=>?_
  ·exact absurd rfl z1
  refine al<|ak<|ah<|sr<|mv rfl rfl<|l_q rfl (qi rfl rfl (aI ·))<|lc<|aA rfl (fun z2=>?_) fun z2=>?_
  ·refine sr<|asg rfl rfl<|lc<|rt<|fr1 rfl ([pt pb (.cells #[.pointer (some ⟨pa,0,none⟩),.pointer (some ⟨po,0,none⟩),.pointer (some ⟨pr,0,none⟩),.pointer (some ⟨bq,0,none⟩),.int .i64 l.key,.int .i64 l.elem,.int .i64 l.ka,.int .i64 l.ea,.int .i64 l.cap,.int .i64 l.eo,.int .i64 l.bo,.int .i64 l.slot,.int .i64 l.group,vP,vT] 68 (0,0)),aE 73 13 vP ps.length (rowOf (bJ pa l) ps),cf pr l ps,bj pr s,ae pa s]) (.tmp rfl) ?_
   exact⟨s,ps,vP,rfl,rfl,hA,by omega⟩
  exact absurd (by decide) z2
 obtain⟨o1,ho1⟩:∃ o1,s.at (fc l)=o1:=⟨_,rfl⟩
 obtain⟨hp,hr⟩:=za pa pr s hs l hl (by omega) o1 ho1
 refine sr<|asg rfl rfl<|lc<|ah<|aS mixed ?_
 apply dq 0 rfl
 ·exact yq (ai rfl)
 apply dq 1 rfl
 ·exact yq (ad rfl)
 apply dq 2 rfl
 ·exact yq (qfa 0 rfl di rfl rfl dt)
 apply dq 3 rfl
 ·exact yq (qld rfl du)
 apply dq 4 rfl
 ·exact yq (ai rfl)
 apply dq 5 rfl
 ·exact yq (ad rfl)
 apply dq 6 rfl
 ·exact yq (qfa 4 rfl di rfl rfl aX)
 apply dq 7 rfl
 ·exact yq (aK rfl cu aX)
 apply iW 8 12
 ·kernel_rfl
 ·apply fj (q1:=[3,7,2,6,1,5,0,4]) (q2:=[]) [(11,_),(15,_)]
  ·exact gO
  ·exact⟨rfl,rfl,trivial⟩
  ·kernel_rfl
  intro Ex
  refine lcf rfl rfl rfl (hp) ?_
  rintro v L' ⟨s',rfl,rfl,hT,hN,hZ⟩
  refine bF ?_
  refine aj ?_
  apply n_d
  ·exact trivial
  apply dq 9 rfl
  ·exact yq (ai rfl)
  apply dq 10 rfl
  ·exact yq (aa rfl ga)
  apply dq 11 rfl
  ·exact yq (aa rfl ga)
  refine an [] [11,10,9] 12 [] gO trivial (by kernel_rfl) (by kernel_rfl) fun Ex=>?_
  refine az rfl n9 fun b3=>aj ?_
  apply n_d
  ·refine⟨?_,?_,?_,trivial⟩
   ·apply ya rfl rfl;exact yq (aa rfl ga)
   ·apply ya rfl rfl;exact yq (aa rfl ga)
   apply ya rfl rfl;exact yq (ai rfl)
  refine an [10,9] [11] 13 [(3,_),(17,_)] gO ⟨rfl,rfl,trivial⟩ (by kernel_rfl) (by kernel_rfl) fun Ex=>?_
  refine sta rfl rfl rfl bM rfl rfl ?_
  refine aj ?_
  apply n_d
  ·refine⟨?_,trivial⟩
   apply ya rfl rfl;exact yq (aa rfl ga)
  refine an [11] [] 14 [(18,_)] gO ⟨rfl,trivial⟩ (by kernel_rfl) (by kernel_rfl) fun Ex=>?_
  refine asg rfl rfl<|aj ?_
  apply n_d
  ·exact trivial
  refine bd (by kernel_rfl) ?_
  refine ak<|ah<|aS mixed ?_
  apply dq 0 rfl
  ·exact yq (ai rfl)
  apply dq 1 rfl
  ·exact yq (ad rfl)
  apply dq 2 rfl
  ·exact yq (qfa 2 rfl di rfl rfl rf)
  apply dq 3 rfl
  ·exact yq (qld rfl rh)
  apply dq 4 rfl
  ·exact yq (ai rfl)
  apply dq 5 rfl
  ·exact yq (ad rfl)
  apply dq 6 rfl
  ·exact yq (qfa 4 rfl di rfl rfl aX)
  apply dq 7 rfl
  ·exact yq (aK rfl cu aX)
  refine an [3,7,2,6,1,5,0,4] [] 8 [(23,_),(27,_)] gO ⟨rfl,rfl,trivial⟩ (by kernel_rfl) (by kernel_rfl) fun Ex=>?_
  refine lcf rfl rfl rfl (hr) ?_
  rintro v L' ⟨p,rfl,rfl⟩
  refine bF ?_
  refine aj ?_
  apply n_d
  ·exact trivial
  apply dq 9 rfl
  ·exact yq (ai rfl)
  apply dq 10 rfl
  ·exact yq (aa rfl ga)
  apply dq 11 rfl
  ·exact yq (aa rfl ga)
  refine an [10,9] [11] 12 [(29,_)] gO ⟨rfl,trivial⟩ (by kernel_rfl) (by kernel_rfl) fun Ex=>?_
  refine asg rfl rfl<|aj ?_
  apply n_d
  ·refine⟨?_,trivial⟩
   apply ya rfl rfl;exact yq (aa rfl ga)
  refine an [11] [] 13 [(30,_)] gO ⟨rfl,trivial⟩ (by kernel_rfl) (by kernel_rfl) fun Ex=>?_
  refine asg rfl rfl<|aj ?_
  apply n_d
  ·exact trivial
  refine bd (by kernel_rfl) ?_
  refine ak<|ah<|sr<|mv rfl rfl<|lc1 rfl rfl rfl (bW _) ?_
  refine mv rfl rfl<|l_q rfl (qi rfl rfl (aI ·))<|lc<|aA rfl (fun z1=>?_) fun z1=>?_
  ·exact absurd rfl z1
  refine al<|ak<|ah<|sr<|mv rfl rfl<|l_q rfl (qi rfl rfl (aI ·))<|lc<|aA rfl (fun z2=>?_) fun z2=>?_
  ·exact absurd rfl z2
  refine al<|nz<|mv rfl rfl<|lcf rfl rfl rfl (j6 pb pa po pr bq l ps vP vT (by omega)) ?_
  rintro v L' rfl
  refine bF ?_
  refine km (x:=(⟨p,o1,newS,false,false⟩:SR)) tk fun vc=>?_
  dsimp only
  have hat:=iY hs hcc (by omega)
  have hx1:l9 s' l (⟨p,o1,newS,false,false⟩:SR):=⟨SRng.new,fun _=>⟨hT,(hN.bl _).2 (.inr (by rw[ho1])),hZ⟩,fun q=>(by cases q),(show o1≤1000000000 by omega)⟩
  have hA':=hA.pushS hs k2 hN hx1 ho1.symm
  have hra:bj pr s'=bj pr (s.take (fc l)):=jg (hN.limit.trans (cW hs).symm) hN.all hN.dead
  rw[← hra]
  have hrow:rowOf (bJ pa l) (ps.map cj) ++ ([Value.agg #[.pointer (some ⟨pa,0,none⟩),.int .i64 l.key,.int .i64 l.elem,.int .i64 l.ka,.int .i64 l.ea,.int .i64 l.cap,.int .i64 l.eo,.int .i64 l.bo,.int .i64 l.slot,.int .i64 l.group,.int .i64 (o1:Nat),.pointer (some ⟨p,0,none⟩),.bool false]].flatMap fun x=>x.cells.toList).toArray.toList=rowOf (bJ pa l) (ps.map cj ++ [(⟨p,o1,newS,false,false⟩:SR)]):=by rw[jf];rfl
  refine lc<|ah<|aS mixed ?_
  apply dq 0 rfl
  ·exact yq (ai rfl)
  apply dq 1 rfl
  ·exact yq (ai rfl)
  apply dq 2 rfl
  ·exact yq (ad rfl)
  apply dq 3 rfl
  ·exact yq (qfa 13 rfl di rfl rfl lq)
  apply dq 4 rfl
  ·exact yq (qld rfl nO)
  apply dq 5 rfl
  ·exact yq (aK rfl cd bM)
  apply dq 6 rfl
  ·exact yq (ai rfl)
  apply dq 7 rfl
  ·apply yq
   apply aQ rfl Eo wT
   apply aF.all
   ·repeat (first | exact aH.here | apply aH.there)
   ·rfl
   ·simp
   ·exact sal
   apply aF.one
   ·repeat (first | exact aH.here | apply aH.there)
   ·rfl
   ·exact sa
   exact aF.nil
  refine an [7,5,6] [4,3,2,1,0] 8 [(46,_)] gO ⟨rfl,trivial⟩ (by kernel_rfl) (by kernel_rfl) fun Ex=>?_
  refine ei (us:=[_]) rfl rfl mV mW wT rfl rfl rfl rfl rfl (fun b47=>?_)
  refine aj ?_
  apply n_d
  ·refine⟨?_,?_,?_,?_,?_,trivial⟩
   ·apply ya rfl rfl;exact yq (qld rfl nO)
   ·apply ya rfl rfl;exact yq (qfa 13 rfl di rfl rfl lq)
   ·apply ya rfl rfl;exact yq (ad rfl)
   ·apply ya rfl rfl;exact yq (ai rfl)
   apply ya rfl rfl;exact yq (ai rfl)
  refine an [4,3,2,1] [0] 9 [(43,_),(47,_)] gO ⟨rfl,rfl,trivial⟩ (by kernel_rfl) (by kernel_rfl) fun Ex=>?_
  apply dV (sz:=13) rfl rfl rfl mV EA rfl rfl
  ·exact tk
  ·exact tk
  ·rfl
  ·rfl
  ·simp only[maxLen];omega
  ·omega
  intro v48
  refine db (v:=v48) tk fun _ hs48=>?_
  obtain⟨a48,cap48,rfl,hs48,_,_⟩:=hs48
  refine aj ?_
  apply n_d
  ·refine⟨?_,trivial⟩
   apply ya rfl rfl;exact yq (ai rfl)
  apply dq 10 rfl
  ·exact yq (ad rfl)
  apply dq 11 rfl
  ·exact yq (qfa 13 rfl di rfl rfl lq)
  refine an [11,0,10] [] 12 [(50,_),(48,_)] gO ⟨rfl,rfl,trivial⟩ (by kernel_rfl) (by kernel_rfl) fun Ex=>?_
  refine st rfl rfl rfl lq rfl ?_
  refine aj ?_
  apply n_d
  ·exact trivial
  refine bd (by kernel_rfl) ?_
  refine ak<|ah<|aS mixed ?_
  apply dq 0 rfl
  ·exact yq (aK rfl cd bM)
  apply dq 2 rfl
  ·exact yq (ai rfl)
  apply dq 3 rfl
  ·exact yq (ad rfl)
  apply dq 4 rfl
  ·exact yq (qfa 10 rfl cL rfl rfl yS3)
  apply dq 5 rfl
  ·exact yq (qld rfl yA3)
  refine an [0] [5,4,3,2] 1 [(51,_)] gO ⟨rfl,trivial⟩ (by kernel_rfl) (by kernel_rfl) fun Ex=>?_
  refine lc1 rfl rfl rfl (lj pa l (o1:Nat)) ?_
  refine aj ?_
  apply n_d
  ·refine⟨?_,?_,?_,?_,trivial⟩
   ·apply ya rfl rfl;exact yq (qld rfl yA3)
   ·apply ya rfl rfl;exact yq (qfa 10 rfl cL rfl rfl yS3)
   ·apply ya rfl rfl;exact yq (ad rfl)
   apply ya rfl rfl;exact yq (ai rfl)
  apply dq 6 rfl
  ·exact yq (qi rfl rfl (aZ ·))
  refine an [6,2,3,4,5] [] 7 [(57,_)] gO ⟨rfl,trivial⟩ (by kernel_rfl) (by kernel_rfl) fun Ex=>?_
  refine asg rfl rfl<|aj ?_
  apply n_d
  ·exact trivial
  refine bd (by kernel_rfl) ?_
  refine ak<|rt ?_
  rw[hrow,← kj pr l ps]
  refine lF (L':=pt pb (.cells #[.pointer (some ⟨pa,0,none⟩),.pointer (some ⟨po,0,none⟩),.pointer (some ⟨pr,0,none⟩),.pointer (some ⟨bq,0,none⟩),.int .i64 l.key,.int .i64 l.elem,.int .i64 l.ka,.int .i64 l.ea,.int .i64 l.cap,.int .i64 l.eo,.int .i64 l.bo,.int .i64 l.slot,.int .i64 l.group,(.slice a48 (ps.length+1) cap48),vT] 68 (0,0))::aE 73 13 (.slice a48 (ps.length+1) cap48) (ps.length+1) (rowOf (bJ pa l) (ps.map cj ++ [(⟨p,o1,newS,false,false⟩:SR)]))::cf pr l (ps.map cj ++ [(⟨p,o1,newS,false,false⟩:SR)])::bj pr s'::ae pa s'::Fr) (fun w h=>?_) ?_
  ·have h2:=sZ w (bB (x:=(⟨p,o1,newS,false,false⟩:SR)) vc (R:=cf pr l (ps.map cj)::pt pb (.cells #[.pointer (some ⟨pa,0,none⟩),.pointer (some ⟨po,0,none⟩),.pointer (some ⟨pr,0,none⟩),.pointer (some ⟨bq,0,none⟩),.int .i64 l.key,.int .i64 l.elem,.int .i64 l.ka,.int .i64 l.ea,.int .i64 l.cap,.int .i64 l.eo,.int .i64 l.bo,.int .i64 l.slot,.int .i64 l.group,(.slice a48 (ps.length+1) cap48),vT] 68 (0,0))::aE 73 13 (.slice a48 (ps.length+1) cap48) (ps.length+1) (rowOf (bJ pa l) (ps.map cj ++ [(⟨p,o1,newS,false,false⟩:SR)]))::bj pr s'::ae pa s'::Fr) (by dsimp only;(exact en)) w h)
   exact(show Ent (cf pr l (ps.map cj ++ [(⟨p,o1,newS,false,false⟩:SR)])::pt pb (.cells #[.pointer (some ⟨pa,0,none⟩),.pointer (some ⟨po,0,none⟩),.pointer (some ⟨pr,0,none⟩),.pointer (some ⟨bq,0,none⟩),.int .i64 l.key,.int .i64 l.elem,.int .i64 l.ka,.int .i64 l.ea,.int .i64 l.cap,.int .i64 l.eo,.int .i64 l.bo,.int .i64 l.slot,.int .i64 l.group,(.slice a48 (ps.length+1) cap48),vT] 68 (0,0))::aE 73 13 (.slice a48 (ps.length+1) cap48) (ps.length+1) (rowOf (bJ pa l) (ps.map cj ++ [(⟨p,o1,newS,false,false⟩:SR)]))::bj pr s'::ae pa s'::Fr) _ by(exact en)) w h2
  refine fr1 rfl ([pt pb (.cells #[.pointer (some ⟨pa,0,none⟩),.pointer (some ⟨po,0,none⟩),.pointer (some ⟨pr,0,none⟩),.pointer (some ⟨bq,0,none⟩),.int .i64 l.key,.int .i64 l.elem,.int .i64 l.ka,.int .i64 l.ea,.int .i64 l.cap,.int .i64 l.eo,.int .i64 l.bo,.int .i64 l.slot,.int .i64 l.group,(.slice a48 (ps.length+1) cap48),vT] 68 (0,0)),aE 73 13 (.slice a48 (ps.length+1) cap48) (ps.length+1) (rowOf (bJ pa l) (ps.map cj ++ [(⟨p,o1,newS,false,false⟩:SR)])),cf pr l (ps.map cj ++ [(⟨p,o1,newS,false,false⟩:SR)]),bj pr s',ae pa s']) (.tmp rfl) ?_
  exact⟨s',_,.slice a48 (ps.length+1) cap48,by rw[js rfl],by rw[show(ps.map cj ++ [(⟨p,o1,newS,false,false⟩:SR)]).length=ps.length+1 by simp],hA',by rw[qP _ _ rfl,iv];simp;omega⟩
 apply fj (q1:=[]) (q2:=[7,6,5,4,3,2,1,0]) []
 ·exact gO
 ·exact trivial
 ·kernel_rfl
 intro Ex
 refine az rfl n9 fun b3=>aj ?_
 apply n_d
 ·refine⟨?_,?_,?_,?_,?_,?_,?_,?_,trivial⟩
  ·apply ya rfl rfl;exact yq (aK rfl cu aX)
  ·apply ya rfl rfl;exact yq (qfa 4 rfl di rfl rfl aX)
  ·apply ya rfl rfl;exact yq (ad rfl)
  ·apply ya rfl rfl;exact yq (ai rfl)
  ·apply ya rfl rfl;exact yq (qld rfl du)
  ·apply ya rfl rfl;exact yq (qfa 0 rfl di rfl rfl dt)
  ·apply ya rfl rfl;exact yq (ad rfl)
  apply ya rfl rfl;exact yq (ai rfl)
 refine an [3,7,2,6,1,5,0,4] [] 8 [(11,_),(15,_)] gO ⟨rfl,rfl,trivial⟩ (by kernel_rfl) (by kernel_rfl) fun Ex=>?_
 refine lcf rfl rfl rfl (hp) ?_
 rintro v L' ⟨s',rfl,rfl,hT,hN,hZ⟩
 refine bF ?_
 refine aj ?_
 apply n_d
 ·exact trivial
 apply dq 9 rfl
 ·exact yq (ai rfl)
 apply dq 10 rfl
 ·exact yq (aa rfl ga)
 apply dq 11 rfl
 ·exact yq (aa rfl ga)
 refine an [10,9] [11] 13 [(3,_),(17,_)] gO ⟨rfl,rfl,trivial⟩ (by kernel_rfl) (by kernel_rfl) fun Ex=>?_
 refine sta rfl rfl rfl bM rfl rfl ?_
 refine aj ?_
 apply n_d
 ·refine⟨?_,trivial⟩
  apply ya rfl rfl;exact yq (aa rfl ga)
 refine an [11] [] 14 [(18,_)] gO ⟨rfl,trivial⟩ (by kernel_rfl) (by kernel_rfl) fun Ex=>?_
 refine asg rfl rfl<|aj ?_
 apply n_d
 ·exact trivial
 refine bd (by kernel_rfl) ?_
 refine ak<|ah<|aS mixed ?_
 apply dq 0 rfl
 ·exact yq (ai rfl)
 apply dq 1 rfl
 ·exact yq (ad rfl)
 apply dq 2 rfl
 ·exact yq (qfa 2 rfl di rfl rfl rf)
 apply dq 3 rfl
 ·exact yq (qld rfl rh)
 apply dq 4 rfl
 ·exact yq (ai rfl)
 apply dq 5 rfl
 ·exact yq (ad rfl)
 apply dq 6 rfl
 ·exact yq (qfa 4 rfl di rfl rfl aX)
 apply dq 7 rfl
 ·exact yq (aK rfl cu aX)
 refine an [3,7,2,6,1,5,0,4] [] 8 [(23,_),(27,_)] gO ⟨rfl,rfl,trivial⟩ (by kernel_rfl) (by kernel_rfl) fun Ex=>?_
 refine lcf rfl rfl rfl (hr) ?_
 rintro v L' ⟨p,rfl,rfl⟩
 refine bF ?_
 refine aj ?_
 apply n_d
 ·exact trivial
 apply dq 9 rfl
 ·exact yq (ai rfl)
 apply dq 10 rfl
 ·exact yq (aa rfl ga)
 apply dq 11 rfl
 ·exact yq (aa rfl ga)
 refine an [10,9] [11] 12 [(29,_)] gO ⟨rfl,trivial⟩ (by kernel_rfl) (by kernel_rfl) fun Ex=>?_
 refine asg rfl rfl<|aj ?_
 apply n_d
 ·refine⟨?_,trivial⟩
  apply ya rfl rfl;exact yq (aa rfl ga)
 refine an [11] [] 13 [(30,_)] gO ⟨rfl,trivial⟩ (by kernel_rfl) (by kernel_rfl) fun Ex=>?_
 refine asg rfl rfl<|aj ?_
 apply n_d
 ·exact trivial
 refine bd (by kernel_rfl) ?_
 refine ak<|ah<|sr<|mv rfl rfl<|lc1 rfl rfl rfl (bW _) ?_
 refine mv rfl rfl<|l_q rfl (qi rfl rfl (aI ·))<|lc<|aA rfl (fun z1=>?_) fun z1=>?_
 ·exact absurd rfl z1
 refine al<|ak<|ah<|sr<|mv rfl rfl<|l_q rfl (qi rfl rfl (aI ·))<|lc<|aA rfl (fun z2=>?_) fun z2=>?_
 ·exact absurd rfl z2
 refine al<|nz<|mv rfl rfl<|lcf rfl rfl rfl (j6 pb pa po pr bq l ps vP vT (by omega)) ?_
 rintro v L' rfl
 refine bF ?_
 refine km (x:=(⟨p,o1,newS,false,false⟩:SR)) tk fun vc=>?_
 dsimp only
 have hat:=iY hs hcc (by omega)
 have hx1:l9 s' l (⟨p,o1,newS,false,false⟩:SR):=⟨SRng.new,fun _=>⟨hT,(hN.bl _).2 (.inr (by rw[ho1])),hZ⟩,fun q=>(by cases q),(show o1≤1000000000 by omega)⟩
 have hA':=hA.pushS hs k2 hN hx1 ho1.symm
 have hra:bj pr s'=bj pr (s.take (fc l)):=jg (hN.limit.trans (cW hs).symm) hN.all hN.dead
 rw[← hra]
 have hrow:rowOf (bJ pa l) (ps.map cj) ++ ([Value.agg #[.pointer (some ⟨pa,0,none⟩),.int .i64 l.key,.int .i64 l.elem,.int .i64 l.ka,.int .i64 l.ea,.int .i64 l.cap,.int .i64 l.eo,.int .i64 l.bo,.int .i64 l.slot,.int .i64 l.group,.int .i64 (o1:Nat),.pointer (some ⟨p,0,none⟩),.bool false]].flatMap fun x=>x.cells.toList).toArray.toList=rowOf (bJ pa l) (ps.map cj ++ [(⟨p,o1,newS,false,false⟩:SR)]):=by rw[jf];rfl
 refine lc<|ah<|aS mixed ?_
 apply dq 0 rfl
 ·exact yq (ai rfl)
 apply dq 1 rfl
 ·exact yq (ai rfl)
 apply dq 2 rfl
 ·exact yq (ad rfl)
 apply dq 3 rfl
 ·exact yq (qfa 13 rfl di rfl rfl lq)
 apply dq 4 rfl
 ·exact yq (qld rfl nO)
 apply dq 5 rfl
 ·exact yq (aK rfl cd bM)
 apply dq 6 rfl
 ·exact yq (ai rfl)
 apply dq 7 rfl
 ·apply yq
  apply aQ rfl Eo wT
  apply aF.all
  ·repeat (first | exact aH.here | apply aH.there)
  ·rfl
  ·simp
  ·exact sal
  apply aF.one
  ·repeat (first | exact aH.here | apply aH.there)
  ·rfl
  ·exact sa
  exact aF.nil
 refine an [7,5,6] [4,3,2,1,0] 8 [(46,_)] gO ⟨rfl,trivial⟩ (by kernel_rfl) (by kernel_rfl) fun Ex=>?_
 refine ei (us:=[_]) rfl rfl mV mW wT rfl rfl rfl rfl rfl (fun b47=>?_)
 refine aj ?_
 apply n_d
 ·refine⟨?_,?_,?_,?_,?_,trivial⟩
  ·apply ya rfl rfl;exact yq (qld rfl nO)
  ·apply ya rfl rfl;exact yq (qfa 13 rfl di rfl rfl lq)
  ·apply ya rfl rfl;exact yq (ad rfl)
  ·apply ya rfl rfl;exact yq (ai rfl)
  apply ya rfl rfl;exact yq (ai rfl)
 refine an [4,3,2,1] [0] 9 [(43,_),(47,_)] gO ⟨rfl,rfl,trivial⟩ (by kernel_rfl) (by kernel_rfl) fun Ex=>?_
 apply dV (sz:=13) rfl rfl rfl mV EA rfl rfl
 ·exact tk
 ·exact tk
 ·rfl
 ·rfl
 ·simp only[maxLen];omega
 ·omega
 intro v48
 refine db (v:=v48) tk fun _ hs48=>?_
 obtain⟨a48,cap48,rfl,hs48,_,_⟩:=hs48
 refine aj ?_
 apply n_d
 ·refine⟨?_,trivial⟩
  apply ya rfl rfl;exact yq (ai rfl)
 apply dq 10 rfl
 ·exact yq (ad rfl)
 apply dq 11 rfl
 ·exact yq (qfa 13 rfl di rfl rfl lq)
 refine an [11,0,10] [] 12 [(50,_),(48,_)] gO ⟨rfl,rfl,trivial⟩ (by kernel_rfl) (by kernel_rfl) fun Ex=>?_
 refine st rfl rfl rfl lq rfl ?_
 refine aj ?_
 apply n_d
 ·exact trivial
 refine bd (by kernel_rfl) ?_
 refine ak<|ah<|aS mixed ?_
 apply dq 0 rfl
 ·exact yq (aK rfl cd bM)
 apply dq 2 rfl
 ·exact yq (ai rfl)
 apply dq 3 rfl
 ·exact yq (ad rfl)
 apply dq 4 rfl
 ·exact yq (qfa 10 rfl cL rfl rfl yS3)
 apply dq 5 rfl
 ·exact yq (qld rfl yA3)
 refine an [0] [5,4,3,2] 1 [(51,_)] gO ⟨rfl,trivial⟩ (by kernel_rfl) (by kernel_rfl) fun Ex=>?_
 refine lc1 rfl rfl rfl (lj pa l (o1:Nat)) ?_
 refine aj ?_
 apply n_d
 ·refine⟨?_,?_,?_,?_,trivial⟩
  ·apply ya rfl rfl;exact yq (qld rfl yA3)
  ·apply ya rfl rfl;exact yq (qfa 10 rfl cL rfl rfl yS3)
  ·apply ya rfl rfl;exact yq (ad rfl)
  apply ya rfl rfl;exact yq (ai rfl)
 apply dq 6 rfl
 ·exact yq (qi rfl rfl (aZ ·))
 refine an [6,2,3,4,5] [] 7 [(57,_)] gO ⟨rfl,trivial⟩ (by kernel_rfl) (by kernel_rfl) fun Ex=>?_
 refine asg rfl rfl<|aj ?_
 apply n_d
 ·exact trivial
 refine bd (by kernel_rfl) ?_
 refine ak<|rt ?_
 rw[hrow,← kj pr l ps]
 refine lF (L':=pt pb (.cells #[.pointer (some ⟨pa,0,none⟩),.pointer (some ⟨po,0,none⟩),.pointer (some ⟨pr,0,none⟩),.pointer (some ⟨bq,0,none⟩),.int .i64 l.key,.int .i64 l.elem,.int .i64 l.ka,.int .i64 l.ea,.int .i64 l.cap,.int .i64 l.eo,.int .i64 l.bo,.int .i64 l.slot,.int .i64 l.group,(.slice a48 (ps.length+1) cap48),vT] 68 (0,0))::aE 73 13 (.slice a48 (ps.length+1) cap48) (ps.length+1) (rowOf (bJ pa l) (ps.map cj ++ [(⟨p,o1,newS,false,false⟩:SR)]))::cf pr l (ps.map cj ++ [(⟨p,o1,newS,false,false⟩:SR)])::bj pr s'::ae pa s'::Fr) (fun w h=>?_) ?_
 ·have h2:=sZ w (bB (x:=(⟨p,o1,newS,false,false⟩:SR)) vc (R:=cf pr l (ps.map cj)::pt pb (.cells #[.pointer (some ⟨pa,0,none⟩),.pointer (some ⟨po,0,none⟩),.pointer (some ⟨pr,0,none⟩),.pointer (some ⟨bq,0,none⟩),.int .i64 l.key,.int .i64 l.elem,.int .i64 l.ka,.int .i64 l.ea,.int .i64 l.cap,.int .i64 l.eo,.int .i64 l.bo,.int .i64 l.slot,.int .i64 l.group,(.slice a48 (ps.length+1) cap48),vT] 68 (0,0))::aE 73 13 (.slice a48 (ps.length+1) cap48) (ps.length+1) (rowOf (bJ pa l) (ps.map cj ++ [(⟨p,o1,newS,false,false⟩:SR)]))::bj pr s'::ae pa s'::Fr) (by dsimp only;(exact en)) w h)
  exact(show Ent (cf pr l (ps.map cj ++ [(⟨p,o1,newS,false,false⟩:SR)])::pt pb (.cells #[.pointer (some ⟨pa,0,none⟩),.pointer (some ⟨po,0,none⟩),.pointer (some ⟨pr,0,none⟩),.pointer (some ⟨bq,0,none⟩),.int .i64 l.key,.int .i64 l.elem,.int .i64 l.ka,.int .i64 l.ea,.int .i64 l.cap,.int .i64 l.eo,.int .i64 l.bo,.int .i64 l.slot,.int .i64 l.group,(.slice a48 (ps.length+1) cap48),vT] 68 (0,0))::aE 73 13 (.slice a48 (ps.length+1) cap48) (ps.length+1) (rowOf (bJ pa l) (ps.map cj ++ [(⟨p,o1,newS,false,false⟩:SR)]))::bj pr s'::ae pa s'::Fr) _ by(exact en)) w h2
 refine fr1 rfl ([pt pb (.cells #[.pointer (some ⟨pa,0,none⟩),.pointer (some ⟨po,0,none⟩),.pointer (some ⟨pr,0,none⟩),.pointer (some ⟨bq,0,none⟩),.int .i64 l.key,.int .i64 l.elem,.int .i64 l.ka,.int .i64 l.ea,.int .i64 l.cap,.int .i64 l.eo,.int .i64 l.bo,.int .i64 l.slot,.int .i64 l.group,(.slice a48 (ps.length+1) cap48),vT] 68 (0,0)),aE 73 13 (.slice a48 (ps.length+1) cap48) (ps.length+1) (rowOf (bJ pa l) (ps.map cj ++ [(⟨p,o1,newS,false,false⟩:SR)])),cf pr l (ps.map cj ++ [(⟨p,o1,newS,false,false⟩:SR)]),bj pr s',ae pa s']) (.tmp rfl) ?_
 exact⟨s',_,.slice a48 (ps.length+1) cap48,by rw[js rfl],by rw[show(ps.map cj ++ [(⟨p,o1,newS,false,false⟩:SR)]).length=ps.length+1 by simp],hA',by rw[qP _ _ rfl,iv];simp;omega⟩
end
end Exact11
end Go.Proofs.YthkajgkagnenbaaGreatDoor
