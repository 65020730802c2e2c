/- The laws of larderlaw11 over scripts: a step. -/
import Derived.Test.YthkajgkagnenbaaGreatDoorExact11I
set_option linter.unusedVariables false
set_option linter.unusedSimpArgs false
set_option linter.unusedSectionVars false
set_option maxRecDepth 100000
namespace Go.Proofs.YthkajgkagnenbaaGreatDoor
namespace Exact11
open Go.RowKit Go.Proofs Eng Ty Bits Mem Search Arena CtrlB Ctrl Layout GroupB Group TableB TableI Table Cells Refill Small RefA RefT
open BytesP Oracle Ref04 Ref03
open Exact (PR cx nI)
theorem CH (pa:Nat) (l:Lay) (off:Int):aG Tryz.prog 43 #[.pointer (some ⟨pa,0,none⟩),.agg #[.int .i64 l.key,.int .i64 l.elem,.int .i64 l.ka,.int .i64 l.ea,.int .i64 l.cap,.int .i64 l.eo,.int .i64 l.bo,.int .i64 l.slot,.int .i64 l.group],.int .i64 off] [] (fun v L=>v=.agg #[.pointer (some ⟨pa,0,none⟩),.int .i64 l.key,.int .i64 l.elem,.int .i64 l.ka,.int .i64 l.ea,.int .i64 l.cap,.int .i64 l.eo,.int .i64 l.bo,.int .i64 l.slot,.int .i64 l.group,.int .i64 off]∧L= []):=by
 refine aq E5 Tryz.func43 rfl rfl rfl fun Fr w0=>aR ?_
 refine sr<|aP rfl rfl fun b4=>az rfl n9 fun b6=>lz<|mv rfl rfl<|l_q rfl (aK rfl cu aX) ?_
 refine mv rfl rfl ?_
 apply l_q rfl
 ·apply aQ rfl Dj n9
  apply aF.one
  ·repeat (first | exact aH.here | apply aH.there)
  ·rfl
  ·exact sa
  apply aF.all
  ·repeat (first | exact aH.here | apply aH.there)
  ·rfl
  ·simp
  ·exact sal
  apply aF.one
  ·repeat (first | exact aH.here | apply aH.there)
  ·rfl
  ·exact sa
  exact aF.nil
 refine sta rfl rfl rfl bM rfl rfl ?_
 refine lc<|rt ?_
 apply aJ (.inl rfl) ([])
 ·apply cO rfl
  apply Rv.agg rfl
  ·exact tk
  exact aD cd bM rfl
 ·exact⟨rfl,rfl⟩
 exact en
theorem oG {pa:Nat} {l:Lay} {ps:List SR} {k:Nat} {x:SR} (hx:ps[k]?=some x) (g n cap:Nat):∀ j u,(bJ pa l x)[j]?=some u→ct (aE 73 13 (.slice (some ⟨g,0,none⟩) n cap) n (rowOf (bJ pa l) ps)) ((⟨g,0+((k:Nat):Int).toNat*13,none⟩:Addr).add j) u:=fun j u hu=>by
 have hj:j < 13:=by rcases Nat.lt_or_ge j 13 with q | q;exact q;rw[List.getElem?_eq_none (by rw[n3];exact q)] at hu;cases hu
 rw[cz,Nat.zero_add,Int.toNat_natCast]
 exact ji (by rw[dA (n3 pa l) ps k j x hx hj];exact hu)
theorem Av {s s':ArS} {l:Lay} {x x':SR} {ps:List SR} {ts:List PR} {k:Nat} (pa:Nat) (hs:s.ok) (hA:fe s l ps ts) (hx:ps[k]?=some x) (h:CG s l x s' x'):fe s' l (ps.set k x') ts∧bJ pa l x'=bJ pa l x∧iJ (ps.set k x') ts≤iJ ps ts+1:=by
 unfold iJ
 cases h with
 | step s' T' h=>exact⟨h.all hs hA hx,rfl,by rw[List.length_set,vd (x':={x with S:=T'}) hx rfl];omega⟩
 | free hd=>exact⟨hA.free hs hx hd,rfl,by rw[List.length_set];have:=xX ps k {x with dead:=true};omega⟩
section
variable (G:HP) (hGT:dz G) (hGO:lI G) (pb pa po pr bq bm:Nat) (os:List (ByteArray×Int)) (hg:kE os) (hw:∀ o∈os,0≤o.2∧o.2 < 18446744073709551616) (l:Lay) (hl:l.err=0)
include hGT hGO hg hw hl
theorem w7 (s:ArS) (hs:s.ok) (ps:List SR) (ts:List PR) (vP vT:Value) (hlen:ps.length≤980000000000) (hlt:ts.length≤8000000000000) (hA:fe s l ps ts) (i:Int) (o:pC) (how:o.wf):aG Tryz.prog 15 #[.pointer (some ⟨pb,0,none⟩),.int .i64 i,.agg #[.int .i64 o.kind,.int .i64 o.s,.int .i64 o.n,.int .i64 o.tag,.int .u64 o.u,.string o.k,.string o.e]] [pt po (.cells #[.map (some bm)] 192 (0,0)),cy (fun k:ByteArray=>Value.string k) bm (bN os),G,roH bq os,pt pb (.cells #[.pointer (some ⟨pa,0,none⟩),.pointer (some ⟨po,0,none⟩),.pointer (some ⟨pr,0,none⟩),.pointer (some ⟨bq,0,none⟩),.int .i64 l.key,.int .i64 l.elem,.int .i64 l.ka,.int .i64 l.ea,.int .i64 l.cap,.int .i64 l.eo,.int .i64 l.bo,.int .i64 l.slot,.int .i64 l.group,vP,vT] 68 (0,0)),aE 73 13 vP ps.length (rowOf (bJ pa l) ps),cf pr l ps,aE 40 1 vT ts.length (dv ts),cx pr l ts,bj pr s,ae pa s] (fun v L=>∃ s' ps' ts' vP' vT',v=.bool true∧L= [pt po (.cells #[.map (some bm)] 192 (0,0)),cy (fun k:ByteArray=>Value.string k) bm (bN os),G,roH bq os,pt pb (.cells #[.pointer (some ⟨pa,0,none⟩),.pointer (some ⟨po,0,none⟩),.pointer (some ⟨pr,0,none⟩),.pointer (some ⟨bq,0,none⟩),.int .i64 l.key,.int .i64 l.elem,.int .i64 l.ka,.int .i64 l.ea,.int .i64 l.cap,.int .i64 l.eo,.int .i64 l.bo,.int .i64 l.slot,.int .i64 l.group,vP',vT'] 68 (0,0)),aE 73 13 vP' ps'.length (rowOf (bJ pa l) ps'),cf pr l ps',aE 40 1 vT' ts'.length (dv ts'),cx pr l ts',bj pr s',ae pa s']∧fe s' l ps' ts'∧iJ ps' ts'≤iJ ps ts+1):=by
 refine aq HZ Tryz.func15 rfl rfl rfl fun Fr w0=>aR ?_
 refine cw (.there (.there (.there (.there (.there .here))))) fun _ hvp=>?_
 obtain⟨a0,cap,rfl,ha,_,_⟩:=hvp
 refine sr<|aP rfl rfl fun b5=>asg rfl rfl<|lc<|ah<|ax<|sr<|l_q rfl (qfa 0 rfl dD rfl rfl yS3)<|l_q rfl (qld rfl yA3) ?_
 refine l_q rfl (qi rfl rfl (aZ ·))<|asg rfl rfl<|lc<|aA rfl (fun k1=>?_) fun k1=>?_
 ·refine sr<|mv rfl rfl<|lcf rfl rfl rfl (w8 pb pa po pr bq l hl s hs ps ts (.slice a0 ps.length cap) vT hlen hA) ?_
  rintro v L' ⟨s',ps',vP',rfl,rfl,hA',hd'⟩
  refine bF ?_
  refine asg rfl rfl<|lc<|rt<|fr1 rfl ([pt po (.cells #[.map (some bm)] 192 (0,0)),cy (fun k:ByteArray=>Value.string k) bm (bN os),G,roH bq os,pt pb (.cells #[.pointer (some ⟨pa,0,none⟩),.pointer (some ⟨po,0,none⟩),.pointer (some ⟨pr,0,none⟩),.pointer (some ⟨bq,0,none⟩),.int .i64 l.key,.int .i64 l.elem,.int .i64 l.ka,.int .i64 l.ea,.int .i64 l.cap,.int .i64 l.eo,.int .i64 l.bo,.int .i64 l.slot,.int .i64 l.group,vP',vT] 68 (0,0)),aE 73 13 vP' ps'.length (rowOf (bJ pa l) ps'),cf pr l ps',aE 40 1 vT ts.length (dv ts),cx pr l ts,bj pr s',ae pa s']) (.tmp rfl) ?_
  exact⟨s',ps',ts,vP',vT,rfl,rfl,hA',by unfold iJ;omega⟩
 refine sr<|l_q rfl (qfa 0 rfl dD rfl rfl yS3)<|l_q rfl (qld rfl yA3) ?_
 refine l_q rfl (qi rfl rfl (aZ ·))<|asg rfl rfl<|lc<|aA rfl (fun k2=>?_) fun k2=>?_
 ·skip
  rcases nI pa pr s hs o.n with⟨c,hc,hp,hr⟩ | ⟨h1,h2,h3,hp,hr⟩
  ·skip
   refine ah<|aS mixed ?_
   apply dq 0 rfl
   ·exact yq (ai rfl)
   apply dq 1 rfl
   ·exact yq (ad rfl)
   apply dq 2 rfl
   ·exact yq (qfa 0 rfl di rfl rfl dt)
   apply dq 3 rfl
   ·exact yq (qld rfl du)
   apply dq 4 rfl
   ·exact yq (qfa 2 rfl dD rfl rfl yS3)
   apply dq 5 rfl
   ·exact yq (qld rfl yA3)
   refine an [3,5,2,4,1,0] [] 6 [(27,_),(29,_)] gO ⟨rfl,rfl,trivial⟩ (by kernel_rfl) (by kernel_rfl) fun Ex=>?_
   refine lc1 rfl rfl rfl (hp) ?_
   refine aj ?_
   apply n_d
   ·exact trivial
   apply dq 7 rfl
   ·exact yq (ai rfl)
   apply dq 8 rfl
   ·exact yq (aa rfl ga)
   apply dq 9 rfl
   ·exact yq (aa rfl ga)
   refine an [8,7] [9] 10 [(31,_)] gO ⟨rfl,trivial⟩ (by kernel_rfl) (by kernel_rfl) fun Ex=>?_
   refine asg rfl rfl<|aj ?_
   apply n_d
   ·refine⟨?_,trivial⟩
    apply ya rfl rfl;exact yq (aa rfl ga)
   refine an [9] [] 11 [(32,_)] gO ⟨rfl,trivial⟩ (by kernel_rfl) (by kernel_rfl) fun Ex=>?_
   refine asg rfl rfl<|aj ?_
   apply n_d
   ·exact trivial
   refine bd (by kernel_rfl) ?_
   refine ak<|ah<|aS mixed ?_
   apply dq 0 rfl
   ·exact yq (ai rfl)
   apply dq 1 rfl
   ·exact yq (ad rfl)
   apply dq 2 rfl
   ·exact yq (qfa 2 rfl di rfl rfl rf)
   apply dq 3 rfl
   ·exact yq (qld rfl rh)
   apply dq 4 rfl
   ·exact yq (qfa 2 rfl dD rfl rfl yS3)
   apply dq 5 rfl
   ·exact yq (qld rfl yA3)
   refine an [3,5,2,4,1,0] [] 6 [(37,_),(39,_)] gO ⟨rfl,rfl,trivial⟩ (by kernel_rfl) (by kernel_rfl) fun Ex=>?_
   refine lc1 rfl rfl rfl (hr) ?_
   refine aj ?_
   apply n_d
   ·exact trivial
   apply dq 7 rfl
   ·exact yq (ai rfl)
   apply dq 8 rfl
   ·exact yq (aa rfl ga)
   apply dq 9 rfl
   ·exact yq (aa rfl ga)
   refine an [8,7] [9] 10 [(41,_)] gO ⟨rfl,trivial⟩ (by kernel_rfl) (by kernel_rfl) fun Ex=>?_
   refine asg rfl rfl<|aj ?_
   apply n_d
   ·refine⟨?_,trivial⟩
    apply ya rfl rfl;exact yq (aa rfl ga)
   refine an [9] [] 11 [(42,_)] gO ⟨rfl,trivial⟩ (by kernel_rfl) (by kernel_rfl) fun Ex=>?_
   refine asg rfl rfl<|aj ?_
   apply n_d
   ·exact trivial
   refine bd (by kernel_rfl) ?_
   refine ak<|ah<|sr<|mv rfl rfl<|l_q rfl (qi rfl rfl (aZ ·))<|lc<|aA rfl (fun z=>?_) fun z=>?_
   ·exact absurd z hc
   refine al<|nz<|mv rfl rfl<|mv rfl rfl<|l_q rfl (qi rfl rfl (aZ ·))<|mv rfl rfl<|bD (t:=50) rfl (fun z1=>?_) fun z1=>?_
   ·refine au rfl rfl<|mv rfl rfl<|au rfl rfl<|lc1 rfl rfl rfl (bW _) ?_
    refine au rfl rfl<|mv rfl rfl<|au rfl rfl<|l_q rfl (qi rfl rfl (aZ ·))<|l_q rfl (aL rfl rfl)<|asg rfl rfl<|lc<|rt<|fr1 rfl ([pt po (.cells #[.map (some bm)] 192 (0,0)),cy (fun k:ByteArray=>Value.string k) bm (bN os),G,roH bq os,pt pb (.cells #[.pointer (some ⟨pa,0,none⟩),.pointer (some ⟨po,0,none⟩),.pointer (some ⟨pr,0,none⟩),.pointer (some ⟨bq,0,none⟩),.int .i64 l.key,.int .i64 l.elem,.int .i64 l.ka,.int .i64 l.ea,.int .i64 l.cap,.int .i64 l.eo,.int .i64 l.bo,.int .i64 l.slot,.int .i64 l.group,(.slice a0 ps.length cap),vT] 68 (0,0)),aE 73 13 (.slice a0 ps.length cap) ps.length (rowOf (bJ pa l) ps),cf pr l ps,aE 40 1 vT ts.length (dv ts),cx pr l ts,bj pr s,ae pa s]) (.tmp rfl) ?_
    exact⟨s,ps,ts,(.slice a0 ps.length cap),vT,by rw[js rfl],rfl,hA,by omega⟩
   exact absurd rfl z1
  have hA2:fe (s.take (aC o.n)) l (ps.map cj) ts:=hA.over (fun p hp=>(ef hs).2 (.inl hp)) (fun p hp a ha hb=>jb hs (by have:=cF h1;omega) hp ha hb)
  refine ah<|aS mixed ?_
  apply dq 0 rfl
  ·exact yq (ai rfl)
  apply dq 1 rfl
  ·exact yq (ad rfl)
  apply dq 2 rfl
  ·exact yq (qfa 0 rfl di rfl rfl dt)
  apply dq 3 rfl
  ·exact yq (qld rfl du)
  apply dq 4 rfl
  ·exact yq (qfa 2 rfl dD rfl rfl yS3)
  apply dq 5 rfl
  ·exact yq (qld rfl yA3)
  refine an [3,5,2,4,1,0] [] 6 [(27,_),(29,_)] gO ⟨rfl,rfl,trivial⟩ (by kernel_rfl) (by kernel_rfl) fun Ex=>?_
  refine lc1 rfl rfl rfl (hp) ?_
  refine aj ?_
  apply n_d
  ·exact trivial
  apply dq 7 rfl
  ·exact yq (ai rfl)
  apply dq 8 rfl
  ·exact yq (aa rfl ga)
  apply dq 9 rfl
  ·exact yq (aa rfl ga)
  refine an [8,7] [9] 10 [(31,_)] gO ⟨rfl,trivial⟩ (by kernel_rfl) (by kernel_rfl) fun Ex=>?_
  refine asg rfl rfl<|aj ?_
  apply n_d
  ·refine⟨?_,trivial⟩
   apply ya rfl rfl;exact yq (aa rfl ga)
  refine an [9] [] 11 [(32,_)] gO ⟨rfl,trivial⟩ (by kernel_rfl) (by kernel_rfl) fun Ex=>?_
  refine asg rfl rfl<|aj ?_
  apply n_d
  ·exact trivial
  refine bd (by kernel_rfl) ?_
  refine ak<|ah<|aS mixed ?_
  apply dq 0 rfl
  ·exact yq (ai rfl)
  apply dq 1 rfl
  ·exact yq (ad rfl)
  apply dq 2 rfl
  ·exact yq (qfa 2 rfl di rfl rfl rf)
  apply dq 3 rfl
  ·exact yq (qld rfl rh)
  apply dq 4 rfl
  ·exact yq (qfa 2 rfl dD rfl rfl yS3)
  apply dq 5 rfl
  ·exact yq (qld rfl yA3)
  refine an [3,5,2,4,1,0] [] 6 [(37,_),(39,_)] gO ⟨rfl,rfl,trivial⟩ (by kernel_rfl) (by kernel_rfl) fun Ex=>?_
  refine lc1 rfl rfl rfl (hr) ?_
  refine aj ?_
  apply n_d
  ·exact trivial
  apply dq 7 rfl
  ·exact yq (ai rfl)
  apply dq 8 rfl
  ·exact yq (aa rfl ga)
  apply dq 9 rfl
  ·exact yq (aa rfl ga)
  refine an [8,7] [9] 10 [(41,_)] gO ⟨rfl,trivial⟩ (by kernel_rfl) (by kernel_rfl) fun Ex=>?_
  refine asg rfl rfl<|aj ?_
  apply n_d
  ·refine⟨?_,trivial⟩
   apply ya rfl rfl;exact yq (aa rfl ga)
  refine an [9] [] 11 [(42,_)] gO ⟨rfl,trivial⟩ (by kernel_rfl) (by kernel_rfl) fun Ex=>?_
  refine asg rfl rfl<|aj ?_
  apply n_d
  ·exact trivial
  refine bd (by kernel_rfl) ?_
  refine ak<|ah<|sr<|mv rfl rfl<|l_q rfl (qi rfl rfl (aZ ·))<|lc<|aA rfl (fun z=>?_) fun z=>?_
  ·refine aB<|mv rfl rfl<|lcf rfl rfl rfl (j6 pb pa po pr bq l ps (.slice a0 ps.length cap) vT (by omega)) ?_
   rintro v L' rfl
   refine bF ?_
   refine lz<|mv rfl rfl<|mv rfl rfl<|l_q rfl (qi rfl rfl (aZ ·))<|mv rfl rfl<|bD (t:=50) rfl (fun z1=>?_) fun z1=>?_
   ·refine au rfl rfl<|mv rfl rfl<|au rfl rfl<|lc1 rfl rfl rfl (bW _) ?_
    refine au rfl rfl<|mv rfl rfl<|au rfl rfl<|l_q rfl (qi rfl rfl (aZ ·))<|l_q rfl (aL rfl rfl)<|asg rfl rfl<|lc<|rt ?_
    rw[← kj pr l ps]
    refine fr1 rfl ([pt po (.cells #[.map (some bm)] 192 (0,0)),cy (fun k:ByteArray=>Value.string k) bm (bN os),G,roH bq os,pt pb (.cells #[.pointer (some ⟨pa,0,none⟩),.pointer (some ⟨po,0,none⟩),.pointer (some ⟨pr,0,none⟩),.pointer (some ⟨bq,0,none⟩),.int .i64 l.key,.int .i64 l.elem,.int .i64 l.ka,.int .i64 l.ea,.int .i64 l.cap,.int .i64 l.eo,.int .i64 l.bo,.int .i64 l.slot,.int .i64 l.group,(.slice a0 ps.length cap),vT] 68 (0,0)),aE 73 13 (.slice a0 ps.length cap) ps.length (rowOf (bJ pa l) (ps.map cj)),cf pr l (ps.map cj),aE 40 1 vT ts.length (dv ts),cx pr l ts,bj pr (s.take (aC o.n)),ae pa (s.take (aC o.n))]) (.tmp rfl) ?_
    exact⟨s.take (aC o.n),ps.map cj,ts,(.slice a0 ps.length cap),vT,by rw[js rfl],by rw[List.length_map],hA2,by unfold iJ;rw[List.length_map,iv];omega⟩
   exact absurd rfl z1
  exact absurd rfl z
 refine sr<|l_q rfl (qfa 0 rfl dD rfl rfl yS3)<|l_q rfl (qld rfl yA3) ?_
 refine l_q rfl (qi rfl rfl (aU ·))<|mv rfl rfl<|bD (t:=60) rfl (fun q1=>?_) fun q1=>?_
 ·refine ar rfl rfl rfl rfl<|ar rfl rfl rfl rfl<|ar rfl rfl rfl rfl<|l_q rfl (aL rfl rfl)<|mv rfl rfl<|ar rfl rfl rfl rfl<|ar rfl rfl rfl rfl<|ar rfl rfl rfl rfl<|ar rfl rfl rfl rfl<|ar rfl rfl rfl rfl<|ar rfl rfl rfl rfl<|l_q rfl (aL rfl rfl)<|asg rfl rfl<|lc<|aY rfl<|sr<|asg rfl rfl<|lc<|rt<|fr1 rfl ([pt po (.cells #[.map (some bm)] 192 (0,0)),cy (fun k:ByteArray=>Value.string k) bm (bN os),G,roH bq os,pt pb (.cells #[.pointer (some ⟨pa,0,none⟩),.pointer (some ⟨po,0,none⟩),.pointer (some ⟨pr,0,none⟩),.pointer (some ⟨bq,0,none⟩),.int .i64 l.key,.int .i64 l.elem,.int .i64 l.ka,.int .i64 l.ea,.int .i64 l.cap,.int .i64 l.eo,.int .i64 l.bo,.int .i64 l.slot,.int .i64 l.group,(.slice a0 ps.length cap),vT] 68 (0,0)),aE 73 13 (.slice a0 ps.length cap) ps.length (rowOf (bJ pa l) ps),cf pr l ps,aE 40 1 vT ts.length (dv ts),cx pr l ts,bj pr s,ae pa s]) (.tmp rfl) ?_
  exact⟨s,ps,ts,(.slice a0 ps.length cap),vT,rfl,rfl,hA,by omega⟩
 refine au rfl rfl<|l_q rfl (qfa 0 rfl dD rfl rfl yS3)<|au rfl rfl<|l_q rfl (qld rfl yA3) ?_
 refine au rfl rfl<|l_q rfl (qi rfl rfl (cU ·))<|l_q rfl (aL rfl rfl)<|mv rfl rfl<|bD (t:=65) rfl (fun q2=>?_) fun q2=>?_
 ·refine ar rfl rfl rfl rfl<|ar rfl rfl rfl rfl<|ar rfl rfl rfl rfl<|ar rfl rfl rfl rfl<|ar rfl rfl rfl rfl<|ar rfl rfl rfl rfl<|l_q rfl (aL rfl rfl)<|asg rfl rfl<|lc<|aY rfl<|sr<|asg rfl rfl<|lc<|rt<|fr1 rfl ([pt po (.cells #[.map (some bm)] 192 (0,0)),cy (fun k:ByteArray=>Value.string k) bm (bN os),G,roH bq os,pt pb (.cells #[.pointer (some ⟨pa,0,none⟩),.pointer (some ⟨po,0,none⟩),.pointer (some ⟨pr,0,none⟩),.pointer (some ⟨bq,0,none⟩),.int .i64 l.key,.int .i64 l.elem,.int .i64 l.ka,.int .i64 l.ea,.int .i64 l.cap,.int .i64 l.eo,.int .i64 l.bo,.int .i64 l.slot,.int .i64 l.group,(.slice a0 ps.length cap),vT] 68 (0,0)),aE 73 13 (.slice a0 ps.length cap) ps.length (rowOf (bJ pa l) ps),cf pr l ps,aE 40 1 vT ts.length (dv ts),cx pr l ts,bj pr s,ae pa s]) (.tmp rfl) ?_
  exact⟨s,ps,ts,(.slice a0 ps.length cap),vT,rfl,rfl,hA,by omega⟩
 refine au rfl rfl<|mv rfl rfl<|au rfl rfl<|l_q rfl (ad rfl)<|au rfl rfl<|l_q rfl (qfa 13 rfl di rfl rfl lq)<|au rfl rfl<|l_q rfl (qld rfl nO) ?_
 refine au rfl rfl<|l_q rfl (ql rfl mV)<|au rfl rfl<|l_q rfl (qi rfl rfl (aZ ·))<|l_q rfl (aL rfl rfl)<|asg rfl rfl<|lc<|aA rfl (fun q3=>?_) fun q3=>?_
 ·refine sr<|asg rfl rfl<|lc<|rt<|fr1 rfl ([pt po (.cells #[.map (some bm)] 192 (0,0)),cy (fun k:ByteArray=>Value.string k) bm (bN os),G,roH bq os,pt pb (.cells #[.pointer (some ⟨pa,0,none⟩),.pointer (some ⟨po,0,none⟩),.pointer (some ⟨pr,0,none⟩),.pointer (some ⟨bq,0,none⟩),.int .i64 l.key,.int .i64 l.elem,.int .i64 l.ka,.int .i64 l.ea,.int .i64 l.cap,.int .i64 l.eo,.int .i64 l.bo,.int .i64 l.slot,.int .i64 l.group,(.slice a0 ps.length cap),vT] 68 (0,0)),aE 73 13 (.slice a0 ps.length cap) ps.length (rowOf (bJ pa l) ps),cf pr l ps,aE 40 1 vT ts.length (dv ts),cx pr l ts,bj pr s,ae pa s]) (.tmp rfl) ?_
  exact⟨s,ps,ts,(.slice a0 ps.length cap),vT,rfl,rfl,hA,by omega⟩
 obtain⟨g0,rfl⟩:=ha (by omega)
 have htm1:=Int.tmod_lt_of_pos o.s (show(0:Int) < (ps.length:Int) by omega)
 have htm2:=Int.lt_tmod_of_pos o.s (show(0:Int) < (ps.length:Int) by omega)
 refine al<|aV<|ak<|ah<|aS mixed ?_
 apply dq 0 rfl
 ·exact yq (qfa 1 rfl dD rfl rfl yS3)
 apply dq 1 rfl
 ·exact yq (qld rfl yA3)
 apply dq 2 rfl
 ·exact yq (ai rfl)
 apply dq 3 rfl
 ·exact yq (ad rfl)
 apply dq 4 rfl
 ·exact yq (qfa 13 rfl di rfl rfl lq)
 apply dq 5 rfl
 ·exact yq (qld rfl nO)
 apply dq 6 rfl
 ·exact yq (ql rfl mV)
 apply dq 7 rfl
 ·exact yq (iT rfl rfl)
 refine an [7,0,1,2,3,4,5,6] [] 8 [(80,_)] gO ⟨rfl,trivial⟩ (by kernel_rfl) (by kernel_rfl) fun Ex=>?_
 refine asg rfl rfl<|aj ?_
 apply n_d
 ·exact trivial
 refine bd (by kernel_rfl) ?_
 refine ak<|ah<|sr<|mv rfl rfl<|l_q rfl (qi rfl rfl (aU ·))<|lc ?_
 apply qf (p:=(fun k:Nat=>k < ps.length)) (EE:=(fun k=>[(0,.pointer (some ⟨pb,0,none⟩)),(1,.int .i64 i),(5,.pointer (some ⟨b5,0,none⟩)),(11,.int .i64 (k:Nat))])) (LL:=(fun _=>pt b5 (.cells #[.int .i64 o.kind,.int .i64 o.s,.int .i64 o.n,.int .i64 o.tag,.int .u64 o.u,.string o.k,.string o.e] 60 (0,0))::cf pr l ps::G::pt po (.cells #[.map (some bm)] 192 (0,0))::cy (fun k:ByteArray=>Value.string k) bm (bN os)::roH bq os::pt pb (.cells #[.pointer (some ⟨pa,0,none⟩),.pointer (some ⟨po,0,none⟩),.pointer (some ⟨pr,0,none⟩),.pointer (some ⟨bq,0,none⟩),.int .i64 l.key,.int .i64 l.elem,.int .i64 l.ka,.int .i64 l.ea,.int .i64 l.cap,.int .i64 l.eo,.int .i64 l.bo,.int .i64 l.slot,.int .i64 l.group,(.slice (some ⟨g0,0,none⟩) ps.length cap),vT] 68 (0,0))::aE 73 13 (.slice (some ⟨g0,0,none⟩) ps.length cap) ps.length (rowOf (bJ pa l) ps)::aE 40 1 vT ts.length (dv ts)::cx pr l ts::bj pr s::ae pa s::Fr))
 refine aA rfl (fun n1=>?_) fun n1=>?_
 ·refine aB<|mv rfl rfl<|mv rfl rfl<|l_q rfl (ad rfl)<|l_q rfl (qfa 13 rfl di rfl rfl lq)<|l_q rfl (qld rfl nO) ?_
  refine l_q rfl (ql rfl mV)<|l_q rfl (ba rfl rfl) ?_
  refine asg rfl rfl<|aj ?_
  apply ej ((o.s.tmod (ps.length:Int)+(ps.length:Int)).toNat)
  ·exact(by omega)
  ·exact⟨rfl,rfl,rfl,by rw[Int.toNat_of_nonneg (by omega)];rfl,trivial⟩
  exact en
 ·refine al ?_
  apply ej ((o.s.tmod (ps.length:Int)).toNat)
  ·exact(by omega)
  ·exact⟨rfl,rfl,rfl,by rw[Int.toNat_of_nonneg (by omega)];rfl,trivial⟩
  exact en
 rintro k hk;obtain⟨x,hx⟩:∃ x,ps[k]?=some x:=⟨ps[k],List.getElem?_eq_getElem hk⟩
 try dsimp only
 refine nQ ?_
 refine nz<|mv rfl rfl<|l_q rfl (ad rfl)<|l_q rfl (qfa 13 rfl di rfl rfl lq)<|l_q rfl (qld rfl nO) ?_
 refine mv rfl rfl<|l_q rfl (aT rfl rfl mV mW (by omega)) ?_
 apply l_q rfl
 ·apply eu (A:=aE 73 13 (.slice (some ⟨g0,0,none⟩) ps.length cap) ps.length (rowOf (bJ pa l) ps)) (us:=[.pointer (some ⟨pa,0,none⟩),.int .i64 l.key,.int .i64 l.elem,.int .i64 l.ka,.int .i64 l.ea,.int .i64 l.cap,.int .i64 l.eo,.int .i64 l.bo,.int .i64 l.slot,.int .i64 l.group,.int .i64 (x.off:Nat),.pointer (some ⟨x.p,0,none⟩),.bool x.over]) rfl yG mW rfl
  ·exact tk
  exact oG hx _ _ _
 refine az rfl wT fun b12=>sta rfl rfl rfl mW rfl rfl ?_
 refine lc<|ah<|sr<|l_q rfl (qfa 12 rfl c9 rfl rfl yS4)<|l_q rfl (qld rfl yA4) ?_
 refine lc<|aA rfl (fun q4=>?_) fun q4=>?_
 ·refine sr<|asg rfl rfl<|lc<|rt<|fr1 rfl ([pt po (.cells #[.map (some bm)] 192 (0,0)),cy (fun k:ByteArray=>Value.string k) bm (bN os),G,roH bq os,pt pb (.cells #[.pointer (some ⟨pa,0,none⟩),.pointer (some ⟨po,0,none⟩),.pointer (some ⟨pr,0,none⟩),.pointer (some ⟨bq,0,none⟩),.int .i64 l.key,.int .i64 l.elem,.int .i64 l.ka,.int .i64 l.ea,.int .i64 l.cap,.int .i64 l.eo,.int .i64 l.bo,.int .i64 l.slot,.int .i64 l.group,(.slice (some ⟨g0,0,none⟩) ps.length cap),vT] 68 (0,0)),aE 73 13 (.slice (some ⟨g0,0,none⟩) ps.length cap) ps.length (rowOf (bJ pa l) ps),cf pr l ps,aE 40 1 vT ts.length (dv ts),cx pr l ts,bj pr s,ae pa s]) (.tmp rfl) ?_
  exact⟨s,ps,ts,(.slice (some ⟨g0,0,none⟩) ps.length cap),vT,rfl,rfl,hA,by omega⟩
 refine fw (L':=pt b12 (.cells #[.pointer (some ⟨pa,0,none⟩),.int .i64 l.key,.int .i64 l.elem,.int .i64 l.ka,.int .i64 l.ea,.int .i64 l.cap,.int .i64 l.eo,.int .i64 l.bo,.int .i64 l.slot,.int .i64 l.group,.int .i64 (x.off:Nat),.pointer (some ⟨x.p,0,none⟩),.bool x.over] 73 (0,0))::pt b5 (.cells #[.int .i64 o.kind,.int .i64 o.s,.int .i64 o.n,.int .i64 o.tag,.int .u64 o.u,.string o.k,.string o.e] 60 (0,0))::rsH pr l x::cf pr l (ps.eraseIdx k)::G::pt po (.cells #[.map (some bm)] 192 (0,0))::cy (fun k:ByteArray=>Value.string k) bm (bN os)::roH bq os::pt pb (.cells #[.pointer (some ⟨pa,0,none⟩),.pointer (some ⟨po,0,none⟩),.pointer (some ⟨pr,0,none⟩),.pointer (some ⟨bq,0,none⟩),.int .i64 l.key,.int .i64 l.elem,.int .i64 l.ka,.int .i64 l.ea,.int .i64 l.cap,.int .i64 l.eo,.int .i64 l.bo,.int .i64 l.slot,.int .i64 l.group,(.slice (some ⟨g0,0,none⟩) ps.length cap),vT] 68 (0,0))::aE 73 13 (.slice (some ⟨g0,0,none⟩) ps.length cap) ps.length (rowOf (bJ pa l) ps)::aE 40 1 vT ts.length (dv ts)::cx pr l ts::bj pr s::ae pa s::Fr) (fun w h=>?_) ?_
 ·have h2:=(show Ent _ (cf pr l ps::pt b12 (.cells #[.pointer (some ⟨pa,0,none⟩),.int .i64 l.key,.int .i64 l.elem,.int .i64 l.ka,.int .i64 l.ea,.int .i64 l.cap,.int .i64 l.eo,.int .i64 l.bo,.int .i64 l.slot,.int .i64 l.group,.int .i64 (x.off:Nat),.pointer (some ⟨x.p,0,none⟩),.bool x.over] 73 (0,0))::pt b5 (.cells #[.int .i64 o.kind,.int .i64 o.s,.int .i64 o.n,.int .i64 o.tag,.int .u64 o.u,.string o.k,.string o.e] 60 (0,0))::G::pt po (.cells #[.map (some bm)] 192 (0,0))::cy (fun k:ByteArray=>Value.string k) bm (bN os)::roH bq os::pt pb (.cells #[.pointer (some ⟨pa,0,none⟩),.pointer (some ⟨po,0,none⟩),.pointer (some ⟨pr,0,none⟩),.pointer (some ⟨bq,0,none⟩),.int .i64 l.key,.int .i64 l.elem,.int .i64 l.ka,.int .i64 l.ea,.int .i64 l.cap,.int .i64 l.eo,.int .i64 l.bo,.int .i64 l.slot,.int .i64 l.group,(.slice (some ⟨g0,0,none⟩) ps.length cap),vT] 68 (0,0))::aE 73 13 (.slice (some ⟨g0,0,none⟩) ps.length cap) ps.length (rowOf (bJ pa l) ps)::aE 40 1 vT ts.length (dv ts)::cx pr l ts::bj pr s::ae pa s::Fr) by(exact en)) w h
  exact(show Ent (rsH pr l x::cf pr l (ps.eraseIdx k)::_) _ by(exact en)) w (mr hx w h2)
 refine dM (.there (.there .here)) fun vc=>?_
 refine al<|ak<|ah<|sr<|mv rfl rfl<|l_q rfl (iT rfl rfl) ?_
 refine l_q rfl (qi rfl rfl (aZ ·))<|lc ?_
 apply qf (p:=(fun _:Unit=>True)) (EE:=(fun _=>[(0,.pointer (some ⟨pb,0,none⟩)),(5,.pointer (some ⟨b5,0,none⟩)),(12,.pointer (some ⟨b12,0,none⟩))])) (LL:=(fun _=>pt b12 (.cells #[.pointer (some ⟨pa,0,none⟩),.int .i64 l.key,.int .i64 l.elem,.int .i64 l.ka,.int .i64 l.ea,.int .i64 l.cap,.int .i64 l.eo,.int .i64 l.bo,.int .i64 l.slot,.int .i64 l.group,.int .i64 (x.off:Nat),.pointer (some ⟨x.p,0,none⟩),.bool x.over] 73 (0,0))::pt b5 (.cells #[.int .i64 o.kind,.int .i64 o.s,.int .i64 o.n,.int .i64 o.tag,.int .u64 o.u,.string o.k,.string o.e] 60 (0,0))::pt x.p (.cells #[.pointer (some ⟨pr,0,none⟩),.int .i64 l.key,.int .i64 l.elem,.int .i64 l.ka,.int .i64 l.ea,.int .i64 l.cap,.int .i64 l.eo,.int .i64 l.bo,.int .i64 l.slot,.int .i64 l.group,.int .i64 (x.off:Nat),.int .i64 x.S.used,.int .i64 x.S.pins,.int .i64 x.S.next,.bool (decide (x.S.kind=3)),.bool x.dead,vc] 75 (0,0))::aE 142 5 vc 8 (rowOf bH (bu x.S.cells 8))::cf pr l (ps.eraseIdx k)::G::pt po (.cells #[.map (some bm)] 192 (0,0))::cy (fun k:ByteArray=>Value.string k) bm (bN os)::roH bq os::pt pb (.cells #[.pointer (some ⟨pa,0,none⟩),.pointer (some ⟨po,0,none⟩),.pointer (some ⟨pr,0,none⟩),.pointer (some ⟨bq,0,none⟩),.int .i64 l.key,.int .i64 l.elem,.int .i64 l.ka,.int .i64 l.ea,.int .i64 l.cap,.int .i64 l.eo,.int .i64 l.bo,.int .i64 l.slot,.int .i64 l.group,(.slice (some ⟨g0,0,none⟩) ps.length cap),vT] 68 (0,0))::aE 73 13 (.slice (some ⟨g0,0,none⟩) ps.length cap) ps.length (rowOf (bJ pa l) ps)::aE 40 1 vT ts.length (dv ts)::cx pr l ts::bj pr s::ae pa s::Fr))
 refine aA rfl (fun q5=>?_) fun q5=>?_
 ·refine aS mixed ?_
  apply dq 0 rfl
  ·exact yq (ai rfl)
  apply dq 1 rfl
  ·exact yq (ad rfl)
  apply dq 2 rfl
  ·exact yq (qfa 0 rfl di rfl rfl dt)
  apply dq 3 rfl
  ·exact yq (qld rfl du)
  apply dq 4 rfl
  ·exact yq (ai rfl)
  apply dq 5 rfl
  ·exact yq (ad rfl)
  apply dq 6 rfl
  ·exact yq (qfa 4 rfl di rfl rfl aX)
  apply dq 7 rfl
  ·exact yq (aK rfl cu aX)
  apply dq 8 rfl
  ·exact yq (qfa 11 rfl c9 rfl rfl eZ)
  apply dq 9 rfl
  ·exact yq (qld rfl ee)
  apply dq 10 rfl
  ·exact yq (ad rfl)
  apply dq 11 rfl
  ·exact yq (qfa 10 rfl cL rfl rfl yS3)
  apply dq 12 rfl
  ·exact yq (qld rfl yA3)
  refine an [3,7,12,2,6,11,1,5,10,0,4,9,8] [] 13 [(105,_),(109,_),(114,_)] gO ⟨rfl,rfl,rfl,trivial⟩ (by kernel_rfl) (by kernel_rfl) fun Ex=>?_
  refine lc1 rfl rfl rfl (CH pa l ((x.off:Nat):Int)) ?_
  refine aj ?_
  apply n_d
  ·exact trivial
  apply dq 14 rfl
  ·exact yq (qfa 0 rfl c9 rfl rfl bM)
  refine an [14] [] 15 [(116,_),(115,_)] gO ⟨rfl,rfl,trivial⟩ (by kernel_rfl) (by kernel_rfl) fun Ex=>?_
  refine sta rfl rfl rfl bM rfl rfl ?_
  refine aj ?_
  apply n_d
  ·exact trivial
  refine bd (by kernel_rfl) ?_
  apply ej (())
  ·exact trivial
  ·exact⟨rfl,rfl,rfl,trivial⟩
  exact en
 ·refine al ?_
  apply ej (())
  ·exact trivial
  ·exact⟨rfl,rfl,rfl,trivial⟩
  exact en
 rintro _ -
 try dsimp only
 refine nQ ?_
 refine ak<|ah<|sr<|l_q rfl (qfa 0 rfl dD rfl rfl yS3)<|l_q rfl (qld rfl yA3) ?_
 refine lc<|ax<|sr<|l_q rfl (qi rfl rfl (aZ ·))<|asg rfl rfl<|lc ?_
 refine fw (L':=pt b12 (.cells #[.pointer (some ⟨pa,0,none⟩),.int .i64 l.key,.int .i64 l.elem,.int .i64 l.ka,.int .i64 l.ea,.int .i64 l.cap,.int .i64 l.eo,.int .i64 l.bo,.int .i64 l.slot,.int .i64 l.group,.int .i64 (x.off:Nat),.pointer (some ⟨x.p,0,none⟩),.bool x.over] 73 (0,0))::pt b5 (.cells #[.int .i64 o.kind,.int .i64 o.s,.int .i64 o.n,.int .i64 o.tag,.int .u64 o.u,.string o.k,.string o.e] 60 (0,0))::rsH pr l x::cf pr l (ps.eraseIdx k)::G::pt po (.cells #[.map (some bm)] 192 (0,0))::cy (fun k:ByteArray=>Value.string k) bm (bN os)::roH bq os::pt pb (.cells #[.pointer (some ⟨pa,0,none⟩),.pointer (some ⟨po,0,none⟩),.pointer (some ⟨pr,0,none⟩),.pointer (some ⟨bq,0,none⟩),.int .i64 l.key,.int .i64 l.elem,.int .i64 l.ka,.int .i64 l.ea,.int .i64 l.cap,.int .i64 l.eo,.int .i64 l.bo,.int .i64 l.slot,.int .i64 l.group,(.slice (some ⟨g0,0,none⟩) ps.length cap),vT] 68 (0,0))::aE 73 13 (.slice (some ⟨g0,0,none⟩) ps.length cap) ps.length (rowOf (bJ pa l) ps)::aE 40 1 vT ts.length (dv ts)::cx pr l ts::bj pr s::ae pa s::Fr) (fun w h=>(show Ent (rsH pr l x::_) _ by(exact en)) w (bB vc (show Ent _ (pt x.p (.cells #[.pointer (some ⟨pr,0,none⟩),.int .i64 l.key,.int .i64 l.elem,.int .i64 l.ka,.int .i64 l.ea,.int .i64 l.cap,.int .i64 l.eo,.int .i64 l.bo,.int .i64 l.slot,.int .i64 l.group,.int .i64 (x.off:Nat),.int .i64 x.S.used,.int .i64 x.S.pins,.int .i64 x.S.next,.bool (decide (x.S.kind=3)),.bool x.dead,vc] 75 (0,0))::aE 142 5 vc 8 (rowOf bH (bu x.S.cells 8))::pt b12 (.cells #[.pointer (some ⟨pa,0,none⟩),.int .i64 l.key,.int .i64 l.elem,.int .i64 l.ka,.int .i64 l.ea,.int .i64 l.cap,.int .i64 l.eo,.int .i64 l.bo,.int .i64 l.slot,.int .i64 l.group,.int .i64 (x.off:Nat),.pointer (some ⟨x.p,0,none⟩),.bool x.over] 73 (0,0))::pt b5 (.cells #[.int .i64 o.kind,.int .i64 o.s,.int .i64 o.n,.int .i64 o.tag,.int .u64 o.u,.string o.k,.string o.e] 60 (0,0))::cf pr l (ps.eraseIdx k)::G::pt po (.cells #[.map (some bm)] 192 (0,0))::cy (fun k:ByteArray=>Value.string k) bm (bN os)::roH bq os::pt pb (.cells #[.pointer (some ⟨pa,0,none⟩),.pointer (some ⟨po,0,none⟩),.pointer (some ⟨pr,0,none⟩),.pointer (some ⟨bq,0,none⟩),.int .i64 l.key,.int .i64 l.elem,.int .i64 l.ka,.int .i64 l.ea,.int .i64 l.cap,.int .i64 l.eo,.int .i64 l.bo,.int .i64 l.slot,.int .i64 l.group,(.slice (some ⟨g0,0,none⟩) ps.length cap),vT] 68 (0,0))::aE 73 13 (.slice (some ⟨g0,0,none⟩) ps.length cap) ps.length (rowOf (bJ pa l) ps)::aE 40 1 vT ts.length (dv ts)::cx pr l ts::bj pr s::ae pa s::Fr) by(exact en)) w h)) ?_
 refine aA rfl (fun w0=>?_) fun w0=>?_
 ·skip
  refine rp hx tk tk ?_
  refine sr<|mv rfl rfl<|l_q rfl (aK rfl yG mW) ?_
  refine l_q rfl (qfa 4 rfl dD rfl rfl oc)<|l_q rfl (qld rfl j4) ?_
  refine lcf rfl rfl rfl (rr G hGT hGO pb pa po pr bq bm os hg hw l hl s hs ps ts (.slice (some ⟨g0,0,none⟩) ps.length cap) vT hlen hlt hA k x hx (by simpa using q4) o.u how.u) ?_
  rintro v L' ⟨s',ps',ts',vP',vT',rfl,rfl,hA',hd'⟩
  refine bF ?_
  exact asg rfl rfl<|lc<|rt<|fr1 rfl ([pt po (.cells #[.map (some bm)] 192 (0,0)),cy (fun k:ByteArray=>Value.string k) bm (bN os),G,roH bq os,pt pb (.cells #[.pointer (some ⟨pa,0,none⟩),.pointer (some ⟨po,0,none⟩),.pointer (some ⟨pr,0,none⟩),.pointer (some ⟨bq,0,none⟩),.int .i64 l.key,.int .i64 l.elem,.int .i64 l.ka,.int .i64 l.ea,.int .i64 l.cap,.int .i64 l.eo,.int .i64 l.bo,.int .i64 l.slot,.int .i64 l.group,vP',vT'] 68 (0,0)),aE 73 13 vP' ps'.length (rowOf (bJ pa l) ps'),cf pr l ps',aE 40 1 vT' ts'.length (dv ts'),cx pr l ts',bj pr s',ae pa s']) (.tmp rfl) ⟨s',ps',ts',vP',vT',rfl,rfl,hA',hd'⟩
 refine ah<|sr<|l_q rfl (qi rfl rfl (aZ ·))<|asg rfl rfl<|lc ?_
 apply qf (p:=(fun _:Bool=>True)) (EE:=(fun b=>[(0,.pointer (some ⟨pb,0,none⟩)),(5,.pointer (some ⟨b5,0,none⟩)),(12,.pointer (some ⟨b12,0,none⟩)),(118,.int .i64 o.kind),(126,.bool b)])) (LL:=(fun _=>pt b12 (.cells #[.pointer (some ⟨pa,0,none⟩),.int .i64 l.key,.int .i64 l.elem,.int .i64 l.ka,.int .i64 l.ea,.int .i64 l.cap,.int .i64 l.eo,.int .i64 l.bo,.int .i64 l.slot,.int .i64 l.group,.int .i64 (x.off:Nat),.pointer (some ⟨x.p,0,none⟩),.bool x.over] 73 (0,0))::pt b5 (.cells #[.int .i64 o.kind,.int .i64 o.s,.int .i64 o.n,.int .i64 o.tag,.int .u64 o.u,.string o.k,.string o.e] 60 (0,0))::rsH pr l x::cf pr l (ps.eraseIdx k)::G::pt po (.cells #[.map (some bm)] 192 (0,0))::cy (fun k:ByteArray=>Value.string k) bm (bN os)::roH bq os::pt pb (.cells #[.pointer (some ⟨pa,0,none⟩),.pointer (some ⟨po,0,none⟩),.pointer (some ⟨pr,0,none⟩),.pointer (some ⟨bq,0,none⟩),.int .i64 l.key,.int .i64 l.elem,.int .i64 l.ka,.int .i64 l.ea,.int .i64 l.cap,.int .i64 l.eo,.int .i64 l.bo,.int .i64 l.slot,.int .i64 l.group,(.slice (some ⟨g0,0,none⟩) ps.length cap),vT] 68 (0,0))::aE 73 13 (.slice (some ⟨g0,0,none⟩) ps.length cap) ps.length (rowOf (bJ pa l) ps)::aE 40 1 vT ts.length (dv ts)::cx pr l ts::bj pr s::ae pa s::Fr))
 refine aA rfl (fun c0=>?_) fun c0=>?_
 ·refine al ?_
  apply ej ((decide (o.kind=4)))
  ·exact trivial
  ·exact⟨rfl,rfl,rfl,rfl,rfl,trivial⟩
  exact en
 ·refine sr<|l_q rfl (qi rfl rfl (aZ ·))<|asg rfl rfl<|lc<|aA rfl (fun c1=>?_) fun c1=>?_
  ·refine al ?_
   apply ej ((decide (o.kind=5)))
   ·exact trivial
   ·exact⟨rfl,rfl,rfl,rfl,rfl,trivial⟩
   exact en
  refine sr<|l_q rfl (qi rfl rfl (aZ ·))<|asg rfl rfl<|lc<|aA rfl (fun c2=>?_) fun c2=>?_
  ·refine al ?_
   apply ej ((decide (o.kind=10)))
   ·exact trivial
   ·exact⟨rfl,rfl,rfl,rfl,rfl,trivial⟩
   exact en
  refine sr<|l_q rfl (qi rfl rfl (aZ ·))<|asg rfl rfl<|lc<|aA rfl (fun c3=>?_) fun c3=>?_
  ·refine al ?_
   apply ej ((decide (o.kind=11)))
   ·exact trivial
   ·exact⟨rfl,rfl,rfl,rfl,rfl,trivial⟩
   exact en
  refine sr<|l_q rfl (qi rfl rfl (aZ ·))<|asg rfl rfl<|lc<|aA rfl (fun c4=>?_) fun c4=>?_
  ·refine al ?_
   apply ej ((decide (o.kind=12)))
   ·exact trivial
   ·exact⟨rfl,rfl,rfl,rfl,rfl,trivial⟩
   exact en
  refine aB<|l_q rfl (qi rfl rfl (aZ ·))<|asg rfl rfl<|aj ?_
  apply ej ((decide (o.kind=13)))
  ·exact trivial
  ·exact⟨rfl,rfl,rfl,rfl,rfl,trivial⟩
  exact en
 rintro bC -
 try dsimp only
 refine nQ ?_
 refine ak<|aA rfl (fun w2=>?_) fun w2=>?_
 ·refine sr<|l_q rfl (aK rfl yG mW) ?_
  refine l_q rfl (aK rfl Br wU) ?_
  refine lcf rfl rfl rfl (sU G hGT pa pr s hs l hl x (hA.at hx) (by simpa using q4) o how) ?_
  rintro v L' ⟨s',x',rfl,rfl,hch⟩
  refine bF ?_
  refine asg rfl rfl<|lc<|rt ?_
  obtain⟨hA2,he2,hd2⟩:=Av pa hs hA hx hch
  apply aJ (.inl rfl) ([pt po (.cells #[.map (some bm)] 192 (0,0)),cy (fun k:ByteArray=>Value.string k) bm (bN os),G,roH bq os,pt pb (.cells #[.pointer (some ⟨pa,0,none⟩),.pointer (some ⟨po,0,none⟩),.pointer (some ⟨pr,0,none⟩),.pointer (some ⟨bq,0,none⟩),.int .i64 l.key,.int .i64 l.elem,.int .i64 l.ka,.int .i64 l.ea,.int .i64 l.cap,.int .i64 l.eo,.int .i64 l.bo,.int .i64 l.slot,.int .i64 l.group,(.slice (some ⟨g0,0,none⟩) ps.length cap),vT] 68 (0,0)),aE 73 13 (.slice (some ⟨g0,0,none⟩) ps.length cap) ps.length (rowOf (bJ pa l) ps),cf pr l (ps.set k x'),aE 40 1 vT ts.length (dv ts),cx pr l ts,bj pr s',ae pa s'])
  ·apply cO rfl
   exact .tmp rfl
  ·exact⟨s',ps.set k x',ts,(.slice (some ⟨g0,0,none⟩) ps.length cap),vT,rfl,by rw[List.length_set,xm hx he2],hA2,hd2⟩
  intro w h;have h2:=kW hk w ((show Ent _ (rsH pr l x'::cf pr l (ps.eraseIdx k)::pt po (.cells #[.map (some bm)] 192 (0,0))::cy (fun k:ByteArray=>Value.string k) bm (bN os)::G::roH bq os::pt pb (.cells #[.pointer (some ⟨pa,0,none⟩),.pointer (some ⟨po,0,none⟩),.pointer (some ⟨pr,0,none⟩),.pointer (some ⟨bq,0,none⟩),.int .i64 l.key,.int .i64 l.elem,.int .i64 l.ka,.int .i64 l.ea,.int .i64 l.cap,.int .i64 l.eo,.int .i64 l.bo,.int .i64 l.slot,.int .i64 l.group,(.slice (some ⟨g0,0,none⟩) ps.length cap),vT] 68 (0,0))::aE 73 13 (.slice (some ⟨g0,0,none⟩) ps.length cap) ps.length (rowOf (bJ pa l) ps)::aE 40 1 vT ts.length (dv ts)::cx pr l ts::bj pr s'::ae pa s'::Fr) by(exact en)) w h);exact(show Ent (cf pr l (ps.set k x')::pt po (.cells #[.map (some bm)] 192 (0,0))::cy (fun k:ByteArray=>Value.string k) bm (bN os)::G::roH bq os::pt pb (.cells #[.pointer (some ⟨pa,0,none⟩),.pointer (some ⟨po,0,none⟩),.pointer (some ⟨pr,0,none⟩),.pointer (some ⟨bq,0,none⟩),.int .i64 l.key,.int .i64 l.elem,.int .i64 l.ka,.int .i64 l.ea,.int .i64 l.cap,.int .i64 l.eo,.int .i64 l.bo,.int .i64 l.slot,.int .i64 l.group,(.slice (some ⟨g0,0,none⟩) ps.length cap),vT] 68 (0,0))::aE 73 13 (.slice (some ⟨g0,0,none⟩) ps.length cap) ps.length (rowOf (bJ pa l) ps)::aE 40 1 vT ts.length (dv ts)::cx pr l ts::bj pr s'::ae pa s'::Fr) _ by(exact en)) w h2
 refine al<|aV<|nz<|l_q rfl (aK rfl yG mW) ?_
 refine l_q rfl (aK rfl Br wU) ?_
 refine lc1 rfl rfl rfl (wZ G hGT pa pr s hs l hl x (hA.at hx) (by simpa using q4) o how) ?_
 refine asg rfl rfl<|lc<|rt ?_
 refine mB hx tk tk ?_
 refine fr1 rfl ([pt po (.cells #[.map (some bm)] 192 (0,0)),cy (fun k:ByteArray=>Value.string k) bm (bN os),G,roH bq os,pt pb (.cells #[.pointer (some ⟨pa,0,none⟩),.pointer (some ⟨po,0,none⟩),.pointer (some ⟨pr,0,none⟩),.pointer (some ⟨bq,0,none⟩),.int .i64 l.key,.int .i64 l.elem,.int .i64 l.ka,.int .i64 l.ea,.int .i64 l.cap,.int .i64 l.eo,.int .i64 l.bo,.int .i64 l.slot,.int .i64 l.group,(.slice (some ⟨g0,0,none⟩) ps.length cap),vT] 68 (0,0)),aE 73 13 (.slice (some ⟨g0,0,none⟩) ps.length cap) ps.length (rowOf (bJ pa l) ps),cf pr l ps,aE 40 1 vT ts.length (dv ts),cx pr l ts,bj pr s,ae pa s]) (.tmp rfl) ?_
 exact⟨s,ps,ts,(.slice (some ⟨g0,0,none⟩) ps.length cap),vT,rfl,rfl,hA,by omega⟩
end
end Exact11
end Go.Proofs.YthkajgkagnenbaaGreatDoor
