/- The laws of larderlaw11 over scripts: a step. -/
import Derived.Test.YthkajgkagnenbaaGreatDoorExact11I
set_option linter.unusedVariables false
set_option linter.unusedSimpArgs false
set_option linter.unusedSectionVars false
set_option maxRecDepth 100000
namespace Go.Proofs.YthkajgkagnenbaaGreatDoor
namespace Exact11
open Go.RowKit Go.Proofs Eng Ty Bits Mem Search Arena CtrlB Ctrl Layout GroupB Group TableB TableI Table Cells Refill Small RefA RefT
open BytesP Oracle Ref04 Ref03
open Exact (PR cA nB)
theorem Cy (pa:Nat) (l:Lay) (off:Int):aG Tryz.prog 43 #[.pointer (some ⟨pa,0,none⟩),.agg #[.int .i64 l.key,.int .i64 l.elem,.int .i64 l.ka,.int .i64 l.ea,.int .i64 l.cap,.int .i64 l.eo,.int .i64 l.bo,.int .i64 l.slot,.int .i64 l.group],.int .i64 off] [] (fun v L=>v=.agg #[.pointer (some ⟨pa,0,none⟩),.int .i64 l.key,.int .i64 l.elem,.int .i64 l.ka,.int .i64 l.ea,.int .i64 l.cap,.int .i64 l.eo,.int .i64 l.bo,.int .i64 l.slot,.int .i64 l.group,.int .i64 off]∧L= []):=by
 refine aq EU Tryz.func43 rfl rfl rfl fun Fr w0=>aR ?_
 refine sr<|aP rfl rfl fun b4=>az rfl nX fun b6=>lz<|mv rfl rfl<|l_q rfl (aK rfl cu aZ) ?_
 refine mv rfl rfl ?_
 apply l_q rfl
 ·apply aQ rfl Da nX
  apply aF.one
  ·repeat (first | exact aH.here | apply aH.there)
  ·rfl
  ·exact sa
  apply aF.all
  ·repeat (first | exact aH.here | apply aH.there)
  ·rfl
  ·simp
  ·exact sal
  apply aF.one
  ·repeat (first | exact aH.here | apply aH.there)
  ·rfl
  ·exact sa
  exact aF.nil
 refine sta rfl rfl rfl bM rfl rfl ?_
 refine lc<|rt ?_
 apply aJ (.inl rfl) ([])
 ·apply cM rfl
  apply Rv.agg rfl
  ·exact tk
  exact aD cd bM rfl
 ·exact⟨rfl,rfl⟩
 exact en
theorem uL {pa:Nat} {l:Lay} {ps:List SR} {k:Nat} {x:SR} (hx:ps[k]?=some x) (g n cap:Nat):∀ j u,(bK pa l x)[j]?=some u→cr (aE 73 13 (.slice (some ⟨g,0,none⟩) n cap) n (rowOf (bK pa l) ps)) ((⟨g,0+((k:Nat):Int).toNat*13,none⟩:Addr).add j) u:=fun j u hu=>by
 have hj:j < 13:=by rcases Nat.lt_or_ge j 13 with q | q;exact q;rw[List.getElem?_eq_none (by rw[nR];exact q)] at hu;cases hu
 rw[cD,Nat.zero_add,Int.toNat_natCast]
 exact ko (by rw[dy (nR pa l) ps k j x hx hj];exact hu)
theorem An {s s':ArS} {l:Lay} {x x':SR} {ps:List SR} {ts:List PR} {k:Nat} (pa:Nat) (hs:s.ok) (hA:eX s l ps ts) (hx:ps[k]?=some x) (h:Cw s l x s' x'):eX s' l (ps.set k x') ts∧bK pa l x'=bK pa l x∧jg (ps.set k x') ts≤jg ps ts+1:=by
 unfold jg
 cases h with
 | step s' T' h=>exact⟨h.all hs hA hx,rfl,by rw[List.length_set,u5 (x':={x with S:=T'}) hx rfl];omega⟩
 | free hd=>exact⟨hA.free hs hx hd,rfl,by rw[List.length_set];have:=xR ps k {x with dead:=true};omega⟩
section
variable (G:HP) (hGT:dx G) (hGO:lC G) (pb pa po pr bq bm:Nat) (os:List (ByteArray×Int)) (hg:kB os) (hw:∀ o∈os,0≤o.2∧o.2 < 18446744073709551616) (l:Lay) (hl:l.err=0)
include hGT hGO hg hw hl
theorem wT (s:ArS) (hs:s.ok) (ps:List SR) (ts:List PR) (vP vT:Value) (hlen:ps.length≤980000000000) (hlt:ts.length≤8000000000000) (hA:eX s l ps ts) (i:Int) (o:pz) (how:o.wf):aG Tryz.prog 15 #[.pointer (some ⟨pb,0,none⟩),.int .i64 i,.agg #[.int .i64 o.kind,.int .i64 o.s,.int .i64 o.n,.int .i64 o.tag,.int .u64 o.u,.string o.k,.string o.e]] [pt po (.cells #[.map (some bm)] 192 (0,0)),cB (fun k:ByteArray=>Value.string k) bm (bO os),G,roH bq os,pt pb (.cells #[.pointer (some ⟨pa,0,none⟩),.pointer (some ⟨po,0,none⟩),.pointer (some ⟨pr,0,none⟩),.pointer (some ⟨bq,0,none⟩),.int .i64 l.key,.int .i64 l.elem,.int .i64 l.ka,.int .i64 l.ea,.int .i64 l.cap,.int .i64 l.eo,.int .i64 l.bo,.int .i64 l.slot,.int .i64 l.group,vP,vT] 68 (0,0)),aE 73 13 vP ps.length (rowOf (bK pa l) ps),ck pr l ps,aE 40 1 vT ts.length (dA ts),cA pr l ts,bd pr s,ae pa s] (fun v L=>∃ s' ps' ts' vP' vT',v=.bool true∧L= [pt po (.cells #[.map (some bm)] 192 (0,0)),cB (fun k:ByteArray=>Value.string k) bm (bO os),G,roH bq os,pt pb (.cells #[.pointer (some ⟨pa,0,none⟩),.pointer (some ⟨po,0,none⟩),.pointer (some ⟨pr,0,none⟩),.pointer (some ⟨bq,0,none⟩),.int .i64 l.key,.int .i64 l.elem,.int .i64 l.ka,.int .i64 l.ea,.int .i64 l.cap,.int .i64 l.eo,.int .i64 l.bo,.int .i64 l.slot,.int .i64 l.group,vP',vT'] 68 (0,0)),aE 73 13 vP' ps'.length (rowOf (bK pa l) ps'),ck pr l ps',aE 40 1 vT' ts'.length (dA ts'),cA pr l ts',bd pr s',ae pa s']∧eX s' l ps' ts'∧jg ps' ts'≤jg ps ts+1):=by
 refine aq HQ Tryz.func15 rfl rfl rfl fun Fr w0=>aR ?_
 refine cF (.there (.there (.there (.there (.there .here))))) fun _ hvp=>?_
 obtain⟨a0,cap,rfl,ha,_,_⟩:=hvp
 refine sr<|aP rfl rfl fun b5=>asg rfl rfl<|lc<|ah<|ay<|sr<|l_q rfl (qfa 0 rfl dC rfl rfl yS3)<|l_q rfl (qld rfl yA3) ?_
 refine l_q rfl (qi rfl rfl (aW ·))<|asg rfl rfl<|lc<|aA rfl (fun k1=>?_) fun k1=>?_
 ·refine sr<|mv rfl rfl<|lcf rfl rfl rfl (wU pb pa po pr bq l hl s hs ps ts (.slice a0 ps.length cap) vT hlen hA) ?_
  rintro v L' ⟨s',ps',vP',rfl,rfl,hA',hd'⟩
  refine bF ?_
  refine asg rfl rfl<|lc<|rt<|fr1 rfl ([pt po (.cells #[.map (some bm)] 192 (0,0)),cB (fun k:ByteArray=>Value.string k) bm (bO os),G,roH bq os,pt pb (.cells #[.pointer (some ⟨pa,0,none⟩),.pointer (some ⟨po,0,none⟩),.pointer (some ⟨pr,0,none⟩),.pointer (some ⟨bq,0,none⟩),.int .i64 l.key,.int .i64 l.elem,.int .i64 l.ka,.int .i64 l.ea,.int .i64 l.cap,.int .i64 l.eo,.int .i64 l.bo,.int .i64 l.slot,.int .i64 l.group,vP',vT] 68 (0,0)),aE 73 13 vP' ps'.length (rowOf (bK pa l) ps'),ck pr l ps',aE 40 1 vT ts.length (dA ts),cA pr l ts,bd pr s',ae pa s']) (.tmp rfl) ?_
  exact⟨s',ps',ts,vP',vT,rfl,rfl,hA',by unfold jg;omega⟩
 refine sr<|l_q rfl (qfa 0 rfl dC rfl rfl yS3)<|l_q rfl (qld rfl yA3) ?_
 refine l_q rfl (qi rfl rfl (aW ·))<|asg rfl rfl<|lc<|aA rfl (fun k2=>?_) fun k2=>?_
 ·skip
  rcases nB pa pr s hs o.n with⟨c,hc,hp,hr⟩ | ⟨h1,h2,h3,hp,hr⟩
  ·skip
   refine ah<|aT mixed ?_
   apply dq 0 rfl
   ·exact yq (ai rfl)
   apply dq 1 rfl
   ·exact yq (ad rfl)
   apply dq 2 rfl
   ·exact yq (qfa 0 rfl cZ rfl rfl dk)
   apply dq 3 rfl
   ·exact yq (qld rfl dm)
   apply dq 4 rfl
   ·exact yq (qfa 2 rfl dC rfl rfl yS3)
   apply dq 5 rfl
   ·exact yq (qld rfl yA3)
   refine an [3,5,2,4,1,0] [] 6 [(27,_),(29,_)] gO ⟨rfl,rfl,trivial⟩ (by kernel_rfl) (by kernel_rfl) fun Ex=>?_
   refine lc1 rfl rfl rfl (hp) ?_
   refine aj ?_
   apply n_d
   ·exact trivial
   apply dq 7 rfl
   ·exact yq (ai rfl)
   apply dq 8 rfl
   ·exact yq (aa rfl ga)
   apply dq 9 rfl
   ·exact yq (aa rfl ga)
   refine an [8,7] [9] 10 [(31,_)] gO ⟨rfl,trivial⟩ (by kernel_rfl) (by kernel_rfl) fun Ex=>?_
   refine asg rfl rfl<|aj ?_
   apply n_d
   ·refine⟨?_,trivial⟩
    apply ya rfl rfl;exact yq (aa rfl ga)
   refine an [9] [] 11 [(32,_)] gO ⟨rfl,trivial⟩ (by kernel_rfl) (by kernel_rfl) fun Ex=>?_
   refine asg rfl rfl<|aj ?_
   apply n_d
   ·exact trivial
   refine bj (by kernel_rfl) ?_
   refine ak<|ah<|aT mixed ?_
   apply dq 0 rfl
   ·exact yq (ai rfl)
   apply dq 1 rfl
   ·exact yq (ad rfl)
   apply dq 2 rfl
   ·exact yq (qfa 2 rfl cZ rfl rfl mP)
   apply dq 3 rfl
   ·exact yq (qld rfl mQ)
   apply dq 4 rfl
   ·exact yq (qfa 2 rfl dC rfl rfl yS3)
   apply dq 5 rfl
   ·exact yq (qld rfl yA3)
   refine an [3,5,2,4,1,0] [] 6 [(37,_),(39,_)] gO ⟨rfl,rfl,trivial⟩ (by kernel_rfl) (by kernel_rfl) fun Ex=>?_
   refine lc1 rfl rfl rfl (hr) ?_
   refine aj ?_
   apply n_d
   ·exact trivial
   apply dq 7 rfl
   ·exact yq (ai rfl)
   apply dq 8 rfl
   ·exact yq (aa rfl ga)
   apply dq 9 rfl
   ·exact yq (aa rfl ga)
   refine an [8,7] [9] 10 [(41,_)] gO ⟨rfl,trivial⟩ (by kernel_rfl) (by kernel_rfl) fun Ex=>?_
   refine asg rfl rfl<|aj ?_
   apply n_d
   ·refine⟨?_,trivial⟩
    apply ya rfl rfl;exact yq (aa rfl ga)
   refine an [9] [] 11 [(42,_)] gO ⟨rfl,trivial⟩ (by kernel_rfl) (by kernel_rfl) fun Ex=>?_
   refine asg rfl rfl<|aj ?_
   apply n_d
   ·exact trivial
   refine bj (by kernel_rfl) ?_
   refine ak<|ah<|sr<|mv rfl rfl<|l_q rfl (qi rfl rfl (aW ·))<|lc<|aA rfl (fun z=>?_) fun z=>?_
   ·exact absurd z hc
   refine al<|nz<|mv rfl rfl<|mv rfl rfl<|l_q rfl (qi rfl rfl (aW ·))<|mv rfl rfl<|bE (t:=50) rfl (fun z1=>?_) fun z1=>?_
   ·refine au rfl rfl<|mv rfl rfl<|au rfl rfl<|lc1 rfl rfl rfl (bZ _) ?_
    refine au rfl rfl<|mv rfl rfl<|au rfl rfl<|l_q rfl (qi rfl rfl (aW ·))<|l_q rfl (aL rfl rfl)<|asg rfl rfl<|lc<|rt<|fr1 rfl ([pt po (.cells #[.map (some bm)] 192 (0,0)),cB (fun k:ByteArray=>Value.string k) bm (bO os),G,roH bq os,pt pb (.cells #[.pointer (some ⟨pa,0,none⟩),.pointer (some ⟨po,0,none⟩),.pointer (some ⟨pr,0,none⟩),.pointer (some ⟨bq,0,none⟩),.int .i64 l.key,.int .i64 l.elem,.int .i64 l.ka,.int .i64 l.ea,.int .i64 l.cap,.int .i64 l.eo,.int .i64 l.bo,.int .i64 l.slot,.int .i64 l.group,(.slice a0 ps.length cap),vT] 68 (0,0)),aE 73 13 (.slice a0 ps.length cap) ps.length (rowOf (bK pa l) ps),ck pr l ps,aE 40 1 vT ts.length (dA ts),cA pr l ts,bd pr s,ae pa s]) (.tmp rfl) ?_
    exact⟨s,ps,ts,(.slice a0 ps.length cap),vT,by rw[jo rfl],rfl,hA,by omega⟩
   exact absurd rfl z1
  have hA2:eX (s.take (aC o.n)) l (ps.map cg) ts:=hA.over (fun p hp=>(ec hs).2 (.inl hp)) (fun p hp a ha hb=>iZ hs (by have:=cC h1;omega) hp ha hb)
  refine ah<|aT mixed ?_
  apply dq 0 rfl
  ·exact yq (ai rfl)
  apply dq 1 rfl
  ·exact yq (ad rfl)
  apply dq 2 rfl
  ·exact yq (qfa 0 rfl cZ rfl rfl dk)
  apply dq 3 rfl
  ·exact yq (qld rfl dm)
  apply dq 4 rfl
  ·exact yq (qfa 2 rfl dC rfl rfl yS3)
  apply dq 5 rfl
  ·exact yq (qld rfl yA3)
  refine an [3,5,2,4,1,0] [] 6 [(27,_),(29,_)] gO ⟨rfl,rfl,trivial⟩ (by kernel_rfl) (by kernel_rfl) fun Ex=>?_
  refine lc1 rfl rfl rfl (hp) ?_
  refine aj ?_
  apply n_d
  ·exact trivial
  apply dq 7 rfl
  ·exact yq (ai rfl)
  apply dq 8 rfl
  ·exact yq (aa rfl ga)
  apply dq 9 rfl
  ·exact yq (aa rfl ga)
  refine an [8,7] [9] 10 [(31,_)] gO ⟨rfl,trivial⟩ (by kernel_rfl) (by kernel_rfl) fun Ex=>?_
  refine asg rfl rfl<|aj ?_
  apply n_d
  ·refine⟨?_,trivial⟩
   apply ya rfl rfl;exact yq (aa rfl ga)
  refine an [9] [] 11 [(32,_)] gO ⟨rfl,trivial⟩ (by kernel_rfl) (by kernel_rfl) fun Ex=>?_
  refine asg rfl rfl<|aj ?_
  apply n_d
  ·exact trivial
  refine bj (by kernel_rfl) ?_
  refine ak<|ah<|aT mixed ?_
  apply dq 0 rfl
  ·exact yq (ai rfl)
  apply dq 1 rfl
  ·exact yq (ad rfl)
  apply dq 2 rfl
  ·exact yq (qfa 2 rfl cZ rfl rfl mP)
  apply dq 3 rfl
  ·exact yq (qld rfl mQ)
  apply dq 4 rfl
  ·exact yq (qfa 2 rfl dC rfl rfl yS3)
  apply dq 5 rfl
  ·exact yq (qld rfl yA3)
  refine an [3,5,2,4,1,0] [] 6 [(37,_),(39,_)] gO ⟨rfl,rfl,trivial⟩ (by kernel_rfl) (by kernel_rfl) fun Ex=>?_
  refine lc1 rfl rfl rfl (hr) ?_
  refine aj ?_
  apply n_d
  ·exact trivial
  apply dq 7 rfl
  ·exact yq (ai rfl)
  apply dq 8 rfl
  ·exact yq (aa rfl ga)
  apply dq 9 rfl
  ·exact yq (aa rfl ga)
  refine an [8,7] [9] 10 [(41,_)] gO ⟨rfl,trivial⟩ (by kernel_rfl) (by kernel_rfl) fun Ex=>?_
  refine asg rfl rfl<|aj ?_
  apply n_d
  ·refine⟨?_,trivial⟩
   apply ya rfl rfl;exact yq (aa rfl ga)
  refine an [9] [] 11 [(42,_)] gO ⟨rfl,trivial⟩ (by kernel_rfl) (by kernel_rfl) fun Ex=>?_
  refine asg rfl rfl<|aj ?_
  apply n_d
  ·exact trivial
  refine bj (by kernel_rfl) ?_
  refine ak<|ah<|sr<|mv rfl rfl<|l_q rfl (qi rfl rfl (aW ·))<|lc<|aA rfl (fun z=>?_) fun z=>?_
  ·refine aB<|mv rfl rfl<|lcf rfl rfl rfl (j4 pb pa po pr bq l ps (.slice a0 ps.length cap) vT (by omega)) ?_
   rintro v L' rfl
   refine bF ?_
   refine lz<|mv rfl rfl<|mv rfl rfl<|l_q rfl (qi rfl rfl (aW ·))<|mv rfl rfl<|bE (t:=50) rfl (fun z1=>?_) fun z1=>?_
   ·refine au rfl rfl<|mv rfl rfl<|au rfl rfl<|lc1 rfl rfl rfl (bZ _) ?_
    refine au rfl rfl<|mv rfl rfl<|au rfl rfl<|l_q rfl (qi rfl rfl (aW ·))<|l_q rfl (aL rfl rfl)<|asg rfl rfl<|lc<|rt ?_
    rw[← kh pr l ps]
    refine fr1 rfl ([pt po (.cells #[.map (some bm)] 192 (0,0)),cB (fun k:ByteArray=>Value.string k) bm (bO os),G,roH bq os,pt pb (.cells #[.pointer (some ⟨pa,0,none⟩),.pointer (some ⟨po,0,none⟩),.pointer (some ⟨pr,0,none⟩),.pointer (some ⟨bq,0,none⟩),.int .i64 l.key,.int .i64 l.elem,.int .i64 l.ka,.int .i64 l.ea,.int .i64 l.cap,.int .i64 l.eo,.int .i64 l.bo,.int .i64 l.slot,.int .i64 l.group,(.slice a0 ps.length cap),vT] 68 (0,0)),aE 73 13 (.slice a0 ps.length cap) ps.length (rowOf (bK pa l) (ps.map cg)),ck pr l (ps.map cg),aE 40 1 vT ts.length (dA ts),cA pr l ts,bd pr (s.take (aC o.n)),ae pa (s.take (aC o.n))]) (.tmp rfl) ?_
    exact⟨s.take (aC o.n),ps.map cg,ts,(.slice a0 ps.length cap),vT,by rw[jo rfl],by rw[List.length_map],hA2,by unfold jg;rw[List.length_map,iu];omega⟩
   exact absurd rfl z1
  exact absurd rfl z
 refine sr<|l_q rfl (qfa 0 rfl dC rfl rfl yS3)<|l_q rfl (qld rfl yA3) ?_
 refine l_q rfl (qi rfl rfl (aS ·))<|mv rfl rfl<|bE (t:=60) rfl (fun q1=>?_) fun q1=>?_
 ·refine ar rfl rfl rfl rfl<|ar rfl rfl rfl rfl<|ar rfl rfl rfl rfl<|l_q rfl (aL rfl rfl)<|mv rfl rfl<|ar rfl rfl rfl rfl<|ar rfl rfl rfl rfl<|ar rfl rfl rfl rfl<|ar rfl rfl rfl rfl<|ar rfl rfl rfl rfl<|ar rfl rfl rfl rfl<|l_q rfl (aL rfl rfl)<|asg rfl rfl<|lc<|aX rfl<|sr<|asg rfl rfl<|lc<|rt<|fr1 rfl ([pt po (.cells #[.map (some bm)] 192 (0,0)),cB (fun k:ByteArray=>Value.string k) bm (bO os),G,roH bq os,pt pb (.cells #[.pointer (some ⟨pa,0,none⟩),.pointer (some ⟨po,0,none⟩),.pointer (some ⟨pr,0,none⟩),.pointer (some ⟨bq,0,none⟩),.int .i64 l.key,.int .i64 l.elem,.int .i64 l.ka,.int .i64 l.ea,.int .i64 l.cap,.int .i64 l.eo,.int .i64 l.bo,.int .i64 l.slot,.int .i64 l.group,(.slice a0 ps.length cap),vT] 68 (0,0)),aE 73 13 (.slice a0 ps.length cap) ps.length (rowOf (bK pa l) ps),ck pr l ps,aE 40 1 vT ts.length (dA ts),cA pr l ts,bd pr s,ae pa s]) (.tmp rfl) ?_
  exact⟨s,ps,ts,(.slice a0 ps.length cap),vT,rfl,rfl,hA,by omega⟩
 refine au rfl rfl<|l_q rfl (qfa 0 rfl dC rfl rfl yS3)<|au rfl rfl<|l_q rfl (qld rfl yA3) ?_
 refine au rfl rfl<|l_q rfl (qi rfl rfl (cT ·))<|l_q rfl (aL rfl rfl)<|mv rfl rfl<|bE (t:=65) rfl (fun q2=>?_) fun q2=>?_
 ·refine ar rfl rfl rfl rfl<|ar rfl rfl rfl rfl<|ar rfl rfl rfl rfl<|ar rfl rfl rfl rfl<|ar rfl rfl rfl rfl<|ar rfl rfl rfl rfl<|l_q rfl (aL rfl rfl)<|asg rfl rfl<|lc<|aX rfl<|sr<|asg rfl rfl<|lc<|rt<|fr1 rfl ([pt po (.cells #[.map (some bm)] 192 (0,0)),cB (fun k:ByteArray=>Value.string k) bm (bO os),G,roH bq os,pt pb (.cells #[.pointer (some ⟨pa,0,none⟩),.pointer (some ⟨po,0,none⟩),.pointer (some ⟨pr,0,none⟩),.pointer (some ⟨bq,0,none⟩),.int .i64 l.key,.int .i64 l.elem,.int .i64 l.ka,.int .i64 l.ea,.int .i64 l.cap,.int .i64 l.eo,.int .i64 l.bo,.int .i64 l.slot,.int .i64 l.group,(.slice a0 ps.length cap),vT] 68 (0,0)),aE 73 13 (.slice a0 ps.length cap) ps.length (rowOf (bK pa l) ps),ck pr l ps,aE 40 1 vT ts.length (dA ts),cA pr l ts,bd pr s,ae pa s]) (.tmp rfl) ?_
  exact⟨s,ps,ts,(.slice a0 ps.length cap),vT,rfl,rfl,hA,by omega⟩
 refine au rfl rfl<|mv rfl rfl<|au rfl rfl<|l_q rfl (ad rfl)<|au rfl rfl<|l_q rfl (qfa 13 rfl cZ rfl rfl lG)<|au rfl rfl<|l_q rfl (qld rfl n6) ?_
 refine au rfl rfl<|l_q rfl (ql rfl nY)<|au rfl rfl<|l_q rfl (qi rfl rfl (aW ·))<|l_q rfl (aL rfl rfl)<|asg rfl rfl<|lc<|aA rfl (fun q3=>?_) fun q3=>?_
 ·refine sr<|asg rfl rfl<|lc<|rt<|fr1 rfl ([pt po (.cells #[.map (some bm)] 192 (0,0)),cB (fun k:ByteArray=>Value.string k) bm (bO os),G,roH bq os,pt pb (.cells #[.pointer (some ⟨pa,0,none⟩),.pointer (some ⟨po,0,none⟩),.pointer (some ⟨pr,0,none⟩),.pointer (some ⟨bq,0,none⟩),.int .i64 l.key,.int .i64 l.elem,.int .i64 l.ka,.int .i64 l.ea,.int .i64 l.cap,.int .i64 l.eo,.int .i64 l.bo,.int .i64 l.slot,.int .i64 l.group,(.slice a0 ps.length cap),vT] 68 (0,0)),aE 73 13 (.slice a0 ps.length cap) ps.length (rowOf (bK pa l) ps),ck pr l ps,aE 40 1 vT ts.length (dA ts),cA pr l ts,bd pr s,ae pa s]) (.tmp rfl) ?_
  exact⟨s,ps,ts,(.slice a0 ps.length cap),vT,rfl,rfl,hA,by omega⟩
 obtain⟨g0,rfl⟩:=ha (by omega)
 have htm1:=Int.tmod_lt_of_pos o.s (show(0:Int) < (ps.length:Int) by omega)
 have htm2:=Int.lt_tmod_of_pos o.s (show(0:Int) < (ps.length:Int) by omega)
 refine al<|aV<|ak<|ah<|aT mixed ?_
 apply dq 0 rfl
 ·exact yq (qfa 1 rfl dC rfl rfl yS3)
 apply dq 1 rfl
 ·exact yq (qld rfl yA3)
 apply dq 2 rfl
 ·exact yq (ai rfl)
 apply dq 3 rfl
 ·exact yq (ad rfl)
 apply dq 4 rfl
 ·exact yq (qfa 13 rfl cZ rfl rfl lG)
 apply dq 5 rfl
 ·exact yq (qld rfl n6)
 apply dq 6 rfl
 ·exact yq (ql rfl nY)
 apply dq 7 rfl
 ·exact yq (iR rfl rfl)
 refine an [7,0,1,2,3,4,5,6] [] 8 [(80,_)] gO ⟨rfl,trivial⟩ (by kernel_rfl) (by kernel_rfl) fun Ex=>?_
 refine asg rfl rfl<|aj ?_
 apply n_d
 ·exact trivial
 refine bj (by kernel_rfl) ?_
 refine ak<|ah<|sr<|mv rfl rfl<|l_q rfl (qi rfl rfl (aS ·))<|lc ?_
 apply sE (p:=(fun k:Nat=>k < ps.length)) (EE:=(fun k=>[(0,.pointer (some ⟨pb,0,none⟩)),(1,.int .i64 i),(5,.pointer (some ⟨b5,0,none⟩)),(11,.int .i64 (k:Nat))])) (LL:=(fun _=>pt b5 (.cells #[.int .i64 o.kind,.int .i64 o.s,.int .i64 o.n,.int .i64 o.tag,.int .u64 o.u,.string o.k,.string o.e] 60 (0,0))::ck pr l ps::G::pt po (.cells #[.map (some bm)] 192 (0,0))::cB (fun k:ByteArray=>Value.string k) bm (bO os)::roH bq os::pt pb (.cells #[.pointer (some ⟨pa,0,none⟩),.pointer (some ⟨po,0,none⟩),.pointer (some ⟨pr,0,none⟩),.pointer (some ⟨bq,0,none⟩),.int .i64 l.key,.int .i64 l.elem,.int .i64 l.ka,.int .i64 l.ea,.int .i64 l.cap,.int .i64 l.eo,.int .i64 l.bo,.int .i64 l.slot,.int .i64 l.group,(.slice (some ⟨g0,0,none⟩) ps.length cap),vT] 68 (0,0))::aE 73 13 (.slice (some ⟨g0,0,none⟩) ps.length cap) ps.length (rowOf (bK pa l) ps)::aE 40 1 vT ts.length (dA ts)::cA pr l ts::bd pr s::ae pa s::Fr))
 refine aA rfl (fun n1=>?_) fun n1=>?_
 ·refine aB<|mv rfl rfl<|mv rfl rfl<|l_q rfl (ad rfl)<|l_q rfl (qfa 13 rfl cZ rfl rfl lG)<|l_q rfl (qld rfl n6) ?_
  refine l_q rfl (ql rfl nY)<|l_q rfl (ba rfl rfl) ?_
  refine asg rfl rfl<|aj ?_
  apply eI ((o.s.tmod (ps.length:Int)+(ps.length:Int)).toNat)
  ·exact(by omega)
  ·exact⟨rfl,rfl,rfl,by rw[Int.toNat_of_nonneg (by omega)];rfl,trivial⟩
  exact en
 ·refine al ?_
  apply eI ((o.s.tmod (ps.length:Int)).toNat)
  ·exact(by omega)
  ·exact⟨rfl,rfl,rfl,by rw[Int.toNat_of_nonneg (by omega)];rfl,trivial⟩
  exact en
 rintro k hk;obtain⟨x,hx⟩:∃ x,ps[k]?=some x:=⟨ps[k],List.getElem?_eq_getElem hk⟩
 try dsimp only
 refine oH ?_
 refine nz<|mv rfl rfl<|l_q rfl (ad rfl)<|l_q rfl (qfa 13 rfl cZ rfl rfl lG)<|l_q rfl (qld rfl n6) ?_
 refine mv rfl rfl<|l_q rfl (aU rfl rfl nY pE (by omega)) ?_
 apply l_q rfl
 ·apply eF (A:=aE 73 13 (.slice (some ⟨g0,0,none⟩) ps.length cap) ps.length (rowOf (bK pa l) ps)) (us:=[.pointer (some ⟨pa,0,none⟩),.int .i64 l.key,.int .i64 l.elem,.int .i64 l.ka,.int .i64 l.ea,.int .i64 l.cap,.int .i64 l.eo,.int .i64 l.bo,.int .i64 l.slot,.int .i64 l.group,.int .i64 (x.off:Nat),.pointer (some ⟨x.p,0,none⟩),.bool x.over]) rfl Bg pE rfl
  ·exact tk
  exact uL hx _ _ _
 refine az rfl yo fun b12=>sta rfl rfl rfl pE rfl rfl ?_
 refine lc<|ah<|sr<|l_q rfl (qfa 12 rfl di rfl rfl yS4)<|l_q rfl (qld rfl yA4) ?_
 refine lc<|aA rfl (fun q4=>?_) fun q4=>?_
 ·refine sr<|asg rfl rfl<|lc<|rt<|fr1 rfl ([pt po (.cells #[.map (some bm)] 192 (0,0)),cB (fun k:ByteArray=>Value.string k) bm (bO os),G,roH bq os,pt pb (.cells #[.pointer (some ⟨pa,0,none⟩),.pointer (some ⟨po,0,none⟩),.pointer (some ⟨pr,0,none⟩),.pointer (some ⟨bq,0,none⟩),.int .i64 l.key,.int .i64 l.elem,.int .i64 l.ka,.int .i64 l.ea,.int .i64 l.cap,.int .i64 l.eo,.int .i64 l.bo,.int .i64 l.slot,.int .i64 l.group,(.slice (some ⟨g0,0,none⟩) ps.length cap),vT] 68 (0,0)),aE 73 13 (.slice (some ⟨g0,0,none⟩) ps.length cap) ps.length (rowOf (bK pa l) ps),ck pr l ps,aE 40 1 vT ts.length (dA ts),cA pr l ts,bd pr s,ae pa s]) (.tmp rfl) ?_
  exact⟨s,ps,ts,(.slice (some ⟨g0,0,none⟩) ps.length cap),vT,rfl,rfl,hA,by omega⟩
 refine fG (L':=pt b12 (.cells #[.pointer (some ⟨pa,0,none⟩),.int .i64 l.key,.int .i64 l.elem,.int .i64 l.ka,.int .i64 l.ea,.int .i64 l.cap,.int .i64 l.eo,.int .i64 l.bo,.int .i64 l.slot,.int .i64 l.group,.int .i64 (x.off:Nat),.pointer (some ⟨x.p,0,none⟩),.bool x.over] 73 (0,0))::pt b5 (.cells #[.int .i64 o.kind,.int .i64 o.s,.int .i64 o.n,.int .i64 o.tag,.int .u64 o.u,.string o.k,.string o.e] 60 (0,0))::rsH pr l x::ck pr l (ps.eraseIdx k)::G::pt po (.cells #[.map (some bm)] 192 (0,0))::cB (fun k:ByteArray=>Value.string k) bm (bO os)::roH bq os::pt pb (.cells #[.pointer (some ⟨pa,0,none⟩),.pointer (some ⟨po,0,none⟩),.pointer (some ⟨pr,0,none⟩),.pointer (some ⟨bq,0,none⟩),.int .i64 l.key,.int .i64 l.elem,.int .i64 l.ka,.int .i64 l.ea,.int .i64 l.cap,.int .i64 l.eo,.int .i64 l.bo,.int .i64 l.slot,.int .i64 l.group,(.slice (some ⟨g0,0,none⟩) ps.length cap),vT] 68 (0,0))::aE 73 13 (.slice (some ⟨g0,0,none⟩) ps.length cap) ps.length (rowOf (bK pa l) ps)::aE 40 1 vT ts.length (dA ts)::cA pr l ts::bd pr s::ae pa s::Fr) (fun w h=>?_) ?_
 ·have h2:=(show Ent _ (ck pr l ps::pt b12 (.cells #[.pointer (some ⟨pa,0,none⟩),.int .i64 l.key,.int .i64 l.elem,.int .i64 l.ka,.int .i64 l.ea,.int .i64 l.cap,.int .i64 l.eo,.int .i64 l.bo,.int .i64 l.slot,.int .i64 l.group,.int .i64 (x.off:Nat),.pointer (some ⟨x.p,0,none⟩),.bool x.over] 73 (0,0))::pt b5 (.cells #[.int .i64 o.kind,.int .i64 o.s,.int .i64 o.n,.int .i64 o.tag,.int .u64 o.u,.string o.k,.string o.e] 60 (0,0))::G::pt po (.cells #[.map (some bm)] 192 (0,0))::cB (fun k:ByteArray=>Value.string k) bm (bO os)::roH bq os::pt pb (.cells #[.pointer (some ⟨pa,0,none⟩),.pointer (some ⟨po,0,none⟩),.pointer (some ⟨pr,0,none⟩),.pointer (some ⟨bq,0,none⟩),.int .i64 l.key,.int .i64 l.elem,.int .i64 l.ka,.int .i64 l.ea,.int .i64 l.cap,.int .i64 l.eo,.int .i64 l.bo,.int .i64 l.slot,.int .i64 l.group,(.slice (some ⟨g0,0,none⟩) ps.length cap),vT] 68 (0,0))::aE 73 13 (.slice (some ⟨g0,0,none⟩) ps.length cap) ps.length (rowOf (bK pa l) ps)::aE 40 1 vT ts.length (dA ts)::cA pr l ts::bd pr s::ae pa s::Fr) by(exact en)) w h
  exact(show Ent (rsH pr l x::ck pr l (ps.eraseIdx k)::_) _ by(exact en)) w (oq hx w h2)
 refine dR (.there (.there .here)) fun vc=>?_
 refine al<|ak<|ah<|sr<|mv rfl rfl<|l_q rfl (iR rfl rfl) ?_
 refine l_q rfl (qi rfl rfl (aW ·))<|lc ?_
 apply sE (p:=(fun _:Unit=>True)) (EE:=(fun _=>[(0,.pointer (some ⟨pb,0,none⟩)),(5,.pointer (some ⟨b5,0,none⟩)),(12,.pointer (some ⟨b12,0,none⟩))])) (LL:=(fun _=>pt b12 (.cells #[.pointer (some ⟨pa,0,none⟩),.int .i64 l.key,.int .i64 l.elem,.int .i64 l.ka,.int .i64 l.ea,.int .i64 l.cap,.int .i64 l.eo,.int .i64 l.bo,.int .i64 l.slot,.int .i64 l.group,.int .i64 (x.off:Nat),.pointer (some ⟨x.p,0,none⟩),.bool x.over] 73 (0,0))::pt b5 (.cells #[.int .i64 o.kind,.int .i64 o.s,.int .i64 o.n,.int .i64 o.tag,.int .u64 o.u,.string o.k,.string o.e] 60 (0,0))::pt x.p (.cells #[.pointer (some ⟨pr,0,none⟩),.int .i64 l.key,.int .i64 l.elem,.int .i64 l.ka,.int .i64 l.ea,.int .i64 l.cap,.int .i64 l.eo,.int .i64 l.bo,.int .i64 l.slot,.int .i64 l.group,.int .i64 (x.off:Nat),.int .i64 x.S.used,.int .i64 x.S.pins,.int .i64 x.S.next,.bool (decide (x.S.kind=3)),.bool x.dead,vc] 75 (0,0))::aE 142 5 vc 8 (rowOf bI (bx x.S.cells 8))::ck pr l (ps.eraseIdx k)::G::pt po (.cells #[.map (some bm)] 192 (0,0))::cB (fun k:ByteArray=>Value.string k) bm (bO os)::roH bq os::pt pb (.cells #[.pointer (some ⟨pa,0,none⟩),.pointer (some ⟨po,0,none⟩),.pointer (some ⟨pr,0,none⟩),.pointer (some ⟨bq,0,none⟩),.int .i64 l.key,.int .i64 l.elem,.int .i64 l.ka,.int .i64 l.ea,.int .i64 l.cap,.int .i64 l.eo,.int .i64 l.bo,.int .i64 l.slot,.int .i64 l.group,(.slice (some ⟨g0,0,none⟩) ps.length cap),vT] 68 (0,0))::aE 73 13 (.slice (some ⟨g0,0,none⟩) ps.length cap) ps.length (rowOf (bK pa l) ps)::aE 40 1 vT ts.length (dA ts)::cA pr l ts::bd pr s::ae pa s::Fr))
 refine aA rfl (fun q5=>?_) fun q5=>?_
 ·refine aT mixed ?_
  apply dq 0 rfl
  ·exact yq (ai rfl)
  apply dq 1 rfl
  ·exact yq (ad rfl)
  apply dq 2 rfl
  ·exact yq (qfa 0 rfl cZ rfl rfl dk)
  apply dq 3 rfl
  ·exact yq (qld rfl dm)
  apply dq 4 rfl
  ·exact yq (ai rfl)
  apply dq 5 rfl
  ·exact yq (ad rfl)
  apply dq 6 rfl
  ·exact yq (qfa 4 rfl cZ rfl rfl aZ)
  apply dq 7 rfl
  ·exact yq (aK rfl cu aZ)
  apply dq 8 rfl
  ·exact yq (qfa 11 rfl di rfl rfl fC)
  apply dq 9 rfl
  ·exact yq (qld rfl ez)
  apply dq 10 rfl
  ·exact yq (ad rfl)
  apply dq 11 rfl
  ·exact yq (qfa 10 rfl cY rfl rfl yS3)
  apply dq 12 rfl
  ·exact yq (qld rfl yA3)
  refine an [3,7,12,2,6,11,1,5,10,0,4,9,8] [] 13 [(105,_),(109,_),(114,_)] gO ⟨rfl,rfl,rfl,trivial⟩ (by kernel_rfl) (by kernel_rfl) fun Ex=>?_
  refine lc1 rfl rfl rfl (Cy pa l ((x.off:Nat):Int)) ?_
  refine aj ?_
  apply n_d
  ·exact trivial
  apply dq 14 rfl
  ·exact yq (qfa 0 rfl di rfl rfl bM)
  refine an [14] [] 15 [(116,_),(115,_)] gO ⟨rfl,rfl,trivial⟩ (by kernel_rfl) (by kernel_rfl) fun Ex=>?_
  refine sta rfl rfl rfl bM rfl rfl ?_
  refine aj ?_
  apply n_d
  ·exact trivial
  refine bj (by kernel_rfl) ?_
  apply eI (())
  ·exact trivial
  ·exact⟨rfl,rfl,rfl,trivial⟩
  exact en
 ·refine al ?_
  apply eI (())
  ·exact trivial
  ·exact⟨rfl,rfl,rfl,trivial⟩
  exact en
 rintro _ -
 try dsimp only
 refine oH ?_
 refine ak<|ah<|sr<|l_q rfl (qfa 0 rfl dC rfl rfl yS3)<|l_q rfl (qld rfl yA3) ?_
 refine lc<|ay<|sr<|l_q rfl (qi rfl rfl (aW ·))<|asg rfl rfl<|lc ?_
 refine fG (L':=pt b12 (.cells #[.pointer (some ⟨pa,0,none⟩),.int .i64 l.key,.int .i64 l.elem,.int .i64 l.ka,.int .i64 l.ea,.int .i64 l.cap,.int .i64 l.eo,.int .i64 l.bo,.int .i64 l.slot,.int .i64 l.group,.int .i64 (x.off:Nat),.pointer (some ⟨x.p,0,none⟩),.bool x.over] 73 (0,0))::pt b5 (.cells #[.int .i64 o.kind,.int .i64 o.s,.int .i64 o.n,.int .i64 o.tag,.int .u64 o.u,.string o.k,.string o.e] 60 (0,0))::rsH pr l x::ck pr l (ps.eraseIdx k)::G::pt po (.cells #[.map (some bm)] 192 (0,0))::cB (fun k:ByteArray=>Value.string k) bm (bO os)::roH bq os::pt pb (.cells #[.pointer (some ⟨pa,0,none⟩),.pointer (some ⟨po,0,none⟩),.pointer (some ⟨pr,0,none⟩),.pointer (some ⟨bq,0,none⟩),.int .i64 l.key,.int .i64 l.elem,.int .i64 l.ka,.int .i64 l.ea,.int .i64 l.cap,.int .i64 l.eo,.int .i64 l.bo,.int .i64 l.slot,.int .i64 l.group,(.slice (some ⟨g0,0,none⟩) ps.length cap),vT] 68 (0,0))::aE 73 13 (.slice (some ⟨g0,0,none⟩) ps.length cap) ps.length (rowOf (bK pa l) ps)::aE 40 1 vT ts.length (dA ts)::cA pr l ts::bd pr s::ae pa s::Fr) (fun w h=>(show Ent (rsH pr l x::_) _ by(exact en)) w (bD vc (show Ent _ (pt x.p (.cells #[.pointer (some ⟨pr,0,none⟩),.int .i64 l.key,.int .i64 l.elem,.int .i64 l.ka,.int .i64 l.ea,.int .i64 l.cap,.int .i64 l.eo,.int .i64 l.bo,.int .i64 l.slot,.int .i64 l.group,.int .i64 (x.off:Nat),.int .i64 x.S.used,.int .i64 x.S.pins,.int .i64 x.S.next,.bool (decide (x.S.kind=3)),.bool x.dead,vc] 75 (0,0))::aE 142 5 vc 8 (rowOf bI (bx x.S.cells 8))::pt b12 (.cells #[.pointer (some ⟨pa,0,none⟩),.int .i64 l.key,.int .i64 l.elem,.int .i64 l.ka,.int .i64 l.ea,.int .i64 l.cap,.int .i64 l.eo,.int .i64 l.bo,.int .i64 l.slot,.int .i64 l.group,.int .i64 (x.off:Nat),.pointer (some ⟨x.p,0,none⟩),.bool x.over] 73 (0,0))::pt b5 (.cells #[.int .i64 o.kind,.int .i64 o.s,.int .i64 o.n,.int .i64 o.tag,.int .u64 o.u,.string o.k,.string o.e] 60 (0,0))::ck pr l (ps.eraseIdx k)::G::pt po (.cells #[.map (some bm)] 192 (0,0))::cB (fun k:ByteArray=>Value.string k) bm (bO os)::roH bq os::pt pb (.cells #[.pointer (some ⟨pa,0,none⟩),.pointer (some ⟨po,0,none⟩),.pointer (some ⟨pr,0,none⟩),.pointer (some ⟨bq,0,none⟩),.int .i64 l.key,.int .i64 l.elem,.int .i64 l.ka,.int .i64 l.ea,.int .i64 l.cap,.int .i64 l.eo,.int .i64 l.bo,.int .i64 l.slot,.int .i64 l.group,(.slice (some ⟨g0,0,none⟩) ps.length cap),vT] 68 (0,0))::aE 73 13 (.slice (some ⟨g0,0,none⟩) ps.length cap) ps.length (rowOf (bK pa l) ps)::aE 40 1 vT ts.length (dA ts)::cA pr l ts::bd pr s::ae pa s::Fr) by(exact en)) w h)) ?_
 refine aA rfl (fun w0=>?_) fun w0=>?_
 ·skip
  refine ri hx tk tk ?_
  refine sr<|mv rfl rfl<|l_q rfl (aK rfl Bg pE) ?_
  refine l_q rfl (qfa 4 rfl dC rfl rfl n4)<|l_q rfl (qld rfl jZ) ?_
  refine lcf rfl rfl rfl (rk G hGT hGO pb pa po pr bq bm os hg hw l hl s hs ps ts (.slice (some ⟨g0,0,none⟩) ps.length cap) vT hlen hlt hA k x hx (by simpa using q4) o.u how.u) ?_
  rintro v L' ⟨s',ps',ts',vP',vT',rfl,rfl,hA',hd'⟩
  refine bF ?_
  exact asg rfl rfl<|lc<|rt<|fr1 rfl ([pt po (.cells #[.map (some bm)] 192 (0,0)),cB (fun k:ByteArray=>Value.string k) bm (bO os),G,roH bq os,pt pb (.cells #[.pointer (some ⟨pa,0,none⟩),.pointer (some ⟨po,0,none⟩),.pointer (some ⟨pr,0,none⟩),.pointer (some ⟨bq,0,none⟩),.int .i64 l.key,.int .i64 l.elem,.int .i64 l.ka,.int .i64 l.ea,.int .i64 l.cap,.int .i64 l.eo,.int .i64 l.bo,.int .i64 l.slot,.int .i64 l.group,vP',vT'] 68 (0,0)),aE 73 13 vP' ps'.length (rowOf (bK pa l) ps'),ck pr l ps',aE 40 1 vT' ts'.length (dA ts'),cA pr l ts',bd pr s',ae pa s']) (.tmp rfl) ⟨s',ps',ts',vP',vT',rfl,rfl,hA',hd'⟩
 refine ah<|sr<|l_q rfl (qi rfl rfl (aW ·))<|asg rfl rfl<|lc ?_
 apply sE (p:=(fun _:Bool=>True)) (EE:=(fun b=>[(0,.pointer (some ⟨pb,0,none⟩)),(5,.pointer (some ⟨b5,0,none⟩)),(12,.pointer (some ⟨b12,0,none⟩)),(118,.int .i64 o.kind),(126,.bool b)])) (LL:=(fun _=>pt b12 (.cells #[.pointer (some ⟨pa,0,none⟩),.int .i64 l.key,.int .i64 l.elem,.int .i64 l.ka,.int .i64 l.ea,.int .i64 l.cap,.int .i64 l.eo,.int .i64 l.bo,.int .i64 l.slot,.int .i64 l.group,.int .i64 (x.off:Nat),.pointer (some ⟨x.p,0,none⟩),.bool x.over] 73 (0,0))::pt b5 (.cells #[.int .i64 o.kind,.int .i64 o.s,.int .i64 o.n,.int .i64 o.tag,.int .u64 o.u,.string o.k,.string o.e] 60 (0,0))::rsH pr l x::ck pr l (ps.eraseIdx k)::G::pt po (.cells #[.map (some bm)] 192 (0,0))::cB (fun k:ByteArray=>Value.string k) bm (bO os)::roH bq os::pt pb (.cells #[.pointer (some ⟨pa,0,none⟩),.pointer (some ⟨po,0,none⟩),.pointer (some ⟨pr,0,none⟩),.pointer (some ⟨bq,0,none⟩),.int .i64 l.key,.int .i64 l.elem,.int .i64 l.ka,.int .i64 l.ea,.int .i64 l.cap,.int .i64 l.eo,.int .i64 l.bo,.int .i64 l.slot,.int .i64 l.group,(.slice (some ⟨g0,0,none⟩) ps.length cap),vT] 68 (0,0))::aE 73 13 (.slice (some ⟨g0,0,none⟩) ps.length cap) ps.length (rowOf (bK pa l) ps)::aE 40 1 vT ts.length (dA ts)::cA pr l ts::bd pr s::ae pa s::Fr))
 refine aA rfl (fun c0=>?_) fun c0=>?_
 ·refine al ?_
  apply eI ((decide (o.kind=4)))
  ·exact trivial
  ·exact⟨rfl,rfl,rfl,rfl,rfl,trivial⟩
  exact en
 ·refine sr<|l_q rfl (qi rfl rfl (aW ·))<|asg rfl rfl<|lc<|aA rfl (fun c1=>?_) fun c1=>?_
  ·refine al ?_
   apply eI ((decide (o.kind=5)))
   ·exact trivial
   ·exact⟨rfl,rfl,rfl,rfl,rfl,trivial⟩
   exact en
  refine sr<|l_q rfl (qi rfl rfl (aW ·))<|asg rfl rfl<|lc<|aA rfl (fun c2=>?_) fun c2=>?_
  ·refine al ?_
   apply eI ((decide (o.kind=10)))
   ·exact trivial
   ·exact⟨rfl,rfl,rfl,rfl,rfl,trivial⟩
   exact en
  refine sr<|l_q rfl (qi rfl rfl (aW ·))<|asg rfl rfl<|lc<|aA rfl (fun c3=>?_) fun c3=>?_
  ·refine al ?_
   apply eI ((decide (o.kind=11)))
   ·exact trivial
   ·exact⟨rfl,rfl,rfl,rfl,rfl,trivial⟩
   exact en
  refine sr<|l_q rfl (qi rfl rfl (aW ·))<|asg rfl rfl<|lc<|aA rfl (fun c4=>?_) fun c4=>?_
  ·refine al ?_
   apply eI ((decide (o.kind=12)))
   ·exact trivial
   ·exact⟨rfl,rfl,rfl,rfl,rfl,trivial⟩
   exact en
  refine aB<|l_q rfl (qi rfl rfl (aW ·))<|asg rfl rfl<|aj ?_
  apply eI ((decide (o.kind=13)))
  ·exact trivial
  ·exact⟨rfl,rfl,rfl,rfl,rfl,trivial⟩
  exact en
 rintro bC -
 try dsimp only
 refine oH ?_
 refine ak<|aA rfl (fun w2=>?_) fun w2=>?_
 ·refine sr<|l_q rfl (aK rfl Bg pE) ?_
  refine l_q rfl (aK rfl Bi wN) ?_
  refine lcf rfl rfl rfl (sM G hGT pa pr s hs l hl x (hA.at hx) (by simpa using q4) o how) ?_
  rintro v L' ⟨s',x',rfl,rfl,hch⟩
  refine bF ?_
  refine asg rfl rfl<|lc<|rt ?_
  obtain⟨hA2,he2,hd2⟩:=An pa hs hA hx hch
  apply aJ (.inl rfl) ([pt po (.cells #[.map (some bm)] 192 (0,0)),cB (fun k:ByteArray=>Value.string k) bm (bO os),G,roH bq os,pt pb (.cells #[.pointer (some ⟨pa,0,none⟩),.pointer (some ⟨po,0,none⟩),.pointer (some ⟨pr,0,none⟩),.pointer (some ⟨bq,0,none⟩),.int .i64 l.key,.int .i64 l.elem,.int .i64 l.ka,.int .i64 l.ea,.int .i64 l.cap,.int .i64 l.eo,.int .i64 l.bo,.int .i64 l.slot,.int .i64 l.group,(.slice (some ⟨g0,0,none⟩) ps.length cap),vT] 68 (0,0)),aE 73 13 (.slice (some ⟨g0,0,none⟩) ps.length cap) ps.length (rowOf (bK pa l) ps),ck pr l (ps.set k x'),aE 40 1 vT ts.length (dA ts),cA pr l ts,bd pr s',ae pa s'])
  ·apply cM rfl
   exact .tmp rfl
  ·exact⟨s',ps.set k x',ts,(.slice (some ⟨g0,0,none⟩) ps.length cap),vT,rfl,by rw[List.length_set,xf hx he2],hA2,hd2⟩
  intro w h;have h2:=kS hk w ((show Ent _ (rsH pr l x'::ck pr l (ps.eraseIdx k)::pt po (.cells #[.map (some bm)] 192 (0,0))::cB (fun k:ByteArray=>Value.string k) bm (bO os)::G::roH bq os::pt pb (.cells #[.pointer (some ⟨pa,0,none⟩),.pointer (some ⟨po,0,none⟩),.pointer (some ⟨pr,0,none⟩),.pointer (some ⟨bq,0,none⟩),.int .i64 l.key,.int .i64 l.elem,.int .i64 l.ka,.int .i64 l.ea,.int .i64 l.cap,.int .i64 l.eo,.int .i64 l.bo,.int .i64 l.slot,.int .i64 l.group,(.slice (some ⟨g0,0,none⟩) ps.length cap),vT] 68 (0,0))::aE 73 13 (.slice (some ⟨g0,0,none⟩) ps.length cap) ps.length (rowOf (bK pa l) ps)::aE 40 1 vT ts.length (dA ts)::cA pr l ts::bd pr s'::ae pa s'::Fr) by(exact en)) w h);exact(show Ent (ck pr l (ps.set k x')::pt po (.cells #[.map (some bm)] 192 (0,0))::cB (fun k:ByteArray=>Value.string k) bm (bO os)::G::roH bq os::pt pb (.cells #[.pointer (some ⟨pa,0,none⟩),.pointer (some ⟨po,0,none⟩),.pointer (some ⟨pr,0,none⟩),.pointer (some ⟨bq,0,none⟩),.int .i64 l.key,.int .i64 l.elem,.int .i64 l.ka,.int .i64 l.ea,.int .i64 l.cap,.int .i64 l.eo,.int .i64 l.bo,.int .i64 l.slot,.int .i64 l.group,(.slice (some ⟨g0,0,none⟩) ps.length cap),vT] 68 (0,0))::aE 73 13 (.slice (some ⟨g0,0,none⟩) ps.length cap) ps.length (rowOf (bK pa l) ps)::aE 40 1 vT ts.length (dA ts)::cA pr l ts::bd pr s'::ae pa s'::Fr) _ by(exact en)) w h2
 refine al<|aV<|nz<|l_q rfl (aK rfl Bg pE) ?_
 refine l_q rfl (aK rfl Bi wN) ?_
 refine lc1 rfl rfl rfl (wS G hGT pa pr s hs l hl x (hA.at hx) (by simpa using q4) o how) ?_
 refine asg rfl rfl<|lc<|rt ?_
 refine rA hx tk tk ?_
 refine fr1 rfl ([pt po (.cells #[.map (some bm)] 192 (0,0)),cB (fun k:ByteArray=>Value.string k) bm (bO os),G,roH bq os,pt pb (.cells #[.pointer (some ⟨pa,0,none⟩),.pointer (some ⟨po,0,none⟩),.pointer (some ⟨pr,0,none⟩),.pointer (some ⟨bq,0,none⟩),.int .i64 l.key,.int .i64 l.elem,.int .i64 l.ka,.int .i64 l.ea,.int .i64 l.cap,.int .i64 l.eo,.int .i64 l.bo,.int .i64 l.slot,.int .i64 l.group,(.slice (some ⟨g0,0,none⟩) ps.length cap),vT] 68 (0,0)),aE 73 13 (.slice (some ⟨g0,0,none⟩) ps.length cap) ps.length (rowOf (bK pa l) ps),ck pr l ps,aE 40 1 vT ts.length (dA ts),cA pr l ts,bd pr s,ae pa s]) (.tmp rfl) ?_
 exact⟨s,ps,ts,(.slice (some ⟨g0,0,none⟩) ps.length cap),vT,rfl,rfl,hA,by omega⟩
end
end Exact11
end Go.Proofs.YthkajgkagnenbaaGreatDoor
