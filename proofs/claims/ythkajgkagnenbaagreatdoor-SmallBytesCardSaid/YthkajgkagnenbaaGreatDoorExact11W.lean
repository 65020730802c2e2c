import Derived.Test.YthkajgkagnenbaaGreatDoorExact11P
set_option linter.unusedVariables false
set_option linter.unusedSimpArgs false
set_option linter.unusedSectionVars false
namespace Go.Proofs.YthkajgkagnenbaaGreatDoor
section
set_option maxRecDepth 100000
namespace Ref11
open Go.RowKit Go.Proofs Eng Ty Bits Layout Mem Ref03
end Ref11
end
section
set_option maxRecDepth 100000
namespace Exact11
open Go.RowKit Go.Proofs Eng Ty Bits Mem Search Arena CtrlB Ctrl Layout GroupB Group TableB TableI Table Cells Refill Small RefA
structure pC where
 kind:Int
 s:Int
 n:Int
 tag:Int
 u:Int
 k:ByteArray
 e:ByteArray
structure pC.wf (o:pC):Prop where
 kind:-9223372036854775808≤o.kind∧o.kind≤9223372036854775807
 s:-9223372036854775808≤o.s∧o.s≤9223372036854775807
 n:-9223372036854775808≤o.n∧o.n≤9223372036854775807
 tag:-9223372036854775808≤o.tag∧o.tag≤9223372036854775807
 u:0≤o.u∧o.u < 18446744073709551616
theorem bW (e:Int):aG Tryz.prog 19 #[.int .i64 e] [] (fun v L=>v=.int .i64 e∧L= []):=by
 refine aq HV Tryz.func19 rfl rfl rfl fun Fr w0=>aR ?_
 exact sr<|asg rfl rfl<|lz<|mv rfl rfl<|asg rfl rfl<|lc<|rt<|fr1 rfl ([]) (.tmp rfl) ⟨rfl,rfl⟩
theorem js {p:Prop} {i:Decidable p} (h:p):@decide p i=true:=decide_eq_true h
inductive CG (s:ArS) (l:Lay) (x:SR):ArS→SR→Prop
 | step (s':ArS) (S':Sm):eY s s' l x S'→CG s l x s' {x with S:=S'}
 | free:x.dead=false→CG s l x (s.gives [((x.off:Nat):Int)]) {x with dead:=true}
section
variable (G:HP) (hG:dz G) (pa pr:Nat) (s:ArS) (hs:s.ok) (l:Lay) (hl:l.err=0) (x:SR) (hO:l9 s l x) (hov:x.over=false)
include hG hs hl hO hov
theorem sU (o:pC) (hw:o.wf):aG Tryz.prog 45 #[.agg #[.pointer (some ⟨pa,0,none⟩),.int .i64 l.key,.int .i64 l.elem,.int .i64 l.ka,.int .i64 l.ea,.int .i64 l.cap,.int .i64 l.eo,.int .i64 l.bo,.int .i64 l.slot,.int .i64 l.group,.int .i64 (x.off:Nat),.pointer (some ⟨x.p,0,none⟩),.bool x.over],.agg #[.int .i64 o.kind,.int .i64 o.s,.int .i64 o.n,.int .i64 o.tag,.int .u64 o.u,.string o.k,.string o.e]] [G,ae pa s,rsH pr l x,bj pr s] (fun v L=>∃ s' x',v=.bool true∧L= [G,ae pa s',rsH pr l x',bj pr s']∧CG s l x s' x'):=by
 have hcg:∀ {s':ArS} {S':Sm},eY s s' l x S'→bj pr s'=bj pr s:=fun h=>by obtain⟨a,b,c⟩:=h.arena;exact jg a b c
 have hr:=hO.rng
 refine aq HK Tryz.func45 rfl rfl rfl fun Fr w0=>aR ?_
 refine sr<|aP rfl rfl fun b2=>aP rfl rfl fun b3=>asg rfl rfl<|lc<|ah<|sr<|l_q rfl (qfa 0 rfl dD rfl rfl yS3)<|l_q rfl (qld rfl yA3) ?_
 refine lc<|ax<|sr<|l_q rfl (qi rfl rfl (aZ ·))<|asg rfl rfl<|lc<|aA rfl (fun k1=>?_) fun k1=>?_
 ·refine sr<|l_q rfl (qfa 0 rfl c9 rfl rfl bM)<|l_q rfl (aK rfl cd bM) ?_
  refine l_q rfl (qfa 3 rfl dD rfl rfl yS3)<|l_q rfl (qld rfl yA3) ?_
  refine l_q rfl (qfa 5 rfl dD rfl rfl yS9)<|l_q rfl (qld rfl yA9) ?_
  refine l_q rfl (qfa 6 rfl dD rfl rfl yS9)<|l_q rfl (qld rfl yA9) ?_
  refine l_q rfl (qfa 2 rfl dD rfl rfl yS3)<|l_q rfl (qld rfl yA3) ?_
  refine lcf rfl rfl rfl (H9 pa s hs l hl x hO hov G hG o.tag o.k o.e o.n (by have:=hw.n;omega)) ?_
  rintro v L' ⟨s',rfl,rfl,hSt⟩
  refine bF ?_
  refine mv rfl rfl<|l_q rfl (aa rfl ga) ?_
  refine l_q rfl (aa rfl ga) ?_
  refine asg rfl rfl<|asg rfl rfl<|lz<|l_q rfl (qfa 11 rfl c9 rfl rfl eZ)<|l_q rfl (qld rfl ee) ?_
  refine l_q rfl (qfa 3 rfl dD rfl rfl yS3)<|l_q rfl (qld rfl yA3) ?_
  refine l_q rfl (qfa 5 rfl dD rfl rfl yS9)<|l_q rfl (qld rfl yA9) ?_
  refine l_q rfl (qfa 6 rfl dD rfl rfl yS9)<|l_q rfl (qld rfl yA9) ?_
  refine l_q rfl (qfa 2 rfl dD rfl rfl yS3)<|l_q rfl (qld rfl yA3) ?_
  refine lc1 rfl rfl rfl (AW pr l x hr hl o.tag o.k o.e o.n) ?_
  refine mv rfl rfl<|l_q rfl (aa rfl ga) ?_
  refine l_q rfl (aa rfl ga) ?_
  refine asg rfl rfl<|asg rfl rfl<|lz<|mv rfl rfl<|mv rfl rfl<|l_q rfl (qi rfl rfl (aZ ·))<|mv rfl rfl<|bD (t:=52) rfl (fun z1=>?_) fun z1=>?_
  ·refine au rfl rfl<|mv rfl rfl<|au rfl rfl<|lc1 rfl rfl rfl (bW _) ?_
   refine au rfl rfl<|mv rfl rfl<|au rfl rfl<|l_q rfl (qi rfl rfl (aZ ·))<|l_q rfl (aL rfl rfl)<|asg rfl rfl<|lc<|rt<|fr1 rfl ([G,ae pa s',rsH pr l {x with S:=(gp l x o.tag o.k o.e o.n).2.2},bj pr s]) (.tmp rfl) ?_
   exact⟨s',_,by rw[js rfl],by rw[hcg hSt],.step _ _ hSt⟩
  exact absurd rfl z1
 refine sr<|l_q rfl (qi rfl rfl (aZ ·))<|asg rfl rfl<|lc<|aA rfl (fun k2=>?_) fun k2=>?_
 ·refine sr<|l_q rfl (qfa 0 rfl c9 rfl rfl bM)<|l_q rfl (aK rfl cd bM) ?_
  refine l_q rfl (qfa 3 rfl dD rfl rfl yS3)<|l_q rfl (qld rfl yA3) ?_
  refine l_q rfl (qfa 5 rfl dD rfl rfl yS9)<|l_q rfl (qld rfl yA9) ?_
  refine lcf rfl rfl rfl (Ic pa s hs l hl x hO hov G hG o.tag o.k) ?_
  rintro v L' ⟨s',rfl,rfl,hSt⟩
  refine bF ?_
  refine mv rfl rfl<|l_q rfl (aa rfl ga) ?_
  refine l_q rfl (aa rfl ga) ?_
  refine asg rfl rfl<|asg rfl rfl<|lz<|l_q rfl (qfa 11 rfl c9 rfl rfl eZ)<|l_q rfl (qld rfl ee) ?_
  refine l_q rfl (qfa 3 rfl dD rfl rfl yS3)<|l_q rfl (qld rfl yA3) ?_
  refine l_q rfl (qfa 5 rfl dD rfl rfl yS9)<|l_q rfl (qld rfl yA9) ?_
  refine lc1 rfl rfl rfl (ui pr l x hr hl o.tag o.k) ?_
  refine mv rfl rfl<|l_q rfl (aa rfl ga) ?_
  refine l_q rfl (aa rfl ga) ?_
  refine asg rfl rfl<|asg rfl rfl<|lz<|mv rfl rfl<|mv rfl rfl<|l_q rfl (qb rfl rfl (D0 · yU4))<|mv rfl rfl<|bD (t:=83) rfl (fun z1=>?_) fun z1=>?_
  ·refine au rfl rfl<|mv rfl rfl<|au rfl rfl<|lc1 rfl rfl rfl (bW _) ?_
   refine au rfl rfl<|mv rfl rfl<|au rfl rfl<|l_q rfl (qi rfl rfl (aZ ·))<|l_q rfl (aL rfl rfl)<|asg rfl rfl<|lc<|rt<|fr1 rfl ([G,ae pa s',rsH pr l {x with S:=(gD l x o.tag o.k).2.2},bj pr s]) (.tmp rfl) ?_
   exact⟨s',_,by rw[js rfl],by rw[hcg hSt],.step _ _ hSt⟩
  exact absurd rfl z1
 refine sr<|l_q rfl (qi rfl rfl (aZ ·))<|asg rfl rfl<|lc<|aA rfl (fun k4=>?_) fun k4=>?_
 ·refine sr<|l_q rfl (qfa 0 rfl c9 rfl rfl bM)<|l_q rfl (aK rfl cd bM) ?_
  refine l_q rfl (qfa 2 rfl dD rfl rfl yS3)<|l_q rfl (qld rfl yA3) ?_
  refine lcf rfl rfl rfl (Ia pa s hs l hl x hO hov o.n hw.n) ?_
  rintro v L' ⟨s',rfl,rfl,hSt⟩
  refine bF ?_
  refine mv rfl rfl<|l_q rfl (aa rfl ga) ?_
  refine l_q rfl (aa rfl ga) ?_
  refine asg rfl rfl<|asg rfl rfl<|lz<|l_q rfl (qfa 11 rfl c9 rfl rfl eZ)<|l_q rfl (qld rfl ee) ?_
  refine l_q rfl (qfa 2 rfl dD rfl rfl yS3)<|l_q rfl (qld rfl yA3) ?_
  refine lc1 rfl rfl rfl (AX pr l x hr o.n hw.n) ?_
  refine mv rfl rfl<|l_q rfl (aa rfl ga) ?_
  refine l_q rfl (aa rfl ga) ?_
  refine asg rfl rfl<|asg rfl rfl<|lz<|mv rfl rfl<|mv rfl rfl<|l_q rfl (qi rfl rfl (aZ ·))<|mv rfl rfl<|bD (t:=110) rfl (fun z1=>?_) fun z1=>?_
  ·refine au rfl rfl<|mv rfl rfl<|au rfl rfl<|lc1 rfl rfl rfl (bW _) ?_
   refine au rfl rfl<|mv rfl rfl<|au rfl rfl<|l_q rfl (qi rfl rfl (aZ ·))<|l_q rfl (aL rfl rfl)<|asg rfl rfl<|lc<|rt<|fr1 rfl ([G,ae pa s',rsH pr l {x with S:=(gK x o.n).2.2},bj pr s]) (.tmp rfl) ?_
   exact⟨s',_,by rw[js rfl],by rw[hcg hSt],.step _ _ hSt⟩
  exact absurd rfl z1
 refine sr<|l_q rfl (qi rfl rfl (aZ ·))<|asg rfl rfl<|lc<|aA rfl (fun k5=>?_) fun k5=>?_
 ·refine ah<|aS mixed ?_
  apply dq 0 rfl
  ·exact yq (qfa 0 rfl c9 rfl rfl bM)
  apply dq 1 rfl
  ·exact yq (aK rfl cd bM)
  apply dq 2 rfl
  ·exact yq (qfa 2 rfl dD rfl rfl yS3)
  apply dq 3 rfl
  ·exact yq (qld rfl yA3)
  apply dq 6 rfl
  ·exact yq (qfa 11 rfl c9 rfl rfl eZ)
  apply dq 7 rfl
  ·exact yq (qld rfl ee)
  apply dq 8 rfl
  ·exact yq (qfa 2 rfl dD rfl rfl yS3)
  apply dq 9 rfl
  ·exact yq (qld rfl yA3)
  refine an [1,3,0,2] [9,8,7,6] 4 [(119,_),(121,_)] gO ⟨rfl,rfl,trivial⟩ (by kernel_rfl) (by kernel_rfl) fun Ex=>?_
  refine lcf rfl rfl rfl (H8 pa s hs l hl x hO hov o.n hw.n) ?_
  rintro v L' ⟨s',rfl,rfl,hSt⟩
  refine bF ?_
  refine aj ?_
  apply n_d
  ·refine⟨?_,?_,?_,?_,trivial⟩
   ·apply ya rfl rfl;exact yq (qld rfl yA3)
   ·apply ya rfl rfl;exact yq (qfa 2 rfl dD rfl rfl yS3)
   ·apply ya rfl rfl;exact yq (qld rfl ee)
   apply ya rfl rfl;exact yq (qfa 11 rfl c9 rfl rfl eZ)
  refine an [] [9,8,7,6] 5 [(122,_)] gO ⟨rfl,trivial⟩ (by kernel_rfl) (by kernel_rfl) fun Ex=>?_
  refine lc1 rfl rfl rfl (bW _) ?_
  refine aj ?_
  apply n_d
  ·refine⟨?_,?_,?_,?_,trivial⟩
   ·apply ya rfl rfl;exact yq (qld rfl yA3)
   ·apply ya rfl rfl;exact yq (qfa 2 rfl dD rfl rfl yS3)
   ·apply ya rfl rfl;exact yq (qld rfl ee)
   apply ya rfl rfl;exact yq (qfa 11 rfl c9 rfl rfl eZ)
  refine an [7,9,6,8] [] 10 [(125,_),(127,_)] gO ⟨rfl,rfl,trivial⟩ (by kernel_rfl) (by kernel_rfl) fun Ex=>?_
  refine lc1 rfl rfl rfl (ug pr l x hr o.n) ?_
  refine aj ?_
  apply n_d
  ·exact trivial
  apply dq 11 rfl
  ·exact yq (qi rfl rfl (aZ ·))
  refine an [11] [] 12 [(129,_)] gO ⟨rfl,trivial⟩ (by kernel_rfl) (by kernel_rfl) fun Ex=>?_
  refine asg rfl rfl<|aj ?_
  apply n_d
  ·exact trivial
  refine bd (by kernel_rfl) ?_
  refine ak<|rt<|fr1 rfl ([G,ae pa s',rsH pr l {x with S:=(lD x o.n).2},bj pr s]) (.tmp rfl) ?_
  exact⟨s',_,by rw[js rfl],by rw[hcg hSt],.step _ _ hSt⟩
 refine sr<|l_q rfl (qi rfl rfl (aZ ·))<|asg rfl rfl<|lc<|aA rfl (fun k6=>?_) fun k6=>?_
 ·refine ah<|aS mixed ?_
  apply dq 0 rfl
  ·exact yq (qfa 0 rfl c9 rfl rfl bM)
  apply dq 1 rfl
  ·exact yq (aK rfl cd bM)
  apply dq 2 rfl
  ·exact yq (qfa 2 rfl dD rfl rfl yS3)
  apply dq 3 rfl
  ·exact yq (qld rfl yA3)
  apply dq 6 rfl
  ·exact yq (qfa 11 rfl c9 rfl rfl eZ)
  apply dq 7 rfl
  ·exact yq (qld rfl ee)
  apply dq 8 rfl
  ·exact yq (qfa 2 rfl dD rfl rfl yS3)
  apply dq 9 rfl
  ·exact yq (qld rfl yA3)
  refine an [1,3,0,2] [9,8,7,6] 4 [(133,_),(135,_)] gO ⟨rfl,rfl,trivial⟩ (by kernel_rfl) (by kernel_rfl) fun Ex=>?_
  refine lcf rfl rfl rfl (G4 pa s hs l hl x hO hov o.n hw.n) ?_
  rintro v L' ⟨s',rfl,rfl,hSt⟩
  refine bF ?_
  refine aj ?_
  apply n_d
  ·refine⟨?_,?_,?_,?_,trivial⟩
   ·apply ya rfl rfl;exact yq (qld rfl yA3)
   ·apply ya rfl rfl;exact yq (qfa 2 rfl dD rfl rfl yS3)
   ·apply ya rfl rfl;exact yq (qld rfl ee)
   apply ya rfl rfl;exact yq (qfa 11 rfl c9 rfl rfl eZ)
  refine an [] [9,8,7,6] 5 [(136,_)] gO ⟨rfl,trivial⟩ (by kernel_rfl) (by kernel_rfl) fun Ex=>?_
  refine lc1 rfl rfl rfl (bW _) ?_
  refine aj ?_
  apply n_d
  ·refine⟨?_,?_,?_,?_,trivial⟩
   ·apply ya rfl rfl;exact yq (qld rfl yA3)
   ·apply ya rfl rfl;exact yq (qfa 2 rfl dD rfl rfl yS3)
   ·apply ya rfl rfl;exact yq (qld rfl ee)
   apply ya rfl rfl;exact yq (qfa 11 rfl c9 rfl rfl eZ)
  refine an [7,9,6,8] [] 10 [(139,_),(141,_)] gO ⟨rfl,rfl,trivial⟩ (by kernel_rfl) (by kernel_rfl) fun Ex=>?_
  refine lc1 rfl rfl rfl (yi pr l x hr o.n) ?_
  refine aj ?_
  apply n_d
  ·exact trivial
  apply dq 11 rfl
  ·exact yq (qi rfl rfl (aZ ·))
  refine an [11] [] 12 [(143,_)] gO ⟨rfl,trivial⟩ (by kernel_rfl) (by kernel_rfl) fun Ex=>?_
  refine asg rfl rfl<|aj ?_
  apply n_d
  ·exact trivial
  refine bd (by kernel_rfl) ?_
  refine ak<|rt<|fr1 rfl ([G,ae pa s',rsH pr l {x with S:=(iU x o.n).2},bj pr s]) (.tmp rfl) ?_
  exact⟨s',_,by rw[js rfl],by rw[hcg hSt],.step _ _ hSt⟩
 have hlv:x.dead=false→∃ c,(((x.off:Nat):Int),c)∈s.bl:=fun hd=>⟨_,(hO.live hd).2.1⟩
 refine al<|aV<|ak<|ah<|aS mixed ?_
 apply dq 0 rfl
 ·exact yq (qfa 0 rfl c9 rfl rfl bM)
 apply dq 1 rfl
 ·exact yq (aK rfl cd bM)
 apply dq 4 rfl
 ·exact yq (qfa 11 rfl c9 rfl rfl eZ)
 apply dq 5 rfl
 ·exact yq (qld rfl ee)
 refine an [1,0] [5,4] 2 [(145,_)] gO ⟨rfl,trivial⟩ (by kernel_rfl) (by kernel_rfl) fun Ex=>?_
 refine lcf rfl rfl rfl (G5 pa s hs l hl x hO hov) ?_
 rintro v L' ⟨rfl,(⟨hd,rfl⟩ | ⟨hd,rfl⟩)⟩
 refine bF ?_
 ·skip
  refine aj ?_
  apply n_d
  ·refine⟨?_,?_,trivial⟩
   ·apply ya rfl rfl;exact yq (qld rfl ee)
   apply ya rfl rfl;exact yq (qfa 11 rfl c9 rfl rfl eZ)
  refine an [] [5,4] 3 [(146,_)] gO ⟨rfl,trivial⟩ (by kernel_rfl) (by kernel_rfl) fun Ex=>?_
  refine lc1 rfl rfl rfl (bW _) ?_
  refine aj ?_
  apply n_d
  ·refine⟨?_,?_,trivial⟩
   ·apply ya rfl rfl;exact yq (qld rfl ee)
   apply ya rfl rfl;exact yq (qfa 11 rfl c9 rfl rfl eZ)
  refine an [5,4] [] 6 [(149,_)] gO ⟨rfl,trivial⟩ (by kernel_rfl) (by kernel_rfl) fun Ex=>?_
  refine lcf rfl rfl rfl (qW pr l x s hs hlv) ?_
  rintro v L' ⟨rfl,(⟨_,rfl⟩ | ⟨hd2,rfl⟩)⟩
  refine bF ?_
  ·skip
   refine aj ?_
   apply n_d
   ·exact trivial
   apply dq 7 rfl
   ·exact yq (qi rfl rfl (aZ ·))
   refine an [7] [] 8 [(151,_)] gO ⟨rfl,trivial⟩ (by kernel_rfl) (by kernel_rfl) fun Ex=>?_
   refine asg rfl rfl<|aj ?_
   apply n_d
   ·exact trivial
   refine bd (by kernel_rfl) ?_
   refine ak<|rt<|fr1 rfl ([G,ae pa s,rsH pr l x,bj pr s]) (.tmp rfl) ?_
   exact⟨s,_,by rw[js rfl],rfl,.step s x.S (eY.no hO)⟩
  exact absurd (hd.symm.trans hd2) (by decide)
 refine aj ?_
 apply n_d
 ·refine⟨?_,?_,trivial⟩
  ·apply ya rfl rfl;exact yq (qld rfl ee)
  apply ya rfl rfl;exact yq (qfa 11 rfl c9 rfl rfl eZ)
 refine an [] [5,4] 3 [(146,_)] gO ⟨rfl,trivial⟩ (by kernel_rfl) (by kernel_rfl) fun Ex=>?_
 refine lc1 rfl rfl rfl (bW _) ?_
 refine aj ?_
 apply n_d
 ·refine⟨?_,?_,trivial⟩
  ·apply ya rfl rfl;exact yq (qld rfl ee)
  apply ya rfl rfl;exact yq (qfa 11 rfl c9 rfl rfl eZ)
 refine an [5,4] [] 6 [(149,_)] gO ⟨rfl,trivial⟩ (by kernel_rfl) (by kernel_rfl) fun Ex=>?_
 refine lcf rfl rfl rfl (qW pr l x s hs hlv) ?_
 rintro v L' ⟨rfl,(⟨hd2,rfl⟩ | ⟨_,rfl⟩)⟩
 refine bF ?_
 ·exact absurd (hd.symm.trans hd2) (by decide)
 refine aj ?_
 apply n_d
 ·exact trivial
 apply dq 7 rfl
 ·exact yq (qi rfl rfl (aZ ·))
 refine an [7] [] 8 [(151,_)] gO ⟨rfl,trivial⟩ (by kernel_rfl) (by kernel_rfl) fun Ex=>?_
 refine asg rfl rfl<|aj ?_
 apply n_d
 ·exact trivial
 refine bd (by kernel_rfl) ?_
 refine ak<|rt<|fr1 rfl ([G,ae pa (s.gives [((x.off:Nat):Int)]),rsH pr l {x with dead:=true},bj pr (s.gives [((x.off:Nat):Int)])]) (.tmp rfl) ?_
 exact⟨_,_,by rw[js rfl],rfl,.free hd⟩
end
end Exact11
end
end Go.Proofs.YthkajgkagnenbaaGreatDoor
