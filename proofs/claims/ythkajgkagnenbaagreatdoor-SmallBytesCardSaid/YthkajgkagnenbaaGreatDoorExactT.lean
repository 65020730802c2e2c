import Derived.Test.YthkajgkagnenbaaGreatDoorRefT
set_option linter.unusedVariables false
set_option linter.unusedSimpArgs false
set_option linter.unusedSectionVars false
namespace Go.Proofs.YthkajgkagnenbaaGreatDoor
section
set_option maxRecDepth 100000
namespace RefT
open Go.RowKit Go.Proofs Eng Ty Bits Mem Search Arena CtrlB Layout GroupB Probe TableB TableI Table Cells Refill Exact RefA Ref03
theorem q8 (s:Int) (h:0≤s∧s≤1048576):aG Tryz.prog 146 #[.int .i64 s] [] (fun v L=>v=.int .i64 (s / 8*7)∧L= []):=by
 refine aq Gq Tryz.func146 rfl rfl rfl fun Fr w0=>aR ?_
 refine sr<|asg rfl rfl<|lz<|mv rfl rfl<|l_q rfl (gI rfl rfl) ?_
 refine l_q rfl (dF rfl rfl) ?_
 exact asg rfl rfl<|lc<|rt<|fr1 rfl ([]) (.tmp rfl) ⟨rfl,rfl⟩
section
variable (pr:Nat) (l:Lay) (x:PR) (hn:x.n≤8192) (hr:jX x.n x.T)
include hn hr
end
theorem zt {b o:Nat} {cs:Array Value} {t:TypeId} {r:Nat×Nat} {v:Value} (hv:cs[o]?=some v):ct (pt b (.cells cs t r)) ⟨b,o,none⟩ v:=fun w hs=>by
 have:=mw hs
 simp[World.cell?,this,hv]
theorem yl (b:Nat) (l:Lay) (hl:l.err=0):aG Tryz.prog 25 #[.slice (some ⟨b,0,none⟩) 5 5] [pt b (.cells #[.int .i64 l.key,.int .i64 l.elem,.int .i64 l.ka,.int .i64 l.ea,.int .i64 l.cap] 3 (0,0))] (fun v L=>v=.tuple #[.agg #[.int .i64 l.key,.int .i64 l.elem,.int .i64 l.ka,.int .i64 l.ea,.int .i64 l.cap,.int .i64 l.eo,.int .i64 l.bo,.int .i64 l.slot,.int .i64 l.group],.int .i64 0]∧L= [pt b (.cells #[.int .i64 l.key,.int .i64 l.elem,.int .i64 l.ka,.int .i64 l.ea,.int .i64 l.cap] 3 (0,0))]):=by
 refine aG.mono (Ref03.fiveParse_ok (pt b (.cells #[.int .i64 l.key,.int .i64 l.elem,.int .i64 l.ka,.int .i64 l.ea,.int .i64 l.cap] 3 (0,0))) b 0 5 l fun i x hx=>zt ?_) fun v L h=>?_
 ·rw[Nat.zero_add]
  match i,hx with
  | 0,hx | 1,hx | 2,hx | 3,hx | 4,hx=>cases hx;rfl
  | i+5,hx=>simp at hx
 obtain⟨rfl,rfl⟩:=h
 have ho:∀ x,l.o x=x:=fun x=>if_pos hl
 simp only[ho,hl]
 exact⟨trivial,trivial⟩
theorem H4 {p:Prop} {i:Decidable p} (h:p):decide p=true:=by simp[h]
theorem Valid_ok (l:Lay) (hl:l.err=0):aG Tryz.prog 204 #[.agg #[.int .i64 l.key,.int .i64 l.elem,.int .i64 l.ka,.int .i64 l.ea,.int .i64 l.cap,.int .i64 l.eo,.int .i64 l.bo,.int .i64 l.slot,.int .i64 l.group]] [] (fun v L=>v=.bool true∧L= []):=by
 refine aq FC Tryz.func204 rfl rfl rfl fun Fr w0=>aR ?_
 refine sr<|aP rfl rfl fun b1=>asg rfl rfl<|lz<|l_q rfl (qfa 0 rfl bK rfl rfl yS3)<|l_q rfl (qld rfl yA3) ?_
 refine l_q rfl (qfa 1 rfl bK rfl rfl yS3)<|l_q rfl (qld rfl yA3) ?_
 refine l_q rfl (qfa 2 rfl bK rfl rfl yS3)<|l_q rfl (qld rfl yA3) ?_
 refine l_q rfl (qfa 3 rfl bK rfl rfl yS3)<|l_q rfl (qld rfl yA3) ?_
 refine l_q rfl (qfa 4 rfl bK rfl rfl yS3)<|l_q rfl (qld rfl yA3) ?_
 refine aW [_,_,_,_,_] rfl rfl bn yS3 yZ3 rfl rfl rfl rfl (fun b16=>?_)
 refine lc1 rfl rfl rfl (yl b16 l hl) ?_
 refine mv rfl rfl<|l_q rfl (aa rfl ga) ?_
 refine l_q rfl (aa rfl ga) ?_
 refine az rfl fO fun b3=>sta rfl rfl rfl aX rfl rfl ?_
 refine asg rfl rfl<|lz<|mv rfl rfl<|l_q rfl (qi rfl rfl (aZ ·))<|mv rfl rfl<|bD (t:=22) rfl (fun z1=>?_) fun z1=>?_
 ·refine au rfl rfl<|l_q rfl (aK rfl cu aX) ?_
  refine au rfl rfl<|l_q rfl (aK rfl cu aX) ?_
  refine au rfl rfl<|l_q rfl (fz rfl rfl (l5 · EF) fun w=>g7 w bK ED (by kernel_rfl) (by kernel_rfl)) ?_
  refine l_q rfl (aL rfl rfl)<|asg rfl rfl<|lc<|rt<|fr1 rfl ([]) (.tmp rfl) ?_
  exact⟨by rw[H4 rfl],rfl⟩
 exact absurd rfl z1
theorem vA (l:Lay) (hl:l.err=0) (n e:Nat) (he:e≤13) (hn:n=2 ^ e) (sl:Int) (hsl:sl=8*(n:Int)):aG Tryz.prog 145 #[.agg #[.int .i64 l.key,.int .i64 l.elem,.int .i64 l.ka,.int .i64 l.ea,.int .i64 l.cap,.int .i64 l.eo,.int .i64 l.bo,.int .i64 l.slot,.int .i64 l.group],.int .i64 sl] [] (fun v L=>v=.int .i64 ((n*gN l:Nat):Int)∧L= []):=by
 have hN:=eL hl
 have hbd:=Lay.bnd hl
 have hg:=hN.g
 have h13:2 ^ e≤2 ^ 13:=Nat.pow_le_pow_right (by decide) he
 refine aq Gr Tryz.func145 rfl rfl rfl fun Fr w0=>aR ?_
 refine sr<|aP rfl rfl fun b2=>asg rfl rfl<|lz<|l_q rfl (aK rfl cu aX) ?_
 refine lc1 rfl rfl rfl (Valid_ok l hl) ?_
 refine asg rfl rfl<|lc<|ah<|sr<|mv rfl rfl<|l_q rfl (cX rfl (bY ·))<|lc<|aA rfl (fun z=>?_) fun z=>?_
 ·simp at z
 refine al<|nz<|l_q rfl (qfa 8 rfl bK rfl rfl yS3)<|l_q rfl (qld rfl yA3) ?_
 refine asg rfl rfl<|lc<|ah<|sr<|asg rfl rfl<|lc<|ax ?_
 refine bw (fun j:Nat=>j≤e) (fun j=>[(1,.int .i64 sl),(6,.int .i64 ((gN l*2 ^ j:Nat):Int)),(7,.int .i64 ((8*2 ^ j:Nat):Int))]) (fun _=>Fr) (fun j=>e-j) 0 (Nat.zero_le _) ⟨rfl,congrArg (fun z=>some (Value.int .i64 z)) (by rw[← hg];simp),rfl,trivial⟩ (by(exact en)) ?_
 intro j hj
 have hj13:2 ^ j≤2 ^ e:=Nat.pow_le_pow_right (by decide) hj
 have hgj:gN l*2 ^ j≤gN l*8192:=Nat.mul_le_mul_left _ (by omega)
 have hp1:2 ^ (j+1)=2*2 ^ j:=by rw[Nat.pow_succ];omega
 have hp2:gN l*2 ^ (j+1)=2*(gN l*2 ^ j):=by rw[hp1,Nat.mul_left_comm]
 have hp0:=Nat.two_pow_pos j
 refine ah<|sr<|mv rfl rfl<|l_q rfl (qi rfl rfl (iw ·))<|lc<|aA rfl (fun h1=>?_) fun h1=>?_
 ·refine al<|ak<|ah<|ax<|ah<|sr<|mv rfl rfl<|mv rfl rfl<|l_q rfl (qi rfl rfl (aZ ·))<|lc<|aA rfl (fun h2=>?_) fun h2=>?_
  ·skip
   have hje:n=2 ^ j:=by omega
   refine sr<|mv rfl rfl<|asg rfl rfl<|lc<|rt<|fr1 rfl ([]) (.tmp rfl) ?_
   exact⟨by rw[hje,Nat.mul_comm],rfl⟩
  have hjl:j < e:=by
   rcases Nat.lt_or_ge j e with q | q
   ·exact q
   have:j=e:=by omega
   subst this
   omega
  refine al<|ak<|aB<|mv rfl rfl<|l_q rfl (dF rfl rfl) ?_
  refine asg rfl rfl<|aj<|aV<|ak<|aB<|mv rfl rfl<|l_q rfl (dF rfl rfl) ?_
  refine asg rfl rfl<|aj ?_
  apply aO ((j+1))
  ·exact by omega
  ·omega
  ·exact⟨rfl,congrArg (fun z=>some (Value.int .i64 z)) (by omega),congrArg (fun z=>some (Value.int .i64 z)) (by omega),trivial⟩
  exact en
 omega
theorem AZ (pr:Nat) (s:ArS) (hs:s.ok) (l:Lay) (hl:l.err=0) (slots depth:Int) (hsl:-9223372036854775808≤slots∧slots≤9223372036854775807):
  aG Tryz.prog 58 #[.pointer (some ⟨pr,0,none⟩),.agg #[.int .i64 l.key,.int .i64 l.elem,.int .i64 l.ka,.int .i64 l.ea,.int .i64 l.cap,.int .i64 l.eo,.int .i64 l.bo,.int .i64 l.slot,.int .i64 l.group],.int .i64 slots,.int .i64 depth] [bj pr s] (fun v L=>
   (Probe.powB slots 8 65536=false∧v=.tuple #[.pointer none,.int .i64 80]∧L= [bj pr s])∨
   (Probe.powB slots 8 65536=true∧(depth < 0∨6 < depth)∧v=.tuple #[.pointer none,.int .i64 81]∧L= [bj pr s])∨
   ∃ n e:Nat,n=2 ^ e∧e≤13∧slots=8*(n:Int)∧(0≤depth∧depth≤6)∧
    (((1048576 < ((n*gN l:Nat):Int)∨s.limit-s.live < 64+aC ((n*gN l:Nat):Int))∧v=.tuple #[.pointer none,.int .i64 22]∧L= [bj pr s])∨
    (((n*gN l:Nat):Int)≤1048576∧s.live+(64+aC ((n*gN l:Nat):Int))≤s.limit∧∃ p,v=.tuple #[.pointer (some ⟨p,0,none⟩),.int .i64 0]∧L= [rtH pr l (⟨p,s.at 64,(s.take 64).at (aC ((n*gN l:Nat):Int)),n,e,jJ n depth,false,false⟩:PR),bj pr ((s.take 64).take (aC ((n*gN l:Nat):Int)))]))):=by
 have hN:=eL hl
 have hbd:=Lay.bnd hl
 have hpw:=Probe.powB_iff slots 8 3 16 65536 (by decide) (by decide) (by decide)
 refine aq HB Tryz.func58 rfl rfl rfl fun Fr w0=>aR ?_
 refine sr<|aP rfl rfl fun b5=>asg rfl rfl<|asg rfl rfl<|lz<|asg rfl rfl<|lc<|ah<|sr<|asg rfl rfl<|lc<|ax ?_
 refine bw (fun j:Nat=>j≤14) (fun j=>[(0,.pointer (some ⟨pr,0,none⟩)),(2,.int .i64 slots),(3,.int .i64 depth),(5,.pointer (some ⟨b5,0,none⟩)),(10,.bool (decide (∃ i,i < j∧slots=8*((2 ^ i:Nat):Int)))),(11,.int .i64 ((8*2 ^ j:Nat):Int))]) (fun _=>pt b5 (.cells #[.int .i64 l.key,.int .i64 l.elem,.int .i64 l.ka,.int .i64 l.ea,.int .i64 l.cap,.int .i64 l.eo,.int .i64 l.bo,.int .i64 l.slot,.int .i64 l.group] 34 (0,0))::bj pr s::Fr) (fun j=>14-j) 0 (Nat.zero_le _) ⟨rfl,rfl,rfl,rfl,congrArg (fun z=>some (Value.bool z)) (by simp),rfl,trivial⟩ (by(exact en)) ?_
 intro j hj
 have hj13:2 ^ j≤2 ^ 14:=Nat.pow_le_pow_right (by decide) hj
 have hp1:2 ^ (j+1)=2*2 ^ j:=by rw[Nat.pow_succ];omega
 have hp0:=Nat.two_pow_pos j
 refine ah<|sr<|mv rfl rfl<|l_q rfl (qi rfl rfl (iw ·))<|lc<|aA rfl (fun h1=>?_) fun h1=>?_
 ·skip
  have hjl:j < 14:=by
   rcases Nat.lt_or_ge j 14 with q | q
   ·exact q
   have:j=14:=by omega
   subst this
   omega
  refine al<|ak<|ah<|ax<|sr<|mv rfl rfl<|mv rfl rfl<|l_q rfl (qi rfl rfl (aZ ·))<|lc<|aA rfl (fun h2=>?_) fun h2=>?_
  ·skip
   have he:decide (∃ i,i < j+1∧slots=8*((2 ^ i:Nat):Int))=true:=decide_eq_true ⟨j,by omega,by omega⟩
   refine aB<|asg rfl rfl<|aj<|aV<|ak<|aB<|mv rfl rfl<|l_q rfl (dF rfl rfl) ?_
   refine asg rfl rfl<|aj ?_
   apply aO ((j+1))
   ·exact by omega
   ·omega
   ·exact⟨rfl,rfl,rfl,rfl,congrArg (fun z=>some (Value.bool z)) he.symm,congrArg (fun z=>some (Value.int .i64 z)) (by omega),trivial⟩
   exact en
  have he:decide (∃ i,i < j+1∧slots=8*((2 ^ i:Nat):Int))=decide (∃ i,i < j∧slots=8*((2 ^ i:Nat):Int)):=by
   refine decide_eq_decide.2 ⟨fun⟨i,h1,h2⟩=>?_,fun⟨i,h1,h2⟩=>⟨i,by omega,h2⟩⟩
   rcases Nat.lt_or_ge i j with q | q
   ·exact⟨i,q,h2⟩
   obtain rfl:i=j:=by omega
   omega
  refine al<|aV<|ak<|aB<|mv rfl rfl<|l_q rfl (dF rfl rfl) ?_
  refine asg rfl rfl<|aj ?_
  apply aO ((j+1))
  ·exact by omega
  ·omega
  ·exact⟨rfl,rfl,rfl,rfl,congrArg (fun z=>some (Value.bool z)) he.symm,congrArg (fun z=>some (Value.int .i64 z)) (by omega),trivial⟩
  exact en
 have hj14:j=14:=by
  rcases Nat.lt_or_ge j 14 with q | q
  ·have:2 ^ j≤2 ^ 13:=Nat.pow_le_pow_right (by decide) (by omega)
   omega
  omega
 subst hj14
 have hpd:decide (∃ i,i < 14∧slots=8*((2 ^ i:Nat):Int))=Probe.powB slots 8 65536:=by
  cases hb:Probe.powB slots 8 65536 with
  | true=>
   obtain⟨k,k1,k2,k3⟩:=hpw.1 hb
   refine decide_eq_true ⟨k-3,by omega,?_⟩
   have hc:=bX (k-3)
   have h3:(2:Int) ^ k=2 ^ (k-3)*2 ^ 3:=by rw[← Int.pow_add];congr 1;omega
   omega
  | false=>
   refine decide_eq_false fun⟨i,h1,h2⟩=>?_
   have:=hpw.2 ⟨i+3,by omega,by omega,by have hc:=bX i;rw[Int.pow_add];omega⟩
   exact absurd (hb.symm.trans this) (by decide)
 rw[hpd]
 refine xt rfl<|ak<|ah<|sr<|mv rfl rfl<|l_q rfl (cX rfl (bY ·))<|lc<|aA rfl (fun z1=>?_) fun z1=>?_
 ·skip
  have hz:Probe.powB slots 8 65536=false:=by simpa using z1
  exact sr<|asg rfl rfl<|asg rfl rfl<|lc<|rt<|fr2 rfl ([bj pr s]) (.tmp rfl) (.tmp rfl) (.inl ⟨hz,rfl,rfl⟩)
 have hz:Probe.powB slots 8 65536=true:=by simpa using z1
 refine al<|ak<|ah<|sr<|mv rfl rfl<|l_q rfl (qi rfl rfl (aU ·))<|mv rfl rfl<|bD (t:=25) rfl (fun d1=>?_) fun d1=>?_
 ·exact ar rfl rfl rfl rfl<|ar rfl rfl rfl rfl<|l_q rfl (aL rfl rfl)<|lc<|aY rfl<|sr<|asg rfl rfl<|asg rfl rfl<|lc<|rt<|fr2 rfl ([bj pr s]) (.tmp rfl) (.tmp rfl) (.inr (.inl ⟨hz,.inl d1,rfl,rfl⟩))
 refine au rfl rfl<|mv rfl rfl<|au rfl rfl<|l_q rfl (qi rfl rfl (cU ·))<|l_q rfl (aL rfl rfl)<|lc<|aA rfl (fun d2=>?_) fun d2=>?_
 ·exact sr<|asg rfl rfl<|asg rfl rfl<|lc<|rt<|fr2 rfl ([bj pr s]) (.tmp rfl) (.tmp rfl) (.inr (.inl ⟨hz,.inr d2,rfl,rfl⟩))
 obtain⟨k,k1,k2,k3⟩:=hpw.1 hz
 obtain⟨e,rfl⟩:∃ e,k=e+3:=⟨k-3,by omega⟩
 obtain⟨n,hn⟩:∃ n,n=2 ^ e:=⟨_,rfl⟩
 have hc:=bX e
 rw[← hn] at hc
 have hsn:slots=8*(n:Int):=by rw[k3,Int.pow_add];omega
 subst hsn
 have hn0:0 < n:=by rw[hn];exact Nat.two_pow_pos e
 have hn8:n≤8192:=by rw[hn];exact(Nat.pow_le_pow_right (by decide:0 < 2) (by omega):2 ^ e≤2 ^ 13)
 have hng:1≤n*gN l:=by have:=hN.g_eq;have:=Nat.mul_le_mul_right (gN l) hn0;omega
 refine al<|nz<|mv rfl rfl<|l_q rfl (aK rfl cu aX) ?_
 refine mv rfl rfl<|lc1 rfl rfl rfl (vA l hl n e (by omega) hn _ rfl) ?_
 refine aW [_,_] rfl rfl bn yS3 yZ3 rfl rfl rfl rfl (fun b34=>?_)
 refine lcf rfl rfl rfl (vB pr s hs b34 64 ((n*gN l:Nat):Int) (by decide) (by omega)) ?_
 rintro v L' (⟨hb,rfl,rfl⟩ | ⟨_,hsm,hfit,vo,rfl,rfl⟩)
 refine bF ?_
 ·skip
  refine mv rfl rfl<|l_q rfl (aa rfl ga) ?_
  refine l_q rfl (aa rfl ga) ?_
  refine asg rfl rfl<|asg rfl rfl<|lc<|ah<|sr<|mv rfl rfl<|l_q rfl (qi rfl rfl (aI ·))<|lc<|aA rfl (fun y=>?_) fun y=>?_
  ·refine sr<|mv rfl rfl<|asg rfl rfl<|asg rfl rfl<|lc<|rt<|fr2 rfl ([bj pr s]) (.tmp rfl) (.tmp rfl) ?_
   exact .inr (.inr ⟨n,e,hn,by omega,rfl,by omega,.inl ⟨by rw[mM] at hb;omega,rfl,rfl⟩⟩)
  exact absurd y (by decide)
 rw[mM] at hfit ⊢
 refine zU fun M hM=>?_
 simp only[List.cons_append,List.nil_append] at hM
 subst M
 refine db .here fun _ hvo=>?_
 obtain⟨ao,co,rfl,hao,_,_⟩:=hvo
 obtain⟨go0,rfl⟩:=hao (by decide)
 refine mv rfl rfl<|l_q rfl (aa rfl ga) ?_
 refine l_q rfl (aa rfl ga) ?_
 refine asg rfl rfl<|asg rfl rfl<|lc<|ah<|sr<|mv rfl rfl<|l_q rfl (qi rfl rfl (aI ·))<|lc<|aA rfl (fun y=>?_) fun y=>?_
 ·exact absurd rfl y
 have hmade:(madeCells (#[.int .i64 0,.int .i64 0,.string ⟨#[]⟩,.string ⟨#[]⟩,.int .i64 0]) ((8*(n:Int)).toNat*5)).toList=rowOf bH (bu (jJ n depth).cells (8*n)):=by
  refine(qA (n:=(8*(n:Int)).toNat) Cell.empty #[.int .i64 0,.int .i64 0,.string ⟨#[]⟩,.string ⟨#[]⟩,.int .i64 0] rfl kJ (by decide)).trans ?_
  rw[show(8*(n:Int)).toNat=8*n by omega]
  congr 1
  refine List.ext_getElem? fun i=>?_
  by_cases h:i < 8*n
  ·rw[fq h];simp[h];rfl
  rw[List.getElem?_eq_none (by simp;omega),List.getElem?_eq_none (by rw[fp];omega)]
 refine al<|ak<|ah<|aS mixed ?_
 apply dq 0 rfl
 ·exact yq (ai rfl)
 apply dq 1 rfl
 ·exact yq (aK rfl cu aX)
 apply dq 2 rfl
 ·exact yq (ai rfl)
 apply dq 3 rfl
 ·apply yq
  first | exact aM 0 rfl rfl bn yS3 (by omega) | exact ay rfl rfl bn yS3 (by omega)
 apply dq 4 rfl
 ·apply yq
  apply bf rfl yA3
  ·exact tk
  exact rfl
 apply dq 5 rfl
 ·exact yq (ai rfl)
 apply dq 6 rfl
 ·apply yq
  first | exact aM 1 rfl rfl bn yS3 (by omega) | exact ay rfl rfl bn yS3 (by omega)
 apply dq 7 rfl
 ·apply yq
  apply bf rfl yA3
  ·exact tk
  exact rfl
 apply dq 8 rfl
 ·exact yq (ai rfl)
 apply dq 10 rfl
 ·exact yq (ai rfl)
 apply dq 11 rfl
 ·exact yq (ai rfl)
 apply iW 9 12
 ·kernel_rfl
 ·apply fj (q1:=[8]) (q2:=[11,10,7,6,5,4,3,2,1,0]) [(49,_)]
  ·exact gO
  ·exact⟨rfl,trivial⟩
  ·kernel_rfl
  intro Ex
  refine lc1 rfl rfl rfl (q8 _ (by omega)) ?_
  refine aj ?_
  apply n_d
  ·refine⟨?_,?_,?_,?_,?_,?_,?_,?_,?_,?_,trivial⟩
   ·apply ya rfl rfl;exact yq (ai rfl)
   ·apply ya rfl rfl;exact yq (ai rfl)
   ·apply ya rfl rfl
    apply yq
    apply bf rfl yA3
    ·exact tk
    exact rfl
   ·apply ya rfl rfl
    apply yq
    first | exact aM 1 rfl rfl bn yS3 (by omega) | exact ay rfl rfl bn yS3 (by omega)
   ·apply ya rfl rfl;exact yq (ai rfl)
   ·apply ya rfl rfl
    apply yq
    apply bf rfl yA3
    ·exact tk
    exact rfl
   ·apply ya rfl rfl
    apply yq
    first | exact aM 0 rfl rfl bn yS3 (by omega) | exact ay rfl rfl bn yS3 (by omega)
   ·apply ya rfl rfl;exact yq (ai rfl)
   ·apply ya rfl rfl;exact yq (aK rfl cu aX)
   apply ya rfl rfl;exact yq (ai rfl)
  refine an [11] [10,7,6,5,4,3,2,1,0] 12 [(52,_)] gO ⟨rfl,trivial⟩ (by kernel_rfl) (by kernel_rfl) fun Ex=>?_
  refine jI (sz:=5) (rowOf bH (bu (jJ n depth).cells (8*n))) rfl rfl rfl Tryz.underlying43 yC (by omega) (by omega) hmade fun b53=>?_
  refine aj ?_
  apply n_d
  ·refine⟨?_,?_,?_,?_,?_,?_,?_,?_,?_,trivial⟩
   ·apply ya rfl rfl;exact yq (ai rfl)
   ·apply ya rfl rfl
    apply yq
    apply bf rfl yA3
    ·exact tk
    exact rfl
   ·apply ya rfl rfl
    apply yq
    first | exact aM 1 rfl rfl bn yS3 (by omega) | exact ay rfl rfl bn yS3 (by omega)
   ·apply ya rfl rfl;exact yq (ai rfl)
   ·apply ya rfl rfl
    apply yq
    apply bf rfl yA3
    ·exact tk
    exact rfl
   ·apply ya rfl rfl
    apply yq
    first | exact aM 0 rfl rfl bn yS3 (by omega) | exact ay rfl rfl bn yS3 (by omega)
   ·apply ya rfl rfl;exact yq (ai rfl)
   ·apply ya rfl rfl;exact yq (aK rfl cu aX)
   apply ya rfl rfl;exact yq (ai rfl)
  apply dq 13 rfl
  ·apply yq
   apply aQ rfl Ep Eb
   apply aF.one
   ·repeat (first | exact aH.here | apply aH.there)
   ·rfl
   ·exact sa
   apply aF.all
   ·repeat (first | exact aH.here | apply aH.there)
   ·rfl
   ·simp
   ·exact sal
   apply aF.one
   ·repeat (first | exact aH.here | apply aH.there)
   ·rfl
   ·exact sa
   apply aF.one
   ·repeat (first | exact aH.here | apply aH.there)
   ·rfl
   ·exact sa
   apply aF.one
   ·repeat (first | exact aH.here | apply aH.there)
   ·rfl
   ·exact sa
   apply aF.one
   ·repeat (first | exact aH.here | apply aH.there)
   ·rfl
   ·exact sa
   apply aF.one
   ·repeat (first | exact aH.here | apply aH.there)
   ·rfl
   ·exact sa
   exact aF.nil
  refine an [13,0,1,4,7,10,3,6,2,5] [] 14 [(54,_)] gO ⟨rfl,trivial⟩ (by kernel_rfl) (by kernel_rfl) fun Ex=>?_
  refine aP rfl rfl fun b55=>aj ?_
  apply n_d
  ·exact trivial
  refine an [] [] 15 [(55,_)] gO ⟨rfl,trivial⟩ (by kernel_rfl) (by kernel_rfl) fun Ex=>?_
  refine asg rfl rfl<|aj ?_
  apply n_d
  ·exact trivial
  refine an [] [] 16 [] gO trivial (by kernel_rfl) (by kernel_rfl) fun Ex=>?_
  refine asg rfl rfl<|aj ?_
  apply n_d
  ·exact trivial
  refine bd (by kernel_rfl) ?_
  refine ak<|rt ?_
  apply aJ (.inl rfl) ([rtH pr l (⟨b55,s.at 64,(s.take 64).at (aC ((n*gN l:Nat):Int)),n,e,jJ n depth,false,false⟩:PR),bj pr ((s.take 64).take (aC ((n*gN l:Nat):Int)))])
  ·apply bS rfl
   ·exact .tmp rfl
   exact .tmp rfl
  ·exact .inr (.inr ⟨n,e,hn,by omega,rfl,by omega,.inr ⟨hsm,by omega,_,rfl,rfl⟩⟩)
  rw[show(8*(n:Int)).toNat=8*n by omega,show 8*(n:Int) / 8*7=7*(n:Int) by omega];refine cS (x:=(⟨b55,s.at 64,(s.take 64).at (aC ((n*gN l:Nat):Int)),n,e,jJ n depth,false,false⟩:PR)) (.slice (some ⟨b53,0,none⟩) (8*n) (8*n)) ?_;show Ent _ (pt b55 (.cells #[.pointer (some ⟨pr,0,none⟩),.int .i64 l.key,.int .i64 l.elem,.int .i64 l.ka,.int .i64 l.ea,.int .i64 l.cap,.int .i64 l.eo,.int .i64 l.bo,.int .i64 l.slot,.int .i64 l.group,.int .i64 (s.at 64:Nat),.int .i64 ((s.take 64).at (aC ((n*gN l:Nat):Int)):Nat),.int .i64 0,.int .i64 (7*(n:Int)),.int .i64 depth,.int .i64 0,.int .i64 0,.bool false,.bool false,.slice (some ⟨b53,0,none⟩) (8*n) (8*n)] 45 (0,0))::aE 142 5 (.slice (some ⟨b53,0,none⟩) (8*n) (8*n)) (8*n) (rowOf bH (bu (jJ n depth).cells (8*n)))::_);(exact en)
 apply fj (q1:=[11]) (q2:=[10,8,7,6,5,4,3,2,1,0]) [(52,_)]
 ·exact gO
 ·exact⟨rfl,trivial⟩
 ·kernel_rfl
 intro Ex
 refine jI (sz:=5) (rowOf bH (bu (jJ n depth).cells (8*n))) rfl rfl rfl Tryz.underlying43 yC (by omega) (by omega) hmade fun b53=>?_
 refine aj ?_
 apply n_d
 ·refine⟨?_,?_,?_,?_,?_,?_,?_,?_,?_,?_,trivial⟩
  ·apply ya rfl rfl;exact yq (ai rfl)
  ·apply ya rfl rfl;exact yq (ai rfl)
  ·apply ya rfl rfl
   apply yq
   apply bf rfl yA3
   ·exact tk
   exact rfl
  ·apply ya rfl rfl
   apply yq
   first | exact aM 1 rfl rfl bn yS3 (by omega) | exact ay rfl rfl bn yS3 (by omega)
  ·apply ya rfl rfl;exact yq (ai rfl)
  ·apply ya rfl rfl
   apply yq
   apply bf rfl yA3
   ·exact tk
   exact rfl
  ·apply ya rfl rfl
   apply yq
   first | exact aM 0 rfl rfl bn yS3 (by omega) | exact ay rfl rfl bn yS3 (by omega)
  ·apply ya rfl rfl;exact yq (ai rfl)
  ·apply ya rfl rfl;exact yq (aK rfl cu aX)
  apply ya rfl rfl;exact yq (ai rfl)
 refine an [8] [10,7,6,5,4,3,2,1,0] 9 [(49,_)] gO ⟨rfl,trivial⟩ (by kernel_rfl) (by kernel_rfl) fun Ex=>?_
 refine lc1 rfl rfl rfl (q8 _ (by omega)) ?_
 refine aj ?_
 apply n_d
 ·refine⟨?_,?_,?_,?_,?_,?_,?_,?_,?_,trivial⟩
  ·apply ya rfl rfl;exact yq (ai rfl)
  ·apply ya rfl rfl
   apply yq
   apply bf rfl yA3
   ·exact tk
   exact rfl
  ·apply ya rfl rfl
   apply yq
   first | exact aM 1 rfl rfl bn yS3 (by omega) | exact ay rfl rfl bn yS3 (by omega)
  ·apply ya rfl rfl;exact yq (ai rfl)
  ·apply ya rfl rfl
   apply yq
   apply bf rfl yA3
   ·exact tk
   exact rfl
  ·apply ya rfl rfl
   apply yq
   first | exact aM 0 rfl rfl bn yS3 (by omega) | exact ay rfl rfl bn yS3 (by omega)
  ·apply ya rfl rfl;exact yq (ai rfl)
  ·apply ya rfl rfl;exact yq (aK rfl cu aX)
  apply ya rfl rfl;exact yq (ai rfl)
 apply dq 13 rfl
 ·apply yq
  apply aQ rfl Ep Eb
  apply aF.one
  ·repeat (first | exact aH.here | apply aH.there)
  ·rfl
  ·exact sa
  apply aF.all
  ·repeat (first | exact aH.here | apply aH.there)
  ·rfl
  ·simp
  ·exact sal
  apply aF.one
  ·repeat (first | exact aH.here | apply aH.there)
  ·rfl
  ·exact sa
  apply aF.one
  ·repeat (first | exact aH.here | apply aH.there)
  ·rfl
  ·exact sa
  apply aF.one
  ·repeat (first | exact aH.here | apply aH.there)
  ·rfl
  ·exact sa
  apply aF.one
  ·repeat (first | exact aH.here | apply aH.there)
  ·rfl
  ·exact sa
  apply aF.one
  ·repeat (first | exact aH.here | apply aH.there)
  ·rfl
  ·exact sa
  exact aF.nil
 refine an [13,0,1,4,7,10,3,6,2,5] [] 14 [(54,_)] gO ⟨rfl,trivial⟩ (by kernel_rfl) (by kernel_rfl) fun Ex=>?_
 refine aP rfl rfl fun b55=>aj ?_
 apply n_d
 ·exact trivial
 refine an [] [] 15 [(55,_)] gO ⟨rfl,trivial⟩ (by kernel_rfl) (by kernel_rfl) fun Ex=>?_
 refine asg rfl rfl<|aj ?_
 apply n_d
 ·exact trivial
 refine an [] [] 16 [] gO trivial (by kernel_rfl) (by kernel_rfl) fun Ex=>?_
 refine asg rfl rfl<|aj ?_
 apply n_d
 ·exact trivial
 refine bd (by kernel_rfl) ?_
 refine ak<|rt ?_
 apply aJ (.inl rfl) ([rtH pr l (⟨b55,s.at 64,(s.take 64).at (aC ((n*gN l:Nat):Int)),n,e,jJ n depth,false,false⟩:PR),bj pr ((s.take 64).take (aC ((n*gN l:Nat):Int)))])
 ·apply bS rfl
  ·exact .tmp rfl
  exact .tmp rfl
 ·exact .inr (.inr ⟨n,e,hn,by omega,rfl,by omega,.inr ⟨hsm,by omega,_,rfl,rfl⟩⟩)
 rw[show(8*(n:Int)).toNat=8*n by omega,show 8*(n:Int) / 8*7=7*(n:Int) by omega];refine cS (x:=(⟨b55,s.at 64,(s.take 64).at (aC ((n*gN l:Nat):Int)),n,e,jJ n depth,false,false⟩:PR)) (.slice (some ⟨b53,0,none⟩) (8*n) (8*n)) ?_;show Ent _ (pt b55 (.cells #[.pointer (some ⟨pr,0,none⟩),.int .i64 l.key,.int .i64 l.elem,.int .i64 l.ka,.int .i64 l.ea,.int .i64 l.cap,.int .i64 l.eo,.int .i64 l.bo,.int .i64 l.slot,.int .i64 l.group,.int .i64 (s.at 64:Nat),.int .i64 ((s.take 64).at (aC ((n*gN l:Nat):Int)):Nat),.int .i64 0,.int .i64 (7*(n:Int)),.int .i64 depth,.int .i64 0,.int .i64 0,.bool false,.bool false,.slice (some ⟨b53,0,none⟩) (8*n) (8*n)] 45 (0,0))::aE 142 5 (.slice (some ⟨b53,0,none⟩) (8*n) (8*n)) (8*n) (rowOf bH (bu (jJ n depth).cells (8*n)))::_);(exact en)
end RefT
end
section
set_option maxRecDepth 100000
namespace Arena
open Go.RowKit Go.Proofs Eng Ty Bits Mem Search
end Arena
end
section
set_option maxRecDepth 100000
namespace Exact
open Go.RowKit Go.Proofs Eng Ty Bits Mem Search Arena CtrlB Ctrl Layout GroupB Group Probe TableB TableI Table Bench Cells Refill RefA RefT Ref03
structure Op8 where
 kind:Int
 t:Int
 n:Int
 m:Int
 h:Int
 k:ByteArray
 e:ByteArray
structure Op8.wf (o:Op8):Prop where
 kind:-9223372036854775808≤o.kind∧o.kind≤9223372036854775807
 t:-9223372036854775808≤o.t∧o.t≤9223372036854775807
 n:-9223372036854775808≤o.n∧o.n≤9223372036854775807
 m:-9223372036854775808≤o.m∧o.m≤9223372036854775807
 h:0≤o.h∧o.h < 18446744073709551616
inductive Chg (s:ArS) (l:Lay) (x:PR):ArS→PR→Prop
 | step (s':ArS) (T':Tb):Step s s' l x T'→Chg s l x s' {x with T:=T'}
 | free:x.dead=false→Chg s l x (s.gives [((x.off:Nat):Int),((x.go:Nat):Int)]) {x with dead:=true}
section
variable (G:HP) (hG:dz G) (pa pr:Nat) (s:ArS) (hs:s.ok) (l:Lay) (hl:l.err=0) (x:PR) (hO:One s l x) (hov:x.over=false)
include hG hs hl hO hov
end
end Exact
end
section
set_option maxRecDepth 100000
namespace Exact
open Go.RowKit Go.Proofs Eng Ty Bits Mem Search Arena CtrlB Ctrl Layout GroupB Group Probe TableB TableI Table Bench Cells Refill RefA RefT Ref03
theorem ofDec {p:Prop} {i:Decidable p} (h:decide p=true):p:=of_decide_eq_true h
section
variable (pa pr:Nat) (s:ArS) (hs:s.ok) (l:Lay) (hl:l.err=0) (x:PR) (hO:One s l x) (hov:x.over=false)
include hs hl hO hov
end
end Exact
end
section
namespace Eng
open Go.RowKit
structure Ie (P:Program) (f:FuncId) (args:Array Value) (D:List HP) (Post:List HP→Prop):Prop where
 enters:∀ args w,(callFunc f args).run P w=.ok (.enter f args) w
 calls:∀(Fr:List HP) (w0 w:World),Sat (stars (D ++ Fr)) w→Ext w0 w→
  CallsDIn (FW none) 0 P f args .returning w fun e u' w'=>u'=.returning∧∃ v L',e=.returned v∧Post L'∧Sat (stars (L' ++ Fr)) w'∧Ext w0 w'
section
variable {c:Cx} {fin:Exit→Act→World→Prop} {ds:List Deferred} {E:Env} {L:List HP} {ks:List KI} {ops:Array Oper} {rest:List Oper}
end
section
variable {c:Cx} {fin:Exit→Act→World→Prop} {ds:List Deferred} {E:Env} {L:List HP} {ks:List KI}
def GW (c:Cx) (ds:List Deferred) {X:Type} (p:X→Prop) (EE:X→Env) (LL:X→List HP):Act→World→Prop:=fun a w=>∃ x,p x∧St c ds (EE x) (LL x) a w
theorem qf {X:Type} {p:X→Prop} {EE:X→Env} {LL:X→List HP} {x:Code} (h1:TC c fin ds E L x (.lp (GW c ds p EE LL)::ks)) (h2:∀ y,p y→TN c fin ds (EE y) (LL y) .normal ks):TC c fin ds E L x ks:=fun a w hs=>by
 refine wpIn_mono (h1 a w hs) ?_
 intro e a' w' hq
 cases e with
 | normal=>obtain⟨y,hp,hst⟩:=hq;exact h2 y hp a' w' hst
 | _=>exact hq
theorem ej {X:Type} {p:X→Prop} {EE:X→Env} {LL:X→List HP} (x:X) (hp:p x) (he:pq (EE x) E) (hl:Ent L (LL x)):TN c fin ds E L .normal (.lp (GW c ds p EE LL)::ks):=fun a w hs=>⟨x,hp,hs.weaken he hl⟩
end
section
variable {c:Cx} {ds:List Deferred} {E:Env} {L:List HP} {d:Option Tmp} {ty:TypeId} {pos:String} {af:Array Edge} {gd:Option (Nat×Bool)}
end
end Eng
end
section
set_option maxRecDepth 100000
namespace Exact
open Go.RowKit Go.Proofs Eng Ty Bits Mem Search Arena CtrlB Ctrl Layout GroupB Group Probe TableB TableI Table Bench Cells Refill RefA RefT Ref03
theorem pn (pa:Nat) (l:Lay) (off:Int):aG Tryz.prog 72 #[.agg #[.pointer (some ⟨pa,0,none⟩),.int .i64 l.key,.int .i64 l.elem,.int .i64 l.ka,.int .i64 l.ea,.int .i64 l.cap,.int .i64 l.eo,.int .i64 l.bo,.int .i64 l.slot,.int .i64 l.group,.int .i64 off]] [] (fun v L=>v=.int .i64 off∧L= []):=by
 refine aq Hu Tryz.func72 rfl rfl rfl fun Fr w0=>aR ?_
 refine sr<|aP rfl rfl fun b1=>asg rfl rfl<|lz<|l_q rfl (qfa 10 rfl pG rfl rfl yS3)<|l_q rfl (qld rfl yA3) ?_
 exact asg rfl rfl<|lc<|rt<|fr1 rfl ([]) (.tmp rfl) ⟨rfl,rfl⟩
section
variable (G:HP) (hG:dz G) (pb pa pr:Nat) (s:ArS) (hs:s.ok) (l:Lay) (hl:l.err=0) (x:PR) (hO:One s l x) (hov:x.over=false) (vP:Value)
include hG hs hl hO hov
end
end Exact
end
end Go.Proofs.YthkajgkagnenbaaGreatDoor
