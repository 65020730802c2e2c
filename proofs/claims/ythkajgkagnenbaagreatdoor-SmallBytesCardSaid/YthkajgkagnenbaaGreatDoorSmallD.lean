import Derived.Test.YthkajgkagnenbaaGreatDoorBytesP
set_option linter.unusedVariables false
set_option linter.unusedSimpArgs false
set_option linter.unusedSectionVars false
set_option maxRecDepth 100000
namespace Go.Proofs.YthkajgkagnenbaaGreatDoor
namespace Small
open Go.RowKit Go.Proofs Eng Ty Bits Mem Search Arena CtrlB Ctrl Layout GroupB Group TableB Table
theorem zb {S:Sm} {S':Sm} {k:Nat} (h0:k=0∨S'.kind=S.kind) (h1:k=1∨S'.pins=S.pins) (h2:k=2∨S'.next=S.next) (h3:k=3∨S'.used=S.used):∀ j,j < 4→j≠k→smV S' j=smV S j:=fun j hj hne=>by
 have:j=0∨j=1∨j=2∨j=3:=by omega
 rcases this with rfl | rfl | rfl | rfl
 ·exact h0.resolve_left (fun e=>hne e.symm)
 ·exact h1.resolve_left (fun e=>hne e.symm)
 ·exact h2.resolve_left (fun e=>hne e.symm)
 exact h3.resolve_left (fun e=>hne e.symm)
section
variable (pa off:Nat) (s:ArS) (l:Lay) (S:Sm) (hP:SmP s off l S)
include hP
theorem nJ (next:Int) (hb:-9223372036854775808≤next∧next≤9223372036854775807):aG Tryz.prog 113 #[.agg #[.pointer (some ⟨pa,0,none⟩),.int .i64 l.key,.int .i64 l.elem,.int .i64 l.ka,.int .i64 l.ea,.int .i64 l.cap,.int .i64 l.eo,.int .i64 l.bo,.int .i64 l.slot,.int .i64 l.group,.int .i64 (off:Nat)],.int .i64 next] [ae pa s]
  (fun v L=>∃ s',v=.int .i64 0∧L= [ae pa s']∧SmP s' off l {S with next:=next}∧dZ s s' off (32+gN l)):=by
 have hbd:=Lay.bnd hP.hl
 have hw:=hP.word (S':={S with next:=next}) (k:=2) (by decide) hb rfl (zb (.inr rfl) (.inr rfl) (.inl rfl) (.inr rfl)) rfl
 refine aq Dc Tryz.func113 rfl rfl rfl fun Fr w0=>aR ?_
 refine sr<|aP rfl rfl fun b2=>asg rfl rfl<|lc<|ah<|sr<|l_q rfl (aK rfl cd bM) ?_
 refine lc1 rfl rfl rfl (fm pa off s l S hP) ?_
 refine mv rfl rfl<|l_q rfl (aa rfl ga) ?_
 refine l_q rfl (aa rfl ga) ?_
 refine az rfl cE fun b5=>sta rfl rfl rfl bP rfl rfl ?_
 refine asg rfl rfl<|lz<|mv rfl rfl<|l_q rfl (qi rfl rfl (aI ·))<|lc<|aA rfl (fun z=>?_) fun z=>?_
 ·exact absurd rfl z
 refine al<|nz<|l_q rfl (aK rfl cd bM) ?_
 refine mv rfl rfl<|lcf rfl rfl rfl (kR pa off s l hP.gh (by omega) 2 16 next rfl (by decide)) ?_
 rintro v L' rfl
 refine bF ?_
 refine lz<|asg rfl rfl<|lc<|rt<|fr1 rfl ([ae pa (s.put (off+8*2) 8 (bG (IntKind.u64.wrap next)))]) (.tmp rfl) ?_
 exact⟨_,rfl,rfl,hw,dZ.put (by omega) (by omega)⟩
theorem vq (next:Int) (hb:-9223372036854775808≤next∧next≤9223372036854775807):aG Tryz.prog 111 #[.agg #[.pointer (some ⟨pa,0,none⟩),.int .i64 l.key,.int .i64 l.elem,.int .i64 l.ka,.int .i64 l.ea,.int .i64 l.cap,.int .i64 l.eo,.int .i64 l.bo,.int .i64 l.slot,.int .i64 l.group,.int .i64 (off:Nat)],.int .i64 next] [ae pa s]
  (fun v L=>∃ s',v=.int .i64 0∧L= [ae pa s']∧SmP s' off l {S with next:=next,kind:=3}∧dZ s s' off (32+gN l)):=by
 have hbd:=Lay.bnd hP.hl
 refine aq Dd Tryz.func111 rfl rfl rfl fun Fr w0=>aR ?_
 refine sr<|aP rfl rfl fun b2=>asg rfl rfl<|lc<|ah<|sr<|l_q rfl (aK rfl cd bM) ?_
 refine mv rfl rfl<|lcf rfl rfl rfl (nJ pa off s l S hP next hb) ?_
 rintro v L' ⟨s1,rfl,rfl,hP1,hS1⟩
 refine bF ?_
 refine asg rfl rfl<|lz<|mv rfl rfl<|l_q rfl (qi rfl rfl (aI ·))<|lc<|aA rfl (fun z=>?_) fun z=>?_
 ·exact absurd rfl z
 refine al<|nz<|l_q rfl (aK rfl cd bM) ?_
 have hw:=hP1.word (S':={S with next:=next,kind:=3}) (k:=0) (v:=3) (by decide) (by omega) rfl (zb (.inl rfl) (.inr rfl) (.inr rfl) (.inr rfl)) rfl
 refine lcf rfl rfl rfl (kR pa off s1 l hP1.gh (by omega) 0 0 3 rfl (by decide)) ?_
 rintro v L' rfl
 refine bF ?_
 refine lz<|asg rfl rfl<|lc<|rt<|fr1 rfl ([ae pa (s1.put (off+8*0) 8 (bG (IntKind.u64.wrap 3)))]) (.tmp rfl) ?_
 exact⟨_,rfl,rfl,hw,hS1.trans (dZ.put (by omega) (by omega))⟩
theorem Cv (by_:Int) (hb:-9223372036854775808≤by_∧by_≤9223372036854775807) (hpin:0≤S.pins∧S.pins≤4611686018427387904):aG Tryz.prog 109 #[.agg #[.pointer (some ⟨pa,0,none⟩),.int .i64 l.key,.int .i64 l.elem,.int .i64 l.ka,.int .i64 l.ea,.int .i64 l.cap,.int .i64 l.eo,.int .i64 l.bo,.int .i64 l.slot,.int .i64 l.group,.int .i64 (off:Nat)],.int .i64 by_] [ae pa s]
  (fun v L=>((by_ < -S.pins∨4611686018427387904-S.pins < by_)∧v=.tuple #[.int .i64 0,.int .i64 83]∧L= [ae pa s])∨
   (-S.pins≤by_∧by_≤4611686018427387904-S.pins∧∃ s',v=.tuple #[.int .i64 (S.pins+by_),.int .i64 0]∧L= [ae pa s']∧SmP s' off l {S with pins:=S.pins+by_}∧dZ s s' off (32+gN l))):=by
 have hbd:=Lay.bnd hP.hl
 have hneg:IntKind.i64.wrap (0-S.pins)= -S.pins:=by rw[wrap_i64 (by omega)];omega
 refine aq De Tryz.func109 rfl rfl rfl fun Fr w0=>aR ?_
 refine sr<|aP rfl rfl fun b2=>asg rfl rfl<|asg rfl rfl<|lz<|l_q rfl (aK rfl cd bM) ?_
 refine lc1 rfl rfl rfl (fm pa off s l S hP) ?_
 refine mv rfl rfl<|l_q rfl (aa rfl ga) ?_
 refine l_q rfl (aa rfl ga) ?_
 refine az rfl cE fun b6=>sta rfl rfl rfl bP rfl rfl ?_
 refine asg rfl rfl<|lc<|ah<|sr<|mv rfl rfl<|l_q rfl (qi rfl rfl (aI ·))<|lc<|aA rfl (fun z=>?_) fun z=>?_
 ·exact absurd rfl z
 refine al<|ak<|ah<|sr<|mv rfl rfl<|l_q rfl (qfa 1 rfl nA rfl rfl yS3)<|l_q rfl (qld rfl yA3) ?_
 refine l_q rfl (cX rfl (yS ·))<|l_q rfl (qi rfl rfl (aU ·))<|mv rfl rfl<|bD (t:=21) rfl (fun p1=>?_) fun p1=>?_
 ·refine ar rfl rfl rfl rfl<|ar rfl rfl rfl rfl<|ar rfl rfl rfl rfl<|ar rfl rfl rfl rfl<|ar rfl rfl rfl rfl<|l_q rfl (aL rfl rfl)<|lc<|aY rfl<|sr<|asg rfl rfl<|asg rfl rfl<|lc<|rt ?_
  rw[hneg] at p1
  exact fr2 rfl ([ae pa s]) (.tmp rfl) (.tmp rfl) (.inl ⟨.inl p1,rfl,rfl⟩)
 refine au rfl rfl<|mv rfl rfl<|au rfl rfl<|l_q rfl (qfa 1 rfl nA rfl rfl yS3)<|au rfl rfl<|l_q rfl (qld rfl yA3) ?_
 refine au rfl rfl<|l_q rfl (e9 rfl rfl) ?_
 refine au rfl rfl<|l_q rfl (qi rfl rfl (cU ·))<|l_q rfl (aL rfl rfl)<|lc ?_
 rw[hneg] at p1
 refine aA rfl (fun p2=>?_) fun p2=>?_
 ·exact sr<|asg rfl rfl<|asg rfl rfl<|lc<|rt<|fr2 rfl ([ae pa s]) (.tmp rfl) (.tmp rfl) (.inl ⟨.inr p2,rfl,rfl⟩)
 refine al<|nz<|l_q rfl (aK rfl cd bM) ?_
 refine l_q rfl (qfa 1 rfl nA rfl rfl yS3)<|l_q rfl (qld rfl yA3) ?_
 refine mv rfl rfl<|l_q rfl (ba rfl rfl) ?_
 have hw:=hP.word (S':={S with pins:=S.pins+by_}) (k:=1) (v:=S.pins+by_) (by decide) (by omega) rfl (zb (.inr rfl) (.inl rfl) (.inr rfl) (.inr rfl)) rfl
 refine lcf rfl rfl rfl (kR pa off s l hP.gh (by omega) 1 8 _ rfl (by decide)) ?_
 rintro v L' rfl
 refine bF ?_
 refine lz<|l_q rfl (qfa 1 rfl nA rfl rfl yS3)<|l_q rfl (qld rfl yA3) ?_
 refine mv rfl rfl<|l_q rfl (ba rfl rfl) ?_
 refine asg rfl rfl<|asg rfl rfl<|lc<|rt<|fr2 rfl ([ae pa (s.put (off+8*1) 8 (bG (IntKind.u64.wrap (S.pins+by_))))]) (.tmp rfl) (.tmp rfl) ?_
 exact .inr ⟨by omega,by omega,_,rfl,rfl,hw,dZ.put (by omega) (by omega)⟩
theorem AU (c:Int) (h1:(((off:Nat):Int),c)∈s.bl):aG Tryz.prog 115 #[.agg #[.pointer (some ⟨pa,0,none⟩),.int .i64 l.key,.int .i64 l.elem,.int .i64 l.ka,.int .i64 l.ea,.int .i64 l.cap,.int .i64 l.eo,.int .i64 l.bo,.int .i64 l.slot,.int .i64 l.group,.int .i64 (off:Nat)]] [ae pa s] (fun v L=>v=.int .i64 0∧L= [ae pa (s.gives [((off:Nat):Int)])]):=by
 refine aq Db Tryz.func115 rfl rfl rfl fun Fr w0=>aR ?_
 refine sr<|aP rfl rfl fun b1=>asg rfl rfl<|lc<|ah<|sr<|l_q rfl (aK rfl cd bM) ?_
 refine lc1 rfl rfl rfl (fm pa off s l S hP) ?_
 refine mv rfl rfl<|l_q rfl (aa rfl ga) ?_
 refine l_q rfl (aa rfl ga) ?_
 refine az rfl cE fun b3=>sta rfl rfl rfl bP rfl rfl ?_
 refine asg rfl rfl<|lz<|mv rfl rfl<|l_q rfl (qi rfl rfl (aI ·))<|lc<|aA rfl (fun z=>?_) fun z=>?_
 ·exact absurd rfl z
 refine al<|nz<|l_q rfl (qfa 0 rfl gP rfl rfl dt)<|l_q rfl (qld rfl du) ?_
 refine l_q rfl (qfa 10 rfl gP rfl rfl yS3)<|l_q rfl (qld rfl yA3) ?_
 refine aW [_] rfl rfl bn yS3 yZ3 rfl rfl rfl rfl (fun b17=>?_)
 refine lc1 rfl rfl rfl (Ba pa s b17 ((off:Nat):Int) ⟨_,h1⟩) ?_
 exact asg rfl rfl<|lc<|rt<|fr1 rfl ([ae pa (s.gives [((off:Nat):Int)])]) (.tmp rfl) ⟨rfl,rfl⟩
end
section
variable (pa:Nat) (off:Nat) (s:ArS) (l:Lay) (hg:¬ aN s (off:Nat) 8) (hne:s.all≠[]) (ho:off≤1000000000)
include hg hne ho
theorem fu:aG Tryz.prog 121 #[.agg #[.pointer (some ⟨pa,0,none⟩),.int .i64 l.key,.int .i64 l.elem,.int .i64 l.ka,.int .i64 l.ea,.int .i64 l.cap,.int .i64 l.eo,.int .i64 l.bo,.int .i64 l.slot,.int .i64 l.group,.int .i64 (off:Nat)]] [ae pa s] (fun v L=>v=.tuple #[.agg #[.int .i64 0,.int .i64 0,.int .i64 0,.bool false],.int .i64 24]∧L= [ae pa s]):=by
 refine aq Da Tryz.func121 rfl rfl rfl fun Fr w0=>aR ?_
 refine sr<|aP rfl rfl fun b1=>az rfl cE fun b2=>asg rfl rfl<|lz<|az rfl CJ fun b4=>lc<|ah<|sr<|mv rfl rfl<|lc<|ax ?_
 refine bw (fun k:Nat=>k=0) (fun k=>[(1,.pointer (some ⟨b1,0,none⟩)),(2,.pointer (some ⟨b2,0,none⟩)),(4,.pointer (some ⟨b4,0,none⟩)),(8,.int .i64 k)]) (fun k=>pt b4 (.cells #[.int .i64 0,.int .i64 0,.int .i64 0,.int .i64 0] 258 (0,0))::pt b1 (.cells #[.pointer (some ⟨pa,0,none⟩),.int .i64 l.key,.int .i64 l.elem,.int .i64 l.ka,.int .i64 l.ea,.int .i64 l.cap,.int .i64 l.eo,.int .i64 l.bo,.int .i64 l.slot,.int .i64 l.group,.int .i64 (off:Nat)] 70 (0,0))::pt b2 (.cells #[.int .i64 0,.int .i64 0,.int .i64 0,.bool false] 211 (0,0))::ae pa s::Fr) (fun k=>k) 0 rfl ⟨rfl,rfl,rfl,rfl,trivial⟩ (by(exact en)) ?_
 rintro k rfl
 refine sr<|l_q rfl (qi rfl rfl (aU ·))<|lc<|ah<|aA rfl (fun h=>?_) fun h=>?_
 ·refine al<|ak<|ah<|ax<|sr<|mv rfl rfl<|asg rfl rfl<|lz<|l_q rfl (qfa 0 rfl gP rfl rfl dt)<|l_q rfl (qld rfl du) ?_
  refine l_q rfl (qfa 10 rfl gP rfl rfl yS3)<|l_q rfl (qld rfl yA3) ?_
  refine mv rfl rfl<|l_q rfl (dF rfl rfl) ?_
  refine l_q rfl (ba rfl rfl) ?_
  refine lc1 rfl rfl rfl (Table.Load_dead pa s _ 8 (by unfold wid;omega) (by simpa using hg) hne) ?_
  refine mv rfl rfl<|l_q rfl (aa rfl ga) ?_
  refine l_q rfl (aa rfl ga) ?_
  refine asg rfl rfl<|asg rfl rfl<|lc<|ah<|sr<|mv rfl rfl<|l_q rfl (qi rfl rfl (aI ·))<|lc<|aA rfl (fun z=>?_) fun z=>?_
  ·refine sr ?_
   apply l_q rfl
   ·apply aQ rfl vL cE
    exact aF.nil
   refine mv rfl rfl<|sta rfl rfl rfl bP rfl rfl ?_
   refine asg rfl rfl<|lc<|rt ?_
   apply aJ (.inl rfl) ([ae pa s])
   ·apply bS rfl
    ·apply Rv.agg rfl
     ·exact tk
     exact aD fR bP rfl
    exact .tmp rfl
   ·exact⟨rfl,rfl⟩
   exact en
  exact absurd z (by decide)
 exact absurd h (by decide)
theorem jC (h:Int) (key:ByteArray):aG Tryz.prog 173 #[.agg #[.pointer (some ⟨pa,0,none⟩),.int .i64 l.key,.int .i64 l.elem,.int .i64 l.ka,.int .i64 l.ea,.int .i64 l.cap,.int .i64 l.eo,.int .i64 l.bo,.int .i64 l.slot,.int .i64 l.group,.int .i64 (off:Nat)],.int .i64 h,.string key] [ae pa s] (fun v L=>v=.tuple #[.agg #[.int .i64 0,.int .i64 0,.int .i64 0,.bool false],.int .i64 0,.int .i64 24]∧L= [ae pa s]):=by
 refine aq wD Tryz.func173 rfl rfl rfl fun Fr w0=>aR ?_
 refine sr<|aP rfl rfl fun b3=>az rfl cE fun b6=>asg rfl rfl<|asg rfl rfl<|lz<|l_q rfl (aK rfl cd bM) ?_
 refine lc1 rfl rfl rfl (fu pa off s l hg hne ho) ?_
 refine mv rfl rfl<|l_q rfl (aa rfl ga) ?_
 refine l_q rfl (aa rfl ga) ?_
 refine az rfl cE fun b9=>sta rfl rfl rfl bP rfl rfl ?_
 refine asg rfl rfl<|lc<|ah<|sr<|mv rfl rfl<|l_q rfl (qi rfl rfl (aI ·))<|lc<|aA rfl (fun z=>?_) fun z=>?_
 ·refine sr<|l_q rfl (aK rfl fR bP) ?_
  refine mv rfl rfl<|sta rfl rfl rfl bP rfl rfl ?_
  refine asg rfl rfl<|asg rfl rfl<|lc<|rt ?_
  apply aJ (.inl rfl) ([ae pa s])
  ·apply lT rfl
   ·apply Rv.agg rfl
    ·exact tk
    exact aD fR bP rfl
   ·exact .tmp rfl
   exact .tmp rfl
  ·exact⟨rfl,rfl⟩
  exact en
 exact absurd z (by decide)
theorem vt (h:Int) (key:ByteArray):aG Tryz.prog 117 #[.agg #[.pointer (some ⟨pa,0,none⟩),.int .i64 l.key,.int .i64 l.elem,.int .i64 l.ka,.int .i64 l.ea,.int .i64 l.cap,.int .i64 l.eo,.int .i64 l.bo,.int .i64 l.slot,.int .i64 l.group,.int .i64 (off:Nat)],.int .i64 h,.string key] [ae pa s] (fun v L=>v=.tuple #[.int .i64 0,.int .i64 24]∧L= [ae pa s]):=by
 refine aq Aq Tryz.func117 rfl rfl rfl fun Fr w0=>aR ?_
 refine sr<|aP rfl rfl fun b3=>asg rfl rfl<|asg rfl rfl<|lz<|l_q rfl (aK rfl cd bM) ?_
 refine mv rfl rfl<|mv rfl rfl<|lc1 rfl rfl rfl (jC pa off s l hg hne ho h key) ?_
 refine mv rfl rfl<|l_q rfl (aa rfl ga) ?_
 refine l_q rfl (aa rfl ga) ?_
 refine l_q rfl (aa rfl ga) ?_
 refine az rfl cE fun b8=>sta rfl rfl rfl bP rfl rfl ?_
 exact asg rfl rfl<|asg rfl rfl<|lz<|mv rfl rfl<|mv rfl rfl<|asg rfl rfl<|asg rfl rfl<|lc<|rt<|fr2 rfl ([ae pa s]) (.tmp rfl) (.tmp rfl) ⟨rfl,rfl⟩
theorem ye (h:Int) (key:ByteArray):aG Tryz.prog 119 #[.agg #[.pointer (some ⟨pa,0,none⟩),.int .i64 l.key,.int .i64 l.elem,.int .i64 l.ka,.int .i64 l.ea,.int .i64 l.cap,.int .i64 l.eo,.int .i64 l.bo,.int .i64 l.slot,.int .i64 l.group,.int .i64 (off:Nat)],.int .i64 h,.string key] [ae pa s] (fun v L=>v=.tuple #[.agg #[.int .i64 0,.int .i64 0,.string ⟨#[]⟩,.string ⟨#[]⟩,.int .i64 0],.int .i64 24]∧L= [ae pa s]):=by
 refine aq Ap Tryz.func119 rfl rfl rfl fun Fr w0=>aR ?_
 refine sr<|aP rfl rfl fun b3=>az rfl cK fun b6=>asg rfl rfl<|lz<|l_q rfl (aK rfl cd bM) ?_
 refine mv rfl rfl<|mv rfl rfl<|lc1 rfl rfl rfl (jC pa off s l hg hne ho h key) ?_
 refine mv rfl rfl<|l_q rfl (aa rfl ga) ?_
 refine l_q rfl (aa rfl ga) ?_
 refine l_q rfl (aa rfl ga) ?_
 refine az rfl cE fun b8=>sta rfl rfl rfl bP rfl rfl ?_
 refine asg rfl rfl<|asg rfl rfl<|lc<|ah<|sr<|mv rfl rfl<|l_q rfl (qi rfl rfl (aI ·))<|mv rfl rfl<|bD (t:=21) rfl (fun z=>?_) fun z=>?_
 ·refine ar rfl rfl rfl rfl<|ar rfl rfl rfl rfl<|l_q rfl (aL rfl rfl)<|lc<|aY rfl<|sr ?_
  apply l_q rfl
  ·apply aQ rfl gl cK
   exact aF.nil
  refine mv rfl rfl<|sta rfl rfl rfl bx rfl rfl ?_
  refine asg rfl rfl<|lc<|rt ?_
  apply aJ (.inl rfl) ([ae pa s])
  ·apply bS rfl
   ·apply Rv.agg rfl
    ·exact tk
    exact aD dh bx rfl
   exact .tmp rfl
  ·exact⟨rfl,rfl⟩
  exact en
 exact absurd z (by decide)
theorem yc (h:Int) (key elem:ByteArray) (birth:Int):aG Tryz.prog 105 #[.agg #[.pointer (some ⟨pa,0,none⟩),.int .i64 l.key,.int .i64 l.elem,.int .i64 l.ka,.int .i64 l.ea,.int .i64 l.cap,.int .i64 l.eo,.int .i64 l.bo,.int .i64 l.slot,.int .i64 l.group,.int .i64 (off:Nat)],.int .i64 h,.string key,.string elem,.int .i64 birth] [ae pa s] (fun v L=>v=.tuple #[.int .i64 0,.int .i64 24]∧L= [ae pa s]):=by
 refine aq tU Tryz.func105 rfl rfl rfl fun Fr w0=>aR ?_
 refine sr<|aP rfl rfl fun b5=>asg rfl rfl<|asg rfl rfl<|lz<|l_q rfl (aK rfl cd bM) ?_
 refine mv rfl rfl<|mv rfl rfl<|lc1 rfl rfl rfl (jC pa off s l hg hne ho h key) ?_
 refine mv rfl rfl<|l_q rfl (aa rfl ga) ?_
 refine l_q rfl (aa rfl ga) ?_
 refine l_q rfl (aa rfl ga) ?_
 refine az rfl cE fun b12=>sta rfl rfl rfl bP rfl rfl ?_
 refine asg rfl rfl<|asg rfl rfl<|lc<|ah<|ax<|sr<|mv rfl rfl<|l_q rfl (qi rfl rfl (aI ·))<|mv rfl rfl<|bD (t:=28) rfl (fun z=>?_) fun z=>?_
 ·refine au rfl rfl<|mv rfl rfl<|au rfl rfl<|l_q rfl (qi rfl rfl (aI ·))<|l_q rfl (aL rfl rfl)<|asg rfl rfl<|lc<|aA rfl (fun z2=>?_) fun z2=>?_
  ·exact sr<|mv rfl rfl<|asg rfl rfl<|asg rfl rfl<|lc<|rt<|fr2 rfl ([ae pa s]) (.tmp rfl) (.tmp rfl) ⟨rfl,rfl⟩
  exact absurd z2 (by decide)
 exact absurd z (by decide)
theorem si (h:Int) (key:ByteArray):aG Tryz.prog 107 #[.agg #[.pointer (some ⟨pa,0,none⟩),.int .i64 l.key,.int .i64 l.elem,.int .i64 l.ka,.int .i64 l.ea,.int .i64 l.cap,.int .i64 l.eo,.int .i64 l.bo,.int .i64 l.slot,.int .i64 l.group,.int .i64 (off:Nat)],.int .i64 h,.string key] [ae pa s] (fun v L=>v=.tuple #[.bool false,.int .i64 24]∧L= [ae pa s]):=by
 refine aq Ar Tryz.func107 rfl rfl rfl fun Fr w0=>aR ?_
 refine sr<|aP rfl rfl fun b3=>asg rfl rfl<|asg rfl rfl<|lz<|l_q rfl (aK rfl cd bM) ?_
 refine mv rfl rfl<|mv rfl rfl<|lc1 rfl rfl rfl (jC pa off s l hg hne ho h key) ?_
 refine mv rfl rfl<|l_q rfl (aa rfl ga) ?_
 refine l_q rfl (aa rfl ga) ?_
 refine l_q rfl (aa rfl ga) ?_
 refine az rfl cE fun b8=>sta rfl rfl rfl bP rfl rfl ?_
 refine asg rfl rfl<|asg rfl rfl<|lc<|ah<|sr<|mv rfl rfl<|l_q rfl (qi rfl rfl (aI ·))<|mv rfl rfl<|bD (t:=22) rfl (fun z=>?_) fun z=>?_
 ·exact ar rfl rfl rfl rfl<|ar rfl rfl rfl rfl<|l_q rfl (aL rfl rfl)<|lc<|aY rfl<|sr<|mv rfl rfl<|asg rfl rfl<|asg rfl rfl<|lc<|rt<|fr2 rfl ([ae pa s]) (.tmp rfl) (.tmp rfl) ⟨rfl,rfl⟩
 exact absurd z (by decide)
theorem pA (k:Int):aG Tryz.prog 123 #[.agg #[.pointer (some ⟨pa,0,none⟩),.int .i64 l.key,.int .i64 l.elem,.int .i64 l.ka,.int .i64 l.ea,.int .i64 l.cap,.int .i64 l.eo,.int .i64 l.bo,.int .i64 l.slot,.int .i64 l.group,.int .i64 (off:Nat)],.int .i64 k] [ae pa s] (fun v L=>v=.tuple #[.agg #[.int .i64 0,.int .i64 0,.string ⟨#[]⟩,.string ⟨#[]⟩,.int .i64 0],.int .i64 24]∧L= [ae pa s]):=by
 refine aq Ao Tryz.func123 rfl rfl rfl fun Fr w0=>aR ?_
 refine sr<|aP rfl rfl fun b2=>az rfl cK fun b4=>asg rfl rfl<|lc<|ah<|sr<|l_q rfl (aK rfl cd bM) ?_
 refine lc1 rfl rfl rfl (fu pa off s l hg hne ho) ?_
 refine mv rfl rfl<|l_q rfl (aa rfl ga) ?_
 refine l_q rfl (aa rfl ga) ?_
 refine az rfl cE fun b6=>sta rfl rfl rfl bP rfl rfl ?_
 refine asg rfl rfl<|lz<|mv rfl rfl<|l_q rfl (qi rfl rfl (aI ·))<|lc<|aA rfl (fun z=>?_) fun z=>?_
 ·refine sr ?_
  apply l_q rfl
  ·apply aQ rfl gl cK
   exact aF.nil
  refine mv rfl rfl<|sta rfl rfl rfl bx rfl rfl ?_
  refine asg rfl rfl<|lc<|rt ?_
  apply aJ (.inl rfl) ([ae pa s])
  ·apply bS rfl
   ·apply Rv.agg rfl
    ·exact tk
    exact aD dh bx rfl
   exact .tmp rfl
  ·exact⟨rfl,rfl⟩
  exact en
 exact absurd z (by decide)
theorem yd (k:Int):aG Tryz.prog 109 #[.agg #[.pointer (some ⟨pa,0,none⟩),.int .i64 l.key,.int .i64 l.elem,.int .i64 l.ka,.int .i64 l.ea,.int .i64 l.cap,.int .i64 l.eo,.int .i64 l.bo,.int .i64 l.slot,.int .i64 l.group,.int .i64 (off:Nat)],.int .i64 k] [ae pa s] (fun v L=>v=.tuple #[.int .i64 0,.int .i64 24]∧L= [ae pa s]):=by
 refine aq De Tryz.func109 rfl rfl rfl fun Fr w0=>aR ?_
 refine sr<|aP rfl rfl fun b2=>asg rfl rfl<|asg rfl rfl<|lz<|l_q rfl (aK rfl cd bM) ?_
 refine lc1 rfl rfl rfl (fu pa off s l hg hne ho) ?_
 refine mv rfl rfl<|l_q rfl (aa rfl ga) ?_
 refine l_q rfl (aa rfl ga) ?_
 refine az rfl cE fun b6=>sta rfl rfl rfl bP rfl rfl ?_
 refine asg rfl rfl<|lc<|ah<|sr<|mv rfl rfl<|l_q rfl (qi rfl rfl (aI ·))<|lc<|aA rfl (fun z=>?_) fun z=>?_
 ·exact sr<|mv rfl rfl<|asg rfl rfl<|asg rfl rfl<|lc<|rt<|fr2 rfl ([ae pa s]) (.tmp rfl) (.tmp rfl) ⟨rfl,rfl⟩
 exact absurd z (by decide)
theorem lH (k:Int):aG Tryz.prog 113 #[.agg #[.pointer (some ⟨pa,0,none⟩),.int .i64 l.key,.int .i64 l.elem,.int .i64 l.ka,.int .i64 l.ea,.int .i64 l.cap,.int .i64 l.eo,.int .i64 l.bo,.int .i64 l.slot,.int .i64 l.group,.int .i64 (off:Nat)],.int .i64 k] [ae pa s] (fun v L=>v=.int .i64 24∧L= [ae pa s]):=by
 refine aq Dc Tryz.func113 rfl rfl rfl fun Fr w0=>aR ?_
 refine sr<|aP rfl rfl fun b2=>asg rfl rfl<|lc<|ah<|sr<|l_q rfl (aK rfl cd bM) ?_
 refine lc1 rfl rfl rfl (fu pa off s l hg hne ho) ?_
 refine mv rfl rfl<|l_q rfl (aa rfl ga) ?_
 refine l_q rfl (aa rfl ga) ?_
 refine az rfl cE fun b5=>sta rfl rfl rfl bP rfl rfl ?_
 refine asg rfl rfl<|lz<|mv rfl rfl<|l_q rfl (qi rfl rfl (aI ·))<|lc<|aA rfl (fun z=>?_) fun z=>?_
 ·exact sr<|mv rfl rfl<|asg rfl rfl<|lc<|rt<|fr1 rfl ([ae pa s]) (.tmp rfl) ⟨rfl,rfl⟩
 exact absurd z (by decide)
theorem sh (k:Int):aG Tryz.prog 111 #[.agg #[.pointer (some ⟨pa,0,none⟩),.int .i64 l.key,.int .i64 l.elem,.int .i64 l.ka,.int .i64 l.ea,.int .i64 l.cap,.int .i64 l.eo,.int .i64 l.bo,.int .i64 l.slot,.int .i64 l.group,.int .i64 (off:Nat)],.int .i64 k] [ae pa s] (fun v L=>v=.int .i64 24∧L= [ae pa s]):=by
 refine aq Dd Tryz.func111 rfl rfl rfl fun Fr w0=>aR ?_
 refine sr<|aP rfl rfl fun b2=>asg rfl rfl<|lc<|ah<|sr<|l_q rfl (aK rfl cd bM) ?_
 refine mv rfl rfl<|lc1 rfl rfl rfl (lH pa off s l hg hne ho k) ?_
 refine asg rfl rfl<|lz<|mv rfl rfl<|l_q rfl (qi rfl rfl (aI ·))<|lc<|aA rfl (fun z=>?_) fun z=>?_
 ·exact sr<|mv rfl rfl<|asg rfl rfl<|lc<|rt<|fr1 rfl ([ae pa s]) (.tmp rfl) ⟨rfl,rfl⟩
 exact absurd z (by decide)
theorem vr:aG Tryz.prog 115 #[.agg #[.pointer (some ⟨pa,0,none⟩),.int .i64 l.key,.int .i64 l.elem,.int .i64 l.ka,.int .i64 l.ea,.int .i64 l.cap,.int .i64 l.eo,.int .i64 l.bo,.int .i64 l.slot,.int .i64 l.group,.int .i64 (off:Nat)]] [ae pa s] (fun v L=>v=.int .i64 24∧L= [ae pa s]):=by
 refine aq Db Tryz.func115 rfl rfl rfl fun Fr w0=>aR ?_
 refine sr<|aP rfl rfl fun b1=>asg rfl rfl<|lc<|ah<|sr<|l_q rfl (aK rfl cd bM) ?_
 refine lc1 rfl rfl rfl (fu pa off s l hg hne ho) ?_
 refine mv rfl rfl<|l_q rfl (aa rfl ga) ?_
 refine l_q rfl (aa rfl ga) ?_
 refine az rfl cE fun b3=>sta rfl rfl rfl bP rfl rfl ?_
 refine asg rfl rfl<|lz<|mv rfl rfl<|l_q rfl (qi rfl rfl (aI ·))<|lc<|aA rfl (fun z=>?_) fun z=>?_
 ·exact sr<|mv rfl rfl<|asg rfl rfl<|lc<|rt<|fr1 rfl ([ae pa s]) (.tmp rfl) ⟨rfl,rfl⟩
 exact absurd z (by decide)
theorem pP (po:Nat) (sd:Int):aG Tryz.prog 103 #[.agg #[.pointer (some ⟨pa,0,none⟩),.int .i64 l.key,.int .i64 l.elem,.int .i64 l.ka,.int .i64 l.ea,.int .i64 l.cap,.int .i64 l.eo,.int .i64 l.bo,.int .i64 l.slot,.int .i64 l.group,.int .i64 (off:Nat)],.pointer (some ⟨po,0,none⟩),.int .u64 sd] [ae pa s] (fun v L=>v=.tuple #[.agg #[.pointer none,.int .i64 0,.int .i64 0,.int .i64 0,.int .i64 0,.int .i64 0,.int .i64 0,.int .i64 0,.int .i64 0,.int .i64 0,.int .i64 0],.int .i64 24]∧L= [ae pa s]):=by
 refine aq Df Tryz.func103 rfl rfl rfl fun Fr w0=>aR ?_
 refine sr<|aP rfl rfl fun b3=>fL rfl rfl rfl fun b4=>fL rfl rfl rfl fun b5=>az rfl lL fun b6=>dN rfl mU rfl fun b7=>lc<|ah<|sr<|l_q rfl (aK rfl cd bM) ?_
 refine lc1 rfl rfl rfl (fu pa off s l hg hne ho) ?_
 refine mv rfl rfl<|l_q rfl (aa rfl ga) ?_
 refine l_q rfl (aa rfl ga) ?_
 refine az rfl cE fun b8=>sta rfl rfl rfl bP rfl rfl ?_
 refine asg rfl rfl<|lz<|mv rfl rfl<|l_q rfl (qi rfl rfl (aI ·))<|lc<|aA rfl (fun z=>?_) fun z=>?_
 ·refine sr ?_
  apply l_q rfl
  ·apply aQ rfl yB lL
   exact aF.nil
  refine mv rfl rfl<|sta rfl rfl rfl er rfl rfl ?_
  refine st rfl rfl rfl jT rfl ?_
  refine lc<|rt ?_
  apply aJ (.inl rfl) ([ae pa s])
  ·apply bS rfl
   ·apply Rv.agg rfl
    ·exact tk
    exact aD gm er rfl
   apply Rv.cellL rfl
   ·exact tk
   ·exact ga
   exact pH
  ·exact⟨rfl,rfl⟩
  exact en
 exact absurd z (by decide)
end
end Small
end Go.Proofs.YthkajgkagnenbaaGreatDoor
