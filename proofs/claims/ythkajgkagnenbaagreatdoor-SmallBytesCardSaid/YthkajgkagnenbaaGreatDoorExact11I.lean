import Derived.Test.YthkajgkagnenbaaGreatDoorExact11Q
set_option linter.unusedVariables false
set_option linter.unusedSimpArgs false
set_option linter.unusedSectionVars false
set_option maxRecDepth 100000
namespace Go.Proofs.YthkajgkagnenbaaGreatDoor
namespace Exact11
open Go.RowKit Go.Proofs Eng Ty Bits Mem Search Arena CtrlB Ctrl Layout GroupB Group TableB TableI Table Cells Refill Small RefA RefT
open BytesP Oracle Ref04 Ref03
open Exact (PR cx uv uj qX)
theorem qZ (A:HP) (v:Value) (xs:List Int) (hA:pF A v xs):
  aG Tryz.prog 25 #[v] [A] (fun r L=>L= [A]∧∃ z1 z2 z3 z4 z5 z6 z7 z8 z9:Int,r=.tuple #[.agg #[.int .i64 z1,.int .i64 z2,.int .i64 z3,.int .i64 z4,.int .i64 z5,.int .i64 z6,.int .i64 z7,.int .i64 z8,.int .i64 z9],.int .i64 (jG xs)]∧(jG xs=0→∃ l:Lay,l.err=0∧z1=l.key∧z2=l.elem∧z3=l.ka∧z4=l.ea∧z5=l.cap∧z6=l.eo∧z7=l.bo∧z8=l.slot∧z9=l.group)):=
 (Parse_ok A v xs hA).mono fun r L h=>by
  rcases h with⟨rfl,⟨h1,h2,h3⟩ | ⟨h1,h2⟩⟩
  ·exact⟨rfl,_,_,_,_,_,_,_,_,_,by rw[h1];exact h3,fun _=>⟨mG xs,h2,rfl,rfl,rfl,rfl,rfl,rfl,rfl,rfl,rfl⟩⟩
  exact⟨rfl,_,_,_,_,_,_,_,_,_,h2,fun e=>absurd e h1⟩
section
variable (A:HP) (vf vo:Value) (xs:List Int) (os:List (ByteArray×Int)) (hA:pF A vf xs) (hO:jP A vo os) (hn0:∀ n c,vo=.slice none n c→c=0∧os= []) (hos:os.length*24≤140737488351232) (limit:Int)
include hA hO hn0 hos
theorem xc:aG Tryz.prog 14 #[.agg #[vf,.int .i64 limit,vo]] [A] (fun v L=>∃ pb b,v=.tuple #[.pointer (some ⟨pb,0,none⟩),.bool true,.bool b]∧((b=false∧L= [A])∨(b=true∧∃(pa po pr bq bm:Nat) (l:Lay),l.err=0∧(0≤limit∧limit≤2097152)∧kE os∧L= [A,pt po (.cells #[.map (some bm)] 192 (0,0)),cy (fun k:ByteArray=>Value.string k) bm (bN os),roH bq os,pt pb (.cells #[.pointer (some ⟨pa,0,none⟩),.pointer (some ⟨po,0,none⟩),.pointer (some ⟨pr,0,none⟩),.pointer (some ⟨bq,0,none⟩),.int .i64 l.key,.int .i64 l.elem,.int .i64 l.ka,.int .i64 l.ea,.int .i64 l.cap,.int .i64 l.eo,.int .i64 l.bo,.int .i64 l.slot,.int .i64 l.group,(.slice none 0 0),(.slice none 0 0)] 68 (0,0)),bj pr (ArS.new limit),ae pa (ArS.new limit)]))):=by
 have hO2:=hO
 obtain⟨a,cap,rfl,hO1⟩:=hO2
 have hnil:a=none→cap=0∧os= []:=fun e=>hn0 _ _ (by rw[e])
 have hrd:∀ a0,a=some a0→∀ {L:List HP} {M:List HP},Take A L M→Reads L a0 (rowOf dS os):=fun a0 e L M ht w hs j v hv=>by
  have h0:0 < os.length:=by
   have:=(List.getElem?_eq_some_iff.1 hv).1;rw[je mx] at this;omega
  obtain⟨b,o,e2,hO2⟩:=hO1 h0
  rw[e] at e2;cases e2
  have hj:=(List.getElem?_eq_some_iff.1 hv).1
  rw[je mx] at hj
  have ht2:os[j / 2]?=some os[j / 2]:=List.getElem?_eq_getElem (by omega)
  have:=dA mx os (j / 2) (j % 2) _ ht2 (by omega)
  rw[show j / 2*2+j % 2=j by omega,hv] at this
  have:=hO2 (j / 2) _ ht2 (j % 2) v this.symm w (hs.take ht).left
  rw[show o+j / 2*2+j % 2=o+j by omega] at this
  rw[cz];exact this
 refine aq H0 Tryz.func14 rfl rfl rfl fun Fr w0=>aR ?_
 by_cases hlim:limit < 0∨2097152 < limit
 ·skip
  refine sr<|aP rfl rfl fun b1=>asg rfl rfl<|asg rfl rfl<|asg rfl rfl<|lz<|l_q rfl (qfa 0 rfl nN rfl rfl od)<|l_q rfl (qld rfl ux) ?_
  refine lcf rfl rfl rfl (qZ A vf xs hA) ?_
  rintro v L' ⟨rfl,z1,z2,z3,z4,z5,z6,z7,z8,z9,rfl,hle⟩
  refine bF ?_
  refine mv rfl rfl<|l_q rfl (aa rfl ga) ?_
  refine l_q rfl (aa rfl ga) ?_
  refine az rfl fO fun b5=>sta rfl rfl rfl aX rfl rfl ?_
  refine asg rfl rfl<|lz<|l_q rfl (qfa 1 rfl nN rfl rfl yS3)<|l_q rfl (qld rfl yA3) ?_
  refine lc1 rfl rfl rfl (uv limit hlim) ?_
  refine mv rfl rfl<|l_q rfl (aa rfl ga) ?_
  refine l_q rfl (aa rfl ga) ?_
  refine asg rfl rfl<|asg rfl rfl<|lz<|l_q rfl (qfa 1 rfl nN rfl rfl yS3)<|l_q rfl (qld rfl yA3) ?_
  refine lc1 rfl rfl rfl (uj limit hlim) ?_
  refine mv rfl rfl<|l_q rfl (aa rfl ga) ?_
  refine l_q rfl (aa rfl ga) ?_
  refine asg rfl rfl<|asg rfl rfl<|lz ?_
  refine ei (us:=[]) rfl rfl jS iF vH rfl rfl rfl rfl rfl (fun b34=>?_)
  refine l_q rfl (qfa 2 rfl nN rfl rfl mX)<|l_q rfl (qld rfl oe) ?_
  refine zT (b:=b34) (e:=134) 2 .here ?_
  refine qx (sz:=2) (rowOf dS os) rfl rfl rfl (fun e=>⟨(hnil e).1,by rw[(hnil e).2];rfl⟩) Tryz.underlying52 yD rfl rfl tk (fun a0 e=>hrd a0 e tk) (by rw[je mx]) (qn CW _) (by simp only[maxLen];omega) (by omega) fun v37=>?_
  refine db (v:=v37) tk fun _ hs37=>?_
  obtain⟨a37,cap37,rfl,hsome,_,_⟩:=hs37
  rw[show 0+os.length=os.length from Nat.zero_add _,show([]:List Value) ++ rowOf dS os=rowOf dS os from rfl]
  refine lcf rfl rfl rfl (tA _ _ os (tq fun q=>hsome (by omega))) ?_
  rintro v L' (⟨e,he,rfl,rfl⟩ | ⟨hgo,po,bm,rfl,rfl⟩)
  refine bF ?_
  ·skip
   refine bF ?_
   refine mv rfl rfl<|l_q rfl (aa rfl ga) ?_
   refine l_q rfl (aa rfl ga) ?_
   refine asg rfl rfl<|asg rfl rfl<|lz<|l_q rfl (qfa 2 rfl nN rfl rfl mX)<|l_q rfl (qld rfl oe) ?_
   refine lcf rfl rfl rfl (gU A _ os hO) ?_
   rintro v L' (⟨e2,he2,rfl,rfl⟩ | ⟨hgo,bq,lv,rfl,rfl⟩)
   refine bF ?_
   ·obtain rfl:=he.same he2
    refine bF ?_
    have hez:=he.pos
    refine mv rfl rfl<|l_q rfl (aa rfl ga) ?_
    refine l_q rfl (aa rfl ga) ?_
    refine asg rfl rfl<|asg rfl rfl<|lc<|ah<|sr<|mv rfl rfl<|lc1 rfl rfl rfl (bW _) ?_
    refine mv rfl rfl<|l_q rfl (qi rfl rfl (aI ·))<|mv rfl rfl<|bD (t:=51) rfl (fun q1=>?_) fun q1=>?_
    ·exact absurd rfl q1
    refine au rfl rfl<|mv rfl rfl<|au rfl rfl<|lc1 rfl rfl rfl (bW _) ?_
    refine au rfl rfl<|mv rfl rfl<|au rfl rfl<|l_q rfl (qi rfl rfl (aI ·))<|l_q rfl (aL rfl rfl)<|mv rfl rfl<|bD (t:=57) rfl (fun q2=>?_) fun q2=>?_
    ·exact absurd rfl q2
    refine au rfl rfl<|mv rfl rfl<|au rfl rfl<|l_q rfl (fz rfl rfl (fB ·) (iQ · Bm))<|au rfl rfl<|mv rfl rfl<|au rfl rfl<|l_q rfl (qi rfl rfl (aI ·))<|au rfl rfl<|l_q rfl (qb rfl rfl (kL · yU4))<|l_q rfl (aL rfl rfl)<|mv rfl rfl<|bD (t:=64) rfl (fun q3=>?_) fun q3=>?_
    ·exact absurd q3 (by simp)
    refine au rfl rfl<|mv rfl rfl<|au rfl rfl<|l_q rfl (fz rfl rfl (fB ·) (iQ · Bl))<|au rfl rfl<|mv rfl rfl<|au rfl rfl<|l_q rfl (qi rfl rfl (aI ·))<|au rfl rfl<|l_q rfl (qb rfl rfl (kL · yU4))<|l_q rfl (aL rfl rfl)<|lc<|aA rfl (fun q4=>?_) fun q4=>?_
    ·exact absurd q4 (by simp[hez])
    refine al<|nz<|mv rfl rfl<|mv rfl rfl<|mv rfl rfl<|mv rfl rfl<|l_q rfl (aK rfl cu aX) ?_
    apply l_q rfl
    ·apply aQ rfl Bp Bi
     apply aF.one
     ·repeat (first | exact aH.here | apply aH.there)
     ·rfl
     ·exact sa
     apply aF.one
     ·repeat (first | exact aH.here | apply aH.there)
     ·rfl
     ·exact sa
     apply aF.one
     ·repeat (first | exact aH.here | apply aH.there)
     ·rfl
     ·exact sa
     apply aF.one
     ·repeat (first | exact aH.here | apply aH.there)
     ·rfl
     ·exact sa
     apply aF.all
     ·repeat (first | exact aH.here | apply aH.there)
     ·rfl
     ·simp
     ·exact sal
     exact aF.nil
    refine aP rfl rfl fun b77=>mv rfl rfl<|l_q rfl (qi rfl rfl (aZ ·))<|mv rfl rfl<|bD (t:=80) rfl (fun q5=>?_) fun q5=>?_
    ·refine au rfl rfl<|mv rfl rfl<|au rfl rfl<|l_q rfl (qi rfl rfl (aZ ·))<|l_q rfl (aL rfl rfl)<|mv rfl rfl<|bD (t:=84) rfl (fun q6=>?_) fun q6=>?_
     ·exact absurd q6 (by decide)
     refine ar rfl rfl rfl rfl<|ar rfl rfl rfl rfl<|l_q rfl (aL rfl rfl)<|asg rfl rfl<|asg rfl rfl<|asg rfl rfl<|lc<|rt ?_
     apply aJ (.inl rfl) ([A])
     ·apply lT rfl
      ·exact .tmp rfl
      ·exact .tmp rfl
      exact .tmp rfl
     ·exact⟨b77,false,rfl,.inl ⟨rfl,rfl⟩⟩
     exact en
    refine ar rfl rfl rfl rfl<|ar rfl rfl rfl rfl<|l_q rfl (aL rfl rfl)<|mv rfl rfl<|ar rfl rfl rfl rfl<|ar rfl rfl rfl rfl<|l_q rfl (aL rfl rfl)<|asg rfl rfl<|asg rfl rfl<|asg rfl rfl<|lc<|rt ?_
    apply aJ (.inl rfl) ([A])
    ·apply lT rfl
     ·exact .tmp rfl
     ·exact .tmp rfl
     exact .tmp rfl
    ·exact⟨b77,false,rfl,.inl ⟨rfl,rfl⟩⟩
    exact en
   exact(he.bad hgo).elim
  refine bF ?_
  refine mv rfl rfl<|l_q rfl (aa rfl ga) ?_
  refine l_q rfl (aa rfl ga) ?_
  refine asg rfl rfl<|asg rfl rfl<|lz<|l_q rfl (qfa 2 rfl nN rfl rfl mX)<|l_q rfl (qld rfl oe) ?_
  refine lcf rfl rfl rfl (gU A _ os hO) ?_
  rintro v L' (⟨e2,he2,rfl,rfl⟩ | ⟨hgo2,bq,lv,rfl,rfl⟩)
  refine bF ?_
  ·exact(he2.bad hgo).elim
  refine bF ?_
  have hez:True:=trivial
  refine mv rfl rfl<|l_q rfl (aa rfl ga) ?_
  refine l_q rfl (aa rfl ga) ?_
  refine asg rfl rfl<|asg rfl rfl<|lc<|ah<|sr<|mv rfl rfl<|lc1 rfl rfl rfl (bW _) ?_
  refine mv rfl rfl<|l_q rfl (qi rfl rfl (aI ·))<|mv rfl rfl<|bD (t:=51) rfl (fun q1=>?_) fun q1=>?_
  ·exact absurd rfl q1
  refine au rfl rfl<|mv rfl rfl<|au rfl rfl<|lc1 rfl rfl rfl (bW _) ?_
  refine au rfl rfl<|mv rfl rfl<|au rfl rfl<|l_q rfl (qi rfl rfl (aI ·))<|l_q rfl (aL rfl rfl)<|mv rfl rfl<|bD (t:=57) rfl (fun q2=>?_) fun q2=>?_
  ·exact absurd rfl q2
  refine au rfl rfl<|mv rfl rfl<|au rfl rfl<|l_q rfl (fz rfl rfl (fB ·) (iQ · Bm))<|au rfl rfl<|mv rfl rfl<|au rfl rfl<|l_q rfl (qi rfl rfl (aI ·))<|au rfl rfl<|l_q rfl (qb rfl rfl (kL · yU4))<|l_q rfl (aL rfl rfl)<|mv rfl rfl<|bD (t:=64) rfl (fun q3=>?_) fun q3=>?_
  ·exact absurd q3 (by simp)
  refine au rfl rfl<|mv rfl rfl<|au rfl rfl<|l_q rfl (fz rfl rfl (fB ·) (iQ · Bl))<|au rfl rfl<|mv rfl rfl<|au rfl rfl<|l_q rfl (qi rfl rfl (aI ·))<|au rfl rfl<|l_q rfl (qb rfl rfl (kL · yU4))<|l_q rfl (aL rfl rfl)<|lc<|aA rfl (fun q4=>?_) fun q4=>?_
  ·exact absurd q4 (by simp[hez])
  refine al<|nz<|mv rfl rfl<|mv rfl rfl<|mv rfl rfl<|mv rfl rfl<|l_q rfl (aK rfl cu aX) ?_
  apply l_q rfl
  ·apply aQ rfl Bp Bi
   apply aF.one
   ·repeat (first | exact aH.here | apply aH.there)
   ·rfl
   ·exact sa
   apply aF.one
   ·repeat (first | exact aH.here | apply aH.there)
   ·rfl
   ·exact sa
   apply aF.one
   ·repeat (first | exact aH.here | apply aH.there)
   ·rfl
   ·exact sa
   apply aF.one
   ·repeat (first | exact aH.here | apply aH.there)
   ·rfl
   ·exact sa
   apply aF.all
   ·repeat (first | exact aH.here | apply aH.there)
   ·rfl
   ·simp
   ·exact sal
   exact aF.nil
  refine aP rfl rfl fun b77=>mv rfl rfl<|l_q rfl (qi rfl rfl (aZ ·))<|mv rfl rfl<|bD (t:=80) rfl (fun q5=>?_) fun q5=>?_
  ·refine au rfl rfl<|mv rfl rfl<|au rfl rfl<|l_q rfl (qi rfl rfl (aZ ·))<|l_q rfl (aL rfl rfl)<|mv rfl rfl<|bD (t:=84) rfl (fun q6=>?_) fun q6=>?_
   ·exact absurd q6 (by decide)
   refine ar rfl rfl rfl rfl<|ar rfl rfl rfl rfl<|l_q rfl (aL rfl rfl)<|asg rfl rfl<|asg rfl rfl<|asg rfl rfl<|lc<|rt ?_
   apply aJ (.inl rfl) ([A])
   ·apply lT rfl
    ·exact .tmp rfl
    ·exact .tmp rfl
    exact .tmp rfl
   ·exact⟨b77,false,rfl,.inl ⟨rfl,rfl⟩⟩
   exact en
  refine ar rfl rfl rfl rfl<|ar rfl rfl rfl rfl<|l_q rfl (aL rfl rfl)<|mv rfl rfl<|ar rfl rfl rfl rfl<|ar rfl rfl rfl rfl<|l_q rfl (aL rfl rfl)<|asg rfl rfl<|asg rfl rfl<|asg rfl rfl<|lc<|rt ?_
  apply aJ (.inl rfl) ([A])
  ·apply lT rfl
   ·exact .tmp rfl
   ·exact .tmp rfl
   exact .tmp rfl
  ·exact⟨b77,false,rfl,.inl ⟨rfl,rfl⟩⟩
  exact en
 have hlim2:0≤limit∧limit≤2097152:=by omega
 refine sr<|aP rfl rfl fun b1=>asg rfl rfl<|asg rfl rfl<|asg rfl rfl<|lz<|l_q rfl (qfa 0 rfl nN rfl rfl od)<|l_q rfl (qld rfl ux) ?_
 refine lcf rfl rfl rfl (qZ A vf xs hA) ?_
 rintro v L' ⟨rfl,z1,z2,z3,z4,z5,z6,z7,z8,z9,rfl,hle⟩
 refine bF ?_
 refine mv rfl rfl<|l_q rfl (aa rfl ga) ?_
 refine l_q rfl (aa rfl ga) ?_
 refine az rfl fO fun b5=>sta rfl rfl rfl aX rfl rfl ?_
 refine asg rfl rfl<|lz<|l_q rfl (qfa 1 rfl nN rfl rfl yS3)<|l_q rfl (qld rfl yA3) ?_
 refine lcf rfl rfl rfl (Arena.New_ok limit hlim2) ?_
 rintro v L' ⟨pa,rfl,rfl⟩
 refine bF ?_
 refine mv rfl rfl<|l_q rfl (aa rfl ga) ?_
 refine l_q rfl (aa rfl ga) ?_
 refine asg rfl rfl<|asg rfl rfl<|lz<|l_q rfl (qfa 1 rfl nN rfl rfl yS3)<|l_q rfl (qld rfl yA3) ?_
 refine lcf rfl rfl rfl (qX limit hlim2) ?_
 rintro v L' ⟨pr,rfl,rfl⟩
 refine bF ?_
 refine mv rfl rfl<|l_q rfl (aa rfl ga) ?_
 refine l_q rfl (aa rfl ga) ?_
 refine asg rfl rfl<|asg rfl rfl<|lz ?_
 refine ei (us:=[]) rfl rfl jS iF vH rfl rfl rfl rfl rfl (fun b34=>?_)
 refine l_q rfl (qfa 2 rfl nN rfl rfl mX)<|l_q rfl (qld rfl oe) ?_
 refine zT (b:=b34) (e:=134) 2 .here ?_
 refine qx (sz:=2) (rowOf dS os) rfl rfl rfl (fun e=>⟨(hnil e).1,by rw[(hnil e).2];rfl⟩) Tryz.underlying52 yD rfl rfl tk (fun a0 e=>hrd a0 e tk) (by rw[je mx]) (qn CW _) (by simp only[maxLen];omega) (by omega) fun v37=>?_
 refine db (v:=v37) tk fun _ hs37=>?_
 obtain⟨a37,cap37,rfl,hsome,_,_⟩:=hs37
 rw[show 0+os.length=os.length from Nat.zero_add _,show([]:List Value) ++ rowOf dS os=rowOf dS os from rfl]
 refine lcf rfl rfl rfl (tA _ _ os (tq fun q=>hsome (by omega))) ?_
 rintro v L' (⟨e,he,rfl,rfl⟩ | ⟨hgo,po,bm,rfl,rfl⟩)
 refine bF ?_
 ·skip
  refine bF ?_
  refine mv rfl rfl<|l_q rfl (aa rfl ga) ?_
  refine l_q rfl (aa rfl ga) ?_
  refine asg rfl rfl<|asg rfl rfl<|lz<|l_q rfl (qfa 2 rfl nN rfl rfl mX)<|l_q rfl (qld rfl oe) ?_
  refine lcf rfl rfl rfl (gU A _ os hO) ?_
  rintro v L' (⟨e2,he2,rfl,rfl⟩ | ⟨hgo,bq,lv,rfl,rfl⟩)
  refine bF ?_
  ·obtain rfl:=he.same he2
   refine bF ?_
   have hez:=he.pos
   refine mv rfl rfl<|l_q rfl (aa rfl ga) ?_
   refine l_q rfl (aa rfl ga) ?_
   refine asg rfl rfl<|asg rfl rfl<|lc<|ah<|sr<|mv rfl rfl<|lc1 rfl rfl rfl (bW _) ?_
   refine mv rfl rfl<|l_q rfl (qi rfl rfl (aI ·))<|mv rfl rfl<|bD (t:=51) rfl (fun q1=>?_) fun q1=>?_
   ·exact absurd rfl q1
   refine au rfl rfl<|mv rfl rfl<|au rfl rfl<|lc1 rfl rfl rfl (bW _) ?_
   refine au rfl rfl<|mv rfl rfl<|au rfl rfl<|l_q rfl (qi rfl rfl (aI ·))<|l_q rfl (aL rfl rfl)<|mv rfl rfl<|bD (t:=57) rfl (fun q2=>?_) fun q2=>?_
   ·exact absurd rfl q2
   refine au rfl rfl<|mv rfl rfl<|au rfl rfl<|l_q rfl (fz rfl rfl (fB ·) (iQ · Bm))<|au rfl rfl<|mv rfl rfl<|au rfl rfl<|l_q rfl (qi rfl rfl (aI ·))<|au rfl rfl<|l_q rfl (qb rfl rfl (kL · yU4))<|l_q rfl (aL rfl rfl)<|mv rfl rfl<|bD (t:=64) rfl (fun q3=>?_) fun q3=>?_
   ·exact absurd q3 (by simp)
   refine au rfl rfl<|mv rfl rfl<|au rfl rfl<|l_q rfl (fz rfl rfl (fB ·) (iQ · Bl))<|au rfl rfl<|mv rfl rfl<|au rfl rfl<|l_q rfl (qi rfl rfl (aI ·))<|au rfl rfl<|l_q rfl (qb rfl rfl (kL · yU4))<|l_q rfl (aL rfl rfl)<|lc<|aA rfl (fun q4=>?_) fun q4=>?_
   ·exact absurd q4 (by simp[hez])
   refine al<|nz<|mv rfl rfl<|mv rfl rfl<|mv rfl rfl<|mv rfl rfl<|l_q rfl (aK rfl cu aX) ?_
   apply l_q rfl
   ·apply aQ rfl Bp Bi
    apply aF.one
    ·repeat (first | exact aH.here | apply aH.there)
    ·rfl
    ·exact sa
    apply aF.one
    ·repeat (first | exact aH.here | apply aH.there)
    ·rfl
    ·exact sa
    apply aF.one
    ·repeat (first | exact aH.here | apply aH.there)
    ·rfl
    ·exact sa
    apply aF.one
    ·repeat (first | exact aH.here | apply aH.there)
    ·rfl
    ·exact sa
    apply aF.all
    ·repeat (first | exact aH.here | apply aH.there)
    ·rfl
    ·simp
    ·exact sal
    exact aF.nil
   refine aP rfl rfl fun b77=>mv rfl rfl<|l_q rfl (qi rfl rfl (aZ ·))<|mv rfl rfl<|bD (t:=80) rfl (fun q5=>?_) fun q5=>?_
   ·refine au rfl rfl<|mv rfl rfl<|au rfl rfl<|l_q rfl (qi rfl rfl (aZ ·))<|l_q rfl (aL rfl rfl)<|mv rfl rfl<|bD (t:=84) rfl (fun q6=>?_) fun q6=>?_
    ·refine au rfl rfl<|mv rfl rfl<|au rfl rfl<|l_q rfl (qi rfl rfl (aZ ·))<|l_q rfl (aL rfl rfl)<|asg rfl rfl<|asg rfl rfl<|asg rfl rfl<|lc<|rt ?_
     apply aJ (.inl rfl) ([A])
     ·apply lT rfl
      ·exact .tmp rfl
      ·exact .tmp rfl
      exact .tmp rfl
     ·exact⟨b77,false,by rw[decide_eq_false hez],.inl ⟨rfl,rfl⟩⟩
     exact en
    exact absurd rfl q6
   refine ar rfl rfl rfl rfl<|ar rfl rfl rfl rfl<|l_q rfl (aL rfl rfl)<|mv rfl rfl<|ar rfl rfl rfl rfl<|ar rfl rfl rfl rfl<|l_q rfl (aL rfl rfl)<|asg rfl rfl<|asg rfl rfl<|asg rfl rfl<|lc<|rt ?_
   apply aJ (.inl rfl) ([A])
   ·apply lT rfl
    ·exact .tmp rfl
    ·exact .tmp rfl
    exact .tmp rfl
   ·exact⟨b77,false,rfl,.inl ⟨rfl,rfl⟩⟩
   exact en
  exact(he.bad hgo).elim
 refine bF ?_
 refine mv rfl rfl<|l_q rfl (aa rfl ga) ?_
 refine l_q rfl (aa rfl ga) ?_
 refine asg rfl rfl<|asg rfl rfl<|lz<|l_q rfl (qfa 2 rfl nN rfl rfl mX)<|l_q rfl (qld rfl oe) ?_
 refine lcf rfl rfl rfl (gU A _ os hO) ?_
 rintro v L' (⟨e2,he2,rfl,rfl⟩ | ⟨hgo2,bq,lv,rfl,rfl⟩)
 refine bF ?_
 ·exact(he2.bad hgo).elim
 refine bF ?_
 have hez:True:=trivial
 refine mv rfl rfl<|l_q rfl (aa rfl ga) ?_
 refine l_q rfl (aa rfl ga) ?_
 refine asg rfl rfl<|asg rfl rfl<|lc<|ah<|sr<|mv rfl rfl<|lc1 rfl rfl rfl (bW _) ?_
 refine mv rfl rfl<|l_q rfl (qi rfl rfl (aI ·))<|mv rfl rfl<|bD (t:=51) rfl (fun q1=>?_) fun q1=>?_
 ·exact absurd rfl q1
 refine au rfl rfl<|mv rfl rfl<|au rfl rfl<|lc1 rfl rfl rfl (bW _) ?_
 refine au rfl rfl<|mv rfl rfl<|au rfl rfl<|l_q rfl (qi rfl rfl (aI ·))<|l_q rfl (aL rfl rfl)<|mv rfl rfl<|bD (t:=57) rfl (fun q2=>?_) fun q2=>?_
 ·exact absurd rfl q2
 refine au rfl rfl<|mv rfl rfl<|au rfl rfl<|l_q rfl (fz rfl rfl (fB ·) (iQ · Bm))<|au rfl rfl<|mv rfl rfl<|au rfl rfl<|l_q rfl (qi rfl rfl (aI ·))<|au rfl rfl<|l_q rfl (qb rfl rfl (kL · yU4))<|l_q rfl (aL rfl rfl)<|mv rfl rfl<|bD (t:=64) rfl (fun q3=>?_) fun q3=>?_
 ·exact absurd q3 (by simp)
 refine au rfl rfl<|mv rfl rfl<|au rfl rfl<|l_q rfl (fz rfl rfl (fB ·) (iQ · Bl))<|au rfl rfl<|mv rfl rfl<|au rfl rfl<|l_q rfl (qi rfl rfl (aI ·))<|au rfl rfl<|l_q rfl (qb rfl rfl (kL · yU4))<|l_q rfl (aL rfl rfl)<|lc<|aA rfl (fun q4=>?_) fun q4=>?_
 ·exact absurd q4 (by simp[hez])
 refine al<|nz<|mv rfl rfl<|mv rfl rfl<|mv rfl rfl<|mv rfl rfl<|l_q rfl (aK rfl cu aX) ?_
 apply l_q rfl
 ·apply aQ rfl Bp Bi
  apply aF.one
  ·repeat (first | exact aH.here | apply aH.there)
  ·rfl
  ·exact sa
  apply aF.one
  ·repeat (first | exact aH.here | apply aH.there)
  ·rfl
  ·exact sa
  apply aF.one
  ·repeat (first | exact aH.here | apply aH.there)
  ·rfl
  ·exact sa
  apply aF.one
  ·repeat (first | exact aH.here | apply aH.there)
  ·rfl
  ·exact sa
  apply aF.all
  ·repeat (first | exact aH.here | apply aH.there)
  ·rfl
  ·simp
  ·exact sal
  exact aF.nil
 refine aP rfl rfl fun b77=>mv rfl rfl<|l_q rfl (qi rfl rfl (aZ ·))<|mv rfl rfl<|bD (t:=80) rfl (fun q5=>?_) fun q5=>?_
 ·refine au rfl rfl<|mv rfl rfl<|au rfl rfl<|l_q rfl (qi rfl rfl (aZ ·))<|l_q rfl (aL rfl rfl)<|mv rfl rfl<|bD (t:=84) rfl (fun q6=>?_) fun q6=>?_
  ·refine au rfl rfl<|mv rfl rfl<|au rfl rfl<|l_q rfl (qi rfl rfl (aZ ·))<|l_q rfl (aL rfl rfl)<|asg rfl rfl<|asg rfl rfl<|asg rfl rfl<|lc<|rt ?_
   obtain⟨l,hl,rfl,rfl,rfl,rfl,rfl,rfl,rfl,rfl,rfl⟩:=hle q5
   apply aJ (.inl rfl) ([A,pt po (.cells #[.map (some bm)] 192 (0,0)),cy (fun k:ByteArray=>Value.string k) bm (bN os),roH bq os,pt b77 (.cells #[.pointer (some ⟨pa,0,none⟩),.pointer (some ⟨po,0,none⟩),.pointer (some ⟨pr,0,none⟩),.pointer (some ⟨bq,0,none⟩),.int .i64 l.key,.int .i64 l.elem,.int .i64 l.ka,.int .i64 l.ea,.int .i64 l.cap,.int .i64 l.eo,.int .i64 l.bo,.int .i64 l.slot,.int .i64 l.group,.slice none 0 0,.slice none 0 0] 68 (0,0)),bj pr (ArS.new limit),ae pa (ArS.new limit)])
   ·apply lT rfl
    ·exact .tmp rfl
    ·exact .tmp rfl
    exact .tmp rfl
   ·exact⟨b77,true,rfl,.inr ⟨rfl,pa,po,pr,bq,bm,l,hl,hlim2,hgo,rfl⟩⟩
   intro w h;have h2:=oA lv (R:=A::pt po (.cells #[.map (some bm)] 192 (0,0))::cy (fun k:ByteArray=>Value.string k) bm (bN os)::pt b77 (.cells #[.pointer (some ⟨pa,0,none⟩),.pointer (some ⟨po,0,none⟩),.pointer (some ⟨pr,0,none⟩),.pointer (some ⟨bq,0,none⟩),.int .i64 l.key,.int .i64 l.elem,.int .i64 l.ka,.int .i64 l.ea,.int .i64 l.cap,.int .i64 l.eo,.int .i64 l.bo,.int .i64 l.slot,.int .i64 l.group,.slice none 0 0,.slice none 0 0] 68 (0,0))::bj pr (ArS.new limit)::ae pa (ArS.new limit)::Fr) (by(exact en)) w h;exact(show Ent (roH bq os::A::pt po (.cells #[.map (some bm)] 192 (0,0))::cy (fun k:ByteArray=>Value.string k) bm (bN os)::pt b77 (.cells #[.pointer (some ⟨pa,0,none⟩),.pointer (some ⟨po,0,none⟩),.pointer (some ⟨pr,0,none⟩),.pointer (some ⟨bq,0,none⟩),.int .i64 l.key,.int .i64 l.elem,.int .i64 l.ka,.int .i64 l.ea,.int .i64 l.cap,.int .i64 l.eo,.int .i64 l.bo,.int .i64 l.slot,.int .i64 l.group,.slice none 0 0,.slice none 0 0] 68 (0,0))::bj pr (ArS.new limit)::ae pa (ArS.new limit)::Fr) _ by(exact en)) w h2
  exact absurd rfl q6
 refine ar rfl rfl rfl rfl<|ar rfl rfl rfl rfl<|l_q rfl (aL rfl rfl)<|mv rfl rfl<|ar rfl rfl rfl rfl<|ar rfl rfl rfl rfl<|l_q rfl (aL rfl rfl)<|asg rfl rfl<|asg rfl rfl<|asg rfl rfl<|lc<|rt ?_
 apply aJ (.inl rfl) ([A])
 ·apply lT rfl
  ·exact .tmp rfl
  ·exact .tmp rfl
  exact .tmp rfl
 ·exact⟨b77,false,rfl,.inl ⟨rfl,rfl⟩⟩
 exact en
end
end Exact11
end Go.Proofs.YthkajgkagnenbaaGreatDoor
