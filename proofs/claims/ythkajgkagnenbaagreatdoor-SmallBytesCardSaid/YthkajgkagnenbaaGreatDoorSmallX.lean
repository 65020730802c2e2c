import Derived.Test.YthkajgkagnenbaaGreatDoorSmallD
set_option linter.unusedVariables false
set_option linter.unusedSimpArgs false
set_option linter.unusedSectionVars false
set_option maxRecDepth 100000
namespace Go.Proofs.YthkajgkagnenbaaGreatDoor
namespace Small
open Go.RowKit Go.Proofs Eng Ty Bits Mem Search Arena CtrlB Ctrl Layout GroupB Group TableB TableI Table
theorem zg (i:Int) (h:i < 0∨8≤i):aG Tryz.prog 192 #[.int .i64 i] [] (fun v L=>v=.int .i64 60∧L= []):=by
 refine aq C3 Tryz.func192 rfl rfl rfl fun Fr w0=>aR ?_
 refine sr<|asg rfl rfl<|lc<|ah<|sr<|mv rfl rfl<|l_q rfl (qi rfl rfl (aU ·))<|mv rfl rfl<|bD (t:=5) rfl (fun p1=>?_) fun p1=>?_
 ·exact ar rfl rfl rfl rfl<|ar rfl rfl rfl rfl<|l_q rfl (aL rfl rfl)<|lc<|aY rfl<|sr<|asg rfl rfl<|lc<|rt<|fr1 rfl ([]) (.tmp rfl) ⟨rfl,rfl⟩
 refine au rfl rfl<|mv rfl rfl<|au rfl rfl<|l_q rfl (qi rfl rfl (gM ·))<|l_q rfl (aL rfl rfl)<|lc<|aA rfl (fun p2=>?_) fun p2=>?_
 ·exact sr<|asg rfl rfl<|lc<|rt<|fr1 rfl ([]) (.tmp rfl) ⟨rfl,rfl⟩
 omega
theorem sE (b:Bool) (e:Int) (h:b=true):aG Tryz.prog 193 #[.bool b,.int .i64 e] [] (fun v L=>v=.int .i64 e∧L= []):=
 (vN b e).mono fun v L ⟨h1,h2⟩=>⟨by rw[h1,h];rfl,h2⟩
theorem aG.beside {P:Program} {f:FuncId} {args:Array Value} {D:List HP} {Post:Value→List HP→Prop} (h:aG P f args D Post) (X:HP):aG P f args (X::D) (fun v L=>∃ L0,L=X::L0∧Post v L0):=
 ⟨h.enters,fun Fr w0 w hs he=>(h.calls (X::Fr) w0 w (hs.perm (by rw[List.cons_append];exact List.perm_middle.symm)) he).mono fun _ _ ⟨v,L',e,p,s,x⟩=>⟨v,X::L',e,⟨L',rfl,p⟩,s.perm (by rw[List.cons_append];exact List.perm_middle),x⟩⟩
theorem yp (pa off:Nat) (s:ArS) (l:Lay) (hl:l.err=0) (hg:aN s off l.group) (tag:Int) (ht:tag < 0∨127 < tag) (key:ByteArray) (hk:key.size=kN l):
  aG Tryz.prog 219 #[.agg #[.pointer (some ⟨pa,0,none⟩),.int .i64 l.key,.int .i64 l.elem,.int .i64 l.ka,.int .i64 l.ea,.int .i64 l.cap,.int .i64 l.eo,.int .i64 l.bo,.int .i64 l.slot,.int .i64 l.group,.int .i64 off],.int .i64 tag,.string key] [ae pa s] (fun v L=>v=.tuple #[.int .i64 0,.int .i64 63]∧L= [ae pa s]):=by
 have hN:=eL hl
 have h2:=hN.k
 have hks:(key.size:Int)=l.key:=by rw[hk];exact hN.k
 refine aq C2 Tryz.func219 rfl rfl rfl fun Fr w0=>aR ?_
 refine cI (φ:=s.ok) (fun w hw=>bQ hw .here) fun hok0=>?_
 have hge:=aN.end_le hok0 hg
 have hst0:=hok0.stop_eq
 refine sr<|aP rfl rfl fun b3=>fL rfl rfl rfl fun b5=>dN rfl yZ3 rfl fun b6=>dN rfl mU rfl fun b7=>lc<|ah<|aS mixed ?_
 apply dq 0 rfl
 ·exact yq (ai rfl)
 apply dq 1 rfl
 ·exact yq (qi rfl rfl (aU ·))
 apply dq 2 rfl
 ·exact yq (ai rfl)
 apply dq 7 rfl
 ·exact yq (qld rfl yA9)
 apply dq 8 rfl
 ·exact yq (qls rfl yU9)
 apply dq 9 rfl
 ·exact yq (qfa 1 rfl bp rfl rfl aX)
 apply dq 10 rfl
 ·exact yq (qfa 0 rfl bK rfl rfl yS3)
 apply dq 11 rfl
 ·exact yq (qld rfl yA3)
 apply dq 12 rfl
 ·exact yq (qi rfl rfl (aI ·))
 apply dq 14 rfl
 ·exact yq (aK rfl df cT)
 refine jW (t:=16) rfl (fun p1=>?_) fun p1=>?_
 ·apply dq 3 rfl
  ·exact dH rfl rfl rfl (by intro k;simp)
  apply dq 4 rfl
  ·exact dH rfl rfl rfl (by intro k;simp)
  apply dq 5 rfl
  ·exact yq (aL rfl rfl)
  refine an [5,2,4,1,3,0] [14,12,11,10,9,8,7] 6 [(19,_)] gO ⟨rfl,trivial⟩ (by kernel_rfl) (by kernel_rfl) fun Ex=>?_
  refine lc1 rfl rfl rfl (sE _ 63 (by simp)) ?_
  refine aj ?_
  apply n_d
  ·refine⟨?_,?_,?_,?_,?_,?_,?_,trivial⟩
   ·apply ya rfl rfl;exact yq (aK rfl df cT)
   ·apply ya rfl rfl;exact yq (qi rfl rfl (aI ·))
   ·apply ya rfl rfl;exact yq (qld rfl yA3)
   ·apply ya rfl rfl;exact yq (qfa 0 rfl bK rfl rfl yS3)
   ·apply ya rfl rfl;exact yq (qfa 1 rfl bp rfl rfl aX)
   ·apply ya rfl rfl;exact yq (qls rfl yU9)
   apply ya rfl rfl;exact yq (qld rfl yA9)
  refine an [12,8,11,7,10,9] [14] 13 [(26,_)] gO ⟨rfl,trivial⟩ (by kernel_rfl) (by kernel_rfl) fun Ex=>?_
  refine lc1 rfl rfl rfl (gS _ _ (by simp;omega)) ?_
  refine aj ?_
  apply n_d
  ·refine⟨?_,trivial⟩
   apply ya rfl rfl;exact yq (aK rfl df cT)
  refine an [14] [] 15 [(28,_)] gO ⟨rfl,trivial⟩ (by kernel_rfl) (by kernel_rfl) fun Ex=>?_
  refine lc1 rfl rfl rfl (fg pa off s l hl hg) ?_
  refine aj ?_
  apply n_d
  ·exact trivial
  refine an [] [] 16 [(20,_),(27,_),(29,_)] gO ⟨rfl,rfl,rfl,trivial⟩ (by kernel_rfl) (by kernel_rfl) fun Ex=>?_
  refine aW [_,_,_] rfl rfl lx jT mU rfl rfl rfl rfl (fun b30=>?_)
  refine aj ?_
  apply n_d
  ·exact trivial
  refine an [] [] 17 [(30,_)] gO ⟨rfl,trivial⟩ (by kernel_rfl) (by kernel_rfl) fun Ex=>?_
  refine lc1 rfl rfl rfl (la b30 63 0 0) ?_
  refine aj ?_
  apply n_d
  ·exact trivial
  refine an [] [] 18 [(31,_)] gO ⟨rfl,trivial⟩ (by kernel_rfl) (by kernel_rfl) fun Ex=>?_
  refine asg rfl rfl<|aj ?_
  apply n_d
  ·exact trivial
  refine bd (by kernel_rfl) ?_
  refine ak<|ah<|sr<|mv rfl rfl<|l_q rfl (qi rfl rfl (aI ·))<|lc<|aA rfl (fun z=>?_) fun z=>?_
  ·refine sr<|mv rfl rfl<|st rfl rfl rfl yS3 rfl ?_
   refine st rfl rfl rfl jT rfl ?_
   refine lc<|rt ?_
   apply aJ (.inl rfl) ([ae pa s])
   ·apply bS rfl
    ·apply Rv.cellL rfl
     ·exact tk
     ·exact ga
     exact yA3
    apply Rv.cellL rfl
    ·exact tk
    ·exact ga
    exact pH
   ·exact⟨rfl,rfl⟩
   exact en
  exact absurd (by decide) z
 apply dq 3 rfl
 ·exact bE rfl rfl (ai rfl)
 apply dq 4 rfl
 ·exact bE rfl rfl (qi rfl rfl (cU ·))
 apply dq 5 rfl
 ·exact yq (aL rfl rfl)
 refine an [5,2,4,1,3,0] [14,12,11,10,9,8,7] 6 [(19,_)] gO ⟨rfl,trivial⟩ (by kernel_rfl) (by kernel_rfl) fun Ex=>?_
 refine lc1 rfl rfl rfl (sE _ 63 (by simp;omega)) ?_
 refine aj ?_
 apply n_d
 ·refine⟨?_,?_,?_,?_,?_,?_,?_,trivial⟩
  ·apply ya rfl rfl;exact yq (aK rfl df cT)
  ·apply ya rfl rfl;exact yq (qi rfl rfl (aI ·))
  ·apply ya rfl rfl;exact yq (qld rfl yA3)
  ·apply ya rfl rfl;exact yq (qfa 0 rfl bK rfl rfl yS3)
  ·apply ya rfl rfl;exact yq (qfa 1 rfl bp rfl rfl aX)
  ·apply ya rfl rfl;exact yq (qls rfl yU9)
  apply ya rfl rfl;exact yq (qld rfl yA9)
 refine an [12,8,11,7,10,9] [14] 13 [(26,_)] gO ⟨rfl,trivial⟩ (by kernel_rfl) (by kernel_rfl) fun Ex=>?_
 refine lc1 rfl rfl rfl (gS _ _ (by simp;omega)) ?_
 refine aj ?_
 apply n_d
 ·refine⟨?_,trivial⟩
  apply ya rfl rfl;exact yq (aK rfl df cT)
 refine an [14] [] 15 [(28,_)] gO ⟨rfl,trivial⟩ (by kernel_rfl) (by kernel_rfl) fun Ex=>?_
 refine lc1 rfl rfl rfl (fg pa off s l hl hg) ?_
 refine aj ?_
 apply n_d
 ·exact trivial
 refine an [] [] 16 [(20,_),(27,_),(29,_)] gO ⟨rfl,rfl,rfl,trivial⟩ (by kernel_rfl) (by kernel_rfl) fun Ex=>?_
 refine aW [_,_,_] rfl rfl lx jT mU rfl rfl rfl rfl (fun b30=>?_)
 refine aj ?_
 apply n_d
 ·exact trivial
 refine an [] [] 17 [(30,_)] gO ⟨rfl,trivial⟩ (by kernel_rfl) (by kernel_rfl) fun Ex=>?_
 refine lc1 rfl rfl rfl (la b30 63 0 0) ?_
 refine aj ?_
 apply n_d
 ·exact trivial
 refine an [] [] 18 [(31,_)] gO ⟨rfl,trivial⟩ (by kernel_rfl) (by kernel_rfl) fun Ex=>?_
 refine asg rfl rfl<|aj ?_
 apply n_d
 ·exact trivial
 refine bd (by kernel_rfl) ?_
 refine ak<|ah<|sr<|mv rfl rfl<|l_q rfl (qi rfl rfl (aI ·))<|lc<|aA rfl (fun z=>?_) fun z=>?_
 ·refine sr<|mv rfl rfl<|st rfl rfl rfl yS3 rfl ?_
  refine st rfl rfl rfl jT rfl ?_
  refine lc<|rt ?_
  apply aJ (.inl rfl) ([ae pa s])
  ·apply bS rfl
   ·apply Rv.cellL rfl
    ·exact tk
    ·exact ga
    exact yA3
   apply Rv.cellL rfl
   ·exact tk
   ·exact ga
   exact pH
  ·exact⟨rfl,rfl⟩
  exact en
 exact absurd (by decide) z
theorem yr (pa off:Nat) (s:ArS) (l:Lay) (hl:l.err=0) (hg:aN s off l.group) (i:Int) (hi:i < 0∨8≤i):
  aG Tryz.prog 144 #[.agg #[.pointer (some ⟨pa,0,none⟩),.int .i64 l.key,.int .i64 l.elem,.int .i64 l.ka,.int .i64 l.ea,.int .i64 l.cap,.int .i64 l.eo,.int .i64 l.bo,.int .i64 l.slot,.int .i64 l.group,.int .i64 off],.int .i64 i] [ae pa s] (fun v L=>v=.tuple #[.agg #[.int .i64 0,.int .i64 0,.string ⟨#[]⟩,.string ⟨#[]⟩,.int .i64 0],.int .i64 60]∧L= [ae pa s]):=by
 refine aq C6 Tryz.func144 rfl rfl rfl fun Fr w0=>aR ?_
 refine cI (φ:=s.ok) (fun w hw=>bQ hw .here) fun hok0=>?_
 have hge:=aN.end_le hok0 hg
 have hst0:=hok0.stop_eq
 refine sr<|aP rfl rfl fun b2=>az rfl cK fun b4=>asg rfl rfl<|lc<|ah<|ah<|aS mixed ?_
 apply dq 0 rfl
 ·exact yq (ai rfl)
 apply dq 2 rfl
 ·exact yq (aK rfl df cT)
 refine an [0] [2] 1 [(10,_)] gO ⟨rfl,trivial⟩ (by kernel_rfl) (by kernel_rfl) fun Ex=>?_
 refine lc1 rfl rfl rfl (zg i hi) ?_
 refine aj ?_
 apply n_d
 ·refine⟨?_,trivial⟩
  apply ya rfl rfl;exact yq (aK rfl df cT)
 refine an [2] [] 3 [(12,_)] gO ⟨rfl,trivial⟩ (by kernel_rfl) (by kernel_rfl) fun Ex=>?_
 refine lc1 rfl rfl rfl (fg pa off s l hl hg) ?_
 refine aj ?_
 apply n_d
 ·exact trivial
 refine an [] [] 4 [(11,_),(13,_)] gO ⟨rfl,rfl,trivial⟩ (by kernel_rfl) (by kernel_rfl) fun Ex=>?_
 refine aW [_,_] rfl rfl lx jT mU rfl rfl rfl rfl (fun b14=>?_)
 refine aj ?_
 apply n_d
 ·exact trivial
 refine an [] [] 5 [(14,_)] gO ⟨rfl,trivial⟩ (by kernel_rfl) (by kernel_rfl) fun Ex=>?_
 refine lc1 rfl rfl rfl (nn b14 60 0) ?_
 refine aj ?_
 apply n_d
 ·exact trivial
 refine an [] [] 6 [(15,_)] gO ⟨rfl,trivial⟩ (by kernel_rfl) (by kernel_rfl) fun Ex=>?_
 refine asg rfl rfl<|aj ?_
 apply n_d
 ·exact trivial
 refine bd (by kernel_rfl) ?_
 refine nz<|mv rfl rfl<|l_q rfl (qi rfl rfl (aI ·))<|lc<|aA rfl (fun z=>?_) fun z=>?_
 ·refine sr ?_
  apply l_q rfl
  ·apply aQ rfl gl cK
   exact aF.nil
  refine mv rfl rfl<|sta rfl rfl rfl bx rfl rfl ?_
  refine asg rfl rfl<|lc<|rt ?_
  apply aJ (.inl rfl) ([ae pa s])
  ·apply bS rfl
   ·apply Rv.agg rfl
    ·exact tk
    exact aD dh bx rfl
   exact .tmp rfl
  ·exact⟨rfl,rfl⟩
  exact en
 exact absurd (by decide) z
section
variable (pa off:Nat) (s:ArS) (l:Lay) (S:Sm) (hP:SmP s off l S)
include hP
theorem qk (tag:Int) (key:ByteArray) (hk:(key.size:Int)≠l.key):aG Tryz.prog 173 #[.agg #[.pointer (some ⟨pa,0,none⟩),.int .i64 l.key,.int .i64 l.elem,.int .i64 l.ka,.int .i64 l.ea,.int .i64 l.cap,.int .i64 l.eo,.int .i64 l.bo,.int .i64 l.slot,.int .i64 l.group,.int .i64 (off:Nat)],.int .i64 tag,.string key] [ae pa s]
  (fun v L=>v=.tuple #[.agg #[.int .i64 S.used,.int .i64 S.pins,.int .i64 S.next,.bool (decide (S.kind=3))],.int .i64 0,.int .i64 61]∧L= [ae pa s]):=by
 refine aq wD Tryz.func173 rfl rfl rfl fun Fr w0=>aR ?_
 refine sr<|aP rfl rfl fun b3=>az rfl cE fun b6=>asg rfl rfl<|asg rfl rfl<|lz<|l_q rfl (aK rfl cd bM) ?_
 refine lc1 rfl rfl rfl (fm pa off s l S hP) ?_
 refine mv rfl rfl<|l_q rfl (aa rfl ga) ?_
 refine l_q rfl (aa rfl ga) ?_
 refine az rfl cE fun b9=>sta rfl rfl rfl bP rfl rfl ?_
 refine asg rfl rfl<|lc<|ah<|sr<|mv rfl rfl<|l_q rfl (qi rfl rfl (aI ·))<|lc<|aA rfl (fun z=>?_) fun z=>?_
 ·exact absurd rfl z
 refine al<|ak<|ah<|sr<|mv rfl rfl<|l_q rfl (qls rfl yU9)<|l_q rfl (qfa 1 rfl gP rfl rfl aX)<|l_q rfl (qfa 0 rfl bK rfl rfl yS3)<|l_q rfl (qld rfl yA3) ?_
 refine l_q rfl (qi rfl rfl (aI ·))<|lc<|aA rfl (fun y=>?_) fun y=>?_
 ·refine sr<|l_q rfl (aK rfl fR bP) ?_
  refine sta rfl rfl rfl bP rfl rfl ?_
  refine asg rfl rfl<|asg rfl rfl<|lc<|rt ?_
  apply aJ (.inl rfl) ([ae pa s])
  ·apply lT rfl
   ·apply Rv.agg rfl
    ·exact tk
    exact aD fR bP rfl
   ·exact .tmp rfl
   exact .tmp rfl
  ·exact⟨rfl,rfl⟩
  exact en
 exact absurd (by omega) hk
theorem qj (tag:Int) (ht:tag < 0∨127 < tag) (key:ByteArray) (hk:(key.size:Int)=l.key):aG Tryz.prog 173 #[.agg #[.pointer (some ⟨pa,0,none⟩),.int .i64 l.key,.int .i64 l.elem,.int .i64 l.ka,.int .i64 l.ea,.int .i64 l.cap,.int .i64 l.eo,.int .i64 l.bo,.int .i64 l.slot,.int .i64 l.group,.int .i64 (off:Nat)],.int .i64 tag,.string key] [ae pa s]
  (fun v L=>v=.tuple #[.agg #[.int .i64 S.used,.int .i64 S.pins,.int .i64 S.next,.bool (decide (S.kind=3))],.int .i64 0,.int .i64 63]∧L= [ae pa s]):=by
 have hkN:key.size=kN l:=by have:=hP.hN.k;omega
 refine aq wD Tryz.func173 rfl rfl rfl fun Fr w0=>aR ?_
 refine cI (φ:=s.ok) (fun w hw=>bQ hw .here) fun hok0=>?_
 refine sr<|aP rfl rfl fun b3=>az rfl cE fun b6=>asg rfl rfl<|asg rfl rfl<|lz<|l_q rfl (aK rfl cd bM) ?_
 refine lc1 rfl rfl rfl (fm pa off s l S hP) ?_
 refine mv rfl rfl<|l_q rfl (aa rfl ga) ?_
 refine l_q rfl (aa rfl ga) ?_
 refine az rfl cE fun b9=>sta rfl rfl rfl bP rfl rfl ?_
 refine asg rfl rfl<|lc<|ah<|sr<|mv rfl rfl<|l_q rfl (qi rfl rfl (aI ·))<|lc<|aA rfl (fun z=>?_) fun z=>?_
 ·exact absurd rfl z
 refine al<|ak<|ah<|sr<|mv rfl rfl<|l_q rfl (qls rfl yU9)<|l_q rfl (qfa 1 rfl gP rfl rfl aX)<|l_q rfl (qfa 0 rfl bK rfl rfl yS3)<|l_q rfl (qld rfl yA3) ?_
 refine l_q rfl (qi rfl rfl (aI ·))<|lc<|aA rfl (fun y=>?_) fun y=>?_
 ·omega
 refine al<|nz<|l_q rfl (aK rfl cd bM) ?_
 refine lc1 rfl rfl rfl (eP pa off s l S hP hok0) ?_
 refine mv rfl rfl<|mv rfl rfl<|lc1 rfl rfl rfl (yp pa (off+32) s l hP.hl hP.grp tag ht key hkN) ?_
 refine mv rfl rfl<|l_q rfl (aa rfl ga) ?_
 refine l_q rfl (aa rfl ga) ?_
 refine asg rfl rfl<|asg rfl rfl<|lc<|ah<|sr<|mv rfl rfl<|l_q rfl (qi rfl rfl (aZ ·))<|lc<|aA rfl (fun x=>?_) fun x=>?_
 ·omega
 refine al<|nz<|l_q rfl (aK rfl fR bP) ?_
 refine mv rfl rfl<|mv rfl rfl<|sta rfl rfl rfl bP rfl rfl ?_
 refine asg rfl rfl<|asg rfl rfl<|lc<|rt ?_
 apply aJ (.inl rfl) ([ae pa s])
 ·apply lT rfl
  ·apply Rv.agg rfl
   ·exact tk
   exact aD fR bP rfl
  ·exact .tmp rfl
  exact .tmp rfl
 ·exact⟨rfl,rfl⟩
 exact en
def ktE (l:Lay) (tag:Int) (key:ByteArray):Int:=if(key.size:Int)≠l.key then 61 else if tag < 0∨127 < tag then 63 else 0
theorem mZ (tag:Int) (key:ByteArray) (h:ktE l tag key≠0):aG Tryz.prog 173 #[.agg #[.pointer (some ⟨pa,0,none⟩),.int .i64 l.key,.int .i64 l.elem,.int .i64 l.ka,.int .i64 l.ea,.int .i64 l.cap,.int .i64 l.eo,.int .i64 l.bo,.int .i64 l.slot,.int .i64 l.group,.int .i64 (off:Nat)],.int .i64 tag,.string key] [ae pa s]
  (fun v L=>v=.tuple #[.agg #[.int .i64 S.used,.int .i64 S.pins,.int .i64 S.next,.bool (decide (S.kind=3))],.int .i64 0,.int .i64 (ktE l tag key)]∧L= [ae pa s]):=by
 unfold ktE at h ⊢
 by_cases h1:(key.size:Int)≠l.key
 ·rw[if_pos h1];exact qk pa off s l S hP tag key h1
 rw[if_neg h1] at h ⊢
 by_cases h2:tag < 0∨127 < tag
 ·rw[if_pos h2];exact qj pa off s l S hP tag h2 key (by omega)
 rw[if_neg h2] at h;exact absurd rfl h
theorem yf (tag:Int) (key:ByteArray) (h:ktE l tag key≠0):aG Tryz.prog 117 #[.agg #[.pointer (some ⟨pa,0,none⟩),.int .i64 l.key,.int .i64 l.elem,.int .i64 l.ka,.int .i64 l.ea,.int .i64 l.cap,.int .i64 l.eo,.int .i64 l.bo,.int .i64 l.slot,.int .i64 l.group,.int .i64 (off:Nat)],.int .i64 tag,.string key] [ae pa s] (fun v L=>v=.tuple #[.int .i64 0,.int .i64 (ktE l tag key)]∧L= [ae pa s]):=by
 refine aq Aq Tryz.func117 rfl rfl rfl fun Fr w0=>aR ?_
 refine sr<|aP rfl rfl fun b3=>asg rfl rfl<|asg rfl rfl<|lz<|l_q rfl (aK rfl cd bM) ?_
 refine mv rfl rfl<|mv rfl rfl<|lc1 rfl rfl rfl (mZ pa off s l S hP tag key h) ?_
 refine mv rfl rfl<|l_q rfl (aa rfl ga) ?_
 refine l_q rfl (aa rfl ga) ?_
 refine l_q rfl (aa rfl ga) ?_
 refine az rfl cE fun b8=>sta rfl rfl rfl bP rfl rfl ?_
 exact asg rfl rfl<|asg rfl rfl<|lz<|mv rfl rfl<|mv rfl rfl<|asg rfl rfl<|asg rfl rfl<|lc<|rt<|fr2 rfl ([ae pa s]) (.tmp rfl) (.tmp rfl) ⟨rfl,rfl⟩
theorem AT (tag:Int) (key:ByteArray) (h:ktE l tag key≠0):aG Tryz.prog 119 #[.agg #[.pointer (some ⟨pa,0,none⟩),.int .i64 l.key,.int .i64 l.elem,.int .i64 l.ka,.int .i64 l.ea,.int .i64 l.cap,.int .i64 l.eo,.int .i64 l.bo,.int .i64 l.slot,.int .i64 l.group,.int .i64 (off:Nat)],.int .i64 tag,.string key] [ae pa s] (fun v L=>v=.tuple #[.agg #[.int .i64 0,.int .i64 0,.string ⟨#[]⟩,.string ⟨#[]⟩,.int .i64 0],.int .i64 (ktE l tag key)]∧L= [ae pa s]):=by
 refine aq Ap Tryz.func119 rfl rfl rfl fun Fr w0=>aR ?_
 refine sr<|aP rfl rfl fun b3=>az rfl cK fun b6=>asg rfl rfl<|lz<|l_q rfl (aK rfl cd bM) ?_
 refine mv rfl rfl<|mv rfl rfl<|lc1 rfl rfl rfl (mZ pa off s l S hP tag key h) ?_
 refine mv rfl rfl<|l_q rfl (aa rfl ga) ?_
 refine l_q rfl (aa rfl ga) ?_
 refine l_q rfl (aa rfl ga) ?_
 refine az rfl cE fun b8=>sta rfl rfl rfl bP rfl rfl ?_
 refine asg rfl rfl<|asg rfl rfl<|lc<|ah<|sr<|mv rfl rfl<|l_q rfl (qi rfl rfl (aI ·))<|mv rfl rfl<|bD (t:=21) rfl (fun p1=>?_) fun p1=>?_
 ·refine ar rfl rfl rfl rfl<|ar rfl rfl rfl rfl<|l_q rfl (aL rfl rfl)<|lc<|aY rfl<|sr ?_
  apply l_q rfl
  ·apply aQ rfl gl cK
   exact aF.nil
  refine mv rfl rfl<|sta rfl rfl rfl bx rfl rfl ?_
  refine asg rfl rfl<|lc<|rt ?_
  apply aJ (.inl rfl) ([ae pa s])
  ·apply bS rfl
   ·apply Rv.agg rfl
    ·exact tk
    exact aD dh bx rfl
   exact .tmp rfl
  ·exact⟨rfl,rfl⟩
  exact en
 exact absurd h p1
theorem uc (tag:Int) (key:ByteArray) (h:ktE l tag key≠0):aG Tryz.prog 107 #[.agg #[.pointer (some ⟨pa,0,none⟩),.int .i64 l.key,.int .i64 l.elem,.int .i64 l.ka,.int .i64 l.ea,.int .i64 l.cap,.int .i64 l.eo,.int .i64 l.bo,.int .i64 l.slot,.int .i64 l.group,.int .i64 (off:Nat)],.int .i64 tag,.string key] [ae pa s] (fun v L=>v=.tuple #[.bool false,.int .i64 (ktE l tag key)]∧L= [ae pa s]):=by
 refine aq Ar Tryz.func107 rfl rfl rfl fun Fr w0=>aR ?_
 refine sr<|aP rfl rfl fun b3=>asg rfl rfl<|asg rfl rfl<|lz<|l_q rfl (aK rfl cd bM) ?_
 refine mv rfl rfl<|mv rfl rfl<|lc1 rfl rfl rfl (mZ pa off s l S hP tag key h) ?_
 refine mv rfl rfl<|l_q rfl (aa rfl ga) ?_
 refine l_q rfl (aa rfl ga) ?_
 refine l_q rfl (aa rfl ga) ?_
 refine az rfl cE fun b8=>sta rfl rfl rfl bP rfl rfl ?_
 refine asg rfl rfl<|asg rfl rfl<|lc<|ah<|sr<|mv rfl rfl<|l_q rfl (qi rfl rfl (aI ·))<|mv rfl rfl<|bD (t:=22) rfl (fun p1=>?_) fun p1=>?_
 ·exact ar rfl rfl rfl rfl<|ar rfl rfl rfl rfl<|l_q rfl (aL rfl rfl)<|lc<|aY rfl<|sr<|mv rfl rfl<|asg rfl rfl<|asg rfl rfl<|lc<|rt<|fr2 rfl ([ae pa s]) (.tmp rfl) (.tmp rfl) ⟨rfl,rfl⟩
 exact absurd h p1
theorem yg (i:Int) (hi:i < 0∨8≤i):aG Tryz.prog 123 #[.agg #[.pointer (some ⟨pa,0,none⟩),.int .i64 l.key,.int .i64 l.elem,.int .i64 l.ka,.int .i64 l.ea,.int .i64 l.cap,.int .i64 l.eo,.int .i64 l.bo,.int .i64 l.slot,.int .i64 l.group,.int .i64 (off:Nat)],.int .i64 i] [ae pa s] (fun v L=>v=.tuple #[.agg #[.int .i64 0,.int .i64 0,.string ⟨#[]⟩,.string ⟨#[]⟩,.int .i64 0],.int .i64 60]∧L= [ae pa s]):=by
 refine aq Ao Tryz.func123 rfl rfl rfl fun Fr w0=>aR ?_
 refine cI (φ:=s.ok) (fun w hw=>bQ hw .here) fun hok0=>?_
 refine sr<|aP rfl rfl fun b2=>az rfl cK fun b4=>asg rfl rfl<|lc<|ah<|sr<|l_q rfl (aK rfl cd bM) ?_
 refine lc1 rfl rfl rfl (fm pa off s l S hP) ?_
 refine mv rfl rfl<|l_q rfl (aa rfl ga) ?_
 refine l_q rfl (aa rfl ga) ?_
 refine az rfl cE fun b6=>sta rfl rfl rfl bP rfl rfl ?_
 refine asg rfl rfl<|lz<|mv rfl rfl<|l_q rfl (qi rfl rfl (aI ·))<|lc<|aA rfl (fun z=>?_) fun z=>?_
 ·exact absurd rfl z
 refine al<|nz<|l_q rfl (aK rfl cd bM) ?_
 refine lc1 rfl rfl rfl (eP pa off s l S hP hok0) ?_
 refine mv rfl rfl<|lc1 rfl rfl rfl (yr pa (off+32) s l hP.hl hP.grp i hi) ?_
 refine l_q rfl (aa rfl ga) ?_
 refine l_q rfl (aa rfl ga) ?_
 refine sta rfl rfl rfl bx rfl rfl ?_
 refine asg rfl rfl<|lc<|rt ?_
 apply aJ (.inl rfl) ([ae pa s])
 ·apply bS rfl
  ·apply Rv.agg rfl
   ·exact tk
   exact aD dh bx rfl
  exact .tmp rfl
 ·exact⟨rfl,rfl⟩
 exact en
def kr (l:Lay) (tag:Int) (key elem:ByteArray) (birth:Int):Int:=if(key.size:Int)≠l.key then 61 else if(elem.size:Int)≠l.elem then 62 else if tag < 0∨127 < tag then 63 else if birth < 0 then 64 else 0
theorem AR (tag:Int) (key elem:ByteArray) (birth:Int) (h:(key.size:Int)≠l.key):aG Tryz.prog 105 #[.agg #[.pointer (some ⟨pa,0,none⟩),.int .i64 l.key,.int .i64 l.elem,.int .i64 l.ka,.int .i64 l.ea,.int .i64 l.cap,.int .i64 l.eo,.int .i64 l.bo,.int .i64 l.slot,.int .i64 l.group,.int .i64 (off:Nat)],.int .i64 tag,.string key,.string elem,.int .i64 birth] [ae pa s] (fun v L=>v=.tuple #[.int .i64 0,.int .i64 61]∧L= [ae pa s]):=by
 refine aq tU Tryz.func105 rfl rfl rfl fun Fr w0=>aR ?_
 refine sr<|aP rfl rfl fun b5=>asg rfl rfl<|asg rfl rfl<|lz<|l_q rfl (aK rfl cd bM) ?_
 refine mv rfl rfl<|mv rfl rfl<|lc1 rfl rfl rfl (qk pa off s l S hP tag key h) ?_
 refine mv rfl rfl<|l_q rfl (aa rfl ga) ?_
 refine l_q rfl (aa rfl ga) ?_
 refine l_q rfl (aa rfl ga) ?_
 refine az rfl cE fun b12=>sta rfl rfl rfl bP rfl rfl ?_
 refine asg rfl rfl<|asg rfl rfl<|lc<|ah<|ax<|sr<|mv rfl rfl<|l_q rfl (qi rfl rfl (aI ·))<|mv rfl rfl<|bD (t:=28) rfl (fun p1=>?_) fun p1=>?_
 ·refine au rfl rfl<|mv rfl rfl<|au rfl rfl<|l_q rfl (qi rfl rfl (aI ·))<|l_q rfl (aL rfl rfl)<|asg rfl rfl<|lc<|ml (t:=25) rfl (fun p2=>?_) fun p2=>?_
  ·exact aY rfl<|sr<|mv rfl rfl<|asg rfl rfl<|asg rfl rfl<|lc<|rt<|fr2 rfl ([ae pa s]) (.tmp rfl) (.tmp rfl) ⟨rfl,rfl⟩
  exact absurd (by decide) p2
 exact absurd (by decide) p1
theorem AQ (tag:Int) (ht:tag < 0∨127 < tag) (key elem:ByteArray) (birth:Int) (hk:(key.size:Int)=l.key):aG Tryz.prog 105 #[.agg #[.pointer (some ⟨pa,0,none⟩),.int .i64 l.key,.int .i64 l.elem,.int .i64 l.ka,.int .i64 l.ea,.int .i64 l.cap,.int .i64 l.eo,.int .i64 l.bo,.int .i64 l.slot,.int .i64 l.group,.int .i64 (off:Nat)],.int .i64 tag,.string key,.string elem,.int .i64 birth] [ae pa s] (fun v L=>v=.tuple #[.int .i64 0,.int .i64 (if(elem.size:Int)≠l.elem then 62 else 63)]∧L= [ae pa s]):=by
 refine aq tU Tryz.func105 rfl rfl rfl fun Fr w0=>aR ?_
 refine sr<|aP rfl rfl fun b5=>asg rfl rfl<|asg rfl rfl<|lz<|l_q rfl (aK rfl cd bM) ?_
 refine mv rfl rfl<|mv rfl rfl<|lc1 rfl rfl rfl (qj pa off s l S hP tag ht key hk) ?_
 refine mv rfl rfl<|l_q rfl (aa rfl ga) ?_
 refine l_q rfl (aa rfl ga) ?_
 refine l_q rfl (aa rfl ga) ?_
 refine az rfl cE fun b12=>sta rfl rfl rfl bP rfl rfl ?_
 refine asg rfl rfl<|asg rfl rfl<|lc<|ah<|ax<|sr<|mv rfl rfl<|l_q rfl (qi rfl rfl (aI ·))<|mv rfl rfl<|bD (t:=28) rfl (fun p1=>?_) fun p1=>?_
 ·refine au rfl rfl<|mv rfl rfl<|au rfl rfl<|l_q rfl (qi rfl rfl (aI ·))<|l_q rfl (aL rfl rfl)<|asg rfl rfl<|lc<|ml (t:=25) rfl (fun p2=>?_) fun p2=>?_
  ·exact absurd rfl p2
  refine bR rfl<|sr<|mv rfl rfl<|l_q rfl (qls rfl yU9)<|l_q rfl (qfa 1 rfl gP rfl rfl aX)<|l_q rfl (qfa 1 rfl bK rfl rfl yS3)<|l_q rfl (qld rfl yA3) ?_
  refine l_q rfl (qi rfl rfl (aI ·))<|asg rfl rfl<|lc<|aA rfl (fun y=>?_) fun y=>?_
  ·refine sr<|asg rfl rfl<|asg rfl rfl<|lc<|rt<|fr2 rfl ([ae pa s]) (.tmp rfl) (.tmp rfl) ?_
   exact⟨by rw[if_pos y],rfl⟩
  refine sr<|mv rfl rfl<|l_q rfl (qi rfl rfl (aI ·))<|asg rfl rfl<|lc<|aA rfl (fun y2=>?_) fun y2=>?_
  ·refine sr<|mv rfl rfl<|asg rfl rfl<|asg rfl rfl<|lc<|rt<|fr2 rfl ([ae pa s]) (.tmp rfl) (.tmp rfl) ?_
   exact⟨by rw[if_neg y],rfl⟩
  exact absurd (by decide) y2
 exact absurd (by decide) p1
theorem qT (G:HP) (hGT:dz G) (t:Nat) (ht:t < 128) (key elem:ByteArray) (hk:key.size=kN l) (birth:Int) (h:(elem.size:Int)≠l.elem∨birth < 0):aG Tryz.prog 105 #[.agg #[.pointer (some ⟨pa,0,none⟩),.int .i64 l.key,.int .i64 l.elem,.int .i64 l.ka,.int .i64 l.ea,.int .i64 l.cap,.int .i64 l.eo,.int .i64 l.bo,.int .i64 l.slot,.int .i64 l.group,.int .i64 (off:Nat)],.int .i64 (t:Nat),.string key,.string elem,.int .i64 birth] [G,ae pa s] (fun v L=>v=.tuple #[.int .i64 0,.int .i64 (if(elem.size:Int)≠l.elem then 62 else 64)]∧L= [G,ae pa s]):=by
 refine aq tU Tryz.func105 rfl rfl rfl fun Fr w0=>aR ?_
 refine sr<|aP rfl rfl fun b5=>asg rfl rfl<|asg rfl rfl<|lz<|l_q rfl (aK rfl cd bM) ?_
 refine mv rfl rfl<|mv rfl rfl<|lc1 rfl rfl rfl (j8 G hGT pa off s l S hP t ht key hk) ?_
 refine mv rfl rfl<|l_q rfl (aa rfl ga) ?_
 refine l_q rfl (aa rfl ga) ?_
 refine l_q rfl (aa rfl ga) ?_
 refine az rfl cE fun b12=>sta rfl rfl rfl bP rfl rfl ?_
 refine asg rfl rfl<|asg rfl rfl<|lc<|ah<|ax<|sr<|mv rfl rfl<|l_q rfl (qi rfl rfl (aI ·))<|mv rfl rfl<|bD (t:=28) rfl (fun p1=>?_) fun p1=>?_
 ·exact absurd rfl p1
 refine ar rfl rfl rfl rfl<|ar rfl rfl rfl rfl<|l_q rfl (aL rfl rfl)<|asg rfl rfl<|lc<|bR rfl<|sr<|mv rfl rfl<|l_q rfl (qls rfl yU9)<|l_q rfl (qfa 1 rfl gP rfl rfl aX)<|l_q rfl (qfa 1 rfl bK rfl rfl yS3)<|l_q rfl (qld rfl yA3) ?_
 refine l_q rfl (qi rfl rfl (aI ·))<|asg rfl rfl<|lc<|aA rfl (fun y=>?_) fun y=>?_
 ·refine sr<|asg rfl rfl<|asg rfl rfl<|lc<|rt<|fr2 rfl ([G,ae pa s]) (.tmp rfl) (.tmp rfl) ?_
  exact⟨by rw[if_pos y],rfl⟩
 refine sr<|mv rfl rfl<|l_q rfl (qi rfl rfl (aI ·))<|asg rfl rfl<|lc<|aA rfl (fun y2=>?_) fun y2=>?_
 ·exact absurd rfl y2
 refine sr<|mv rfl rfl<|l_q rfl (qi rfl rfl (aU ·))<|asg rfl rfl<|lc<|aA rfl (fun y3=>?_) fun y3=>?_
 ·refine sr<|asg rfl rfl<|asg rfl rfl<|lc<|rt<|fr2 rfl ([G,ae pa s]) (.tmp rfl) (.tmp rfl) ?_
  exact⟨by rw[if_neg y],rfl⟩
 rcases h with q | q;(exact absurd q y);(exact absurd q y3)
theorem AS (G:HP) (hGT:dz G) (tag:Int) (key elem:ByteArray) (birth:Int) (h:kr l tag key elem birth≠0):aG Tryz.prog 105 #[.agg #[.pointer (some ⟨pa,0,none⟩),.int .i64 l.key,.int .i64 l.elem,.int .i64 l.ka,.int .i64 l.ea,.int .i64 l.cap,.int .i64 l.eo,.int .i64 l.bo,.int .i64 l.slot,.int .i64 l.group,.int .i64 (off:Nat)],.int .i64 tag,.string key,.string elem,.int .i64 birth] [G,ae pa s] (fun v L=>v=.tuple #[.int .i64 0,.int .i64 (kr l tag key elem birth)]∧L= [G,ae pa s]):=by
 unfold kr at h ⊢
 by_cases h1:(key.size:Int)≠l.key
 ·rw[if_pos h1]
  exact(aG.beside (AR pa off s l S hP tag key elem birth h1) G).mono fun v L ⟨L0,e,h1,h2⟩=>⟨h1,by rw[e,h2]⟩
 rw[if_neg h1] at h ⊢
 have hk:(key.size:Int)=l.key:=by omega
 by_cases h3:tag < 0∨127 < tag
 ·rw[if_pos h3]
  exact(aG.beside (AQ pa off s l S hP tag h3 key elem birth hk) G).mono fun v L ⟨L0,e,h1,h2⟩=>⟨h1,by rw[e,h2]⟩
 obtain⟨t,rfl⟩:=Int.eq_ofNat_of_zero_le (show 0≤tag by omega)
 rw[if_neg h3] at h ⊢
 have hkN:key.size=kN l:=by have:=hP.hN.k;omega
 by_cases h2:(elem.size:Int)≠l.elem
 ·have:=qT pa off s l S hP G hGT t (by omega) key elem hkN birth (.inl h2)
  rw[if_pos h2] at this ⊢
  exact this
 rw[if_neg h2] at h ⊢
 by_cases h4:birth < 0
 ·have:=qT pa off s l S hP G hGT t (by omega) key elem hkN birth (.inr h4)
  rw[if_neg h2] at this
  rw[if_pos h4]
  exact this
 rw[if_neg h4] at h;exact absurd rfl h
end
end Small
end Go.Proofs.YthkajgkagnenbaaGreatDoor
