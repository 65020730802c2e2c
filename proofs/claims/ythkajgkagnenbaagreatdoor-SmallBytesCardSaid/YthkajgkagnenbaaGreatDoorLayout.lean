import Derived.Test.YthkajgkagnenbaaGreatDoorCtrlB
set_option linter.unusedVariables false
set_option linter.unusedSimpArgs false
set_option linter.unusedSectionVars false
set_option maxRecDepth 100000
namespace Go.Proofs.YthkajgkagnenbaaGreatDoor.Layout
open Go.RowKit Go.Proofs Go.Proofs.YthkajgkagnenbaaGreatDoor.Eng Go.Proofs.YthkajgkagnenbaaGreatDoor.Ty Go.Proofs.YthkajgkagnenbaaGreatDoor.Bits
def powB (n lo hi:Int):Bool:=decide (lo≤n) && decide (n≤hi) && tn n
theorem pow2_eq {n:Int} (h1:1≤n) (h2:n≤1073741824):decide (bits .and .i64 n (n-1)=0)=tn n:=by
 unfold tn
 rw[show wrap64 (n-1)=n-1 by unfold wrap64;omega]
 by_cases h:bits .and .i64 n (n-1)=0 <;> simp[h]
theorem nZ {n lo hi:Int} (h:powB n lo hi=true):lo≤n∧n≤hi:=by simp only[powB,Bool.and_eq_true,decide_eq_true_eq] at h;omega
theorem power_ok (n lo hi:Int) (h1:1≤lo) (h2:hi≤1073741824):
  aG Tryz.prog 180 #[.int .i64 n,.int .i64 lo,.int .i64 hi] [] (fun v L=>v=.bool (powB n lo hi)∧L= []):=by
 refine aq F1 Tryz.func180 rfl rfl rfl fun Fr w0=>aR ?_
 refine sr<|asg rfl rfl<|lz<|mv rfl rfl<|mv rfl rfl<|l_q rfl (qi rfl rfl (gM ·))<|mv rfl rfl<|bD (t:=10) rfl (fun h=>?_) fun h=>?_
 ·refine au rfl rfl<|mv rfl rfl<|au rfl rfl<|mv rfl rfl<|au rfl rfl<|l_q rfl (qi rfl rfl (iw ·))<|l_q rfl (aL rfl rfl)<|mv rfl rfl<|bD (t:=15) rfl (fun k=>?_) fun k=>?_
  ·refine au rfl rfl<|mv rfl rfl<|au rfl rfl<|mv rfl rfl<|au rfl rfl<|l_q rfl (e9 rfl rfl) ?_
   refine au rfl rfl<|l_q rfl (gn rfl rfl rfl)<|au rfl rfl<|l_q rfl (qi rfl rfl (aZ ·))<|l_q rfl (aL rfl rfl)<|asg rfl rfl<|lc<|rt<|fr1 rfl ([]) (.tmp rfl) ?_
   exact⟨by rw[pow2_eq (by omega) (by omega)];simp[powB,h,k],rfl⟩
  refine ar rfl rfl rfl rfl<|ar rfl rfl rfl rfl<|ar rfl rfl rfl rfl<|ar rfl rfl rfl rfl<|ar rfl rfl rfl rfl<|l_q rfl (aL rfl rfl)<|asg rfl rfl<|lc<|rt<|fr1 rfl ([]) (.tmp rfl) ?_
  exact⟨by simp[powB,k],rfl⟩
 refine ar rfl rfl rfl rfl<|ar rfl rfl rfl rfl<|ar rfl rfl rfl rfl<|l_q rfl (aL rfl rfl)<|mv rfl rfl<|ar rfl rfl rfl rfl<|ar rfl rfl rfl rfl<|ar rfl rfl rfl rfl<|ar rfl rfl rfl rfl<|ar rfl rfl rfl rfl<|l_q rfl (aL rfl rfl)<|asg rfl rfl<|lc<|rt<|fr1 rfl ([]) (.tmp rfl) ?_
 exact⟨by simp[powB,h],rfl⟩
def eA (w a:Int):Bool:=powB a 1 8 && decide (w % a=0)
theorem ph (w a:Int) (hw:0≤w):aG Tryz.prog 244 #[.int .i64 w,.int .i64 a] [] (fun v L=>v=.bool (eA w a)∧L= []):=by
 refine aq Fa Tryz.func244 rfl rfl rfl fun Fr w0=>aR ?_
 refine sr<|asg rfl rfl<|lz<|mv rfl rfl<|lc1 rfl rfl rfl (power_ok _ _ _ (by omega) (by omega)) ?_
 refine mv rfl rfl<|bD (t:=7) rfl (fun h=>?_) fun h=>?_
 ·have hb:=nZ h
  refine au rfl rfl<|mv rfl rfl<|au rfl rfl<|mv rfl rfl<|au rfl rfl<|l_q rfl (iT rfl rfl) ?_
  refine au rfl rfl<|l_q rfl (qi rfl rfl (aZ ·))<|l_q rfl (aL rfl rfl)<|asg rfl rfl<|lc<|rt<|fr1 rfl ([]) (.tmp rfl) ?_
  exact⟨by simp[eA,h],rfl⟩
 refine ar rfl rfl rfl rfl<|ar rfl rfl rfl rfl<|ar rfl rfl rfl rfl<|ar rfl rfl rfl rfl<|l_q rfl (aL rfl rfl)<|asg rfl rfl<|lc<|rt<|fr1 rfl ([]) (.tmp rfl) ?_
 exact⟨by simp[eA,h],rfl⟩
def fK (n a:Int):Int:=(n+a-1) / a*a
theorem gZ {n a:Int} (h0:0≤n) (h1:1≤a):n≤fK n a∧fK n a≤n+a-1:=by
 unfold fK
 have x1:=Int.mul_ediv_add_emod (n+a-1) a
 have x2:=Int.emod_nonneg (n+a-1) (by omega:a≠0)
 have x3:=Int.emod_lt_of_pos (n+a-1) (by omega:0 < a)
 rw[Int.mul_comm] at x1
 omega
theorem td (n a:Int) (h0:0≤n∧n≤1000000) (h1:1≤a∧a≤1000):aG Tryz.prog 245 #[.int .i64 n,.int .i64 a] [] (fun v L=>v=.int .i64 (fK n a)∧L= []):=by
 have hb:=gZ h0.1 h1.1
 unfold fK at hb ⊢
 refine aq E9 Tryz.func245 rfl rfl rfl fun Fr w0=>aR ?_
 refine sr<|asg rfl rfl<|lz<|mv rfl rfl<|mv rfl rfl<|l_q rfl (ba rfl rfl) ?_
 refine l_q rfl (e9 rfl rfl) ?_
 refine mv rfl rfl<|l_q rfl (gI rfl rfl) ?_
 refine mv rfl rfl<|l_q rfl (dF rfl rfl) ?_
 exact asg rfl rfl<|lc<|rt<|fr1 rfl ([]) (.tmp rfl) ⟨rfl,rfl⟩
structure Lay where
 key:Int
 elem:Int
 ka:Int
 ea:Int
 cap:Int
 deriving DecidableEq
namespace Lay
def eo (l:Lay):Int:=fK l.key l.ea
def bo (l:Lay):Int:=fK (l.eo+l.elem) 8
def slot (l:Lay):Int:=l.bo+8
def group (l:Lay):Int:=8+8*l.slot
def err (l:Lay):Int:=if l.key < 1∨128 < l.key then 31 else if l.elem < 0∨128 < l.elem then 32 else if !eA l.key l.ka || !eA l.elem l.ea then 33 else if !powB l.cap 16 1024 then 34 else 0
def o (l:Lay) (x:Int):Int:=if l.err=0 then x else 0
@[reducible] def cells (l:Lay):Array Value:=#[.int .i64 l.key,.int .i64 l.elem,.int .i64 l.ka,.int .i64 l.ea,.int .i64 l.cap,.int .i64 l.eo,.int .i64 l.bo,.int .i64 l.slot,.int .i64 l.group]
@[reducible] def zeros:Array Value:=#[.int .i64 0,.int .i64 0,.int .i64 0,.int .i64 0,.int .i64 0,.int .i64 0,.int .i64 0,.int .i64 0,.int .i64 0]
theorem bnd {l:Lay} (h:l.err=0):1≤l.key∧l.key≤128∧0≤l.elem∧l.elem≤128∧1≤l.ea∧l.ea≤8∧l.key≤l.eo∧l.eo≤135∧l.eo+l.elem≤l.bo∧l.bo≤270∧l.slot=l.bo+8∧l.group=8+8*l.slot∧eA l.key l.ka=true∧eA l.elem l.ea=true∧powB l.cap 16 1024=true:=by
 unfold err at h
 split at h
 ·omega
 split at h
 ·omega
 split at h
 ·omega
 next h3=>
 split at h
 ·omega
 next h4=>
 simp only[Bool.or_eq_true,Bool.not_eq_true',not_or,Bool.not_eq_false] at h3 h4
 have ha:powB l.ea 1 8=true:=by have:=h3.2;simp only[eA,Bool.and_eq_true] at this;exact this.1
 have hb:=nZ ha
 have e1:=gZ (n:=l.key) (a:=l.ea) (by omega) (by omega)
 have e2:=gZ (n:=l.eo+l.elem) (a:=8) (by unfold eo;omega) (by omega)
 refine⟨by omega,by omega,by omega,by omega,by omega,by omega,e1.1,by unfold eo;omega,e2.1,?_,rfl,rfl,h3.1,h3.2,by simpa using h4⟩
 unfold bo
 unfold eo at e2 ⊢
 omega
end Lay
theorem Lay.e31 {l:Lay} (h:l.key < 1∨128 < l.key):l.err=31:=by unfold Lay.err;rw[if_pos h]
theorem Lay.e32 {l:Lay} (h1:¬ l.key < 1) (h2:¬ 128 < l.key) (h:l.elem < 0∨128 < l.elem):l.err=32:=by unfold Lay.err;rw[if_neg (by omega),if_pos h]
theorem Lay.e33 {l:Lay} (h1:¬ l.key < 1) (h2:¬ 128 < l.key) (h3:¬ l.elem < 0) (h4:¬ 128 < l.elem) (h:eA l.key l.ka=false∨eA l.elem l.ea=false):l.err=33:=by
 unfold Lay.err;rw[if_neg (by omega),if_neg (by omega),if_pos (by rcases h with h | h <;> simp[h])]
theorem Lay.e34 {l:Lay} (h1:¬ l.key < 1) (h2:¬ 128 < l.key) (h3:¬ l.elem < 0) (h4:¬ 128 < l.elem) (h5:eA l.key l.ka=true) (h6:eA l.elem l.ea=true) (h:powB l.cap 16 1024=false):l.err=34:=by
 unfold Lay.err;rw[if_neg (by omega),if_neg (by omega),if_neg (by simp[h5,h6]),if_pos (by simp[h])]
theorem Lay.e0 {l:Lay} (h1:¬ l.key < 1) (h2:¬ 128 < l.key) (h3:¬ l.elem < 0) (h4:¬ 128 < l.elem) (h5:eA l.key l.ka=true) (h6:eA l.elem l.ea=true) (h:powB l.cap 16 1024=true):l.err=0:=by
 unfold Lay.err;rw[if_neg (by omega),if_neg (by omega),if_neg (by simp[h5,h6]),if_neg (by simp[h])]
theorem Lay.eo_ok (l:Lay) (h0:0≤l.key∧l.key≤1000000) (h1:1≤l.ea∧l.ea≤1000):aG Tryz.prog 245 #[.int .i64 l.key,.int .i64 l.ea] [] (fun v L=>v=.int .i64 l.eo∧L= []):=td _ _ h0 h1
theorem Lay.bo_ok (l:Lay) (h0:0≤l.eo+l.elem∧l.eo+l.elem≤1000000):aG Tryz.prog 245 #[.int .i64 (l.eo+l.elem),.int .i64 8] [] (fun v L=>v=.int .i64 l.bo∧L= []):=td _ _ h0 (by omega)
theorem Parse_ok (b:Nat) (l:Lay):aG Tryz.prog 222 #[.slice (some ⟨b,0,none⟩) 5 5] [pt b (.cells #[.int .i64 l.key,.int .i64 l.elem,.int .i64 l.ka,.int .i64 l.ea,.int .i64 l.cap] 3 (0,0))]
  (fun v L=>v=.tuple #[.agg #[.int .i64 (l.o l.key),.int .i64 (l.o l.elem),.int .i64 (l.o l.ka),.int .i64 (l.o l.ea),.int .i64 (l.o l.cap),.int .i64 (l.o l.eo),.int .i64 (l.o l.bo),.int .i64 (l.o l.slot),.int .i64 (l.o l.group)],.int .i64 l.err]∧L= [pt b (.cells #[.int .i64 l.key,.int .i64 l.elem,.int .i64 l.ka,.int .i64 l.ea,.int .i64 l.cap] 3 (0,0))]):=by
 refine aq Fq Tryz.func222 rfl rfl rfl fun Fr w0=>aR ?_
 refine sr<|az rfl fO fun b2=>asg rfl rfl<|lc<|ah<|sr<|mv rfl rfl<|l_q rfl (ql rfl bn)<|l_q rfl (qi rfl rfl (aI ·))<|lc<|aA rfl (fun h=>?_) fun h=>?_
 ·exact absurd rfl h
 refine al<|ak<|ah<|aS mixed ?_
 apply dq 0 rfl
 ·exact yq (ai rfl)
 apply dq 1 rfl
 ·apply yq
  first | exact aM 0 rfl rfl bn yS3 (by omega) | exact ay rfl rfl bn yS3 (by omega)
 apply dq 2 rfl
 ·exact yq (qld rfl yA3)
 apply dq 3 rfl
 ·exact yq (ai rfl)
 apply dq 4 rfl
 ·apply yq
  first | exact aM 1 rfl rfl bn yS3 (by omega) | exact ay rfl rfl bn yS3 (by omega)
 apply dq 5 rfl
 ·exact yq (qld rfl yA3)
 apply dq 6 rfl
 ·exact yq (ai rfl)
 apply dq 7 rfl
 ·apply yq
  first | exact aM 2 rfl rfl bn yS3 (by omega) | exact ay rfl rfl bn yS3 (by omega)
 apply dq 8 rfl
 ·exact yq (qld rfl yA3)
 apply dq 9 rfl
 ·exact yq (ai rfl)
 apply dq 10 rfl
 ·apply yq
  first | exact aM 3 rfl rfl bn yS3 (by omega) | exact ay rfl rfl bn yS3 (by omega)
 apply dq 11 rfl
 ·exact yq (qld rfl yA3)
 apply dq 12 rfl
 ·exact yq (ai rfl)
 apply dq 13 rfl
 ·apply yq
  first | exact aM 4 rfl rfl bn yS3 (by omega) | exact ay rfl rfl bn yS3 (by omega)
 apply dq 14 rfl
 ·exact yq (qld rfl yA3)
 apply dq 15 rfl
 ·apply yq
  apply aQ rfl jw fO
  apply aF.one
  ·repeat (first | exact aH.here | apply aH.there)
  ·rfl
  ·exact sa
  apply aF.one
  ·repeat (first | exact aH.here | apply aH.there)
  ·rfl
  ·exact sa
  apply aF.one
  ·repeat (first | exact aH.here | apply aH.there)
  ·rfl
  ·exact sa
  apply aF.one
  ·repeat (first | exact aH.here | apply aH.there)
  ·rfl
  ·exact sa
  apply aF.one
  ·repeat (first | exact aH.here | apply aH.there)
  ·rfl
  ·exact sa
  exact aF.nil
 refine an [] [15,14,13,12,11,10,9,8,7,6,5,4,3,2,1,0] 16 [] gO trivial (by kernel_rfl) (by kernel_rfl) fun Ex=>?_
 refine az rfl fO fun b4=>aj ?_
 apply n_d
 ·refine⟨?_,?_,?_,?_,?_,?_,?_,?_,?_,?_,?_,?_,?_,?_,?_,?_,trivial⟩
  ·apply ya rfl rfl
   apply yq
   apply aQ rfl jw fO
   apply aF.one
   ·repeat (first | exact aH.here | apply aH.there)
   ·rfl
   ·exact sa
   apply aF.one
   ·repeat (first | exact aH.here | apply aH.there)
   ·rfl
   ·exact sa
   apply aF.one
   ·repeat (first | exact aH.here | apply aH.there)
   ·rfl
   ·exact sa
   apply aF.one
   ·repeat (first | exact aH.here | apply aH.there)
   ·rfl
   ·exact sa
   apply aF.one
   ·repeat (first | exact aH.here | apply aH.there)
   ·rfl
   ·exact sa
   exact aF.nil
  ·apply ya rfl rfl;exact yq (qld rfl yA3)
  ·apply ya rfl rfl
   apply yq
   first | exact aM 4 rfl rfl bn yS3 (by omega) | exact ay rfl rfl bn yS3 (by omega)
  ·apply ya rfl rfl;exact yq (ai rfl)
  ·apply ya rfl rfl;exact yq (qld rfl yA3)
  ·apply ya rfl rfl
   apply yq
   first | exact aM 3 rfl rfl bn yS3 (by omega) | exact ay rfl rfl bn yS3 (by omega)
  ·apply ya rfl rfl;exact yq (ai rfl)
  ·apply ya rfl rfl;exact yq (qld rfl yA3)
  ·apply ya rfl rfl
   apply yq
   first | exact aM 2 rfl rfl bn yS3 (by omega) | exact ay rfl rfl bn yS3 (by omega)
  ·apply ya rfl rfl;exact yq (ai rfl)
  ·apply ya rfl rfl;exact yq (qld rfl yA3)
  ·apply ya rfl rfl
   apply yq
   first | exact aM 1 rfl rfl bn yS3 (by omega) | exact ay rfl rfl bn yS3 (by omega)
  ·apply ya rfl rfl;exact yq (ai rfl)
  ·apply ya rfl rfl;exact yq (qld rfl yA3)
  ·apply ya rfl rfl
   apply yq
   first | exact aM 0 rfl rfl bn yS3 (by omega) | exact ay rfl rfl bn yS3 (by omega)
  apply ya rfl rfl;exact yq (ai rfl)
 refine an [15,0,1,2,3,4,5,6,7,8,9,10,11,12,13,14] [] 17 [(4,_),(24,_)] gO ⟨rfl,rfl,trivial⟩ (by kernel_rfl) (by kernel_rfl) fun Ex=>?_
 refine sta rfl rfl rfl aX rfl rfl ?_
 refine aj ?_
 apply n_d
 ·exact trivial
 refine bd (by kernel_rfl) ?_
 refine ak<|ah<|ax<|sr<|l_q rfl (qfa 0 rfl bK rfl rfl yS3)<|l_q rfl (qld rfl yA3) ?_
 refine l_q rfl (qi rfl rfl (aU ·))<|mv rfl rfl<|bD (t:=29) rfl (fun p1=>?_) fun p1=>?_
 ·refine ar rfl rfl rfl rfl<|ar rfl rfl rfl rfl<|ar rfl rfl rfl rfl<|l_q rfl (aL rfl rfl)<|asg rfl rfl<|lc<|aY rfl<|sr ?_
  apply l_q rfl
  ·apply aQ rfl jw fO
   exact aF.nil
  refine sta rfl rfl rfl aX rfl rfl ?_
  refine asg rfl rfl<|lc<|rt ?_
  apply aJ (.inl rfl) ([pt b (.cells #[.int .i64 l.key,.int .i64 l.elem,.int .i64 l.ka,.int .i64 l.ea,.int .i64 l.cap] 3 (0,0))])
  ·apply bS rfl
   ·apply Rv.agg rfl
    ·exact tk
    exact aD cu aX rfl
   exact .tmp rfl
  ·have he:=Lay.e31 (.inl p1);have ho:∀ x,l.o x=0:=fun x=>(by unfold Lay.o;simp[he]);exact⟨by simp only[ho,he],rfl⟩
  exact en
 refine au rfl rfl<|l_q rfl (qfa 0 rfl bK rfl rfl yS3)<|au rfl rfl<|l_q rfl (qld rfl yA3) ?_
 refine au rfl rfl<|l_q rfl (qi rfl rfl (cU ·))<|l_q rfl (aL rfl rfl)<|asg rfl rfl<|lc<|aA rfl (fun p2=>?_) fun p2=>?_
 ·refine sr ?_
  apply l_q rfl
  ·apply aQ rfl jw fO
   exact aF.nil
  refine sta rfl rfl rfl aX rfl rfl ?_
  refine asg rfl rfl<|lc<|rt ?_
  apply aJ (.inl rfl) ([pt b (.cells #[.int .i64 l.key,.int .i64 l.elem,.int .i64 l.ka,.int .i64 l.ea,.int .i64 l.cap] 3 (0,0))])
  ·apply bS rfl
   ·apply Rv.agg rfl
    ·exact tk
    exact aD cu aX rfl
   exact .tmp rfl
  ·have he:=Lay.e31 (.inr p2);have ho:∀ x,l.o x=0:=fun x=>(by unfold Lay.o;simp[he]);exact⟨by simp only[ho,he],rfl⟩
  exact en
 refine sr<|l_q rfl (qfa 1 rfl bK rfl rfl yS3)<|l_q rfl (qld rfl yA3) ?_
 refine l_q rfl (qi rfl rfl (aU ·))<|mv rfl rfl<|bD (t:=39) rfl (fun p3=>?_) fun p3=>?_
 ·refine ar rfl rfl rfl rfl<|ar rfl rfl rfl rfl<|ar rfl rfl rfl rfl<|l_q rfl (aL rfl rfl)<|asg rfl rfl<|lc<|aY rfl<|sr ?_
  apply l_q rfl
  ·apply aQ rfl jw fO
   exact aF.nil
  refine sta rfl rfl rfl aX rfl rfl ?_
  refine asg rfl rfl<|lc<|rt ?_
  apply aJ (.inl rfl) ([pt b (.cells #[.int .i64 l.key,.int .i64 l.elem,.int .i64 l.ka,.int .i64 l.ea,.int .i64 l.cap] 3 (0,0))])
  ·apply bS rfl
   ·apply Rv.agg rfl
    ·exact tk
    exact aD cu aX rfl
   exact .tmp rfl
  ·have he:=Lay.e32 p1 p2 (.inl p3);have ho:∀ x,l.o x=0:=fun x=>(by unfold Lay.o;simp[he]);exact⟨by simp only[ho,he],rfl⟩
  exact en
 refine au rfl rfl<|l_q rfl (qfa 1 rfl bK rfl rfl yS3)<|au rfl rfl<|l_q rfl (qld rfl yA3) ?_
 refine au rfl rfl<|l_q rfl (qi rfl rfl (cU ·))<|l_q rfl (aL rfl rfl)<|asg rfl rfl<|lc<|aA rfl (fun p4=>?_) fun p4=>?_
 ·refine sr ?_
  apply l_q rfl
  ·apply aQ rfl jw fO
   exact aF.nil
  refine sta rfl rfl rfl aX rfl rfl ?_
  refine asg rfl rfl<|lc<|rt ?_
  apply aJ (.inl rfl) ([pt b (.cells #[.int .i64 l.key,.int .i64 l.elem,.int .i64 l.ka,.int .i64 l.ea,.int .i64 l.cap] 3 (0,0))])
  ·apply bS rfl
   ·apply Rv.agg rfl
    ·exact tk
    exact aD cu aX rfl
   exact .tmp rfl
  ·have he:=Lay.e32 p1 p2 (.inr p4);have ho:∀ x,l.o x=0:=fun x=>(by unfold Lay.o;simp[he]);exact⟨by simp only[ho,he],rfl⟩
  exact en
 refine sr<|l_q rfl (qfa 0 rfl bK rfl rfl yS3)<|l_q rfl (qld rfl yA3) ?_
 refine l_q rfl (qfa 2 rfl bK rfl rfl yS3)<|l_q rfl (qld rfl yA3) ?_
 refine lc1 rfl rfl rfl (ph _ _ (by omega)) ?_
 refine l_q rfl (cX rfl (bY ·))<|mv rfl rfl<|bD (t:=52) rfl (fun p5=>?_) fun p5=>?_
 ·refine ar rfl rfl rfl rfl<|ar rfl rfl rfl rfl<|ar rfl rfl rfl rfl<|ar rfl rfl rfl rfl<|ar rfl rfl rfl rfl<|ar rfl rfl rfl rfl<|l_q rfl (aL rfl rfl)<|asg rfl rfl<|lc<|aY rfl<|sr ?_
  apply l_q rfl
  ·apply aQ rfl jw fO
   exact aF.nil
  refine sta rfl rfl rfl aX rfl rfl ?_
  refine asg rfl rfl<|lc<|rt ?_
  apply aJ (.inl rfl) ([pt b (.cells #[.int .i64 l.key,.int .i64 l.elem,.int .i64 l.ka,.int .i64 l.ea,.int .i64 l.cap] 3 (0,0))])
  ·apply bS rfl
   ·apply Rv.agg rfl
    ·exact tk
    exact aD cu aX rfl
   exact .tmp rfl
  ·have he:=Lay.e33 p1 p2 p3 p4 (.inl (by simpa using p5));have ho:∀ x,l.o x=0:=fun x=>(by unfold Lay.o;simp[he]);exact⟨by simp only[ho,he],rfl⟩
  exact en
 refine au rfl rfl<|l_q rfl (qfa 1 rfl bK rfl rfl yS3)<|au rfl rfl<|l_q rfl (qld rfl yA3) ?_
 refine au rfl rfl<|l_q rfl (qfa 3 rfl bK rfl rfl yS3)<|au rfl rfl<|l_q rfl (qld rfl yA3) ?_
 refine au rfl rfl<|lc1 rfl rfl rfl (ph _ _ (by omega)) ?_
 refine au rfl rfl<|l_q rfl (cX rfl (bY ·))<|l_q rfl (aL rfl rfl)<|asg rfl rfl<|lc<|aA rfl (fun p6=>?_) fun p6=>?_
 ·refine sr ?_
  apply l_q rfl
  ·apply aQ rfl jw fO
   exact aF.nil
  refine sta rfl rfl rfl aX rfl rfl ?_
  refine asg rfl rfl<|lc<|rt ?_
  apply aJ (.inl rfl) ([pt b (.cells #[.int .i64 l.key,.int .i64 l.elem,.int .i64 l.ka,.int .i64 l.ea,.int .i64 l.cap] 3 (0,0))])
  ·apply bS rfl
   ·apply Rv.agg rfl
    ·exact tk
    exact aD cu aX rfl
   exact .tmp rfl
  ·have he:=Lay.e33 p1 p2 p3 p4 (.inr (by simpa using p6));have ho:∀ x,l.o x=0:=fun x=>(by unfold Lay.o;simp[he]);exact⟨by simp only[ho,he],rfl⟩
  exact en
 refine sr<|l_q rfl (qfa 4 rfl bK rfl rfl yS3)<|l_q rfl (qld rfl yA3) ?_
 refine lc1 rfl rfl rfl (power_ok _ _ _ (by omega) (by omega)) ?_
 refine l_q rfl (cX rfl (bY ·))<|asg rfl rfl<|lc<|aA rfl (fun p7=>?_) fun p7=>?_
 ·refine sr ?_
  apply l_q rfl
  ·apply aQ rfl jw fO
   exact aF.nil
  refine sta rfl rfl rfl aX rfl rfl ?_
  refine asg rfl rfl<|lc<|rt ?_
  apply aJ (.inl rfl) ([pt b (.cells #[.int .i64 l.key,.int .i64 l.elem,.int .i64 l.ka,.int .i64 l.ea,.int .i64 l.cap] 3 (0,0))])
  ·apply bS rfl
   ·apply Rv.agg rfl
    ·exact tk
    exact aD cu aX rfl
   exact .tmp rfl
  ·have he:=Lay.e34 p1 p2 p3 p4 (by simpa using p5) (by simpa using p6) (by simpa using p7);have ho:∀ x,l.o x=0:=fun x=>(by unfold Lay.o;simp[he]);exact⟨by simp only[ho,he],rfl⟩
  exact en
 refine al<|aV<|nz<|l_q rfl (qfa 0 rfl bK rfl rfl yS3)<|l_q rfl (qld rfl yA3) ?_
 refine l_q rfl (qfa 3 rfl bK rfl rfl yS3)<|l_q rfl (qld rfl yA3) ?_
 have he:=Lay.e0 p1 p2 p3 p4 (by simpa using p5) (by simpa using p6) (by simpa using p7)
 have hb:=Lay.bnd he
 refine lc1 rfl rfl rfl (Lay.eo_ok l (by omega) (by omega)) ?_
 refine l_q rfl (qfa 5 rfl bK rfl rfl yS3)<|st rfl rfl rfl yS3 rfl ?_
 refine lz<|l_q rfl (qfa 5 rfl bK rfl rfl yS3)<|l_q rfl (qld rfl yA3) ?_
 refine l_q rfl (qfa 1 rfl bK rfl rfl yS3)<|l_q rfl (qld rfl yA3) ?_
 refine l_q rfl (ba rfl rfl) ?_
 refine lc1 rfl rfl rfl (Lay.bo_ok l (by omega)) ?_
 refine l_q rfl (qfa 6 rfl bK rfl rfl yS3)<|st rfl rfl rfl yS3 rfl ?_
 refine lz<|l_q rfl (qfa 6 rfl bK rfl rfl yS3)<|l_q rfl (qld rfl yA3) ?_
 refine l_q rfl (ba rfl rfl) ?_
 refine l_q rfl (qfa 7 rfl bK rfl rfl yS3)<|st rfl rfl rfl yS3 rfl ?_
 refine lz<|l_q rfl (qfa 7 rfl bK rfl rfl yS3)<|l_q rfl (qld rfl yA3) ?_
 refine l_q rfl (dF rfl rfl) ?_
 refine l_q rfl (ba rfl rfl) ?_
 refine l_q rfl (qfa 8 rfl bK rfl rfl yS3)<|st rfl rfl rfl yS3 rfl ?_
 refine lz<|l_q rfl (aK rfl cu aX) ?_
 refine sta rfl rfl rfl aX rfl rfl ?_
 refine asg rfl rfl<|lc<|rt ?_
 apply aJ (.inl rfl) ([pt b (.cells #[.int .i64 l.key,.int .i64 l.elem,.int .i64 l.ka,.int .i64 l.ea,.int .i64 l.cap] 3 (0,0))])
 ·apply bS rfl
  ·apply Rv.agg rfl
   ·exact tk
   exact aD cu aX rfl
  exact .tmp rfl
 ·have ho:∀ x,l.o x=x:=fun x=>(by unfold Lay.o;simp[he]);exact⟨by simp only[ho,he];rfl,rfl⟩
 exact en
def EW (cs:List Value):Prop:=∃ l:Lay,l.err=0∧cs=l.cells.toList
theorem Valid_ok (k e ka ea cp eo bo sl g:Int):aG Tryz.prog 181 #[.agg #[.int .i64 k,.int .i64 e,.int .i64 ka,.int .i64 ea,.int .i64 cp,.int .i64 eo,.int .i64 bo,.int .i64 sl,.int .i64 g]] []
  (fun v L=>∃ b:Bool,v=.bool b∧L= []∧(b=true↔EW [.int .i64 k,.int .i64 e,.int .i64 ka,.int .i64 ea,.int .i64 cp,.int .i64 eo,.int .i64 bo,.int .i64 sl,.int .i64 g])):=by
 refine aq F0 Tryz.func181 rfl rfl rfl fun Fr w0=>aR ?_
 refine sr<|aP rfl rfl fun b1=>asg rfl rfl<|lz<|l_q rfl (qfa 0 rfl bK rfl rfl yS3)<|l_q rfl (qld rfl yA3) ?_
 refine l_q rfl (qfa 1 rfl bK rfl rfl yS3)<|l_q rfl (qld rfl yA3) ?_
 refine l_q rfl (qfa 2 rfl bK rfl rfl yS3)<|l_q rfl (qld rfl yA3) ?_
 refine l_q rfl (qfa 3 rfl bK rfl rfl yS3)<|l_q rfl (qld rfl yA3) ?_
 refine l_q rfl (qfa 4 rfl bK rfl rfl yS3)<|l_q rfl (qld rfl yA3) ?_
 refine aW [_,_,_,_,_] rfl rfl bn yS3 yZ3 rfl rfl rfl rfl (fun b16=>?_)
 refine lc1 rfl rfl rfl (Parse_ok _ ⟨k,e,ka,ea,cp⟩) ?_
 refine mv rfl rfl<|l_q rfl (aa rfl ga) ?_
 refine l_q rfl (aa rfl ga) ?_
 refine az rfl fO fun b3=>sta rfl rfl rfl aX rfl rfl ?_
 refine asg rfl rfl<|lz<|mv rfl rfl<|l_q rfl (qi rfl rfl (aZ ·))<|mv rfl rfl<|bD (t:=22) rfl (fun h=>?_) fun h=>?_
 ·refine au rfl rfl<|l_q rfl (aK rfl cu aX) ?_
  refine au rfl rfl<|l_q rfl (aK rfl cu aX) ?_
  refine au rfl rfl<|l_q rfl (fz rfl rfl (l5 · EF) fun w=>g7 w bK ED (by kernel_rfl) (by kernel_rfl)) ?_
  refine l_q rfl (aL rfl rfl)<|asg rfl rfl<|lc<|rt ?_
  have ho:∀ x,(⟨k,e,ka,ea,cp⟩:Lay).o x=x:=fun x=>(by unfold Lay.o;simp[h])
  refine fr1 rfl ([]) (.tmp rfl) ?_
  (refine⟨_,rfl,rfl,?_⟩;simp only[ho,decide_eq_true_eq];exact⟨fun q=>⟨⟨k,e,ka,ea,cp⟩,h,q.symm⟩,fun⟨l,hl,q⟩=>(by simp only[List.cons.injEq,Value.int.injEq,true_and] at q;obtain⟨rfl,rfl,rfl,rfl,rfl,rfl,rfl,rfl,rfl,_⟩:=q;rfl)⟩)
 refine ar rfl rfl rfl rfl<|ar rfl rfl rfl rfl<|ar rfl rfl rfl rfl<|l_q rfl (aL rfl rfl)<|asg rfl rfl<|lc<|rt<|fr1 rfl ([]) (.tmp rfl) ?_
 exact⟨false,rfl,rfl,by simp;rintro⟨l,hl,q⟩;simp only[List.cons.injEq,Value.int.injEq,true_and] at q;obtain⟨rfl,rfl,rfl,rfl,rfl,_⟩:=q;exact h hl⟩
theorem nt (l:Lay) (hl:l.err=0):aG Tryz.prog 181 #[.agg l.cells] [] (fun v L=>v=.bool true∧L= []):=
 (Valid_ok l.key l.elem l.ka l.ea l.cap l.eo l.bo l.slot l.group).mono fun v L ⟨b,hv,hL,hb⟩=>⟨by rw[hv,hb.2 ⟨l,hl,rfl⟩],hL⟩
def eJ (l:Lay) (i off:Int):Int:=if i < 0∨8≤i then -1 else 8+i*l.slot+off
theorem oF (l:Lay) (hl:l.err=0) (i off:Int) (ho:0≤off∧off≤1000):aG Tryz.prog 228 #[.agg l.cells,.int .i64 i,.int .i64 off] [] (fun v L=>v=.int .i64 (eJ l i off)∧L= []):=by
 have hb:=Lay.bnd hl
 refine aq Fl Tryz.func228 rfl rfl rfl fun Fr w0=>aR ?_
 refine sr<|aP rfl rfl fun b3=>asg rfl rfl<|lc<|ah<|sr<|mv rfl rfl<|l_q rfl (qi rfl rfl (aU ·))<|mv rfl rfl<|bD (t:=9) rfl (fun h=>?_) fun h=>?_
 ·refine ar rfl rfl rfl rfl<|ar rfl rfl rfl rfl<|l_q rfl (aL rfl rfl)<|mv rfl rfl<|ar rfl rfl rfl rfl<|ar rfl rfl rfl rfl<|ar rfl rfl rfl rfl<|l_q rfl (aL rfl rfl)<|lc<|aY rfl<|sr<|asg rfl rfl<|lc<|rt<|fr1 rfl ([]) (.tmp rfl) ?_
  exact⟨by unfold eJ;rw[if_pos (.inl h)],rfl⟩
 refine au rfl rfl<|mv rfl rfl<|au rfl rfl<|l_q rfl (qi rfl rfl (gM ·))<|l_q rfl (aL rfl rfl)<|mv rfl rfl<|bD (t:=13) rfl (fun k=>?_) fun k=>?_
 ·refine ar rfl rfl rfl rfl<|ar rfl rfl rfl rfl<|ar rfl rfl rfl rfl<|l_q rfl (aL rfl rfl)<|lc<|aY rfl<|sr<|asg rfl rfl<|lc<|rt<|fr1 rfl ([]) (.tmp rfl) ?_
  exact⟨by unfold eJ;rw[if_pos (.inr k)],rfl⟩
 refine au rfl rfl<|l_q rfl (aK rfl cu aX) ?_
 refine au rfl rfl ?_
 have hm:0≤i*l.slot∧i*l.slot≤7*278:=⟨Int.mul_nonneg (by omega) (by omega),Int.mul_le_mul (by omega) (by omega) (by omega) (by omega)⟩
 refine lc1 rfl rfl rfl (nt l hl) ?_
 refine au rfl rfl<|l_q rfl (cX rfl (bY ·))<|l_q rfl (aL rfl rfl)<|lc<|aA rfl (fun z=>?_) fun z=>?_
 ·exact absurd z (by simp)
 refine al<|nz<|mv rfl rfl<|l_q rfl (qfa 7 rfl bK rfl rfl yS3)<|l_q rfl (qld rfl yA3) ?_
 refine l_q rfl (dF rfl rfl) ?_
 refine l_q rfl (ba rfl rfl) ?_
 refine mv rfl rfl<|l_q rfl (ba rfl rfl) ?_
 refine asg rfl rfl<|lc<|rt<|fr1 rfl ([]) (.tmp rfl) ?_
 exact⟨by unfold eJ;rw[if_neg (by omega)],rfl⟩
theorem mT (l:Lay) (hl:l.err=0) (i:Int):aG Tryz.prog 197 #[.agg l.cells,.int .i64 i] [] (fun v L=>v=.int .i64 (eJ l i 0)∧L= []):=by
 refine aq FI Tryz.func197 rfl rfl rfl fun Fr w0=>aR ?_
 refine sr<|aP rfl rfl fun b2=>asg rfl rfl<|lz<|l_q rfl (aK rfl cu aX) ?_
 refine mv rfl rfl<|lc1 rfl rfl rfl (oF l hl _ _ (by omega)) ?_
 exact asg rfl rfl<|lc<|rt<|fr1 rfl ([]) (.tmp rfl) ⟨rfl,rfl⟩
theorem ny (l:Lay) (hl:l.err=0) (i:Int):aG Tryz.prog 196 #[.agg l.cells,.int .i64 i] [] (fun v L=>v=.int .i64 (eJ l i l.eo)∧L= []):=by
 have hb:=Lay.bnd hl
 refine aq FJ Tryz.func196 rfl rfl rfl fun Fr w0=>aR ?_
 refine sr<|aP rfl rfl fun b2=>asg rfl rfl<|lz<|l_q rfl (aK rfl cu aX) ?_
 refine mv rfl rfl<|l_q rfl (qfa 5 rfl bK rfl rfl yS3)<|l_q rfl (qld rfl yA3) ?_
 refine lc1 rfl rfl rfl (oF l hl _ _ (by omega)) ?_
 exact asg rfl rfl<|lc<|rt<|fr1 rfl ([]) (.tmp rfl) ⟨rfl,rfl⟩
theorem vE (l:Lay) (hl:l.err=0) (i:Int):aG Tryz.prog 230 #[.agg l.cells,.int .i64 i] [] (fun v L=>v=.int .i64 (eJ l i l.bo)∧L= []):=by
 have hb:=Lay.bnd hl
 refine aq Fj Tryz.func230 rfl rfl rfl fun Fr w0=>aR ?_
 refine sr<|aP rfl rfl fun b2=>asg rfl rfl<|lz<|l_q rfl (aK rfl cu aX) ?_
 refine mv rfl rfl<|l_q rfl (qfa 6 rfl bK rfl rfl yS3)<|l_q rfl (qld rfl yA3) ?_
 refine lc1 rfl rfl rfl (oF l hl _ _ (by omega)) ?_
 exact asg rfl rfl<|lc<|rt<|fr1 rfl ([]) (.tmp rfl) ⟨rfl,rfl⟩
theorem yo (l:Lay) (hl:l.err=0) (n:Int) (hn:powB n 8 65536=true):aG Tryz.prog 130 #[.agg l.cells,.int .i64 n] [] (fun v L=>v=.int .i64 (n / 8*l.group)∧L= []):=by
 have hb:=Lay.bnd hl
 have hn1:=nZ hn
 have hm:0≤n / 8*l.group∧n / 8*l.group≤8192*2232:=⟨Int.mul_nonneg (by omega) (by omega),Int.mul_le_mul (by omega) (by omega) (by omega) (by omega)⟩
 refine aq GC Tryz.func130 rfl rfl rfl fun Fr w0=>aR ?_
 refine sr<|aP rfl rfl fun b2=>asg rfl rfl<|lc<|ah<|sr<|mv rfl rfl<|lc1 rfl rfl rfl (power_ok _ _ _ (by omega) (by omega)) ?_
 refine l_q rfl (cX rfl (bY ·))<|mv rfl rfl<|bD (t:=8) rfl (fun h=>?_) fun h=>?_
 ·rw[hn] at h;cases h
 refine au rfl rfl<|l_q rfl (aK rfl cu aX) ?_
 refine au rfl rfl<|lc1 rfl rfl rfl (nt l hl) ?_
 refine au rfl rfl<|l_q rfl (cX rfl (bY ·))<|l_q rfl (aL rfl rfl)<|lc<|aA rfl (fun z=>?_) fun z=>?_
 ·exact absurd z (by simp)
 refine al<|nz<|mv rfl rfl<|l_q rfl (gI rfl rfl) ?_
 refine l_q rfl (qfa 8 rfl bK rfl rfl yS3)<|l_q rfl (qld rfl yA3) ?_
 refine l_q rfl (dF rfl rfl) ?_
 exact asg rfl rfl<|lc<|rt<|fr1 rfl ([]) (.tmp rfl) ⟨rfl,rfl⟩
end Go.Proofs.YthkajgkagnenbaaGreatDoor.Layout
