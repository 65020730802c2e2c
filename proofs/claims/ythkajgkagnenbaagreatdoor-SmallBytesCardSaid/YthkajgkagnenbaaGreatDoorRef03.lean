import Derived.Test.YthkajgkagnenbaaGreatDoorTableI
import Derived.Test.YthkajgkagnenbaaGreatDoorCtrl
set_option linter.unusedVariables false
set_option linter.unusedSimpArgs false
set_option linter.unusedSectionVars false
set_option maxRecDepth 100000
namespace Go.Proofs.YthkajgkagnenbaaGreatDoor
namespace Ref03
open Go.RowKit Go.Proofs Eng Ty Bits Layout Mem
def A5 (k:IntKind) (A:HP) (v:Value) (xs:List Int):Prop:=∃ a cap,v=.slice a xs.length cap∧(0 < xs.length→∃ b o,a=some ⟨b,o,none⟩∧∀ i x,xs[i]?=some x→ct A ⟨b,o+i,none⟩ (.int k x))
abbrev pF (A:HP) (v:Value) (xs:List Int):Prop:=A5 .i64 A v xs
theorem xj {x a:Int} {j:Nat} (hx:0≤x) (ha:1≤a) (h1:x≤j*a) (h2:j=0∨(j:Int)*a-a < x):(j:Int)*a=fK x a:=by
 unfold fK
 congr 1
 refine(Int.ediv_eq_iff_of_pos (by omega) |>.2 ?_).symm
 have:a*(j:Int)=(j:Int)*a:=Int.mul_comm _ _
 have h3:((j:Int)+1)*a=(j:Int)*a+a:=by rw[Int.add_mul,Int.one_mul]
 rcases h2 with rfl | h2
 ·simp at h1 ⊢;omega
 constructor <;> omega
theorem m7 (x a:Int) (hx:0≤x∧x≤100000) (ha:1≤a∧a≤100000):aG Tryz.prog 70 #[.int .i64 x,.int .i64 a] [] (fun v L=>v=.int .i64 (fK x a)∧L= []):=by
 refine aq Hw Tryz.func70 rfl rfl rfl fun Fr w0=>aR ?_
 refine sr<|asg rfl rfl<|lz<|asg rfl rfl<|lc<|ah<|ax ?_
 refine bw (fun j:Nat=>j=0∨(j:Int)*a-a < x) (fun j=>[(0,.int .i64 x),(1,.int .i64 a),(5,.int .i64 (j*a))]) (fun _=>Fr) (fun j=>(x-j*a+a).toNat) 0 (.inl rfl) ⟨rfl,rfl,by simp;rfl,trivial⟩ (Ent.refl _) ?_
 intro j hj
 have h3:((j:Int)+1)*a=(j:Int)*a+a:=by rw[Int.add_mul,Int.one_mul]
 have h0:0≤(j:Int)*a:=Int.mul_nonneg (by omega) (by omega)
 refine ah<|sr<|mv rfl rfl<|mv rfl rfl<|l_q rfl (qi rfl rfl (aU ·))<|lc<|aA rfl (fun h=>?_) fun h=>?_
 ·refine al<|ak<|ax<|aB<|mv rfl rfl<|mv rfl rfl<|l_q rfl (ba rfl rfl) ?_
  refine asg rfl rfl<|aj<|aV ?_
  apply aO ((j+1))
  ·exact .inr (by push_cast;omega)
  ·push_cast;omega
  ·exact⟨rfl,rfl,by push_cast;rw[h3];rfl,trivial⟩
  exact en
 refine xt rfl<|nz<|mv rfl rfl<|asg rfl rfl<|lc<|rt<|fr1 rfl ([]) (.tmp rfl) ?_
 exact⟨by rw[xj hx.1 ha.1 (by omega) hj],rfl⟩
theorem nC (x:Int) (lo hi:Int) (k0 k1:Nat) (h0:lo=2 ^ k0) (h1:hi=2 ^ k1) (hk:k1≤20) (h01:k0≤k1):aG Tryz.prog 69 #[.int .i64 x,.int .i64 lo,.int .i64 hi] [] (fun v L=>v=.bool (powB x lo hi)∧L= []):=by
 have hiff:powB x lo hi=true↔∃ k:Nat,k0≤k∧k≤k1∧x=2 ^ k:=by
  have:=Probe.powB_iff x (2 ^ k0) k0 k1 hi (by rw[bX]) h1 hk
  rw[bX,← h0] at this
  exact this
 refine aq Hy Tryz.func69 rfl rfl rfl fun Fr w0=>aR ?_
 refine sr<|asg rfl rfl<|lc<|ah<|sr<|mv rfl rfl<|asg rfl rfl<|lc<|ax ?_
 refine bw (fun j:Nat=>k0≤j∧j≤k1+1∧∀ i,k0≤i→i < j→x≠2 ^ i) (fun j=>[(0,.int .i64 x),(2,.int .i64 hi),(7,.int .i64 (2 ^ j))]) (fun _=>Fr) (fun j=>k1+1-j) k0 ⟨by omega,by omega,by omega⟩ ⟨rfl,rfl,by rw[h0];rfl,trivial⟩ (Ent.refl _) ?_
 rintro j ⟨hj0,hj1,hno⟩
 have pe:(2:Int) ^ (j+1)=2*2 ^ j:=by rw[Int.pow_succ];omega
 have pj:2 ^ j≤2 ^ 21:=Nat.pow_le_pow_right (by decide) (by omega)
 have pc:=bX j
 have p0:=Nat.two_pow_pos j
 refine ah<|sr<|mv rfl rfl<|mv rfl rfl<|l_q rfl (qi rfl rfl (iw ·))<|lc<|aA rfl (fun h=>?_) fun h=>?_
 ·have hjk:j≤k1:=by rcases Nat.lt_or_ge k1 j with q | q;(have:=(Nat.pow_lt_pow_right (by decide:1 < 2) q:2 ^ k1 < 2 ^ j);have:=bX k1;omega);exact q
  refine al<|ak<|ah<|ax<|sr<|mv rfl rfl<|mv rfl rfl<|l_q rfl (qi rfl rfl (aZ ·))<|lc<|aA rfl (fun q=>?_) fun q=>?_
  ·refine sr<|asg rfl rfl<|lc<|rt<|fr1 rfl ([]) (.tmp rfl) ?_
   exact⟨by rw[hiff.2 ⟨j,hj0,hjk,q.symm⟩],rfl⟩
  refine al<|aV<|ak<|aB<|mv rfl rfl<|l_q rfl (dF rfl rfl) ?_
  refine asg rfl rfl<|aj ?_
  apply aO ((j+1))
  ·exact⟨by omega,by omega,fun i hi1 hi2=>by by_cases e:i=j;(subst e;exact fun e2=>q e2.symm);exact hno i hi1 (by omega)⟩
  ·omega
  ·exact⟨rfl,rfl,by rw[pe];rfl,trivial⟩
  exact en
 refine xt rfl<|nz<|asg rfl rfl<|lc<|rt ?_
 have hjk:j=k1+1:=by rcases Nat.lt_or_ge k1 j with q | q;omega;(have:=(Nat.pow_le_pow_right (by decide:0 < 2) q:2 ^ j≤2 ^ k1);have:=bX k1;omega)
 have hf:powB x lo hi=false:=by
  cases e:powB x lo hi with
  | false=>rfl
  | true=>obtain⟨k,a1,a2,a3⟩:=hiff.1 e;exact absurd a3 (hno k a1 (by omega))
 refine fr1 rfl ([]) (.tmp rfl) ?_
 exact⟨by rw[hf],rfl⟩
theorem AM {w a:Int} (hp:powB a 1 8=true) (hw:0≤w) (ha:1≤a):eA w a=decide (fK w a=w):=by
 unfold eA
 rw[hp,Bool.true_and,decide_eq_decide]
 have r:=gZ (n:=w) (a:=a) hw ha
 have h2:=Int.mul_ediv_add_emod w a
 have h3:a*(w / a)=w / a*a:=Int.mul_comm _ _
 unfold fK at r ⊢
 constructor
 ·intro e
  have h5:(w+a-1) / a=w / a:=(Int.ediv_eq_iff_of_pos (by omega)).2 (by
   have h4:(w / a+1)*a=w / a*a+a:=by rw[Int.add_mul,Int.one_mul]
   constructor <;> omega)
  rw[h5];omega
 intro e;rw[← e];exact Int.mul_emod_left _ _
theorem wy (w a:Int) (hw:0≤w∧w≤128):aG Tryz.prog 68 #[.int .i64 w,.int .i64 a] [] (fun v L=>v=.bool (eA w a)∧L= []):=by
 refine aq Hz Tryz.func68 rfl rfl rfl fun Fr w0=>aR ?_
 refine sr<|asg rfl rfl<|lz<|mv rfl rfl<|lc1 rfl rfl rfl (nC a 1 8 0 3 (by decide) (by decide) (by decide) (by decide)) ?_
 refine asg rfl rfl<|lc<|ah<|sr<|mv rfl rfl<|l_q rfl (cX rfl (bY ·))<|lc<|aA rfl (fun h=>?_) fun h=>?_
 ·refine sr<|asg rfl rfl<|lc<|rt<|fr1 rfl ([]) (.tmp rfl) ?_
  exact⟨by unfold eA;simp at h;simp[h],rfl⟩
 have hb:=nZ (n:=a) (lo:=1) (hi:=8) (by simpa using h)
 refine al<|nz<|mv rfl rfl<|mv rfl rfl<|lc1 rfl rfl rfl (m7 w a (by omega) (by omega)) ?_
 refine asg rfl rfl<|lz<|mv rfl rfl<|mv rfl rfl<|l_q rfl (qi rfl rfl (aZ ·))<|asg rfl rfl<|lc<|rt<|fr1 rfl ([]) (.tmp rfl) ?_
 exact⟨by rw[← AM (w:=w) (a:=a) (by simpa using h) hw.1 hb.1],rfl⟩
theorem zo (l:Lay) (h:l.err≠0):∀ x,l.o x=0:=fun x=>by unfold Lay.o;rw[if_neg h]
theorem Dx (l:Lay) (h0:0≤l.key∧l.key≤100000) (h1:1≤l.ea∧l.ea≤100000):aG Tryz.prog 70 #[.int .i64 l.key,.int .i64 l.ea] [] (fun v L=>v=.int .i64 l.eo∧L= []):=m7 _ _ h0 h1
theorem DA (l:Lay) (h0:0≤l.eo+l.elem∧l.eo+l.elem≤100000):aG Tryz.prog 70 #[.int .i64 (l.eo+l.elem),.int .i64 8] [] (fun v L=>v=.int .i64 l.bo∧L= []):=m7 _ _ h0 (by decide)
theorem fiveParse_ok (A:HP) (b o cap:Nat) (l:Lay) (hA:∀ i x,[l.key,l.elem,l.ka,l.ea,l.cap][i]?=some x→ct A ⟨b,o+i,none⟩ (.int .i64 x)):
  aG Tryz.prog 25 #[.slice (some ⟨b,o,none⟩) 5 cap] [A] (fun v L=>v=.tuple #[.agg #[.int .i64 (l.o l.key),.int .i64 (l.o l.elem),.int .i64 (l.o l.ka),.int .i64 (l.o l.ea),.int .i64 (l.o l.cap),.int .i64 (l.o l.eo),.int .i64 (l.o l.bo),.int .i64 (l.o l.slot),.int .i64 (l.o l.group)],.int .i64 l.err]∧L= [A]):=by
 refine aq E8 Tryz.func25 rfl rfl rfl fun Fr w0=>aR ?_
 refine sr<|az rfl fO fun b2=>asg rfl rfl<|lc<|ah<|sr<|mv rfl rfl<|l_q rfl (ql rfl bn)<|l_q rfl (qi rfl rfl (aI ·))<|lc<|aA rfl (fun h=>?_) fun h=>?_
 ·exact absurd rfl h
 refine al<|ak<|ah<|sr<|mv rfl rfl ?_
 first | refine l_q rfl (aM 0 rfl rfl bn yS3 (by omega)) ?_ | refine l_q rfl (ay rfl rfl bn yS3 (by omega)) ?_
 apply l_q rfl
 ·apply bI (A:=A) rfl yA3
  ·exact tk
  exact hA 0 _ rfl
 refine l_q rfl (qi rfl rfl (aU ·))<|mv rfl rfl<|bD (t:=17) rfl (fun p1=>?_) fun p1=>?_
 ·refine ar rfl rfl rfl rfl<|ar rfl rfl rfl rfl<|ar rfl rfl rfl rfl<|ar rfl rfl rfl rfl<|l_q rfl (aL rfl rfl)<|lc<|aY rfl<|sr ?_
  apply l_q rfl
  ·apply aQ rfl jw fO
   exact aF.nil
  refine sta rfl rfl rfl aX rfl rfl ?_
  refine asg rfl rfl<|lc<|rt ?_
  apply aJ (.inl rfl) ([A])
  ·apply bS rfl
   ·apply Rv.agg rfl
    ·exact tk
    exact aD cu aX rfl
   exact .tmp rfl
  ·have he:=Lay.e31 (.inl p1);have ho:=zo l (by rw[he];decide);exact⟨by simp only[ho,he],rfl⟩
  exact en
 refine au rfl rfl<|mv rfl rfl<|au rfl rfl ?_
 first | refine l_q rfl (aM 0 rfl rfl bn yS3 (by omega)) ?_ | refine l_q rfl (ay rfl rfl bn yS3 (by omega)) ?_
 refine au rfl rfl ?_
 apply l_q rfl
 ·apply bI (A:=A) rfl yA3
  ·exact tk
  exact hA 0 _ rfl
 refine au rfl rfl<|l_q rfl (qi rfl rfl (cU ·))<|l_q rfl (aL rfl rfl)<|lc<|aA rfl (fun p2=>?_) fun p2=>?_
 ·refine sr ?_
  apply l_q rfl
  ·apply aQ rfl jw fO
   exact aF.nil
  refine sta rfl rfl rfl aX rfl rfl ?_
  refine asg rfl rfl<|lc<|rt ?_
  apply aJ (.inl rfl) ([A])
  ·apply bS rfl
   ·apply Rv.agg rfl
    ·exact tk
    exact aD cu aX rfl
   exact .tmp rfl
  ·have he:=Lay.e31 (.inr p2);have ho:=zo l (by rw[he];decide);exact⟨by simp only[ho,he],rfl⟩
  exact en
 refine al<|ak<|ah<|sr<|mv rfl rfl ?_
 first | refine l_q rfl (aM 1 rfl rfl bn yS3 (by omega)) ?_ | refine l_q rfl (ay rfl rfl bn yS3 (by omega)) ?_
 apply l_q rfl
 ·apply bI (A:=A) rfl yA3
  ·exact tk
  exact hA 1 _ rfl
 refine l_q rfl (qi rfl rfl (aU ·))<|mv rfl rfl<|bD (t:=28) rfl (fun p3=>?_) fun p3=>?_
 ·refine ar rfl rfl rfl rfl<|ar rfl rfl rfl rfl<|ar rfl rfl rfl rfl<|ar rfl rfl rfl rfl<|l_q rfl (aL rfl rfl)<|lc<|aY rfl<|sr ?_
  apply l_q rfl
  ·apply aQ rfl jw fO
   exact aF.nil
  refine sta rfl rfl rfl aX rfl rfl ?_
  refine asg rfl rfl<|lc<|rt ?_
  apply aJ (.inl rfl) ([A])
  ·apply bS rfl
   ·apply Rv.agg rfl
    ·exact tk
    exact aD cu aX rfl
   exact .tmp rfl
  ·have he:=Lay.e32 p1 p2 (.inl p3);have ho:=zo l (by rw[he];decide);exact⟨by simp only[ho,he],rfl⟩
  exact en
 refine au rfl rfl<|mv rfl rfl<|au rfl rfl ?_
 first | refine l_q rfl (aM 1 rfl rfl bn yS3 (by omega)) ?_ | refine l_q rfl (ay rfl rfl bn yS3 (by omega)) ?_
 refine au rfl rfl ?_
 apply l_q rfl
 ·apply bI (A:=A) rfl yA3
  ·exact tk
  exact hA 1 _ rfl
 refine au rfl rfl<|l_q rfl (qi rfl rfl (cU ·))<|l_q rfl (aL rfl rfl)<|lc<|aA rfl (fun p4=>?_) fun p4=>?_
 ·refine sr ?_
  apply l_q rfl
  ·apply aQ rfl jw fO
   exact aF.nil
  refine sta rfl rfl rfl aX rfl rfl ?_
  refine asg rfl rfl<|lc<|rt ?_
  apply aJ (.inl rfl) ([A])
  ·apply bS rfl
   ·apply Rv.agg rfl
    ·exact tk
    exact aD cu aX rfl
   exact .tmp rfl
  ·have he:=Lay.e32 p1 p2 (.inr p4);have ho:=zo l (by rw[he];decide);exact⟨by simp only[ho,he],rfl⟩
  exact en
 refine al<|ak<|ah<|aS mixed ?_
 apply dq 0 rfl
 ·exact yq (ai rfl)
 apply dq 1 rfl
 ·apply yq
  first | exact aM 0 rfl rfl bn yS3 (by omega) | exact ay rfl rfl bn yS3 (by omega)
 apply dq 2 rfl
 ·apply yq
  apply bI (A:=A) rfl yA3
  ·exact tk
  exact hA 0 _ rfl
 apply dq 3 rfl
 ·exact yq (ai rfl)
 apply dq 4 rfl
 ·apply yq
  first | exact aM 2 rfl rfl bn yS3 (by omega) | exact ay rfl rfl bn yS3 (by omega)
 apply dq 5 rfl
 ·apply yq
  apply bI (A:=A) rfl yA3
  ·exact tk
  exact hA 2 _ rfl
 refine an [2,5,1,4,0,3] [] 6 [(37,_),(40,_)] gO ⟨rfl,rfl,trivial⟩ (by kernel_rfl) (by kernel_rfl) fun Ex=>?_
 refine lc1 rfl rfl rfl (wy _ _ (by omega)) ?_
 refine aj ?_
 apply n_d
 ·exact trivial
 refine an [] [] 7 [(41,_)] gO ⟨rfl,trivial⟩ (by kernel_rfl) (by kernel_rfl) fun Ex=>?_
 refine asg rfl rfl<|aj ?_
 apply n_d
 ·exact trivial
 refine bd (by kernel_rfl) ?_
 refine ak<|ah<|aS mixed ?_
 apply dq 0 rfl
 ·exact yq (ai rfl)
 apply dq 1 rfl
 ·apply yq
  first | exact aM 1 rfl rfl bn yS3 (by omega) | exact ay rfl rfl bn yS3 (by omega)
 apply dq 2 rfl
 ·apply yq
  apply bI (A:=A) rfl yA3
  ·exact tk
  exact hA 1 _ rfl
 apply dq 3 rfl
 ·exact yq (ai rfl)
 apply dq 4 rfl
 ·apply yq
  first | exact aM 3 rfl rfl bn yS3 (by omega) | exact ay rfl rfl bn yS3 (by omega)
 apply dq 5 rfl
 ·apply yq
  apply bI (A:=A) rfl yA3
  ·exact tk
  exact hA 3 _ rfl
 refine an [2,5,1,4,0,3] [] 6 [(44,_),(47,_)] gO ⟨rfl,rfl,trivial⟩ (by kernel_rfl) (by kernel_rfl) fun Ex=>?_
 refine lc1 rfl rfl rfl (wy _ _ (by omega)) ?_
 refine aj ?_
 apply n_d
 ·exact trivial
 refine an [] [] 7 [(48,_)] gO ⟨rfl,trivial⟩ (by kernel_rfl) (by kernel_rfl) fun Ex=>?_
 refine asg rfl rfl<|aj ?_
 apply n_d
 ·exact trivial
 refine bd (by kernel_rfl) ?_
 refine ak<|ah<|sr<|mv rfl rfl<|l_q rfl (cX rfl (bY ·))<|mv rfl rfl<|bD (t:=51) rfl (fun p5=>?_) fun p5=>?_
 ·refine ar rfl rfl rfl rfl<|ar rfl rfl rfl rfl<|l_q rfl (aL rfl rfl)<|lc<|aY rfl<|sr ?_
  apply l_q rfl
  ·apply aQ rfl jw fO
   exact aF.nil
  refine sta rfl rfl rfl aX rfl rfl ?_
  refine asg rfl rfl<|lc<|rt ?_
  apply aJ (.inl rfl) ([A])
  ·apply bS rfl
   ·apply Rv.agg rfl
    ·exact tk
    exact aD cu aX rfl
   exact .tmp rfl
  ·have he:=Lay.e33 p1 p2 p3 p4 (.inl (by simpa using p5));have ho:=zo l (by rw[he];decide);exact⟨by simp only[ho,he],rfl⟩
  exact en
 refine au rfl rfl<|mv rfl rfl<|au rfl rfl<|l_q rfl (cX rfl (bY ·))<|l_q rfl (aL rfl rfl)<|lc<|aA rfl (fun p6=>?_) fun p6=>?_
 ·refine sr ?_
  apply l_q rfl
  ·apply aQ rfl jw fO
   exact aF.nil
  refine sta rfl rfl rfl aX rfl rfl ?_
  refine asg rfl rfl<|lc<|rt ?_
  apply aJ (.inl rfl) ([A])
  ·apply bS rfl
   ·apply Rv.agg rfl
    ·exact tk
    exact aD cu aX rfl
   exact .tmp rfl
  ·have he:=Lay.e33 p1 p2 p3 p4 (.inr (by simpa using p6));have ho:=zo l (by rw[he];decide);exact⟨by simp only[ho,he],rfl⟩
  exact en
 refine al<|nz<|mv rfl rfl ?_
 first | refine l_q rfl (aM 4 rfl rfl bn yS3 (by omega)) ?_ | refine l_q rfl (ay rfl rfl bn yS3 (by omega)) ?_
 apply l_q rfl
 ·apply bI (A:=A) rfl yA3
  ·exact tk
  exact hA 4 _ rfl
 refine lc1 rfl rfl rfl (nC _ 16 1024 4 10 (by decide) (by decide) (by decide) (by decide)) ?_
 refine asg rfl rfl<|lc<|ah<|sr<|mv rfl rfl<|l_q rfl (cX rfl (bY ·))<|lc<|aA rfl (fun p7=>?_) fun p7=>?_
 ·refine sr ?_
  apply l_q rfl
  ·apply aQ rfl jw fO
   exact aF.nil
  refine sta rfl rfl rfl aX rfl rfl ?_
  refine asg rfl rfl<|lc<|rt ?_
  apply aJ (.inl rfl) ([A])
  ·apply bS rfl
   ·apply Rv.agg rfl
    ·exact tk
    exact aD cu aX rfl
   exact .tmp rfl
  ·have he:=Lay.e34 p1 p2 p3 p4 (by simpa using p5) (by simpa using p6) (by simpa using p7);have ho:=zo l (by rw[he];decide);exact⟨by simp only[ho,he],rfl⟩
  exact en
 refine al<|ak<|ah<|aS mixed ?_
 apply dq 0 rfl
 ·exact yq (ai rfl)
 apply dq 1 rfl
 ·apply yq
  first | exact aM 0 rfl rfl bn yS3 (by omega) | exact ay rfl rfl bn yS3 (by omega)
 apply dq 2 rfl
 ·apply yq
  apply bI (A:=A) rfl yA3
  ·exact tk
  exact hA 0 _ rfl
 apply dq 3 rfl
 ·exact yq (ai rfl)
 apply dq 4 rfl
 ·apply yq
  first | exact aM 1 rfl rfl bn yS3 (by omega) | exact ay rfl rfl bn yS3 (by omega)
 apply dq 5 rfl
 ·apply yq
  apply bI (A:=A) rfl yA3
  ·exact tk
  exact hA 1 _ rfl
 apply dq 6 rfl
 ·exact yq (ai rfl)
 apply dq 7 rfl
 ·apply yq
  first | exact aM 2 rfl rfl bn yS3 (by omega) | exact ay rfl rfl bn yS3 (by omega)
 apply dq 8 rfl
 ·apply yq
  apply bI (A:=A) rfl yA3
  ·exact tk
  exact hA 2 _ rfl
 apply dq 9 rfl
 ·exact yq (ai rfl)
 apply dq 10 rfl
 ·apply yq
  first | exact aM 3 rfl rfl bn yS3 (by omega) | exact ay rfl rfl bn yS3 (by omega)
 apply dq 11 rfl
 ·apply yq
  apply bI (A:=A) rfl yA3
  ·exact tk
  exact hA 3 _ rfl
 apply dq 12 rfl
 ·exact yq (ai rfl)
 apply dq 13 rfl
 ·apply yq
  first | exact aM 4 rfl rfl bn yS3 (by omega) | exact ay rfl rfl bn yS3 (by omega)
 apply dq 14 rfl
 ·apply yq
  apply bI (A:=A) rfl yA3
  ·exact tk
  exact hA 4 _ rfl
 apply dq 15 rfl
 ·apply yq
  apply aQ rfl jw fO
  apply aF.one
  ·repeat (first | exact aH.here | apply aH.there)
  ·rfl
  ·exact sa
  apply aF.one
  ·repeat (first | exact aH.here | apply aH.there)
  ·rfl
  ·exact sa
  apply aF.one
  ·repeat (first | exact aH.here | apply aH.there)
  ·rfl
  ·exact sa
  apply aF.one
  ·repeat (first | exact aH.here | apply aH.there)
  ·rfl
  ·exact sa
  apply aF.one
  ·repeat (first | exact aH.here | apply aH.there)
  ·rfl
  ·exact sa
  exact aF.nil
 refine an [] [15,14,13,12,11,10,9,8,7,6,5,4,3,2,1,0] 16 [] gO trivial (by kernel_rfl) (by kernel_rfl) fun Ex=>?_
 refine az rfl fO fun b7=>aj ?_
 apply n_d
 ·refine⟨?_,?_,?_,?_,?_,?_,?_,?_,?_,?_,?_,?_,?_,?_,?_,?_,trivial⟩
  ·apply ya rfl rfl
   apply yq
   apply aQ rfl jw fO
   apply aF.one
   ·repeat (first | exact aH.here | apply aH.there)
   ·rfl
   ·exact sa
   apply aF.one
   ·repeat (first | exact aH.here | apply aH.there)
   ·rfl
   ·exact sa
   apply aF.one
   ·repeat (first | exact aH.here | apply aH.there)
   ·rfl
   ·exact sa
   apply aF.one
   ·repeat (first | exact aH.here | apply aH.there)
   ·rfl
   ·exact sa
   apply aF.one
   ·repeat (first | exact aH.here | apply aH.there)
   ·rfl
   ·exact sa
   exact aF.nil
  ·apply ya rfl rfl
   apply yq
   apply bI (A:=A) rfl yA3
   ·exact tk
   exact hA 4 _ rfl
  ·apply ya rfl rfl
   apply yq
   first | exact aM 4 rfl rfl bn yS3 (by omega) | exact ay rfl rfl bn yS3 (by omega)
  ·apply ya rfl rfl;exact yq (ai rfl)
  ·apply ya rfl rfl
   apply yq
   apply bI (A:=A) rfl yA3
   ·exact tk
   exact hA 3 _ rfl
  ·apply ya rfl rfl
   apply yq
   first | exact aM 3 rfl rfl bn yS3 (by omega) | exact ay rfl rfl bn yS3 (by omega)
  ·apply ya rfl rfl;exact yq (ai rfl)
  ·apply ya rfl rfl
   apply yq
   apply bI (A:=A) rfl yA3
   ·exact tk
   exact hA 2 _ rfl
  ·apply ya rfl rfl
   apply yq
   first | exact aM 2 rfl rfl bn yS3 (by omega) | exact ay rfl rfl bn yS3 (by omega)
  ·apply ya rfl rfl;exact yq (ai rfl)
  ·apply ya rfl rfl
   apply yq
   apply bI (A:=A) rfl yA3
   ·exact tk
   exact hA 1 _ rfl
  ·apply ya rfl rfl
   apply yq
   first | exact aM 1 rfl rfl bn yS3 (by omega) | exact ay rfl rfl bn yS3 (by omega)
  ·apply ya rfl rfl;exact yq (ai rfl)
  ·apply ya rfl rfl
   apply yq
   apply bI (A:=A) rfl yA3
   ·exact tk
   exact hA 0 _ rfl
  ·apply ya rfl rfl
   apply yq
   first | exact aM 0 rfl rfl bn yS3 (by omega) | exact ay rfl rfl bn yS3 (by omega)
  apply ya rfl rfl;exact yq (ai rfl)
 refine an [15,0,1,2,3,4,5,6,7,8,9,10,11,12,13,14] [] 17 [(7,_),(78,_)] gO ⟨rfl,rfl,trivial⟩ (by kernel_rfl) (by kernel_rfl) fun Ex=>?_
 refine sta rfl rfl rfl aX rfl rfl ?_
 refine aj ?_
 apply n_d
 ·exact trivial
 refine bd (by kernel_rfl) ?_
 refine nz<|l_q rfl (qfa 0 rfl bK rfl rfl yS3)<|l_q rfl (qld rfl yA3) ?_
 refine l_q rfl (qfa 3 rfl bK rfl rfl yS3)<|l_q rfl (qld rfl yA3) ?_
 have he:=Lay.e0 p1 p2 p3 p4 (by simpa using p5) (by simpa using p6) (by simpa using p7)
 have hb:=Lay.bnd he
 have ho:∀ x,l.o x=x:=fun x=>(by unfold Lay.o;simp[he])
 refine lc1 rfl rfl rfl (Dx l (by omega) (by omega)) ?_
 refine l_q rfl (qfa 5 rfl bK rfl rfl yS3)<|st rfl rfl rfl yS3 rfl ?_
 refine lz<|l_q rfl (qfa 5 rfl bK rfl rfl yS3)<|l_q rfl (qld rfl yA3) ?_
 refine l_q rfl (qfa 1 rfl bK rfl rfl yS3)<|l_q rfl (qld rfl yA3) ?_
 refine l_q rfl (ba rfl rfl) ?_
 refine lc1 rfl rfl rfl (DA l (by omega)) ?_
 refine l_q rfl (qfa 6 rfl bK rfl rfl yS3)<|st rfl rfl rfl yS3 rfl ?_
 refine lz<|l_q rfl (qfa 6 rfl bK rfl rfl yS3)<|l_q rfl (qld rfl yA3) ?_
 refine l_q rfl (ba rfl rfl) ?_
 refine l_q rfl (qfa 7 rfl bK rfl rfl yS3)<|st rfl rfl rfl yS3 rfl ?_
 refine lz<|l_q rfl (qfa 8 rfl bK rfl rfl yS3)<|st rfl rfl rfl yS3 rfl ?_
 refine lc<|ah<|sr<|asg rfl rfl<|lc<|ax ?_
 rw[show l.bo+8=l.slot from rfl]
 refine bw (fun i:Nat=>i≤8) (fun i=>[(2,.pointer (some ⟨b2,0,none⟩)),(7,.pointer (some ⟨b7,0,none⟩)),(8,.int .i64 i)]) (fun i=>pt b7 (.cells #[.int .i64 l.key,.int .i64 l.elem,.int .i64 l.ka,.int .i64 l.ea,.int .i64 l.cap,.int .i64 l.eo,.int .i64 l.bo,.int .i64 l.slot,.int .i64 (8+(i:Int)*l.slot)] 34 (0,0))::pt b2 (.cells #[.int .i64 0,.int .i64 0,.int .i64 0,.int .i64 0,.int .i64 0,.int .i64 0,.int .i64 0,.int .i64 0,.int .i64 0] 34 (0,0))::A::Fr) (fun i=>8-i) 0 (by omega) ⟨rfl,rfl,rfl,trivial⟩ (by rw[show(8:Int)+((0:Nat):Int)*l.slot=8 by simp];(exact en)) ?_
 intro i hi
 have hm:(i:Int)*l.slot≤8*278:=Int.mul_le_mul (by omega) (by omega) (by omega) (by omega)
 have hm0:0≤(i:Int)*l.slot:=Int.mul_nonneg (by omega) (by omega)
 refine ah<|sr<|mv rfl rfl<|l_q rfl (qi rfl rfl (aU ·))<|lc<|aA rfl (fun q=>?_) fun q=>?_
 ·refine al<|ak<|ah<|ax<|aB<|l_q rfl (qfa 8 rfl bK rfl rfl yS3)<|l_q rfl (qld rfl yA3) ?_
  refine l_q rfl (qfa 7 rfl bK rfl rfl yS3)<|l_q rfl (qld rfl yA3) ?_
  refine l_q rfl (ba rfl rfl) ?_
  refine l_q rfl (qfa 8 rfl bK rfl rfl yS3)<|st rfl rfl rfl yS3 rfl ?_
  refine aj<|aV<|ak<|aB<|mv rfl rfl<|l_q rfl (ba rfl rfl) ?_
  refine asg rfl rfl<|aj ?_
  rw[show 8+(i:Int)*l.slot+l.slot=8+((i+1:Nat):Int)*l.slot by push_cast;rw[Int.add_mul,Int.one_mul];omega]
  apply aO ((i+1))
  ·exact(show i+1≤8 by omega)
  ·omega
  ·exact⟨rfl,rfl,rfl,trivial⟩
  exact en
 obtain rfl:i=8:=by omega
 rw[show(8:Int)+((8:Nat):Int)*l.slot=l.group from rfl]
 refine xt rfl<|nz<|l_q rfl (aK rfl cu aX) ?_
 refine sta rfl rfl rfl aX rfl rfl ?_
 refine asg rfl rfl<|lc<|rt ?_
 apply aJ (.inl rfl) ([A])
 ·apply bS rfl
  ·apply Rv.agg rfl
   ·exact tk
   exact aD cu aX rfl
  exact .tmp rfl
 ·exact⟨by simp only[ho,he],rfl⟩
 exact en
def mG (xs:List Int):Lay:=⟨xs.getD 0 0,xs.getD 1 0,xs.getD 2 0,xs.getD 3 0,xs.getD 4 0⟩
def jG (xs:List Int):Int:=if xs.length=5 then(mG xs).err else 30
theorem Parse_ok (A:HP) (v:Value) (xs:List Int) (hA:pF A v xs):
  aG Tryz.prog 25 #[v] [A] (fun r L=>L= [A]∧((jG xs=0∧(mG xs).err=0∧r=.tuple #[.agg (mG xs).cells,.int .i64 0])∨(jG xs≠0∧r=.tuple #[.agg Lay.zeros,.int .i64 (jG xs)]))):=by
 obtain⟨a,cap,rfl,hA⟩:=hA
 by_cases h5:xs.length=5
 ·obtain⟨b,o,rfl,hA5⟩:=hA (by omega)
  have hx:xs= [(mG xs).key,(mG xs).elem,(mG xs).ka,(mG xs).ea,(mG xs).cap]:=by
   match xs,h5 with
   | [_,_,_,_,_],_=>rfl
  have hp:jG xs=(mG xs).err:=by unfold jG;rw[if_pos h5]
  rw[h5]
  refine(fiveParse_ok A b o cap (mG xs) (by rw[← hx];exact hA5)).mono fun r L ⟨h1,h2⟩=>⟨h2,?_⟩
  by_cases he:(mG xs).err=0
  ·have ho:∀ x,(mG xs).o x=x:=fun x=>(by unfold Lay.o;rw[if_pos he])
   exact .inl ⟨by rw[hp,he],he,by rw[h1];simp only[ho,he]⟩
  have ho:=zo (mG xs) he
  exact .inr ⟨by rw[hp];exact he,by rw[h1,hp];simp only[ho]⟩
 have hp:jG xs=30:=by unfold jG;rw[if_neg h5]
 refine aG.mono (Post:=fun r L=>L= [A]∧r=.tuple #[.agg Lay.zeros,.int .i64 30]) ?_ fun r L ⟨h1,h2⟩=>⟨h1,.inr ⟨by rw[hp];decide,by rw[h2,hp]⟩⟩
 refine aq E8 Tryz.func25 rfl rfl rfl fun Fr w0=>aR ?_
 refine sr<|az rfl fO fun b2=>asg rfl rfl<|lc<|ah<|sr<|mv rfl rfl<|l_q rfl (ql rfl bn)<|l_q rfl (qi rfl rfl (aI ·))<|lc<|aA rfl (fun h=>?_) fun h=>?_
 ·refine sr ?_
  apply l_q rfl
  ·apply aQ rfl jw fO
   exact aF.nil
  refine sta rfl rfl rfl aX rfl rfl ?_
  refine asg rfl rfl<|lc<|rt ?_
  apply aJ (.inl rfl) ([A])
  ·apply bS rfl
   ·apply Rv.agg rfl
    ·exact tk
    exact aD cu aX rfl
   exact .tmp rfl
  ·exact⟨rfl,rfl⟩
  exact en
 omega
theorem ec {m:Nat→Int} (hm:∀ i,0≤m i∧m i < 256) (k:Nat):cA (dE m 0 k)=bt m k:=by
 simp only[cA,dE,bt,List.map_map]
 refine List.map_congr_left fun i _=>?_
 have:=hm i
 simp only[Function.comp,Value.int.injEq,true_and,Nat.zero_add]
 rw[UInt8.toNat_ofNat']
 omega
end Ref03
end Go.Proofs.YthkajgkagnenbaaGreatDoor
