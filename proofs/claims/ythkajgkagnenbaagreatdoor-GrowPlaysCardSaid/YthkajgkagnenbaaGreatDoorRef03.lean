import Derived.Test.YthkajgkagnenbaaGreatDoorTableI
set_option linter.unusedVariables false
set_option linter.unusedSimpArgs false
set_option linter.unusedSectionVars false
set_option maxRecDepth 100000
namespace Go.Proofs.YthkajgkagnenbaaGreatDoor
namespace Ref03
open Go.RowKit Go.Proofs Eng Ty Bits Layout
def xy (k:IntKind) (A:HP) (v:Value) (xs:List Int):Prop:=∃ a cap,v=.slice a xs.length cap/\(0 < xs.length->∃ b o,a=some ⟨b,o,none⟩/\∀ i x,xs[i]?=some x->dt A ⟨b,o+i,none⟩ (.int k x))
abbrev qN (A:HP) (v:Value) (xs:List Int):Prop:=xy .i64 A v xs
theorem yO {x a:Int} {j:Nat} (hx:0<=x) (ha:1<=a) (h1:x<=j*a) (h2:j=0\/(j:Int)*a-a < x):(j:Int)*a=gH x a:=by
 unfold gH
 congr 1
 refine(Int.ediv_eq_iff_of_pos (by omega) |>.2 ?_).symm
 have:a*(j:Int)=(j:Int)*a:=Int.mul_comm _ _
 have h3:((j:Int)+1)*a=(j:Int)*a+a:=by rw[Int.add_mul,Int.one_mul]
 rcases h2 with rfl | h2
 ·simp at h1 ⊢;omega
 constructor <;> omega
theorem nN (x a:Int) (hx:0<=x/\x<=100000) (ha:1<=a/\a<=100000):aK Tryz.prog 70 #[.int .i64 x,.int .i64 a] [] (fun v L=>v=.int .i64 (gH x a)/\L= []):=by
 refine au J2 Tryz.func70 rfl rfl rfl fun Fr w0=>aZ ?_
 refine sr<|ar O O<|lz<|ar O O<|lc<|al<|aB ?_
 refine bK (fun j:Nat=>j=0\/(j:Int)*a-a < x) (fun j=>[(0,.int .i64 x),(1,.int .i64 a),(5,.int .i64 (j*a))]) (fun _=>Fr) (fun j=>(x-j*a+a).toNat) 0 (.inl rfl) ⟨rfl,rfl,by simp;rfl,trivial⟩ (dS.refl _) ?_
 intro j hj
 have h3:((j:Int)+1)*a=(j:Int)*a+a:=by rw[Int.add_mul,Int.one_mul]
 have h0:0<=(j:Int)*a:=Int.mul_nonneg (by omega) (by omega)
 refine al<|sr<|mv O O<|mv O O<|ad O (qi O O (bj ·))<|lc<|aG O (fun h=>?_) fun h=>?_
 ·refine aq<|an<|aB<|aD<|mv O O<|mv O O<|ad O (bn O O) ?_
  refine ar O O<|ai<|bz ?_
  apply aU ((j+1))
  ·exact .inr (by push_cast;omega)
  ·push_cast;omega
  ·exact⟨rfl,rfl,by push_cast;rw[h3];rfl,trivial⟩
  exact en
 refine xt O<|nz<|mv O O<|ar O O<|lc<|rt<|cN O ([]) (.tmp rfl) ?_
 exact⟨by rw[yO hx.1 ha.1 (by omega) hj],rfl⟩
theorem ou (x:Int) (lo hi:Int) (k0 k1:Nat) (h0:lo=2 ^ k0) (h1:hi=2 ^ k1) (hk:k1<=20) (h01:k0<=k1):aK Tryz.prog 69 #[.int .i64 x,.int .i64 lo,.int .i64 hi] [] (fun v L=>v=.bool (powB x lo hi)/\L= []):=by
 have hiff:powB x lo hi=true↔∃ k:Nat,k0<=k/\k<=k1/\x=2 ^ k:=by
  have:=Probe.powB_iff x (2 ^ k0) k0 k1 hi (by rw[cr]) h1 hk
  rw[cr,<- h0] at this
  exact this
 refine au J3 Tryz.func69 rfl rfl rfl fun Fr w0=>aZ ?_
 refine sr<|ar O O<|lc<|al<|sr<|mv O O<|ar O O<|lc<|aB ?_
 refine bK (fun j:Nat=>k0<=j/\j<=k1+1/\∀ i,k0<=i->i < j->x≠2 ^ i) (fun j=>[(0,.int .i64 x),(2,.int .i64 hi),(7,.int .i64 (2 ^ j))]) (fun _=>Fr) (fun j=>k1+1-j) k0 ⟨by omega,by omega,by omega⟩ ⟨rfl,rfl,by rw[h0];rfl,trivial⟩ (dS.refl _) ?_
 rintro j ⟨hj0,hj1,hno⟩
 have pe:(2:Int) ^ (j+1)=2*2 ^ j:=by rw[Int.pow_succ];omega
 have pj:2 ^ j<=2 ^ 21:=Nat.pow_le_pow_right (by decide) (by omega)
 have pc:=cr j
 have p0:=Nat.two_pow_pos j
 refine al<|sr<|mv O O<|mv O O<|ad O (qi O O (iB ·))<|lc<|aG O (fun h=>?_) fun h=>?_
 ·have hjk:j<=k1:=by rcases Nat.lt_or_ge k1 j with q | q;(have:=(Nat.pow_lt_pow_right (by decide:1 < 2) q:2 ^ k1 < 2 ^ j);have:=cr k1;omega);exact q
  refine aq<|an<|al<|aB<|sr<|mv O O<|mv O O<|ad O (qi O O (bN ·))<|lc<|aG O (fun q=>?_) fun q=>?_
  ·refine sr<|ar O O<|lc<|rt<|cN O ([]) (.tmp rfl) ?_
   exact⟨by rw[hiff.2 ⟨j,hj0,hjk,q.symm⟩],rfl⟩
  refine aq<|bz<|an<|aD<|mv O O<|ad O (dA O O) ?_
  refine ar O O<|ai ?_
  apply aU ((j+1))
  ·exact⟨by omega,by omega,fun i hi1 hi2=>by by_cases e:i=j;(subst e;exact fun e2=>q e2.symm);exact hno i hi1 (by omega)⟩
  ·omega
  ·exact⟨rfl,rfl,by rw[pe];rfl,trivial⟩
  exact en
 refine xt O<|nz<|ar O O<|lc<|rt ?_
 have hjk:j=k1+1:=by rcases Nat.lt_or_ge k1 j with q | q;omega;(have:=(Nat.pow_le_pow_right (by decide:0 < 2) q:2 ^ j<=2 ^ k1);have:=cr k1;omega)
 have hf:powB x lo hi=false:=by
  cases e:powB x lo hi with
  | false=>rfl
  | true=>obtain⟨k,a1,a2,a3⟩:=hiff.1 e;exact absurd a3 (hno k a1 (by omega))
 refine cN O ([]) (.tmp rfl) ?_
 exact⟨by rw[hf],rfl⟩
theorem Cm {w a:Int} (hp:powB a 1 8=true) (hw:0<=w) (ha:1<=a):fi w a=decide (gH w a=w):=by
 unfold fi
 rw[hp,Bool.true_and,decide_eq_decide]
 have r:=iW (n:=w) (a:=a) hw ha
 have h2:=Int.mul_ediv_add_emod w a
 have h3:a*(w / a)=w / a*a:=Int.mul_comm _ _
 unfold gH at r ⊢
 constructor
 ·intro e
  have h5:(w+a-1) / a=w / a:=(Int.ediv_eq_iff_of_pos (by omega)).2 (by
   have h4:(w / a+1)*a=w / a*a+a:=by rw[Int.add_mul,Int.one_mul]
   constructor <;> omega)
  rw[h5];omega
 intro e;rw[<- e];exact Int.mul_emod_left _ _
theorem x7 (w a:Int) (hw:0<=w/\w<=128):aK Tryz.prog 68 #[.int .i64 w,.int .i64 a] [] (fun v L=>v=.bool (fi w a)/\L= []):=by
 refine au J4 Tryz.func68 rfl rfl rfl fun Fr w0=>aZ ?_
 refine sr<|ar O O<|lz<|mv O O<|bF O O O (ou a 1 8 0 3 (by decide) (by decide) (by decide) (by decide)) ?_
 refine ar O O<|lc<|al<|sr<|mv O O<|ad O (db O (cy ·))<|lc<|aG O (fun h=>?_) fun h=>?_
 ·refine sr<|ar O O<|lc<|rt<|cN O ([]) (.tmp rfl) ?_
  exact⟨by unfold fi;simp at h;simp[h],rfl⟩
 have hb:=powB_le (n:=a) (lo:=1) (hi:=8) (by simpa using h)
 refine aq<|nz<|mv O O<|mv O O<|bF O O O (nN w a (by omega) (by omega)) ?_
 refine ar O O<|lz<|mv O O<|mv O O<|ad O (qi O O (bN ·))<|ar O O<|lc<|rt<|cN O ([]) (.tmp rfl) ?_
 exact⟨by rw[<- Cm (w:=w) (a:=a) (by simpa using h) hw.1 hb.1],rfl⟩
theorem zo (l:Lay) (h:l.err≠0):∀ x,l.o x=0:=fun x=>by unfold Lay.o;rw[if_neg h]
theorem Fq (l:Lay) (h0:0<=l.key/\l.key<=100000) (h1:1<=l.ea/\l.ea<=100000):aK Tryz.prog 70 #[.int .i64 l.key,.int .i64 l.ea] [] (fun v L=>v=.int .i64 l.eo/\L= []):=nN _ _ h0 h1
theorem Ft (l:Lay) (h0:0<=l.eo+l.elem/\l.eo+l.elem<=100000):aK Tryz.prog 70 #[.int .i64 (l.eo+l.elem),.int .i64 8] [] (fun v L=>v=.int .i64 l.bo/\L= []):=nN _ _ h0 (by decide)
theorem fiveParse_ok (A:HP) (b o cap:Nat) (l:Lay) (hA:∀ i x,[l.key,l.elem,l.ka,l.ea,l.cap][i]?=some x->dt A ⟨b,o+i,none⟩ (.int .i64 x)):
  aK Tryz.prog 25 #[.slice (some ⟨b,o,none⟩) 5 cap] [A] (fun v L=>v=.tuple #[.agg #[.int .i64 (l.o l.key),.int .i64 (l.o l.elem),.int .i64 (l.o l.ka),.int .i64 (l.o l.ea),.int .i64 (l.o l.cap),.int .i64 (l.o l.eo),.int .i64 (l.o l.bo),.int .i64 (l.o l.slot),.int .i64 (l.o l.group)],.int .i64 l.err]/\L= [A]):=by
 refine au Hm Tryz.func25 rfl rfl rfl fun Fr w0=>aZ ?_
 refine sr<|ay O gB fun b2=>ar O O<|lc<|al<|sr<|mv O O<|ad O (ql O bI)<|ad O (qi O O (bf ·))<|lc<|aG O (fun h=>?_) fun h=>?_
 ·exact absurd rfl h
 refine aq<|an<|al<|sr<|mv O O ?_
 first | refine ad O (aW 0 O O bI aN (by omega)) ?_ | refine ad O (az O O bI aN (by omega)) ?_
 apply ad O
 ·apply cf (A:=A) rfl aX
  ·exact tk
  exact hA 0 _ rfl
 refine ad O (qi O O (bj ·))<|mv O O<|bQ (t:=17) rfl (fun p1=>?_) fun p1=>?_
 ·refine ax O O O O<|ax O O O O<|ax O O O O<|ax O O O O<|ad O (aS O O)<|lc<|bk O<|sr ?_
  apply ad O
  ·apply bp O kG gB
   exact aP.nil
  refine bZ O O O bH O O ?_
  refine ar O O<|lc<|rt ?_
  apply aR (.inl rfl) ([A])
  ·apply cF O
   ·apply Rv.agg rfl
    ·exact tk
    exact aJ cZ bH O
   exact .tmp rfl
  ·have he:=Lay.e31 (.inl p1);have ho:=zo l (by rw[he];decide);exact⟨by simp only[ho,he],rfl⟩
  exact en
 refine aA O O<|mv O O<|aA O O ?_
 first | refine ad O (aW 0 O O bI aN (by omega)) ?_ | refine ad O (az O O bI aN (by omega)) ?_
 refine aA O O ?_
 apply ad O
 ·apply cf (A:=A) rfl aX
  ·exact tk
  exact hA 0 _ rfl
 refine aA O O<|ad O (qi O O (di ·))<|ad O (aS O O)<|lc<|aG O (fun p2=>?_) fun p2=>?_
 ·refine sr ?_
  apply ad O
  ·apply bp O kG gB
   exact aP.nil
  refine bZ O O O bH O O ?_
  refine ar O O<|lc<|rt ?_
  apply aR (.inl rfl) ([A])
  ·apply cF O
   ·apply Rv.agg rfl
    ·exact tk
    exact aJ cZ bH O
   exact .tmp rfl
  ·have he:=Lay.e31 (.inr p2);have ho:=zo l (by rw[he];decide);exact⟨by simp only[ho,he],rfl⟩
  exact en
 refine aq<|an<|al<|sr<|mv O O ?_
 first | refine ad O (aW 1 O O bI aN (by omega)) ?_ | refine ad O (az O O bI aN (by omega)) ?_
 apply ad O
 ·apply cf (A:=A) rfl aX
  ·exact tk
  exact hA 1 _ rfl
 refine ad O (qi O O (bj ·))<|mv O O<|bQ (t:=28) rfl (fun p3=>?_) fun p3=>?_
 ·refine ax O O O O<|ax O O O O<|ax O O O O<|ax O O O O<|ad O (aS O O)<|lc<|bk O<|sr ?_
  apply ad O
  ·apply bp O kG gB
   exact aP.nil
  refine bZ O O O bH O O ?_
  refine ar O O<|lc<|rt ?_
  apply aR (.inl rfl) ([A])
  ·apply cF O
   ·apply Rv.agg rfl
    ·exact tk
    exact aJ cZ bH O
   exact .tmp rfl
  ·have he:=Lay.e32 p1 p2 (.inl p3);have ho:=zo l (by rw[he];decide);exact⟨by simp only[ho,he],rfl⟩
  exact en
 refine aA O O<|mv O O<|aA O O ?_
 first | refine ad O (aW 1 O O bI aN (by omega)) ?_ | refine ad O (az O O bI aN (by omega)) ?_
 refine aA O O ?_
 apply ad O
 ·apply cf (A:=A) rfl aX
  ·exact tk
  exact hA 1 _ rfl
 refine aA O O<|ad O (qi O O (di ·))<|ad O (aS O O)<|lc<|aG O (fun p4=>?_) fun p4=>?_
 ·refine sr ?_
  apply ad O
  ·apply bp O kG gB
   exact aP.nil
  refine bZ O O O bH O O ?_
  refine ar O O<|lc<|rt ?_
  apply aR (.inl rfl) ([A])
  ·apply cF O
   ·apply Rv.agg rfl
    ·exact tk
    exact aJ cZ bH O
   exact .tmp rfl
  ·have he:=Lay.e32 p1 p2 (.inr p4);have ho:=zo l (by rw[he];decide);exact⟨by simp only[ho,he],rfl⟩
  exact en
 refine aq<|an<|al<|aY mixed ?_
 apply dq 0 O (yq (ah O))
 apply dq 1 O
 ·apply yq
  first | exact aW 0 O O bI aN (by omega) | exact az O O bI aN (by omega)
 apply dq 2 O
 ·apply yq
  apply cf (A:=A) rfl aX
  ·exact tk
  exact hA 0 _ rfl
 apply dq 3 O (yq (ah O))
 apply dq 4 O
 ·apply yq
  first | exact aW 2 O O bI aN (by omega) | exact az O O bI aN (by omega)
 apply dq 5 O
 ·apply yq
  apply cf (A:=A) rfl aX
  ·exact tk
  exact hA 2 _ rfl
 refine ak [2,5,1,4,0,3] [] 6 [(37,_),(40,_)] gO ⟨rfl,rfl,trivial⟩ (by kernel_rfl) (by kernel_rfl) fun Ex=>?_
 refine bF O O O (x7 _ _ (by omega)) ?_
 refine ai ?_
 refine aQ trivial ?_
 refine ak [] [] 7 [(41,_)] gO ⟨rfl,trivial⟩ (by kernel_rfl) (by kernel_rfl) fun Ex=>?_
 refine ar O O<|ai ?_
 refine aQ trivial ?_
 refine aV (by kernel_rfl) ?_
 refine an<|al<|aY mixed ?_
 apply dq 0 O (yq (ah O))
 apply dq 1 O
 ·apply yq
  first | exact aW 1 O O bI aN (by omega) | exact az O O bI aN (by omega)
 apply dq 2 O
 ·apply yq
  apply cf (A:=A) rfl aX
  ·exact tk
  exact hA 1 _ rfl
 apply dq 3 O (yq (ah O))
 apply dq 4 O
 ·apply yq
  first | exact aW 3 O O bI aN (by omega) | exact az O O bI aN (by omega)
 apply dq 5 O
 ·apply yq
  apply cf (A:=A) rfl aX
  ·exact tk
  exact hA 3 _ rfl
 refine ak [2,5,1,4,0,3] [] 6 [(44,_),(47,_)] gO ⟨rfl,rfl,trivial⟩ (by kernel_rfl) (by kernel_rfl) fun Ex=>?_
 refine bF O O O (x7 _ _ (by omega)) ?_
 refine ai ?_
 refine aQ trivial ?_
 refine ak [] [] 7 [(48,_)] gO ⟨rfl,trivial⟩ (by kernel_rfl) (by kernel_rfl) fun Ex=>?_
 refine ar O O<|ai ?_
 refine aQ trivial ?_
 refine aV (by kernel_rfl) ?_
 refine an<|al<|sr<|mv O O<|ad O (db O (cy ·))<|mv O O<|bQ (t:=51) rfl (fun p5=>?_) fun p5=>?_
 ·refine ax O O O O<|ax O O O O<|ad O (aS O O)<|lc<|bk O<|sr ?_
  apply ad O
  ·apply bp O kG gB
   exact aP.nil
  refine bZ O O O bH O O ?_
  refine ar O O<|lc<|rt ?_
  apply aR (.inl rfl) ([A])
  ·apply cF O
   ·apply Rv.agg rfl
    ·exact tk
    exact aJ cZ bH O
   exact .tmp rfl
  ·have he:=Lay.e33 p1 p2 p3 p4 (.inl (by simpa using p5));have ho:=zo l (by rw[he];decide);exact⟨by simp only[ho,he],rfl⟩
  exact en
 refine aA O O<|mv O O<|aA O O<|ad O (db O (cy ·))<|ad O (aS O O)<|lc<|aG O (fun p6=>?_) fun p6=>?_
 ·refine sr ?_
  apply ad O
  ·apply bp O kG gB
   exact aP.nil
  refine bZ O O O bH O O ?_
  refine ar O O<|lc<|rt ?_
  apply aR (.inl rfl) ([A])
  ·apply cF O
   ·apply Rv.agg rfl
    ·exact tk
    exact aJ cZ bH O
   exact .tmp rfl
  ·have he:=Lay.e33 p1 p2 p3 p4 (.inr (by simpa using p6));have ho:=zo l (by rw[he];decide);exact⟨by simp only[ho,he],rfl⟩
  exact en
 refine aq<|nz<|mv O O ?_
 first | refine ad O (aW 4 O O bI aN (by omega)) ?_ | refine ad O (az O O bI aN (by omega)) ?_
 apply ad O
 ·apply cf (A:=A) rfl aX
  ·exact tk
  exact hA 4 _ rfl
 refine bF O O O (ou _ 16 1024 4 10 (by decide) (by decide) (by decide) (by decide)) ?_
 refine ar O O<|lc<|al<|sr<|mv O O<|ad O (db O (cy ·))<|lc<|aG O (fun p7=>?_) fun p7=>?_
 ·refine sr ?_
  apply ad O
  ·apply bp O kG gB
   exact aP.nil
  refine bZ O O O bH O O ?_
  refine ar O O<|lc<|rt ?_
  apply aR (.inl rfl) ([A])
  ·apply cF O
   ·apply Rv.agg rfl
    ·exact tk
    exact aJ cZ bH O
   exact .tmp rfl
  ·have he:=Lay.e34 p1 p2 p3 p4 (by simpa using p5) (by simpa using p6) (by simpa using p7);have ho:=zo l (by rw[he];decide);exact⟨by simp only[ho,he],rfl⟩
  exact en
 refine aq<|an<|al<|aY mixed ?_
 apply dq 0 O (yq (ah O))
 apply dq 1 O
 ·apply yq
  first | exact aW 0 O O bI aN (by omega) | exact az O O bI aN (by omega)
 apply dq 2 O
 ·apply yq
  apply cf (A:=A) rfl aX
  ·exact tk
  exact hA 0 _ rfl
 apply dq 3 O (yq (ah O))
 apply dq 4 O
 ·apply yq
  first | exact aW 1 O O bI aN (by omega) | exact az O O bI aN (by omega)
 apply dq 5 O
 ·apply yq
  apply cf (A:=A) rfl aX
  ·exact tk
  exact hA 1 _ rfl
 apply dq 6 O (yq (ah O))
 apply dq 7 O
 ·apply yq
  first | exact aW 2 O O bI aN (by omega) | exact az O O bI aN (by omega)
 apply dq 8 O
 ·apply yq
  apply cf (A:=A) rfl aX
  ·exact tk
  exact hA 2 _ rfl
 apply dq 9 O (yq (ah O))
 apply dq 10 O
 ·apply yq
  first | exact aW 3 O O bI aN (by omega) | exact az O O bI aN (by omega)
 apply dq 11 O
 ·apply yq
  apply cf (A:=A) rfl aX
  ·exact tk
  exact hA 3 _ rfl
 apply dq 12 O (yq (ah O))
 apply dq 13 O
 ·apply yq
  first | exact aW 4 O O bI aN (by omega) | exact az O O bI aN (by omega)
 apply dq 14 O
 ·apply yq
  apply cf (A:=A) rfl aX
  ·exact tk
  exact hA 4 _ rfl
 apply dq 15 O
 ·apply yq
  apply bp O kG gB
  apply aP.one
  ·repeat (first | exact ba.here | apply ba.there)
  ·rfl
  ·exact sa
  apply aP.one
  ·repeat (first | exact ba.here | apply ba.there)
  ·rfl
  ·exact sa
  apply aP.one
  ·repeat (first | exact ba.here | apply ba.there)
  ·rfl
  ·exact sa
  apply aP.one
  ·repeat (first | exact ba.here | apply ba.there)
  ·rfl
  ·exact sa
  apply aP.one
  ·repeat (first | exact ba.here | apply ba.there)
  ·rfl
  ·exact sa
  exact aP.nil
 refine ak [] [15,14,13,12,11,10,9,8,7,6,5,4,3,2,1,0] 16 [] gO trivial (by kernel_rfl) (by kernel_rfl) fun Ex=>?_
 refine ay O gB fun b7=>ai ?_
 apply aQ
 ·refine⟨?_,?_,?_,?_,?_,?_,?_,?_,?_,?_,?_,?_,?_,?_,?_,?_,trivial⟩
  ·apply ya O O
   apply yq
   apply bp O kG gB
   apply aP.one
   ·repeat (first | exact ba.here | apply ba.there)
   ·rfl
   ·exact sa
   apply aP.one
   ·repeat (first | exact ba.here | apply ba.there)
   ·rfl
   ·exact sa
   apply aP.one
   ·repeat (first | exact ba.here | apply ba.there)
   ·rfl
   ·exact sa
   apply aP.one
   ·repeat (first | exact ba.here | apply ba.there)
   ·rfl
   ·exact sa
   apply aP.one
   ·repeat (first | exact ba.here | apply ba.there)
   ·rfl
   ·exact sa
   exact aP.nil
  ·apply ya O O
   apply yq
   apply cf (A:=A) rfl aX
   ·exact tk
   exact hA 4 _ rfl
  ·apply ya O O
   apply yq
   first | exact aW 4 O O bI aN (by omega) | exact az O O bI aN (by omega)
  ·apply ya O O;exact yq (ah O)
  ·apply ya O O
   apply yq
   apply cf (A:=A) rfl aX
   ·exact tk
   exact hA 3 _ rfl
  ·apply ya O O
   apply yq
   first | exact aW 3 O O bI aN (by omega) | exact az O O bI aN (by omega)
  ·apply ya O O;exact yq (ah O)
  ·apply ya O O
   apply yq
   apply cf (A:=A) rfl aX
   ·exact tk
   exact hA 2 _ rfl
  ·apply ya O O
   apply yq
   first | exact aW 2 O O bI aN (by omega) | exact az O O bI aN (by omega)
  ·apply ya O O;exact yq (ah O)
  ·apply ya O O
   apply yq
   apply cf (A:=A) rfl aX
   ·exact tk
   exact hA 1 _ rfl
  ·apply ya O O
   apply yq
   first | exact aW 1 O O bI aN (by omega) | exact az O O bI aN (by omega)
  ·apply ya O O;exact yq (ah O)
  ·apply ya O O
   apply yq
   apply cf (A:=A) rfl aX
   ·exact tk
   exact hA 0 _ rfl
  ·apply ya O O
   apply yq
   first | exact aW 0 O O bI aN (by omega) | exact az O O bI aN (by omega)
  apply ya O O;exact yq (ah O)
 refine ak [15,0,1,2,3,4,5,6,7,8,9,10,11,12,13,14] [] 17 [(7,_),(78,_)] gO ⟨rfl,rfl,trivial⟩ (by kernel_rfl) (by kernel_rfl) fun Ex=>?_
 refine bZ O O O bH O O ?_
 refine ai ?_
 refine aQ trivial ?_
 refine aV (by kernel_rfl) ?_
 refine nz<|ad O (aE 0 O cB O O aN)<|ad O (aI O aX) ?_
 refine ad O (aE 3 O cB O O aN)<|ad O (aI O aX) ?_
 have he:=Lay.e0 p1 p2 p3 p4 (by simpa using p5) (by simpa using p6) (by simpa using p7)
 have hb:=Lay.bnd he
 have ho:∀ x,l.o x=x:=fun x=>(by unfold Lay.o;simp[he])
 refine bF O O O (Fq l (by omega) (by omega)) ?_
 refine ad O (aE 5 O cB O O aN)<|st O O O aN O ?_
 refine lz<|ad O (aE 5 O cB O O aN)<|ad O (aI O aX) ?_
 refine ad O (aE 1 O cB O O aN)<|ad O (aI O aX) ?_
 refine ad O (bn O O) ?_
 refine bF O O O (Ft l (by omega)) ?_
 refine ad O (aE 6 O cB O O aN)<|st O O O aN O ?_
 refine lz<|ad O (aE 6 O cB O O aN)<|ad O (aI O aX) ?_
 refine ad O (bn O O) ?_
 refine ad O (aE 7 O cB O O aN)<|st O O O aN O ?_
 refine lz<|ad O (aE 8 O cB O O aN)<|st O O O aN O ?_
 refine lc<|al<|sr<|ar O O<|lc<|aB ?_
 rw[show l.bo+8=l.slot from rfl]
 refine bK (fun i:Nat=>i<=8) (fun i=>[(2,.pointer (some ⟨b2,0,none⟩)),(7,.pointer (some ⟨b7,0,none⟩)),(8,.int .i64 i)]) (fun i=>pt b7 (.cells #[.int .i64 l.key,.int .i64 l.elem,.int .i64 l.ka,.int .i64 l.ea,.int .i64 l.cap,.int .i64 l.eo,.int .i64 l.bo,.int .i64 l.slot,.int .i64 (8+(i:Int)*l.slot)] 34 (0,0))::pt b2 (.cells #[.int .i64 0,.int .i64 0,.int .i64 0,.int .i64 0,.int .i64 0,.int .i64 0,.int .i64 0,.int .i64 0,.int .i64 0] 34 (0,0))::A::Fr) (fun i=>8-i) 0 (by omega) ⟨rfl,rfl,rfl,trivial⟩ (by rw[show(8:Int)+((0:Nat):Int)*l.slot=8 by simp];(exact en)) ?_
 intro i hi
 have hm:(i:Int)*l.slot<=8*278:=Int.mul_le_mul (by omega) (by omega) (by omega) (by omega)
 have hm0:0<=(i:Int)*l.slot:=Int.mul_nonneg (by omega) (by omega)
 refine al<|sr<|mv O O<|ad O (qi O O (bj ·))<|lc<|aG O (fun q=>?_) fun q=>?_
 ·refine aq<|an<|al<|aB<|aD<|ad O (aE 8 O cB O O aN)<|ad O (aI O aX) ?_
  refine ad O (aE 7 O cB O O aN)<|ad O (aI O aX) ?_
  refine ad O (bn O O) ?_
  refine ad O (aE 8 O cB O O aN)<|st O O O aN O ?_
  refine ai<|bz<|an<|aD<|mv O O<|ad O (bn O O) ?_
  refine ar O O<|ai ?_
  rw[show 8+(i:Int)*l.slot+l.slot=8+((i+1:Nat):Int)*l.slot by push_cast;rw[Int.add_mul,Int.one_mul];omega]
  apply aU ((i+1))
  ·exact(show i+1<=8 by omega)
  ·omega
  ·exact⟨O,O,O,trivial⟩
  exact en
 obtain rfl:i=8:=by omega
 rw[show(8:Int)+((8:Nat):Int)*l.slot=l.group from rfl]
 refine xt O<|nz<|ad O (aO O cZ bH) ?_
 refine bZ O O O bH O O ?_
 refine ar O O<|lc<|rt ?_
 apply aR (.inl rfl) ([A])
 ·apply cF O
  ·apply Rv.agg rfl
   ·exact tk
   exact aJ cZ bH O
  exact .tmp rfl
 ·exact⟨by simp only[ho,he],rfl⟩
 exact en
def nj (xs:List Int):Lay:=⟨xs.getD 0 0,xs.getD 1 0,xs.getD 2 0,xs.getD 3 0,xs.getD 4 0⟩
def kT (xs:List Int):Int:=if xs.length=5 then(nj xs).err else 30
theorem Parse_ok (A:HP) (v:Value) (xs:List Int) (hA:qN A v xs):
  aK Tryz.prog 25 #[v] [A] (fun r L=>L= [A]/\((kT xs=0/\(nj xs).err=0/\r=.tuple #[.agg (nj xs).cells,.int .i64 0])\/(kT xs≠0/\r=.tuple #[.agg Lay.zeros,.int .i64 (kT xs)]))):=by
 obtain⟨a,cap,rfl,hA⟩:=hA
 by_cases h5:xs.length=5
 ·obtain⟨b,o,rfl,hA5⟩:=hA (by omega)
  have hx:xs= [(nj xs).key,(nj xs).elem,(nj xs).ka,(nj xs).ea,(nj xs).cap]:=by
   match xs,h5 with
   | [_,_,_,_,_],_=>rfl
  have hp:kT xs=(nj xs).err:=by unfold kT;rw[if_pos h5]
  rw[h5]
  refine(fiveParse_ok A b o cap (nj xs) (by rw[<- hx];exact hA5)).mono fun r L ⟨h1,h2⟩=>⟨h2,?_⟩
  by_cases he:(nj xs).err=0
  ·have ho:∀ x,(nj xs).o x=x:=fun x=>(by unfold Lay.o;rw[if_pos he])
   exact .inl ⟨by rw[hp,he],he,by rw[h1];simp only[ho,he]⟩
  have ho:=zo (nj xs) he
  exact .inr ⟨by rw[hp];exact he,by rw[h1,hp];simp only[ho]⟩
 have hp:kT xs=30:=by unfold kT;rw[if_neg h5]
 refine aK.mono (Post:=fun r L=>L= [A]/\r=.tuple #[.agg Lay.zeros,.int .i64 30]) ?_ fun r L ⟨h1,h2⟩=>⟨h1,.inr ⟨by rw[hp];decide,by rw[h2,hp]⟩⟩
 refine au Hm Tryz.func25 rfl rfl rfl fun Fr w0=>aZ ?_
 refine sr<|ay O gB fun b2=>ar O O<|lc<|al<|sr<|mv O O<|ad O (ql O bI)<|ad O (qi O O (bf ·))<|lc<|aG O (fun h=>?_) fun h=>?_
 ·refine sr ?_
  apply ad O
  ·apply bp O kG gB
   exact aP.nil
  refine bZ O O O bH O O ?_
  refine ar O O<|lc<|rt ?_
  apply aR (.inl rfl) ([A])
  ·apply cF O
   ·apply Rv.agg rfl
    ·exact tk
    exact aJ cZ bH O
   exact .tmp rfl
  ·exact⟨rfl,rfl⟩
  exact en
 omega
end Ref03
end Go.Proofs.YthkajgkagnenbaaGreatDoor
