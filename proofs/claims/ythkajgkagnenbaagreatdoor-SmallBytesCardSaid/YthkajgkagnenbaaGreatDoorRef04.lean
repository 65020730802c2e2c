import Derived.Test.YthkajgkagnenbaaGreatDoorPromo
import Derived.Test.YthkajgkagnenbaaGreatDoorExactT
set_option linter.unusedVariables false
set_option linter.unusedSimpArgs false
set_option linter.unusedSectionVars false
set_option maxRecDepth 100000
namespace Go.Proofs.YthkajgkagnenbaaGreatDoor
namespace Ref04
open Go.RowKit Go.Proofs Eng Ty Bits Oracle
theorem jr (v:Int) (hv:0≤v∧v < 18446744073709551616):aG Tryz.prog 232 #[.int .u64 v] [] (fun r L=>r=.agg (cq (dg v)).toArray∧L= []):=by
 have hv0:v=v / 65536 ^ 0:=by simp
 have hz:cq (fun j=>if j < 0 then dg v j else 0)= [.int .i64 0,.int .i64 0,.int .i64 0,.int .i64 0]:=rfl
 refine aq Fh Tryz.func232 rfl rfl rfl fun Fr w0=>aR ?_
 refine sr<|az rfl fQ fun b2=>lz<|az rfl fQ fun b3=>lc<|ah<|sr<|asg rfl rfl<|lc<|ax ?_
 refine bw (fun i:Nat=>i≤4) (fun i=>[(0,.int .u64 (v / 65536 ^ i)),(2,.pointer (some ⟨b2,0,none⟩)),(3,.pointer (some ⟨b3,0,none⟩)),(4,.int .i64 (i:Nat))]) (fun i=>pt b3 (.cells (cq (fun j=>if j < i then dg v j else 0)).toArray 295 (0,0))::pt b2 (.cells #[.int .i64 0,.int .i64 0,.int .i64 0,.int .i64 0] 295 (0,0))::Fr) (fun i=>4-i) 0 (Nat.zero_le _) ⟨congrArg (fun z=>some (Value.int .u64 z)) hv0,rfl,rfl,rfl,trivial⟩ (by rw[hz];(exact en)) ?_
 intro i hi
 have hd0:0≤v / 65536 ^ i:=Int.ediv_nonneg hv.1 (Int.le_of_lt (Int.pow_pos (by decide)))
 have hd1:v / 65536 ^ i < 18446744073709551616:=Int.lt_of_le_of_lt (Int.ediv_le_self _ hv.1) hv.2
 obtain⟨D,hD⟩:∃ D,D=v / 65536 ^ i:=⟨_,rfl⟩
 rw[← hD] at hd0 hd1 ⊢
 refine ah<|sr<|mv rfl rfl<|l_q rfl (qi rfl rfl (aU ·))<|lc<|aA rfl (fun h1=>?_) fun h1=>?_
 ·skip
  have hi4:i < 4:=by omega
  have hset:(cq fun j=>if j < i then dg v j else 0).set i (.int .i64 (D % 65536))=cq fun j=>if j < i+1 then dg v j else 0:=by
   rw[ko _ hi4]
   refine dC fun j hj=>?_
   by_cases q:j=i
   ·subst q;rw[if_pos rfl,if_pos (by omega),hD];rfl
   rw[if_neg q]
   by_cases q2:j < i
   ·rw[if_pos q2,if_pos (by omega)]
   rw[if_neg q2,if_neg (by omega)]
  have hnx:IntKind.u64.wrap (D.tdiv 65536)=v / 65536 ^ (i+1):=by
   rw[wE,← hD,Int.tdiv_eq_ediv_of_nonneg hd0,IntKind.wrap_u64];omega
  refine al<|ak<|ah<|ax<|sr<|mv rfl rfl<|mv rfl rfl<|l_q rfl (iT rfl rfl) ?_
  refine l_q rfl (qcv rfl fF yU3) ?_
  refine l_q rfl (bk rfl rfl iD yS3 (by omega)) ?_
  apply iI rfl rfl rfl yS3 rfl
  ·exact tk
  ·rw[Nat.zero_add,Int.toNat_natCast,Nat.mul_one];exact Nat.ble_eq_true_of_le (by simp;omega)
  ·rw[Nat.zero_add,Int.toNat_natCast,Nat.mul_one,List.setIfInBounds_toArray,hset]
  refine lr<|mv rfl rfl<|l_q rfl (gI rfl rfl) ?_
  refine asg rfl rfl<|aj<|aV<|ak<|aB<|mv rfl rfl<|l_q rfl (ba rfl rfl) ?_
  refine asg rfl rfl<|aj ?_
  apply aO ((i+1))
  ·exact(show i+1≤4 by omega)
  ·omega
  ·exact⟨congrArg (fun z=>some (Value.int .u64 z)) hnx,rfl,rfl,rfl,trivial⟩
  exact en
 obtain rfl:i=4:=by omega
 rw[show(cq fun j=>if j < 4 then dg v j else 0)=cq (dg v) from dC fun j hj=>if_pos hj]
 refine xt rfl<|nz<|l_q rfl (aK rfl dy cB) ?_
 refine sta rfl rfl rfl cB rfl rfl ?_
 refine lc<|rt ?_
 apply aJ (.inl rfl) ([])
 ·apply cO rfl
  apply Rv.agg rfl
  ·exact tk
  exact aD dy cB rfl
 ·exact⟨rfl,rfl⟩
 exact en
theorem yM (v:Int) (hv:0≤v∧v < 18446744073709551616):aG Tryz.prog 235 #[.agg (cq (dg v)).toArray] [] (fun r L=>r=.int .u64 v∧L= []):=by
 have hv4:(0:Int)=v / 65536 ^ 4:=by rw[show(65536:Int) ^ 4=18446744073709551616 from rfl];omega
 refine aq Fe Tryz.func235 rfl rfl rfl fun Fr w0=>aR ?_
 refine sr<|aP rfl rfl fun b1=>asg rfl rfl<|lz<|asg rfl rfl<|lc<|ah<|sr<|asg rfl rfl<|lc<|ax ?_
 refine bw (fun m:Nat=>m≤4) (fun m=>[(1,.pointer (some ⟨b1,0,none⟩)),(3,.int .u64 (v / 65536 ^ m)),(4,.int .i64 (((m:Nat):Int)-1))]) (fun m=>pt b1 (.cells (cq (dg v)).toArray 295 (0,0))::Fr) (fun m=>m) 4 (Nat.le_refl _) ⟨rfl,congrArg (fun z=>some (Value.int .u64 z)) hv4,rfl,trivial⟩ (by(exact en)) ?_
 intro m hm
 refine ah<|sr<|mv rfl rfl<|l_q rfl (qi rfl rfl (gM ·))<|lc<|aA rfl (fun h1=>?_) fun h1=>?_
 ·skip
  have hm4:m-1 < 4:=by omega
  have hE0:0≤v / 65536 ^ (m-1):=Int.ediv_nonneg hv.1 (Int.le_of_lt (Int.pow_pos (by decide)))
  have hE1:v / 65536 ^ (m-1) < 18446744073709551616:=Int.lt_of_le_of_lt (Int.ediv_le_self _ hv.1) hv.2
  have hDE:v / 65536 ^ m=v / 65536 ^ (m-1) / 65536:=by rw[← wE];congr 2;omega
  have hdg:dg v (m-1)=v / 65536 ^ (m-1) % 65536:=rfl
  have hnx:v / 65536 ^ m*65536+dg v (m-1)=v / 65536 ^ (m-1):=by rw[hDE,hdg];omega
  refine al<|ak<|ah<|ax<|aB<|mv rfl rfl<|l_q rfl (dF rfl rfl) ?_
  refine mv rfl rfl<|l_q rfl (bk rfl rfl iD yS3 (by omega)) ?_
  apply l_q rfl
  ·apply bI (A:=pt b1 (.cells (cq (dg v)).toArray 295 (0,0))) rfl yA3
   ·exact tk
   exact eQ (i:=m-1) hm4 (by omega)
  refine l_q rfl (qcv rfl yU3 fF) ?_
  refine l_q rfl (ba rfl rfl) ?_
  refine asg rfl rfl<|aj<|aV<|ak<|aB<|mv rfl rfl<|l_q rfl (e9 rfl rfl) ?_
  refine asg rfl rfl<|aj ?_
  apply aO ((m-1))
  ·exact(show m-1≤4 by omega)
  ·omega
  ·exact⟨rfl,congrArg (fun z=>some (Value.int .u64 z)) hnx,congrArg (fun z=>some (Value.int .i64 z)) (show((m:Nat):Int)-1-1=((m-1:Nat):Int)-1 by omega),trivial⟩
  exact en
 obtain rfl:m=0:=by omega
 have hv0:v / 65536 ^ 0=v:=by simp
 refine xt rfl<|nz<|mv rfl rfl<|asg rfl rfl<|lc<|rt<|fr1 rfl ([]) (.tmp rfl) ?_
 exact⟨by rw[hv0],rfl⟩
theorem jx (a b:Int) (ha:0≤a∧a < 18446744073709551616) (hb:0≤b∧b < 18446744073709551616):aG Tryz.prog 231 #[.agg (cq (dg a)).toArray,.agg (cq (dg b)).toArray] [] (fun r L=>r=.agg (cq (dg (bits .xor .u64 a b))).toArray∧L= []):=by
 have hz:cq (fun j=>if j < 0 then dg (bits .xor .u64 a b) j else 0)= [.int .i64 0,.int .i64 0,.int .i64 0,.int .i64 0]:=rfl
 refine aq Fi Tryz.func231 rfl rfl rfl fun Fr w0=>aR ?_
 refine sr<|aP rfl rfl fun b2=>aP rfl rfl fun b3=>az rfl fQ fun b4=>lz<|az rfl fQ fun b5=>lc<|ah<|sr<|asg rfl rfl<|lc<|ax ?_
 refine bw (fun i:Nat=>i≤4) (fun i=>[(2,.pointer (some ⟨b2,0,none⟩)),(3,.pointer (some ⟨b3,0,none⟩)),(4,.pointer (some ⟨b4,0,none⟩)),(5,.pointer (some ⟨b5,0,none⟩)),(6,.int .i64 (i:Nat))]) (fun i=>pt b5 (.cells (cq (fun j=>if j < i then dg (bits .xor .u64 a b) j else 0)).toArray 295 (0,0))::pt b2 (.cells (cq (dg a)).toArray 295 (0,0))::pt b3 (.cells (cq (dg b)).toArray 295 (0,0))::pt b4 (.cells #[.int .i64 0,.int .i64 0,.int .i64 0,.int .i64 0] 295 (0,0))::Fr) (fun i=>4-i) 0 (Nat.zero_le _) ⟨rfl,rfl,rfl,rfl,rfl,trivial⟩ (by rw[hz];(exact en)) ?_
 intro i hi
 refine ah<|sr<|mv rfl rfl<|l_q rfl (qi rfl rfl (aU ·))<|lc<|aA rfl (fun h1=>?_) fun h1=>?_
 ·skip
  have hi4:i < 4:=by omega
  have hset:(cq fun j=>if j < i then dg (bits .xor .u64 a b) j else 0).set i (.int .i64 (bits .xor .i64 (dg a i) (dg b i)))=cq fun j=>if j < i+1 then dg (bits .xor .u64 a b) j else 0:=by
   rw[ko _ hi4]
   refine dC fun j hj=>?_
   by_cases q:j=i
   ·subst q;rw[if_pos rfl,if_pos (by omega),DV ha hb]
   rw[if_neg q]
   by_cases q2:j < i
   ·rw[if_pos q2,if_pos (by omega)]
   rw[if_neg q2,if_neg (by omega)]
  refine al<|ak<|ah<|ax<|aS mixed ?_
  apply dq 0 rfl
  ·exact yq (ai rfl)
  apply dq 1 rfl
  ·exact yq (ai rfl)
  apply dq 2 rfl
  ·exact yq (bk rfl rfl iD yS3 (by omega))
  apply dq 3 rfl
  ·apply yq
   apply bI (A:=pt b2 (.cells (cq (dg a)).toArray 295 (0,0))) rfl yA3
   ·exact tk
   exact eQ (i:=i) hi4 (by omega)
  apply dq 4 rfl
  ·exact yq (ai rfl)
  apply dq 5 rfl
  ·exact yq (bk rfl rfl iD yS3 (by omega))
  apply dq 6 rfl
  ·apply yq
   apply bI (A:=pt b3 (.cells (cq (dg b)).toArray 295 (0,0))) rfl yA3
   ·exact tk
   exact eQ (i:=i) hi4 (by omega)
  apply dq 7 rfl
  ·exact yq (gn rfl rfl rfl)
  apply dq 8 rfl
  ·exact yq (bk rfl rfl iD yS3 (by omega))
  refine an [8,7,0,1,2,3,4,5,6] [] 9 [(19,_),(18,_)] gO ⟨rfl,rfl,trivial⟩ (by kernel_rfl) (by kernel_rfl) fun Ex=>?_
  apply iI rfl rfl rfl yS3 rfl
  ·exact tk
  ·rw[Nat.zero_add,Int.toNat_natCast,Nat.mul_one];exact Nat.ble_eq_true_of_le (by simp;omega)
  ·rw[Nat.zero_add,Int.toNat_natCast,Nat.mul_one,List.setIfInBounds_toArray,hset]
  refine aj ?_
  apply n_d
  ·exact trivial
  refine bd (by kernel_rfl) ?_
  refine aV<|ak<|aB<|mv rfl rfl<|l_q rfl (ba rfl rfl) ?_
  refine asg rfl rfl<|aj ?_
  apply aO ((i+1))
  ·exact(show i+1≤4 by omega)
  ·omega
  ·exact⟨rfl,rfl,rfl,rfl,rfl,trivial⟩
  exact en
 obtain rfl:i=4:=by omega
 rw[show(cq fun j=>if j < 4 then dg (bits .xor .u64 a b) j else 0)=cq (dg (bits .xor .u64 a b)) from dC fun j hj=>if_pos hj]
 refine xt rfl<|nz<|l_q rfl (aK rfl dy cB) ?_
 refine sta rfl rfl rfl cB rfl rfl ?_
 refine lc<|rt ?_
 apply aJ (.inl rfl) ([])
 ·apply cO rfl
  apply Rv.agg rfl
  ·exact tk
  exact aD dy cB rfl
 ·exact⟨rfl,rfl⟩
 exact en
theorem yW (a b:Int):aG Tryz.prog 233 #[.agg (cq (dg a)).toArray,.agg (cq (dg b)).toArray] [] (fun r L=>r=.agg (cq (dg (IntKind.u64.wrap (val (dg a)*val (dg b))))).toArray∧L= []):=by
 refine aq Fg Tryz.func233 rfl rfl rfl fun Fr w0=>aR ?_
 refine sr<|aP rfl rfl fun b2=>aP rfl rfl fun b3=>az rfl fQ fun b4=>lz<|az rfl fQ fun b5=>lc<|ah<|sr<|asg rfl rfl<|lc<|ax ?_
 refine bw (fun x:Nat×(Nat→Int)=>x.1≤4∧Mul (dg a) (dg b) x.2 0 x.1 0) (fun x=>[(2,.pointer (some ⟨b2,0,none⟩)),(3,.pointer (some ⟨b3,0,none⟩)),(4,.pointer (some ⟨b4,0,none⟩)),(5,.pointer (some ⟨b5,0,none⟩)),(6,.int .i64 (x.1:Nat))]) (fun x=>pt b5 (.cells (cq (x.2)).toArray 295 (0,0))::pt b2 (.cells (cq (dg a)).toArray 295 (0,0))::pt b3 (.cells (cq (dg b)).toArray 295 (0,0))::pt b4 (.cells #[.int .i64 0,.int .i64 0,.int .i64 0,.int .i64 0] 295 (0,0))::Fr) (fun x=>4-x.1) (0,fun _=>0) ⟨Nat.zero_le _,Mul.start _ _⟩ ⟨rfl,rfl,rfl,rfl,rfl,trivial⟩ (by(exact en)) ?_
 rintro⟨i,c0⟩ ⟨hi,hM0⟩
 dsimp only at hi hM0 ⊢
 refine ah<|sr<|mv rfl rfl<|l_q rfl (qi rfl rfl (aU ·))<|lc<|aA rfl (fun h1=>?_) fun h1=>?_
 ·skip
  have hi4:i < 4:=by omega
  refine al<|ak<|ah<|ax<|sr<|asg rfl rfl<|lz<|asg rfl rfl<|lc<|ax ?_
  refine bw (fun y:(Nat→Int)×Int×Nat=>i+y.2.2≤4∧Mul (dg a) (dg b) y.1 y.2.1 i y.2.2) (fun y=>[(2,.pointer (some ⟨b2,0,none⟩)),(3,.pointer (some ⟨b3,0,none⟩)),(4,.pointer (some ⟨b4,0,none⟩)),(5,.pointer (some ⟨b5,0,none⟩)),(6,.int .i64 (i:Nat)),(7,.int .i64 y.2.1),(8,.int .i64 (y.2.2:Nat))]) (fun y=>pt b5 (.cells (cq (y.1)).toArray 295 (0,0))::pt b2 (.cells (cq (dg a)).toArray 295 (0,0))::pt b3 (.cells (cq (dg b)).toArray 295 (0,0))::pt b4 (.cells #[.int .i64 0,.int .i64 0,.int .i64 0,.int .i64 0] 295 (0,0))::Fr) (fun y=>4-y.2.2) (c0,0,0) ⟨by dsimp only;omega,hM0⟩ ⟨rfl,rfl,rfl,rfl,rfl,rfl,rfl,trivial⟩ (by(exact en)) ?_
  rintro⟨c,carry,j⟩ ⟨hij0,hM⟩
  dsimp only at hij0 hM ⊢
  refine ah<|sr<|mv rfl rfl<|mv rfl rfl<|l_q rfl (ba rfl rfl) ?_
  refine l_q rfl (qi rfl rfl (aU ·))<|lc<|aA rfl (fun h2=>?_) fun h2=>?_
  ·skip
   have hij:i+j < 4:=by omega
   have hj4:j < 4:=by omega
   have hoff:0+(((i:Nat):Int)+((j:Nat):Int)).toNat*1=i+j:=by omega
   have hca:=hM.car
   have hci:=hM.dig (i+j) hij
   have hai:=rX a i
   have hbj:=rX b j
   obtain⟨ht0,ht1,hM2⟩:=hM.step hai hbj hij rfl
   have hpp:0≤dg a i*dg b j:=Int.mul_nonneg hai.1 hbj.1
   refine al<|ak<|ah<|ax<|ah<|aS mixed ?_
   apply dq 0 rfl
   ·exact yq (ai rfl)
   apply dq 1 rfl
   ·exact yq (ai rfl)
   apply dq 2 rfl
   ·exact yq (ba rfl rfl)
   apply dq 3 rfl
   ·exact yq (bk rfl rfl iD yS3 (by omega))
   apply dq 4 rfl
   ·apply yq
    apply bI (A:=pt b5 (.cells (cq (c)).toArray 295 (0,0))) rfl yA3
    ·exact tk
    exact eQ (i:=i+j) hij (by omega)
   apply dq 5 rfl
   ·exact yq (ai rfl)
   apply dq 6 rfl
   ·exact yq (bk rfl rfl iD yS3 (by omega))
   apply dq 7 rfl
   ·apply yq
    apply bI (A:=pt b2 (.cells (cq (dg a)).toArray 295 (0,0))) rfl yA3
    ·exact tk
    exact eQ (i:=i) hi4 (by omega)
   apply dq 8 rfl
   ·exact yq (ai rfl)
   apply dq 9 rfl
   ·exact yq (bk rfl rfl iD yS3 (by omega))
   apply dq 10 rfl
   ·apply yq
    apply bI (A:=pt b3 (.cells (cq (dg b)).toArray 295 (0,0))) rfl yA3
    ·exact tk
    exact eQ (i:=j) hj4 (by omega)
   apply dq 11 rfl
   ·exact yq (dF rfl rfl)
   apply dq 12 rfl
   ·exact yq (ba rfl rfl)
   apply dq 13 rfl
   ·exact yq (ai rfl)
   apply dq 14 rfl
   ·exact yq (ba rfl rfl)
   refine an [14,0,1,2,3,4,5,6,7,8,9,10,11,12,13] [] 15 [(34,_)] gO ⟨rfl,trivial⟩ (by kernel_rfl) (by kernel_rfl) fun Ex=>?_
   refine asg rfl rfl<|aj ?_
   apply n_d
   ·exact trivial
   refine bd (by kernel_rfl) ?_
   refine nz<|mv rfl rfl<|mv rfl rfl<|l_q rfl (ba rfl rfl) ?_
   refine mv rfl rfl<|l_q rfl (iT rfl rfl) ?_
   refine l_q rfl (bk rfl rfl iD yS3 (by omega)) ?_
   apply iI rfl rfl rfl yS3 rfl
   ·exact tk
   ·rw[hoff];exact Nat.ble_eq_true_of_le (by simp;omega)
   ·rw[hoff,List.setIfInBounds_toArray,ko _ hij]
   refine lr<|mv rfl rfl<|l_q rfl (gI rfl rfl) ?_
   refine asg rfl rfl<|aj<|aV<|ak<|aB<|mv rfl rfl<|l_q rfl (ba rfl rfl) ?_
   refine asg rfl rfl<|aj ?_
   apply aO (((fun m=>if m=i+j then(c (i+j)+dg a i*dg b j+carry) % 65536 else c m),(c (i+j)+dg a i*dg b j+carry) / 65536,j+1))
   ·exact⟨by dsimp only;omega,hM2⟩
   ·dsimp only;omega
   ·exact⟨rfl,rfl,rfl,rfl,rfl,rfl,rfl,trivial⟩
   exact en
  have hij4:i+j=4:=by omega
  have hM3:=hM.row hij4
  refine xt rfl<|aV<|ak<|aB<|mv rfl rfl<|l_q rfl (ba rfl rfl) ?_
  refine asg rfl rfl<|aj ?_
  apply aO ((i+1,c))
  ·exact⟨by dsimp only;omega,hM3⟩
  ·dsimp only;omega
  ·exact⟨rfl,rfl,rfl,rfl,rfl,trivial⟩
  exact en
 obtain rfl:i=4:=by omega
 rw[dC fun j hj=>hM0.done hj]
 refine xt rfl<|nz<|l_q rfl (aK rfl dy cB) ?_
 refine sta rfl rfl rfl cB rfl rfl ?_
 refine lc<|rt ?_
 apply aJ (.inl rfl) ([])
 ·apply cO rfl
  apply Rv.agg rfl
  ·exact tk
  exact aD dy cB rfl
 ·exact⟨rfl,rfl⟩
 exact en
theorem rW (v:Int) (k q r:Nat) (hk:k=16*q+r) (hr:r < 16) (hq:q < 4):aG Tryz.prog 234 #[.agg (cq (dg v)).toArray,.int .i64 (k:Nat)] [] (fun w L=>w=.agg (cq (ew (dg v) q (2 ^ r))).toArray∧L= []):=by
 have hkr:((k:Nat):Int) % 16=((r:Nat):Int):=by omega
 have hkq:((k:Nat):Int) / 16=((q:Nat):Int):=by omega
 have hpb:2 ^ r≤32768:=(Nat.pow_le_pow_right (by decide) (by omega):2 ^ r≤2 ^ 15)
 have hp0:0 < 2 ^ r:=Nat.two_pow_pos r
 refine aq Ff Tryz.func234 rfl rfl rfl fun Fr w0=>aR ?_
 refine sr<|aP rfl rfl fun b2=>az rfl fQ fun b4=>lz<|az rfl fQ fun b5=>lz<|asg rfl rfl<|lc<|ah<|sr<|asg rfl rfl<|lc<|ax ?_
 refine bw (fun i:Nat=>i≤r) (fun i=>[(1,.int .i64 (k:Nat)),(2,.pointer (some ⟨b2,0,none⟩)),(4,.pointer (some ⟨b4,0,none⟩)),(5,.pointer (some ⟨b5,0,none⟩)),(6,.int .i64 ((2 ^ i:Nat):Int)),(7,.int .i64 (i:Nat))]) (fun i=>pt b5 (.cells #[.int .i64 0,.int .i64 0,.int .i64 0,.int .i64 0] 295 (0,0))::pt b2 (.cells (cq (dg v)).toArray 295 (0,0))::pt b4 (.cells #[.int .i64 0,.int .i64 0,.int .i64 0,.int .i64 0] 295 (0,0))::Fr) (fun i=>r-i) 0 (Nat.zero_le _) ⟨rfl,rfl,rfl,rfl,rfl,rfl,trivial⟩ (by(exact en)) ?_
 intro i hi
 have hpi:2 ^ i≤2 ^ r:=Nat.pow_le_pow_right (by decide) hi
 obtain⟨p,hp⟩:∃ p,p=2 ^ i:=⟨_,rfl⟩
 rw[← hp] at hpi ⊢
 refine ah<|sr<|mv rfl rfl<|mv rfl rfl<|l_q rfl (iT rfl rfl) ?_
 refine l_q rfl (qi rfl rfl (aU ·))<|lc<|aA rfl (fun h1=>?_) fun h1=>?_
 ·skip
  have hnx:((p:Nat):Int)*2=((2 ^ (i+1):Nat):Int):=by rw[Nat.pow_succ,← hp];push_cast;rfl
  have hpb2:p≤32768:=Nat.le_trans hpi hpb
  refine al<|ak<|ah<|ax<|aB<|mv rfl rfl<|l_q rfl (dF rfl rfl) ?_
  refine asg rfl rfl<|aj<|aV<|ak<|aB<|mv rfl rfl<|l_q rfl (ba rfl rfl) ?_
  refine asg rfl rfl<|aj ?_
  apply aO ((i+1))
  ·exact(show i+1≤r by omega)
  ·omega
  ·exact⟨rfl,rfl,rfl,rfl,congrArg (fun z=>some (Value.int .i64 z)) hnx,rfl,trivial⟩
  exact en
 obtain rfl:i=r:=by omega
 rw[← hp] at hpb hp0 ⊢
 have hz:cq (fun j=>if j < 0 then ew (dg v) q p j else 0)= [.int .i64 0,.int .i64 0,.int .i64 0,.int .i64 0]:=rfl
 refine xt rfl<|ak<|ah<|sr<|asg rfl rfl<|lc<|ax ?_
 refine bw (fun i:Nat=>i+q≤4) (fun i=>[(1,.int .i64 (k:Nat)),(2,.pointer (some ⟨b2,0,none⟩)),(4,.pointer (some ⟨b4,0,none⟩)),(5,.pointer (some ⟨b5,0,none⟩)),(6,.int .i64 (p:Nat)),(8,.int .i64 (i:Nat))]) (fun i=>pt b5 (.cells (cq (fun j=>if j < i then ew (dg v) q p j else 0)).toArray 295 (0,0))::pt b2 (.cells (cq (dg v)).toArray 295 (0,0))::pt b4 (.cells #[.int .i64 0,.int .i64 0,.int .i64 0,.int .i64 0] 295 (0,0))::Fr) (fun i=>4-i) 0 (by omega) ⟨rfl,rfl,rfl,rfl,rfl,rfl,trivial⟩ (by rw[hz];(exact en)) ?_
 intro i hiq0
 refine ah<|sr<|mv rfl rfl<|mv rfl rfl<|l_q rfl (gI rfl rfl) ?_
 refine l_q rfl (ba rfl rfl) ?_
 refine l_q rfl (qi rfl rfl (aU ·))<|lc<|aA rfl (fun h2=>?_) fun h2=>?_
 ·skip
  have hi4:i < 4:=by omega
  have hiq:i+q < 4:=by omega
  have hd1:=rX v (i+q)
  have hd2:=rX v (i+q+1)
  have hq1:0≤dg v (i+q) / ((p:Nat):Int)∧dg v (i+q) / ((p:Nat):Int) < 65536:=⟨Int.ediv_nonneg hd1.1 (by omega),Int.lt_of_le_of_lt (Int.ediv_le_self _ hd1.1) hd1.2⟩
  have hrow:∀ x:Int,ew (dg v) q p i=x→(cq fun j=>if j=i then x else if j < i then ew (dg v) q p j else 0)=cq fun j=>if j < i+1 then ew (dg v) q p j else 0:=fun x hx=>dC fun j hj=>by
   by_cases q1:j=i
   ·subst q1;rw[if_pos rfl,if_pos (by omega),hx]
   rw[if_neg q1]
   by_cases q2:j < i
   ·rw[if_pos q2,if_pos (by omega)]
   rw[if_neg q2,if_neg (by omega)]
  refine al<|ak<|ah<|ax<|sr<|mv rfl rfl<|mv rfl rfl<|mv rfl rfl<|l_q rfl (gI rfl rfl) ?_
  refine l_q rfl (ba rfl rfl) ?_
  refine l_q rfl (bk rfl rfl iD yS3 (by omega)) ?_
  apply l_q rfl
  ·apply bI (A:=pt b2 (.cells (cq (dg v)).toArray 295 (0,0))) rfl yA3
   ·exact tk
   exact eQ (i:=i+q) hiq (by omega)
  refine mv rfl rfl<|l_q rfl (gI rfl rfl) ?_
  refine l_q rfl (bk rfl rfl iD yS3 (by omega)) ?_
  apply iI rfl rfl rfl yS3 rfl
  ·exact tk
  ·rw[Nat.zero_add,Int.toNat_natCast,Nat.mul_one];exact Nat.ble_eq_true_of_le (by simp;omega)
  ·rw[Nat.zero_add,Int.toNat_natCast,Nat.mul_one,List.setIfInBounds_toArray,ko _ hi4]
  refine lz<|mv rfl rfl<|mv rfl rfl<|l_q rfl (gI rfl rfl) ?_
  refine l_q rfl (ba rfl rfl) ?_
  refine l_q rfl (ba rfl rfl) ?_
  refine l_q rfl (qi rfl rfl (aU ·))<|lc<|aA rfl (fun h3=>?_) fun h3=>?_
  ·skip
   have hiq2:i+q+1 < 4:=by omega
   have hm1:0≤dg v (i+q+1) % ((p:Nat):Int)∧dg v (i+q+1) % ((p:Nat):Int) < (p:Nat):=⟨Int.emod_nonneg _ (by omega),Int.emod_lt_of_pos _ (by omega)⟩
   have hm2:0≤65536 / ((p:Nat):Int)∧65536 / ((p:Nat):Int)≤65536:=⟨Int.ediv_nonneg (by decide) (by omega),Int.ediv_le_self _ (by decide)⟩
   have hpr:0≤dg v (i+q+1) % ((p:Nat):Int)*(65536 / ((p:Nat):Int))∧dg v (i+q+1) % ((p:Nat):Int)*(65536 / ((p:Nat):Int))≤32768*65536:=⟨Int.mul_nonneg hm1.1 hm2.1,Int.mul_le_mul (by omega) hm2.2 hm2.1 (by decide)⟩
   have h43:ct (pt b5 (.cells (cq (fun j=>if j=i then dg v (i+q) / ((p:Nat):Int) else if j < i then ew (dg v) q p j else 0)).toArray 295 (0,0))) ⟨b5,0+((i:Nat):Int).toNat*1,none⟩ (.int .i64 (dg v (i+q) / ((p:Nat):Int))):=by
    have:=eQ (b:=b5) (o:=0+((i:Nat):Int).toNat*1) (i:=i) (f:=fun j=>if j=i then dg v (i+q) / ((p:Nat):Int) else if j < i then ew (dg v) q p j else 0) (t:=295) (fr:=(0,0)) hi4 (by omega)
    simpa only[if_true] using this
   have hset2:∀ y:Int,(cq fun j=>if j=i then dg v (i+q) / ((p:Nat):Int) else if j < i then ew (dg v) q p j else 0).set i (.int .i64 y)=cq fun j=>if j=i then y else if j < i then ew (dg v) q p j else 0:=fun y=>by
    rw[ko _ hi4]
    refine dC fun j _=>?_
    by_cases q1:j=i
    ·rw[if_pos q1,if_pos q1]
    rw[if_neg q1,if_neg q1,if_neg q1]
   refine aS mixed ?_
   apply dq 0 rfl
   ·exact yq (ai rfl)
   apply dq 1 rfl
   ·exact yq (ai rfl)
   apply dq 2 rfl
   ·exact yq (bk rfl rfl iD yS3 (by omega))
   apply dq 3 rfl
   ·apply yq
    apply bI (A:=pt b5 (.cells (cq (fun j=>if j=i then dg v (i+q) / ((p:Nat):Int) else if j < i then ew (dg v) q p j else 0)).toArray 295 (0,0))) rfl yA3
    ·exact tk
    exact h43
   apply dq 4 rfl
   ·exact yq (ai rfl)
   apply dq 5 rfl
   ·exact yq (ai rfl)
   apply dq 6 rfl
   ·exact yq (gI rfl rfl)
   apply dq 7 rfl
   ·exact yq (ba rfl rfl)
   apply dq 8 rfl
   ·exact yq (ba rfl rfl)
   apply dq 9 rfl
   ·exact yq (bk rfl rfl iD yS3 (by omega))
   apply dq 10 rfl
   ·apply yq
    apply bI (A:=pt b2 (.cells (cq (dg v)).toArray 295 (0,0))) rfl yA3
    ·exact tk
    exact eQ (i:=i+q+1) hiq2 (by omega)
   apply dq 11 rfl
   ·exact yq (ai rfl)
   apply dq 12 rfl
   ·exact yq (iT rfl rfl)
   apply dq 13 rfl
   ·exact yq (ai rfl)
   apply dq 14 rfl
   ·exact yq (gI rfl rfl)
   apply dq 15 rfl
   ·exact yq (dF rfl rfl)
   apply dq 16 rfl
   ·exact yq (ba rfl rfl)
   apply dq 17 rfl
   ·exact yq (bk rfl rfl iD yS3 (by omega))
   refine an [17,16,0,1,2,3,4,5,6,7,8,9,10,11,12,13,14,15] [] 18 [(57,_),(56,_)] gO ⟨rfl,rfl,trivial⟩ (by kernel_rfl) (by kernel_rfl) fun Ex=>?_
   apply iI rfl rfl rfl yS3 rfl
   ·exact tk
   ·rw[Nat.zero_add,Int.toNat_natCast,Nat.mul_one];exact Nat.ble_eq_true_of_le (by simp;omega)
   ·rw[Nat.zero_add,Int.toNat_natCast,Nat.mul_one,List.setIfInBounds_toArray,hset2]
   refine aj ?_
   apply n_d
   ·exact trivial
   refine bd (by kernel_rfl) ?_
   refine aV<|ak<|aB<|mv rfl rfl<|l_q rfl (ba rfl rfl) ?_
   refine asg rfl rfl<|aj ?_
   rw[hrow _ (by unfold ew;rw[if_pos hiq,if_pos hiq2])]
   -- again
   apply aO ((i+1))
   ·exact(by omega)
   ·omega
   ·exact⟨rfl,rfl,rfl,rfl,rfl,rfl,trivial⟩
   exact en
  rw[hrow _ (by unfold ew;rw[if_pos hiq,if_neg (by omega),Int.add_zero])]
  refine al<|aV<|ak<|aB<|mv rfl rfl<|l_q rfl (ba rfl rfl) ?_
  refine asg rfl rfl<|aj ?_
  apply aO ((i+1))
  ·exact(by omega)
  ·omega
  ·exact⟨rfl,rfl,rfl,rfl,rfl,rfl,trivial⟩
  exact en
 rw[show(cq fun j=>if j < i then ew (dg v) q p j else 0)=cq (ew (dg v) q p) from dC fun j hj=>by
  by_cases q2:j < i
  ·rw[if_pos q2]
  rw[if_neg q2];unfold ew;rw[if_neg (by omega)]]
 refine xt rfl<|nz<|l_q rfl (aK rfl dy cB) ?_
 refine sta rfl rfl rfl cB rfl rfl ?_
 refine lc<|rt ?_
 apply aJ (.inl rfl) ([])
 ·apply cO rfl
  apply Rv.agg rfl
  ·exact tk
  exact aD dy cB rfl
 ·exact⟨rfl,rfl⟩
 exact en
theorem mY (a b:Int) (ha:0≤a∧a < 18446744073709551616) (hb:0≤b∧b < 18446744073709551616):aG Tryz.prog 233 #[.agg (cq (dg a)).toArray,.agg (cq (dg b)).toArray] [] (fun r L=>r=.agg (cq (dg (IntKind.u64.wrap (a*b)))).toArray∧L= []):=by
 have:=yW a b
 rw[yP ha.1 ha.2,yP hb.1 hb.2] at this
 exact this
theorem xV (v:Int) (hv:0≤v∧v < 18446744073709551616):aG Tryz.prog 234 #[.agg (cq (dg v)).toArray,.int .i64 31] [] (fun r L=>r=.agg (cq (dg (v.fdiv (2 ^ min (Int.toNat 31) IntKind.u64.bits)))).toArray∧L= []):=by
 have h:=rW v 31 1 15 rfl (by decide) (by decide)
 rw[dC (f:=ew (dg v) 1 (2 ^ 15)) (g:=dg (v.fdiv (2 ^ min (Int.toNat 31) IntKind.u64.bits))) fun i hi=>(by rw[Int.fdiv_eq_ediv_of_nonneg _ (by decide),show(2:Int) ^ min (Int.toNat 31) IntKind.u64.bits=2147483648 from rfl];exact Ck hv.1 hv.2 hi)] at h
 exact h
theorem xW (v:Int) (hv:0≤v∧v < 18446744073709551616):aG Tryz.prog 234 #[.agg (cq (dg v)).toArray,.int .i64 29] [] (fun r L=>r=.agg (cq (dg (v.fdiv (2 ^ min (Int.toNat 29) IntKind.u64.bits)))).toArray∧L= []):=by
 have h:=rW v 29 1 13 rfl (by decide) (by decide)
 rw[dC (f:=ew (dg v) 1 (2 ^ 13)) (g:=dg (v.fdiv (2 ^ min (Int.toNat 29) IntKind.u64.bits))) fun i hi=>(by rw[Int.fdiv_eq_ediv_of_nonneg _ (by decide),show(2:Int) ^ min (Int.toNat 29) IntKind.u64.bits=536870912 from rfl];exact Cl hv.1 hv.2 hi)] at h
 exact h
theorem xU (v:Int) (hv:0≤v∧v < 18446744073709551616):aG Tryz.prog 234 #[.agg (cq (dg v)).toArray,.int .i64 32] [] (fun r L=>r=.agg (cq (dg (v.fdiv (2 ^ min (Int.toNat 32) IntKind.u64.bits)))).toArray∧L= []):=by
 have h:=rW v 32 2 0 rfl (by decide) (by decide)
 rw[dC (f:=ew (dg v) 2 (2 ^ 0)) (g:=dg (v.fdiv (2 ^ min (Int.toNat 32) IntKind.u64.bits))) fun i hi=>(by rw[Int.fdiv_eq_ediv_of_nonneg _ (by decide),show(2:Int) ^ min (Int.toNat 32) IntKind.u64.bits=4294967296 from rfl];exact Cj hv.1 hv.2 hi)] at h
 exact h
theorem Ax:(cq (dg 13234230157428861123))= [.int .i64 10435,.int .i64 53583,.int .i64 28213,.int .i64 47017]:=by kernel_rfl
theorem DY:(cq (dg 11329751410908088055))= [.int .i64 18167,.int .i64 28840,.int .i64 23777,.int .i64 40251]:=by kernel_rfl
theorem Ay (x:Int) (h:0≤x∧x < 256):cq (dg x)= [.int .i64 x,.int .i64 0,.int .i64 0,.int .i64 0]:=by
 have e0:(65536:Int) ^ 0=1:=rfl
 have e1:(65536:Int) ^ 1=65536:=rfl
 have e2:(65536:Int) ^ 2=4294967296:=rfl
 have e3:(65536:Int) ^ 3=281474976710656:=rfl
 have d0:dg x 0=x:=by unfold dg;rw[e0];omega
 have d1:dg x 1=0:=by unfold dg;rw[e1];omega
 have d2:dg x 2=0:=by unfold dg;rw[e2];omega
 have d3:dg x 3=0:=by unfold dg;rw[e3];omega
 simp only[cq,d0,d1,d2,d3]
theorem zI (seed:Int) (key:ByteArray) (i:Nat):0≤im seed key i∧im seed key i < 18446744073709551616:=by
 cases i <;> exact nU _ _
theorem eF (x:Int):0≤IntKind.u64.wrap x∧IntKind.u64.wrap x < 18446744073709551616:=by rw[IntKind.wrap_u64];omega
theorem oY {v:Int} (hv:0≤v∧v < 18446744073709551616) (k:Nat):0≤v.fdiv (2 ^ k)∧v.fdiv (2 ^ k) < 18446744073709551616:=by
 rw[Int.fdiv_eq_ediv_of_nonneg _ (Int.le_of_lt (Int.pow_pos (by decide)))]
 exact⟨Int.ediv_nonneg hv.1 (Int.le_of_lt (Int.pow_pos (by decide))),Int.lt_of_le_of_lt (Int.ediv_le_self _ hv.1) hv.2⟩
theorem CA (seed:Int) (hs:0≤seed∧seed < 18446744073709551616) (key:ByteArray) (hk:key.size≤140737488351232):
  aG Tryz.prog 205 #[.int .u64 seed,.string key] [] (fun v L=>v=.int .u64 (xv seed key)∧L= []):=by
 have hn1:0≤1+(key.size:Int)∧1+(key.size:Int) < 18446744073709551616:=by omega
 have htm:=mY 13234230157428861123 (1+(key.size:Int)) (by decide) hn1
 rw[Ax] at htm
 refine aq FB Tryz.func205 rfl rfl rfl fun Fr w0=>aR ?_
 refine sr<|asg rfl rfl<|lz<|l_q rfl (oD (us:=#[.int .i64 10435,.int .i64 53583,.int .i64 28213,.int .i64 47017]) rfl Tryz.underlying295 yS3 fQ rfl)<|az rfl fQ fun b5=>sta rfl rfl rfl cB rfl rfl ?_
 refine lz<|l_q rfl (oD (us:=#[.int .i64 18167,.int .i64 28840,.int .i64 23777,.int .i64 40251]) rfl Tryz.underlying295 yS3 fQ rfl)<|az rfl fQ fun b6=>sta rfl rfl rfl cB rfl rfl ?_
 refine lc<|ah ?_
 apply qf (p:=(fun(x:Nat)=>True)) (EE:=(fun x=>[(1,.string key),(5,.pointer (some ⟨b5,0,none⟩)),(6,.pointer (some ⟨b6,0,none⟩)),(7,.pointer (some ⟨x,0,none⟩))])) (LL:=(fun x=>pt x (.cells (cq (dg (im seed key 0))).toArray 295 (0,0))::pt b6 (.cells #[.int .i64 18167,.int .i64 28840,.int .i64 23777,.int .i64 40251] 295 (0,0))::pt b5 (.cells #[.int .i64 10435,.int .i64 53583,.int .i64 28213,.int .i64 47017] 295 (0,0))::Fr))
 refine aS mixed ?_
 apply dq 0 rfl
 ·exact yq (ai rfl)
 apply dq 2 rfl
 ·exact yq (aK rfl dy cB)
 apply dq 3 rfl
 ·exact yq (ai rfl)
 apply dq 4 rfl
 ·exact yq (qls rfl yU9)
 apply dq 5 rfl
 ·exact yq (ba rfl rfl)
 apply dq 6 rfl
 ·exact yq (qcv rfl yU3 fF)
 apply iW 1 10
 ·kernel_rfl
 ·apply fj (q1:=[0]) (q2:=[6,5,4,3,2]) [(11,_)]
  ·exact gO
  ·exact⟨rfl,trivial⟩
  ·kernel_rfl
  intro Ex
  refine lc1 rfl rfl rfl (jr seed hs) ?_
  refine aj ?_
  apply n_d
  ·refine⟨?_,?_,?_,?_,?_,trivial⟩
   ·apply ya rfl rfl;exact yq (qcv rfl yU3 fF)
   ·apply ya rfl rfl;exact yq (ba rfl rfl)
   ·apply ya rfl rfl;exact yq (qls rfl yU9)
   ·apply ya rfl rfl;exact yq (ai rfl)
   apply ya rfl rfl;exact yq (aK rfl dy cB)
  apply iW 7 10
  ·kernel_rfl
  ·apply fj (q1:=[6,5,4,3]) (q2:=[2]) [(17,_)]
   ·exact gO
   ·exact⟨rfl,trivial⟩
   ·kernel_rfl
   intro Ex
   refine lc1 rfl rfl rfl (jr _ hn1) ?_
   refine aj ?_
   apply n_d
   ·refine⟨?_,trivial⟩
    apply ya rfl rfl;exact yq (aK rfl dy cB)
   apply iW 8 10
   ·kernel_rfl
   ·apply fj (q1:=[2]) (q2:=[]) [(13,_),(18,_)]
    ·exact gO
    ·exact⟨rfl,rfl,trivial⟩
    ·kernel_rfl
    intro Ex
    refine lc1 rfl rfl rfl (htm) ?_
    refine aj ?_
    apply n_d
    ·exact trivial
    apply iW 9 10
    ·kernel_rfl
    ·apply fj (q1:=[]) (q2:=[]) [(12,_),(19,_)]
     ·exact gO
     ·exact⟨rfl,rfl,trivial⟩
     ·kernel_rfl
     intro Ex
     refine lc1 rfl rfl rfl (jx seed _ hs (eF _)) ?_
     refine aj ?_
     apply n_d
     ·exact trivial
     refine an [] [] 10 [] gO trivial (by kernel_rfl) (by kernel_rfl) fun Ex=>?_
     refine az rfl fQ fun b7=>aj ?_
     apply n_d
     ·exact trivial
     refine an [] [] 11 [(7,_),(20,_)] gO ⟨rfl,rfl,trivial⟩ (by kernel_rfl) (by kernel_rfl) fun Ex=>?_
     refine sta rfl rfl rfl cB rfl rfl ?_
     refine aj ?_
     apply n_d
     ·exact trivial
     refine bd (by kernel_rfl) ?_
     apply ej (b7)
     ·exact trivial
     ·exact⟨rfl,rfl,rfl,rfl,trivial⟩
     exact en
    apply fj (q1:=[]) (q2:=[]) []
    ·exact gO
    ·exact trivial
    ·kernel_rfl
    intro Ex
    refine az rfl fQ fun b7=>aj ?_
    apply n_d
    ·exact trivial
    refine an [] [] 9 [(12,_),(19,_)] gO ⟨rfl,rfl,trivial⟩ (by kernel_rfl) (by kernel_rfl) fun Ex=>?_
    refine lc1 rfl rfl rfl (jx seed _ hs (eF _)) ?_
    refine aj ?_
    apply n_d
    ·exact trivial
    refine an [] [] 11 [(7,_),(20,_)] gO ⟨rfl,rfl,trivial⟩ (by kernel_rfl) (by kernel_rfl) fun Ex=>?_
    refine sta rfl rfl rfl cB rfl rfl ?_
    refine aj ?_
    apply n_d
    ·exact trivial
    refine bd (by kernel_rfl) ?_
    apply ej (b7)
    ·exact trivial
    ·exact⟨rfl,rfl,rfl,rfl,trivial⟩
    exact en
   apply fj (q1:=[]) (q2:=[2]) []
   ·exact gO
   ·exact trivial
   ·kernel_rfl
   intro Ex
   refine az rfl fQ fun b7=>aj ?_
   apply n_d
   ·refine⟨?_,trivial⟩
    apply ya rfl rfl;exact yq (aK rfl dy cB)
   refine an [2] [] 8 [(13,_),(18,_)] gO ⟨rfl,rfl,trivial⟩ (by kernel_rfl) (by kernel_rfl) fun Ex=>?_
   refine lc1 rfl rfl rfl (htm) ?_
   refine aj ?_
   apply n_d
   ·exact trivial
   refine an [] [] 9 [(12,_),(19,_)] gO ⟨rfl,rfl,trivial⟩ (by kernel_rfl) (by kernel_rfl) fun Ex=>?_
   refine lc1 rfl rfl rfl (jx seed _ hs (eF _)) ?_
   refine aj ?_
   apply n_d
   ·exact trivial
   refine an [] [] 11 [(7,_),(20,_)] gO ⟨rfl,rfl,trivial⟩ (by kernel_rfl) (by kernel_rfl) fun Ex=>?_
   refine sta rfl rfl rfl cB rfl rfl ?_
   refine aj ?_
   apply n_d
   ·exact trivial
   refine bd (by kernel_rfl) ?_
   apply ej (b7)
   ·exact trivial
   ·exact⟨rfl,rfl,rfl,rfl,trivial⟩
   exact en
  apply fj (q1:=[]) (q2:=[6,5,4,3,2]) []
  ·exact gO
  ·exact trivial
  ·kernel_rfl
  intro Ex
  refine az rfl fQ fun b7=>aj ?_
  apply n_d
  ·refine⟨?_,?_,?_,?_,?_,trivial⟩
   ·apply ya rfl rfl;exact yq (qcv rfl yU3 fF)
   ·apply ya rfl rfl;exact yq (ba rfl rfl)
   ·apply ya rfl rfl;exact yq (qls rfl yU9)
   ·apply ya rfl rfl;exact yq (ai rfl)
   apply ya rfl rfl;exact yq (aK rfl dy cB)
  refine an [6,5,4,3] [2] 7 [(17,_)] gO ⟨rfl,trivial⟩ (by kernel_rfl) (by kernel_rfl) fun Ex=>?_
  refine lc1 rfl rfl rfl (jr _ hn1) ?_
  refine aj ?_
  apply n_d
  ·refine⟨?_,trivial⟩
   apply ya rfl rfl;exact yq (aK rfl dy cB)
  refine an [2] [] 8 [(13,_),(18,_)] gO ⟨rfl,rfl,trivial⟩ (by kernel_rfl) (by kernel_rfl) fun Ex=>?_
  refine lc1 rfl rfl rfl (htm) ?_
  refine aj ?_
  apply n_d
  ·exact trivial
  refine an [] [] 9 [(12,_),(19,_)] gO ⟨rfl,rfl,trivial⟩ (by kernel_rfl) (by kernel_rfl) fun Ex=>?_
  refine lc1 rfl rfl rfl (jx seed _ hs (eF _)) ?_
  refine aj ?_
  apply n_d
  ·exact trivial
  refine an [] [] 11 [(7,_),(20,_)] gO ⟨rfl,rfl,trivial⟩ (by kernel_rfl) (by kernel_rfl) fun Ex=>?_
  refine sta rfl rfl rfl cB rfl rfl ?_
  refine aj ?_
  apply n_d
  ·exact trivial
  refine bd (by kernel_rfl) ?_
  apply ej (b7)
  ·exact trivial
  ·exact⟨rfl,rfl,rfl,rfl,trivial⟩
  exact en
 ·apply fj (q1:=[]) (q2:=[6,5,4,3,2,0]) []
  ·exact gO
  ·exact trivial
  ·kernel_rfl
  intro Ex
  refine az rfl fQ fun b7=>aj ?_
  apply n_d
  ·refine⟨?_,?_,?_,?_,?_,?_,trivial⟩
   ·apply ya rfl rfl;exact yq (qcv rfl yU3 fF)
   ·apply ya rfl rfl;exact yq (ba rfl rfl)
   ·apply ya rfl rfl;exact yq (qls rfl yU9)
   ·apply ya rfl rfl;exact yq (ai rfl)
   ·apply ya rfl rfl;exact yq (aK rfl dy cB)
   apply ya rfl rfl;exact yq (ai rfl)
  refine an [0] [6,5,4,3,2] 1 [(11,_)] gO ⟨rfl,trivial⟩ (by kernel_rfl) (by kernel_rfl) fun Ex=>?_
  refine lc1 rfl rfl rfl (jr seed hs) ?_
  refine aj ?_
  apply n_d
  ·refine⟨?_,?_,?_,?_,?_,trivial⟩
   ·apply ya rfl rfl;exact yq (qcv rfl yU3 fF)
   ·apply ya rfl rfl;exact yq (ba rfl rfl)
   ·apply ya rfl rfl;exact yq (qls rfl yU9)
   ·apply ya rfl rfl;exact yq (ai rfl)
   apply ya rfl rfl;exact yq (aK rfl dy cB)
  refine an [6,5,4,3] [2] 7 [(17,_)] gO ⟨rfl,trivial⟩ (by kernel_rfl) (by kernel_rfl) fun Ex=>?_
  refine lc1 rfl rfl rfl (jr _ hn1) ?_
  refine aj ?_
  apply n_d
  ·refine⟨?_,trivial⟩
   apply ya rfl rfl;exact yq (aK rfl dy cB)
  refine an [2] [] 8 [(13,_),(18,_)] gO ⟨rfl,rfl,trivial⟩ (by kernel_rfl) (by kernel_rfl) fun Ex=>?_
  refine lc1 rfl rfl rfl (htm) ?_
  refine aj ?_
  apply n_d
  ·exact trivial
  refine an [] [] 9 [(12,_),(19,_)] gO ⟨rfl,rfl,trivial⟩ (by kernel_rfl) (by kernel_rfl) fun Ex=>?_
  refine lc1 rfl rfl rfl (jx seed _ hs (eF _)) ?_
  refine aj ?_
  apply n_d
  ·exact trivial
  refine an [] [] 11 [(7,_),(20,_)] gO ⟨rfl,rfl,trivial⟩ (by kernel_rfl) (by kernel_rfl) fun Ex=>?_
  refine sta rfl rfl rfl cB rfl rfl ?_
  refine aj ?_
  apply n_d
  ·exact trivial
  refine bd (by kernel_rfl) ?_
  apply ej (b7)
  ·exact trivial
  ·exact⟨rfl,rfl,rfl,rfl,trivial⟩
  exact en
 rintro b7 _
 try dsimp only
 refine nQ ?_
 refine ak<|ah<|sr<|asg rfl rfl<|lc<|ax ?_
 refine bw (fun i:Nat=>i≤key.size) (fun i=>[(1,.string key),(5,.pointer (some ⟨b5,0,none⟩)),(6,.pointer (some ⟨b6,0,none⟩)),(7,.pointer (some ⟨b7,0,none⟩)),(8,.int .i64 (i:Nat))]) (fun i=>pt b7 (.cells (cq (dg (im seed key i))).toArray 295 (0,0))::pt b6 (.cells #[.int .i64 18167,.int .i64 28840,.int .i64 23777,.int .i64 40251] 295 (0,0))::pt b5 (.cells #[.int .i64 10435,.int .i64 53583,.int .i64 28213,.int .i64 47017] 295 (0,0))::Fr) (fun i=>key.size-i) 0 (Nat.zero_le _) ⟨rfl,rfl,rfl,rfl,rfl,trivial⟩ (by(exact en)) ?_
 intro i hi
 have hm:=zI seed key i
 refine ah<|sr<|mv rfl rfl<|mv rfl rfl<|l_q rfl (qls rfl yU9)<|l_q rfl (qi rfl rfl (aU ·))<|lc<|aA rfl (fun h1=>?_) fun h1=>?_
 ·skip
  have hik:i < key.size:=by omega
  obtain⟨y,hy⟩:∃ y,y=IntKind.i64.wrap ((key[i]'hik).toNat:Int):=⟨_,rfl⟩
  have hyb:y=((key[i]'hik).toNat:Int):=by rw[hy];exact wrap_i64 (by have:=(key[i]'hik).toNat_lt;omega)
  have hb8:0≤y∧y < 256:=by have:=(key[i]'hik).toNat_lt;omega
  have hx1:=jx (im seed key i) y hm (by omega)
  rw[Ay _ hb8] at hx1
  have ht1:=mY (bits .xor .u64 (im seed key i) y) 11329751410908088055 (nU _ _) (by decide)
  rw[DY] at ht1
  have hd1:=xV _ (eF (bits .xor .u64 (im seed key i) y*11329751410908088055))
  have hx2:=jx _ _ (eF (bits .xor .u64 (im seed key i) y*11329751410908088055)) (oY (eF (bits .xor .u64 (im seed key i) y*11329751410908088055)) (min (Int.toNat 31) IntKind.u64.bits))
  have hst:bits .xor .u64 (IntKind.u64.wrap (bits .xor .u64 (im seed key i) y*11329751410908088055)) ((IntKind.u64.wrap (bits .xor .u64 (im seed key i) y*11329751410908088055)).fdiv (2 ^ min (Int.toNat 31) IntKind.u64.bits))=im seed key (i+1):=by
   simp only[im]
   rw[dif_pos hik,show IntKind.u64.wrap ((key[i]'hik).toNat:Int)=y by rw[hyb,IntKind.wrap_u64];omega]
   rfl
  refine al<|ak<|ah<|ax<|ah<|aS mixed ?_
  apply dq 0 rfl
  ·exact yq (aK rfl dy cB)
  apply dq 1 rfl
  ·exact yq (ai rfl)
  apply dq 2 rfl
  ·exact yq (ai rfl)
  apply dq 3 rfl
  ·exact yq (tg rfl rfl yU9 (by omega))
  apply dq 4 rfl
  ·exact yq (qcv rfl yU5 yU3)
  apply dq 5 rfl
  ·exact yq (oD rfl Tryz.underlying295 yS3 fQ (DS _))
  apply dq 7 rfl
  ·exact yq (aK rfl dy cB)
  refine an [0,5,4,3,1,2] [7] 6 [(27,_),(32,_)] gO ⟨rfl,rfl,trivial⟩ (by kernel_rfl) (by kernel_rfl) fun Ex=>?_
  simp only[Int.toNat_natCast]
  rw[← hy]
  refine lc1 rfl rfl rfl (hx1) ?_
  refine aj ?_
  apply n_d
  ·refine⟨?_,trivial⟩
   apply ya rfl rfl;exact yq (aK rfl dy cB)
  refine an [7] [] 8 [(33,_),(34,_)] gO ⟨rfl,rfl,trivial⟩ (by kernel_rfl) (by kernel_rfl) fun Ex=>?_
  refine lc1 rfl rfl rfl (ht1) ?_
  refine aj ?_
  apply n_d
  ·exact trivial
  refine an [] [] 9 [(7,_),(35,_)] gO ⟨rfl,rfl,trivial⟩ (by kernel_rfl) (by kernel_rfl) fun Ex=>?_
  refine sta rfl rfl rfl cB rfl rfl ?_
  refine aj ?_
  apply n_d
  ·exact trivial
  refine bd (by kernel_rfl) ?_
  refine ak<|aS mixed ?_
  apply dq 0 rfl
  ·exact yq (aK rfl dy cB)
  apply dq 1 rfl
  ·exact yq (aK rfl dy cB)
  refine an [1] [0] 2 [(37,_)] gO ⟨rfl,trivial⟩ (by kernel_rfl) (by kernel_rfl) fun Ex=>?_
  refine lc1 rfl rfl rfl (hd1) ?_
  refine aj ?_
  apply n_d
  ·refine⟨?_,trivial⟩
   apply ya rfl rfl;exact yq (aK rfl dy cB)
  refine an [0] [] 3 [(36,_),(38,_)] gO ⟨rfl,rfl,trivial⟩ (by kernel_rfl) (by kernel_rfl) fun Ex=>?_
  refine lc1 rfl rfl rfl (hx2) ?_
  refine aj ?_
  apply n_d
  ·exact trivial
  refine an [] [] 4 [(7,_),(39,_)] gO ⟨rfl,rfl,trivial⟩ (by kernel_rfl) (by kernel_rfl) fun Ex=>?_
  refine sta rfl rfl rfl cB rfl rfl ?_
  refine aj ?_
  apply n_d
  ·exact trivial
  refine bd (by kernel_rfl) ?_
  refine aV<|ak<|aB<|mv rfl rfl<|l_q rfl (ba rfl rfl) ?_
  refine asg rfl rfl<|aj ?_
  rw[hst]
  apply aO ((i+1))
  ·exact(show i+1≤key.size by omega)
  ·omega
  ·exact⟨rfl,rfl,rfl,rfl,rfl,trivial⟩
  exact en
 obtain rfl:i=key.size:=by omega
 have hd2:=xW _ hm
 have hx3:=jx _ _ hm (oY hm (min (Int.toNat 29) IntKind.u64.bits))
 have ht2:=mY (xw (im seed key key.size)) 13234230157428861123 (nU _ _) (by decide)
 rw[Ax] at ht2
 have hd3:=xU _ (eF (xw (im seed key key.size)*13234230157428861123))
 have hx4:=jx _ _ (eF (xw (im seed key key.size)*13234230157428861123)) (oY (eF (xw (im seed key key.size)*13234230157428861123)) (min (Int.toNat 32) IntKind.u64.bits))
 have hw:=yM (xv seed key) (tB seed key)
 refine xt rfl<|ak<|ah<|aS mixed ?_
 apply dq 0 rfl
 ·exact yq (aK rfl dy cB)
 apply dq 1 rfl
 ·exact yq (aK rfl dy cB)
 refine an [1] [0] 2 [(41,_)] gO ⟨rfl,trivial⟩ (by kernel_rfl) (by kernel_rfl) fun Ex=>?_
 refine lc1 rfl rfl rfl (hd2) ?_
 refine aj ?_
 apply n_d
 ·refine⟨?_,trivial⟩
  apply ya rfl rfl;exact yq (aK rfl dy cB)
 refine an [0] [] 3 [(40,_),(42,_)] gO ⟨rfl,rfl,trivial⟩ (by kernel_rfl) (by kernel_rfl) fun Ex=>?_
 refine lc1 rfl rfl rfl (hx3) ?_
 refine aj ?_
 apply n_d
 ·exact trivial
 refine an [] [] 4 [(7,_),(43,_)] gO ⟨rfl,rfl,trivial⟩ (by kernel_rfl) (by kernel_rfl) fun Ex=>?_
 refine sta rfl rfl rfl cB rfl rfl ?_
 refine aj ?_
 apply n_d
 ·exact trivial
 refine bd (by kernel_rfl) ?_
 refine nz<|l_q rfl (aK rfl dy cB) ?_
 refine l_q rfl (aK rfl dy cB) ?_
 refine lc1 rfl rfl rfl (ht2) ?_
 refine sta rfl rfl rfl cB rfl rfl ?_
 refine lc<|ah<|aS mixed ?_
 apply dq 0 rfl
 ·exact yq (aK rfl dy cB)
 apply dq 1 rfl
 ·exact yq (aK rfl dy cB)
 refine an [1] [0] 2 [(48,_)] gO ⟨rfl,trivial⟩ (by kernel_rfl) (by kernel_rfl) fun Ex=>?_
 refine lc1 rfl rfl rfl (hd3) ?_
 refine aj ?_
 apply n_d
 ·refine⟨?_,trivial⟩
  apply ya rfl rfl;exact yq (aK rfl dy cB)
 refine an [0] [] 3 [(47,_),(49,_)] gO ⟨rfl,rfl,trivial⟩ (by kernel_rfl) (by kernel_rfl) fun Ex=>?_
 refine lc1 rfl rfl rfl (hx4) ?_
 refine aj ?_
 apply n_d
 ·exact trivial
 refine an [] [] 4 [(7,_),(50,_)] gO ⟨rfl,rfl,trivial⟩ (by kernel_rfl) (by kernel_rfl) fun Ex=>?_
 refine sta rfl rfl rfl cB rfl rfl ?_
 refine aj ?_
 apply n_d
 ·exact trivial
 refine bd (by kernel_rfl) ?_
 refine nz<|l_q rfl (aK rfl dy cB) ?_
 refine lc1 rfl rfl rfl (hw) ?_
 exact asg rfl rfl<|lc<|rt<|fr1 rfl ([]) (.tmp rfl) ⟨rfl,rfl⟩
end Ref04
end Go.Proofs.YthkajgkagnenbaaGreatDoor
