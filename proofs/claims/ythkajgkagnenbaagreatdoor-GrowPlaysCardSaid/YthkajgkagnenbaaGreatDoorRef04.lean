import Derived.Test.YthkajgkagnenbaaGreatDoorRef04B
set_option linter.unusedVariables false
set_option linter.unusedSimpArgs false
set_option linter.unusedSectionVars false
set_option maxRecDepth 100000
namespace Go.Proofs.YthkajgkagnenbaaGreatDoor
namespace Ref04
open Go.RowKit Go.Proofs Eng Ty Oracle
theorem kz (v:Int) (hv:0<=v/\v < 18446744073709551616):aK Tryz.prog 232 #[.int .u64 v] [] (fun r L=>r=.agg (cO (dg v)).toArray/\L= []):=by
 have hv0:v=v / 65536 ^ 0:=by simp
 have hz:cO (fun j=>if j < 0 then dg v j else 0)= [.int .i64 0,.int .i64 0,.int .i64 0,.int .i64 0]:=rfl
 refine au HC Tryz.func232 rfl rfl rfl fun Fr w0=>aZ ?_
 refine sr<|ay O gU fun b2=>lz<|ay O gU fun b3=>lc<|al<|sr<|ar O O<|lc<|aB ?_
 refine bK (fun i:Nat=>i<=4) (fun i=>[(0,.int .u64 (v / 65536 ^ i)),(2,.pointer (some ⟨b2,0,none⟩)),(3,.pointer (some ⟨b3,0,none⟩)),(4,.int .i64 (i:Nat))]) (fun i=>pt b3 (.cells (cO (fun j=>if j < i then dg v j else 0)).toArray 295 (0,0))::pt b2 (.cells #[.int .i64 0,.int .i64 0,.int .i64 0,.int .i64 0] 295 (0,0))::Fr) (fun i=>4-i) 0 (Nat.zero_le _) ⟨congrArg (fun z=>some (Value.int .u64 z)) hv0,rfl,rfl,rfl,trivial⟩ (by rw[hz];(exact en)) ?_
 intro i hi
 have hd0:0<=v / 65536 ^ i:=Int.ediv_nonneg hv.1 (Int.le_of_lt (Int.pow_pos (by decide)))
 have hd1:v / 65536 ^ i < 18446744073709551616:=Int.lt_of_le_of_lt (Int.ediv_le_self _ hv.1) hv.2
 obtain⟨D,hD⟩:∃ D,D=v / 65536 ^ i:=⟨_,rfl⟩
 rw[<- hD] at hd0 hd1 ⊢
 refine al<|sr<|mv O O<|ad O (qi O O (bj ·))<|lc<|aG O (fun h1=>?_) fun h1=>?_
 ·skip
  have hi4:i < 4:=by omega
  have hset:(cO fun j=>if j < i then dg v j else 0).set i (.int .i64 (D % 65536))=cO fun j=>if j < i+1 then dg v j else 0:=by
   rw[lC _ hi4]
   refine ed fun j hj=>?_
   by_cases q:j=i
   ·subst q;rw[if_pos rfl,if_pos (by omega),hD];rfl
   rw[if_neg q]
   by_cases q2:j < i
   ·rw[if_pos q2,if_pos (by omega)]
   rw[if_neg q2,if_neg (by omega)]
  have hnx:IntKind.u64.wrap (D.tdiv 65536)=v / 65536 ^ (i+1):=by
   rw[yc,<- hD,Int.tdiv_eq_ediv_of_nonneg hd0,IntKind.wrap_u64];omega
  refine aq<|an<|al<|aB<|sr<|mv O O<|mv O O<|ad O (iQ O O) ?_
  refine ad O (km O fv j5) ?_
  refine ad O (bM O O jH aN (by omega)) ?_
  apply kU O O O aN O
  ·exact tk
  ·rw[Nat.zero_add,Int.toNat_natCast,Nat.mul_one];exact Nat.ble_eq_true_of_le (by simp;omega)
  ·rw[Nat.zero_add,Int.toNat_natCast,Nat.mul_one,List.setIfInBounds_toArray,hset]
  refine lr<|mv O O<|ad O (eT O O) ?_
  refine ar O O<|ai<|bz<|an<|aD<|mv O O<|ad O (bn O O) ?_
  refine ar O O<|ai ?_
  apply aU ((i+1))
  ·exact(show i+1<=4 by omega)
  ·omega
  ·exact⟨congrArg (fun z=>some (Value.int .u64 z)) hnx,rfl,rfl,rfl,trivial⟩
  exact en
 obtain rfl:i=4:=by omega
 rw[show(cO fun j=>if j < 4 then dg v j else 0)=cO (dg v) from ed fun j hj=>if_pos hj]
 refine xt O<|nz<|ad O (aO O dY cU) ?_
 refine bZ O O O cU O O ?_
 refine lc<|rt ?_
 apply aR (.inl rfl) ([])
 ·apply cP O
  apply Rv.agg rfl
  ·exact tk
  exact aJ dY cU O
 ·exact⟨rfl,rfl⟩
 exact en
theorem At (v:Int) (hv:0<=v/\v < 18446744073709551616):aK Tryz.prog 235 #[.agg (cO (dg v)).toArray] [] (fun r L=>r=.int .u64 v/\L= []):=by
 have hv4:(0:Int)=v / 65536 ^ 4:=by rw[show(65536:Int) ^ 4=18446744073709551616 from rfl];omega
 refine au Hz Tryz.func235 rfl rfl rfl fun Fr w0=>aZ ?_
 refine sr<|bw O O fun b1=>ar O O<|lz<|ar O O<|lc<|al<|sr<|ar O O<|lc<|aB ?_
 refine bK (fun m:Nat=>m<=4) (fun m=>[(1,.pointer (some ⟨b1,0,none⟩)),(3,.int .u64 (v / 65536 ^ m)),(4,.int .i64 (((m:Nat):Int)-1))]) (fun m=>pt b1 (.cells (cO (dg v)).toArray 295 (0,0))::Fr) (fun m=>m) 4 (Nat.le_refl _) ⟨rfl,congrArg (fun z=>some (Value.int .u64 z)) hv4,rfl,trivial⟩ (by(exact en)) ?_
 intro m hm
 refine al<|sr<|mv O O<|ad O (qi O O (iC ·))<|lc<|aG O (fun h1=>?_) fun h1=>?_
 ·skip
  have hm4:m-1 < 4:=by omega
  have hE0:0<=v / 65536 ^ (m-1):=Int.ediv_nonneg hv.1 (Int.le_of_lt (Int.pow_pos (by decide)))
  have hE1:v / 65536 ^ (m-1) < 18446744073709551616:=Int.lt_of_le_of_lt (Int.ediv_le_self _ hv.1) hv.2
  have hDE:v / 65536 ^ m=v / 65536 ^ (m-1) / 65536:=by rw[<- yc];congr 2;omega
  have hdg:dg v (m-1)=v / 65536 ^ (m-1) % 65536:=rfl
  have hnx:v / 65536 ^ m*65536+dg v (m-1)=v / 65536 ^ (m-1):=by rw[hDE,hdg];omega
  refine aq<|an<|al<|aB<|aD<|mv O O<|ad O (dA O O) ?_
  refine mv O O<|ad O (bM O O jH aN (by omega)) ?_
  apply ad O
  ·apply cf (A:=pt b1 (.cells (cO (dg v)).toArray 295 (0,0))) rfl aX
   ·exact tk
   exact fB (i:=m-1) hm4 (by omega)
  refine ad O (km O j5 fv) ?_
  refine ad O (bn O O) ?_
  refine ar O O<|ai<|bz<|an<|aD<|mv O O<|ad O (eJ O O) ?_
  refine ar O O<|ai ?_
  apply aU ((m-1))
  ·exact(show m-1<=4 by omega)
  ·omega
  ·exact⟨rfl,congrArg (fun z=>some (Value.int .u64 z)) hnx,congrArg (fun z=>some (Value.int .i64 z)) (show((m:Nat):Int)-1-1=((m-1:Nat):Int)-1 by omega),trivial⟩
  exact en
 obtain rfl:m=0:=by omega
 have hv0:v / 65536 ^ 0=v:=by simp
 refine xt O<|nz<|mv O O<|ar O O<|lc<|rt<|cN O ([]) (.tmp rfl) ?_
 exact⟨by rw[hv0],rfl⟩
theorem kJ (a b:Int) (ha:0<=a/\a < 18446744073709551616) (hb:0<=b/\b < 18446744073709551616):aK Tryz.prog 231 #[.agg (cO (dg a)).toArray,.agg (cO (dg b)).toArray] [] (fun r L=>r=.agg (cO (dg (bits .xor .u64 a b))).toArray/\L= []):=by
 have hz:cO (fun j=>if j < 0 then dg (bits .xor .u64 a b) j else 0)= [.int .i64 0,.int .i64 0,.int .i64 0,.int .i64 0]:=rfl
 refine au HD Tryz.func231 rfl rfl rfl fun Fr w0=>aZ ?_
 refine sr<|bw O O fun b2=>bw O O fun b3=>ay O gU fun b4=>lz<|ay O gU fun b5=>lc<|al<|sr<|ar O O<|lc<|aB ?_
 refine bK (fun i:Nat=>i<=4) (fun i=>[(2,.pointer (some ⟨b2,0,none⟩)),(3,.pointer (some ⟨b3,0,none⟩)),(4,.pointer (some ⟨b4,0,none⟩)),(5,.pointer (some ⟨b5,0,none⟩)),(6,.int .i64 (i:Nat))]) (fun i=>pt b5 (.cells (cO (fun j=>if j < i then dg (bits .xor .u64 a b) j else 0)).toArray 295 (0,0))::pt b2 (.cells (cO (dg a)).toArray 295 (0,0))::pt b3 (.cells (cO (dg b)).toArray 295 (0,0))::pt b4 (.cells #[.int .i64 0,.int .i64 0,.int .i64 0,.int .i64 0] 295 (0,0))::Fr) (fun i=>4-i) 0 (Nat.zero_le _) ⟨rfl,rfl,rfl,rfl,rfl,trivial⟩ (by rw[hz];(exact en)) ?_
 intro i hi
 refine al<|sr<|mv O O<|ad O (qi O O (bj ·))<|lc<|aG O (fun h1=>?_) fun h1=>?_
 ·skip
  have hi4:i < 4:=by omega
  have hset:(cO fun j=>if j < i then dg (bits .xor .u64 a b) j else 0).set i (.int .i64 (bits .xor .i64 (dg a i) (dg b i)))=cO fun j=>if j < i+1 then dg (bits .xor .u64 a b) j else 0:=by
   rw[lC _ hi4]
   refine ed fun j hj=>?_
   by_cases q:j=i
   ·subst q;rw[if_pos rfl,if_pos (by omega),FY ha hb]
   rw[if_neg q]
   by_cases q2:j < i
   ·rw[if_pos q2,if_pos (by omega)]
   rw[if_neg q2,if_neg (by omega)]
  refine aq<|an<|al<|aB<|aY mixed ?_
  apply dq 0 O (yq (ah O))
  apply dq 1 O (yq (ah O))
  apply dq 2 O (yq (bM O O jH aN (by omega)))
  apply dq 3 O
  ·apply yq
   apply cf (A:=pt b2 (.cells (cO (dg a)).toArray 295 (0,0))) rfl aX
   ·exact tk
   exact fB (i:=i) hi4 (by omega)
  apply dq 4 O (yq (ah O))
  apply dq 5 O (yq (bM O O jH aN (by omega)))
  apply dq 6 O
  ·apply yq
   apply cf (A:=pt b3 (.cells (cO (dg b)).toArray 295 (0,0))) rfl aX
   ·exact tk
   exact fB (i:=i) hi4 (by omega)
  apply dq 7 O (yq (fh O O O))
  apply dq 8 O (yq (bM O O jH aN (by omega)))
  refine ak [8,7,0,1,2,3,4,5,6] [] 9 [(19,_),(18,_)] gO ⟨rfl,rfl,trivial⟩ (by kernel_rfl) (by kernel_rfl) fun Ex=>?_
  apply kU O O O aN O
  ·exact tk
  ·rw[Nat.zero_add,Int.toNat_natCast,Nat.mul_one];exact Nat.ble_eq_true_of_le (by simp;omega)
  ·rw[Nat.zero_add,Int.toNat_natCast,Nat.mul_one,List.setIfInBounds_toArray,hset]
  refine ai ?_
  refine aQ trivial ?_
  refine aV (by kernel_rfl) ?_
  refine bz<|an<|aD<|mv O O<|ad O (bn O O) ?_
  refine ar O O<|ai ?_
  apply aU ((i+1))
  ·exact(show i+1<=4 by omega)
  ·omega
  ·exact⟨O,O,O,O,O,trivial⟩
  exact en
 obtain rfl:i=4:=by omega
 rw[show(cO fun j=>if j < 4 then dg (bits .xor .u64 a b) j else 0)=cO (dg (bits .xor .u64 a b)) from ed fun j hj=>if_pos hj]
 refine xt O<|nz<|ad O (aO O dY cU) ?_
 refine bZ O O O cU O O ?_
 refine lc<|rt ?_
 apply aR (.inl rfl) ([])
 ·apply cP O
  apply Rv.agg rfl
  ·exact tk
  exact aJ dY cU O
 ·exact⟨rfl,rfl⟩
 exact en
theorem AF (a b:Int):aK Tryz.prog 233 #[.agg (cO (dg a)).toArray,.agg (cO (dg b)).toArray] [] (fun r L=>r=.agg (cO (dg (IntKind.u64.wrap (val (dg a)*val (dg b))))).toArray/\L= []):=by
 refine au HB Tryz.func233 rfl rfl rfl fun Fr w0=>aZ ?_
 refine sr<|bw O O fun b2=>bw O O fun b3=>ay O gU fun b4=>lz<|ay O gU fun b5=>lc<|al<|sr<|ar O O<|lc<|aB ?_
 refine bK (fun x:Nat×(Nat->Int)=>x.1<=4/\Mul (dg a) (dg b) x.2 0 x.1 0) (fun x=>[(2,.pointer (some ⟨b2,0,none⟩)),(3,.pointer (some ⟨b3,0,none⟩)),(4,.pointer (some ⟨b4,0,none⟩)),(5,.pointer (some ⟨b5,0,none⟩)),(6,.int .i64 (x.1:Nat))]) (fun x=>pt b5 (.cells (cO (x.2)).toArray 295 (0,0))::pt b2 (.cells (cO (dg a)).toArray 295 (0,0))::pt b3 (.cells (cO (dg b)).toArray 295 (0,0))::pt b4 (.cells #[.int .i64 0,.int .i64 0,.int .i64 0,.int .i64 0] 295 (0,0))::Fr) (fun x=>4-x.1) (0,fun _=>0) ⟨Nat.zero_le _,Mul.start _ _⟩ ⟨rfl,rfl,rfl,rfl,rfl,trivial⟩ (by(exact en)) ?_
 rintro⟨i,c0⟩ ⟨hi,hM0⟩
 dsimp only at hi hM0 ⊢
 refine al<|sr<|mv O O<|ad O (qi O O (bj ·))<|lc<|aG O (fun h1=>?_) fun h1=>?_
 ·skip
  have hi4:i < 4:=by omega
  refine aq<|an<|al<|aB<|sr<|ar O O<|lz<|ar O O<|lc<|aB ?_
  refine bK (fun y:(Nat->Int)×Int×Nat=>i+y.2.2<=4/\Mul (dg a) (dg b) y.1 y.2.1 i y.2.2) (fun y=>[(2,.pointer (some ⟨b2,0,none⟩)),(3,.pointer (some ⟨b3,0,none⟩)),(4,.pointer (some ⟨b4,0,none⟩)),(5,.pointer (some ⟨b5,0,none⟩)),(6,.int .i64 (i:Nat)),(7,.int .i64 y.2.1),(8,.int .i64 (y.2.2:Nat))]) (fun y=>pt b5 (.cells (cO (y.1)).toArray 295 (0,0))::pt b2 (.cells (cO (dg a)).toArray 295 (0,0))::pt b3 (.cells (cO (dg b)).toArray 295 (0,0))::pt b4 (.cells #[.int .i64 0,.int .i64 0,.int .i64 0,.int .i64 0] 295 (0,0))::Fr) (fun y=>4-y.2.2) (c0,0,0) ⟨by dsimp only;omega,hM0⟩ ⟨rfl,rfl,rfl,rfl,rfl,rfl,rfl,trivial⟩ (by(exact en)) ?_
  rintro⟨c,carry,j⟩ ⟨hij0,hM⟩
  dsimp only at hij0 hM ⊢
  refine al<|sr<|mv O O<|mv O O<|ad O (bn O O) ?_
  refine ad O (qi O O (bj ·))<|lc<|aG O (fun h2=>?_) fun h2=>?_
  ·skip
   have hij:i+j < 4:=by omega
   have hj4:j < 4:=by omega
   have hoff:0+(((i:Nat):Int)+((j:Nat):Int)).toNat*1=i+j:=by omega
   have hca:=hM.car
   have hci:=hM.dig (i+j) hij
   have hai:=td a i
   have hbj:=td b j
   obtain⟨ht0,ht1,hM2⟩:=hM.step hai hbj hij rfl
   have hpp:0<=dg a i*dg b j:=Int.mul_nonneg hai.1 hbj.1
   refine aq<|an<|al<|aB<|al<|aY mixed ?_
   apply dq 0 O (yq (ah O))
   apply dq 1 O (yq (ah O))
   apply dq 2 O (yq (bn O O))
   apply dq 3 O (yq (bM O O jH aN (by omega)))
   apply dq 4 O
   ·apply yq
    apply cf (A:=pt b5 (.cells (cO (c)).toArray 295 (0,0))) rfl aX
    ·exact tk
    exact fB (i:=i+j) hij (by omega)
   apply dq 5 O (yq (ah O))
   apply dq 6 O (yq (bM O O jH aN (by omega)))
   apply dq 7 O
   ·apply yq
    apply cf (A:=pt b2 (.cells (cO (dg a)).toArray 295 (0,0))) rfl aX
    ·exact tk
    exact fB (i:=i) hi4 (by omega)
   apply dq 8 O (yq (ah O))
   apply dq 9 O (yq (bM O O jH aN (by omega)))
   apply dq 10 O
   ·apply yq
    apply cf (A:=pt b3 (.cells (cO (dg b)).toArray 295 (0,0))) rfl aX
    ·exact tk
    exact fB (i:=j) hj4 (by omega)
   apply dq 11 O (yq (dA O O))
   apply dq 12 O (yq (bn O O))
   apply dq 13 O (yq (ah O))
   apply dq 14 O (yq (bn O O))
   refine ak [14,0,1,2,3,4,5,6,7,8,9,10,11,12,13] [] 15 [(34,_)] gO ⟨rfl,trivial⟩ (by kernel_rfl) (by kernel_rfl) fun Ex=>?_
   refine ar O O<|ai ?_
   refine aQ trivial ?_
   refine aV (by kernel_rfl) ?_
   refine nz<|mv O O<|mv O O<|ad O (bn O O) ?_
   refine mv O O<|ad O (iQ O O) ?_
   refine ad O (bM O O jH aN (by omega)) ?_
   apply kU O O O aN O
   ·exact tk
   ·rw[hoff];exact Nat.ble_eq_true_of_le (by simp;omega)
   ·rw[hoff,List.setIfInBounds_toArray,lC _ hij]
   refine lr<|mv O O<|ad O (eT O O) ?_
   refine ar O O<|ai<|bz<|an<|aD<|mv O O<|ad O (bn O O) ?_
   refine ar O O<|ai ?_
   apply aU (((fun m=>if m=i+j then(c (i+j)+dg a i*dg b j+carry) % 65536 else c m),(c (i+j)+dg a i*dg b j+carry) / 65536,j+1))
   ·exact⟨by dsimp only;omega,hM2⟩
   ·dsimp only;omega
   ·exact⟨O,O,O,O,O,O,O,trivial⟩
   exact en
  have hij4:i+j=4:=by omega
  have hM3:=hM.row hij4
  refine xt O<|bz<|an<|aD<|mv O O<|ad O (bn O O) ?_
  refine ar O O<|ai ?_
  apply aU ((i+1,c))
  ·exact⟨by dsimp only;omega,hM3⟩
  ·dsimp only;omega
  ·exact⟨O,O,O,O,O,trivial⟩
  exact en
 obtain rfl:i=4:=by omega
 rw[ed fun j hj=>hM0.done hj]
 refine xt O<|nz<|ad O (aO O dY cU) ?_
 refine bZ O O O cU O O ?_
 refine lc<|rt ?_
 apply aR (.inl rfl) ([])
 ·apply cP O
  apply Rv.agg rfl
  ·exact tk
  exact aJ dY cU O
 ·exact⟨rfl,rfl⟩
 exact en
theorem tc (v:Int) (k q r:Nat) (hk:k=16*q+r) (hr:r < 16) (hq:q < 4):aK Tryz.prog 234 #[.agg (cO (dg v)).toArray,.int .i64 (k:Nat)] [] (fun w L=>w=.agg (cO (fc (dg v) q (2 ^ r))).toArray/\L= []):=by
 have hkr:((k:Nat):Int) % 16=((r:Nat):Int):=by omega
 have hkq:((k:Nat):Int) / 16=((q:Nat):Int):=by omega
 have hpb:2 ^ r<=32768:=(Nat.pow_le_pow_right (by decide) (by omega):2 ^ r<=2 ^ 15)
 have hp0:0 < 2 ^ r:=Nat.two_pow_pos r
 refine au HA Tryz.func234 rfl rfl rfl fun Fr w0=>aZ ?_
 refine sr<|bw O O fun b2=>ay O gU fun b4=>lz<|ay O gU fun b5=>lz<|ar O O<|lc<|al<|sr<|ar O O<|lc<|aB ?_
 refine bK (fun i:Nat=>i<=r) (fun i=>[(1,.int .i64 (k:Nat)),(2,.pointer (some ⟨b2,0,none⟩)),(4,.pointer (some ⟨b4,0,none⟩)),(5,.pointer (some ⟨b5,0,none⟩)),(6,.int .i64 ((2 ^ i:Nat):Int)),(7,.int .i64 (i:Nat))]) (fun i=>pt b5 (.cells #[.int .i64 0,.int .i64 0,.int .i64 0,.int .i64 0] 295 (0,0))::pt b2 (.cells (cO (dg v)).toArray 295 (0,0))::pt b4 (.cells #[.int .i64 0,.int .i64 0,.int .i64 0,.int .i64 0] 295 (0,0))::Fr) (fun i=>r-i) 0 (Nat.zero_le _) ⟨rfl,rfl,rfl,rfl,rfl,rfl,trivial⟩ (by(exact en)) ?_
 intro i hi
 have hpi:2 ^ i<=2 ^ r:=Nat.pow_le_pow_right (by decide) hi
 obtain⟨p,hp⟩:∃ p,p=2 ^ i:=⟨_,rfl⟩
 rw[<- hp] at hpi ⊢
 refine al<|sr<|mv O O<|mv O O<|ad O (iQ O O) ?_
 refine ad O (qi O O (bj ·))<|lc<|aG O (fun h1=>?_) fun h1=>?_
 ·skip
  have hnx:((p:Nat):Int)*2=((2 ^ (i+1):Nat):Int):=by rw[Nat.pow_succ,<- hp];push_cast;rfl
  have hpb2:p<=32768:=Nat.le_trans hpi hpb
  refine aq<|an<|al<|aB<|aD<|mv O O<|ad O (dA O O) ?_
  refine ar O O<|ai<|bz<|an<|aD<|mv O O<|ad O (bn O O) ?_
  refine ar O O<|ai ?_
  apply aU ((i+1))
  ·exact(show i+1<=r by omega)
  ·omega
  ·exact⟨rfl,rfl,rfl,rfl,congrArg (fun z=>some (Value.int .i64 z)) hnx,rfl,trivial⟩
  exact en
 obtain rfl:i=r:=by omega
 rw[<- hp] at hpb hp0 ⊢
 have hz:cO (fun j=>if j < 0 then fc (dg v) q p j else 0)= [.int .i64 0,.int .i64 0,.int .i64 0,.int .i64 0]:=rfl
 refine xt O<|an<|al<|sr<|ar O O<|lc<|aB ?_
 refine bK (fun i:Nat=>i+q<=4) (fun i=>[(1,.int .i64 (k:Nat)),(2,.pointer (some ⟨b2,0,none⟩)),(4,.pointer (some ⟨b4,0,none⟩)),(5,.pointer (some ⟨b5,0,none⟩)),(6,.int .i64 (p:Nat)),(8,.int .i64 (i:Nat))]) (fun i=>pt b5 (.cells (cO (fun j=>if j < i then fc (dg v) q p j else 0)).toArray 295 (0,0))::pt b2 (.cells (cO (dg v)).toArray 295 (0,0))::pt b4 (.cells #[.int .i64 0,.int .i64 0,.int .i64 0,.int .i64 0] 295 (0,0))::Fr) (fun i=>4-i) 0 (by omega) ⟨rfl,rfl,rfl,rfl,rfl,rfl,trivial⟩ (by rw[hz];(exact en)) ?_
 intro i hiq0
 refine al<|sr<|mv O O<|mv O O<|ad O (eT O O) ?_
 refine ad O (bn O O) ?_
 refine ad O (qi O O (bj ·))<|lc<|aG O (fun h2=>?_) fun h2=>?_
 ·skip
  have hi4:i < 4:=by omega
  have hiq:i+q < 4:=by omega
  have hd1:=td v (i+q)
  have hd2:=td v (i+q+1)
  have hq1:0<=dg v (i+q) / ((p:Nat):Int)/\dg v (i+q) / ((p:Nat):Int) < 65536:=⟨Int.ediv_nonneg hd1.1 (by omega),Int.lt_of_le_of_lt (Int.ediv_le_self _ hd1.1) hd1.2⟩
  have hrow:∀ x:Int,fc (dg v) q p i=x->(cO fun j=>if j=i then x else if j < i then fc (dg v) q p j else 0)=cO fun j=>if j < i+1 then fc (dg v) q p j else 0:=fun x hx=>ed fun j hj=>by
   by_cases q1:j=i
   ·subst q1;rw[if_pos rfl,if_pos (by omega),hx]
   rw[if_neg q1]
   by_cases q2:j < i
   ·rw[if_pos q2,if_pos (by omega)]
   rw[if_neg q2,if_neg (by omega)]
  refine aq<|an<|al<|aB<|sr<|mv O O<|mv O O<|mv O O<|ad O (eT O O) ?_
  refine ad O (bn O O) ?_
  refine ad O (bM O O jH aN (by omega)) ?_
  apply ad O
  ·apply cf (A:=pt b2 (.cells (cO (dg v)).toArray 295 (0,0))) rfl aX
   ·exact tk
   exact fB (i:=i+q) hiq (by omega)
  refine mv O O<|ad O (eT O O) ?_
  refine ad O (bM O O jH aN (by omega)) ?_
  apply kU O O O aN O
  ·exact tk
  ·rw[Nat.zero_add,Int.toNat_natCast,Nat.mul_one];exact Nat.ble_eq_true_of_le (by simp;omega)
  ·rw[Nat.zero_add,Int.toNat_natCast,Nat.mul_one,List.setIfInBounds_toArray,lC _ hi4]
  refine lz<|mv O O<|mv O O<|ad O (eT O O) ?_
  refine ad O (bn O O) ?_
  refine ad O (bn O O) ?_
  refine ad O (qi O O (bj ·))<|lc<|aG O (fun h3=>?_) fun h3=>?_
  ·skip
   have hiq2:i+q+1 < 4:=by omega
   have hm1:0<=dg v (i+q+1) % ((p:Nat):Int)/\dg v (i+q+1) % ((p:Nat):Int) < (p:Nat):=⟨Int.emod_nonneg _ (by omega),Int.emod_lt_of_pos _ (by omega)⟩
   have hm2:0<=65536 / ((p:Nat):Int)/\65536 / ((p:Nat):Int)<=65536:=⟨Int.ediv_nonneg (by decide) (by omega),Int.ediv_le_self _ (by decide)⟩
   have hpr:0<=dg v (i+q+1) % ((p:Nat):Int)*(65536 / ((p:Nat):Int))/\dg v (i+q+1) % ((p:Nat):Int)*(65536 / ((p:Nat):Int))<=32768*65536:=⟨Int.mul_nonneg hm1.1 hm2.1,Int.mul_le_mul (by omega) hm2.2 hm2.1 (by decide)⟩
   have h43:dt (pt b5 (.cells (cO (fun j=>if j=i then dg v (i+q) / ((p:Nat):Int) else if j < i then fc (dg v) q p j else 0)).toArray 295 (0,0))) ⟨b5,0+((i:Nat):Int).toNat*1,none⟩ (.int .i64 (dg v (i+q) / ((p:Nat):Int))):=by
    have:=fB (b:=b5) (o:=0+((i:Nat):Int).toNat*1) (i:=i) (f:=fun j=>if j=i then dg v (i+q) / ((p:Nat):Int) else if j < i then fc (dg v) q p j else 0) (t:=295) (fr:=(0,0)) hi4 (by omega)
    simpa only[if_true] using this
   have hset2:∀ y:Int,(cO fun j=>if j=i then dg v (i+q) / ((p:Nat):Int) else if j < i then fc (dg v) q p j else 0).set i (.int .i64 y)=cO fun j=>if j=i then y else if j < i then fc (dg v) q p j else 0:=fun y=>by
    rw[lC _ hi4]
    refine ed fun j _=>?_
    by_cases q1:j=i
    ·rw[if_pos q1,if_pos q1]
    rw[if_neg q1,if_neg q1,if_neg q1]
   refine aY mixed ?_
   apply dq 0 O (yq (ah O))
   apply dq 1 O (yq (ah O))
   apply dq 2 O (yq (bM O O jH aN (by omega)))
   apply dq 3 O
   ·apply yq
    apply cf (A:=pt b5 (.cells (cO (fun j=>if j=i then dg v (i+q) / ((p:Nat):Int) else if j < i then fc (dg v) q p j else 0)).toArray 295 (0,0))) rfl aX
    ·exact tk
    exact h43
   apply dq 4 O (yq (ah O))
   apply dq 5 O (yq (ah O))
   apply dq 6 O (yq (eT O O))
   apply dq 7 O (yq (bn O O))
   apply dq 8 O (yq (bn O O))
   apply dq 9 O (yq (bM O O jH aN (by omega)))
   apply dq 10 O
   ·apply yq
    apply cf (A:=pt b2 (.cells (cO (dg v)).toArray 295 (0,0))) rfl aX
    ·exact tk
    exact fB (i:=i+q+1) hiq2 (by omega)
   apply dq 11 O (yq (ah O))
   apply dq 12 O (yq (iQ O O))
   apply dq 13 O (yq (ah O))
   apply dq 14 O (yq (eT O O))
   apply dq 15 O (yq (dA O O))
   apply dq 16 O (yq (bn O O))
   apply dq 17 O (yq (bM O O jH aN (by omega)))
   refine ak [17,16,0,1,2,3,4,5,6,7,8,9,10,11,12,13,14,15] [] 18 [(57,_),(56,_)] gO ⟨rfl,rfl,trivial⟩ (by kernel_rfl) (by kernel_rfl) fun Ex=>?_
   apply kU O O O aN O
   ·exact tk
   ·rw[Nat.zero_add,Int.toNat_natCast,Nat.mul_one];exact Nat.ble_eq_true_of_le (by simp;omega)
   ·rw[Nat.zero_add,Int.toNat_natCast,Nat.mul_one,List.setIfInBounds_toArray,hset2]
   refine ai ?_
   refine aQ trivial ?_
   refine aV (by kernel_rfl) ?_
   refine bz<|an<|aD<|mv O O<|ad O (bn O O) ?_
   refine ar O O<|ai ?_
   rw[hrow _ (by unfold fc;rw[if_pos hiq,if_pos hiq2])]
   -- again
   apply aU ((i+1))
   ·exact(by omega)
   ·omega
   ·exact⟨O,O,O,O,O,O,trivial⟩
   exact en
  rw[hrow _ (by unfold fc;rw[if_pos hiq,if_neg (by omega),Int.add_zero])]
  refine aq<|bz<|an<|aD<|mv O O<|ad O (bn O O) ?_
  refine ar O O<|ai ?_
  apply aU ((i+1))
  ·exact(by omega)
  ·omega
  ·exact⟨O,O,O,O,O,O,trivial⟩
  exact en
 rw[show(cO fun j=>if j < i then fc (dg v) q p j else 0)=cO (fc (dg v) q p) from ed fun j hj=>by
  by_cases q2:j < i
  ·rw[if_pos q2]
  rw[if_neg q2];unfold fc;rw[if_neg (by omega)]]
 refine xt O<|nz<|ad O (aO O dY cU) ?_
 refine bZ O O O cU O O ?_
 refine lc<|rt ?_
 apply aR (.inl rfl) ([])
 ·apply cP O
  apply Rv.agg rfl
  ·exact tk
  exact aJ dY cU O
 ·exact⟨rfl,rfl⟩
 exact en
theorem nJ (a b:Int) (ha:0<=a/\a < 18446744073709551616) (hb:0<=b/\b < 18446744073709551616):aK Tryz.prog 233 #[.agg (cO (dg a)).toArray,.agg (cO (dg b)).toArray] [] (fun r L=>r=.agg (cO (dg (IntKind.u64.wrap (a*b)))).toArray/\L= []):=by
 have:=AF a b
 rw[Av ha.1 ha.2,Av hb.1 hb.2] at this
 exact this
theorem zu (v:Int) (hv:0<=v/\v < 18446744073709551616):aK Tryz.prog 234 #[.agg (cO (dg v)).toArray,.int .i64 31] [] (fun r L=>r=.agg (cO (dg (v.fdiv (2 ^ min (Int.toNat 31) IntKind.u64.bits)))).toArray/\L= []):=by
 have h:=tc v 31 1 15 rfl (by decide) (by decide)
 rw[ed (f:=fc (dg v) 1 (2 ^ 15)) (g:=dg (v.fdiv (2 ^ min (Int.toNat 31) IntKind.u64.bits))) fun i hi=>(by rw[Int.fdiv_eq_ediv_of_nonneg _ (by decide),show(2:Int) ^ min (Int.toNat 31) IntKind.u64.bits=2147483648 from rfl];exact DU hv.1 hv.2 hi)] at h
 exact h
theorem zv (v:Int) (hv:0<=v/\v < 18446744073709551616):aK Tryz.prog 234 #[.agg (cO (dg v)).toArray,.int .i64 29] [] (fun r L=>r=.agg (cO (dg (v.fdiv (2 ^ min (Int.toNat 29) IntKind.u64.bits)))).toArray/\L= []):=by
 have h:=tc v 29 1 13 rfl (by decide) (by decide)
 rw[ed (f:=fc (dg v) 1 (2 ^ 13)) (g:=dg (v.fdiv (2 ^ min (Int.toNat 29) IntKind.u64.bits))) fun i hi=>(by rw[Int.fdiv_eq_ediv_of_nonneg _ (by decide),show(2:Int) ^ min (Int.toNat 29) IntKind.u64.bits=536870912 from rfl];exact DV hv.1 hv.2 hi)] at h
 exact h
theorem zt (v:Int) (hv:0<=v/\v < 18446744073709551616):aK Tryz.prog 234 #[.agg (cO (dg v)).toArray,.int .i64 32] [] (fun r L=>r=.agg (cO (dg (v.fdiv (2 ^ min (Int.toNat 32) IntKind.u64.bits)))).toArray/\L= []):=by
 have h:=tc v 32 2 0 rfl (by decide) (by decide)
 rw[ed (f:=fc (dg v) 2 (2 ^ 0)) (g:=dg (v.fdiv (2 ^ min (Int.toNat 32) IntKind.u64.bits))) fun i hi=>(by rw[Int.fdiv_eq_ediv_of_nonneg _ (by decide),show(2:Int) ^ min (Int.toNat 32) IntKind.u64.bits=4294967296 from rfl];exact DT hv.1 hv.2 hi)] at h
 exact h
theorem Cb:(cO (dg 13234230157428861123))= [.int .i64 10435,.int .i64 53583,.int .i64 28213,.int .i64 47017]:=by kernel_rfl
theorem F5:(cO (dg 11329751410908088055))= [.int .i64 18167,.int .i64 28840,.int .i64 23777,.int .i64 40251]:=by kernel_rfl
theorem Cc (x:Int) (h:0<=x/\x < 256):cO (dg x)= [.int .i64 x,.int .i64 0,.int .i64 0,.int .i64 0]:=by
 have e0:(65536:Int) ^ 0=1:=rfl
 have e1:(65536:Int) ^ 1=65536:=rfl
 have e2:(65536:Int) ^ 2=4294967296:=rfl
 have e3:(65536:Int) ^ 3=281474976710656:=rfl
 have d0:dg x 0=x:=by unfold dg;rw[e0];omega
 have d1:dg x 1=0:=by unfold dg;rw[e1];omega
 have d2:dg x 2=0:=by unfold dg;rw[e2];omega
 have d3:dg x 3=0:=by unfold dg;rw[e3];omega
 simp only[cO,d0,d1,d2,d3]
theorem Br (seed:Int) (key:ByteArray) (i:Nat):0<=jo seed key i/\jo seed key i < 18446744073709551616:=by
 cases i <;> exact oP _ _
theorem eZ (x:Int):0<=IntKind.u64.wrap x/\IntKind.u64.wrap x < 18446744073709551616:=by rw[IntKind.wrap_u64];omega
theorem qy {v:Int} (hv:0<=v/\v < 18446744073709551616) (k:Nat):0<=v.fdiv (2 ^ k)/\v.fdiv (2 ^ k) < 18446744073709551616:=by
 rw[Int.fdiv_eq_ediv_of_nonneg _ (Int.le_of_lt (Int.pow_pos (by decide)))]
 exact⟨Int.ediv_nonneg hv.1 (Int.le_of_lt (Int.pow_pos (by decide))),Int.lt_of_le_of_lt (Int.ediv_le_self _ hv.1) hv.2⟩
theorem D7 (seed:Int) (hs:0<=seed/\seed < 18446744073709551616) (key:ByteArray) (hk:key.size<=140737488351232):
  aK Tryz.prog 205 #[.int .u64 seed,.string key] [] (fun v L=>v=.int .u64 (y0 seed key)/\L= []):=by
 have hn1:0<=1+(key.size:Int)/\1+(key.size:Int) < 18446744073709551616:=by omega
 have htm:=nJ 13234230157428861123 (1+(key.size:Int)) (by decide) hn1
 rw[Cb] at htm
 refine au HY Tryz.func205 rfl rfl rfl fun Fr w0=>aZ ?_
 refine sr<|ar O O<|lz<|ad O (pS (us:=#[.int .i64 10435,.int .i64 53583,.int .i64 28213,.int .i64 47017]) rfl Tryz.underlying295 aN gU O)<|ay O gU fun b5=>bZ O O O cU O O ?_
 refine lz<|ad O (pS (us:=#[.int .i64 18167,.int .i64 28840,.int .i64 23777,.int .i64 40251]) rfl Tryz.underlying295 aN gU O)<|ay O gU fun b6=>bZ O O O cU O O ?_
 refine lc<|al ?_
 apply pB (p:=(fun(x:Nat)=>True)) (EE:=(fun x=>[(1,.string key),(5,.pointer (some ⟨b5,0,none⟩)),(6,.pointer (some ⟨b6,0,none⟩)),(7,.pointer (some ⟨x,0,none⟩))])) (LL:=(fun x=>pt x (.cells (cO (dg (jo seed key 0))).toArray 295 (0,0))::pt b6 (.cells #[.int .i64 18167,.int .i64 28840,.int .i64 23777,.int .i64 40251] 295 (0,0))::pt b5 (.cells #[.int .i64 10435,.int .i64 53583,.int .i64 28213,.int .i64 47017] 295 (0,0))::Fr))
 refine aY mixed ?_
 apply dq 0 O (yq (ah O))
 apply dq 2 O (yq (aO O dY cU))
 apply dq 3 O (yq (ah O))
 apply dq 4 O (yq (m9 O lg))
 apply dq 5 O (yq (bn O O))
 apply dq 6 O (yq (km O j5 fv))
 apply dI 1 10
 ·kernel_rfl
 ·refine cA (q1:=[0]) (q2:=[6,5,4,3,2]) [(11,_)] gO ⟨O,trivial⟩ (by kernel_rfl) fun Ex=>?_
  refine bF O O O (kz seed hs) ?_
  refine ai ?_
  refine aQ ⟨ya O O (yq (km O j5 fv)),ya O O (yq (bn O O)),ya O O (yq (m9 O lg)),ya O O (yq (ah O)),ya O O (yq (aO O dY cU)),trivial⟩ ?_
  apply dI 7 10
  ·kernel_rfl
  ·refine cA (q1:=[6,5,4,3]) (q2:=[2]) [(17,_)] gO ⟨O,trivial⟩ (by kernel_rfl) fun Ex=>?_
   refine bF O O O (kz _ hn1) ?_
   refine ai ?_
   refine aQ ⟨ya O O (yq (aO O dY cU)),trivial⟩ ?_
   apply dI 8 10
   ·kernel_rfl
   ·refine cA (q1:=[2]) (q2:=[]) [(13,_),(18,_)] gO ⟨O,O,trivial⟩ (by kernel_rfl) fun Ex=>?_
    refine bF O O O (htm) ?_
    refine ai ?_
    refine aQ trivial ?_
    apply dI 9 10
    ·kernel_rfl
    ·refine cA (q1:=[]) (q2:=[]) [(12,_),(19,_)] gO ⟨O,O,trivial⟩ (by kernel_rfl) fun Ex=>?_
     refine bF O O O (kJ seed _ hs (eZ _)) ?_
     refine ai ?_
     refine aQ trivial ?_
     refine ak [] [] 10 [] gO trivial (by kernel_rfl) (by kernel_rfl) fun Ex=>?_
     refine ay O gU fun b7=>ai ?_
     refine aQ trivial ?_
     refine ak [] [] 11 [(7,_),(20,_)] gO ⟨rfl,rfl,trivial⟩ (by kernel_rfl) (by kernel_rfl) fun Ex=>?_
     refine bZ O O O cU O O ?_
     refine ai ?_
     refine aQ trivial ?_
     refine aV (by kernel_rfl) ?_
     apply cx (b7)
     ·exact trivial
     ·exact⟨O,O,O,O,trivial⟩
     exact en
    refine cA (q1:=[]) (q2:=[]) [] gO trivial (by kernel_rfl) fun Ex=>?_
    refine ay O gU fun b7=>ai ?_
    refine aQ trivial ?_
    refine ak [] [] 9 [(12,_),(19,_)] gO ⟨rfl,rfl,trivial⟩ (by kernel_rfl) (by kernel_rfl) fun Ex=>?_
    refine bF O O O (kJ seed _ hs (eZ _)) ?_
    refine ai ?_
    refine aQ trivial ?_
    refine ak [] [] 11 [(7,_),(20,_)] gO ⟨rfl,rfl,trivial⟩ (by kernel_rfl) (by kernel_rfl) fun Ex=>?_
    refine bZ O O O cU O O ?_
    refine ai ?_
    refine aQ trivial ?_
    refine aV (by kernel_rfl) ?_
    apply cx (b7)
    ·exact trivial
    ·exact⟨O,O,O,O,trivial⟩
    exact en
   refine cA (q1:=[]) (q2:=[2]) [] gO trivial (by kernel_rfl) fun Ex=>?_
   refine ay O gU fun b7=>ai ?_
   refine aQ ⟨ya O O (yq (aO O dY cU)),trivial⟩ ?_
   refine ak [2] [] 8 [(13,_),(18,_)] gO ⟨rfl,rfl,trivial⟩ (by kernel_rfl) (by kernel_rfl) fun Ex=>?_
   refine bF O O O (htm) ?_
   refine ai ?_
   refine aQ trivial ?_
   refine ak [] [] 9 [(12,_),(19,_)] gO ⟨rfl,rfl,trivial⟩ (by kernel_rfl) (by kernel_rfl) fun Ex=>?_
   refine bF O O O (kJ seed _ hs (eZ _)) ?_
   refine ai ?_
   refine aQ trivial ?_
   refine ak [] [] 11 [(7,_),(20,_)] gO ⟨rfl,rfl,trivial⟩ (by kernel_rfl) (by kernel_rfl) fun Ex=>?_
   refine bZ O O O cU O O ?_
   refine ai ?_
   refine aQ trivial ?_
   refine aV (by kernel_rfl) ?_
   apply cx (b7)
   ·exact trivial
   ·exact⟨O,O,O,O,trivial⟩
   exact en
  refine cA (q1:=[]) (q2:=[6,5,4,3,2]) [] gO trivial (by kernel_rfl) fun Ex=>?_
  refine ay O gU fun b7=>ai ?_
  refine aQ ⟨ya O O (yq (km O j5 fv)),ya O O (yq (bn O O)),ya O O (yq (m9 O lg)),ya O O (yq (ah O)),ya O O (yq (aO O dY cU)),trivial⟩ ?_
  refine ak [6,5,4,3] [2] 7 [(17,_)] gO ⟨rfl,trivial⟩ (by kernel_rfl) (by kernel_rfl) fun Ex=>?_
  refine bF O O O (kz _ hn1) ?_
  refine ai ?_
  refine aQ ⟨ya O O (yq (aO O dY cU)),trivial⟩ ?_
  refine ak [2] [] 8 [(13,_),(18,_)] gO ⟨rfl,rfl,trivial⟩ (by kernel_rfl) (by kernel_rfl) fun Ex=>?_
  refine bF O O O (htm) ?_
  refine ai ?_
  refine aQ trivial ?_
  refine ak [] [] 9 [(12,_),(19,_)] gO ⟨rfl,rfl,trivial⟩ (by kernel_rfl) (by kernel_rfl) fun Ex=>?_
  refine bF O O O (kJ seed _ hs (eZ _)) ?_
  refine ai ?_
  refine aQ trivial ?_
  refine ak [] [] 11 [(7,_),(20,_)] gO ⟨rfl,rfl,trivial⟩ (by kernel_rfl) (by kernel_rfl) fun Ex=>?_
  refine bZ O O O cU O O ?_
  refine ai ?_
  refine aQ trivial ?_
  refine aV (by kernel_rfl) ?_
  apply cx (b7)
  ·exact trivial
  ·exact⟨O,O,O,O,trivial⟩
  exact en
 ·refine cA (q1:=[]) (q2:=[6,5,4,3,2,0]) [] gO trivial (by kernel_rfl) fun Ex=>?_
  refine ay O gU fun b7=>ai ?_
  refine aQ ⟨ya O O (yq (km O j5 fv)),ya O O (yq (bn O O)),ya O O (yq (m9 O lg)),ya O O (yq (ah O)),ya O O (yq (aO O dY cU)),ya O O (yq (ah O)),trivial⟩ ?_
  refine ak [0] [6,5,4,3,2] 1 [(11,_)] gO ⟨rfl,trivial⟩ (by kernel_rfl) (by kernel_rfl) fun Ex=>?_
  refine bF O O O (kz seed hs) ?_
  refine ai ?_
  refine aQ ⟨ya O O (yq (km O j5 fv)),ya O O (yq (bn O O)),ya O O (yq (m9 O lg)),ya O O (yq (ah O)),ya O O (yq (aO O dY cU)),trivial⟩ ?_
  refine ak [6,5,4,3] [2] 7 [(17,_)] gO ⟨rfl,trivial⟩ (by kernel_rfl) (by kernel_rfl) fun Ex=>?_
  refine bF O O O (kz _ hn1) ?_
  refine ai ?_
  refine aQ ⟨ya O O (yq (aO O dY cU)),trivial⟩ ?_
  refine ak [2] [] 8 [(13,_),(18,_)] gO ⟨rfl,rfl,trivial⟩ (by kernel_rfl) (by kernel_rfl) fun Ex=>?_
  refine bF O O O (htm) ?_
  refine ai ?_
  refine aQ trivial ?_
  refine ak [] [] 9 [(12,_),(19,_)] gO ⟨rfl,rfl,trivial⟩ (by kernel_rfl) (by kernel_rfl) fun Ex=>?_
  refine bF O O O (kJ seed _ hs (eZ _)) ?_
  refine ai ?_
  refine aQ trivial ?_
  refine ak [] [] 11 [(7,_),(20,_)] gO ⟨rfl,rfl,trivial⟩ (by kernel_rfl) (by kernel_rfl) fun Ex=>?_
  refine bZ O O O cU O O ?_
  refine ai ?_
  refine aQ trivial ?_
  refine aV (by kernel_rfl) ?_
  apply cx (b7)
  ·exact trivial
  ·exact⟨O,O,O,O,trivial⟩
  exact en
 rintro b7 _
 try dsimp only
 refine oJ ?_
 refine an<|al<|sr<|ar O O<|lc<|aB ?_
 refine bK (fun i:Nat=>i<=key.size) (fun i=>[(1,.string key),(5,.pointer (some ⟨b5,0,none⟩)),(6,.pointer (some ⟨b6,0,none⟩)),(7,.pointer (some ⟨b7,0,none⟩)),(8,.int .i64 (i:Nat))]) (fun i=>pt b7 (.cells (cO (dg (jo seed key i))).toArray 295 (0,0))::pt b6 (.cells #[.int .i64 18167,.int .i64 28840,.int .i64 23777,.int .i64 40251] 295 (0,0))::pt b5 (.cells #[.int .i64 10435,.int .i64 53583,.int .i64 28213,.int .i64 47017] 295 (0,0))::Fr) (fun i=>key.size-i) 0 (Nat.zero_le _) ⟨rfl,rfl,rfl,rfl,rfl,trivial⟩ (by(exact en)) ?_
 intro i hi
 have hm:=Br seed key i
 refine al<|sr<|mv O O<|mv O O<|ad O (m9 O lg)<|ad O (qi O O (bj ·))<|lc<|aG O (fun h1=>?_) fun h1=>?_
 ·skip
  have hik:i < key.size:=by omega
  obtain⟨y,hy⟩:∃ y,y=IntKind.i64.wrap ((key[i]'hik).toNat:Int):=⟨_,rfl⟩
  have hyb:y=((key[i]'hik).toNat:Int):=by rw[hy];exact wrap_i64 (by have:=(key[i]'hik).toNat_lt;omega)
  have hb8:0<=y/\y < 256:=by have:=(key[i]'hik).toNat_lt;omega
  have hx1:=kJ (jo seed key i) y hm (by omega)
  rw[Cc _ hb8] at hx1
  have ht1:=nJ (bits .xor .u64 (jo seed key i) y) 11329751410908088055 (oP _ _) (by decide)
  rw[F5] at ht1
  have hd1:=zu _ (eZ (bits .xor .u64 (jo seed key i) y*11329751410908088055))
  have hx2:=kJ _ _ (eZ (bits .xor .u64 (jo seed key i) y*11329751410908088055)) (qy (eZ (bits .xor .u64 (jo seed key i) y*11329751410908088055)) (min (Int.toNat 31) IntKind.u64.bits))
  have hst:bits .xor .u64 (IntKind.u64.wrap (bits .xor .u64 (jo seed key i) y*11329751410908088055)) ((IntKind.u64.wrap (bits .xor .u64 (jo seed key i) y*11329751410908088055)).fdiv (2 ^ min (Int.toNat 31) IntKind.u64.bits))=jo seed key (i+1):=by
   simp only[jo]
   rw[dif_pos hik,show IntKind.u64.wrap ((key[i]'hik).toNat:Int)=y by rw[hyb,IntKind.wrap_u64];omega]
   rfl
  refine aq<|an<|al<|aB<|al<|aY mixed ?_
  apply dq 0 O (yq (aO O dY cU))
  apply dq 1 O (yq (ah O))
  apply dq 2 O (yq (ah O))
  apply dq 3 O (yq (uu O O lg (by omega)))
  apply dq 4 O (yq (km O E5 j5))
  apply dq 5 O (yq (pS rfl Tryz.underlying295 aN gU (FP _)))
  apply dq 7 O (yq (aO O dY cU))
  refine ak [0,5,4,3,1,2] [7] 6 [(27,_),(32,_)] gO ⟨rfl,rfl,trivial⟩ (by kernel_rfl) (by kernel_rfl) fun Ex=>?_
  simp only[Int.toNat_natCast]
  rw[<- hy]
  refine bF O O O (hx1) ?_
  refine ai ?_
  refine aQ ⟨ya O O (yq (aO O dY cU)),trivial⟩ ?_
  refine ak [7] [] 8 [(33,_),(34,_)] gO ⟨rfl,rfl,trivial⟩ (by kernel_rfl) (by kernel_rfl) fun Ex=>?_
  refine bF O O O (ht1) ?_
  refine ai ?_
  refine aQ trivial ?_
  refine ak [] [] 9 [(7,_),(35,_)] gO ⟨rfl,rfl,trivial⟩ (by kernel_rfl) (by kernel_rfl) fun Ex=>?_
  refine bZ O O O cU O O ?_
  refine ai ?_
  refine aQ trivial ?_
  refine aV (by kernel_rfl) ?_
  refine an<|aY mixed ?_
  apply dq 0 O (yq (aO O dY cU))
  apply dq 1 O (yq (aO O dY cU))
  refine ak [1] [0] 2 [(37,_)] gO ⟨rfl,trivial⟩ (by kernel_rfl) (by kernel_rfl) fun Ex=>?_
  refine bF O O O (hd1) ?_
  refine ai ?_
  refine aQ ⟨ya O O (yq (aO O dY cU)),trivial⟩ ?_
  refine ak [0] [] 3 [(36,_),(38,_)] gO ⟨rfl,rfl,trivial⟩ (by kernel_rfl) (by kernel_rfl) fun Ex=>?_
  refine bF O O O (hx2) ?_
  refine ai ?_
  refine aQ trivial ?_
  refine ak [] [] 4 [(7,_),(39,_)] gO ⟨rfl,rfl,trivial⟩ (by kernel_rfl) (by kernel_rfl) fun Ex=>?_
  refine bZ O O O cU O O ?_
  refine ai ?_
  refine aQ trivial ?_
  refine aV (by kernel_rfl) ?_
  refine bz<|an<|aD<|mv O O<|ad O (bn O O) ?_
  refine ar O O<|ai ?_
  rw[hst]
  apply aU ((i+1))
  ·exact(show i+1<=key.size by omega)
  ·omega
  ·exact⟨O,O,O,O,O,trivial⟩
  exact en
 obtain rfl:i=key.size:=by omega
 have hd2:=zv _ hm
 have hx3:=kJ _ _ hm (qy hm (min (Int.toNat 29) IntKind.u64.bits))
 have ht2:=nJ (y7 (jo seed key key.size)) 13234230157428861123 (oP _ _) (by decide)
 rw[Cb] at ht2
 have hd3:=zt _ (eZ (y7 (jo seed key key.size)*13234230157428861123))
 have hx4:=kJ _ _ (eZ (y7 (jo seed key key.size)*13234230157428861123)) (qy (eZ (y7 (jo seed key key.size)*13234230157428861123)) (min (Int.toNat 32) IntKind.u64.bits))
 have hw:=At (y0 seed key) (uJ seed key)
 refine xt O<|an<|al<|aY mixed ?_
 apply dq 0 O (yq (aO O dY cU))
 apply dq 1 O (yq (aO O dY cU))
 refine ak [1] [0] 2 [(41,_)] gO ⟨rfl,trivial⟩ (by kernel_rfl) (by kernel_rfl) fun Ex=>?_
 refine bF O O O (hd2) ?_
 refine ai ?_
 refine aQ ⟨ya O O (yq (aO O dY cU)),trivial⟩ ?_
 refine ak [0] [] 3 [(40,_),(42,_)] gO ⟨rfl,rfl,trivial⟩ (by kernel_rfl) (by kernel_rfl) fun Ex=>?_
 refine bF O O O (hx3) ?_
 refine ai ?_
 refine aQ trivial ?_
 refine ak [] [] 4 [(7,_),(43,_)] gO ⟨rfl,rfl,trivial⟩ (by kernel_rfl) (by kernel_rfl) fun Ex=>?_
 refine bZ O O O cU O O ?_
 refine ai ?_
 refine aQ trivial ?_
 refine aV (by kernel_rfl) ?_
 refine nz<|ad O (aO O dY cU) ?_
 refine ad O (aO O dY cU) ?_
 refine bF O O O (ht2) ?_
 refine bZ O O O cU O O ?_
 refine lc<|al<|aY mixed ?_
 apply dq 0 O (yq (aO O dY cU))
 apply dq 1 O (yq (aO O dY cU))
 refine ak [1] [0] 2 [(48,_)] gO ⟨rfl,trivial⟩ (by kernel_rfl) (by kernel_rfl) fun Ex=>?_
 refine bF O O O (hd3) ?_
 refine ai ?_
 refine aQ ⟨ya O O (yq (aO O dY cU)),trivial⟩ ?_
 refine ak [0] [] 3 [(47,_),(49,_)] gO ⟨rfl,rfl,trivial⟩ (by kernel_rfl) (by kernel_rfl) fun Ex=>?_
 refine bF O O O (hx4) ?_
 refine ai ?_
 refine aQ trivial ?_
 refine ak [] [] 4 [(7,_),(50,_)] gO ⟨rfl,rfl,trivial⟩ (by kernel_rfl) (by kernel_rfl) fun Ex=>?_
 refine bZ O O O cU O O ?_
 refine ai ?_
 refine aQ trivial ?_
 refine aV (by kernel_rfl) ?_
 refine nz<|ad O (aO O dY cU) ?_
 refine bF O O O (hw) ?_
 exact ar O O<|lc<|rt<|cN O ([]) (.tmp rfl) ⟨rfl,rfl⟩
end Ref04
end Go.Proofs.YthkajgkagnenbaaGreatDoor
