import Derived.Test.YthkajgkagnenbaaGreatDoorExact11M
set_option linter.unusedVariables false
set_option linter.unusedSimpArgs false
set_option linter.unusedSectionVars false
namespace Go.Proofs.YthkajgkagnenbaaGreatDoor
section
set_option maxRecDepth 100000
namespace BytesP
open Go.RowKit Go.Proofs Eng Ty Bits Mem Search Arena CtrlB Layout GroupB Group TableB TableI Table Cells Exact Ref03
theorem word_ok (v:Int):aG Tryz.prog 126 #[.int .i64 v] [] (fun r L=>L= [aE 5 1 (r) (8) (bt (bG (IntKind.u64.wrap v)) (8))]):=by
 obtain⟨U,hU⟩:∃ U,U=IntKind.u64.wrap v:=⟨_,rfl⟩
 have hUb:0≤U∧U < 18446744073709551616:=by rw[hU,IntKind.wrap_u64];omega
 have hU0:IntKind.u64.wrap v=U / 2 ^ (8*0):=by rw[← hU];simp
 rw[← hU]
 refine aq GF Tryz.func126 rfl rfl rfl fun Fr w0=>aR ?_
 refine sr<|asg rfl rfl<|lz<|mv rfl rfl<|l_q rfl (qcv rfl yU3 fF) ?_
 refine asg rfl rfl<|lz<|asg rfl rfl<|lc<|ah<|sr<|asg rfl rfl<|lc<|ax ?_
 refine bw (fun y:Nat×Value=>y.1≤8) (fun y=>[(3,.int .u64 (U / 2 ^ (8*y.1))),(4,y.2),(5,.int .i64 (y.1:Nat))]) (fun y=>aE 5 1 (y.2) (y.1) (bt (bG U) (y.1))::Fr) (fun y=>8-y.1) (0,.slice none 0 0) (Nat.zero_le _) ⟨congrArg (fun z=>some (Value.int .u64 z)) hU0,rfl,rfl,trivial⟩ (fun w h=>eh h) ?_
 rintro⟨i,vb⟩ hi
 dsimp only at hi ⊢
 have hd0:0≤U / 2 ^ (8*i):=Int.ediv_nonneg hUb.1 (Int.le_of_lt (Int.pow_pos (by decide)))
 have hd1:U / 2 ^ (8*i) < 18446744073709551616:=Int.lt_of_le_of_lt (Int.ediv_le_self _ hUb.1) hUb.2
 obtain⟨D,hD⟩:∃ D,D=U / 2 ^ (8*i):=⟨_,rfl⟩
 rw[← hD] at hd0 hd1 ⊢
 refine ah<|sr<|mv rfl rfl<|l_q rfl (qi rfl rfl (aU ·))<|lc<|aA rfl (fun h1=>?_) fun h1=>?_
 ·skip
  have hrow:bt (bG U) i ++ #[Value.int .u8 (D % 256)].toList=bt (bG U) (i+1):=xy (by rw[hD];rfl)
  have hnx:IntKind.u64.wrap (D.tdiv 256)=U / 2 ^ (8*(i+1)):=by
   rw[x5,← hD,Int.tdiv_eq_ediv_of_nonneg hd0,IntKind.wrap_u64];omega
  refine al<|ak<|ah<|ax<|sr<|mv rfl rfl<|mv rfl rfl<|l_q rfl (iT rfl rfl) ?_
  refine l_q rfl (qcv rfl fF yU5) ?_
  refine aW [_] rfl rfl ck yS5 yZ5 rfl rfl rfl rfl (fun b16=>?_)
  apply dV (sz:=1) rfl rfl rfl ck yI5 rfl rfl
  ·exact tk
  ·exact tk
  ·rfl
  ·rfl
  ·simp only[maxLen];omega
  ·omega
  intro v17
  refine asg rfl rfl<|lr<|mv rfl rfl<|l_q rfl (gI rfl rfl) ?_
  refine asg rfl rfl<|aj<|aV<|ak<|aB<|mv rfl rfl<|l_q rfl (ba rfl rfl) ?_
  refine asg rfl rfl<|aj ?_
  rw[hrow]
  apply aO ((i+1,v17))
  ·exact(show i+1≤8 by omega)
  ·dsimp only;omega
  ·exact⟨congrArg (fun z=>some (Value.int .u64 z)) hnx,rfl,rfl,trivial⟩
  exact en
 obtain rfl:i=8:=by omega
 refine xt rfl<|nz<|mv rfl rfl<|asg rfl rfl<|lc<|rt<|fr1 rfl ([aE 5 1 (vb) (8) (bt (bG U) (8))]) (.tmp rfl) ?_
 rfl
theorem re (A:HP) (b o k cap:Nat) (hk0:0 < k) (hk:k≤1000) (W:Nat→Int) (hA:∀ i,i < k→ct A ⟨b,o+i,none⟩ (.int .i64 (W i))):
  aG Tryz.prog 47 #[.slice (some ⟨b,o,none⟩) k cap] [A] (fun r L=>r=.string (dE (hdF W) 0 (8*k))∧L= [A]):=by
 refine aq HI Tryz.func47 rfl rfl rfl fun Fr w0=>aR ?_
 refine sr<|asg rfl rfl<|lz<|asg rfl rfl<|lc<|ah<|sr<|asg rfl rfl<|lc<|ax ?_
 refine bw (fun y:Nat×Value=>y.1≤k) (fun y=>[(0,.slice (some ⟨b,o,none⟩) k cap),(3,y.2),(4,.int .i64 (y.1:Nat))]) (fun y=>aE 5 1 (y.2) (8*y.1) (bt (hdF W) (8*y.1))::A::Fr) (fun y=>k-y.1) (0,.slice none 0 0) (Nat.zero_le _) ⟨rfl,rfl,rfl,trivial⟩ (fun w h=>eh h) ?_
 rintro⟨i,vb⟩ hi
 dsimp only at hi ⊢
 refine ah<|sr<|mv rfl rfl<|mv rfl rfl<|l_q rfl (ql rfl bn)<|l_q rfl (qi rfl rfl (aU ·))<|lc<|aA rfl (fun h1=>?_) fun h1=>?_
 ·skip
  have hik:i < k:=by omega
  have hcell:ct A ⟨b,o+((i:Nat):Int).toNat,none⟩ (.int .i64 (W i)):=by rw[Int.toNat_natCast];exact hA i hik
  refine al<|ak<|ah<|ax<|aB<|mv rfl rfl<|mv rfl rfl<|mv rfl rfl<|l_q rfl (ay rfl rfl bn yS3 (by omega)) ?_
  apply l_q rfl
  ·apply bI (A:=A) rfl yA3
   ·exact tk
   exact hcell
  refine lcf rfl rfl rfl (word_ok (W i)) ?_
  rintro v L' rfl
  refine bF ?_
  refine db .here fun _ hs16=>?_
  obtain⟨a16,c16,rfl,ha16,_,_⟩:=hs16
  obtain⟨gw,rfl⟩:=ha16 (by decide)
  refine qw (sz:=1) (n:=8*i) (m:=8) (a0:=⟨gw,0,none⟩) (v:=vb) (xs:=bt (hdF W) (8*i)) (bt (bG (IntKind.u64.wrap (W i))) 8) rfl rfl rfl Tryz.underlying117 yI5 rfl rfl tk (dQ (by exact tk)) (by rw[bL]) (List.all_eq_true.2 (mC _ _)) (by simp only[maxLen];omega) (by omega) fun v17=>?_
  refine asg rfl rfl<|aj<|aV<|ak<|aB<|mv rfl rfl<|l_q rfl (ba rfl rfl) ?_
  refine asg rfl rfl<|aj ?_
  rw[B4,show 8*i+8=8*(i+1) by omega]
  apply aO ((i+1,v17))
  ·exact(show i+1≤k by omega)
  ·dsimp only;omega
  ·exact⟨rfl,rfl,rfl,trivial⟩
  exact en
 obtain rfl:i=k:=by omega
 refine cw .here fun _ hvb=>?_
 obtain⟨ab,cb,rfl,hab,_,_⟩:=hvb
 obtain⟨gb,rfl⟩:=hab (by omega)
 refine xt rfl<|nz<|mv rfl rfl ?_
 apply l_q rfl
 ·apply eI (dE (hdF W) 0 (8*i)) rfl Tryz.underlying117 Tryz.underlying5 Tryz.underlying9
  ·rw[cC]
  rw[ec (rO W)];exact dQ (by exact tk)
 exact asg rfl rfl<|lc<|rt<|fr1 rfl ([A]) (.tmp rfl) ⟨rfl,rfl⟩
def su (A:HP) (b o:Nat) (cs:Nat→Cell):Prop:=∀ i,i < 8→∀ j u,(bH (cs i))[j]?=some u→ct A ((⟨b,o+i*5,none⟩:Addr).add j) u
theorem lK (A:HP) (b o cap:Nat) (l:Lay) (hl:l.err=0) (cs:Nat→Cell) (hok:∀ i,i < 8→(cs i).ok l) (hA:su A b o cs):
  aG Tryz.prog 48 #[.agg #[.int .i64 l.key,.int .i64 l.elem,.int .i64 l.ka,.int .i64 l.ea,.int .i64 l.cap,.int .i64 l.eo,.int .i64 l.bo,.int .i64 l.slot,.int .i64 l.group],.slice (some ⟨b,o,none⟩) 8 cap] [A] (fun r L=>r=.string (dE (c7 l cs) 0 (gN l))∧L= [A]):=by
 have hN:=eL hl
 have hg:=hN.g_eq;have hs:=hN.s_eq;have hk1:=hN.k1;have he1:=hN.e1;have ho1:=hN.eo1;have hb1:=hN.bo1
 have hgl:=hN.g;have hsl:=hN.s;have hel:=hN.eo;have hbl:=hN.bo
 refine aq HH Tryz.func48 rfl rfl rfl fun Fr w0=>aR ?_
 refine sr<|aP rfl rfl fun b2=>asg rfl rfl<|lz<|l_q rfl (qfa 8 rfl bK rfl rfl yS3)<|l_q rfl (qld rfl yA3) ?_
 apply da rfl rfl rfl ck yI5 rfl (by omega) (by omega)
 intro b11
 refine asg rfl rfl<|lc<|ah<|sr<|asg rfl rfl<|lc<|ax ?_
 rw[show l.group.toNat=gN l from rfl,kp,xR l cs]
 refine bw (fun i:Nat=>i≤8) (fun i=>[(1,.slice (some ⟨b,o,none⟩) 8 cap),(2,.pointer (some ⟨b2,0,none⟩)),(5,.slice (some ⟨b11,0,none⟩) (gN l) (gN l)),(6,.int .i64 (i:Nat))]) (fun i=>aE 5 1 (.slice (some ⟨b11,0,none⟩) (gN l) (gN l)) (gN l) (bt (jo l cs i) (gN l))::pt b2 (.cells #[.int .i64 l.key,.int .i64 l.elem,.int .i64 l.ka,.int .i64 l.ea,.int .i64 l.cap,.int .i64 l.eo,.int .i64 l.bo,.int .i64 l.slot,.int .i64 l.group] 34 (0,0))::A::Fr) (fun i=>8-i) 0 (Nat.zero_le _) ⟨rfl,rfl,rfl,rfl,trivial⟩ (by(exact en)) ?_
 intro i hi
 refine ah<|sr<|mv rfl rfl<|l_q rfl (qi rfl rfl (aU ·))<|lc<|aA rfl (fun h1=>?_) fun h1=>?_
 ·skip
  have hi8:i < 8:=by omega
  have hcell:∀ j u,([.int .i64 (cs i).kind,.int .i64 (cs i).tagI,.string (cs i).keyS,.string (cs i).elemS,.int .i64 (cs i).birthI])[j]?=some u→ct A ((⟨b,o+((i:Nat):Int).toNat*5,none⟩:Addr).add j) u:=by rw[Int.toNat_natCast];exact hA i hi8
  have hset:∀ z,(bt (jo l cs i) (gN l)).set i (.int .u8 z)=bt (fun j=>if j=i then z else jo l cs i j) (gN l):=fun z=>sT (by omega)
  have him:((i:Nat):Int)*l.slot=((i*sN l:Nat):Int):=by rw[← hsl];push_cast;rfl
  have hisn:i*sN l+sN l≤8*sN l:=by have:=Nat.mul_le_mul_right (sN l) (show i+1≤8 by omega);rw[Nat.add_mul] at this;omega
  refine al<|ak<|ah<|ax<|sr<|mv rfl rfl<|mv rfl rfl<|l_q rfl (aT rfl rfl g9 bx (by omega)) ?_
  apply l_q rfl
  ·apply eu (A:=A) (us:=[.int .i64 (cs i).kind,.int .i64 (cs i).tagI,.string (cs i).keyS,.string (cs i).elemS,.int .i64 (cs i).birthI]) rfl dh bx rfl
   ·exact tk
   exact hcell
  refine az rfl cK fun b7=>sta rfl rfl rfl bx rfl rfl ?_
  refine lz<|l_q rfl (qfa 0 rfl cQ rfl rfl yS3)<|l_q rfl (qld rfl yA3) ?_
  refine lc<|ax<|sr<|l_q rfl (qi rfl rfl (aZ ·))<|asg rfl rfl<|lc<|aA rfl (fun p1=>?_) fun p1=>?_
  ·skip
   have hb:(cs i).ctrl=128∧isFull (cs i)=false:=by cases hh:cs i <;> rw[hh] at p1 <;> simp[Cell.kind] at p1 <;> exact⟨rfl,rfl⟩
   refine aB<|mv rfl rfl<|mv rfl rfl<|l_q rfl (ay rfl rfl ck yS5 (by omega)) ?_
   apply dp (xs':=bt (fun j=>if j=i then 128 else jo l cs i j) (gN l)) rfl rfl rfl yS5 rfl
   ·exact tk
   ·omega
   ·rw[Int.toNat_natCast,Nat.zero_add];exact hset 128
   refine aj<|aV<|aV<|ak<|aB<|mv rfl rfl<|l_q rfl (ba rfl rfl) ?_
   refine asg rfl rfl<|aj ?_
   rw[qO hN cs hi8 hb.1 hb.2]
   apply aO ((i+1))
   ·exact(show i+1≤8 by omega)
   ·omega
   ·exact⟨rfl,rfl,rfl,rfl,trivial⟩
   exact en
  refine sr<|l_q rfl (qi rfl rfl (aZ ·))<|asg rfl rfl<|lc<|aA rfl (fun p2=>?_) fun p2=>?_
  ·skip
   have hb:(cs i).ctrl=254∧isFull (cs i)=false:=by cases hh:cs i <;> rw[hh] at p2 <;> simp[Cell.kind] at p2 <;> exact⟨rfl,rfl⟩
   refine aB<|mv rfl rfl<|mv rfl rfl<|l_q rfl (ay rfl rfl ck yS5 (by omega)) ?_
   apply dp (xs':=bt (fun j=>if j=i then 254 else jo l cs i j) (gN l)) rfl rfl rfl yS5 rfl
   ·exact tk
   ·omega
   ·rw[Int.toNat_natCast,Nat.zero_add];exact hset 254
   refine aj<|aV<|aV<|ak<|aB<|mv rfl rfl<|l_q rfl (ba rfl rfl) ?_
   refine asg rfl rfl<|aj ?_
   rw[qO hN cs hi8 hb.1 hb.2]
   apply aO ((i+1))
   ·exact(show i+1≤8 by omega)
   ·omega
   ·exact⟨rfl,rfl,rfl,rfl,trivial⟩
   exact en
  obtain⟨t,k,e,bi,hc⟩:∃ t k e bi,cs i=.full t k e bi:=by cases hh:cs i with | empty=>(rw[hh] at p1;exact absurd rfl p1) | deleted=>(rw[hh] at p2;exact absurd rfl p2) | full t k e bi=>exact⟨t,k,e,bi,rfl⟩
  have hck:=hok i hi8
  rw[hc] at hck
  obtain⟨ht0,ht1,hks,hes,hbi0,hbi1⟩:=hck
  rw[show(cs i).tagI=t by rw[hc];rfl,show(cs i).keyS=k by rw[hc];rfl,show(cs i).elemS=e by rw[hc];rfl,show(cs i).birthI=bi by rw[hc];rfl]
  have ht8:IntKind.u8.wrap t=t:=wrap_u8 (by omega)
  have hat0:(8+((i:Nat):Int)*l.slot).toNat=8+i*sN l:=by rw[him];omega
  have hat1:(8+((i:Nat):Int)*l.slot+l.eo).toNat=8+i*sN l+eoN l:=by rw[him];omega
  have hat2:(8+((i:Nat):Int)*l.slot+l.bo).toNat=8+i*sN l+boN l:=by rw[him];omega
  have hw:=word_ok bi
  rw[show IntKind.u64.wrap bi=bi by rw[IntKind.wrap_u64];omega] at hw
  refine sr<|mv rfl rfl<|mv rfl rfl<|l_q rfl (qfa 1 rfl cQ rfl rfl yS3)<|l_q rfl (qld rfl yA3) ?_
  refine l_q rfl (qcv rfl yU3 yU5) ?_
  refine l_q rfl (ay rfl rfl ck yS5 (by omega)) ?_
  apply dp (xs':=bt (fun j=>if j=i then t else jo l cs i j) (gN l)) rfl rfl rfl yS5 rfl
  ·exact tk
  ·omega
  ·rw[Int.toNat_natCast,Nat.zero_add];exact hset t
  refine lz<|mv rfl rfl<|l_q rfl (qfa 7 rfl bK rfl rfl yS3)<|l_q rfl (qld rfl yA3) ?_
  refine l_q rfl (dF rfl rfl) ?_
  refine l_q rfl (ba rfl rfl) ?_
  refine asg rfl rfl<|lc<|ah<|aS mixed ?_
  apply dq 0 rfl
  ·exact yq (ai rfl)
  apply dq 1 rfl
  ·exact yq (ai rfl)
  apply dq 2 rfl
  ·exact yq (fy rfl rfl ck yS5 (by omega))
  apply dq 3 rfl
  ·exact yq (qfa 2 rfl cQ rfl rfl yS9)
  apply dq 4 rfl
  ·exact yq (qld rfl yA9)
  refine an [2,4,0,1,3] [] 5 [(35,_),(37,_)] gO ⟨rfl,rfl,trivial⟩ (by kernel_rfl) (by kernel_rfl) fun Ex=>?_
  apply qu (s:=k) (xs':=bt (cm (fun j=>if j=i then t else jo l cs i j) (8+i*sN l) k.size (cP k)) (gN l)) rfl rfl rfl Tryz.underlying117 (by obtain⟨i,h1,_,h2,_⟩:=yI5;exact⟨i,h1,h2⟩)
  ·exact tk
  ·omega
  ·rw[hat0];exact kP (by omega) (Nat.le_refl _)
  ·rw[hat0,kK];exact kD (by omega) (Nat.le_refl _)
  refine aj ?_
  apply n_d
  ·exact trivial
  refine bd (by kernel_rfl) ?_
  refine ak<|ah<|aS mixed ?_
  apply dq 0 rfl
  ·exact yq (ai rfl)
  apply dq 1 rfl
  ·exact yq (ai rfl)
  apply dq 2 rfl
  ·exact yq (qfa 5 rfl bK rfl rfl yS3)
  apply dq 3 rfl
  ·exact yq (qld rfl yA3)
  apply dq 4 rfl
  ·exact yq (ba rfl rfl)
  apply dq 5 rfl
  ·exact yq (fy rfl rfl ck yS5 (by omega))
  apply dq 6 rfl
  ·exact yq (qfa 3 rfl cQ rfl rfl yS9)
  apply dq 7 rfl
  ·exact yq (qld rfl yA9)
  refine an [5,7,0,4,6,1,3,2] [] 8 [(44,_),(46,_)] gO ⟨rfl,rfl,trivial⟩ (by kernel_rfl) (by kernel_rfl) fun Ex=>?_
  apply qu (s:=e) (xs':=bt (cm (cm (fun j=>if j=i then t else jo l cs i j) (8+i*sN l) k.size (cP k)) (8+i*sN l+eoN l) e.size (cP e)) (gN l)) rfl rfl rfl Tryz.underlying117 (by obtain⟨i,h1,_,h2,_⟩:=yI5;exact⟨i,h1,h2⟩)
  ·exact tk
  ·omega
  ·rw[hat1];exact kP (by omega) (Nat.le_refl _)
  ·rw[hat1,kK];exact kD (by omega) (Nat.le_refl _)
  refine aj ?_
  apply n_d
  ·exact trivial
  refine bd (by kernel_rfl) ?_
  refine ak<|aS mixed ?_
  apply dq 0 rfl
  ·exact yq (ai rfl)
  apply dq 1 rfl
  ·exact yq (ai rfl)
  apply dq 2 rfl
  ·exact yq (qfa 6 rfl bK rfl rfl yS3)
  apply dq 3 rfl
  ·exact yq (qld rfl yA3)
  apply dq 4 rfl
  ·exact yq (ba rfl rfl)
  apply dq 5 rfl
  ·exact yq (fy rfl rfl ck yS5 (by omega))
  apply dq 6 rfl
  ·exact yq (qfa 4 rfl cQ rfl rfl yS3)
  apply dq 7 rfl
  ·exact yq (qld rfl yA3)
  refine an [7,6] [5,4,3,2,1,0] 8 [(55,_)] gO ⟨rfl,trivial⟩ (by kernel_rfl) (by kernel_rfl) fun Ex=>?_
  refine lcf rfl rfl rfl (hw) ?_
  rintro v56 L' rfl
  refine bF ?_
  refine aj ?_
  apply n_d
  ·refine⟨?_,?_,?_,?_,?_,?_,trivial⟩
   ·apply ya rfl rfl;exact yq (fy rfl rfl ck yS5 (by omega))
   ·apply ya rfl rfl;exact yq (ba rfl rfl)
   ·apply ya rfl rfl;exact yq (qld rfl yA3)
   ·apply ya rfl rfl;exact yq (qfa 6 rfl bK rfl rfl yS3)
   ·apply ya rfl rfl;exact yq (ai rfl)
   apply ya rfl rfl;exact yq (ai rfl)
  refine an [5,0,4,1,3,2] [] 9 [(53,_),(56,_)] gO ⟨rfl,rfl,trivial⟩ (by kernel_rfl) (by kernel_rfl) fun Ex=>?_
  refine db (v:=v56) tk fun _ hs56=>?_
  obtain⟨a56,c56,rfl,ha56,_,_⟩:=hs56
  obtain⟨g56,rfl⟩:=ha56 (by decide)
  apply rF (bt (bG bi) 8) rfl rfl rfl Tryz.underlying117 (by obtain⟨i,h1,_,h2,_⟩:=yI5;exact⟨i,h1,h2⟩)
  ·exact tk
  ·rw[bL,hat2];exact(Nat.min_eq_left (by omega)).symm
  ·exact dQ (by exact tk)
  ·rw[bL,hat2];exact kP (by omega) (Nat.le_refl _)
  ·exact mC _ _
  rw[hat2,kD (by omega) (Nat.le_refl _)]
  refine aj ?_
  apply n_d
  ·exact trivial
  refine bd (by kernel_rfl) ?_
  refine aV<|aV<|ak<|aB<|mv rfl rfl<|l_q rfl (ba rfl rfl) ?_
  refine asg rfl rfl<|aj ?_
  -- again
  rw[xS hN cs hi8 hc hks hes]
  apply aO ((i+1))
  ·exact(show i+1≤8 by omega)
  ·omega
  ·exact⟨rfl,rfl,rfl,rfl,trivial⟩
  exact en
 obtain rfl:i=8:=by omega
 rw[xT hN cs]
 refine xt rfl<|nz<|mv rfl rfl ?_
 apply l_q rfl
 ·apply eI (dE (c7 l cs) 0 (gN l)) rfl Tryz.underlying117 Tryz.underlying5 Tryz.underlying9
  ·rw[cC]
  rw[ec (kH hok)];exact dQ (by exact tk)
 exact asg rfl rfl<|lc<|rt<|fr1 rfl ([A]) (.tmp rfl) ⟨rfl,rfl⟩
end BytesP
end
section
set_option maxRecDepth 100000
namespace BytesP
open Go.RowKit Go.Proofs Eng Ty Bits Mem Search Arena CtrlB Ctrl Layout GroupB Group TableB TableI Table Bench Cells Exact RefA RefT Ref03
theorem vZ {b i:Nat} {cs:Array Value} {t:TypeId} {fr:Nat×Nat} {v:Value} (h:cs[i]?=some v):ct (pt b (.cells cs t fr)) ⟨b,i,none⟩ v:=fun w hw=>by
 have hs:Sat (stars [pt b (.cells cs t fr)]) w:=by
  obtain⟨f,hf,k⟩:=hw
  exact⟨f,hf,f,Part.none,k,rfl,Part.disj_none _,(Part.join_none _).symm⟩
 have hb:=hs.block (b:=b) (o:=.cells cs t fr) .here
 simp[World.cell?,hb,h]
theorem tL {x:PR} {g0 cap g:Nat} (hg:g < x.n):su (aE 142 5 (.slice (some ⟨g0,0,none⟩) (8*x.n) cap) (8*x.n) (rowOf bH (bu x.T.cells (8*x.n)))) g0 (8*g*5) (cD x.T.cells g):=fun i hi j u hu=>by
 have hj:j < 5:=by
  have:=(List.getElem?_eq_some_iff.1 hu).1
  simpa [bH] using this
 rw[cz]
 refine ji ?_
 rw[show 8*g*5+i*5+j=(8*g+i)*5+j by omega,cells_row x.T.cells (by omega) j hj]
 exact hu
theorem DM (x:PR) (b:Nat):aG Tryz.prog 47 #[.slice (some ⟨b,0,none⟩) 8 8] [pt b (.cells #[.int .i64 x.T.kind,.int .i64 x.T.pins,.int .i64 x.T.next,.int .i64 x.T.used,.int .i64 ((8*x.n:Nat):Int),.int .i64 x.T.left,.int .i64 x.T.depth,.int .i64 (x.go:Nat)] 3 (0,0))] (fun r L=>r=.string (dE (hdF (dT x.T x.n x.go)) 0 64)∧L= [pt b (.cells #[.int .i64 x.T.kind,.int .i64 x.T.pins,.int .i64 x.T.next,.int .i64 x.T.used,.int .i64 ((8*x.n:Nat):Int),.int .i64 x.T.left,.int .i64 x.T.depth,.int .i64 (x.go:Nat)] 3 (0,0))]):=
 re (pt b (.cells #[.int .i64 x.T.kind,.int .i64 x.T.pins,.int .i64 x.T.next,.int .i64 x.T.used,.int .i64 ((8*x.n:Nat):Int),.int .i64 x.T.left,.int .i64 x.T.depth,.int .i64 (x.go:Nat)] 3 (0,0))) b 0 8 8 (by decide) (by decide) (dT x.T x.n x.go) fun i hi=>by
  refine vZ ?_
  rw[Nat.zero_add]
  have h4:((8*x.n:Nat):Int)=8*(x.n:Int):=by push_cast;rfl
  rw[h4]
  have:i=0∨i=1∨i=2∨i=3∨i=4∨i=5∨i=6∨i=7:=by omega
  rcases this with rfl | rfl | rfl | rfl | rfl | rfl | rfl | rfl <;> rfl
section
variable (pr:Nat) (l:Lay) (hl:l.err=0) (x:PR) (hn0:0 < x.n) (hn:x.n≤8192) (hk:x.T.kind=2∨x.T.kind=4) (hok:∀ i,i < 8*x.n→(x.T.cells i).ok l) (hsm:((x.n*gN l:Nat):Int)≤1048576)
include hl hn0 hn hk hok hsm
theorem Bf:aG Tryz.prog 37 #[.pointer (some ⟨x.p,0,none⟩)] [rtH pr l x] (fun v L=>v=.tuple #[.string (dE (hdF (dT x.T x.n x.go)) 0 64),.string (dE (grF l x.T.cells x.n) 0 (aC ((x.n*gN l:Nat):Int)).toNat)]∧L= [rtH pr l x]):=by
 have hN:=eL hl
 have hg8:=hN.g_eq
 have hnl:1≤x.n*gN l:=by have:=Nat.mul_le_mul_right (gN l) hn0;omega
 have hcl:=(cF (n:=((x.n*gN l:Nat):Int)) (by omega)).2.2 hsm
 have hcu:=(cF (n:=((x.n*gN l:Nat):Int)) (by omega)).2.1
 have hwr:IntKind.i64.wrap (aC ((x.n*gN l:Nat):Int)-((x.n*gN l:Nat):Int))=aC ((x.n*gN l:Nat):Int)-((x.n*gN l:Nat):Int):=wrap_i64 (by omega)
 refine aq HS Tryz.func37 rfl rfl rfl fun Fr w0=>aR ?_
 refine iG .here fun vc=>?_
 refine cw (.there .here) fun _ hvc=>?_
 obtain⟨a0,cap,rfl,ha,hcap,_⟩:=hvc
 obtain⟨g0,rfl⟩:=ha (by omega)
 refine sr<|asg rfl rfl<|asg rfl rfl<|lz<|asg rfl rfl<|lc<|ah<|sr<|mv rfl rfl<|l_q rfl (ad rfl)<|l_q rfl (qfa 17 rfl ep rfl rfl yS4)<|l_q rfl (qld rfl yA4) ?_
 refine lc ?_
 apply qf (p:=(fun _:Unit=>True)) (EE:=(fun _=>[(0,.pointer (some ⟨x.p,0,none⟩)),(4,.int .i64 x.T.kind)])) (LL:=(fun _=>pt x.p (.cells #[.pointer (some ⟨pr,0,none⟩),.int .i64 l.key,.int .i64 l.elem,.int .i64 l.ka,.int .i64 l.ea,.int .i64 l.cap,.int .i64 l.eo,.int .i64 l.bo,.int .i64 l.slot,.int .i64 l.group,.int .i64 (x.off:Nat),.int .i64 (x.go:Nat),.int .i64 x.T.used,.int .i64 x.T.left,.int .i64 x.T.depth,.int .i64 x.T.pins,.int .i64 x.T.next,.bool (decide (x.T.kind=4)),.bool x.dead,(.slice (some ⟨g0,0,none⟩) (8*x.n) cap)] 45 (0,0))::aE 142 5 (.slice (some ⟨g0,0,none⟩) (8*x.n) cap) (8*x.n) (rowOf bH (bu x.T.cells (8*x.n)))::Fr))
 refine aA rfl (fun z=>?_) fun z=>?_
 ·refine aB<|asg rfl rfl<|aj ?_
  apply ej (())
  ·exact trivial
  ·exact⟨rfl,congrArg (fun q=>some (Value.int .i64 q)) z.symm,trivial⟩
  exact en
 ·refine al ?_
  apply ej (())
  ·exact trivial
  ·exact⟨rfl,congrArg (fun q=>some (Value.int .i64 q)) (hk.resolve_right z).symm,trivial⟩
  exact en
 rintro _ -
 try dsimp only
 refine nQ ?_
 refine ak<|ah<|aS mixed ?_
 apply dq 0 rfl
 ·exact yq (ai rfl)
 apply dq 1 rfl
 ·exact yq (ai rfl)
 apply dq 2 rfl
 ·exact yq (ad rfl)
 apply dq 3 rfl
 ·exact yq (qfa 15 rfl ep rfl rfl yS3)
 apply dq 4 rfl
 ·exact yq (qld rfl yA3)
 apply dq 5 rfl
 ·exact yq (ai rfl)
 apply dq 6 rfl
 ·exact yq (ad rfl)
 apply dq 7 rfl
 ·exact yq (qfa 16 rfl ep rfl rfl yS3)
 apply dq 8 rfl
 ·exact yq (qld rfl yA3)
 apply dq 9 rfl
 ·exact yq (ai rfl)
 apply dq 10 rfl
 ·exact yq (ad rfl)
 apply dq 11 rfl
 ·exact yq (qfa 12 rfl ep rfl rfl yS3)
 apply dq 12 rfl
 ·exact yq (qld rfl yA3)
 apply dq 13 rfl
 ·exact yq (ai rfl)
 apply dq 14 rfl
 ·exact yq (ad rfl)
 apply dq 15 rfl
 ·exact yq (qfa 19 rfl ep rfl rfl gQ)
 apply dq 16 rfl
 ·exact yq (qld rfl gR)
 apply dq 17 rfl
 ·exact yq (ql rfl g9)
 apply dq 18 rfl
 ·exact yq (ai rfl)
 apply dq 19 rfl
 ·exact yq (ad rfl)
 apply dq 20 rfl
 ·exact yq (qfa 13 rfl ep rfl rfl yS3)
 apply dq 21 rfl
 ·exact yq (qld rfl yA3)
 apply dq 22 rfl
 ·exact yq (ai rfl)
 apply dq 23 rfl
 ·exact yq (ad rfl)
 apply dq 24 rfl
 ·exact yq (qfa 14 rfl ep rfl rfl yS3)
 apply dq 25 rfl
 ·exact yq (qld rfl yA3)
 apply dq 26 rfl
 ·exact yq (ai rfl)
 apply dq 27 rfl
 ·exact yq (ad rfl)
 apply dq 28 rfl
 ·exact yq (qfa 11 rfl ep rfl rfl yS3)
 apply dq 29 rfl
 ·exact yq (qld rfl yA3)
 refine an [0,4,8,12,17,21,25,29,3,7,11,16,20,24,28,2,6,10,15,19,23,27,1,5,9,14,18,22,26,13] [] 30 [(13,_),(17,_),(21,_),(25,_),(30,_),(34,_),(38,_),(42,_)] gO ⟨rfl,rfl,rfl,rfl,rfl,rfl,rfl,rfl,trivial⟩ (by kernel_rfl) (by kernel_rfl) fun Ex=>?_
 refine aW [_,_,_,_,_,_,_,_] rfl rfl bn yS3 yZ3 rfl rfl rfl rfl (fun b43=>?_)
 refine aj ?_
 apply n_d
 ·exact trivial
 refine an [] [] 31 [(43,_)] gO ⟨rfl,trivial⟩ (by kernel_rfl) (by kernel_rfl) fun Ex=>?_
 refine lc1 rfl rfl rfl (DM x b43) ?_
 refine aj ?_
 apply n_d
 ·exact trivial
 refine an [] [] 32 [(44,_)] gO ⟨rfl,trivial⟩ (by kernel_rfl) (by kernel_rfl) fun Ex=>?_
 refine asg rfl rfl<|aj ?_
 apply n_d
 ·exact trivial
 refine bd (by kernel_rfl) ?_
 refine nz<|asg rfl rfl<|lc<|ah<|sr<|asg rfl rfl<|lc<|ax ?_
 refine bw (fun y:Nat×Value=>y.1≤x.n) (fun y=>[(0,.pointer (some ⟨x.p,0,none⟩)),(5,.string (dE (hdF (dT x.T x.n x.go)) 0 64)),(6,y.2),(7,.int .i64 ((8*y.1:Nat):Int))]) (fun y=>aE 5 1 (y.2) ((y.1*gN l)) (bt (grF l x.T.cells x.n) ((y.1*gN l)))::pt x.p (.cells #[.pointer (some ⟨pr,0,none⟩),.int .i64 l.key,.int .i64 l.elem,.int .i64 l.ka,.int .i64 l.ea,.int .i64 l.cap,.int .i64 l.eo,.int .i64 l.bo,.int .i64 l.slot,.int .i64 l.group,.int .i64 (x.off:Nat),.int .i64 (x.go:Nat),.int .i64 x.T.used,.int .i64 x.T.left,.int .i64 x.T.depth,.int .i64 x.T.pins,.int .i64 x.T.next,.bool (decide (x.T.kind=4)),.bool x.dead,(.slice (some ⟨g0,0,none⟩) (8*x.n) cap)] 45 (0,0))::aE 142 5 (.slice (some ⟨g0,0,none⟩) (8*x.n) cap) (8*x.n) (rowOf bH (bu x.T.cells (8*x.n)))::Fr) (fun y=>x.n-y.1) (0,.slice none 0 0) (Nat.zero_le _) ⟨rfl,rfl,rfl,rfl,trivial⟩ (fun w h=>(by rw[Nat.zero_mul];exact eh ((show Ent _ (pt x.p (.cells #[.pointer (some ⟨pr,0,none⟩),.int .i64 l.key,.int .i64 l.elem,.int .i64 l.ka,.int .i64 l.ea,.int .i64 l.cap,.int .i64 l.eo,.int .i64 l.bo,.int .i64 l.slot,.int .i64 l.group,.int .i64 (x.off:Nat),.int .i64 (x.go:Nat),.int .i64 x.T.used,.int .i64 x.T.left,.int .i64 x.T.depth,.int .i64 x.T.pins,.int .i64 x.T.next,.bool (decide (x.T.kind=4)),.bool x.dead,(.slice (some ⟨g0,0,none⟩) (8*x.n) cap)] 45 (0,0))::aE 142 5 (.slice (some ⟨g0,0,none⟩) (8*x.n) cap) (8*x.n) (rowOf bH (bu x.T.cells (8*x.n)))::Fr) by(exact en)) w h))) ?_
 rintro⟨g,vb⟩ hg
 dsimp only at hg ⊢
 refine ah<|sr<|mv rfl rfl<|mv rfl rfl<|l_q rfl (ad rfl)<|l_q rfl (qfa 19 rfl ep rfl rfl gQ)<|l_q rfl (qld rfl gR) ?_
 refine l_q rfl (ql rfl g9)<|l_q rfl (qi rfl rfl (aU ·))<|lc<|aA rfl (fun h1=>?_) fun h1=>?_
 ·skip
  have hgn:g < x.n:=by omega
  have hgl:g*gN l+gN l≤x.n*gN l:=by have:=Nat.mul_le_mul_right (gN l) (show g+1≤x.n by omega);rw[Nat.add_mul] at this;omega
  have hgb:∀ a,0≤c7 l (cD x.T.cells g) a∧c7 l (cD x.T.cells g) a < 256:=kH (l:=l) (cs:=cD x.T.cells g) (fun i hi=>hok (8*g+i) (by omega))
  have htl:qd 5 0 (((8*g:Nat):Int)).toNat cap=8*g*5:=by rw[Int.toNat_natCast];unfold qd;rw[if_neg (by omega),Nat.zero_add]
  have h8:(((8*g:Nat):Int)+8).toNat-(((8*g:Nat):Int)).toNat=8:=by omega
  refine al<|ak<|ah<|ax<|aS mixed ?_
  apply dq 0 rfl
  ·exact yq (ai rfl)
  apply dq 1 rfl
  ·exact yq (ai rfl)
  apply dq 2 rfl
  ·exact yq (ad rfl)
  apply dq 3 rfl
  ·exact yq (qfa 1 rfl ep rfl rfl aX)
  apply dq 4 rfl
  ·exact yq (aK rfl cu aX)
  apply dq 5 rfl
  ·exact yq (ai rfl)
  apply dq 6 rfl
  ·exact yq (ad rfl)
  apply dq 7 rfl
  ·exact yq (qfa 19 rfl ep rfl rfl gQ)
  apply dq 8 rfl
  ·exact yq (qld rfl gR)
  apply dq 9 rfl
  ·exact yq (ai rfl)
  apply dq 10 rfl
  ·exact yq (ai rfl)
  apply dq 11 rfl
  ·exact yq (ba rfl rfl)
  apply dq 12 rfl
  ·apply yq
   apply te (b:=g0) (o:=0) (len:=8*x.n) (cap:=cap) (l:=((8*g:Nat):Int)) (h:=((8*g:Nat):Int)+8) rfl rfl rfl Tryz.underlying43 bx
   omega
  refine an [4,12,3,8,9,11,2,7,10,1,6,5] [0] 13 [(58,_),(66,_)] gO ⟨rfl,rfl,trivial⟩ (by kernel_rfl) (by kernel_rfl) fun Ex=>?_
  rw[htl,h8]
  refine lc1 rfl rfl rfl (lK (aE 142 5 (.slice (some ⟨g0,0,none⟩) (8*x.n) cap) (8*x.n) (rowOf bH (bu x.T.cells (8*x.n)))) g0 (8*g*5) (cap-(((8*g:Nat):Int)).toNat) l hl (cD x.T.cells g) (fun i hi=>hok (8*g+i) (by omega)) (tL hgn)) ?_
  refine aj ?_
  apply n_d
  ·refine⟨?_,trivial⟩
   apply ya rfl rfl;exact yq (ai rfl)
  refine an [0] [] 14 [(54,_),(67,_)] gO ⟨rfl,rfl,trivial⟩ (by kernel_rfl) (by kernel_rfl) fun Ex=>?_
  apply kz (n:=g*gN l) (v:=vb) (xs:=bt (grF l x.T.cells x.n) (g*gN l)) rfl rfl rfl Tryz.underlying117 Tryz.underlying9 yI5
  ·exact tk
  ·rw[cC];simp only[maxLen];omega
  ·rw[cC];omega
  intro v68
  rw[cC,ec hgb,B7 hN x.T.cells hgn,show g*gN l+gN l=(g+1)*gN l by rw[Nat.add_mul,Nat.one_mul]]
  refine aj ?_
  apply n_d
  ·exact trivial
  refine an [] [] 15 [(68,_)] gO ⟨rfl,trivial⟩ (by kernel_rfl) (by kernel_rfl) fun Ex=>?_
  refine asg rfl rfl<|aj ?_
  apply n_d
  ·exact trivial
  refine bd (by kernel_rfl) ?_
  refine aV<|ak<|aB<|mv rfl rfl<|l_q rfl (ba rfl rfl) ?_
  refine asg rfl rfl<|aj ?_
  apply aO ((g+1,v68))
  ·exact(show g+1≤x.n by omega)
  ·dsimp only;omega
  ·exact⟨rfl,rfl,rfl,congrArg (fun q=>some (Value.int .i64 q)) (show((8*g:Nat):Int)+8=((8*(g+1):Nat):Int) by omega),trivial⟩
  exact en
 have hgx:g=x.n:=by omega
 rw[hgx]
 refine cw .here fun _ hvb=>?_
 obtain⟨ab,cb,rfl,hab,_,_⟩:=hvb
 obtain⟨gb,rfl⟩:=hab (by omega)
 refine xt rfl<|nz<|mv rfl rfl<|l_q rfl (ql rfl ck)<|lc1 rfl rfl rfl (Class_ok ((x.n*gN l:Nat):Int)) ?_
 refine asg rfl rfl<|lz<|mv rfl rfl<|mv rfl rfl<|mv rfl rfl<|l_q rfl (ql rfl ck)<|l_q rfl (e9 rfl rfl) ?_
 apply qv (n:=x.n*gN l) (xs:=bt (grF l x.T.cells x.n) (x.n*gN l)) ((aC ((x.n*gN l:Nat):Int)).toNat-x.n*gN l) rfl rfl rfl ?hq Tryz.underlying117 Tryz.underlying3 yI5
 case hq=>omega
 ·exact tk
 ·simp only[maxLen];omega
 ·omega
 intro v77
 rw[Ac,show x.n*gN l+((aC ((x.n*gN l:Nat):Int)).toNat-x.n*gN l)=(aC ((x.n*gN l:Nat):Int)).toNat by omega]
 refine db (v:=v77) tk fun _ hv77=>?_
 obtain⟨a77,c77,rfl,ha77,_,_⟩:=hv77
 obtain⟨g77,rfl⟩:=ha77 (by omega)
 refine asg rfl rfl<|lc<|ah<|aS mixed ?_
 apply dq 0 rfl
 ·exact yq (ai rfl)
 apply dq 1 rfl
 ·exact yq (ai rfl)
 apply dq 2 rfl
 ·apply yq
  apply eI (dE (grF l x.T.cells x.n) 0 (aC ((x.n*gN l:Nat):Int)).toNat) rfl Tryz.underlying117 Tryz.underlying5 Tryz.underlying9
  ·rw[cC]
  rw[ec (wq hN hok)];exact dQ (by exact tk)
 refine an [0] [2,1] 3 [(78,_)] gO ⟨rfl,trivial⟩ (by kernel_rfl) (by kernel_rfl) fun Ex=>?_
 refine asg rfl rfl<|aj ?_
 apply n_d
 ·refine⟨?_,?_,trivial⟩
  ·apply ya rfl rfl
   apply yq
   apply eI (dE (grF l x.T.cells x.n) 0 (aC ((x.n*gN l:Nat):Int)).toNat) rfl Tryz.underlying117 Tryz.underlying5 Tryz.underlying9
   ·rw[cC]
   rw[ec (wq hN hok)];exact dQ (by exact tk)
  apply ya rfl rfl;exact yq (ai rfl)
 refine an [2,1] [] 4 [(80,_)] gO ⟨rfl,trivial⟩ (by kernel_rfl) (by kernel_rfl) fun Ex=>?_
 refine asg rfl rfl<|aj ?_
 apply n_d
 ·exact trivial
 refine bd (by kernel_rfl) ?_
 refine ak<|rt ?_
 apply aJ (.inl rfl) ([rtH pr l x])
 ·apply bS rfl
  ·exact .tmp rfl
  exact .tmp rfl
 ·exact⟨rfl,rfl⟩
 refine cS (.slice (some ⟨g0,0,none⟩) (8*x.n) cap) ?_;(exact en)
end
end BytesP
end
section
set_option maxRecDepth 100000
namespace Exact11
open Go.RowKit Go.Proofs Eng Ty Bits Mem Search Arena CtrlB Ctrl Layout GroupB Group TableB TableI Table Cells Refill Small RefA RefT
open BytesP
open Exact (PR cx mq m3 mo ou)
theorem yY (pr:Nat) (s:ArS) (hs:s.ok) (l:Lay) (hl:l.err=0) (t:PR) (hO:Exact.One s l t) (hd:t.dead=false):
  ∃ C:Nat,C≤1048576∧aG Tryz.prog 37 #[.pointer (some ⟨t.p,0,none⟩)] [rtH pr l t] (fun v L=>v=.tuple #[.string (dE s.m t.off 64),.string (dE s.m t.go C)]∧L= [rtH pr l t])∧aN s ((t.off:Nat):Int) 64∧aN s ((t.go:Nat):Int) ((C:Nat):Int):=by
 obtain⟨hP,hb1,hb2,hsm⟩:=hO.live hd
 have hn8:=hP.n0
 have hN:=eL hl
 have hg8:=hN.g_eq
 have hnl:1≤t.n*gN l:=by have:=Nat.mul_le_mul_right (gN l) hn8.1;omega
 have hcl:=(cF (n:=((t.n*gN l:Nat):Int)) (by omega)).2.2 hsm
 have hcu:=(cF (n:=((t.n*gN l:Nat):Int)) (by omega)).2.1
 obtain⟨C,hC⟩:∃ C:Nat,aC ((t.n*gN l:Nat):Int)=(C:Int):=⟨(aC ((t.n*gN l:Nat):Int)).toNat,by omega⟩
 have hB:=Bf pr l hl t hn8.1 hn8.2 hO.rng.kind hP.hT.okc hsm
 have hz:=hO.tail hd
 rw[hC] at hB hz hb2 hcl hcu
 rw[Int.toNat_natCast] at hB
 have e1:=u3 hs.bytes hP
 have e2:dE s.m t.go C=dE (grF l t.T.cells t.n) 0 C:=by
  obtain⟨k,hk⟩:∃ k,C=t.n*gN l+k:=⟨C-t.n*gN l,by omega⟩
  rw[hk] at hz ⊢
  exact xJ hP hz
 rw[← e1,← e2] at hB
 exact⟨C,by omega,hB,hP.gh,Exact.bl_good hb2 (by omega) (Int.le_refl _)⟩
section
variable (pb pa po pr bq:Nat) (l:Lay) (hl:l.err=0)
include hl
theorem lQ (s:ArS) (hs:s.ok) (ts:List PR) (vP vT:Value) (hlen:ts.length≤9000000000000) (hT:∀ t∈ts,Exact.One s l t∧t.dead=false):aG Tryz.prog 16 #[.pointer (some ⟨pb,0,none⟩)] [pt pb (.cells #[.pointer (some ⟨pa,0,none⟩),.pointer (some ⟨po,0,none⟩),.pointer (some ⟨pr,0,none⟩),.pointer (some ⟨bq,0,none⟩),.int .i64 l.key,.int .i64 l.elem,.int .i64 l.ka,.int .i64 l.ea,.int .i64 l.cap,.int .i64 l.eo,.int .i64 l.bo,.int .i64 l.slot,.int .i64 l.group,vP,vT] 68 (0,0)),aE 40 1 vT ts.length (dv ts),cx pr l ts,ae pa s] (fun v L=>v=.bool true∧L= [pt pb (.cells #[.pointer (some ⟨pa,0,none⟩),.pointer (some ⟨po,0,none⟩),.pointer (some ⟨pr,0,none⟩),.pointer (some ⟨bq,0,none⟩),.int .i64 l.key,.int .i64 l.elem,.int .i64 l.ka,.int .i64 l.ea,.int .i64 l.cap,.int .i64 l.eo,.int .i64 l.bo,.int .i64 l.slot,.int .i64 l.group,vP,vT] 68 (0,0)),aE 40 1 vT ts.length (dv ts),cx pr l ts,ae pa s]):=by
 refine aq HY Tryz.func16 rfl rfl rfl fun Fr w0=>aR ?_
 refine cw (.there .here) fun _ hvt=>?_
 obtain⟨a0,cap,rfl,ha,_,_⟩:=hvt
 refine sr<|asg rfl rfl<|lc<|ah<|sr<|mv rfl rfl<|l_q rfl (ad rfl)<|l_q rfl (qfa 14 rfl di rfl rfl uw)<|l_q rfl (qld rfl Dk) ?_
 refine l_q rfl (ql rfl Bj)<|mv rfl rfl<|lc<|ax ?_
 refine bw (fun i:Nat=>i≤ts.length) (fun i=>[(0,.pointer (some ⟨pb,0,none⟩)),(14,(.slice a0 ts.length cap)),(15,.int .i64 (ts.length:Nat)),(16,.int .i64 (i:Nat))]) (fun i=>pt pb (.cells #[.pointer (some ⟨pa,0,none⟩),.pointer (some ⟨po,0,none⟩),.pointer (some ⟨pr,0,none⟩),.pointer (some ⟨bq,0,none⟩),.int .i64 l.key,.int .i64 l.elem,.int .i64 l.ka,.int .i64 l.ea,.int .i64 l.cap,.int .i64 l.eo,.int .i64 l.bo,.int .i64 l.slot,.int .i64 l.group,vP,(.slice a0 ts.length cap)] 68 (0,0))::aE 40 1 (.slice a0 ts.length cap) ts.length (dv ts)::cx pr l ts::ae pa s::Fr) (fun i=>ts.length-i) 0 (Nat.zero_le _) ⟨rfl,rfl,rfl,rfl,trivial⟩ (by(exact en)) ?_
 intro i hi
 refine sr<|l_q rfl (qi rfl rfl (aU ·))<|lc<|ah<|aA rfl (fun h1=>?_) fun h1=>?_
 ·skip
  have hil:i < ts.length:=by omega
  obtain⟨g0,rfl⟩:=ha (by omega)
  obtain⟨x,hx⟩:∃ x,ts[i]?=some x:=⟨ts[i],List.getElem?_eq_getElem hil⟩
  obtain⟨hO,hd⟩:=hT x (List.mem_of_getElem? hx)
  obtain⟨C,hC,hB,hg1,hg2⟩:=yY pr s hs l hl x hO hd
  have hcell:(dv ts)[0+((i:Nat):Int).toNat]?=some (.pointer (some ⟨x.p,0,none⟩)):=by
   rw[show 0+((i:Nat):Int).toNat=i by omega]
   unfold dv
   rw[List.getElem?_map,hx];rfl
  refine fw (L':=rtH pr l x::cx pr l (ts.eraseIdx i)::pt pb (.cells #[.pointer (some ⟨pa,0,none⟩),.pointer (some ⟨po,0,none⟩),.pointer (some ⟨pr,0,none⟩),.pointer (some ⟨bq,0,none⟩),.int .i64 l.key,.int .i64 l.elem,.int .i64 l.ka,.int .i64 l.ea,.int .i64 l.cap,.int .i64 l.eo,.int .i64 l.bo,.int .i64 l.slot,.int .i64 l.group,vP,(.slice (some ⟨g0,0,none⟩) ts.length cap)] 68 (0,0))::aE 40 1 (.slice (some ⟨g0,0,none⟩) ts.length cap) ts.length (dv ts)::ae pa s::Fr) (fun w h=>mq hx w ((show Ent _ (cx pr l ts::_) by(exact en)) w h)) ?_
  refine al<|ak<|ah<|ax<|sr<|l_q rfl (ay rfl rfl Bj Di (by omega)) ?_
  apply l_q rfl
  ·apply bf rfl Hg
   ·exact tk
   exact hcell
  refine asg rfl rfl<|lz<|mv rfl rfl<|lc1 rfl rfl rfl (hB) ?_
  refine zj (x:=x) tk fun vc=>?_
  refine mv rfl rfl<|l_q rfl (aa rfl ga) ?_
  refine l_q rfl (aa rfl ga) ?_
  refine asg rfl rfl<|asg rfl rfl<|lc<|ah<|aS mixed ?_
  apply dq 0 rfl
  ·exact yq (ai rfl)
  apply dq 1 rfl
  ·exact yq (ad rfl)
  apply dq 2 rfl
  ·exact yq (qfa 0 rfl di rfl rfl dt)
  apply dq 3 rfl
  ·exact yq (qld rfl du)
  apply dq 4 rfl
  ·exact yq (ai rfl)
  apply dq 5 rfl
  ·exact yq (ad rfl)
  apply dq 6 rfl
  ·exact yq (qfa 10 rfl ep rfl rfl yS3)
  apply dq 7 rfl
  ·exact yq (qld rfl yA3)
  refine an [3,7,2,6,1,5,0,4] [] 8 [(29,_),(33,_)] gO ⟨rfl,rfl,trivial⟩ (by kernel_rfl) (by kernel_rfl) fun Ex=>?_
  refine lc1 rfl rfl rfl (Read_ok pa s x.off 64 hg1) ?_
  refine aj ?_
  apply n_d
  ·exact trivial
  apply dq 9 rfl
  ·exact yq (ai rfl)
  apply dq 10 rfl
  ·exact yq (aa rfl ga)
  apply dq 11 rfl
  ·exact yq (aa rfl ga)
  refine an [10,9] [11] 12 [(35,_)] gO ⟨rfl,trivial⟩ (by kernel_rfl) (by kernel_rfl) fun Ex=>?_
  refine asg rfl rfl<|aj ?_
  apply n_d
  ·refine⟨?_,trivial⟩
   apply ya rfl rfl;exact yq (aa rfl ga)
  refine an [11] [] 13 [(36,_)] gO ⟨rfl,trivial⟩ (by kernel_rfl) (by kernel_rfl) fun Ex=>?_
  refine asg rfl rfl<|aj ?_
  apply n_d
  ·exact trivial
  refine bd (by kernel_rfl) ?_
  refine ak<|ah<|aS mixed ?_
  apply dq 0 rfl
  ·exact yq (ai rfl)
  apply dq 1 rfl
  ·exact yq (ad rfl)
  apply dq 2 rfl
  ·exact yq (qfa 0 rfl di rfl rfl dt)
  apply dq 3 rfl
  ·exact yq (qld rfl du)
  apply dq 4 rfl
  ·exact yq (ai rfl)
  apply dq 5 rfl
  ·exact yq (ad rfl)
  apply dq 6 rfl
  ·exact yq (qfa 11 rfl ep rfl rfl yS3)
  apply dq 7 rfl
  ·exact yq (qld rfl yA3)
  apply dq 8 rfl
  ·exact yq (ai rfl)
  apply dq 9 rfl
  ·exact yq (qls rfl yU9)
  refine an [3,7,9,2,6,8,1,5,0,4] [] 10 [(41,_),(45,_),(47,_)] gO ⟨rfl,rfl,rfl,trivial⟩ (by kernel_rfl) (by kernel_rfl) fun Ex=>?_
  rw[cC]
  refine lc1 rfl rfl rfl (Read_ok pa s x.go C hg2) ?_
  refine aj ?_
  apply n_d
  ·exact trivial
  apply dq 11 rfl
  ·exact yq (ai rfl)
  apply dq 12 rfl
  ·exact yq (aa rfl ga)
  apply dq 13 rfl
  ·exact yq (aa rfl ga)
  refine an [12,11] [13] 14 [(49,_)] gO ⟨rfl,trivial⟩ (by kernel_rfl) (by kernel_rfl) fun Ex=>?_
  refine asg rfl rfl<|aj ?_
  apply n_d
  ·refine⟨?_,trivial⟩
   apply ya rfl rfl;exact yq (aa rfl ga)
  refine an [13] [] 15 [(50,_)] gO ⟨rfl,trivial⟩ (by kernel_rfl) (by kernel_rfl) fun Ex=>?_
  refine asg rfl rfl<|aj ?_
  apply n_d
  ·exact trivial
  refine bd (by kernel_rfl) ?_
  refine nz<|mv rfl rfl<|lc1 rfl rfl rfl (bW _) ?_
  refine l_q rfl (qi rfl rfl (aI ·))<|mv rfl rfl<|bD (t:=54) rfl (fun z1=>?_) fun z1=>?_
  ·exact absurd rfl z1
  refine au rfl rfl<|mv rfl rfl<|au rfl rfl<|lc1 rfl rfl rfl (bW _) ?_
  refine au rfl rfl<|l_q rfl (qi rfl rfl (aI ·))<|l_q rfl (aL rfl rfl)<|mv rfl rfl<|bD (t:=59) rfl (fun z2=>?_) fun z2=>?_
  ·exact absurd rfl z2
  refine au rfl rfl<|mv rfl rfl<|au rfl rfl<|mv rfl rfl<|au rfl rfl<|l_q rfl (qs rfl rfl (vn ·))<|l_q rfl (aL rfl rfl)<|mv rfl rfl<|bD (t:=64) rfl (fun z3=>?_) fun z3=>?_
  ·exact absurd rfl z3
  refine au rfl rfl<|mv rfl rfl<|au rfl rfl<|mv rfl rfl<|au rfl rfl<|l_q rfl (qs rfl rfl (vn ·))<|l_q rfl (aL rfl rfl)<|lc<|aA rfl (fun z4=>?_) fun z4=>?_
  ·exact absurd rfl z4
  refine al<|aV<|ak<|aB<|l_q rfl (ba rfl rfl) ?_
  refine mv rfl rfl<|aj ?_
  refine lF (L':=pt pb (.cells #[.pointer (some ⟨pa,0,none⟩),.pointer (some ⟨po,0,none⟩),.pointer (some ⟨pr,0,none⟩),.pointer (some ⟨bq,0,none⟩),.int .i64 l.key,.int .i64 l.elem,.int .i64 l.ka,.int .i64 l.ea,.int .i64 l.cap,.int .i64 l.eo,.int .i64 l.bo,.int .i64 l.slot,.int .i64 l.group,vP,(.slice (some ⟨g0,0,none⟩) ts.length cap)] 68 (0,0))::aE 40 1 (.slice (some ⟨g0,0,none⟩) ts.length cap) ts.length (dv ts)::cx pr l ts::ae pa s::Fr) (fun w h=>?_) ?_
  ·have h2:=m3 hil w (cS vc (show Ent _ (pt x.p (.cells #[.pointer (some ⟨pr,0,none⟩),.int .i64 l.key,.int .i64 l.elem,.int .i64 l.ka,.int .i64 l.ea,.int .i64 l.cap,.int .i64 l.eo,.int .i64 l.bo,.int .i64 l.slot,.int .i64 l.group,.int .i64 (x.off:Nat),.int .i64 (x.go:Nat),.int .i64 x.T.used,.int .i64 x.T.left,.int .i64 x.T.depth,.int .i64 x.T.pins,.int .i64 x.T.next,.bool (decide (x.T.kind=4)),.bool x.dead,vc] 45 (0,0))::aE 142 5 vc (8*x.n) (rowOf bH (bu x.T.cells (8*x.n)))::cx pr l (ts.eraseIdx i)::pt pb (.cells #[.pointer (some ⟨pa,0,none⟩),.pointer (some ⟨po,0,none⟩),.pointer (some ⟨pr,0,none⟩),.pointer (some ⟨bq,0,none⟩),.int .i64 l.key,.int .i64 l.elem,.int .i64 l.ka,.int .i64 l.ea,.int .i64 l.cap,.int .i64 l.eo,.int .i64 l.bo,.int .i64 l.slot,.int .i64 l.group,vP,(.slice (some ⟨g0,0,none⟩) ts.length cap)] 68 (0,0))::aE 40 1 (.slice (some ⟨g0,0,none⟩) ts.length cap) ts.length (dv ts)::ae pa s::Fr) by(exact en)) w h)
   rw[ou hx] at h2
   exact(show Ent (cx pr l ts::pt pb (.cells #[.pointer (some ⟨pa,0,none⟩),.pointer (some ⟨po,0,none⟩),.pointer (some ⟨pr,0,none⟩),.pointer (some ⟨bq,0,none⟩),.int .i64 l.key,.int .i64 l.elem,.int .i64 l.ka,.int .i64 l.ea,.int .i64 l.cap,.int .i64 l.eo,.int .i64 l.bo,.int .i64 l.slot,.int .i64 l.group,vP,(.slice (some ⟨g0,0,none⟩) ts.length cap)] 68 (0,0))::aE 40 1 (.slice (some ⟨g0,0,none⟩) ts.length cap) ts.length (dv ts)::ae pa s::Fr) _ by(exact en)) w h2
  apply aO ((i+1))
  ·exact by omega
  ·omega
  ·exact⟨rfl,rfl,rfl,rfl,trivial⟩
  exact en
 exact xt rfl<|nz<|asg rfl rfl<|lc<|rt<|fr1 rfl ([pt pb (.cells #[.pointer (some ⟨pa,0,none⟩),.pointer (some ⟨po,0,none⟩),.pointer (some ⟨pr,0,none⟩),.pointer (some ⟨bq,0,none⟩),.int .i64 l.key,.int .i64 l.elem,.int .i64 l.ka,.int .i64 l.ea,.int .i64 l.cap,.int .i64 l.eo,.int .i64 l.bo,.int .i64 l.slot,.int .i64 l.group,vP,(.slice a0 ts.length cap)] 68 (0,0)),aE 40 1 (.slice a0 ts.length cap) ts.length (dv ts),cx pr l ts,ae pa s]) (.tmp rfl) ⟨rfl,rfl⟩
end
end Exact11
end
end Go.Proofs.YthkajgkagnenbaaGreatDoor
