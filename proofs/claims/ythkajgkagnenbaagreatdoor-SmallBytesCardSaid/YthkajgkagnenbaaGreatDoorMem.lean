import Derived.Test.YthkajgkagnenbaaGreatDoorCtrlB
set_option linter.unusedVariables false
set_option linter.unusedSimpArgs false
set_option linter.unusedSectionVars false
set_option maxRecDepth 100000
namespace Go.Proofs.YthkajgkagnenbaaGreatDoor
namespace Mem
open Go.RowKit Go.Proofs Eng Ty Bits
def bt (m:Nat→Int) (n:Nat):List Value:=(List.range n).map fun i=>.int .u8 (m i)
theorem bL (m:Nat→Int) (n:Nat):(bt m n).length=n:=by simp[bt]
theorem cN {m:Nat→Int} {n i:Nat} (h:i < n):(bt m n)[i]?=some (.int .u8 (m i)):=by simp[bt,h]
theorem mC (m:Nat→Int) (n:Nat):∀ v∈bt m n,v.oneCell'=true:=fun v hv=>by simp only[bt,List.mem_map] at hv;obtain⟨_,_,rfl⟩:=hv;rfl
def cm (m:Nat→Int) (o k:Nat) (f:Nat→Int):Nat→Int:=fun i=>if o≤i∧i < o+k then f (i-o) else m i
theorem zQ {m f:Nat→Int} {n o k:Nat} (h:o+k≤n):lay (bt m n) o (bt f k)=bt (cm m o k f) n:=by
 apply List.ext_getElem?
 intro i
 rw[jK (by simp only[bL];exact h),bL]
 by_cases hi:i < n
 ·rw[cN (m:=cm m o k f) hi]
  by_cases hk:o≤i∧i < o+k
  ·rw[if_pos hk,cN (by omega)];simp[cm,hk]
  rw[if_neg hk,cN hi];simp only[cm];rw[if_neg hk]
 rw[if_neg (by omega),List.getElem?_eq_none (by rw[bL];omega),List.getElem?_eq_none (by rw[bL];omega)]
theorem sT {m:Nat→Int} {n o:Nat} {b:Int} (h:o < n):(bt m n).set o (.int .u8 b)=bt (fun i=>if i=o then b else m i) n:=by
 apply List.ext_getElem?
 intro i
 rw[List.getElem?_set,bL]
 by_cases hi:i < n
 ·rw[cN hi,cN hi]
  by_cases q:o=i
  ·subst q;simp[h]
  rw[if_neg q,if_neg (Ne.symm q)]
 rw[List.getElem?_eq_none (by rw[bL];omega),List.getElem?_eq_none (by rw[bL];omega)]
 split
 ·simp;omega
 rfl
theorem D8 (pm g n cap:Nat) (m:Nat→Int):aG Tryz.prog 38 #[.pointer (some ⟨pm,0,none⟩)] [pt pm (.cells #[.slice (some ⟨g,0,none⟩) n cap] 189 (0,0)),aE 5 1 (.slice (some ⟨g,0,none⟩) n cap) n (bt m n)] (fun v L=>v=.int .i64 (n:Nat)∧L= [pt pm (.cells #[.slice (some ⟨g,0,none⟩) n cap] 189 (0,0)),aE 5 1 (.slice (some ⟨g,0,none⟩) n cap) n (bt m n)]):=by
 refine aq HR Tryz.func38 rfl rfl rfl fun Fr w0=>aR ?_
 refine sr<|asg rfl rfl<|lz<|mv rfl rfl<|l_q rfl (ad rfl)<|l_q rfl (qfa 0 rfl ff rfl rfl dG)<|l_q rfl (qld rfl eE) ?_
 exact l_q rfl (ql rfl ck)<|asg rfl rfl<|lc<|rt<|fr1 rfl ([pt pm (.cells #[.slice (some ⟨g,0,none⟩) n cap] 189 (0,0)),aE 5 1 (.slice (some ⟨g,0,none⟩) n cap) n (bt m n)]) (.tmp rfl) ⟨rfl,rfl⟩
theorem eS (pm g n cap:Nat) (m:Nat→Int) (off k:Int) (hn:n≤134217728):
  aG Tryz.prog 129 #[.pointer (some ⟨pm,0,none⟩),.int .i64 off,.int .i64 k] [pt pm (.cells #[.slice (some ⟨g,0,none⟩) n cap] 189 (0,0)),aE 5 1 (.slice (some ⟨g,0,none⟩) n cap) n (bt m n)] (fun v L=>v=.bool (decide (0≤off∧0≤k∧off+k≤(n:Int)))∧L= [pt pm (.cells #[.slice (some ⟨g,0,none⟩) n cap] 189 (0,0)),aE 5 1 (.slice (some ⟨g,0,none⟩) n cap) n (bt m n)]):=by
 refine aq GD Tryz.func129 rfl rfl rfl fun Fr w0=>aR ?_
 refine sr<|asg rfl rfl<|lz<|mv rfl rfl<|l_q rfl (qi rfl rfl (gM ·))<|mv rfl rfl<|bD (t:=9) rfl (fun h=>?_) fun h=>?_
 ·refine au rfl rfl<|mv rfl rfl<|au rfl rfl<|l_q rfl (qi rfl rfl (gM ·))<|l_q rfl (aL rfl rfl)<|mv rfl rfl<|bD (t:=13) rfl (fun h2=>?_) fun h2=>?_
  ·refine au rfl rfl<|mv rfl rfl<|au rfl rfl<|mv rfl rfl<|au rfl rfl<|l_q rfl (ad rfl)<|au rfl rfl<|l_q rfl (qfa 0 rfl ff rfl rfl dG)<|au rfl rfl<|l_q rfl (qld rfl eE) ?_
   refine au rfl rfl<|l_q rfl (ql rfl ck)<|au rfl rfl<|l_q rfl (qi rfl rfl (iw ·))<|l_q rfl (aL rfl rfl)<|mv rfl rfl<|bD (t:=22) rfl (fun h3=>?_) fun h3=>?_
   ·refine au rfl rfl<|mv rfl rfl<|au rfl rfl<|mv rfl rfl<|au rfl rfl<|l_q rfl (ad rfl)<|au rfl rfl<|l_q rfl (qfa 0 rfl ff rfl rfl dG)<|au rfl rfl<|l_q rfl (qld rfl eE) ?_
    refine au rfl rfl<|l_q rfl (ql rfl ck)<|au rfl rfl<|mv rfl rfl<|au rfl rfl<|l_q rfl (e9 rfl rfl) ?_
    refine au rfl rfl<|l_q rfl (qi rfl rfl (iw ·))<|l_q rfl (aL rfl rfl)<|asg rfl rfl<|lc<|rt<|fr1 rfl ([pt pm (.cells #[.slice (some ⟨g,0,none⟩) n cap] 189 (0,0)),aE 5 1 (.slice (some ⟨g,0,none⟩) n cap) n (bt m n)]) (.tmp rfl) ?_
    exact⟨by congr 1;rw[decide_eq_decide];omega,rfl⟩
   refine ar rfl rfl rfl rfl<|ar rfl rfl rfl rfl<|ar rfl rfl rfl rfl<|ar rfl rfl rfl rfl<|ar rfl rfl rfl rfl<|ar rfl rfl rfl rfl<|ar rfl rfl rfl rfl<|ar rfl rfl rfl rfl<|ar rfl rfl rfl rfl<|l_q rfl (aL rfl rfl)<|asg rfl rfl<|lc<|rt<|fr1 rfl ([pt pm (.cells #[.slice (some ⟨g,0,none⟩) n cap] 189 (0,0)),aE 5 1 (.slice (some ⟨g,0,none⟩) n cap) n (bt m n)]) (.tmp rfl) ?_
   exact⟨by rw[decide_eq_false (by omega)],rfl⟩
  refine ar rfl rfl rfl rfl<|ar rfl rfl rfl rfl<|ar rfl rfl rfl rfl<|ar rfl rfl rfl rfl<|ar rfl rfl rfl rfl<|ar rfl rfl rfl rfl<|ar rfl rfl rfl rfl<|l_q rfl (aL rfl rfl)<|mv rfl rfl<|ar rfl rfl rfl rfl<|ar rfl rfl rfl rfl<|ar rfl rfl rfl rfl<|ar rfl rfl rfl rfl<|ar rfl rfl rfl rfl<|ar rfl rfl rfl rfl<|ar rfl rfl rfl rfl<|ar rfl rfl rfl rfl<|ar rfl rfl rfl rfl<|l_q rfl (aL rfl rfl)<|asg rfl rfl<|lc<|rt<|fr1 rfl ([pt pm (.cells #[.slice (some ⟨g,0,none⟩) n cap] 189 (0,0)),aE 5 1 (.slice (some ⟨g,0,none⟩) n cap) n (bt m n)]) (.tmp rfl) ?_
  exact⟨by rw[decide_eq_false (by omega)],rfl⟩
 refine ar rfl rfl rfl rfl<|ar rfl rfl rfl rfl<|l_q rfl (aL rfl rfl)<|mv rfl rfl<|ar rfl rfl rfl rfl<|ar rfl rfl rfl rfl<|ar rfl rfl rfl rfl<|ar rfl rfl rfl rfl<|ar rfl rfl rfl rfl<|ar rfl rfl rfl rfl<|ar rfl rfl rfl rfl<|l_q rfl (aL rfl rfl)<|mv rfl rfl<|ar rfl rfl rfl rfl<|ar rfl rfl rfl rfl<|ar rfl rfl rfl rfl<|ar rfl rfl rfl rfl<|ar rfl rfl rfl rfl<|ar rfl rfl rfl rfl<|ar rfl rfl rfl rfl<|ar rfl rfl rfl rfl<|ar rfl rfl rfl rfl<|l_q rfl (aL rfl rfl)<|asg rfl rfl<|lc<|rt<|fr1 rfl ([pt pm (.cells #[.slice (some ⟨g,0,none⟩) n cap] 189 (0,0)),aE 5 1 (.slice (some ⟨g,0,none⟩) n cap) n (bt m n)]) (.tmp rfl) ?_
 exact⟨by rw[decide_eq_false (by omega)],rfl⟩
def wid (k:Nat):Prop:=k=1∨k=2∨k=4∨k=8
theorem number_ok (pm g n cap off k:Nat) (m:Nat→Int) (hn:n≤134217728) (hc:n≤cap) (hk:wid k) (ho:off+k≤n):
  aG Tryz.prog 217 #[.pointer (some ⟨pm,0,none⟩),.int .i64 off,.int .i64 k] [pt pm (.cells #[.slice (some ⟨g,0,none⟩) n cap] 189 (0,0)),aE 5 1 (.slice (some ⟨g,0,none⟩) n cap) n (bt m n)] (fun v L=>v=.tuple #[.slice (some ⟨g,off,none⟩) k (cap-off),.int .i64 0]∧L= [pt pm (.cells #[.slice (some ⟨g,0,none⟩) n cap] 189 (0,0)),aE 5 1 (.slice (some ⟨g,0,none⟩) n cap) n (bt m n)]):=by
 have hk8:1≤k∧k≤8:=by unfold wid at hk;omega
 have ht:off < cap:=by omega
 refine aq Fu Tryz.func217 rfl rfl rfl fun Fr w0=>aR ?_
 refine sr<|asg rfl rfl<|asg rfl rfl<|lc<|ah<|sr<|mv rfl rfl<|lc<|ax<|ah<|sr<|l_q rfl (qi rfl rfl (aZ ·))<|asg rfl rfl<|lc<|ml (t:=9) rfl (fun h1=>?_) fun h1=>?_
 ·refine aY rfl<|al<|ak<|aY rfl<|al<|aV<|ak<|ah<|sr<|mv rfl rfl<|mv rfl rfl<|mv rfl rfl<|lc1 rfl rfl rfl (eS pm g n cap m _ _ hn) ?_
  refine l_q rfl (cX rfl (bY ·))<|lc<|aA rfl (fun z=>?_) fun z=>?_
  ·simp at z;omega
  refine al<|nz<|mv rfl rfl<|l_q rfl (ad rfl)<|l_q rfl (qfa 0 rfl ff rfl rfl dG)<|l_q rfl (qld rfl eE) ?_
  refine mv rfl rfl<|mv rfl rfl<|mv rfl rfl<|l_q rfl (ba rfl rfl) ?_
  refine l_q rfl (ig rfl rfl rfl ck yS5 (by omega)) ?_
  refine asg rfl rfl<|asg rfl rfl<|lc<|rt<|fr2 rfl ([pt pm (.cells #[.slice (some ⟨g,0,none⟩) n cap] 189 (0,0)),aE 5 1 (.slice (some ⟨g,0,none⟩) n cap) n (bt m n)]) (.tmp rfl) (.tmp rfl) ?_
  exact⟨by rw[Int.toNat_natCast,ey ht,Nat.zero_add,show((off:Int)+(k:Int)).toNat-off=k by omega],rfl⟩
 refine bR rfl<|sr<|l_q rfl (qi rfl rfl (aZ ·))<|asg rfl rfl<|lc<|ml (t:=9) rfl (fun h2=>?_) fun h2=>?_
 ·refine aY rfl<|al<|ak<|aY rfl<|al<|aV<|ak<|ah<|sr<|mv rfl rfl<|mv rfl rfl<|mv rfl rfl<|lc1 rfl rfl rfl (eS pm g n cap m _ _ hn) ?_
  refine l_q rfl (cX rfl (bY ·))<|lc<|aA rfl (fun z=>?_) fun z=>?_
  ·simp at z;omega
  refine al<|nz<|mv rfl rfl<|l_q rfl (ad rfl)<|l_q rfl (qfa 0 rfl ff rfl rfl dG)<|l_q rfl (qld rfl eE) ?_
  refine mv rfl rfl<|mv rfl rfl<|mv rfl rfl<|l_q rfl (ba rfl rfl) ?_
  refine l_q rfl (ig rfl rfl rfl ck yS5 (by omega)) ?_
  refine asg rfl rfl<|asg rfl rfl<|lc<|rt<|fr2 rfl ([pt pm (.cells #[.slice (some ⟨g,0,none⟩) n cap] 189 (0,0)),aE 5 1 (.slice (some ⟨g,0,none⟩) n cap) n (bt m n)]) (.tmp rfl) (.tmp rfl) ?_
  exact⟨by rw[Int.toNat_natCast,ey ht,Nat.zero_add,show((off:Int)+(k:Int)).toNat-off=k by omega],rfl⟩
 refine bR rfl<|sr<|l_q rfl (qi rfl rfl (aZ ·))<|asg rfl rfl<|lc<|ml (t:=9) rfl (fun h4=>?_) fun h4=>?_
 ·refine aY rfl<|al<|ak<|aY rfl<|al<|aV<|ak<|ah<|sr<|mv rfl rfl<|mv rfl rfl<|mv rfl rfl<|lc1 rfl rfl rfl (eS pm g n cap m _ _ hn) ?_
  refine l_q rfl (cX rfl (bY ·))<|lc<|aA rfl (fun z=>?_) fun z=>?_
  ·simp at z;omega
  refine al<|nz<|mv rfl rfl<|l_q rfl (ad rfl)<|l_q rfl (qfa 0 rfl ff rfl rfl dG)<|l_q rfl (qld rfl eE) ?_
  refine mv rfl rfl<|mv rfl rfl<|mv rfl rfl<|l_q rfl (ba rfl rfl) ?_
  refine l_q rfl (ig rfl rfl rfl ck yS5 (by omega)) ?_
  refine asg rfl rfl<|asg rfl rfl<|lc<|rt<|fr2 rfl ([pt pm (.cells #[.slice (some ⟨g,0,none⟩) n cap] 189 (0,0)),aE 5 1 (.slice (some ⟨g,0,none⟩) n cap) n (bt m n)]) (.tmp rfl) (.tmp rfl) ?_
  exact⟨by rw[Int.toNat_natCast,ey ht,Nat.zero_add,show((off:Int)+(k:Int)).toNat-off=k by omega],rfl⟩
 refine bR rfl<|aB<|l_q rfl (qi rfl rfl (aZ ·))<|asg rfl rfl<|lc<|ml (t:=9) rfl (fun h8=>?_) fun h8=>?_
 ·refine aY rfl<|al<|aV<|ak<|ah<|sr<|mv rfl rfl<|mv rfl rfl<|mv rfl rfl<|lc1 rfl rfl rfl (eS pm g n cap m _ _ hn) ?_
  refine l_q rfl (cX rfl (bY ·))<|lc<|aA rfl (fun z=>?_) fun z=>?_
  ·simp at z;omega
  refine al<|nz<|mv rfl rfl<|l_q rfl (ad rfl)<|l_q rfl (qfa 0 rfl ff rfl rfl dG)<|l_q rfl (qld rfl eE) ?_
  refine mv rfl rfl<|mv rfl rfl<|mv rfl rfl<|l_q rfl (ba rfl rfl) ?_
  refine l_q rfl (ig rfl rfl rfl ck yS5 (by omega)) ?_
  refine asg rfl rfl<|asg rfl rfl<|lc<|rt<|fr2 rfl ([pt pm (.cells #[.slice (some ⟨g,0,none⟩) n cap] 189 (0,0)),aE 5 1 (.slice (some ⟨g,0,none⟩) n cap) n (bt m n)]) (.tmp rfl) (.tmp rfl) ?_
  exact⟨by rw[Int.toNat_natCast,ey ht,Nat.zero_add,show((off:Int)+(k:Int)).toNat-off=k by omega],rfl⟩
 unfold wid at hk;omega
def cZ (m:Nat→Int) (o:Nat):Nat→Int
 | 0=>0
 | k+1=>cZ m o k+m (o+k)*2 ^ (8*k)
theorem oN {m:Nat→Int} (hm:∀ i,0≤m i∧m i < 256) (o:Nat):∀ k,0≤cZ m o k∧cZ m o k < 2 ^ (8*k)
 | 0=>by simp[cZ]
 | k+1=>by
  have ih:=oN hm o k
  have hb:=hm (o+k)
  have hp:(0:Int) < 2 ^ (8*k):=Int.pow_pos (by decide)
  have e:(2:Int) ^ (8*(k+1))=256*2 ^ (8*k):=by rw[show 8*(k+1)=8*k+8 by omega,Int.pow_add,Int.mul_comm];rfl
  have h1:0≤m (o+k)*2 ^ (8*k):=Int.mul_nonneg hb.1 (by omega)
  have h2:m (o+k)*2 ^ (8*k)≤255*2 ^ (8*k):=Int.mul_le_mul_of_nonneg_right (by omega) (by omega)
  simp only[cZ]
  rw[e]
  omega
theorem xA {m:Nat→Int} (hm:∀ i,0≤m i∧m i < 256) (o j:Nat) (hj:j < 8):
  bits .or .u64 (cZ m o j) (IntKind.u64.wrap (m (o+j)*2 ^ min (8*(j:Int)).toNat IntKind.u64.bits))=cZ m o (j+1):=by
 have hl:=oN hm o j
 have hb:=hm (o+j)
 have hmin:min (8*(j:Int)).toNat IntKind.u64.bits=8*j:=by
  show min _ 64=_
  omega
 have hp:(2:Int) ^ (8*j)≤2 ^ 56:=by
  have h1:(2:Nat) ^ (8*j)≤2 ^ 56:=Nat.pow_le_pow_right (by decide) (by omega)
  have:=bX (8*j)
  have h2:((2:Nat) ^ (8*j):Int)≤((2 ^ 56:Nat):Int):=by exact_mod_cast h1
  simpa using h2
 have hp0:(0:Int) < 2 ^ (8*j):=Int.pow_pos (by decide)
 have h1:0≤m (o+j)*2 ^ (8*j):=Int.mul_nonneg hb.1 (by omega)
 have h2:m (o+j)*2 ^ (8*j)≤255*2 ^ (8*j):=Int.mul_le_mul_of_nonneg_right (by omega) (by omega)
 rw[hmin,wrap_u64 (by omega),u64_or _ _ hl.1 (by omega) h1 (by omega)]
 obtain⟨c,hc⟩:=Int.eq_ofNat_of_zero_le hb.1
 obtain⟨d,hd⟩:=Int.eq_ofNat_of_zero_le hl.1
 have hpc:=bX (8*j)
 have hy:d < 2 ^ (8*j):=by have:=hl.2;rw[hd,← hpc] at this;exact_mod_cast this
 have hx:(m (o+j)*2 ^ (8*j)).toNat=c*2 ^ (8*j):=by
  rw[hc,← hpc]
  have:((c:Int)*((2 ^ (8*j):Nat):Int))=((c*2 ^ (8*j):Nat):Int):=by simp
  rw[this,Int.toNat_natCast]
 rw[hx,hd,Int.toNat_natCast,Nat.or_comm,nat_join (8*j) _ _ (Nat.mul_mod_left _ _) hy]
 simp only[cZ,hd,hc]
 rw[← hpc]
 simp only[Int.natCast_add,Int.natCast_mul]
 omega
theorem Load_ok (pm g n cap off k:Nat) (m:Nat→Int) (hm:∀ i,0≤m i∧m i < 256) (hn:n≤134217728) (hc:n≤cap) (hk:wid k) (ho:off+k≤n):
  aG Tryz.prog 169 #[.pointer (some ⟨pm,0,none⟩),.int .i64 off,.int .i64 k] [pt pm (.cells #[.slice (some ⟨g,0,none⟩) n cap] 189 (0,0)),aE 5 1 (.slice (some ⟨g,0,none⟩) n cap) n (bt m n)] (fun v L=>v=.tuple #[.int .u64 (cZ m off k),.int .i64 0]∧L= [pt pm (.cells #[.slice (some ⟨g,0,none⟩) n cap] 189 (0,0)),aE 5 1 (.slice (some ⟨g,0,none⟩) n cap) n (bt m n)]):=by
 have hk8:1≤k∧k≤8:=by unfold wid at hk;omega
 refine aq Ga Tryz.func169 rfl rfl rfl fun Fr w0=>aR ?_
 refine sr<|asg rfl rfl<|asg rfl rfl<|lz<|mv rfl rfl<|mv rfl rfl<|mv rfl rfl<|lc1 rfl rfl rfl (number_ok pm g n cap off k m hn hc hk ho) ?_
 refine mv rfl rfl<|l_q rfl (aa rfl ga) ?_
 refine l_q rfl (aa rfl ga) ?_
 refine asg rfl rfl<|asg rfl rfl<|lc<|ah<|sr<|mv rfl rfl<|l_q rfl (qi rfl rfl (aI ·))<|lc<|aA rfl (fun z=>?_) fun z=>?_
 ·exact absurd rfl z
 refine al<|nz<|asg rfl rfl<|lc<|ah<|sr<|mv rfl rfl<|l_q rfl (ql rfl ck)<|mv rfl rfl<|lc<|ax ?_
 refine bw (fun j:Nat=>j≤k) (fun j=>[(23,.slice (some ⟨g,off,none⟩) k (cap-off)),(24,.int .i64 k),(25,.int .i64 j),(10,.int .u64 (cZ m off j))]) (fun _=>pt pm (.cells #[.slice (some ⟨g,0,none⟩) n cap] 189 (0,0))::aE 5 1 (.slice (some ⟨g,0,none⟩) n cap) n (bt m n)::Fr) (fun j=>k-j) 0 (by omega) ⟨rfl,rfl,rfl,rfl,trivial⟩ (Ent.refl _) ?_
 intro j hj
 have hmj:=hm (off+j)
 refine sr<|l_q rfl (qi rfl rfl (aU ·))<|lc<|ah<|aA rfl (fun h=>?_) fun h=>?_
 ·refine al<|ak<|ah<|ax<|sr<|mv rfl rfl<|l_q rfl (ay rfl rfl ck yS5 (by omega)) ?_
  apply l_q rfl
  ·apply bf rfl yA5
   ·exact tk
   rw[Int.toNat_natCast,cN (by omega)]
  refine asg rfl rfl<|asg rfl rfl<|lr<|mv rfl rfl<|mv rfl rfl<|l_q rfl (qcv rfl yU5 fF) ?_
  refine mv rfl rfl<|l_q rfl (dF rfl rfl) ?_
  apply l_q rfl
  ·apply qi rfl rfl;exact fun w=>Az w (by omega)
  refine l_q rfl (gn rfl rfl rfl)<|asg rfl rfl<|aj<|aV<|ak<|aB<|l_q rfl (ba rfl rfl) ?_
  refine mv rfl rfl<|aj ?_
  rw[xA hm off j (by omega)]
  apply aO ((j+1))
  ·exact(show j+1≤k by omega)
  ·omega
  ·exact⟨rfl,rfl,rfl,rfl,trivial⟩
  exact en
 refine xt rfl<|nz<|mv rfl rfl<|asg rfl rfl<|asg rfl rfl<|lc<|rt ?_
 obtain rfl:j=k:=by omega
 exact fr2 rfl ([pt pm (.cells #[.slice (some ⟨g,0,none⟩) n cap] 189 (0,0)),aE 5 1 (.slice (some ⟨g,0,none⟩) n cap) n (bt m n)]) (.tmp rfl) (.tmp rfl) ⟨rfl,rfl⟩
def bG (v:Int) (i:Nat):Int:=v / 2 ^ (8*i) % 256
theorem kC (m f:Nat→Int) (o:Nat):cm m o 0 f=m:=by funext i;unfold cm;rw[if_neg (by omega)]
theorem oO {m f:Nat→Int} {n o j:Nat} {b:Int} (h:o+j < n) (hb:b=f j):(bt (cm m o j f) n).set (o+j) (.int .u8 b)=bt (cm m o (j+1) f) n:=by
 rw[sT h]
 congr 1
 funext i
 simp only[cm]
 by_cases q:i=o+j
 ·subst q;rw[if_pos rfl,if_pos (by omega),hb];congr 1;omega
 rw[if_neg q]
 by_cases q2:o≤i∧i < o+j
 ·rw[if_pos q2,if_pos (by omega)]
 rw[if_neg q2,if_neg (by omega)]
theorem sR (v:Int) (j:Nat) (hv:0≤v) (hj:j < 8):IntKind.u8.wrap (v.fdiv (2 ^ min (8*(j:Int)).toNat IntKind.u64.bits))=bG v j:=by
 have hmin:min (8*(j:Int)).toNat IntKind.u64.bits=8*j:=by
  show min _ 64=_
  omega
 have hp:(0:Int) < 2 ^ (8*j):=Int.pow_pos (by decide)
 rw[hmin,IntKind.wrap_u8',Int.fdiv_eq_ediv_of_nonneg _ (by omega)]
 rfl
theorem Store_ok (pm g n cap off k:Nat) (m:Nat→Int) (v:Int) (hv:0≤v∧v < 18446744073709551616) (hn:n≤134217728) (hc:n≤cap) (hk:wid k) (ho:off+k≤n):
  aG Tryz.prog 223 #[.pointer (some ⟨pm,0,none⟩),.int .i64 off,.int .i64 k,.int .u64 v] [pt pm (.cells #[.slice (some ⟨g,0,none⟩) n cap] 189 (0,0)),aE 5 1 (.slice (some ⟨g,0,none⟩) n cap) n (bt m n)] (fun r L=>r=.int .i64 0∧L= [pt pm (.cells #[.slice (some ⟨g,0,none⟩) n cap] 189 (0,0)),aE 5 1 (.slice (some ⟨g,0,none⟩) n cap) n (bt (cm m off k (bG v)) n)]):=by
 have hk8:1≤k∧k≤8:=by unfold wid at hk;omega
 refine aq Fp Tryz.func223 rfl rfl rfl fun Fr w0=>aR ?_
 refine sr<|asg rfl rfl<|lz<|mv rfl rfl<|mv rfl rfl<|mv rfl rfl<|lc1 rfl rfl rfl (number_ok pm g n cap off k m hn hc hk ho) ?_
 refine mv rfl rfl<|l_q rfl (aa rfl ga) ?_
 refine l_q rfl (aa rfl ga) ?_
 refine asg rfl rfl<|asg rfl rfl<|lc<|ah<|sr<|mv rfl rfl<|l_q rfl (qi rfl rfl (aI ·))<|lc<|aA rfl (fun z=>?_) fun z=>?_
 ·exact absurd rfl z
 refine al<|ak<|ah<|sr<|mv rfl rfl<|l_q rfl (ql rfl ck)<|mv rfl rfl<|lc<|ax ?_
 refine bw (fun j:Nat=>j≤k) (fun j=>[(3,.int .u64 v),(9,.slice (some ⟨g,off,none⟩) k (cap-off)),(23,.int .i64 k),(24,.int .i64 j)]) (fun j=>pt pm (.cells #[.slice (some ⟨g,0,none⟩) n cap] 189 (0,0))::aE 5 1 (.slice (some ⟨g,0,none⟩) n cap) n (bt (cm m off j (bG v)) n)::Fr) (fun j=>k-j) 0 (by omega) ⟨rfl,rfl,rfl,rfl,trivial⟩ (by rw[kC];exact Ent.refl _) ?_
 intro j hj
 refine sr<|l_q rfl (qi rfl rfl (aU ·))<|lc<|ah<|aA rfl (fun h=>?_) fun h=>?_
 ·refine al<|ak<|ah<|ax<|sr<|mv rfl rfl<|asg rfl rfl<|lr<|mv rfl rfl<|mv rfl rfl<|mv rfl rfl<|mv rfl rfl<|l_q rfl (dF rfl rfl) ?_
  apply l_q rfl
  ·apply qi rfl rfl;exact fun w=>jR w (by omega)
  refine l_q rfl (qcv rfl fF yU5) ?_
  refine l_q rfl (ay rfl rfl ck yS5 (by omega)) ?_
  apply dp rfl rfl rfl yS5 rfl
  ·exact tk
  ·rw[Int.toNat_natCast];omega
  ·refine Eq.trans ?_ (oO (m:=m) (f:=bG v) (n:=n) (o:=off) (j:=j) (by omega) (sR v j hv.1 (by omega)));rw[Int.toNat_natCast]
  refine aj<|aV<|ak<|aB<|l_q rfl (ba rfl rfl) ?_
  refine mv rfl rfl<|aj ?_
  apply aO ((j+1))
  ·exact(show j+1≤k by omega)
  ·omega
  ·exact⟨rfl,rfl,rfl,rfl,trivial⟩
  exact en
 refine xt rfl<|nz<|asg rfl rfl<|lc<|rt ?_
 obtain rfl:j=k:=by omega
 exact fr1 rfl ([pt pm (.cells #[.slice (some ⟨g,0,none⟩) n cap] 189 (0,0)),aE 5 1 (.slice (some ⟨g,0,none⟩) n cap) n (bt (cm m off j (bG v)) n)]) (.tmp rfl) ⟨rfl,rfl⟩
theorem wi (xs:List Value) (o:Nat):lay xs o []=xs:=by simp[lay]
theorem kp (k:Nat) (b:Int):List.replicate k (.int .u8 b)=bt (fun _=>b) k:=by
 apply List.ext_getElem <;> simp[bt]
theorem kD {m f:Nat→Int} {n o k cap:Nat} (h:o+k≤n) (hc:n≤cap):lay (bt m n) (dI 0 o cap) (bt f k)=bt (cm m o k f) n:=by
 by_cases q:o < cap
 ·rw[ey q,Nat.zero_add];exact zQ h
 have:k=0:=by omega
 subst this
 rw[kC]
 exact wi _ _
theorem kP {o k n cap:Nat} (h:o+k≤n) (hc:n≤cap):dI 0 o cap+k≤n:=by unfold dI;split <;> omega
theorem Fill_ok (pm g n cap off k:Nat) (m:Nat→Int) (b:Int) (hb:0≤b∧b < 256) (hn:n≤134217728) (hc:n≤cap) (ho:off+k≤n):
  aG Tryz.prog 210 #[.pointer (some ⟨pm,0,none⟩),.int .i64 off,.int .i64 k,.int .u8 b] [pt pm (.cells #[.slice (some ⟨g,0,none⟩) n cap] 189 (0,0)),aE 5 1 (.slice (some ⟨g,0,none⟩) n cap) n (bt m n)] (fun r L=>r=.int .i64 0∧L= [pt pm (.cells #[.slice (some ⟨g,0,none⟩) n cap] 189 (0,0)),aE 5 1 (.slice (some ⟨g,0,none⟩) n cap) n (bt (cm m off k (fun _=>b)) n)]):=by
 refine aq FA Tryz.func210 rfl rfl rfl fun Fr w0=>aR ?_
 refine sr<|asg rfl rfl<|lc<|ah<|sr<|mv rfl rfl<|mv rfl rfl<|mv rfl rfl<|lc1 rfl rfl rfl (eS pm g n cap m _ _ hn) ?_
 refine l_q rfl (cX rfl (bY ·))<|lc<|aA rfl (fun z=>?_) fun z=>?_
 ·simp at z;omega
 refine al<|nz<|mv rfl rfl<|l_q rfl (ad rfl)<|l_q rfl (qfa 0 rfl ff rfl rfl dG)<|l_q rfl (qld rfl eE) ?_
 refine mv rfl rfl<|mv rfl rfl<|mv rfl rfl<|l_q rfl (ba rfl rfl) ?_
 refine l_q rfl (ig rfl rfl rfl ck yS5 (by omega)) ?_
 refine asg rfl rfl<|lc<|ah<|sr<|mv rfl rfl<|l_q rfl (qi rfl rfl (aZ ·))<|lc<|aA rfl (fun y=>?_) fun y=>?_
 ·refine sr<|mv rfl rfl ?_
  apply wg rfl rfl Tryz.underlying117 yZ5 rfl
  ·exact tk
  ·rw[Int.toNat_natCast,show((off:Int)+(k:Int)).toNat-off=k by omega];exact kP ho hc
  refine lz<|asg rfl rfl<|lc<|rt ?_
  subst y
  rw[Int.toNat_natCast,show((off:Int)+(k:Int)).toNat-off=k by omega,kp,kD ho hc]
  exact fr1 rfl ([pt pm (.cells #[.slice (some ⟨g,0,none⟩) n cap] 189 (0,0)),aE 5 1 (.slice (some ⟨g,0,none⟩) n cap) n (bt (cm m off k (fun _=>0)) n)]) (.tmp rfl) ⟨rfl,rfl⟩
 refine al<|ak<|ah<|sr<|mv rfl rfl<|l_q rfl (ql rfl ck)<|mv rfl rfl<|lc<|ax ?_
 rw[Int.toNat_natCast,show((off:Int)+(k:Int)).toNat-off=k by omega]
 refine bw (fun j:Nat=>j≤k) (fun j=>[(3,.int .u8 b),(9,.slice (some ⟨g,dI 0 off cap,none⟩) k (cap-off)),(29,.int .i64 k),(30,.int .i64 j)]) (fun j=>pt pm (.cells #[.slice (some ⟨g,0,none⟩) n cap] 189 (0,0))::aE 5 1 (.slice (some ⟨g,0,none⟩) n cap) n (bt (cm m off j (fun _=>b)) n)::Fr) (fun j=>k-j) 0 (by omega) ⟨rfl,rfl,rfl,rfl,trivial⟩ (by rw[kC];exact Ent.refl _) ?_
 intro j hj
 refine sr<|l_q rfl (qi rfl rfl (aU ·))<|lc<|ah<|aA rfl (fun h=>?_) fun h=>?_
 ·have hlt:off < cap:=by omega
  refine al<|ak<|ah<|ax<|sr<|mv rfl rfl<|asg rfl rfl<|lr<|mv rfl rfl<|mv rfl rfl<|mv rfl rfl<|l_q rfl (ay rfl rfl ck yS5 (by omega)) ?_
  apply dp rfl rfl rfl yS5 rfl
  ·exact tk
  ·simp only[Int.toNat_natCast,ey hlt,Nat.zero_add];omega
  ·refine Eq.trans ?_ (oO (m:=m) (f:=fun _=>b) (n:=n) (o:=off) (j:=j) (b:=b) (by omega) rfl);simp only[Int.toNat_natCast,ey hlt,Nat.zero_add]
  refine aj<|aV<|ak<|aB<|l_q rfl (ba rfl rfl) ?_
  refine mv rfl rfl<|aj ?_
  apply aO ((j+1))
  ·exact(show j+1≤k by omega)
  ·omega
  ·exact⟨rfl,rfl,rfl,rfl,trivial⟩
  exact en
 refine xt rfl<|nz<|asg rfl rfl<|lc<|rt ?_
 obtain rfl:j=k:=by omega
 exact fr1 rfl ([pt pm (.cells #[.slice (some ⟨g,0,none⟩) n cap] 189 (0,0)),aE 5 1 (.slice (some ⟨g,0,none⟩) n cap) n (bt (cm m off j (fun _=>b)) n)]) (.tmp rfl) ⟨rfl,rfl⟩
theorem Equal_ok (pm g n cap a b k:Nat) (m:Nat→Int) (hn:n≤134217728) (ha:a+k≤n) (hb:b+k≤n):
  aG Tryz.prog 243 #[.pointer (some ⟨pm,0,none⟩),.int .i64 a,.int .i64 b,.int .i64 k] [pt pm (.cells #[.slice (some ⟨g,0,none⟩) n cap] 189 (0,0)),aE 5 1 (.slice (some ⟨g,0,none⟩) n cap) n (bt m n)] (fun r L=>(∃ q:Bool,r=.tuple #[.bool q,.int .i64 0]∧(q=true↔∀ i,i < k→m (a+i)=m (b+i)))∧L= [pt pm (.cells #[.slice (some ⟨g,0,none⟩) n cap] 189 (0,0)),aE 5 1 (.slice (some ⟨g,0,none⟩) n cap) n (bt m n)]):=by
 refine aq Fb Tryz.func243 rfl rfl rfl fun Fr w0=>aR ?_
 refine sr<|asg rfl rfl<|asg rfl rfl<|lc<|ah<|sr<|mv rfl rfl<|mv rfl rfl<|mv rfl rfl<|lc1 rfl rfl rfl (eS pm g n cap m _ _ hn) ?_
 refine l_q rfl (cX rfl (bY ·))<|mv rfl rfl<|bD (t:=16) rfl (fun z=>?_) fun z=>?_
 ·simp at z;omega
 refine au rfl rfl<|mv rfl rfl<|au rfl rfl<|mv rfl rfl<|au rfl rfl<|mv rfl rfl<|au rfl rfl<|lc1 rfl rfl rfl (eS pm g n cap m _ _ hn) ?_
 refine au rfl rfl<|l_q rfl (cX rfl (bY ·))<|l_q rfl (aL rfl rfl)<|lc<|aA rfl (fun z2=>?_) fun z2=>?_
 ·simp at z2;omega
 refine al<|ak<|ah<|sr<|mv rfl rfl<|mv rfl rfl<|lc<|ax ?_
 refine bw (fun j:Nat=>j≤k∧∀ i,i < j→m (a+i)=m (b+i)) (fun j=>[(0,.pointer (some ⟨pm,0,none⟩)),(1,.int .i64 a),(2,.int .i64 b),(23,.int .i64 k),(24,.int .i64 j)]) (fun _=>pt pm (.cells #[.slice (some ⟨g,0,none⟩) n cap] 189 (0,0))::aE 5 1 (.slice (some ⟨g,0,none⟩) n cap) n (bt m n)::Fr) (fun j=>k-j) 0 ⟨by omega,by omega⟩ ⟨rfl,rfl,rfl,rfl,rfl,trivial⟩ (Ent.refl _) ?_
 rintro j ⟨hj,hall⟩
 refine sr<|l_q rfl (qi rfl rfl (aU ·))<|lc<|ah<|aA rfl (fun h=>?_) fun h=>?_
 ·refine al<|ak<|ah<|ax<|sr<|mv rfl rfl<|asg rfl rfl<|lc<|ah<|aS mixed ?_
  apply dq 0 rfl
  ·exact yq (ai rfl)
  apply dq 1 rfl
  ·exact yq (ad rfl)
  apply dq 2 rfl
  ·exact yq (qfa 0 rfl ff rfl rfl dG)
  apply dq 3 rfl
  ·exact yq (qld rfl eE)
  apply dq 4 rfl
  ·exact yq (ai rfl)
  apply dq 5 rfl
  ·exact yq (ai rfl)
  apply dq 6 rfl
  ·exact yq (ba rfl rfl)
  apply dq 7 rfl
  ·exact yq (ay rfl rfl ck yS5 (by omega))
  apply dq 8 rfl
  ·apply yq
   apply bf rfl yA5
   ·exact tk
   rw[Nat.zero_add,show((a:Int)+(j:Int)).toNat=a+j by omega,cN (by omega)]
  apply dq 9 rfl
  ·exact yq (ai rfl)
  apply dq 10 rfl
  ·exact yq (ad rfl)
  apply dq 11 rfl
  ·exact yq (qfa 0 rfl ff rfl rfl dG)
  apply dq 12 rfl
  ·exact yq (qld rfl eE)
  apply dq 13 rfl
  ·exact yq (ai rfl)
  apply dq 14 rfl
  ·exact yq (ai rfl)
  apply dq 15 rfl
  ·exact yq (ba rfl rfl)
  apply dq 16 rfl
  ·exact yq (ay rfl rfl ck yS5 (by omega))
  apply dq 17 rfl
  ·apply yq
   apply bf rfl yA5
   ·exact tk
   rw[Nat.zero_add,show((b:Int)+(j:Int)).toNat=b+j by omega,cN (by omega)]
  apply dq 18 rfl
  ·exact yq (qi rfl rfl (aI ·))
  refine bd (by kernel_rfl) ?_
  refine ak<|aA rfl (fun q=>?_) fun q=>?_
  ·refine sr<|asg rfl rfl<|asg rfl rfl<|lc<|rt<|fr2 rfl ([pt pm (.cells #[.slice (some ⟨g,0,none⟩) n cap] 189 (0,0)),aE 5 1 (.slice (some ⟨g,0,none⟩) n cap) n (bt m n)]) (.tmp rfl) (.tmp rfl) ?_
   exact⟨⟨false,rfl,by simp;exact⟨j,by omega,q⟩⟩,rfl⟩
  refine al<|aV<|ak<|aB<|l_q rfl (ba rfl rfl) ?_
  refine mv rfl rfl<|aj ?_
  apply aO ((j+1))
  ·exact⟨by omega,fun i hi=>by by_cases e:i=j;(subst e;exact Classical.not_not.1 q);exact hall i (by omega)⟩
  ·omega
  ·exact⟨rfl,rfl,rfl,rfl,rfl,trivial⟩
  exact en
 refine xt rfl<|nz<|asg rfl rfl<|asg rfl rfl<|lc<|rt ?_
 obtain rfl:j=k:=by omega
 refine fr2 rfl ([pt pm (.cells #[.slice (some ⟨g,0,none⟩) n cap] 189 (0,0)),aE 5 1 (.slice (some ⟨g,0,none⟩) n cap) n (bt m n)]) (.tmp rfl) (.tmp rfl) ?_
 exact⟨⟨true,rfl,by simpa using hall⟩,rfl⟩
def dE (m:Nat→Int) (o k:Nat):ByteArray:=⟨((List.range k).map fun i=>UInt8.ofNat (m (o+i)).toNat).toArray⟩
theorem zR {xs ys:List Value} (h:xs.length=ys.length):lay xs 0 ys=ys:=by simp[lay,← h]
theorem y6 {m:Nat→Int} {n o k:Nat} (h:o+k≤n):((bt m n).drop o).take k=bt (fun i=>m (o+i)) k:=by
 apply List.ext_getElem?
 intro i
 rw[List.getElem?_take]
 by_cases hi:i < k
 ·rw[if_pos hi,List.getElem?_drop,cN (by omega),cN hi]
 rw[if_neg hi,List.getElem?_eq_none (by rw[bL];omega)]
theorem xg {L M:List HP} {e:TypeId} {g n cap o k:Nat} {m:Nat→Int} (h:o+k≤n) (hc:n≤cap) (ht:Take (aE e 1 (.slice (some ⟨g,0,none⟩) n cap) n (bt m n)) L M):Reads L ⟨g,dI 0 o cap,none⟩ (bt (fun i=>m (o+i)) k):=by
 by_cases q:o < cap
 ·rw[ey q,Nat.zero_add,← y6 h];exact m6 ht
 have:k=0:=by omega
 subst this
 intro w _ j v hv
 simp[bt] at hv
theorem Read_ok (pm g n cap off k:Nat) (m:Nat→Int) (hn:n≤134217728) (hc:n≤cap) (ho:off+k≤n):
  aG Tryz.prog 51 #[.pointer (some ⟨pm,0,none⟩),.int .i64 off,.int .i64 k] [pt pm (.cells #[.slice (some ⟨g,0,none⟩) n cap] 189 (0,0)),aE 5 1 (.slice (some ⟨g,0,none⟩) n cap) n (bt m n)]
   (fun r L=>∃ g2,r=.tuple #[.slice (some ⟨g2,0,none⟩) k k,.int .i64 0]∧L= [aE 5 1 (.slice (some ⟨g2,0,none⟩) k k) k (bt (fun i=>m (off+i)) k),pt pm (.cells #[.slice (some ⟨g,0,none⟩) n cap] 189 (0,0)),aE 5 1 (.slice (some ⟨g,0,none⟩) n cap) n (bt m n)]):=by
 refine aq HE Tryz.func51 rfl rfl rfl fun Fr w0=>aR ?_
 refine sr<|asg rfl rfl<|asg rfl rfl<|lc<|ah<|sr<|mv rfl rfl<|mv rfl rfl<|mv rfl rfl<|lc1 rfl rfl rfl (eS pm g n cap m _ _ hn) ?_
 refine l_q rfl (cX rfl (bY ·))<|lc<|aA rfl (fun z=>?_) fun z=>?_
 ·simp at z;omega
 refine al<|nz<|mv rfl rfl ?_
 apply da rfl rfl rfl ck yI5 rfl (by omega) (by omega)
 intro b15
 refine asg rfl rfl<|lz<|mv rfl rfl<|mv rfl rfl<|l_q rfl (ad rfl)<|l_q rfl (qfa 0 rfl ff rfl rfl dG)<|l_q rfl (qld rfl eE) ?_
 refine mv rfl rfl<|l_q rfl (fy rfl rfl ck yS5 (by omega)) ?_
 apply rF (bt (fun i=>m (off+i)) k) rfl rfl rfl Tryz.underlying117 (by obtain⟨i,h1,_,h2,_⟩:=yI5;exact⟨i,h1,h2⟩)
 ·exact tk
 ·rw[bL,Int.toNat_natCast,Int.toNat_natCast];exact(Nat.min_eq_right (by omega)).symm
 ·rw[Int.toNat_natCast];apply xg ho hc;exact tk
 ·rw[bL,Int.toNat_natCast];omega
 ·exact mC _ _
 refine lz<|mv rfl rfl<|asg rfl rfl<|asg rfl rfl<|lc<|rt ?_
 rw[Int.toNat_natCast,zR (by simp[bL])]
 exact fr2 rfl ([aE 5 1 (.slice (some ⟨b15,0,none⟩) k k) k (bt (fun i=>m (off+i)) k),pt pm (.cells #[.slice (some ⟨g,0,none⟩) n cap] 189 (0,0)),aE 5 1 (.slice (some ⟨g,0,none⟩) n cap) n (bt m n)]) (.tmp rfl) (.tmp rfl) ⟨_,rfl,rfl⟩
theorem New_ok (n:Nat) (hn:n≤134217728):aG Tryz.prog 71 #[.int .i64 n] [] (fun r L=>∃ pm g,r=.tuple #[.pointer (some ⟨pm,0,none⟩),.int .i64 0]∧L= [pt pm (.cells #[.slice (some ⟨g,0,none⟩) n n] 189 (0,0)),aE 5 1 (.slice (some ⟨g,0,none⟩) n n) n (bt (fun _=>0) n)]):=by
 refine aq Hv Tryz.func71 rfl rfl rfl fun Fr w0=>aR ?_
 refine sr<|asg rfl rfl<|asg rfl rfl<|lc<|ah<|sr<|mv rfl rfl<|l_q rfl (qi rfl rfl (aU ·))<|mv rfl rfl<|bD (t:=6) rfl (fun z=>?_) fun z=>?_
 ·omega
 refine au rfl rfl<|mv rfl rfl<|au rfl rfl<|l_q rfl (qi rfl rfl (cU ·))<|l_q rfl (aL rfl rfl)<|lc<|aA rfl (fun z2=>?_) fun z2=>?_
 ·omega
 refine al<|nz<|mv rfl rfl ?_
 apply da rfl rfl rfl ck yI5 rfl (by omega) (by omega)
 intro b11
 apply l_q rfl
 ·apply aQ rfl Eu Eh
  apply aF.one
  ·repeat (first | exact aH.here | apply aH.there)
  ·rfl
  ·exact sa
  exact aF.nil
 refine aP rfl rfl fun b13=>asg rfl rfl<|asg rfl rfl<|lc<|rt ?_
 rw[Int.toNat_natCast,kp]
 exact fr2 rfl ([pt b13 (.cells #[.slice (some ⟨b11,0,none⟩) n n] 189 (0,0)),aE 5 1 (.slice (some ⟨b11,0,none⟩) n n) n (bt (fun _=>0) n)]) (.tmp rfl) (.tmp rfl) ⟨_,_,rfl,rfl⟩
def fi (m:Nat→Int) (n:Nat):Nat→Int:=fun i=>if i < n then m i else 0
theorem xE {m:Nat→Int} {n s:Nat} (h:n≤s):lay (List.replicate s (.int .u8 0)) 0 (bt m n)=bt (fi m n) s:=by
 apply List.ext_getElem?
 intro i
 rw[jK (by simp[bL];exact h),bL]
 by_cases hi:i < s
 ·rw[cN hi]
  by_cases q:i < n
  ·rw[if_pos (by omega),Nat.sub_zero,cN q];simp[fi,q]
  rw[if_neg (by omega)];simp[fi,q,hi]
 rw[if_neg (by omega),List.getElem?_eq_none (by simp;omega),List.getElem?_eq_none (by rw[bL];omega)]
theorem xD {m:Nat→Int} {n s cap:Nat} {ys:List Value} (hy:ys.length=s-n) (h:n≤s) (hc:s≤cap):lay (bt m n ++ ys) (dI 0 n cap) (List.replicate (s-n) (.int .u8 0))=bt (fi m n) s:=by
 by_cases q:n < cap
 ·rw[ey q,Nat.zero_add]
  apply List.ext_getElem?
  intro i
  rw[jK (by simp[bL,hy])]
  by_cases hi:i < s
  ·rw[cN hi,List.length_replicate]
   by_cases q2:i < n
   ·rw[if_neg (by omega),List.getElem?_append_left (by rw[bL];exact q2),cN q2];simp[fi,q2]
   rw[if_pos (by omega),List.getElem?_replicate,if_pos (by omega)];simp[fi,q2]
  rw[List.length_replicate,if_neg (by omega),List.getElem?_eq_none (by simp[bL,hy];omega),List.getElem?_eq_none (by rw[bL];omega)]
 have e1:s=n:=by omega
 subst e1
 have e2:ys= []:=List.eq_nil_of_length_eq_zero (by omega)
 subst e2
 rw[Nat.sub_self,List.replicate_zero,wi,List.append_nil]
 apply List.ext_getElem?
 intro i
 by_cases hi:i < s
 ·rw[cN hi,cN hi];simp[fi,hi]
 rw[List.getElem?_eq_none (by rw[bL];omega),List.getElem?_eq_none (by rw[bL];omega)]
theorem uR {e:TypeId} {g n n2 cap:Nat} {xs:List Value} {A:HP} {M:List HP} {w:World} (h:Sat (stars (A::aE e 1 (.slice (some ⟨g,0,none⟩) n cap) n xs::M)) w) (hle:n≤n2) (hc:n2≤cap):
  ∃ ys:{ys:List Value // ys.length=n2-n},Sat (stars (A::aE e 1 (.slice (some ⟨g,0,none⟩) n2 cap) n2 (xs ++ ys.1)::M)) w:=by
 obtain⟨cur,c1,c2,c3,c4,c5,hs⟩:=il (h.perm (.swap _ _ _))
 have hcl:cur.toList.length=cap:=by rw[Array.length_toList,c1];omega
 have key:cur.toList.take n2=xs ++ (cur.toList.take n2).drop n:=by
  rw[← c2,Nat.mul_one]
  have:cur.toList.take n=(cur.toList.take n2).take n:=by rw[List.take_take];congr 1;omega
  rw[this,List.take_append_drop]
 refine⟨⟨(cur.toList.take n2).drop n,by simp[hcl];omega⟩,?_⟩
 refine(dB (n:=n2) hs ?_ hc c4 c1 ?_).perm (.swap _ _ _)
 ·simp[c5,hcl];omega
 rw[Nat.mul_one];exact key
theorem dQ {L M:List HP} {e:TypeId} {g n cap:Nat} {m:Nat→Int} (ht:Take (aE e 1 (.slice (some ⟨g,0,none⟩) n cap) n (bt m n)) L M):Reads L ⟨g,0,none⟩ (bt m n):=by
 have:=m6 (o:=0) (k:=n) ht
 rwa [List.drop_zero,List.take_of_length_le (by rw[bL];omega)] at this
theorem Grow_ok (pm g n cap s:Nat) (m:Nat→Int) (hn:n≤134217728) (hc:n≤cap) (hcm:cap≤134217728) (h1:n≤s) (h2:s≤134217728):
  aG Tryz.prog 211 #[.pointer (some ⟨pm,0,none⟩),.int .i64 s] [pt pm (.cells #[.slice (some ⟨g,0,none⟩) n cap] 189 (0,0)),aE 5 1 (.slice (some ⟨g,0,none⟩) n cap) n (bt m n)] (fun r L=>∃ g2 cap2,r=.int .i64 0∧s≤cap2∧cap2≤134217728∧L= [pt pm (.cells #[.slice (some ⟨g2,0,none⟩) s cap2] 189 (0,0)),aE 5 1 (.slice (some ⟨g2,0,none⟩) s cap2) s (bt (fi m n) s)]):=by
 refine aq Fz Tryz.func211 rfl rfl rfl fun Fr w0=>aR ?_
 refine sr<|asg rfl rfl<|lc<|ah<|sr<|mv rfl rfl<|mv rfl rfl<|l_q rfl (ad rfl)<|l_q rfl (qfa 0 rfl ff rfl rfl dG)<|l_q rfl (qld rfl eE) ?_
 refine l_q rfl (ql rfl ck)<|l_q rfl (qi rfl rfl (aU ·))<|mv rfl rfl<|bD (t:=14) rfl (fun z=>?_) fun z=>?_
 ·omega
 refine au rfl rfl<|mv rfl rfl<|au rfl rfl<|l_q rfl (qi rfl rfl (cU ·))<|l_q rfl (aL rfl rfl)<|lc<|aA rfl (fun z2=>?_) fun z2=>?_
 ·omega
 refine al<|ak<|ah<|sr<|mv rfl rfl<|mv rfl rfl<|l_q rfl (ad rfl)<|l_q rfl (qfa 0 rfl ff rfl rfl dG)<|l_q rfl (qld rfl eE) ?_
 refine l_q rfl (EO rfl (fun w=>x4 ck w))<|l_q rfl (qi rfl rfl (cU ·))<|lc<|aA rfl (fun z3=>?_) fun z3=>?_
 ·refine sr<|mv rfl rfl<|mv rfl rfl<|mv rfl rfl<|l_q rfl (ad rfl)<|l_q rfl (qfa 0 rfl ff rfl rfl dG)<|l_q rfl (qld rfl eE) ?_
  refine l_q rfl (ql rfl ck)<|l_q rfl (dF rfl rfl) ?_
  refine l_q rfl (DD rfl rfl)<|l_q rfl (DC rfl rfl) ?_
  apply da rfl rfl rfl ck yI5 rfl (by omega) (by omega)
  intro b35
  refine asg rfl rfl<|lz<|mv rfl rfl<|mv rfl rfl<|l_q rfl (ad rfl)<|l_q rfl (qfa 0 rfl ff rfl rfl dG)<|l_q rfl (qld rfl eE) ?_
  apply rF (bt m n) rfl rfl rfl Tryz.underlying117 (by obtain⟨i,h1,_,h2,_⟩:=yI5;exact⟨i,h1,h2⟩)
  ·exact tk
  ·rw[bL,Int.toNat_natCast];exact(Nat.min_eq_left h1).symm
  ·exact dQ (by exact tk)
  ·rw[bL,Int.toNat_natCast];omega
  ·exact mC _ _
  refine lz<|mv rfl rfl<|mv rfl rfl<|l_q rfl (ad rfl)<|l_q rfl (qfa 0 rfl ff rfl rfl dG)<|st rfl rfl rfl dG rfl ?_
  refine lz<|asg rfl rfl<|lc<|rt ?_
  rw[Int.toNat_natCast,xE h1]
  obtain⟨c2,hc2⟩:∃ c2:Nat,(if(if(s:Int) < 2*(n:Int) then 2*(n:Int) else(s:Int)) < 134217728 then if(s:Int) < 2*(n:Int) then 2*(n:Int) else(s:Int) else 134217728).toNat=c2:=⟨_,rfl⟩
  have hb:s≤c2∧c2≤134217728:=by subst hc2;split <;> omega
  rw[hc2]
  exact fr1 rfl ([pt pm (.cells #[.slice (some ⟨b35,0,none⟩) s c2] 189 (0,0)),aE 5 1 (.slice (some ⟨b35,0,none⟩) s c2) s (bt (fi m n) s)]) (.tmp rfl) ⟨_,_,rfl,hb.1,hb.2,rfl⟩
 refine jy (X:={ys:List Value // ys.length=s-n}) (LL:=fun ys=>pt pm (.cells #[.slice (some ⟨g,0,none⟩) n cap] 189 (0,0))::aE 5 1 (.slice (some ⟨g,0,none⟩) s cap) s (bt m n ++ ys.1)::Fr) (fun w hs=>uR hs h1 (by omega)) fun ys=>?_
 refine al<|nz<|mv rfl rfl<|l_q rfl (ad rfl)<|l_q rfl (qfa 0 rfl ff rfl rfl dG)<|l_q rfl (qld rfl eE) ?_
 refine l_q rfl (ql rfl ck)<|asg rfl rfl<|lz<|mv rfl rfl<|mv rfl rfl<|l_q rfl (ad rfl)<|l_q rfl (qfa 0 rfl ff rfl rfl dG)<|l_q rfl (qld rfl eE) ?_
 refine mv rfl rfl<|l_q rfl (qo rfl rfl ck yS5 (by omega)) ?_
 refine l_q rfl (ad rfl)<|l_q rfl (qfa 0 rfl ff rfl rfl dG)<|st rfl rfl rfl dG rfl ?_
 refine lz<|mv rfl rfl<|l_q rfl (ad rfl)<|l_q rfl (qfa 0 rfl ff rfl rfl dG)<|l_q rfl (qld rfl eE) ?_
 refine mv rfl rfl<|l_q rfl (fy rfl rfl ck yS5 (by omega)) ?_
 apply wg rfl rfl Tryz.underlying117 yZ5 rfl
 ·exact tk
 ·rw[Int.toNat_natCast,Int.toNat_natCast];exact kP (by omega) (by omega)
 refine lz<|asg rfl rfl<|lc<|rt ?_
 rw[Int.toNat_natCast,Int.toNat_natCast,xD ys.2 h1 (by omega)]
 refine fr1 rfl ([pt pm (.cells #[.slice (some ⟨g,0,none⟩) s cap] 189 (0,0)),aE 5 1 (.slice (some ⟨g,0,none⟩) s cap) s (bt (fi m n) s)]) (.tmp rfl) ?_
 exact⟨_,_,rfl,by omega,hcm,rfl⟩
end Mem
end Go.Proofs.YthkajgkagnenbaaGreatDoor
