import Derived.Test.YthkajgkagnenbaaGreatDoorCtrlB
set_option linter.unusedVariables false
set_option linter.unusedSimpArgs false
set_option linter.unusedSectionVars false
set_option maxRecDepth 100000
namespace Go.Proofs.YthkajgkagnenbaaGreatDoor
namespace Mem
open Go.RowKit Go.Proofs Eng Ty Bits
def bz (m:Nat→Int) (n:Nat):List Value:=(List.range n).map fun i=>.int .u8 (m i)
theorem bL (m:Nat→Int) (n:Nat):(bz m n).length=n:=by simp[bz]
theorem cL {m:Nat→Int} {n i:Nat} (h:i < n):(bz m n)[i]?=some (.int .u8 (m i)):=by simp[bz,h]
theorem mq (m:Nat→Int) (n:Nat):∀ v∈bz m n,v.oneCell'=true:=fun v hv=>by simp only[bz,List.mem_map] at hv;obtain⟨_,_,rfl⟩:=hv;rfl
def cl (m:Nat→Int) (o k:Nat) (f:Nat→Int):Nat→Int:=fun i=>if o≤i∧i < o+k then f (i-o) else m i
theorem zI {m f:Nat→Int} {n o k:Nat} (h:o+k≤n):lay (bz m n) o (bz f k)=bz (cl m o k f) n:=by
 apply List.ext_getElem?
 intro i
 rw[jJ (by simp only[bL];exact h),bL]
 by_cases hi:i < n
 ·rw[cL (m:=cl m o k f) hi]
  by_cases hk:o≤i∧i < o+k
  ·rw[if_pos hk,cL (by omega)];simp[cl,hk]
  rw[if_neg hk,cL hi];simp only[cl];rw[if_neg hk]
 rw[if_neg (by omega),List.getElem?_eq_none (by rw[bL];omega),List.getElem?_eq_none (by rw[bL];omega)]
theorem sL {m:Nat→Int} {n o:Nat} {b:Int} (h:o < n):(bz m n).set o (.int .u8 b)=bz (fun i=>if i=o then b else m i) n:=by
 apply List.ext_getElem?
 intro i
 rw[List.getElem?_set,bL]
 by_cases hi:i < n
 ·rw[cL hi,cL hi]
  by_cases q:o=i
  ·subst q;simp[h]
  rw[if_neg q,if_neg (Ne.symm q)]
 rw[List.getElem?_eq_none (by rw[bL];omega),List.getElem?_eq_none (by rw[bL];omega)]
 split
 ·simp;omega
 rfl
theorem D0 (pm g n cap:Nat) (m:Nat→Int):aG Tryz.prog 38 #[.pointer (some ⟨pm,0,none⟩)] [pt pm (.cells #[.slice (some ⟨g,0,none⟩) n cap] 189 (0,0)),aE 5 1 (.slice (some ⟨g,0,none⟩) n cap) n (bz m n)] (fun v L=>v=.int .i64 (n:Nat)∧L= [pt pm (.cells #[.slice (some ⟨g,0,none⟩) n cap] 189 (0,0)),aE 5 1 (.slice (some ⟨g,0,none⟩) n cap) n (bz m n)]):=by
 refine aq HI Tryz.func38 rfl rfl rfl fun Fr w0=>aR ?_
 refine sr<|asg rfl rfl<|lz<|mv rfl rfl<|l_q rfl (ad rfl)<|l_q rfl (qfa 0 rfl eY rfl rfl dE)<|l_q rfl (qld rfl eB) ?_
 exact l_q rfl (ql rfl ct)<|asg rfl rfl<|lc<|rt<|fr1 rfl ([pt pm (.cells #[.slice (some ⟨g,0,none⟩) n cap] 189 (0,0)),aE 5 1 (.slice (some ⟨g,0,none⟩) n cap) n (bz m n)]) (.tmp rfl) ⟨rfl,rfl⟩
theorem eQ (pm g n cap:Nat) (m:Nat→Int) (off k:Int) (hn:n≤134217728):
  aG Tryz.prog 129 #[.pointer (some ⟨pm,0,none⟩),.int .i64 off,.int .i64 k] [pt pm (.cells #[.slice (some ⟨g,0,none⟩) n cap] 189 (0,0)),aE 5 1 (.slice (some ⟨g,0,none⟩) n cap) n (bz m n)] (fun v L=>v=.bool (decide (0≤off∧0≤k∧off+k≤(n:Int)))∧L= [pt pm (.cells #[.slice (some ⟨g,0,none⟩) n cap] 189 (0,0)),aE 5 1 (.slice (some ⟨g,0,none⟩) n cap) n (bz m n)]):=by
 refine aq Gv Tryz.func129 rfl rfl rfl fun Fr w0=>aR ?_
 refine sr<|asg rfl rfl<|lz<|mv rfl rfl<|l_q rfl (qi rfl rfl (gL ·))<|mv rfl rfl<|bE (t:=9) rfl (fun h=>?_) fun h=>?_
 ·refine au rfl rfl<|mv rfl rfl<|au rfl rfl<|l_q rfl (qi rfl rfl (gL ·))<|l_q rfl (aL rfl rfl)<|mv rfl rfl<|bE (t:=13) rfl (fun h2=>?_) fun h2=>?_
  ·refine au rfl rfl<|mv rfl rfl<|au rfl rfl<|mv rfl rfl<|au rfl rfl<|l_q rfl (ad rfl)<|au rfl rfl<|l_q rfl (qfa 0 rfl eY rfl rfl dE)<|au rfl rfl<|l_q rfl (qld rfl eB) ?_
   refine au rfl rfl<|l_q rfl (ql rfl ct)<|au rfl rfl<|l_q rfl (qi rfl rfl (iv ·))<|l_q rfl (aL rfl rfl)<|mv rfl rfl<|bE (t:=22) rfl (fun h3=>?_) fun h3=>?_
   ·refine au rfl rfl<|mv rfl rfl<|au rfl rfl<|mv rfl rfl<|au rfl rfl<|l_q rfl (ad rfl)<|au rfl rfl<|l_q rfl (qfa 0 rfl eY rfl rfl dE)<|au rfl rfl<|l_q rfl (qld rfl eB) ?_
    refine au rfl rfl<|l_q rfl (ql rfl ct)<|au rfl rfl<|mv rfl rfl<|au rfl rfl<|l_q rfl (e9 rfl rfl) ?_
    refine au rfl rfl<|l_q rfl (qi rfl rfl (iv ·))<|l_q rfl (aL rfl rfl)<|asg rfl rfl<|lc<|rt<|fr1 rfl ([pt pm (.cells #[.slice (some ⟨g,0,none⟩) n cap] 189 (0,0)),aE 5 1 (.slice (some ⟨g,0,none⟩) n cap) n (bz m n)]) (.tmp rfl) ?_
    exact⟨by congr 1;rw[decide_eq_decide];omega,rfl⟩
   refine ar rfl rfl rfl rfl<|ar rfl rfl rfl rfl<|ar rfl rfl rfl rfl<|ar rfl rfl rfl rfl<|ar rfl rfl rfl rfl<|ar rfl rfl rfl rfl<|ar rfl rfl rfl rfl<|ar rfl rfl rfl rfl<|ar rfl rfl rfl rfl<|l_q rfl (aL rfl rfl)<|asg rfl rfl<|lc<|rt<|fr1 rfl ([pt pm (.cells #[.slice (some ⟨g,0,none⟩) n cap] 189 (0,0)),aE 5 1 (.slice (some ⟨g,0,none⟩) n cap) n (bz m n)]) (.tmp rfl) ?_
   exact⟨by rw[decide_eq_false (by omega)],rfl⟩
  refine ar rfl rfl rfl rfl<|ar rfl rfl rfl rfl<|ar rfl rfl rfl rfl<|ar rfl rfl rfl rfl<|ar rfl rfl rfl rfl<|ar rfl rfl rfl rfl<|ar rfl rfl rfl rfl<|l_q rfl (aL rfl rfl)<|mv rfl rfl<|ar rfl rfl rfl rfl<|ar rfl rfl rfl rfl<|ar rfl rfl rfl rfl<|ar rfl rfl rfl rfl<|ar rfl rfl rfl rfl<|ar rfl rfl rfl rfl<|ar rfl rfl rfl rfl<|ar rfl rfl rfl rfl<|ar rfl rfl rfl rfl<|l_q rfl (aL rfl rfl)<|asg rfl rfl<|lc<|rt<|fr1 rfl ([pt pm (.cells #[.slice (some ⟨g,0,none⟩) n cap] 189 (0,0)),aE 5 1 (.slice (some ⟨g,0,none⟩) n cap) n (bz m n)]) (.tmp rfl) ?_
  exact⟨by rw[decide_eq_false (by omega)],rfl⟩
 refine ar rfl rfl rfl rfl<|ar rfl rfl rfl rfl<|l_q rfl (aL rfl rfl)<|mv rfl rfl<|ar rfl rfl rfl rfl<|ar rfl rfl rfl rfl<|ar rfl rfl rfl rfl<|ar rfl rfl rfl rfl<|ar rfl rfl rfl rfl<|ar rfl rfl rfl rfl<|ar rfl rfl rfl rfl<|l_q rfl (aL rfl rfl)<|mv rfl rfl<|ar rfl rfl rfl rfl<|ar rfl rfl rfl rfl<|ar rfl rfl rfl rfl<|ar rfl rfl rfl rfl<|ar rfl rfl rfl rfl<|ar rfl rfl rfl rfl<|ar rfl rfl rfl rfl<|ar rfl rfl rfl rfl<|ar rfl rfl rfl rfl<|l_q rfl (aL rfl rfl)<|asg rfl rfl<|lc<|rt<|fr1 rfl ([pt pm (.cells #[.slice (some ⟨g,0,none⟩) n cap] 189 (0,0)),aE 5 1 (.slice (some ⟨g,0,none⟩) n cap) n (bz m n)]) (.tmp rfl) ?_
 exact⟨by rw[decide_eq_false (by omega)],rfl⟩
def wid (k:Nat):Prop:=k=1∨k=2∨k=4∨k=8
theorem number_ok (pm g n cap off k:Nat) (m:Nat→Int) (hn:n≤134217728) (hc:n≤cap) (hk:wid k) (ho:off+k≤n):
  aG Tryz.prog 217 #[.pointer (some ⟨pm,0,none⟩),.int .i64 off,.int .i64 k] [pt pm (.cells #[.slice (some ⟨g,0,none⟩) n cap] 189 (0,0)),aE 5 1 (.slice (some ⟨g,0,none⟩) n cap) n (bz m n)] (fun v L=>v=.tuple #[.slice (some ⟨g,off,none⟩) k (cap-off),.int .i64 0]∧L= [pt pm (.cells #[.slice (some ⟨g,0,none⟩) n cap] 189 (0,0)),aE 5 1 (.slice (some ⟨g,0,none⟩) n cap) n (bz m n)]):=by
 have hk8:1≤k∧k≤8:=by unfold wid at hk;omega
 have ht:off < cap:=by omega
 refine aq Fk Tryz.func217 rfl rfl rfl fun Fr w0=>aR ?_
 refine sr<|asg rfl rfl<|asg rfl rfl<|lc<|ah<|sr<|mv rfl rfl<|lc<|ay<|ah<|sr<|l_q rfl (qi rfl rfl (aW ·))<|asg rfl rfl<|lc<|mb (t:=9) rfl (fun h1=>?_) fun h1=>?_
 ·refine aX rfl<|al<|ak<|aX rfl<|al<|aV<|ak<|ah<|sr<|mv rfl rfl<|mv rfl rfl<|mv rfl rfl<|lc1 rfl rfl rfl (eQ pm g n cap m _ _ hn) ?_
  refine l_q rfl (cW rfl (ca ·))<|lc<|aA rfl (fun z=>?_) fun z=>?_
  ·simp at z;omega
  refine al<|nz<|mv rfl rfl<|l_q rfl (ad rfl)<|l_q rfl (qfa 0 rfl eY rfl rfl dE)<|l_q rfl (qld rfl eB) ?_
  refine mv rfl rfl<|mv rfl rfl<|mv rfl rfl<|l_q rfl (ba rfl rfl) ?_
  refine l_q rfl (ig rfl rfl rfl ct yS5 (by omega)) ?_
  refine asg rfl rfl<|asg rfl rfl<|lc<|rt<|fr2 rfl ([pt pm (.cells #[.slice (some ⟨g,0,none⟩) n cap] 189 (0,0)),aE 5 1 (.slice (some ⟨g,0,none⟩) n cap) n (bz m n)]) (.tmp rfl) (.tmp rfl) ?_
  exact⟨by rw[Int.toNat_natCast,ek ht,Nat.zero_add,show((off:Int)+(k:Int)).toNat-off=k by omega],rfl⟩
 refine bQ rfl<|sr<|l_q rfl (qi rfl rfl (aW ·))<|asg rfl rfl<|lc<|mb (t:=9) rfl (fun h2=>?_) fun h2=>?_
 ·refine aX rfl<|al<|ak<|aX rfl<|al<|aV<|ak<|ah<|sr<|mv rfl rfl<|mv rfl rfl<|mv rfl rfl<|lc1 rfl rfl rfl (eQ pm g n cap m _ _ hn) ?_
  refine l_q rfl (cW rfl (ca ·))<|lc<|aA rfl (fun z=>?_) fun z=>?_
  ·simp at z;omega
  refine al<|nz<|mv rfl rfl<|l_q rfl (ad rfl)<|l_q rfl (qfa 0 rfl eY rfl rfl dE)<|l_q rfl (qld rfl eB) ?_
  refine mv rfl rfl<|mv rfl rfl<|mv rfl rfl<|l_q rfl (ba rfl rfl) ?_
  refine l_q rfl (ig rfl rfl rfl ct yS5 (by omega)) ?_
  refine asg rfl rfl<|asg rfl rfl<|lc<|rt<|fr2 rfl ([pt pm (.cells #[.slice (some ⟨g,0,none⟩) n cap] 189 (0,0)),aE 5 1 (.slice (some ⟨g,0,none⟩) n cap) n (bz m n)]) (.tmp rfl) (.tmp rfl) ?_
  exact⟨by rw[Int.toNat_natCast,ek ht,Nat.zero_add,show((off:Int)+(k:Int)).toNat-off=k by omega],rfl⟩
 refine bQ rfl<|sr<|l_q rfl (qi rfl rfl (aW ·))<|asg rfl rfl<|lc<|mb (t:=9) rfl (fun h4=>?_) fun h4=>?_
 ·refine aX rfl<|al<|ak<|aX rfl<|al<|aV<|ak<|ah<|sr<|mv rfl rfl<|mv rfl rfl<|mv rfl rfl<|lc1 rfl rfl rfl (eQ pm g n cap m _ _ hn) ?_
  refine l_q rfl (cW rfl (ca ·))<|lc<|aA rfl (fun z=>?_) fun z=>?_
  ·simp at z;omega
  refine al<|nz<|mv rfl rfl<|l_q rfl (ad rfl)<|l_q rfl (qfa 0 rfl eY rfl rfl dE)<|l_q rfl (qld rfl eB) ?_
  refine mv rfl rfl<|mv rfl rfl<|mv rfl rfl<|l_q rfl (ba rfl rfl) ?_
  refine l_q rfl (ig rfl rfl rfl ct yS5 (by omega)) ?_
  refine asg rfl rfl<|asg rfl rfl<|lc<|rt<|fr2 rfl ([pt pm (.cells #[.slice (some ⟨g,0,none⟩) n cap] 189 (0,0)),aE 5 1 (.slice (some ⟨g,0,none⟩) n cap) n (bz m n)]) (.tmp rfl) (.tmp rfl) ?_
  exact⟨by rw[Int.toNat_natCast,ek ht,Nat.zero_add,show((off:Int)+(k:Int)).toNat-off=k by omega],rfl⟩
 refine bQ rfl<|aB<|l_q rfl (qi rfl rfl (aW ·))<|asg rfl rfl<|lc<|mb (t:=9) rfl (fun h8=>?_) fun h8=>?_
 ·refine aX rfl<|al<|aV<|ak<|ah<|sr<|mv rfl rfl<|mv rfl rfl<|mv rfl rfl<|lc1 rfl rfl rfl (eQ pm g n cap m _ _ hn) ?_
  refine l_q rfl (cW rfl (ca ·))<|lc<|aA rfl (fun z=>?_) fun z=>?_
  ·simp at z;omega
  refine al<|nz<|mv rfl rfl<|l_q rfl (ad rfl)<|l_q rfl (qfa 0 rfl eY rfl rfl dE)<|l_q rfl (qld rfl eB) ?_
  refine mv rfl rfl<|mv rfl rfl<|mv rfl rfl<|l_q rfl (ba rfl rfl) ?_
  refine l_q rfl (ig rfl rfl rfl ct yS5 (by omega)) ?_
  refine asg rfl rfl<|asg rfl rfl<|lc<|rt<|fr2 rfl ([pt pm (.cells #[.slice (some ⟨g,0,none⟩) n cap] 189 (0,0)),aE 5 1 (.slice (some ⟨g,0,none⟩) n cap) n (bz m n)]) (.tmp rfl) (.tmp rfl) ?_
  exact⟨by rw[Int.toNat_natCast,ek ht,Nat.zero_add,show((off:Int)+(k:Int)).toNat-off=k by omega],rfl⟩
 unfold wid at hk;omega
def cX (m:Nat→Int) (o:Nat):Nat→Int
 | 0=>0
 | k+1=>cX m o k+m (o+k)*2 ^ (8*k)
theorem oK {m:Nat→Int} (hm:∀ i,0≤m i∧m i < 256) (o:Nat):∀ k,0≤cX m o k∧cX m o k < 2 ^ (8*k)
 | 0=>by simp[cX]
 | k+1=>by
  have ih:=oK hm o k
  have hb:=hm (o+k)
  have hp:(0:Int) < 2 ^ (8*k):=Int.pow_pos (by decide)
  have e:(2:Int) ^ (8*(k+1))=256*2 ^ (8*k):=by rw[show 8*(k+1)=8*k+8 by omega,Int.pow_add,Int.mul_comm];rfl
  have h1:0≤m (o+k)*2 ^ (8*k):=Int.mul_nonneg hb.1 (by omega)
  have h2:m (o+k)*2 ^ (8*k)≤255*2 ^ (8*k):=Int.mul_le_mul_of_nonneg_right (by omega) (by omega)
  simp only[cX]
  rw[e]
  omega
theorem xr {m:Nat→Int} (hm:∀ i,0≤m i∧m i < 256) (o j:Nat) (hj:j < 8):
  bits .or .u64 (cX m o j) (IntKind.u64.wrap (m (o+j)*2 ^ min (8*(j:Int)).toNat IntKind.u64.bits))=cX m o (j+1):=by
 have hl:=oK hm o j
 have hb:=hm (o+j)
 have hmin:min (8*(j:Int)).toNat IntKind.u64.bits=8*j:=by
  show min _ 64=_
  omega
 have hp:(2:Int) ^ (8*j)≤2 ^ 56:=by
  have h1:(2:Nat) ^ (8*j)≤2 ^ 56:=Nat.pow_le_pow_right (by decide) (by omega)
  have:=bW (8*j)
  have h2:((2:Nat) ^ (8*j):Int)≤((2 ^ 56:Nat):Int):=by exact_mod_cast h1
  simpa using h2
 have hp0:(0:Int) < 2 ^ (8*j):=Int.pow_pos (by decide)
 have h1:0≤m (o+j)*2 ^ (8*j):=Int.mul_nonneg hb.1 (by omega)
 have h2:m (o+j)*2 ^ (8*j)≤255*2 ^ (8*j):=Int.mul_le_mul_of_nonneg_right (by omega) (by omega)
 rw[hmin,wrap_u64 (by omega),u64_or _ _ hl.1 (by omega) h1 (by omega)]
 obtain⟨c,hc⟩:=Int.eq_ofNat_of_zero_le hb.1
 obtain⟨d,hd⟩:=Int.eq_ofNat_of_zero_le hl.1
 have hpc:=bW (8*j)
 have hy:d < 2 ^ (8*j):=by have:=hl.2;rw[hd,← hpc] at this;exact_mod_cast this
 have hx:(m (o+j)*2 ^ (8*j)).toNat=c*2 ^ (8*j):=by
  rw[hc,← hpc]
  have:((c:Int)*((2 ^ (8*j):Nat):Int))=((c*2 ^ (8*j):Nat):Int):=by simp
  rw[this,Int.toNat_natCast]
 rw[hx,hd,Int.toNat_natCast,Nat.or_comm,nat_join (8*j) _ _ (Nat.mul_mod_left _ _) hy]
 simp only[cX,hd,hc]
 rw[← hpc]
 simp only[Int.natCast_add,Int.natCast_mul]
 omega
theorem Load_ok (pm g n cap off k:Nat) (m:Nat→Int) (hm:∀ i,0≤m i∧m i < 256) (hn:n≤134217728) (hc:n≤cap) (hk:wid k) (ho:off+k≤n):
  aG Tryz.prog 169 #[.pointer (some ⟨pm,0,none⟩),.int .i64 off,.int .i64 k] [pt pm (.cells #[.slice (some ⟨g,0,none⟩) n cap] 189 (0,0)),aE 5 1 (.slice (some ⟨g,0,none⟩) n cap) n (bz m n)] (fun v L=>v=.tuple #[.int .u64 (cX m off k),.int .i64 0]∧L= [pt pm (.cells #[.slice (some ⟨g,0,none⟩) n cap] 189 (0,0)),aE 5 1 (.slice (some ⟨g,0,none⟩) n cap) n (bz m n)]):=by
 have hk8:1≤k∧k≤8:=by unfold wid at hk;omega
 refine aq F2 Tryz.func169 rfl rfl rfl fun Fr w0=>aR ?_
 refine sr<|asg rfl rfl<|asg rfl rfl<|lz<|mv rfl rfl<|mv rfl rfl<|mv rfl rfl<|lc1 rfl rfl rfl (number_ok pm g n cap off k m hn hc hk ho) ?_
 refine mv rfl rfl<|l_q rfl (aa rfl ga) ?_
 refine l_q rfl (aa rfl ga) ?_
 refine asg rfl rfl<|asg rfl rfl<|lc<|ah<|sr<|mv rfl rfl<|l_q rfl (qi rfl rfl (aI ·))<|lc<|aA rfl (fun z=>?_) fun z=>?_
 ·exact absurd rfl z
 refine al<|nz<|asg rfl rfl<|lc<|ah<|sr<|mv rfl rfl<|l_q rfl (ql rfl ct)<|mv rfl rfl<|lc<|ay ?_
 refine bw (fun j:Nat=>j≤k) (fun j=>[(23,.slice (some ⟨g,off,none⟩) k (cap-off)),(24,.int .i64 k),(25,.int .i64 j),(10,.int .u64 (cX m off j))]) (fun _=>pt pm (.cells #[.slice (some ⟨g,0,none⟩) n cap] 189 (0,0))::aE 5 1 (.slice (some ⟨g,0,none⟩) n cap) n (bz m n)::Fr) (fun j=>k-j) 0 (by omega) ⟨rfl,rfl,rfl,rfl,trivial⟩ (Ent.refl _) ?_
 intro j hj
 have hmj:=hm (off+j)
 refine sr<|l_q rfl (qi rfl rfl (aS ·))<|lc<|ah<|aA rfl (fun h=>?_) fun h=>?_
 ·refine al<|ak<|ah<|ay<|sr<|mv rfl rfl<|l_q rfl (ax rfl rfl ct yS5 (by omega)) ?_
  apply l_q rfl
  ·apply bf rfl yA5
   ·exact tk
   rw[Int.toNat_natCast,cL (by omega)]
  refine asg rfl rfl<|asg rfl rfl<|lr<|mv rfl rfl<|mv rfl rfl<|l_q rfl (qcv rfl yU5 fB) ?_
  refine mv rfl rfl<|l_q rfl (dD rfl rfl) ?_
  apply l_q rfl
  ·apply qi rfl rfl;exact fun w=>Ar w (by omega)
  refine l_q rfl (gn rfl rfl rfl)<|asg rfl rfl<|aj<|aV<|ak<|aB<|l_q rfl (ba rfl rfl) ?_
  refine mv rfl rfl<|aj ?_
  rw[xr hm off j (by omega)]
  apply aO ((j+1))
  ·exact(show j+1≤k by omega)
  ·omega
  ·exact⟨rfl,rfl,rfl,rfl,trivial⟩
  exact en
 refine xt rfl<|nz<|mv rfl rfl<|asg rfl rfl<|asg rfl rfl<|lc<|rt ?_
 obtain rfl:j=k:=by omega
 exact fr2 rfl ([pt pm (.cells #[.slice (some ⟨g,0,none⟩) n cap] 189 (0,0)),aE 5 1 (.slice (some ⟨g,0,none⟩) n cap) n (bz m n)]) (.tmp rfl) (.tmp rfl) ⟨rfl,rfl⟩
def bG (v:Int) (i:Nat):Int:=v / 2 ^ (8*i) % 256
theorem kz (m f:Nat→Int) (o:Nat):cl m o 0 f=m:=by funext i;unfold cl;rw[if_neg (by omega)]
theorem oL {m f:Nat→Int} {n o j:Nat} {b:Int} (h:o+j < n) (hb:b=f j):(bz (cl m o j f) n).set (o+j) (.int .u8 b)=bz (cl m o (j+1) f) n:=by
 rw[sL h]
 congr 1
 funext i
 simp only[cl]
 by_cases q:i=o+j
 ·subst q;rw[if_pos rfl,if_pos (by omega),hb];congr 1;omega
 rw[if_neg q]
 by_cases q2:o≤i∧i < o+j
 ·rw[if_pos q2,if_pos (by omega)]
 rw[if_neg q2,if_neg (by omega)]
theorem sK (v:Int) (j:Nat) (hv:0≤v) (hj:j < 8):IntKind.u8.wrap (v.fdiv (2 ^ min (8*(j:Int)).toNat IntKind.u64.bits))=bG v j:=by
 have hmin:min (8*(j:Int)).toNat IntKind.u64.bits=8*j:=by
  show min _ 64=_
  omega
 have hp:(0:Int) < 2 ^ (8*j):=Int.pow_pos (by decide)
 rw[hmin,IntKind.wrap_u8',Int.fdiv_eq_ediv_of_nonneg _ (by omega)]
 rfl
theorem Store_ok (pm g n cap off k:Nat) (m:Nat→Int) (v:Int) (hv:0≤v∧v < 18446744073709551616) (hn:n≤134217728) (hc:n≤cap) (hk:wid k) (ho:off+k≤n):
  aG Tryz.prog 223 #[.pointer (some ⟨pm,0,none⟩),.int .i64 off,.int .i64 k,.int .u64 v] [pt pm (.cells #[.slice (some ⟨g,0,none⟩) n cap] 189 (0,0)),aE 5 1 (.slice (some ⟨g,0,none⟩) n cap) n (bz m n)] (fun r L=>r=.int .i64 0∧L= [pt pm (.cells #[.slice (some ⟨g,0,none⟩) n cap] 189 (0,0)),aE 5 1 (.slice (some ⟨g,0,none⟩) n cap) n (bz (cl m off k (bG v)) n)]):=by
 have hk8:1≤k∧k≤8:=by unfold wid at hk;omega
 refine aq Fg Tryz.func223 rfl rfl rfl fun Fr w0=>aR ?_
 refine sr<|asg rfl rfl<|lz<|mv rfl rfl<|mv rfl rfl<|mv rfl rfl<|lc1 rfl rfl rfl (number_ok pm g n cap off k m hn hc hk ho) ?_
 refine mv rfl rfl<|l_q rfl (aa rfl ga) ?_
 refine l_q rfl (aa rfl ga) ?_
 refine asg rfl rfl<|asg rfl rfl<|lc<|ah<|sr<|mv rfl rfl<|l_q rfl (qi rfl rfl (aI ·))<|lc<|aA rfl (fun z=>?_) fun z=>?_
 ·exact absurd rfl z
 refine al<|ak<|ah<|sr<|mv rfl rfl<|l_q rfl (ql rfl ct)<|mv rfl rfl<|lc<|ay ?_
 refine bw (fun j:Nat=>j≤k) (fun j=>[(3,.int .u64 v),(9,.slice (some ⟨g,off,none⟩) k (cap-off)),(23,.int .i64 k),(24,.int .i64 j)]) (fun j=>pt pm (.cells #[.slice (some ⟨g,0,none⟩) n cap] 189 (0,0))::aE 5 1 (.slice (some ⟨g,0,none⟩) n cap) n (bz (cl m off j (bG v)) n)::Fr) (fun j=>k-j) 0 (by omega) ⟨rfl,rfl,rfl,rfl,trivial⟩ (by rw[kz];exact Ent.refl _) ?_
 intro j hj
 refine sr<|l_q rfl (qi rfl rfl (aS ·))<|lc<|ah<|aA rfl (fun h=>?_) fun h=>?_
 ·refine al<|ak<|ah<|ay<|sr<|mv rfl rfl<|asg rfl rfl<|lr<|mv rfl rfl<|mv rfl rfl<|mv rfl rfl<|mv rfl rfl<|l_q rfl (dD rfl rfl) ?_
  apply l_q rfl
  ·apply qi rfl rfl;exact fun w=>jQ w (by omega)
  refine l_q rfl (qcv rfl fB yU5) ?_
  refine l_q rfl (ax rfl rfl ct yS5 (by omega)) ?_
  apply dr rfl rfl rfl yS5 rfl
  ·exact tk
  ·rw[Int.toNat_natCast];omega
  ·refine Eq.trans ?_ (oL (m:=m) (f:=bG v) (n:=n) (o:=off) (j:=j) (by omega) (sK v j hv.1 (by omega)));rw[Int.toNat_natCast]
  refine aj<|aV<|ak<|aB<|l_q rfl (ba rfl rfl) ?_
  refine mv rfl rfl<|aj ?_
  apply aO ((j+1))
  ·exact(show j+1≤k by omega)
  ·omega
  ·exact⟨rfl,rfl,rfl,rfl,trivial⟩
  exact en
 refine xt rfl<|nz<|asg rfl rfl<|lc<|rt ?_
 obtain rfl:j=k:=by omega
 exact fr1 rfl ([pt pm (.cells #[.slice (some ⟨g,0,none⟩) n cap] 189 (0,0)),aE 5 1 (.slice (some ⟨g,0,none⟩) n cap) n (bz (cl m off j (bG v)) n)]) (.tmp rfl) ⟨rfl,rfl⟩
theorem wa (xs:List Value) (o:Nat):lay xs o []=xs:=by simp[lay]
theorem mh (k:Nat) (b:Int):List.replicate k (.int .u8 b)=bz (fun _=>b) k:=by
 apply List.ext_getElem <;> simp[bz]
theorem kA {m f:Nat→Int} {n o k cap:Nat} (h:o+k≤n) (hc:n≤cap):lay (bz m n) (dG 0 o cap) (bz f k)=bz (cl m o k f) n:=by
 by_cases q:o < cap
 ·rw[ek q,Nat.zero_add];exact zI h
 have:k=0:=by omega
 subst this
 rw[kz]
 exact wa _ _
theorem kK {o k n cap:Nat} (h:o+k≤n) (hc:n≤cap):dG 0 o cap+k≤n:=by unfold dG;split <;> omega
theorem Fill_ok (pm g n cap off k:Nat) (m:Nat→Int) (b:Int) (hb:0≤b∧b < 256) (hn:n≤134217728) (hc:n≤cap) (ho:off+k≤n):
  aG Tryz.prog 210 #[.pointer (some ⟨pm,0,none⟩),.int .i64 off,.int .i64 k,.int .u8 b] [pt pm (.cells #[.slice (some ⟨g,0,none⟩) n cap] 189 (0,0)),aE 5 1 (.slice (some ⟨g,0,none⟩) n cap) n (bz m n)] (fun r L=>r=.int .i64 0∧L= [pt pm (.cells #[.slice (some ⟨g,0,none⟩) n cap] 189 (0,0)),aE 5 1 (.slice (some ⟨g,0,none⟩) n cap) n (bz (cl m off k (fun _=>b)) n)]):=by
 refine aq Fs Tryz.func210 rfl rfl rfl fun Fr w0=>aR ?_
 refine sr<|asg rfl rfl<|lc<|ah<|sr<|mv rfl rfl<|mv rfl rfl<|mv rfl rfl<|lc1 rfl rfl rfl (eQ pm g n cap m _ _ hn) ?_
 refine l_q rfl (cW rfl (ca ·))<|lc<|aA rfl (fun z=>?_) fun z=>?_
 ·simp at z;omega
 refine al<|nz<|mv rfl rfl<|l_q rfl (ad rfl)<|l_q rfl (qfa 0 rfl eY rfl rfl dE)<|l_q rfl (qld rfl eB) ?_
 refine mv rfl rfl<|mv rfl rfl<|mv rfl rfl<|l_q rfl (ba rfl rfl) ?_
 refine l_q rfl (ig rfl rfl rfl ct yS5 (by omega)) ?_
 refine asg rfl rfl<|lc<|ah<|sr<|mv rfl rfl<|l_q rfl (qi rfl rfl (aW ·))<|lc<|aA rfl (fun y=>?_) fun y=>?_
 ·refine sr<|mv rfl rfl ?_
  apply vY rfl rfl Tryz.underlying117 yZ5 rfl
  ·exact tk
  ·rw[Int.toNat_natCast,show((off:Int)+(k:Int)).toNat-off=k by omega];exact kK ho hc
  refine lz<|asg rfl rfl<|lc<|rt ?_
  subst y
  rw[Int.toNat_natCast,show((off:Int)+(k:Int)).toNat-off=k by omega,mh,kA ho hc]
  exact fr1 rfl ([pt pm (.cells #[.slice (some ⟨g,0,none⟩) n cap] 189 (0,0)),aE 5 1 (.slice (some ⟨g,0,none⟩) n cap) n (bz (cl m off k (fun _=>0)) n)]) (.tmp rfl) ⟨rfl,rfl⟩
 refine al<|ak<|ah<|sr<|mv rfl rfl<|l_q rfl (ql rfl ct)<|mv rfl rfl<|lc<|ay ?_
 rw[Int.toNat_natCast,show((off:Int)+(k:Int)).toNat-off=k by omega]
 refine bw (fun j:Nat=>j≤k) (fun j=>[(3,.int .u8 b),(9,.slice (some ⟨g,dG 0 off cap,none⟩) k (cap-off)),(29,.int .i64 k),(30,.int .i64 j)]) (fun j=>pt pm (.cells #[.slice (some ⟨g,0,none⟩) n cap] 189 (0,0))::aE 5 1 (.slice (some ⟨g,0,none⟩) n cap) n (bz (cl m off j (fun _=>b)) n)::Fr) (fun j=>k-j) 0 (by omega) ⟨rfl,rfl,rfl,rfl,trivial⟩ (by rw[kz];exact Ent.refl _) ?_
 intro j hj
 refine sr<|l_q rfl (qi rfl rfl (aS ·))<|lc<|ah<|aA rfl (fun h=>?_) fun h=>?_
 ·have hlt:off < cap:=by omega
  refine al<|ak<|ah<|ay<|sr<|mv rfl rfl<|asg rfl rfl<|lr<|mv rfl rfl<|mv rfl rfl<|mv rfl rfl<|l_q rfl (ax rfl rfl ct yS5 (by omega)) ?_
  apply dr rfl rfl rfl yS5 rfl
  ·exact tk
  ·simp only[Int.toNat_natCast,ek hlt,Nat.zero_add];omega
  ·refine Eq.trans ?_ (oL (m:=m) (f:=fun _=>b) (n:=n) (o:=off) (j:=j) (b:=b) (by omega) rfl);simp only[Int.toNat_natCast,ek hlt,Nat.zero_add]
  refine aj<|aV<|ak<|aB<|l_q rfl (ba rfl rfl) ?_
  refine mv rfl rfl<|aj ?_
  apply aO ((j+1))
  ·exact(show j+1≤k by omega)
  ·omega
  ·exact⟨rfl,rfl,rfl,rfl,trivial⟩
  exact en
 refine xt rfl<|nz<|asg rfl rfl<|lc<|rt ?_
 obtain rfl:j=k:=by omega
 exact fr1 rfl ([pt pm (.cells #[.slice (some ⟨g,0,none⟩) n cap] 189 (0,0)),aE 5 1 (.slice (some ⟨g,0,none⟩) n cap) n (bz (cl m off j (fun _=>b)) n)]) (.tmp rfl) ⟨rfl,rfl⟩
theorem Equal_ok (pm g n cap a b k:Nat) (m:Nat→Int) (hn:n≤134217728) (ha:a+k≤n) (hb:b+k≤n):
  aG Tryz.prog 243 #[.pointer (some ⟨pm,0,none⟩),.int .i64 a,.int .i64 b,.int .i64 k] [pt pm (.cells #[.slice (some ⟨g,0,none⟩) n cap] 189 (0,0)),aE 5 1 (.slice (some ⟨g,0,none⟩) n cap) n (bz m n)] (fun r L=>(∃ q:Bool,r=.tuple #[.bool q,.int .i64 0]∧(q=true↔∀ i,i < k→m (a+i)=m (b+i)))∧L= [pt pm (.cells #[.slice (some ⟨g,0,none⟩) n cap] 189 (0,0)),aE 5 1 (.slice (some ⟨g,0,none⟩) n cap) n (bz m n)]):=by
 refine aq E3 Tryz.func243 rfl rfl rfl fun Fr w0=>aR ?_
 refine sr<|asg rfl rfl<|asg rfl rfl<|lc<|ah<|sr<|mv rfl rfl<|mv rfl rfl<|mv rfl rfl<|lc1 rfl rfl rfl (eQ pm g n cap m _ _ hn) ?_
 refine l_q rfl (cW rfl (ca ·))<|mv rfl rfl<|bE (t:=16) rfl (fun z=>?_) fun z=>?_
 ·simp at z;omega
 refine au rfl rfl<|mv rfl rfl<|au rfl rfl<|mv rfl rfl<|au rfl rfl<|mv rfl rfl<|au rfl rfl<|lc1 rfl rfl rfl (eQ pm g n cap m _ _ hn) ?_
 refine au rfl rfl<|l_q rfl (cW rfl (ca ·))<|l_q rfl (aL rfl rfl)<|lc<|aA rfl (fun z2=>?_) fun z2=>?_
 ·simp at z2;omega
 refine al<|ak<|ah<|sr<|mv rfl rfl<|mv rfl rfl<|lc<|ay ?_
 refine bw (fun j:Nat=>j≤k∧∀ i,i < j→m (a+i)=m (b+i)) (fun j=>[(0,.pointer (some ⟨pm,0,none⟩)),(1,.int .i64 a),(2,.int .i64 b),(23,.int .i64 k),(24,.int .i64 j)]) (fun _=>pt pm (.cells #[.slice (some ⟨g,0,none⟩) n cap] 189 (0,0))::aE 5 1 (.slice (some ⟨g,0,none⟩) n cap) n (bz m n)::Fr) (fun j=>k-j) 0 ⟨by omega,by omega⟩ ⟨rfl,rfl,rfl,rfl,rfl,trivial⟩ (Ent.refl _) ?_
 rintro j ⟨hj,hall⟩
 refine sr<|l_q rfl (qi rfl rfl (aS ·))<|lc<|ah<|aA rfl (fun h=>?_) fun h=>?_
 ·refine al<|ak<|ah<|ay<|sr<|mv rfl rfl<|asg rfl rfl<|lc<|ah<|aT mixed ?_
  apply dq 0 rfl
  ·exact yq (ai rfl)
  apply dq 1 rfl
  ·exact yq (ad rfl)
  apply dq 2 rfl
  ·exact yq (qfa 0 rfl eY rfl rfl dE)
  apply dq 3 rfl
  ·exact yq (qld rfl eB)
  apply dq 4 rfl
  ·exact yq (ai rfl)
  apply dq 5 rfl
  ·exact yq (ai rfl)
  apply dq 6 rfl
  ·exact yq (ba rfl rfl)
  apply dq 7 rfl
  ·exact yq (ax rfl rfl ct yS5 (by omega))
  apply dq 8 rfl
  ·apply yq
   apply bf rfl yA5
   ·exact tk
   rw[Nat.zero_add,show((a:Int)+(j:Int)).toNat=a+j by omega,cL (by omega)]
  apply dq 9 rfl
  ·exact yq (ai rfl)
  apply dq 10 rfl
  ·exact yq (ad rfl)
  apply dq 11 rfl
  ·exact yq (qfa 0 rfl eY rfl rfl dE)
  apply dq 12 rfl
  ·exact yq (qld rfl eB)
  apply dq 13 rfl
  ·exact yq (ai rfl)
  apply dq 14 rfl
  ·exact yq (ai rfl)
  apply dq 15 rfl
  ·exact yq (ba rfl rfl)
  apply dq 16 rfl
  ·exact yq (ax rfl rfl ct yS5 (by omega))
  apply dq 17 rfl
  ·apply yq
   apply bf rfl yA5
   ·exact tk
   rw[Nat.zero_add,show((b:Int)+(j:Int)).toNat=b+j by omega,cL (by omega)]
  apply dq 18 rfl
  ·exact yq (qi rfl rfl (aI ·))
  refine bj (by kernel_rfl) ?_
  refine ak<|aA rfl (fun q=>?_) fun q=>?_
  ·refine sr<|asg rfl rfl<|asg rfl rfl<|lc<|rt<|fr2 rfl ([pt pm (.cells #[.slice (some ⟨g,0,none⟩) n cap] 189 (0,0)),aE 5 1 (.slice (some ⟨g,0,none⟩) n cap) n (bz m n)]) (.tmp rfl) (.tmp rfl) ?_
   exact⟨⟨false,rfl,by simp;exact⟨j,by omega,q⟩⟩,rfl⟩
  refine al<|aV<|ak<|aB<|l_q rfl (ba rfl rfl) ?_
  refine mv rfl rfl<|aj ?_
  apply aO ((j+1))
  ·exact⟨by omega,fun i hi=>by by_cases e:i=j;(subst e;exact Classical.not_not.1 q);exact hall i (by omega)⟩
  ·omega
  ·exact⟨rfl,rfl,rfl,rfl,rfl,trivial⟩
  exact en
 refine xt rfl<|nz<|asg rfl rfl<|asg rfl rfl<|lc<|rt ?_
 obtain rfl:j=k:=by omega
 refine fr2 rfl ([pt pm (.cells #[.slice (some ⟨g,0,none⟩) n cap] 189 (0,0)),aE 5 1 (.slice (some ⟨g,0,none⟩) n cap) n (bz m n)]) (.tmp rfl) (.tmp rfl) ?_
 exact⟨⟨true,rfl,by simpa using hall⟩,rfl⟩
def dX (m:Nat→Int) (o k:Nat):ByteArray:=⟨((List.range k).map fun i=>UInt8.ofNat (m (o+i)).toNat).toArray⟩
theorem zJ {xs ys:List Value} (h:xs.length=ys.length):lay xs 0 ys=ys:=by simp[lay,← h]
theorem yX {m:Nat→Int} {n o k:Nat} (h:o+k≤n):((bz m n).drop o).take k=bz (fun i=>m (o+i)) k:=by
 apply List.ext_getElem?
 intro i
 rw[List.getElem?_take]
 by_cases hi:i < k
 ·rw[if_pos hi,List.getElem?_drop,cL (by omega),cL hi]
 rw[if_neg hi,List.getElem?_eq_none (by rw[bL];omega)]
theorem w8 {L M:List HP} {e:TypeId} {g n cap o k:Nat} {m:Nat→Int} (h:o+k≤n) (hc:n≤cap) (ht:Take (aE e 1 (.slice (some ⟨g,0,none⟩) n cap) n (bz m n)) L M):Reads L ⟨g,dG 0 o cap,none⟩ (bz (fun i=>m (o+i)) k):=by
 by_cases q:o < cap
 ·rw[ek q,Nat.zero_add,← yX h];exact mX ht
 have:k=0:=by omega
 subst this
 intro w _ j v hv
 simp[bz] at hv
theorem Read_ok (pm g n cap off k:Nat) (m:Nat→Int) (hn:n≤134217728) (hc:n≤cap) (ho:off+k≤n):
  aG Tryz.prog 51 #[.pointer (some ⟨pm,0,none⟩),.int .i64 off,.int .i64 k] [pt pm (.cells #[.slice (some ⟨g,0,none⟩) n cap] 189 (0,0)),aE 5 1 (.slice (some ⟨g,0,none⟩) n cap) n (bz m n)]
   (fun r L=>∃ g2,r=.tuple #[.slice (some ⟨g2,0,none⟩) k k,.int .i64 0]∧L= [aE 5 1 (.slice (some ⟨g2,0,none⟩) k k) k (bz (fun i=>m (off+i)) k),pt pm (.cells #[.slice (some ⟨g,0,none⟩) n cap] 189 (0,0)),aE 5 1 (.slice (some ⟨g,0,none⟩) n cap) n (bz m n)]):=by
 refine aq Hv Tryz.func51 rfl rfl rfl fun Fr w0=>aR ?_
 refine sr<|asg rfl rfl<|asg rfl rfl<|lc<|ah<|sr<|mv rfl rfl<|mv rfl rfl<|mv rfl rfl<|lc1 rfl rfl rfl (eQ pm g n cap m _ _ hn) ?_
 refine l_q rfl (cW rfl (ca ·))<|lc<|aA rfl (fun z=>?_) fun z=>?_
 ·simp at z;omega
 refine al<|nz<|mv rfl rfl ?_
 apply c9 rfl rfl rfl ct yI5 rfl (by omega) (by omega)
 intro b15
 refine asg rfl rfl<|lz<|mv rfl rfl<|mv rfl rfl<|l_q rfl (ad rfl)<|l_q rfl (qfa 0 rfl eY rfl rfl dE)<|l_q rfl (qld rfl eB) ?_
 refine mv rfl rfl<|l_q rfl (ft rfl rfl ct yS5 (by omega)) ?_
 apply rz (bz (fun i=>m (off+i)) k) rfl rfl rfl Tryz.underlying117 (by obtain⟨i,h1,_,h2,_⟩:=yI5;exact⟨i,h1,h2⟩)
 ·exact tk
 ·rw[bL,Int.toNat_natCast,Int.toNat_natCast];exact(Nat.min_eq_right (by omega)).symm
 ·rw[Int.toNat_natCast];apply w8 ho hc;exact tk
 ·rw[bL,Int.toNat_natCast];omega
 ·exact mq _ _
 refine lz<|mv rfl rfl<|asg rfl rfl<|asg rfl rfl<|lc<|rt ?_
 rw[Int.toNat_natCast,zJ (by simp[bL])]
 exact fr2 rfl ([aE 5 1 (.slice (some ⟨b15,0,none⟩) k k) k (bz (fun i=>m (off+i)) k),pt pm (.cells #[.slice (some ⟨g,0,none⟩) n cap] 189 (0,0)),aE 5 1 (.slice (some ⟨g,0,none⟩) n cap) n (bz m n)]) (.tmp rfl) (.tmp rfl) ⟨_,rfl,rfl⟩
theorem New_ok (n:Nat) (hn:n≤134217728):aG Tryz.prog 71 #[.int .i64 n] [] (fun r L=>∃ pm g,r=.tuple #[.pointer (some ⟨pm,0,none⟩),.int .i64 0]∧L= [pt pm (.cells #[.slice (some ⟨g,0,none⟩) n n] 189 (0,0)),aE 5 1 (.slice (some ⟨g,0,none⟩) n n) n (bz (fun _=>0) n)]):=by
 refine aq Hn Tryz.func71 rfl rfl rfl fun Fr w0=>aR ?_
 refine sr<|asg rfl rfl<|asg rfl rfl<|lc<|ah<|sr<|mv rfl rfl<|l_q rfl (qi rfl rfl (aS ·))<|mv rfl rfl<|bE (t:=6) rfl (fun z=>?_) fun z=>?_
 ·omega
 refine au rfl rfl<|mv rfl rfl<|au rfl rfl<|l_q rfl (qi rfl rfl (cT ·))<|l_q rfl (aL rfl rfl)<|lc<|aA rfl (fun z2=>?_) fun z2=>?_
 ·omega
 refine al<|nz<|mv rfl rfl ?_
 apply c9 rfl rfl rfl ct yI5 rfl (by omega) (by omega)
 intro b11
 apply l_q rfl
 ·apply aQ rfl El D9
  apply aF.one
  ·repeat (first | exact aH.here | apply aH.there)
  ·rfl
  ·exact sa
  exact aF.nil
 refine aP rfl rfl fun b13=>asg rfl rfl<|asg rfl rfl<|lc<|rt ?_
 rw[Int.toNat_natCast,mh]
 exact fr2 rfl ([pt b13 (.cells #[.slice (some ⟨b11,0,none⟩) n n] 189 (0,0)),aE 5 1 (.slice (some ⟨b11,0,none⟩) n n) n (bz (fun _=>0) n)]) (.tmp rfl) (.tmp rfl) ⟨_,_,rfl,rfl⟩
def fc (m:Nat→Int) (n:Nat):Nat→Int:=fun i=>if i < n then m i else 0
theorem xy {m:Nat→Int} {n s:Nat} (h:n≤s):lay (List.replicate s (.int .u8 0)) 0 (bz m n)=bz (fc m n) s:=by
 apply List.ext_getElem?
 intro i
 rw[jJ (by simp[bL];exact h),bL]
 by_cases hi:i < s
 ·rw[cL hi]
  by_cases q:i < n
  ·rw[if_pos (by omega),Nat.sub_zero,cL q];simp[fc,q]
  rw[if_neg (by omega)];simp[fc,q,hi]
 rw[if_neg (by omega),List.getElem?_eq_none (by simp;omega),List.getElem?_eq_none (by rw[bL];omega)]
theorem xw {m:Nat→Int} {n s cap:Nat} {ys:List Value} (hy:ys.length=s-n) (h:n≤s) (hc:s≤cap):lay (bz m n ++ ys) (dG 0 n cap) (List.replicate (s-n) (.int .u8 0))=bz (fc m n) s:=by
 by_cases q:n < cap
 ·rw[ek q,Nat.zero_add]
  apply List.ext_getElem?
  intro i
  rw[jJ (by simp[bL,hy])]
  by_cases hi:i < s
  ·rw[cL hi,List.length_replicate]
   by_cases q2:i < n
   ·rw[if_neg (by omega),List.getElem?_append_left (by rw[bL];exact q2),cL q2];simp[fc,q2]
   rw[if_pos (by omega),List.getElem?_replicate,if_pos (by omega)];simp[fc,q2]
  rw[List.length_replicate,if_neg (by omega),List.getElem?_eq_none (by simp[bL,hy];omega),List.getElem?_eq_none (by rw[bL];omega)]
 have e1:s=n:=by omega
 subst e1
 have e2:ys= []:=List.eq_nil_of_length_eq_zero (by omega)
 subst e2
 rw[Nat.sub_self,List.replicate_zero,wa,List.append_nil]
 apply List.ext_getElem?
 intro i
 by_cases hi:i < s
 ·rw[cL hi,cL hi];simp[fc,hi]
 rw[List.getElem?_eq_none (by rw[bL];omega),List.getElem?_eq_none (by rw[bL];omega)]
theorem uN {e:TypeId} {g n n2 cap:Nat} {xs:List Value} {A:HP} {M:List HP} {w:World} (h:Sat (stars (A::aE e 1 (.slice (some ⟨g,0,none⟩) n cap) n xs::M)) w) (hle:n≤n2) (hc:n2≤cap):
  ∃ ys:{ys:List Value // ys.length=n2-n},Sat (stars (A::aE e 1 (.slice (some ⟨g,0,none⟩) n2 cap) n2 (xs ++ ys.1)::M)) w:=by
 obtain⟨cur,c1,c2,c3,c4,c5,hs⟩:=il (h.perm (.swap _ _ _))
 have hcl:cur.toList.length=cap:=by rw[Array.length_toList,c1];omega
 have key:cur.toList.take n2=xs ++ (cur.toList.take n2).drop n:=by
  rw[← c2,Nat.mul_one]
  have:cur.toList.take n=(cur.toList.take n2).take n:=by rw[List.take_take];congr 1;omega
  rw[this,List.take_append_drop]
 refine⟨⟨(cur.toList.take n2).drop n,by simp[hcl];omega⟩,?_⟩
 refine(dz (n:=n2) hs ?_ hc c4 c1 ?_).perm (.swap _ _ _)
 ·simp[c5,hcl];omega
 rw[Nat.mul_one];exact key
theorem ed {L M:List HP} {e:TypeId} {g n cap:Nat} {m:Nat→Int} (ht:Take (aE e 1 (.slice (some ⟨g,0,none⟩) n cap) n (bz m n)) L M):Reads L ⟨g,0,none⟩ (bz m n):=by
 have:=mX (o:=0) (k:=n) ht
 rwa [List.drop_zero,List.take_of_length_le (by rw[bL];omega)] at this
theorem Grow_ok (pm g n cap s:Nat) (m:Nat→Int) (hn:n≤134217728) (hc:n≤cap) (hcm:cap≤134217728) (h1:n≤s) (h2:s≤134217728):
  aG Tryz.prog 211 #[.pointer (some ⟨pm,0,none⟩),.int .i64 s] [pt pm (.cells #[.slice (some ⟨g,0,none⟩) n cap] 189 (0,0)),aE 5 1 (.slice (some ⟨g,0,none⟩) n cap) n (bz m n)] (fun r L=>∃ g2 cap2,r=.int .i64 0∧s≤cap2∧cap2≤134217728∧L= [pt pm (.cells #[.slice (some ⟨g2,0,none⟩) s cap2] 189 (0,0)),aE 5 1 (.slice (some ⟨g2,0,none⟩) s cap2) s (bz (fc m n) s)]):=by
 refine aq Fq Tryz.func211 rfl rfl rfl fun Fr w0=>aR ?_
 refine sr<|asg rfl rfl<|lc<|ah<|sr<|mv rfl rfl<|mv rfl rfl<|l_q rfl (ad rfl)<|l_q rfl (qfa 0 rfl eY rfl rfl dE)<|l_q rfl (qld rfl eB) ?_
 refine l_q rfl (ql rfl ct)<|l_q rfl (qi rfl rfl (aS ·))<|mv rfl rfl<|bE (t:=14) rfl (fun z=>?_) fun z=>?_
 ·omega
 refine au rfl rfl<|mv rfl rfl<|au rfl rfl<|l_q rfl (qi rfl rfl (cT ·))<|l_q rfl (aL rfl rfl)<|lc<|aA rfl (fun z2=>?_) fun z2=>?_
 ·omega
 refine al<|ak<|ah<|sr<|mv rfl rfl<|mv rfl rfl<|l_q rfl (ad rfl)<|l_q rfl (qfa 0 rfl eY rfl rfl dE)<|l_q rfl (qld rfl eB) ?_
 refine l_q rfl (EG rfl (fun w=>xU ct w))<|l_q rfl (qi rfl rfl (cT ·))<|lc<|aA rfl (fun z3=>?_) fun z3=>?_
 ·refine sr<|mv rfl rfl<|mv rfl rfl<|mv rfl rfl<|l_q rfl (ad rfl)<|l_q rfl (qfa 0 rfl eY rfl rfl dE)<|l_q rfl (qld rfl eB) ?_
  refine l_q rfl (ql rfl ct)<|l_q rfl (dD rfl rfl) ?_
  refine l_q rfl (Du rfl rfl)<|l_q rfl (Dt rfl rfl) ?_
  apply c9 rfl rfl rfl ct yI5 rfl (by omega) (by omega)
  intro b35
  refine asg rfl rfl<|lz<|mv rfl rfl<|mv rfl rfl<|l_q rfl (ad rfl)<|l_q rfl (qfa 0 rfl eY rfl rfl dE)<|l_q rfl (qld rfl eB) ?_
  apply rz (bz m n) rfl rfl rfl Tryz.underlying117 (by obtain⟨i,h1,_,h2,_⟩:=yI5;exact⟨i,h1,h2⟩)
  ·exact tk
  ·rw[bL,Int.toNat_natCast];exact(Nat.min_eq_left h1).symm
  ·exact ed (by exact tk)
  ·rw[bL,Int.toNat_natCast];omega
  ·exact mq _ _
  refine lz<|mv rfl rfl<|mv rfl rfl<|l_q rfl (ad rfl)<|l_q rfl (qfa 0 rfl eY rfl rfl dE)<|st rfl rfl rfl dE rfl ?_
  refine lz<|asg rfl rfl<|lc<|rt ?_
  rw[Int.toNat_natCast,xy h1]
  obtain⟨c2,hc2⟩:∃ c2:Nat,(if(if(s:Int) < 2*(n:Int) then 2*(n:Int) else(s:Int)) < 134217728 then if(s:Int) < 2*(n:Int) then 2*(n:Int) else(s:Int) else 134217728).toNat=c2:=⟨_,rfl⟩
  have hb:s≤c2∧c2≤134217728:=by subst hc2;split <;> omega
  rw[hc2]
  exact fr1 rfl ([pt pm (.cells #[.slice (some ⟨b35,0,none⟩) s c2] 189 (0,0)),aE 5 1 (.slice (some ⟨b35,0,none⟩) s c2) s (bz (fc m n) s)]) (.tmp rfl) ⟨_,_,rfl,hb.1,hb.2,rfl⟩
 refine jw (X:={ys:List Value // ys.length=s-n}) (LL:=fun ys=>pt pm (.cells #[.slice (some ⟨g,0,none⟩) n cap] 189 (0,0))::aE 5 1 (.slice (some ⟨g,0,none⟩) s cap) s (bz m n ++ ys.1)::Fr) (fun w hs=>uN hs h1 (by omega)) fun ys=>?_
 refine al<|nz<|mv rfl rfl<|l_q rfl (ad rfl)<|l_q rfl (qfa 0 rfl eY rfl rfl dE)<|l_q rfl (qld rfl eB) ?_
 refine l_q rfl (ql rfl ct)<|asg rfl rfl<|lz<|mv rfl rfl<|mv rfl rfl<|l_q rfl (ad rfl)<|l_q rfl (qfa 0 rfl eY rfl rfl dE)<|l_q rfl (qld rfl eB) ?_
 refine mv rfl rfl<|l_q rfl (qm rfl rfl ct yS5 (by omega)) ?_
 refine l_q rfl (ad rfl)<|l_q rfl (qfa 0 rfl eY rfl rfl dE)<|st rfl rfl rfl dE rfl ?_
 refine lz<|mv rfl rfl<|l_q rfl (ad rfl)<|l_q rfl (qfa 0 rfl eY rfl rfl dE)<|l_q rfl (qld rfl eB) ?_
 refine mv rfl rfl<|l_q rfl (ft rfl rfl ct yS5 (by omega)) ?_
 apply vY rfl rfl Tryz.underlying117 yZ5 rfl
 ·exact tk
 ·rw[Int.toNat_natCast,Int.toNat_natCast];exact kK (by omega) (by omega)
 refine lz<|asg rfl rfl<|lc<|rt ?_
 rw[Int.toNat_natCast,Int.toNat_natCast,xw ys.2 h1 (by omega)]
 refine fr1 rfl ([pt pm (.cells #[.slice (some ⟨g,0,none⟩) s cap] 189 (0,0)),aE 5 1 (.slice (some ⟨g,0,none⟩) s cap) s (bz (fc m n) s)]) (.tmp rfl) ?_
 exact⟨_,_,rfl,by omega,hcm,rfl⟩
end Mem
end Go.Proofs.YthkajgkagnenbaaGreatDoor
