import Derived.Test.YthkajgkagnenbaaGreatDoorInsert
set_option linter.unusedVariables false
set_option linter.unusedSimpArgs false
set_option linter.unusedSectionVars false
set_option maxRecDepth 100000
namespace Go.Proofs.YthkajgkagnenbaaGreatDoor
namespace Mem
open Go.RowKit Go.Proofs Eng Ty Bits
def cu (m:Nat->Int) (n:Nat):List Value:=(List.range n).map fun i=>.int .u8 (m i)
theorem cH (m:Nat->Int) (n:Nat):(cu m n).length=n:=by simp[cu]
theorem dW {m:Nat->Int} {n i:Nat} (h:i < n):(cu m n)[i]?=some (.int .u8 (m i)):=by simp[cu,h]
theorem uK (m:Nat->Int) (n:Nat):∀ v∈cu m n,v.oneCell'=true:=fun v hv=>by simp only[cu,List.mem_map] at hv;obtain⟨_,_,rfl⟩:=hv;rfl
def dh (m:Nat->Int) (o k:Nat) (f:Nat->Int):Nat->Int:=fun i=>if o<=i/\i < o+k then f (i-o) else m i
theorem Bz {m f:Nat->Int} {n o k:Nat} (h:o+k<=n):lay (cu m n) o (cu f k)=cu (dh m o k f) n:=by
 apply List.ext_getElem?
 intro i
 rw[kW (by simp only[cH];exact h),cH]
 by_cases hi:i < n
 ·rw[dW (m:=dh m o k f) hi]
  by_cases hk:o<=i/\i < o+k
  ·rw[if_pos hk,dW (by omega)];simp[dh,hk]
  rw[if_neg hk,dW hi];simp only[dh];rw[if_neg hk]
 rw[if_neg (by omega),List.getElem?_eq_none (by rw[cH];omega),List.getElem?_eq_none (by rw[cH];omega)]
theorem AS {m:Nat->Int} {n o:Nat} {b:Int} (h:o < n):(cu m n).set o (.int .u8 b)=cu (fun i=>if i=o then b else m i) n:=by
 apply List.ext_getElem?
 intro i
 rw[List.getElem?_set,cH]
 by_cases hi:i < n
 ·rw[dW hi,dW hi]
  by_cases q:o=i
  ·subst q;simp[h]
  rw[if_neg q,if_neg (Ne.symm q)]
 rw[List.getElem?_eq_none (by rw[cH];omega),List.getElem?_eq_none (by rw[cH];omega)]
 split
 ·simp;omega
 rfl
theorem Gf (pm g n cap:Nat) (m:Nat->Int):aK Tryz.prog 38 #[.pointer (some ⟨pm,0,none⟩)] [pt pm (.cells #[.slice (some ⟨g,0,none⟩) n cap] 189 (0,0)),aF 5 1 (.slice (some ⟨g,0,none⟩) n cap) n (cu m n)] (fun v L=>v=.int .i64 (n:Nat)/\L= [pt pm (.cells #[.slice (some ⟨g,0,none⟩) n cap] 189 (0,0)),aF 5 1 (.slice (some ⟨g,0,none⟩) n cap) n (cu m n)]):=by
 refine au Kh Tryz.func38 rfl rfl rfl fun Fr w0=>aZ ?_
 refine sr<|ar O O<|lz<|mv O O<|ad O (ae O)<|ad O (aE 0 O fM O O ec)<|ad O (aI O fk) ?_
 exact ad O (ql O dG)<|ar O O<|lc<|rt<|cN O ([pt pm (.cells #[.slice (some ⟨g,0,none⟩) n cap] 189 (0,0)),aF 5 1 (.slice (some ⟨g,0,none⟩) n cap) n (cu m n)]) (.tmp rfl) ⟨rfl,rfl⟩
theorem fF (pm g n cap:Nat) (m:Nat->Int) (off k:Int) (hn:n<=134217728):
  aK Tryz.prog 129 #[.pointer (some ⟨pm,0,none⟩),.int .i64 off,.int .i64 k] [pt pm (.cells #[.slice (some ⟨g,0,none⟩) n cap] 189 (0,0)),aF 5 1 (.slice (some ⟨g,0,none⟩) n cap) n (cu m n)] (fun v L=>v=.bool (decide (0<=off/\0<=k/\off+k<=(n:Int)))/\L= [pt pm (.cells #[.slice (some ⟨g,0,none⟩) n cap] 189 (0,0)),aF 5 1 (.slice (some ⟨g,0,none⟩) n cap) n (cu m n)]):=by
 refine au I1 Tryz.func129 rfl rfl rfl fun Fr w0=>aZ ?_
 refine sr<|ar O O<|lz<|mv O O<|ad O (qi O O (iC ·))<|mv O O<|bQ (t:=9) rfl (fun h=>?_) fun h=>?_
 ·refine aA O O<|mv O O<|aA O O<|ad O (qi O O (iC ·))<|ad O (aS O O)<|mv O O<|bQ (t:=13) rfl (fun h2=>?_) fun h2=>?_
  ·refine aA O O<|mv O O<|aA O O<|mv O O<|aA O O<|ad O (ae O)<|aA O O<|ad O (aE 0 O fM O O ec)<|aA O O<|ad O (aI O fk) ?_
   refine aA O O<|ad O (ql O dG)<|aA O O<|ad O (qi O O (iB ·))<|ad O (aS O O)<|mv O O<|bQ (t:=22) rfl (fun h3=>?_) fun h3=>?_
   ·refine aA O O<|mv O O<|aA O O<|mv O O<|aA O O<|ad O (ae O)<|aA O O<|ad O (aE 0 O fM O O ec)<|aA O O<|ad O (aI O fk) ?_
    refine aA O O<|ad O (ql O dG)<|aA O O<|mv O O<|aA O O<|ad O (eJ O O) ?_
    refine aA O O<|ad O (qi O O (iB ·))<|ad O (aS O O)<|ar O O<|lc<|rt<|cN O ([pt pm (.cells #[.slice (some ⟨g,0,none⟩) n cap] 189 (0,0)),aF 5 1 (.slice (some ⟨g,0,none⟩) n cap) n (cu m n)]) (.tmp rfl) ?_
    exact⟨by congr 1;rw[decide_eq_decide];omega,rfl⟩
   refine ax O O O O<|ax O O O O<|ax O O O O<|ax O O O O<|ax O O O O<|ax O O O O<|ax O O O O<|ax O O O O<|ax O O O O<|ad O (aS O O)<|ar O O<|lc<|rt<|cN O ([pt pm (.cells #[.slice (some ⟨g,0,none⟩) n cap] 189 (0,0)),aF 5 1 (.slice (some ⟨g,0,none⟩) n cap) n (cu m n)]) (.tmp rfl) ?_
   exact⟨by rw[decide_eq_false (by omega)],rfl⟩
  refine ax O O O O<|ax O O O O<|ax O O O O<|ax O O O O<|ax O O O O<|ax O O O O<|ax O O O O<|ad O (aS O O)<|mv O O<|ax O O O O<|ax O O O O<|ax O O O O<|ax O O O O<|ax O O O O<|ax O O O O<|ax O O O O<|ax O O O O<|ax O O O O<|ad O (aS O O)<|ar O O<|lc<|rt<|cN O ([pt pm (.cells #[.slice (some ⟨g,0,none⟩) n cap] 189 (0,0)),aF 5 1 (.slice (some ⟨g,0,none⟩) n cap) n (cu m n)]) (.tmp rfl) ?_
  exact⟨by rw[decide_eq_false (by omega)],rfl⟩
 refine ax O O O O<|ax O O O O<|ad O (aS O O)<|mv O O<|ax O O O O<|ax O O O O<|ax O O O O<|ax O O O O<|ax O O O O<|ax O O O O<|ax O O O O<|ad O (aS O O)<|mv O O<|ax O O O O<|ax O O O O<|ax O O O O<|ax O O O O<|ax O O O O<|ax O O O O<|ax O O O O<|ax O O O O<|ax O O O O<|ad O (aS O O)<|ar O O<|lc<|rt<|cN O ([pt pm (.cells #[.slice (some ⟨g,0,none⟩) n cap] 189 (0,0)),aF 5 1 (.slice (some ⟨g,0,none⟩) n cap) n (cu m n)]) (.tmp rfl) ?_
 exact⟨by rw[decide_eq_false (by omega)],rfl⟩
def wid (k:Nat):Prop:=k=1\/k=2\/k=4\/k=8
theorem number_ok (pm g n cap off k:Nat) (m:Nat->Int) (hn:n<=134217728) (hc:n<=cap) (hk:wid k) (ho:off+k<=n):
  aK Tryz.prog 217 #[.pointer (some ⟨pm,0,none⟩),.int .i64 off,.int .i64 k] [pt pm (.cells #[.slice (some ⟨g,0,none⟩) n cap] 189 (0,0)),aF 5 1 (.slice (some ⟨g,0,none⟩) n cap) n (cu m n)] (fun v L=>v=.tuple #[.slice (some ⟨g,off,none⟩) k (cap-off),.int .i64 0]/\L= [pt pm (.cells #[.slice (some ⟨g,0,none⟩) n cap] 189 (0,0)),aF 5 1 (.slice (some ⟨g,0,none⟩) n cap) n (cu m n)]):=by
 have hk8:1<=k/\k<=8:=by unfold wid at hk;omega
 have ht:off < cap:=by omega
 refine au HN Tryz.func217 rfl rfl rfl fun Fr w0=>aZ ?_
 refine sr<|ar O O<|ar O O<|lc<|al<|sr<|mv O O<|lc<|aB<|al<|sr<|ad O (qi O O (bN ·))<|ar O O<|lc<|oE (t:=9) rfl (fun h1=>?_) fun h1=>?_
 ·refine bk O<|aq<|an<|bk O<|aq<|bz<|an<|al<|sr<|mv O O<|mv O O<|mv O O<|bF O O O (fF pm g n cap m _ _ hn) ?_
  refine ad O (db O (cy ·))<|lc<|aG O (fun z=>?_) fun z=>?_
  ·simp at z;omega
  refine aq<|nz<|mv O O<|ad O (ae O)<|ad O (aE 0 O fM O O ec)<|ad O (aI O fk) ?_
  refine mv O O<|mv O O<|mv O O<|ad O (bn O O) ?_
  refine ad O (jh O O O dG sn (by omega)) ?_
  refine ar O O<|ar O O<|lc<|rt<|ft O ([pt pm (.cells #[.slice (some ⟨g,0,none⟩) n cap] 189 (0,0)),aF 5 1 (.slice (some ⟨g,0,none⟩) n cap) n (cu m n)]) (.tmp rfl) (.tmp rfl) ?_
  exact⟨by rw[Int.toNat_natCast,fe ht,Nat.zero_add,show((off:Int)+(k:Int)).toNat-off=k by omega],rfl⟩
 refine cQ O<|sr<|ad O (qi O O (bN ·))<|ar O O<|lc<|oE (t:=9) rfl (fun h2=>?_) fun h2=>?_
 ·refine bk O<|aq<|an<|bk O<|aq<|bz<|an<|al<|sr<|mv O O<|mv O O<|mv O O<|bF O O O (fF pm g n cap m _ _ hn) ?_
  refine ad O (db O (cy ·))<|lc<|aG O (fun z=>?_) fun z=>?_
  ·simp at z;omega
  refine aq<|nz<|mv O O<|ad O (ae O)<|ad O (aE 0 O fM O O ec)<|ad O (aI O fk) ?_
  refine mv O O<|mv O O<|mv O O<|ad O (bn O O) ?_
  refine ad O (jh O O O dG sn (by omega)) ?_
  refine ar O O<|ar O O<|lc<|rt<|ft O ([pt pm (.cells #[.slice (some ⟨g,0,none⟩) n cap] 189 (0,0)),aF 5 1 (.slice (some ⟨g,0,none⟩) n cap) n (cu m n)]) (.tmp rfl) (.tmp rfl) ?_
  exact⟨by rw[Int.toNat_natCast,fe ht,Nat.zero_add,show((off:Int)+(k:Int)).toNat-off=k by omega],rfl⟩
 refine cQ O<|sr<|ad O (qi O O (bN ·))<|ar O O<|lc<|oE (t:=9) rfl (fun h4=>?_) fun h4=>?_
 ·refine bk O<|aq<|an<|bk O<|aq<|bz<|an<|al<|sr<|mv O O<|mv O O<|mv O O<|bF O O O (fF pm g n cap m _ _ hn) ?_
  refine ad O (db O (cy ·))<|lc<|aG O (fun z=>?_) fun z=>?_
  ·simp at z;omega
  refine aq<|nz<|mv O O<|ad O (ae O)<|ad O (aE 0 O fM O O ec)<|ad O (aI O fk) ?_
  refine mv O O<|mv O O<|mv O O<|ad O (bn O O) ?_
  refine ad O (jh O O O dG sn (by omega)) ?_
  refine ar O O<|ar O O<|lc<|rt<|ft O ([pt pm (.cells #[.slice (some ⟨g,0,none⟩) n cap] 189 (0,0)),aF 5 1 (.slice (some ⟨g,0,none⟩) n cap) n (cu m n)]) (.tmp rfl) (.tmp rfl) ?_
  exact⟨by rw[Int.toNat_natCast,fe ht,Nat.zero_add,show((off:Int)+(k:Int)).toNat-off=k by omega],rfl⟩
 refine cQ O<|aD<|ad O (qi O O (bN ·))<|ar O O<|lc<|oE (t:=9) rfl (fun h8=>?_) fun h8=>?_
 ·refine bk O<|aq<|bz<|an<|al<|sr<|mv O O<|mv O O<|mv O O<|bF O O O (fF pm g n cap m _ _ hn) ?_
  refine ad O (db O (cy ·))<|lc<|aG O (fun z=>?_) fun z=>?_
  ·simp at z;omega
  refine aq<|nz<|mv O O<|ad O (ae O)<|ad O (aE 0 O fM O O ec)<|ad O (aI O fk) ?_
  refine mv O O<|mv O O<|mv O O<|ad O (bn O O) ?_
  refine ad O (jh O O O dG sn (by omega)) ?_
  refine ar O O<|ar O O<|lc<|rt<|ft O ([pt pm (.cells #[.slice (some ⟨g,0,none⟩) n cap] 189 (0,0)),aF 5 1 (.slice (some ⟨g,0,none⟩) n cap) n (cu m n)]) (.tmp rfl) (.tmp rfl) ?_
  exact⟨by rw[Int.toNat_natCast,fe ht,Nat.zero_add,show((off:Int)+(k:Int)).toNat-off=k by omega],rfl⟩
 unfold wid at hk;omega
def dU (m:Nat->Int) (o:Nat):Nat->Int
 | 0=>0
 | k+1=>dU m o k+m (o+k)*2 ^ (8*k)
theorem uO {m:Nat->Int} (hm:∀ i,0<=m i/\m i < 256) (o:Nat):∀ k,0<=dU m o k/\dU m o k < 2 ^ (8*k)
 | 0=>by simp[dU]
 | k+1=>by
  have ih:=uO hm o k
  have hb:=hm (o+k)
  have hp:(0:Int) < 2 ^ (8*k):=Int.pow_pos (by decide)
  have e:(2:Int) ^ (8*(k+1))=256*2 ^ (8*k):=by rw[show 8*(k+1)=8*k+8 by omega,Int.pow_add,Int.mul_comm];rfl
  have h1:0<=m (o+k)*2 ^ (8*k):=Int.mul_nonneg hb.1 (by omega)
  have h2:m (o+k)*2 ^ (8*k)<=255*2 ^ (8*k):=Int.mul_le_mul_of_nonneg_right (by omega) (by omega)
  simp only[dU]
  rw[e]
  omega
theorem za {m:Nat->Int} (hm:∀ i,0<=m i/\m i < 256) (o j:Nat) (hj:j < 8):
  bits .or .u64 (dU m o j) (IntKind.u64.wrap (m (o+j)*2 ^ min (8*(j:Int)).toNat IntKind.u64.bits))=dU m o (j+1):=by
 have hl:=uO hm o j
 have hb:=hm (o+j)
 have hmin:min (8*(j:Int)).toNat IntKind.u64.bits=8*j:=by
  show min _ 64=_
  omega
 have hp:(2:Int) ^ (8*j)<=2 ^ 56:=by
  have h1:(2:Nat) ^ (8*j)<=2 ^ 56:=Nat.pow_le_pow_right (by decide) (by omega)
  have:=cr (8*j)
  have h2:((2:Nat) ^ (8*j):Int)<=((2 ^ 56:Nat):Int):=by exact_mod_cast h1
  simpa using h2
 have hp0:(0:Int) < 2 ^ (8*j):=Int.pow_pos (by decide)
 have h1:0<=m (o+j)*2 ^ (8*j):=Int.mul_nonneg hb.1 (by omega)
 have h2:m (o+j)*2 ^ (8*j)<=255*2 ^ (8*j):=Int.mul_le_mul_of_nonneg_right (by omega) (by omega)
 rw[hmin,wrap_u64 (by omega),u64_or _ _ hl.1 (by omega) h1 (by omega)]
 obtain⟨c,hc⟩:=Int.eq_ofNat_of_zero_le hb.1
 obtain⟨d,hd⟩:=Int.eq_ofNat_of_zero_le hl.1
 have hpc:=cr (8*j)
 have hy:d < 2 ^ (8*j):=by have:=hl.2;rw[hd,<- hpc] at this;exact_mod_cast this
 have hx:(m (o+j)*2 ^ (8*j)).toNat=c*2 ^ (8*j):=by
  rw[hc,<- hpc]
  have:((c:Int)*((2 ^ (8*j):Nat):Int))=((c*2 ^ (8*j):Nat):Int):=by simp
  rw[this,Int.toNat_natCast]
 rw[hx,hd,Int.toNat_natCast,Nat.or_comm,nat_join (8*j) _ _ (Nat.mul_mod_left _ _) hy]
 simp only[dU,hd,hc]
 rw[<- hpc]
 simp only[Int.natCast_add,Int.natCast_mul]
 omega
theorem Load_ok (pm g n cap off k:Nat) (m:Nat->Int) (hm:∀ i,0<=m i/\m i < 256) (hn:n<=134217728) (hc:n<=cap) (hk:wid k) (ho:off+k<=n):
  aK Tryz.prog 169 #[.pointer (some ⟨pm,0,none⟩),.int .i64 off,.int .i64 k] [pt pm (.cells #[.slice (some ⟨g,0,none⟩) n cap] 189 (0,0)),aF 5 1 (.slice (some ⟨g,0,none⟩) n cap) n (cu m n)] (fun v L=>v=.tuple #[.int .u64 (dU m off k),.int .i64 0]/\L= [pt pm (.cells #[.slice (some ⟨g,0,none⟩) n cap] 189 (0,0)),aF 5 1 (.slice (some ⟨g,0,none⟩) n cap) n (cu m n)]):=by
 have hk8:1<=k/\k<=8:=by unfold wid at hk;omega
 refine au Iv Tryz.func169 rfl rfl rfl fun Fr w0=>aZ ?_
 refine sr<|ar O O<|ar O O<|lz<|mv O O<|mv O O<|mv O O<|bF O O O (number_ok pm g n cap off k m hn hc hk ho) ?_
 refine mv O O<|ad O (aa O ga) ?_
 refine ad O (aa O ga) ?_
 refine ar O O<|ar O O<|lc<|al<|sr<|mv O O<|ad O (qi O O (bf ·))<|lc<|aG O (fun z=>?_) fun z=>?_
 ·exact absurd rfl z
 refine aq<|nz<|ar O O<|lc<|al<|sr<|mv O O<|ad O (ql O dG)<|mv O O<|lc<|aB ?_
 refine bK (fun j:Nat=>j<=k) (fun j=>[(23,.slice (some ⟨g,off,none⟩) k (cap-off)),(24,.int .i64 k),(25,.int .i64 j),(10,.int .u64 (dU m off j))]) (fun _=>pt pm (.cells #[.slice (some ⟨g,0,none⟩) n cap] 189 (0,0))::aF 5 1 (.slice (some ⟨g,0,none⟩) n cap) n (cu m n)::Fr) (fun j=>k-j) 0 (by omega) ⟨rfl,rfl,rfl,rfl,trivial⟩ (dS.refl _) ?_
 intro j hj
 have hmj:=hm (off+j)
 refine sr<|ad O (qi O O (bj ·))<|lc<|al<|aG O (fun h=>?_) fun h=>?_
 ·refine aq<|an<|al<|aB<|sr<|mv O O<|ad O (az O O dG sn (by omega)) ?_
  apply ad O
  ·apply aT O Ji
   ·exact tk
   rw[Int.toNat_natCast,dW (by omega)]
  refine ar O O<|ar O O<|lr<|mv O O<|mv O O<|ad O (km O E5 fv) ?_
  refine mv O O<|ad O (dA O O) ?_
  apply ad O
  ·apply qi O O;exact fun w=>Cd w (by omega)
  refine ad O (fh O O O)<|ar O O<|ai<|bz<|an<|aD<|ad O (bn O O) ?_
  refine mv O O<|ai ?_
  rw[za hm off j (by omega)]
  apply aU ((j+1))
  ·exact(show j+1<=k by omega)
  ·omega
  ·exact⟨O,O,O,O,trivial⟩
  exact en
 refine xt O<|nz<|mv O O<|ar O O<|ar O O<|lc<|rt ?_
 obtain rfl:j=k:=by omega
 exact ft O ([pt pm (.cells #[.slice (some ⟨g,0,none⟩) n cap] 189 (0,0)),aF 5 1 (.slice (some ⟨g,0,none⟩) n cap) n (cu m n)]) (.tmp rfl) (.tmp rfl) ⟨rfl,rfl⟩
def ct (v:Int) (i:Nat):Int:=v / 2 ^ (8*i) % 256
theorem lI (m f:Nat->Int) (o:Nat):dh m o 0 f=m:=by funext i;unfold dh;rw[if_neg (by omega)]
theorem qk {m f:Nat->Int} {n o j:Nat} {b:Int} (h:o+j < n) (hb:b=f j):(cu (dh m o j f) n).set (o+j) (.int .u8 b)=cu (dh m o (j+1) f) n:=by
 rw[AS h]
 congr 1
 funext i
 simp only[dh]
 by_cases q:i=o+j
 ·subst q;rw[if_pos rfl,if_pos (by omega),hb];congr 1;omega
 rw[if_neg q]
 by_cases q2:o<=i/\i < o+j
 ·rw[if_pos q2,if_pos (by omega)]
 rw[if_neg q2,if_neg (by omega)]
theorem ua (v:Int) (j:Nat) (hv:0<=v) (hj:j < 8):IntKind.u8.wrap (v.fdiv (2 ^ min (8*(j:Int)).toNat IntKind.u64.bits))=ct v j:=by
 have hmin:min (8*(j:Int)).toNat IntKind.u64.bits=8*j:=by
  show min _ 64=_
  omega
 have hp:(0:Int) < 2 ^ (8*j):=Int.pow_pos (by decide)
 rw[hmin,IntKind.wrap_u8',Int.fdiv_eq_ediv_of_nonneg _ (by omega)]
 rfl
theorem Store_ok (pm g n cap off k:Nat) (m:Nat->Int) (v:Int) (hv:0<=v/\v < 18446744073709551616) (hn:n<=134217728) (hc:n<=cap) (hk:wid k) (ho:off+k<=n):
  aK Tryz.prog 223 #[.pointer (some ⟨pm,0,none⟩),.int .i64 off,.int .i64 k,.int .u64 v] [pt pm (.cells #[.slice (some ⟨g,0,none⟩) n cap] 189 (0,0)),aF 5 1 (.slice (some ⟨g,0,none⟩) n cap) n (cu m n)] (fun r L=>r=.int .i64 0/\L= [pt pm (.cells #[.slice (some ⟨g,0,none⟩) n cap] 189 (0,0)),aF 5 1 (.slice (some ⟨g,0,none⟩) n cap) n (cu (dh m off k (ct v)) n)]):=by
 have hk8:1<=k/\k<=8:=by unfold wid at hk;omega
 refine au HJ Tryz.func223 rfl rfl rfl fun Fr w0=>aZ ?_
 refine sr<|ar O O<|lz<|mv O O<|mv O O<|mv O O<|bF O O O (number_ok pm g n cap off k m hn hc hk ho) ?_
 refine mv O O<|ad O (aa O ga) ?_
 refine ad O (aa O ga) ?_
 refine ar O O<|ar O O<|lc<|al<|sr<|mv O O<|ad O (qi O O (bf ·))<|lc<|aG O (fun z=>?_) fun z=>?_
 ·exact absurd rfl z
 refine aq<|an<|al<|sr<|mv O O<|ad O (ql O dG)<|mv O O<|lc<|aB ?_
 refine bK (fun j:Nat=>j<=k) (fun j=>[(3,.int .u64 v),(9,.slice (some ⟨g,off,none⟩) k (cap-off)),(23,.int .i64 k),(24,.int .i64 j)]) (fun j=>pt pm (.cells #[.slice (some ⟨g,0,none⟩) n cap] 189 (0,0))::aF 5 1 (.slice (some ⟨g,0,none⟩) n cap) n (cu (dh m off j (ct v)) n)::Fr) (fun j=>k-j) 0 (by omega) ⟨rfl,rfl,rfl,rfl,trivial⟩ (by rw[lI];exact dS.refl _) ?_
 intro j hj
 refine sr<|ad O (qi O O (bj ·))<|lc<|al<|aG O (fun h=>?_) fun h=>?_
 ·refine aq<|an<|al<|aB<|sr<|mv O O<|ar O O<|lr<|mv O O<|mv O O<|mv O O<|mv O O<|ad O (dA O O) ?_
  apply ad O
  ·apply qi O O;exact fun w=>gA w (by omega)
  refine ad O (km O fv E5) ?_
  refine ad O (az O O dG sn (by omega)) ?_
  apply ee O O O sn O
  ·exact tk
  ·rw[Int.toNat_natCast];omega
  ·refine Eq.trans ?_ (qk (m:=m) (f:=ct v) (n:=n) (o:=off) (j:=j) (by omega) (ua v j hv.1 (by omega)));rw[Int.toNat_natCast]
  refine ai<|bz<|an<|aD<|ad O (bn O O) ?_
  refine mv O O<|ai ?_
  apply aU ((j+1))
  ·exact(show j+1<=k by omega)
  ·omega
  ·exact⟨O,O,O,O,trivial⟩
  exact en
 refine xt O<|nz<|ar O O<|lc<|rt ?_
 obtain rfl:j=k:=by omega
 exact cN O ([pt pm (.cells #[.slice (some ⟨g,0,none⟩) n cap] 189 (0,0)),aF 5 1 (.slice (some ⟨g,0,none⟩) n cap) n (cu (dh m off j (ct v)) n)]) (.tmp rfl) ⟨rfl,rfl⟩
theorem xZ (xs:List Value) (o:Nat):lay xs o []=xs:=by simp[lay]
theorem uh (k:Nat) (b:Int):List.replicate k (.int .u8 b)=cu (fun _=>b) k:=by
 apply List.ext_getElem <;> simp[cu]
theorem uR {m f:Nat->Int} {n o k cap:Nat} (h:o+k<=n) (hc:n<=cap):lay (cu m n) (ei 0 o cap) (cu f k)=cu (dh m o k f) n:=by
 by_cases q:o < cap
 ·rw[fe q,Nat.zero_add];exact Bz h
 have:k=0:=by omega
 subst this
 rw[lI]
 exact xZ _ _
theorem sy {o k n cap:Nat} (h:o+k<=n) (hc:n<=cap):ei 0 o cap+k<=n:=by unfold ei;split <;> omega
theorem Fill_ok (pm g n cap off k:Nat) (m:Nat->Int) (b:Int) (hb:0<=b/\b < 256) (hn:n<=134217728) (hc:n<=cap) (ho:off+k<=n):
  aK Tryz.prog 210 #[.pointer (some ⟨pm,0,none⟩),.int .i64 off,.int .i64 k,.int .u8 b] [pt pm (.cells #[.slice (some ⟨g,0,none⟩) n cap] 189 (0,0)),aF 5 1 (.slice (some ⟨g,0,none⟩) n cap) n (cu m n)] (fun r L=>r=.int .i64 0/\L= [pt pm (.cells #[.slice (some ⟨g,0,none⟩) n cap] 189 (0,0)),aF 5 1 (.slice (some ⟨g,0,none⟩) n cap) n (cu (dh m off k (fun _=>b)) n)]):=by
 refine au HV Tryz.func210 rfl rfl rfl fun Fr w0=>aZ ?_
 refine sr<|ar O O<|lc<|al<|sr<|mv O O<|mv O O<|mv O O<|bF O O O (fF pm g n cap m _ _ hn) ?_
 refine ad O (db O (cy ·))<|lc<|aG O (fun z=>?_) fun z=>?_
 ·simp at z;omega
 refine aq<|nz<|mv O O<|ad O (ae O)<|ad O (aE 0 O fM O O ec)<|ad O (aI O fk) ?_
 refine mv O O<|mv O O<|mv O O<|ad O (bn O O) ?_
 refine ad O (jh O O O dG sn (by omega)) ?_
 refine ar O O<|lc<|al<|sr<|mv O O<|ad O (qi O O (bN ·))<|lc<|aG O (fun y=>?_) fun y=>?_
 ·refine sr<|mv O O ?_
  apply xW O O Tryz.underlying117 Ky O
  ·exact tk
  ·rw[Int.toNat_natCast,show((off:Int)+(k:Int)).toNat-off=k by omega];exact sy ho hc
  refine lz<|ar O O<|lc<|rt ?_
  subst y
  rw[Int.toNat_natCast,show((off:Int)+(k:Int)).toNat-off=k by omega,uh,uR ho hc]
  exact cN O ([pt pm (.cells #[.slice (some ⟨g,0,none⟩) n cap] 189 (0,0)),aF 5 1 (.slice (some ⟨g,0,none⟩) n cap) n (cu (dh m off k (fun _=>0)) n)]) (.tmp rfl) ⟨rfl,rfl⟩
 refine aq<|an<|al<|sr<|mv O O<|ad O (ql O dG)<|mv O O<|lc<|aB ?_
 rw[Int.toNat_natCast,show((off:Int)+(k:Int)).toNat-off=k by omega]
 refine bK (fun j:Nat=>j<=k) (fun j=>[(3,.int .u8 b),(9,.slice (some ⟨g,ei 0 off cap,none⟩) k (cap-off)),(29,.int .i64 k),(30,.int .i64 j)]) (fun j=>pt pm (.cells #[.slice (some ⟨g,0,none⟩) n cap] 189 (0,0))::aF 5 1 (.slice (some ⟨g,0,none⟩) n cap) n (cu (dh m off j (fun _=>b)) n)::Fr) (fun j=>k-j) 0 (by omega) ⟨rfl,rfl,rfl,rfl,trivial⟩ (by rw[lI];exact dS.refl _) ?_
 intro j hj
 refine sr<|ad O (qi O O (bj ·))<|lc<|al<|aG O (fun h=>?_) fun h=>?_
 ·have hlt:off < cap:=by omega
  refine aq<|an<|al<|aB<|sr<|mv O O<|ar O O<|lr<|mv O O<|mv O O<|mv O O<|ad O (az O O dG sn (by omega)) ?_
  apply ee O O O sn O
  ·exact tk
  ·simp only[Int.toNat_natCast,fe hlt,Nat.zero_add];omega
  ·refine Eq.trans ?_ (qk (m:=m) (f:=fun _=>b) (n:=n) (o:=off) (j:=j) (b:=b) (by omega) rfl);simp only[Int.toNat_natCast,fe hlt,Nat.zero_add]
  refine ai<|bz<|an<|aD<|ad O (bn O O) ?_
  refine mv O O<|ai ?_
  apply aU ((j+1))
  ·exact(show j+1<=k by omega)
  ·omega
  ·exact⟨O,O,O,O,trivial⟩
  exact en
 refine xt O<|nz<|ar O O<|lc<|rt ?_
 obtain rfl:j=k:=by omega
 exact cN O ([pt pm (.cells #[.slice (some ⟨g,0,none⟩) n cap] 189 (0,0)),aF 5 1 (.slice (some ⟨g,0,none⟩) n cap) n (cu (dh m off j (fun _=>b)) n)]) (.tmp rfl) ⟨rfl,rfl⟩
theorem Equal_ok (pm g n cap a b k:Nat) (m:Nat->Int) (hn:n<=134217728) (ha:a+k<=n) (hb:b+k<=n):
  aK Tryz.prog 243 #[.pointer (some ⟨pm,0,none⟩),.int .i64 a,.int .i64 b,.int .i64 k] [pt pm (.cells #[.slice (some ⟨g,0,none⟩) n cap] 189 (0,0)),aF 5 1 (.slice (some ⟨g,0,none⟩) n cap) n (cu m n)] (fun r L=>(∃ q:Bool,r=.tuple #[.bool q,.int .i64 0]/\(q=true↔∀ i,i < k->m (a+i)=m (b+i)))/\L= [pt pm (.cells #[.slice (some ⟨g,0,none⟩) n cap] 189 (0,0)),aF 5 1 (.slice (some ⟨g,0,none⟩) n cap) n (cu m n)]):=by
 refine au Hr Tryz.func243 rfl rfl rfl fun Fr w0=>aZ ?_
 refine sr<|ar O O<|ar O O<|lc<|al<|sr<|mv O O<|mv O O<|mv O O<|bF O O O (fF pm g n cap m _ _ hn) ?_
 refine ad O (db O (cy ·))<|mv O O<|bQ (t:=16) rfl (fun z=>?_) fun z=>?_
 ·simp at z;omega
 refine aA O O<|mv O O<|aA O O<|mv O O<|aA O O<|mv O O<|aA O O<|bF O O O (fF pm g n cap m _ _ hn) ?_
 refine aA O O<|ad O (db O (cy ·))<|ad O (aS O O)<|lc<|aG O (fun z2=>?_) fun z2=>?_
 ·simp at z2;omega
 refine aq<|an<|al<|sr<|mv O O<|mv O O<|lc<|aB ?_
 refine bK (fun j:Nat=>j<=k/\∀ i,i < j->m (a+i)=m (b+i)) (fun j=>[(0,.pointer (some ⟨pm,0,none⟩)),(1,.int .i64 a),(2,.int .i64 b),(23,.int .i64 k),(24,.int .i64 j)]) (fun _=>pt pm (.cells #[.slice (some ⟨g,0,none⟩) n cap] 189 (0,0))::aF 5 1 (.slice (some ⟨g,0,none⟩) n cap) n (cu m n)::Fr) (fun j=>k-j) 0 ⟨by omega,by omega⟩ ⟨rfl,rfl,rfl,rfl,rfl,trivial⟩ (dS.refl _) ?_
 rintro j ⟨hj,hall⟩
 refine sr<|ad O (qi O O (bj ·))<|lc<|al<|aG O (fun h=>?_) fun h=>?_
 ·refine aq<|an<|al<|aB<|sr<|mv O O<|ar O O<|lc<|al<|aY mixed ?_
  apply dq 0 O (yq (ah O))
  apply dq 1 O (yq (ae O))
  apply dq 2 O (yq (aE 0 O fM O O ec))
  apply dq 3 O (yq (aI O fk))
  apply dq 4 O (yq (ah O))
  apply dq 5 O (yq (ah O))
  apply dq 6 O (yq (bn O O))
  apply dq 7 O (yq (az O O dG sn (by omega)))
  apply dq 8 O
  ·apply yq
   apply aT O Ji
   ·exact tk
   rw[Nat.zero_add,show((a:Int)+(j:Int)).toNat=a+j by omega,dW (by omega)]
  apply dq 9 O (yq (ah O))
  apply dq 10 O (yq (ae O))
  apply dq 11 O (yq (aE 0 O fM O O ec))
  apply dq 12 O (yq (aI O fk))
  apply dq 13 O (yq (ah O))
  apply dq 14 O (yq (ah O))
  apply dq 15 O (yq (bn O O))
  apply dq 16 O (yq (az O O dG sn (by omega)))
  apply dq 17 O
  ·apply yq
   apply aT O Ji
   ·exact tk
   rw[Nat.zero_add,show((b:Int)+(j:Int)).toNat=b+j by omega,dW (by omega)]
  apply dq 18 O (yq (qi O O (bf ·)))
  refine aV (by kernel_rfl) ?_
  refine an<|aG O (fun q=>?_) fun q=>?_
  ·refine sr<|ar O O<|ar O O<|lc<|rt<|ft O ([pt pm (.cells #[.slice (some ⟨g,0,none⟩) n cap] 189 (0,0)),aF 5 1 (.slice (some ⟨g,0,none⟩) n cap) n (cu m n)]) (.tmp rfl) (.tmp rfl) ?_
   exact⟨⟨false,rfl,by simp;exact⟨j,by omega,q⟩⟩,rfl⟩
  refine aq<|bz<|an<|aD<|ad O (bn O O) ?_
  refine mv O O<|ai ?_
  apply aU ((j+1))
  ·exact⟨by omega,fun i hi=>by by_cases e:i=j;(subst e;exact Classical.not_not.1 q);exact hall i (by omega)⟩
  ·omega
  ·exact⟨O,O,O,O,O,trivial⟩
  exact en
 refine xt O<|nz<|ar O O<|ar O O<|lc<|rt ?_
 obtain rfl:j=k:=by omega
 refine ft O ([pt pm (.cells #[.slice (some ⟨g,0,none⟩) n cap] 189 (0,0)),aF 5 1 (.slice (some ⟨g,0,none⟩) n cap) n (cu m n)]) (.tmp rfl) (.tmp rfl) ?_
 exact⟨⟨true,rfl,by simpa using hall⟩,rfl⟩
def mo (m:Nat->Int) (o k:Nat):ByteArray:=⟨((List.range k).map fun i=>UInt8.ofNat (m (o+i)).toNat).toArray⟩
theorem BA {xs ys:List Value} (h:xs.length=ys.length):lay xs 0 ys=ys:=by simp[lay,<- h]
theorem AL {m:Nat->Int} {n o k:Nat} (h:o+k<=n):((cu m n).drop o).take k=cu (fun i=>m (o+i)) k:=by
 apply List.ext_getElem?
 intro i
 rw[List.getElem?_take]
 by_cases hi:i < k
 ·rw[if_pos hi,List.getElem?_drop,dW (by omega),dW hi]
 rw[if_neg hi,List.getElem?_eq_none (by rw[cH];omega)]
theorem yL {L M:List HP} {e:TypeId} {g n cap o k:Nat} {m:Nat->Int} (h:o+k<=n) (hc:n<=cap) (ht:Take (aF e 1 (.slice (some ⟨g,0,none⟩) n cap) n (cu m n)) L M):Reads L ⟨g,ei 0 o cap,none⟩ (cu (fun i=>m (o+i)) k):=by
 by_cases q:o < cap
 ·rw[fe q,Nat.zero_add,<- AL h];exact rz ht
 have:k=0:=by omega
 subst this
 intro w _ j v hv
 simp[cu] at hv
theorem Read_ok (pm g n cap off k:Nat) (m:Nat->Int) (hn:n<=134217728) (hc:n<=cap) (ho:off+k<=n):
  aK Tryz.prog 51 #[.pointer (some ⟨pm,0,none⟩),.int .i64 off,.int .i64 k] [pt pm (.cells #[.slice (some ⟨g,0,none⟩) n cap] 189 (0,0)),aF 5 1 (.slice (some ⟨g,0,none⟩) n cap) n (cu m n)]
   (fun r L=>∃ g2,r=.tuple #[.slice (some ⟨g2,0,none⟩) k k,.int .i64 0]/\L= [aF 5 1 (.slice (some ⟨g2,0,none⟩) k k) k (cu (fun i=>m (off+i)) k),pt pm (.cells #[.slice (some ⟨g,0,none⟩) n cap] 189 (0,0)),aF 5 1 (.slice (some ⟨g,0,none⟩) n cap) n (cu m n)]):=by
 refine au Kd Tryz.func51 rfl rfl rfl fun Fr w0=>aZ ?_
 refine sr<|ar O O<|ar O O<|lc<|al<|sr<|mv O O<|mv O O<|mv O O<|bF O O O (fF pm g n cap m _ _ hn) ?_
 refine ad O (db O (cy ·))<|lc<|aG O (fun z=>?_) fun z=>?_
 ·simp at z;omega
 refine aq<|nz<|mv O O ?_
 apply dL O O O dG CU O (by omega) (by omega)
 intro b15
 refine ar O O<|lz<|mv O O<|mv O O<|ad O (ae O)<|ad O (aE 0 O fM O O ec)<|ad O (aI O fk) ?_
 refine mv O O<|ad O (lY O O dG sn (by omega)) ?_
 apply wF (cu (fun i=>m (off+i)) k) rfl rfl rfl Tryz.underlying117 (by obtain⟨i,h1,_,h2,_⟩:=CU;exact⟨i,h1,h2⟩)
 ·exact tk
 ·rw[cH,Int.toNat_natCast,Int.toNat_natCast];exact(Nat.min_eq_right (by omega)).symm
 ·rw[Int.toNat_natCast];apply yL ho hc;exact tk
 ·rw[cH,Int.toNat_natCast];omega
 ·exact uK _ _
 refine lz<|mv O O<|ar O O<|ar O O<|lc<|rt ?_
 rw[Int.toNat_natCast,BA (by simp[cH])]
 exact ft O ([aF 5 1 (.slice (some ⟨b15,0,none⟩) k k) k (cu (fun i=>m (off+i)) k),pt pm (.cells #[.slice (some ⟨g,0,none⟩) n cap] 189 (0,0)),aF 5 1 (.slice (some ⟨g,0,none⟩) n cap) n (cu m n)]) (.tmp rfl) (.tmp rfl) ⟨_,rfl,rfl⟩
theorem New_ok (n:Nat) (hn:n<=134217728):aK Tryz.prog 71 #[.int .i64 n] [] (fun r L=>∃ pm g,r=.tuple #[.pointer (some ⟨pm,0,none⟩),.int .i64 0]/\L= [pt pm (.cells #[.slice (some ⟨g,0,none⟩) n n] 189 (0,0)),aF 5 1 (.slice (some ⟨g,0,none⟩) n n) n (cu (fun _=>0) n)]):=by
 refine au J1 Tryz.func71 rfl rfl rfl fun Fr w0=>aZ ?_
 refine sr<|ar O O<|ar O O<|lc<|al<|sr<|mv O O<|ad O (qi O O (bj ·))<|mv O O<|bQ (t:=6) rfl (fun z=>?_) fun z=>?_
 ·omega
 refine aA O O<|mv O O<|aA O O<|ad O (qi O O (di ·))<|ad O (aS O O)<|lc<|aG O (fun z2=>?_) fun z2=>?_
 ·omega
 refine aq<|nz<|mv O O ?_
 apply dL O O O dG CU O (by omega) (by omega)
 intro b11
 apply ad O
 ·apply bp O GC Gq
  apply aP.one
  ·repeat (first | exact ba.here | apply ba.there)
  ·rfl
  ·exact sa
  exact aP.nil
 refine bw O O fun b13=>ar O O<|ar O O<|lc<|rt ?_
 rw[Int.toNat_natCast,uh]
 exact ft O ([pt b13 (.cells #[.slice (some ⟨b11,0,none⟩) n n] 189 (0,0)),aF 5 1 (.slice (some ⟨b11,0,none⟩) n n) n (cu (fun _=>0) n)]) (.tmp rfl) (.tmp rfl) ⟨_,_,rfl,rfl⟩
def fO (m:Nat->Int) (n:Nat):Nat->Int:=fun i=>if i < n then m i else 0
theorem ze {m:Nat->Int} {n s:Nat} (h:n<=s):lay (List.replicate s (.int .u8 0)) 0 (cu m n)=cu (fO m n) s:=by
 apply List.ext_getElem?
 intro i
 rw[kW (by simp[cH];exact h),cH]
 by_cases hi:i < s
 ·rw[dW hi]
  by_cases q:i < n
  ·rw[if_pos (by omega),Nat.sub_zero,dW q];simp[fO,q]
  rw[if_neg (by omega)];simp[fO,q,hi]
 rw[if_neg (by omega),List.getElem?_eq_none (by simp;omega),List.getElem?_eq_none (by rw[cH];omega)]
theorem zd {m:Nat->Int} {n s cap:Nat} {ys:List Value} (hy:ys.length=s-n) (h:n<=s) (hc:s<=cap):lay (cu m n ++ ys) (ei 0 n cap) (List.replicate (s-n) (.int .u8 0))=cu (fO m n) s:=by
 by_cases q:n < cap
 ·rw[fe q,Nat.zero_add]
  apply List.ext_getElem?
  intro i
  rw[kW (by simp[cH,hy])]
  by_cases hi:i < s
  ·rw[dW hi,List.length_replicate]
   by_cases q2:i < n
   ·rw[if_neg (by omega),List.getElem?_append_left (by rw[cH];exact q2),dW q2];simp[fO,q2]
   rw[if_pos (by omega),List.getElem?_replicate,if_pos (by omega)];simp[fO,q2]
  rw[List.length_replicate,if_neg (by omega),List.getElem?_eq_none (by simp[cH,hy];omega),List.getElem?_eq_none (by rw[cH];omega)]
 have e1:s=n:=by omega
 subst e1
 have e2:ys= []:=List.eq_nil_of_length_eq_zero (by omega)
 subst e2
 rw[Nat.sub_self,List.replicate_zero,xZ,List.append_nil]
 apply List.ext_getElem?
 intro i
 by_cases hi:i < s
 ·rw[dW hi,dW hi];simp[fO,hi]
 rw[List.getElem?_eq_none (by rw[cH];omega),List.getElem?_eq_none (by rw[cH];omega)]
theorem wz {e:TypeId} {g n n2 cap:Nat} {xs:List Value} {A:HP} {M:List HP} {w:World} (h:Sat (stars (A::aF e 1 (.slice (some ⟨g,0,none⟩) n cap) n xs::M)) w) (hle:n<=n2) (hc:n2<=cap):
  ∃ ys:{ys:List Value // ys.length=n2-n},Sat (stars (A::aF e 1 (.slice (some ⟨g,0,none⟩) n2 cap) n2 (xs ++ ys.1)::M)) w:=by
 obtain⟨cur,c1,c2,c3,c4,c5,hs⟩:=jm (h.perm (.swap _ _ _))
 have hcl:cur.toList.length=cap:=by rw[Array.length_toList,c1];omega
 have key:cur.toList.take n2=xs ++ (cur.toList.take n2).drop n:=by
  rw[<- c2,Nat.mul_one]
  have:cur.toList.take n=(cur.toList.take n2).take n:=by rw[List.take_take];congr 1;omega
  rw[this,List.take_append_drop]
 refine⟨⟨(cur.toList.take n2).drop n,by simp[hcl];omega⟩,?_⟩
 refine(fC (n:=n2) hs ?_ hc c4 c1 ?_).perm (.swap _ _ _)
 ·simp[c5,hcl];omega
 rw[Nat.mul_one];exact key
theorem mG {L M:List HP} {e:TypeId} {g n cap:Nat} {m:Nat->Int} (ht:Take (aF e 1 (.slice (some ⟨g,0,none⟩) n cap) n (cu m n)) L M):Reads L ⟨g,0,none⟩ (cu m n):=by
 have:=rz (o:=0) (k:=n) ht
 rwa [List.drop_zero,List.take_of_length_le (by rw[cH];omega)] at this
theorem Grow_ok (pm g n cap s:Nat) (m:Nat->Int) (hn:n<=134217728) (hc:n<=cap) (hcm:cap<=134217728) (h1:n<=s) (h2:s<=134217728):
  aK Tryz.prog 211 #[.pointer (some ⟨pm,0,none⟩),.int .i64 s] [pt pm (.cells #[.slice (some ⟨g,0,none⟩) n cap] 189 (0,0)),aF 5 1 (.slice (some ⟨g,0,none⟩) n cap) n (cu m n)] (fun r L=>∃ g2 cap2,r=.int .i64 0/\s<=cap2/\cap2<=134217728/\L= [pt pm (.cells #[.slice (some ⟨g2,0,none⟩) s cap2] 189 (0,0)),aF 5 1 (.slice (some ⟨g2,0,none⟩) s cap2) s (cu (fO m n) s)]):=by
 refine au HU Tryz.func211 rfl rfl rfl fun Fr w0=>aZ ?_
 refine sr<|ar O O<|lc<|al<|sr<|mv O O<|mv O O<|ad O (ae O)<|ad O (aE 0 O fM O O ec)<|ad O (aI O fk) ?_
 refine ad O (ql O dG)<|ad O (qi O O (bj ·))<|mv O O<|bQ (t:=14) rfl (fun z=>?_) fun z=>?_
 ·omega
 refine aA O O<|mv O O<|aA O O<|ad O (qi O O (di ·))<|ad O (aS O O)<|lc<|aG O (fun z2=>?_) fun z2=>?_
 ·omega
 refine aq<|an<|al<|sr<|mv O O<|mv O O<|ad O (ae O)<|ad O (aE 0 O fM O O ec)<|ad O (aI O fk) ?_
 refine ad O (GS O (fun w=>zB dG w))<|ad O (qi O O (di ·))<|lc<|aG O (fun z3=>?_) fun z3=>?_
 ·refine sr<|mv O O<|mv O O<|mv O O<|ad O (ae O)<|ad O (aE 0 O fM O O ec)<|ad O (aI O fk) ?_
  refine ad O (ql O dG)<|ad O (dA O O) ?_
  refine ad O (Fw O O)<|ad O (Fv O O) ?_
  apply dL O O O dG CU O (by omega) (by omega)
  intro b35
  refine ar O O<|lz<|mv O O<|mv O O<|ad O (ae O)<|ad O (aE 0 O fM O O ec)<|ad O (aI O fk) ?_
  apply wF (cu m n) rfl rfl rfl Tryz.underlying117 (by obtain⟨i,h1,_,h2,_⟩:=CU;exact⟨i,h1,h2⟩)
  ·exact tk
  ·rw[cH,Int.toNat_natCast];exact(Nat.min_eq_left h1).symm
  ·exact mG (by exact tk)
  ·rw[cH,Int.toNat_natCast];omega
  ·exact uK _ _
  refine lz<|mv O O<|mv O O<|ad O (ae O)<|ad O (aE 0 O fM O O ec)<|st O O O ec O ?_
  refine lz<|ar O O<|lc<|rt ?_
  rw[Int.toNat_natCast,ze h1]
  obtain⟨c2,hc2⟩:∃ c2:Nat,(if(if(s:Int) < 2*(n:Int) then 2*(n:Int) else(s:Int)) < 134217728 then if(s:Int) < 2*(n:Int) then 2*(n:Int) else(s:Int) else 134217728).toNat=c2:=⟨_,rfl⟩
  have hb:s<=c2/\c2<=134217728:=by subst hc2;split <;> omega
  rw[hc2]
  exact cN O ([pt pm (.cells #[.slice (some ⟨b35,0,none⟩) s c2] 189 (0,0)),aF 5 1 (.slice (some ⟨b35,0,none⟩) s c2) s (cu (fO m n) s)]) (.tmp rfl) ⟨_,_,rfl,hb.1,hb.2,rfl⟩
 refine lx (X:={ys:List Value // ys.length=s-n}) (LL:=fun ys=>pt pm (.cells #[.slice (some ⟨g,0,none⟩) n cap] 189 (0,0))::aF 5 1 (.slice (some ⟨g,0,none⟩) s cap) s (cu m n ++ ys.1)::Fr) (fun w hs=>wz hs h1 (by omega)) fun ys=>?_
 refine aq<|nz<|mv O O<|ad O (ae O)<|ad O (aE 0 O fM O O ec)<|ad O (aI O fk) ?_
 refine ad O (ql O dG)<|ar O O<|lz<|mv O O<|mv O O<|ad O (ae O)<|ad O (aE 0 O fM O O ec)<|ad O (aI O fk) ?_
 refine mv O O<|ad O (rA O O dG sn (by omega)) ?_
 refine ad O (ae O)<|ad O (aE 0 O fM O O ec)<|st O O O ec O ?_
 refine lz<|mv O O<|ad O (ae O)<|ad O (aE 0 O fM O O ec)<|ad O (aI O fk) ?_
 refine mv O O<|ad O (lY O O dG sn (by omega)) ?_
 apply xW O O Tryz.underlying117 Ky O
 ·exact tk
 ·rw[Int.toNat_natCast,Int.toNat_natCast];exact sy (by omega) (by omega)
 refine lz<|ar O O<|lc<|rt ?_
 rw[Int.toNat_natCast,Int.toNat_natCast,zd ys.2 h1 (by omega)]
 refine cN O ([pt pm (.cells #[.slice (some ⟨g,0,none⟩) s cap] 189 (0,0)),aF 5 1 (.slice (some ⟨g,0,none⟩) s cap) s (cu (fO m n) s)]) (.tmp rfl) ?_
 exact⟨_,_,rfl,by omega,hcm,rfl⟩
end Mem
end Go.Proofs.YthkajgkagnenbaaGreatDoor
