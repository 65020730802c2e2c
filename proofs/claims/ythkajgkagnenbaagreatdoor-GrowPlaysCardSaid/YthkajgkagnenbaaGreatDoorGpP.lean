import Derived.Test.YthkajgkagnenbaaGreatDoorGpB
set_option linter.unusedVariables false
set_option linter.unusedSimpArgs false
set_option linter.unusedSectionVars false
set_option maxRecDepth 100000
namespace Go.Proofs.YthkajgkagnenbaaGreatDoor
namespace Plays
open Go.RowKit Go.Proofs Eng Ty Arena CtrlB Ctrl Layout GroupB Group Probe TableB TableI Table Bench Cells Refill Oracle Grow Exact
def dw (b:Nat->Bool) (n:Nat):List Value:=(List.range n).map fun g=>.bool (b g)
theorem mP (b:Nat->Bool) (n:Nat):(dw b n).length=n:=by simp[dw]
theorem k9 {b:Nat->Bool} {n g:Nat} (h:g < n):(dw b n)[g]?=some (.bool (b g)):=by
 unfold dw
 rw[List.getElem?_map,List.getElem?_range h];rfl
theorem qF (n:Nat):List.replicate n (Value.bool false)=dw (fun _=>false) n:=by
 unfold dw
 rw[List.map_const',List.length_range]
theorem qg (b:Nat->Bool) (n:Nat) (home:Int):kp b n home 0=b:=by
 funext g
 unfold kp
 simp
theorem zC {b c:Nat->Bool} {n:Nat} (h:∀ g,g < n->b g=c g):dw b n=dw c n:=by
 unfold dw
 exact List.map_congr_left fun g hg=>by rw[h g (List.mem_range.1 hg)]
theorem xb {b:Nat->Bool} {n g:Nat}:(dw b n).set g (.bool true)=dw (fun x=>b x || x == g) n:=by
 apply List.ext_getElem?
 intro i
 rw[List.getElem?_set,mP]
 by_cases hi:i < n
 ·rw[k9 hi,k9 hi]
  by_cases hg:g=i
  ·subst hg;simp[hi]
  rw[if_neg hg];have:(i == g)=false:=by simp;omega
  rw[this];simp
 rw[List.getElem?_eq_none (l:=dw b n) (by rw[mP];omega),List.getElem?_eq_none (l:=dw (fun x=>b x || x == g) n) (by rw[mP];omega)]
 split
 ·split
  ·omega
  rfl
 rfl
theorem uL {b:Nat->Bool} {n:Nat} {home:Int} {k:Nat}:(dw (kp b n home k) n).set (0+((gk home n k:Nat):Int).toNat) (.bool true)=dw (kp b n home (k+1)) n:=by
 rw[Nat.zero_add,Int.toNat_natCast,xb]
 refine zC fun g _=>?_
 rw[Bool.eq_iff_iff,Bool.or_eq_true,nV,nV]
 constructor
 ·rintro((h | ⟨i,h1,h2⟩) | h)
  ·exact .inl h
  ·exact .inr ⟨i,by omega,h2⟩
  exact .inr ⟨k,by omega,(by simpa using h:g=_).symm⟩
 rintro(h | ⟨i,h1,h2⟩)
 ·exact .inl (.inl h)
 by_cases q:i=k
 ·subst q;exact .inr (by simpa using h2.symm)
 exact .inl (.inr ⟨i,by omega,h2⟩)
theorem wU {l:Lay} (hl:lQ l) {cs cs':Nat->Cell} (h:∀ i,i < 8->cs i=cs' i) {j:Nat} (hj:j < gN l):dZ l cs j=dZ l cs' j:=by
 have h1:=hl.g_eq
 unfold dZ
 by_cases q:j < 8
 ·rw[if_pos q,if_pos q,h j q]
 rw[if_neg q,if_neg q,h ((j-8) / sN l) (Nat.div_lt_of_lt_mul (by omega))]
theorem cd.cellsEq {s:ArS} {off go:Nat} {l:Lay} {n e:Nat} {T:Tb} (h:cd s off go l n e T) {c:Nat->Cell} (hc:∀ j,j < 8*n->T.cells j=c j):cd s off go l n e {T with cells:=c}:=
 ⟨h.hl,h.he,h.hn,⟨fun k hk=>by have:=h.hT.head k hk;rw[this];unfold fa;rfl,fun g hg a ha=>by
  rw[h.hT.body g hg a ha]
  exact wU (eK h.hl) (fun i hi=>hc _ (by omega)) ha,fun i hi=>by show(c i).ok l;rw[<- hc i hi];exact h.hT.okc i hi⟩,h.gh,h.gg,h.hr,h.dj⟩
def yA (cells:Nat->Cell) (b:Nat->Bool) (i j:Nat):Cell:=if j < 8*i then df cells b j else cells j
theorem Ax (cells:Nat->Cell) (b:Nat->Bool):yA cells b 0=cells:=by funext j;unfold yA;rw[if_neg (by omega)]
theorem Ay {cells:Nat->Cell} {b:Nat->Bool} {i:Nat} (h:b i=true):yA cells b (i+1)=yA cells b i:=by
 funext j
 unfold yA
 by_cases h1:j < 8*i
 ·rw[if_pos h1,if_pos (by omega)]
 rw[if_neg h1]
 split
 ·exact pV (by rw[show j / 8=i by omega];exact h)
 rfl
theorem C3 {cells:Nat->Cell} {b:Nat->Bool} {i:Nat}:ck (yA cells b i) i=ck cells i:=by
 funext r
 unfold ck yA
 rw[if_neg (by omega)]
theorem Fh {cells:Nat->Cell} {b:Nat->Bool} {i:Nat} (h:b i=false):(fun j=>if j / 8=i then jl (ck cells i) (j % 8) else yA cells b i j)=yA cells b (i+1):=by
 funext j
 unfold yA
 by_cases h1:j / 8=i
 ·rw[if_pos h1,if_pos (by omega)]
  unfold jl df ck
  rw[h1,h,show 8*i+j % 8=j by omega]
  simp
 rw[if_neg h1]
 by_cases h2:j < 8*i
 ·rw[if_pos h2,if_pos (by omega)]
 rw[if_neg h2,if_neg (by omega)]
theorem rX (cells:Nat->Cell) (i:Nat):dX isDel cells (8*(i+1))=dX isDel cells (8*i)+oK (ck cells i):=by
 rw[show 8*(i+1)=8*i+8 by omega,qB]
 congr 2
theorem B4 {cells:Nat->Cell} {b:Nat->Bool} {i:Nat} (h:b i=true):oK (ck (df cells b) i)=oK (ck cells i):=by
 have:∀ r,r < 8->df cells b (8*i+r)=cells (8*i+r):=fun r hr=>pV (by rw[show(8*i+r) / 8=i by omega];exact h)
 unfold oK ck bE
 congr 1
 exact List.filter_congr fun r hr=>by dsimp only;rw[this r (by simpa using hr)]
theorem F0 {cells:Nat->Cell} {b:Nat->Bool} {i:Nat} (h:b i=false):oK (ck (df cells b) i)=0:=by
 unfold oK ck bE
 rw[List.length_eq_zero_iff,List.filter_eq_nil_iff]
 intro r hr
 have hr:r < 8:=by simpa using hr
 dsimp only
 unfold df
 rw[show(8*i+r) / 8=i by omega,h]
 cases cells (8*i+r) <;> simp[isDel]
theorem Prune_ok (G:HP) (hGT:dR G) (hGO:fR G) (pa off go po bm n e:Nat) (s:ArS) (l:Lay) (T:Tb) (m:List (ByteArray×Value)) (hm:iH m) (sd:Int) (hsd:0<=sd/\sd < 18446744073709551616) (hP:cd s off go l n e T) (hR:fu n T):
  aK Tryz.prog 148 #[.agg #[.pointer (some ⟨pa,0,none⟩),.int .i64 l.key,.int .i64 l.elem,.int .i64 l.ka,.int .i64 l.ea,.int .i64 l.cap,.int .i64 l.eo,.int .i64 l.bo,.int .i64 l.slot,.int .i64 l.group,.int .i64 (off:Nat)],.pointer (some ⟨po,0,none⟩),.int .u64 sd] [pt po (.cells #[.map (some bm)] 192 (0,0)),bG (fun k:ByteArray=>Value.string k) bm m,G,aj pa s] (fun v L=>∃(s':ArS) (b:Nat->Bool) (k:Nat),v=.tuple #[.int .i64 (k:Nat),.int .i64 0]/\L= [pt po (.cells #[.map (some bm)] 192 (0,0)),bG (fun k:ByteArray=>Value.string k) bm m,G,aj pa s']/\PB n (br m sd) T.cells b (8*n)/\dX isDel T.cells (8*n)=dX isDel (df T.cells b) (8*n)+k/\
   cd s' off go l n e (lF T b k)/\cb s s' off go (n*gN l)):=by
 have hn8:=hP.n0
 have hLy:=eK hP.hl
 have hkk:=hLy.k
 have hbd:=Lay.bnd hP.hl
 refine au EO Tryz.func148 rfl rfl rfl fun Fr w0=>aZ ?_
 refine sr<|bw O O fun b3=>eQ O O O fun b4=>eQ O O O fun b5=>ar O O<|ar O O<|lz<|ad O (aO O bA aM) ?_
 refine bF O O O (eS pa off go n e s l T hP) ?_
 refine mv O O<|ad O (aa O ga) ?_
 refine ad O (aa O ga) ?_
 refine ay O da fun b8=>bZ O O O cl O O ?_
 refine ar O O<|lc<|al<|sr<|mv O O<|ad O (qi O O (bf ·))<|lc<|aG O (fun z=>?_) fun z=>?_
 ·exact absurd rfl z
 refine aq<|nz<|ad O (aE 1 O bP O O aN)<|ad O (aI O aX) ?_
 refine ad O (eT O O) ?_
 apply dL O O O ln Kz O (by omega) (by omega)
 intro b31
 refine iu O Gn O fun b10=>st O O O Gy O ?_
 refine lc<|al<|sr<|ad O (aO O bA aM) ?_
 rw[show(8*(n:Int) / 8).toNat=n by omega,qF]
 refine cT O O O (od pa off l) ?_
 rintro v L' ⟨bc,rfl,rfl⟩
 refine bx ?_
 refine lc<|aB ?_
 apply pA (p:=(fun k (b:Nat->Bool)=>∃ j,j<=8*n/\dX isFull T.cells j=k/\PB n (br m sd) T.cells b j)) (J:=(fun _ b=>[pt b10 (.cells #[.slice (some ⟨b31,0,none⟩) n n] 276 (0,0)),aF 4 1 (.slice (some ⟨b31,0,none⟩) n n) n (dw b n),pt b5 (.cells #[.int .u64 sd] 27 (0,0)),pt b4 (.cells #[.pointer (some ⟨po,0,none⟩)] 63 (0,0)),pt b3 (.cells #[.pointer (some ⟨pa,0,none⟩),.int .i64 l.key,.int .i64 l.elem,.int .i64 l.ka,.int .i64 l.ea,.int .i64 l.cap,.int .i64 l.eo,.int .i64 l.bo,.int .i64 l.slot,.int .i64 l.group,.int .i64 (off:Nat)] 39 (0,0)),pt po (.cells #[.map (some bm)] 192 (0,0)),bG (fun k:ByteArray=>Value.string k) bm m,G,aj pa s])) (q:=(fun _ (y:Code×Unit)=>False)) (Jx:=(fun _ _=>[])) (x0:=(fun _=>false)) (hc:=oe pa off go n e bc s l T hP) (hr:=rfl) (hg:=rfl)
 ·exact pk
 ·exact⟨0,Nat.zero_le _,rfl,PB.new⟩
 ·(try dsimp only);(try simp only[Int.natCast_zero,Nat.sub_zero]);exact pk
 ·(try dsimp only);(try simp only[Int.natCast_zero,Nat.sub_zero]);exact pk
 ·rfl
 ·exact mN
 ·rintro l' rc Fr' w1 k x b hrd hpn hx ⟨j,hj8,hj,hB⟩
  obtain⟨i1,hi8,hfi,hck,rfl⟩:=n8 hx
  have hj':dX isFull T.cells j=dX isFull T.cells i1:=hj.trans hck.symm
  have hk1:dX isFull T.cells (i1+1)=k+1:=by rw[cI,if_pos hfi,hck]
  have hok1:=hP.hT.okc i1 hi8
  obtain⟨t1,hct⟩:=kZ hfi
  rw[hct] at hok1
  obtain⟨_,_,hks,hes,hb0,hb1⟩:=hok1
  have hhb:=ib hm sd (T.cells i1).keyS
  have hB2:=hB.to (k:=i1) (r5 hj' hfi) (fun i h1 h2=>tf (r5 hj' hfi) hj'.symm h1 h2)
  refine aZ ?_
  refine sr<|iu O sj O fun b11=>st O O O aN O ?_
  refine lr<|ay O dF fun b12=>bZ O O O bV O O ?_
  refine ai ?_
  apply kV
  ·exact tk
  ·assumption
  refine aB<|al<|aY mixed ?_
  apply dq 0 O (yq (aI O ij))
  apply dq 1 O (yq (aI O fV))
  apply dq 2 O (yq (aE 2 O cq O O fA))
  apply dq 3 O (yq (aI O fS))
  apply dq 6 O (yq (aI O rj))
  apply dq 7 O (yq (ql O ln))
  refine ak [0,1,3,2] [7,6] 4 [(36,_),(37,_),(39,_)] gO ⟨rfl,rfl,rfl,trivial⟩ (by kernel_rfl) (by kernel_rfl) fun Ex=>?_
  refine bF O O O (mj G hGO po bm m hm sd hsd (T.cells i1).keyS (by omega)) ?_
  refine ai ?_
  refine aQ ⟨ya O O (yq (ql O ln)),ya O O (yq (aI O rj)),trivial⟩ ?_
  refine ak [] [7,6] 5 [(40,_)] gO ⟨rfl,trivial⟩ (by kernel_rfl) (by kernel_rfl) fun Ex=>?_
  refine bF O O O (yr _ hhb) ?_
  refine ai ?_
  refine aQ ⟨ya O O (yq (ql O ln)),ya O O (yq (aI O rj)),trivial⟩ ?_
  refine ak [7,6] [] 8 [(41,_),(43,_)] gO ⟨rfl,rfl,trivial⟩ (by kernel_rfl) (by kernel_rfl) fun Ex=>?_
  refine cT O O O (yn _ hP.he hP.hn) ?_
  rintro v L' ⟨bh,bg,rfl,rfl⟩
  refine bx ?_
  refine ai ?_
  refine aQ trivial ?_
  refine aV (by kernel_rfl) ?_
  refine an<|aB ?_
  rw[show dw b n=dw (kp b n (br m sd (T.cells i1).keyS / 128) 0) n by rw[qg]]
  apply tV (p:=(fun k2 (_:Unit)=>k2<=n/\∀ i,i < k2->gk (br m sd (T.cells i1).keyS / 128) n i≠i1 / 8)) (J:=(fun k2 _=>[pt b11 (.cells #[.int .i64 (i1:Nat)] 3 (0,0)),pt b10 (.cells #[.slice (some ⟨b31,0,none⟩) n n] 276 (0,0)),aF 4 1 (.slice (some ⟨b31,0,none⟩) n n) n (dw (kp b n (br m sd (T.cells i1).keyS / 128) k2) n),pt b5 (.cells #[.int .u64 sd] 27 (0,0)),pt b4 (.cells #[.pointer (some ⟨po,0,none⟩)] 63 (0,0)),pt b3 (.cells #[.pointer (some ⟨pa,0,none⟩),.int .i64 l.key,.int .i64 l.elem,.int .i64 l.ka,.int .i64 l.ea,.int .i64 l.cap,.int .i64 l.eo,.int .i64 l.bo,.int .i64 l.slot,.int .i64 l.group,.int .i64 (off:Nat)] 39 (0,0)),pt po (.cells #[.map (some bm)] 192 (0,0)),bG (fun k:ByteArray=>Value.string k) bm m,G,aj pa s])) (q:=(fun k2 (y:Code×Unit)=>y.1=.exit 2/\k2 < n/\gk (br m sd (T.cells i1).keyS / 128) n k2=i1 / 8)) (Jx:=(fun k2 _=>[pt b10 (.cells #[.slice (some ⟨b31,0,none⟩) n n] 276 (0,0)),aF 4 1 (.slice (some ⟨b31,0,none⟩) n n) n (dw (kp b n (br m sd (T.cells i1).keyS / 128) k2) n),pt b5 (.cells #[.int .u64 sd] 27 (0,0)),pt b4 (.cells #[.pointer (some ⟨po,0,none⟩)] 63 (0,0)),pt b3 (.cells #[.pointer (some ⟨pa,0,none⟩),.int .i64 l.key,.int .i64 l.elem,.int .i64 l.ka,.int .i64 l.ea,.int .i64 l.cap,.int .i64 l.eo,.int .i64 l.bo,.int .i64 l.slot,.int .i64 l.group,.int .i64 (off:Nat)] 39 (0,0)),pt po (.cells #[.map (some bm)] 192 (0,0)),bG (fun k:ByteArray=>Value.string k) bm m,G,aj pa s])) (x0:=()) (hc:=rD bh bg (br m sd (T.cells i1).keyS / 128) (by omega) hP.he hP.hn) (hr:=rfl) (hg:=rfl)
  ·exact tk
  ·exact pk
  ·exact⟨Nat.zero_le _,fun i h=>absurd h (Nat.not_lt_zero i)⟩
  ·(try dsimp only);(try simp only[Int.natCast_zero,Nat.sub_zero]);exact pk
  ·rfl
  ·(intro x hx;simp only[Ah,List.mem_map] at hx;obtain⟨_,_,rfl⟩:=hx;rfl)
  ·intro ll2 rc2 Fr2 w2 k2 x2 u2 hrd2 hpn2 hx2 ⟨hk2,hne⟩
   obtain⟨hkn,rfl⟩:=xJ hx2
   rw[<- l9 hn8.1]
   have hgk:=nr (home:=br m sd (T.cells i1).keyS / 128) (k:=k2) hn8.1
   have hset:=uL (b:=b) (n:=n) (home:=br m sd (T.cells i1).keyS / 128) (k:=k2)
   refine aZ ?_
   refine aD<|ar O O<|ai ?_
   apply kV
   ·exact tk
   ·assumption
   refine aB<|al<|sr<|mv O O<|ad O (aI O aX) ?_
   refine ad O (eT O O) ?_
   refine ad O (qi O O (bN ·))<|lc<|aG O (fun q1=>?_) fun q1=>?_
   ·refine xe O ?_
    apply nO (.inr ⟨_,rfl,rfl⟩) (()) (⟨rfl,hkn,by omega⟩)
    exact en
   refine aq<|an<|aD<|ad O (aI O rj) ?_
   refine mv O O<|ad O (az O O ln j6 (by omega)) ?_
   refine ee O O O j6 O tk (by omega) hset ?_
   refine ai<|bz ?_
   apply kS (by assumption) (by assumption) (()) (⟨by omega,fun i hi=>by rcases Nat.lt_or_ge i k2 with q | q;exact hne i q;rw[show i=k2 by omega];omega⟩)
   exact en
  ·intro u2 ⟨_,hne⟩
   obtain⟨jw,hw1,hw2⟩:=iS (home:=br m sd (T.cells i1).keyS / 128) hP.hn (show i1 / 8 < n by omega)
   rw[kK] at hne
   exact absurd hw2 (hne jw hw1)
  rintro k2 ⟨jc,u⟩ hk2 ⟨rfl,hkn,hgk⟩
  refine aZ ?_
  refine xt O<|bz ?_
  apply kS (by assumption) (by assumption) ((kp b n (br m sd (T.cells i1).keyS / 128) k2)) (⟨i1+1,by omega,hk1,hB2.mark hP.hn hfi hkn hgk⟩)
  exact en
 ·intro b0 b ⟨j,hj8,hj,hB⟩
  rw[fY] at hj
  have hBB:=hB.to (k:=8*n) hj8 (fun i h1 h2=>tf hj8 hj.symm h1 h2)
  refine oJ ?_
  refine bz<|nz<|ar O O<|lc<|al<|sr<|ad O (aI O rj) ?_
  refine ad O (ql O ln)<|mv O O<|lc<|aB ?_
  refine bK (fun x:Nat×ArS×Nat=>x.1<=n/\cd x.2.1 off go l n e {T with cells:=yA T.cells b x.1}/\cb s x.2.1 off go (n*gN l)/\dX isDel T.cells (8*x.1)=dX isDel (df T.cells b) (8*x.1)+x.2.2) (fun x=>[(3,.pointer (some ⟨b3,0,none⟩)),(10,.pointer (some ⟨b10,0,none⟩)),(14,.int .i64 (x.2.2:Nat)),(54,.int .i64 (n:Nat)),(55,.int .i64 (x.1:Nat))]) (fun x=>pt b10 (.cells #[.slice (some ⟨b31,0,none⟩) n n] 276 (0,0))::aF 4 1 (.slice (some ⟨b31,0,none⟩) n n) n (dw b n)::pt b3 (.cells #[.pointer (some ⟨pa,0,none⟩),.int .i64 l.key,.int .i64 l.elem,.int .i64 l.ka,.int .i64 l.ea,.int .i64 l.cap,.int .i64 l.eo,.int .i64 l.bo,.int .i64 l.slot,.int .i64 l.group,.int .i64 (off:Nat)] 39 (0,0))::pt po (.cells #[.map (some bm)] 192 (0,0))::bG (fun k:ByteArray=>Value.string k) bm m::G::aj pa x.2.1::pt b0 (.deferred (some []))::Fr) (fun x=>n-x.1) (0,s,0) ⟨Nat.zero_le _,by rw[Ax];exact hP,cb.refl _ _ _ _,rfl⟩ ⟨rfl,rfl,rfl,rfl,rfl,trivial⟩ (by(exact en)) ?_
  rintro⟨i,s1,k1⟩ ⟨hi,hP1,hS1,hk1⟩
  dsimp only at hi hP1 hS1 hk1 ⊢
  refine sr<|ad O (qi O O (bj ·))<|lc<|al<|aG O (fun q=>?_) fun q=>?_
  ·skip
   have hget:(dw b n)[0+((i:Nat):Int).toNat]?=some (.bool (b i)):=by rw[Nat.zero_add,Int.toNat_natCast];exact k9 (by omega)
   refine aq<|an<|al<|aB<|sr<|mv O O<|ar O O<|lz<|ad O (aO O bA aM) ?_
   refine mv O O<|bF O O O (zH pa off go n e s1 l _ hP1 i (by omega)) ?_
   refine mv O O<|ad O (aa O ga) ?_
   refine ad O (aa O ga) ?_
   refine ay O o6 fun b16=>bZ O O O dO O O ?_
   refine ar O O<|lz<|ad O (aI O rj) ?_
   refine mv O O<|ad O (az O O ln j6 (by omega)) ?_
   refine ad O (aT O nH tk hget) ?_
   refine ad O (db O (cy ·))<|lc ?_
   obtain⟨g1,g2,g3,g4⟩:=hP1.grpAt (g:=i) (by omega)
   rw[C3] at g2 g3
   have hd1:=rX T.cells i
   have hd2:=rX (df T.cells b) i
   have hcd:=lM isDel T.cells (8*i)
   have hd8:oK (ck T.cells i)<=8:=by unfold oK bE;exact Nat.le_trans (List.length_filter_le _ _) (by simp)
   refine aG O (fun y=>?_) fun y=>?_
   ·refine sr<|ad O (aO O eG dO) ?_
    have hbi:b i=false:=by simpa using y
    have hd3:=F0 (cells:=T.cells) hbi
    have hg2:=hP1.grp (g:=i) (by omega) (rB g3)
    refine bF O O O (Group.Prune_ok pa (go+i*gN l) s1 l (ck T.cells i) hP.hl g1 g2 g3) ?_
    refine mv O O<|ad O (aa O ga) ?_
    refine ad O (aa O ga) ?_
    refine ar O O<|ar O O<|lr<|mv O O<|mv O O<|ad O (bn O O) ?_
    refine ar O O<|ai<|bz<|an<|aD<|ad O (bn O O) ?_
    refine mv O O<|ai ?_
    apply aU ((i+1,s1.put (go+i*gN l) (gN l) (dZ l (jl (ck T.cells i))),k1+oK (ck T.cells i)))
    ·exact⟨Nat.succ_le_of_lt (by omega),by have:=hg2.1;dsimp only at this;rw[Fh hbi] at this;exact this,hS1.trans hg2.2,by dsimp only;omega⟩
    ·(dsimp only;omega)
    ·exact⟨rfl,rfl,congrArg (fun z=>some (Value.int .i64 z)) (by push_cast;omega),rfl,rfl,trivial⟩
    exact en
   refine aq<|bz<|an<|aD<|ad O (bn O O) ?_
   refine mv O O<|ai ?_
   have hbi:b i=true:=by simpa using y
   have hd3:=B4 (cells:=T.cells) hbi
   apply aU ((i+1,s1,k1))
   ·exact⟨Nat.succ_le_of_lt (by omega),by rw[Ay hbi];exact hP1,hS1,by dsimp only;omega⟩
   ·(dsimp only;omega)
   ·exact⟨O,O,O,O,O,trivial⟩
   exact en
  obtain rfl:i=n:=by omega
  have hP2:cd s1 off go l i e {T with cells:=df T.cells b}:=cd.cellsEq hP1 fun j hj=>by show yA T.cells b i j=_;unfold yA;rw[if_pos hj]
  have hcf:dX isFull (df T.cells b) (8*i)=dX isFull T.cells (8*i):=by unfold dX;congr 1;funext i;exact pW
  have hroom:=hR.left0
  have hroom2:=hR.left1
  refine xt O<|nz<|mv O O<|ad O (aO O bA aM) ?_
  refine mv O O ?_
  have hAL:=(oC pa off go i e s1 l _ hP2 ((k1:Nat):Int) (by omega) (by dsimp only;omega)).mono fun r L h=>(show ∃ s',r=.int .i64 0/\L= [aj pa s']/\cd s' off go l i e (lF T b k1)/\cb s1 s' off go (i*gN l) from by
   rcases h with⟨h0,_⟩ | ⟨_,_,h⟩
   ·exfalso;dsimp only at h0;rw[hcf] at h0;omega
   exact h)
  refine cT O O O (hAL) ?_
  rintro r2 L' ⟨s',rfl,rfl,hP3,hS3⟩
  refine bx ?_
  refine ar O O<|ar O O<|lc<|rt ?_
  apply s6 (.inl rfl) [b0] ([pt po (.cells #[.map (some bm)] 192 (0,0)),bG (fun k:ByteArray=>Value.string k) bm m,G,aj pa s'])
  ·repeat (first | with_reducible exact gQ.nil | apply gQ.cons | with_reducible exact Take.here | apply Take.there)
  ·apply cF O
   ·exact .tmp rfl
   exact .tmp rfl
  ·exact⟨s',b,k1,rfl,rfl,hBB,hk1,hP3,hS1.trans hS3⟩
  exact en
 rintro b0 k2 ⟨jc,y⟩ hk2 hF
 exact hF.elim
theorem xw (pa off:Nat) (s:ArS) (l:Lay) (hng:¬ bt s (off:Nat) 8) (hne:s.all≠[]) (hpl:off<=1000000000) (po:Nat) (sd:Int):
  aK Tryz.prog 148 #[.agg #[.pointer (some ⟨pa,0,none⟩),.int .i64 l.key,.int .i64 l.elem,.int .i64 l.ka,.int .i64 l.ea,.int .i64 l.cap,.int .i64 l.eo,.int .i64 l.bo,.int .i64 l.slot,.int .i64 l.group,.int .i64 (off:Nat)],.pointer (some ⟨po,0,none⟩),.int .u64 sd] [aj pa s] (fun v L=>v=.tuple #[.int .i64 0,.int .i64 24]/\L= [aj pa s]):=by
 refine au EO Tryz.func148 rfl rfl rfl fun Fr w0=>aZ ?_
 refine sr<|bw O O fun b3=>eQ O O O fun b4=>eQ O O O fun b5=>ar O O<|ar O O<|lz<|ad O (aO O bA aM) ?_
 refine bF O O O (fg pa off s l hng hne hpl) ?_
 refine mv O O<|ad O (aa O ga) ?_
 refine ad O (aa O ga) ?_
 refine ay O da fun b8=>bZ O O O cl O O ?_
 refine ar O O<|lc<|al<|sr<|mv O O<|ad O (qi O O (bf ·))<|lc<|aG O (fun z=>?_) fun z=>?_
 ·exact sr<|mv O O<|ar O O<|ar O O<|lc<|rt<|ft O ([aj pa s]) (.tmp rfl) (.tmp rfl) ⟨rfl,rfl⟩
 exact absurd z (by decide)
end Plays
end Go.Proofs.YthkajgkagnenbaaGreatDoor
