import Derived.Test.YthkajgkagnenbaaGreatDoorGpP
set_option linter.unusedVariables false
set_option linter.unusedSimpArgs false
set_option linter.unusedSectionVars false
set_option maxRecDepth 100000
namespace Go.Proofs.YthkajgkagnenbaaGreatDoor
namespace Plays
open Go.RowKit Go.Proofs Eng Ty Search Layout GroupB Probe TableB TableI Table Bench Cells Refill Oracle Grow Exact RefT Ref04
def jX (h:Int):Nat->Int
 | 0=>h
 | i+1=>jX h i % 9223372036854775808*2
theorem ub {h:Int} (hh:0<=h/\h < 18446744073709551616):∀ i,0<=jX h i/\jX h i < 18446744073709551616
 | 0=>hh
 | i+1=>by simp only[jX];omega
theorem AR {h:Int} (hh:0<=h/\h < 18446744073709551616) {d:Nat} (hd:d<=6):jX h d / 9223372036854775808=nC h (d:Int):=by
 have:d=0\/d=1\/d=2\/d=3\/d=4\/d=5\/d=6:=by omega
 rcases this with rfl | rfl | rfl | rfl | rfl | rfl | rfl
 ·show h / 9223372036854775808=h / 9223372036854775808 % 2;omega
 ·show jX h 1 / 9223372036854775808=h / 4611686018427387904 % 2;simp only[jX];omega
 ·show jX h 2 / 9223372036854775808=h / 2305843009213693952 % 2;simp only[jX];omega
 ·show jX h 3 / 9223372036854775808=h / 1152921504606846976 % 2;simp only[jX];omega
 ·show jX h 4 / 9223372036854775808=h / 576460752303423488 % 2;simp only[jX];omega
 ·show jX h 5 / 9223372036854775808=h / 288230376151711744 % 2;simp only[jX];omega
 show jX h 6 / 9223372036854775808=h / 144115188075855872 % 2;simp only[jX];omega
theorem ym (h d:Int) (hh:0<=h/\h < 18446744073709551616) (hd:0<=d/\d<=6):aK Tryz.prog 239 #[.int .u64 h,.int .i64 d] [] (fun v L=>v=.int .i64 (nC h d)/\L= []):=by
 obtain⟨e,rfl⟩:=Int.eq_ofNat_of_zero_le hd.1
 have hbt:=AR hh (d:=e) (by omega)
 have hb2:=qG h (e:Int)
 refine au Hu Tryz.func239 rfl rfl rfl fun Fr w0=>aZ ?_
 refine sr<|ar O O<|lc<|al<|sr<|mv O O<|ad O (qi O O (bj ·))<|mv O O<|bQ (t:=8) rfl (fun z1=>?_) fun z1=>?_
 ·omega
 refine aA O O<|mv O O<|aA O O<|ad O (qi O O (di ·))<|ad O (aS O O)<|lc<|aG O (fun z2=>?_) fun z2=>?_
 ·omega
 refine aq<|an<|al<|sr<|ar O O<|lc<|aB ?_
 refine bK (fun i:Nat=>i<=e) (fun i=>[(0,.int .u64 (jX h i)),(1,.int .i64 (e:Nat)),(5,.int .i64 (i:Nat))]) (fun _=>Fr) (fun i=>e-i) 0 (Nat.zero_le _) ⟨rfl,rfl,rfl,trivial⟩ (dS.refl _) ?_
 intro i hi
 have hsb:=ub hh i
 have hsn:=ub hh (i+1)
 simp only[jX] at hsn
 refine al<|sr<|mv O O<|mv O O<|ad O (qi O O (bj ·))<|lc<|aG O (fun q=>?_) fun q=>?_
 ·refine aq<|an<|al<|aB<|aD<|mv O O<|ad O (iQ O O) ?_
  refine ad O (dA O O) ?_
  refine ar O O<|ai<|bz<|an<|aD<|mv O O<|ad O (bn O O) ?_
  refine ar O O<|ai ?_
  apply aU ((i+1))
  ·exact by omega
  ·omega
  ·exact⟨congrArg (fun z=>some (Value.int .u64 z)) (by first | rfl | (show _=jX h i % 9223372036854775808*2;rw[Int.tmod_eq_emod_of_nonneg hsb.1]) | (show _=jX h i % 9223372036854775808*2;rw[Int.tmod_eq_emod_of_nonneg hsb.1,IntKind.wrap_u64];omega)),rfl,rfl,trivial⟩
  exact en
 obtain rfl:i=e:=by omega
 refine xt O<|nz<|mv O O<|ad O (eT O O) ?_
 refine ad O (km O fv j5) ?_
 refine ar O O<|lc<|rt<|cN O ([]) (.tmp rfl) ?_
 exact⟨by congr 1;rw[Int.tdiv_eq_ediv_of_nonneg hsb.1,hbt,IntKind.wrap_u64,IntKind.wrap_i64];omega,rfl⟩
theorem Cy (h:Int) (hh:0<=h/\h < 18446744073709551616):aK Tryz.prog 238 #[.int .u64 h] [] (fun v L=>v=.int .u64 (h / 128)/\L= []):=by
 refine au Hv Tryz.func238 rfl rfl rfl fun Fr w0=>aZ ?_
 refine sr<|ar O O<|lz<|mv O O<|ad O (eT O O) ?_
 refine ar O O<|lc<|rt<|cN O ([]) (.tmp rfl) ?_
 exact⟨by congr 1;rw[Int.tdiv_eq_ediv_of_nonneg hh.1,IntKind.wrap_u64];omega,rfl⟩
theorem kq {c:Cell}:c.kind=2↔isFull c=true:=nZ
theorem nm {c:Cell}:c.kind=1↔isDel c=true:=by cases c <;> simp[Cell.kind,isDel]
theorem xp {n e:Nat} (hn:n=2 ^ e) (he:e<=13) (home:Int) (hh:0<=home/\home < 18446744073709551616):
  aK Tryz.prog 237 #[.int .u64 home,.int .i64 (n:Nat)] [] (fun v L=>(∃ a cap,v=.slice (some ⟨a,0,none⟩) n cap)/\L= [aF 3 1 v n (ints (jF home n n))]):=by
 have hn0:0 < n:=by rw[hn];exact Nat.two_pow_pos e
 have hg:grp ((n:Nat):Int)=n:=by
  cases hb:Probe.powB ((n:Nat):Int) 1 8192 with
  | true=>obtain⟨h1,_⟩:=oV hb;omega
  | false=>
   have:=(Ev ((n:Nat):Int) 8192 13 (by decide) (by decide)).2 ⟨e,he,by rw[hn];simp⟩
   rw[hb] at this;cases this
 have hw:sq home n n=ints (jF home n n):=by
  unfold sq ints jF
  rw[List.map_map]
  exact List.map_congr_left fun j _=>by show Value.int .i64 (ord home n j)=Value.int .i64 ((gk home n j:Nat):Int);rw[l9 hn0]
 refine(wm home ((n:Nat):Int) hh).mono fun v L h=>?_
 obtain⟨rfl,hs⟩:=h
 rw[hg] at hs ⊢
 rw[hw]
 obtain⟨a,cap,rfl,ha,_,_⟩:=hs
 obtain⟨b,rfl⟩:=ha hn0
 exact⟨⟨b,cap,rfl⟩,rfl⟩
def tE (cells:Nat->Cell) (b:Nat->Bool) (i j:Nat):Cell:=if j < i then df cells b j else cells j
theorem Az (cells:Nat->Cell) (b:Nat->Bool):tE cells b 0=cells:=by funext j;unfold tE;rw[if_neg (by omega)]
theorem AA (cells:Nat->Cell) (b:Nat->Bool) (i:Nat):tE cells b i i=cells i:=by unfold tE;rw[if_neg (by omega)]
theorem Fi {cells:Nat->Cell} {b:Nat->Bool} {i:Nat} (h1:isDel (cells i)=true) (h2:b (i / 8)=false):cW (tE cells b i) i .empty=tE cells b (i+1):=by
 funext j
 by_cases q:j=i
 ·subst q
  rw[ek]
  unfold tE df
  rw[if_pos (by omega),if_pos ⟨h1,h2⟩]
 rw[fm _ q]
 unfold tE
 by_cases r:j < i
 ·rw[if_pos r,if_pos (by omega)]
 rw[if_neg r,if_neg (by omega)]
theorem tS {cells:Nat->Cell} {b:Nat->Bool} {i:Nat} (h:¬ (isDel (cells i)=true/\b (i / 8)=false)):tE cells b (i+1)=tE cells b i:=by
 funext j
 unfold tE
 by_cases r:j < i
 ·rw[if_pos r,if_pos (by omega)]
 rw[if_neg r]
 split
 ·obtain rfl:j=i:=by omega
  unfold df
  rw[if_neg h]
 rfl
theorem C4 {cells:Nat->Cell} {b:Nat->Bool} {N:Nat}:bO (tE cells b N) N=bO (df cells b) N:=by
 unfold bO
 exact List.map_congr_left fun j hj=>by unfold tE;rw[if_pos (List.mem_range.1 hj)]
def mz (cells:Nat->Cell) (b:Nat->Bool) (i:Nat):Nat:=dX isDel cells i-dX isDel (df cells b) i
theorem oW (cells:Nat->Cell) (b:Nat->Bool):∀ i,dX isDel (df cells b) i<=dX isDel cells i
 | 0=>Nat.le_refl _
 | i+1=>by
  have:=oW cells b i
  rw[cI,cI]
  unfold df
  by_cases h:isDel (cells i)=true/\b (i / 8)=false
  ·rw[if_pos h,if_pos h.1]
   have:isDel Cell.empty=false:=rfl
   rw[this];simp;unfold df at *;omega
  rw[if_neg h];unfold df at *;split <;> omega
theorem DJ {cells:Nat->Cell} {b:Nat->Bool} {i:Nat} (h1:isDel (cells i)=true) (h2:b (i / 8)=false):mz cells b (i+1)=mz cells b i+1:=by
 have:=oW cells b i
 have e:df cells b i=.empty:=by unfold df;rw[if_pos ⟨h1,h2⟩]
 unfold mz
 rw[cI,cI,e,h1]
 simp[isDel];omega
theorem rL {cells:Nat->Cell} {b:Nat->Bool} {i:Nat} (h:¬ (isDel (cells i)=true/\b (i / 8)=false)):mz cells b (i+1)=mz cells b i:=by
 have:=oW cells b i
 have e:df cells b i=cells i:=by unfold df;rw[if_neg h]
 unfold mz
 rw[cI,cI,e]
 split <;> omega
section
variable (pr bq:Nat) (os:List (ByteArray×Int)) (hg:ix os) (hw:∀ o∈os,0<=o.2/\o.2 < 18446744073709551616) (l:Lay) (hl:l.err=0) (x:PR) (he:x.e<=13) (hn:x.n=2 ^ x.e) (hok:∀ i,i < 8*x.n->(x.T.cells i).ok l) (sd:Int) (hsd:0<=sd/\sd < 18446744073709551616)
include hg hw hl he hn hok hsd
theorem zU:aK Tryz.prog 207 #[.pointer (some ⟨x.p,0,none⟩),.pointer (some ⟨bq,0,none⟩),.int .u64 sd] [cz pr l x,dv bq os] (fun v L=>∃ b,L= [aF 4 1 v x.n (dw b x.n),cz pr l x,dv bq os]/\PB x.n (br (bu os) sd) x.T.cells b (8*x.n)):=by
 have hn0:0 < x.n:=by rw[hn];exact Nat.two_pow_pos _
 have hn8:x.n<=8192:=by rw[hn];exact(Nat.pow_le_pow_right (by decide:0 < 2) he:2 ^ x.e<=2 ^ 13)
 have hN:=eK hl
 have hkk:=hN.k
 have hbd:=Lay.bnd hl
 refine au HW Tryz.func207 rfl rfl rfl fun Fr w0=>aZ ?_
 refine cL .here fun vc=>?_
 refine bU (.there .here) fun _ hvc=>?_
 obtain⟨a0,cap,rfl,ha,_,_⟩:=hvc
 obtain⟨g0,rfl⟩:=ha (by omega)
 refine sr<|ar O O<|lz<|mv O O<|ad O (ae O)<|ad O (aE 19 O bT O O eH)<|ad O (aI O eI) ?_
 refine ad O (ql O ef)<|ad O (eT O O) ?_
 refine ar O O<|lz<|mv O O ?_
 apply dL O O O ln Kz O (by omega) (by omega)
 intro b20
 refine ar O O<|lc<|al<|sr<|ar O O<|lc<|aB ?_
 rw[show(((8*x.n:Nat):Int) / 8).toNat=x.n by omega,show((8*x.n:Nat):Int) / 8=((x.n:Nat):Int) by omega,qF]
 refine bK (fun y:Nat×(Nat->Bool)=>y.1<=8*x.n/\PB x.n (br (bu os) sd) x.T.cells y.2 y.1) (fun y=>[(0,.pointer (some ⟨x.p,0,none⟩)),(1,.pointer (some ⟨bq,0,none⟩)),(2,.int .u64 sd),(7,.int .i64 (x.n:Nat)),(8,.slice (some ⟨b20,0,none⟩) x.n x.n),(9,.int .i64 (y.1:Nat))]) (fun y=>aF 4 1 (.slice (some ⟨b20,0,none⟩) x.n x.n) x.n (dw y.2 x.n)::pt x.p (.cells #[.pointer (some ⟨pr,0,none⟩),.int .i64 l.key,.int .i64 l.elem,.int .i64 l.ka,.int .i64 l.ea,.int .i64 l.cap,.int .i64 l.eo,.int .i64 l.bo,.int .i64 l.slot,.int .i64 l.group,.int .i64 (x.off:Nat),.int .i64 (x.go:Nat),.int .i64 x.T.used,.int .i64 x.T.left,.int .i64 x.T.depth,.int .i64 x.T.pins,.int .i64 x.T.next,.bool (decide (x.T.kind=4)),.bool x.dead,(.slice (some ⟨g0,0,none⟩) (8*x.n) cap)] 45 (0,0))::aF 142 5 (.slice (some ⟨g0,0,none⟩) (8*x.n) cap) (8*x.n) (rowOf cj (bO x.T.cells (8*x.n)))::dv bq os::Fr) (fun y=>8*x.n-y.1) (0,fun _=>false) ⟨Nat.zero_le _,PB.new⟩ ⟨rfl,rfl,rfl,rfl,rfl,rfl,trivial⟩ (by(exact en)) ?_
 rintro⟨i,b⟩ ⟨hi,hB⟩
 dsimp only at hi hB ⊢
 refine al<|sr<|mv O O<|mv O O<|ad O (ae O)<|ad O (aE 19 O bT O O eH)<|ad O (aI O eI) ?_
 refine ad O (ql O ef)<|ad O (qi O O (bj ·))<|lc<|aG O (fun h1=>?_) fun h1=>?_
 ·skip
  have hi8:i < 8*x.n:=by omega
  have hkind:(rowOf cj (bO x.T.cells (8*x.n)))[0+((i:Nat):Int).toNat*5+0]?=some (.int .i64 (x.T.cells i).kind):=by
   rw[show 0+((i:Nat):Int).toNat*5+0=i*5+0 by omega,fI x.T.cells hi8 0 (by decide)]
   rfl
  have hkey:(rowOf cj (bO x.T.cells (8*x.n)))[0+((i:Nat):Int).toNat*5+2]?=some (.string (x.T.cells i).keyS):=by
   rw[show 0+((i:Nat):Int).toNat*5+2=i*5+2 by omega,fI x.T.cells hi8 2 (by decide)]
   rfl
  refine aq<|an<|al<|aB<|al<|sr<|mv O O<|ad O (ae O)<|ad O (aE 19 O bT O O eH)<|ad O (aI O eI) ?_
  refine mv O O<|ad O (aL O O ef bV (by omega)) ?_
  refine ad O (aE 0 O cq O O aN) ?_
  apply ad O
  ·apply aT O aX
   ·exact tk
   exact hkind
  refine ad O (qi O O (bf ·))<|lc<|aG O (fun q=>?_) fun q=>?_
  ·skip
   have hf:isFull (x.T.cells i)=false:=by
    cases hf:isFull (x.T.cells i) with
    | true=>exact absurd (kq.2 hf) q
    | false=>rfl
   refine xt O<|an<|aD<|mv O O<|ad O (bn O O) ?_
   refine ar O O<|ai ?_
   apply aU ((i+1,b))
   ·exact⟨by dsimp only;omega,hB.to (k:=i+1) (by omega) fun j h1 h2=>by(obtain rfl:j=i:=by omega);exact hf⟩
   ·dsimp only;omega
   ·exact⟨O,O,O,O,O,O,trivial⟩
   exact en
  have hf:isFull (x.T.cells i)=true:=kq.1 (by simpa using q)
  have hci:=hok i hi8
  obtain⟨t1,hc1⟩:=kZ hf
  rw[hc1] at hci
  obtain⟨_,_,hks,_,_,_⟩:=hci
  have hhb:=ib (fE hw) sd (x.T.cells i).keyS
  obtain⟨home,hhome⟩:∃ home,home=br (bu os) sd (x.T.cells i).keyS / 128:=⟨_,rfl⟩
  obtain⟨jw,hjw,hjg⟩:=iS (home:=home) hn (show i / 8 < x.n by omega)
  refine aq<|nz<|mv O O<|mv O O<|mv O O<|ad O (ae O)<|ad O (aE 19 O bT O O eH)<|ad O (aI O eI) ?_
  refine mv O O<|ad O (aL O O ef bV (by omega)) ?_
  refine ad O (aE 2 O cq O O fA) ?_
  apply ad O
  ·apply aT O fS
   ·exact tk
   exact hkey
  refine bF O O O (lP bq os hg sd hsd (x.T.cells i).keyS (by omega)) ?_
  refine ar O O<|lz<|mv O O<|bF O O O (Cy _ hhb) ?_
  rw[<- hhome]
  refine mv O O<|cT O O O (xp hn he home (by omega)) ?_
  rintro v L' ⟨⟨ao,co,rfl⟩,rfl⟩
  refine bx ?_
  refine ar O O<|lz<|ar O O<|lc<|aB ?_
  refine bK (fun k:Nat=>k < x.n/\∀ j,j < k->gk home x.n j≠i / 8) (fun k=>[(0,.pointer (some ⟨x.p,0,none⟩)),(1,.pointer (some ⟨bq,0,none⟩)),(2,.int .u64 sd),(7,.int .i64 (x.n:Nat)),(8,.slice (some ⟨b20,0,none⟩) x.n x.n),(9,.int .i64 (i:Nat)),(11,.slice (some ⟨ao,0,none⟩) x.n co),(12,.int .i64 (k:Nat))]) (fun k=>aF 3 1 (.slice (some ⟨ao,0,none⟩) x.n co) x.n (ints (jF home x.n x.n))::aF 4 1 (.slice (some ⟨b20,0,none⟩) x.n x.n) x.n (dw (kp b x.n home k) x.n)::pt x.p (.cells #[.pointer (some ⟨pr,0,none⟩),.int .i64 l.key,.int .i64 l.elem,.int .i64 l.ka,.int .i64 l.ea,.int .i64 l.cap,.int .i64 l.eo,.int .i64 l.bo,.int .i64 l.slot,.int .i64 l.group,.int .i64 (x.off:Nat),.int .i64 (x.go:Nat),.int .i64 x.T.used,.int .i64 x.T.left,.int .i64 x.T.depth,.int .i64 x.T.pins,.int .i64 x.T.next,.bool (decide (x.T.kind=4)),.bool x.dead,(.slice (some ⟨g0,0,none⟩) (8*x.n) cap)] 45 (0,0))::aF 142 5 (.slice (some ⟨g0,0,none⟩) (8*x.n) cap) (8*x.n) (rowOf cj (bO x.T.cells (8*x.n)))::dv bq os::Fr) (fun k=>x.n-k) 0 ⟨hn0,fun j h=>by omega⟩ ⟨rfl,rfl,rfl,rfl,rfl,rfl,rfl,rfl,trivial⟩ (by rw[qg];(exact en)) ?_
  rintro k ⟨hk,hno⟩
  have hway:(ints (jF home x.n x.n))[0+((k:Nat):Int).toNat]?=some (.int .i64 ((gk home x.n k:Nat):Int)):=by
   rw[Nat.zero_add,Int.toNat_natCast];unfold ints;rw[List.getElem?_map,pd hk];rfl
  have hgl:=nr (home:=home) (k:=k) hn0
  have hset:=uL (b:=b) (n:=x.n) (home:=home) (k:=k)
  have hmk:=fun(h:gk home x.n k=i / 8)=>hB.mark hn hf hk (by rw[<- hhome];exact h)
  rw[<- hhome] at hmk
  refine al<|sr<|mv O O<|mv O O<|ad O (ql O bI)<|ad O (qi O O (bj ·))<|mv O O<|bQ (t:=58) rfl (fun p1=>?_) fun p1=>?_
  ·refine aA O O<|mv O O<|aA O O<|mv O O<|aA O O<|ad O (az O O bI aN (by omega)) ?_
   refine aA O O ?_
   apply ad O
   ·apply aT O aX
    ·exact tk
    exact hway
   refine aA O O<|mv O O<|aA O O<|ad O (eT O O) ?_
   refine aA O O<|ad O (qi O O (bf ·))<|ad O (aS O O)<|lc<|aG O (fun p2=>?_) fun p2=>?_
   ·skip
    have hne:gk home x.n k≠i / 8:=by omega
    have hk1:k+1 < x.n:=by
     rcases Nat.lt_or_ge (k+1) x.n with r | r
     ·exact r
     exfalso
     rcases Nat.lt_or_ge jw k with r2 | r2
     ·exact hno jw r2 hjg
     obtain rfl:jw=k:=by omega
     exact hne hjg
    refine aq<|an<|al<|aB<|aD<|mv O O<|mv O O<|mv O O<|ad O (az O O bI aN (by omega)) ?_
    apply ad O
    ·apply aT O aX
     ·exact tk
     exact hway
    refine ad O (az O O ln j6 (by omega)) ?_
    refine ee O O O j6 O tk (by omega) hset ?_
    refine ai<|bz<|an<|aD<|mv O O<|ad O (bn O O) ?_
    refine ar O O<|ai ?_
    apply aU ((k+1))
    ·exact⟨hk1,fun j hj=>by rcases Nat.lt_or_ge j k with r | r;exact hno j r;(obtain rfl:j=k:=by omega);exact hne⟩
    ·omega
    ·exact⟨O,O,O,O,O,O,O,O,trivial⟩
    exact en
   have heq:gk home x.n k=i / 8:=by omega
   refine xt O<|bz<|an<|aD<|mv O O<|ad O (bn O O) ?_
   refine ar O O<|ai ?_
   apply aU ((i+1,kp b x.n home k))
   ·exact⟨by dsimp only;omega,hmk heq⟩
   ·dsimp only;omega
   ·exact⟨O,O,O,O,O,O,trivial⟩
   exact en
  omega
 obtain rfl:i=8*x.n:=by omega
 refine xt O<|nz<|mv O O<|ar O O<|lc<|rt ?_
 apply aR (.inl rfl) ([aF 4 1 (.slice (some ⟨b20,0,none⟩) x.n x.n) x.n (dw b x.n),cz pr l x,dv bq os])
 ·apply cP O
  exact .tmp rfl
 ·exact⟨b,rfl,hB⟩
 intro w h;have h2:=bC (.slice (some ⟨g0,0,none⟩) (8*x.n) cap) (R:=aF 4 1 (.slice (some ⟨b20,0,none⟩) x.n x.n) x.n (dw b x.n)::dv bq os::Fr) (by(exact en)) w h;exact(show dS (cz pr l x::aF 4 1 (.slice (some ⟨b20,0,none⟩) x.n x.n) x.n (dw b x.n)::dv bq os::Fr) _ by(exact en)) w h2
omit hg hw hl he hn hok hsd in
theorem vz (hd:x.dead=true):aK Tryz.prog 149 #[.pointer (some ⟨x.p,0,none⟩),.pointer (some ⟨bq,0,none⟩),.int .u64 sd] [cz pr l x,dv bq os] (fun v L=>v=.tuple #[.int .i64 0,.int .i64 24]/\L= [cz pr l x,dv bq os]):=by
 refine au EN Tryz.func149 rfl rfl rfl fun Fr w0=>aZ ?_
 refine cL .here fun vc=>?_
 rw[hd]
 refine sr<|ar O O<|ar O O<|lc<|al<|sr<|mv O O<|ad O (ae O)<|ad O (aE 18 O bT O O j6)<|ad O (aI O nH) ?_
 refine lc<|aG O (fun z=>?_) fun z=>?_
 ·refine sr<|ar O O<|ar O O<|lc<|rt ?_
  apply aR (.inl rfl) ([cz pr l x,dv bq os])
  ·apply cF O
   ·exact .tmp rfl
   exact .tmp rfl
  ·exact⟨rfl,rfl⟩
  refine bC vc ?_;rw[hd];(exact en)
 cases z
theorem zO (hd:x.dead=false) (hR:fu x.n x.T):aK Tryz.prog 149 #[.pointer (some ⟨x.p,0,none⟩),.pointer (some ⟨bq,0,none⟩),.int .u64 sd] [cz pr l x,dv bq os] (fun v L=>∃ b k,v=.tuple #[.int .i64 (k:Nat),.int .i64 0]/\L= [cz pr l {x with T:=lF x.T b k},dv bq os]/\PB x.n (br (bu os) sd) x.T.cells b (8*x.n)/\dX isDel x.T.cells (8*x.n)=dX isDel (df x.T.cells b) (8*x.n)+k):=by
 have hn0:0 < x.n:=by rw[hn];exact Nat.two_pow_pos _
 have hn8:x.n<=8192:=by rw[hn];exact(Nat.pow_le_pow_right (by decide:0 < 2) he:2 ^ x.e<=2 ^ 13)
 have hl0:=hR.left0
 have hl1:=hR.left1
 refine au EN Tryz.func149 rfl rfl rfl fun Fr w0=>aZ ?_
 refine cL .here fun vc=>?_
 rw[hd]
 refine sr<|ar O O<|ar O O<|lc<|al<|sr<|mv O O<|ad O (ae O)<|ad O (aE 18 O bT O O j6)<|ad O (aI O nH) ?_
 refine lc<|aG O (fun z=>?_) fun z=>?_
 ·cases z
 refine il (L':=cz pr l x::dv bq os::Fr) (fun w h=>bC vc (by rw[hd];(exact en)) w h) ?_
 refine aq<|nz<|mv O O<|mv O O<|mv O O<|cT O O O (zU pr bq os hg hw l hl x he hn hok sd hsd) ?_
 rintro v L' ⟨b,rfl,hB⟩
 refine bx ?_
 refine ar O O<|lz<|ar O O<|lc<|al<|sr<|ar O O<|lc<|aB ?_
 refine bU .here fun _ hvb=>?_
 obtain⟨ab,bc,rfl,hab,_,_⟩:=hvb
 obtain⟨bv,rfl⟩:=hab hn0
 refine cL (.there .here) fun vc=>?_
 refine bU (.there .here) fun _ hvc=>?_
 obtain⟨a0,cap,rfl,ha,_,_⟩:=hvc
 obtain⟨g0,rfl⟩:=ha (by omega)
 rw[hd]
 have hbool:∀ i:Nat,i < 8*x.n->(dw b x.n)[0+(((i:Nat):Int) / 8).toNat]?=some (.bool (b (i / 8))):=fun i hi=>by
  rw[show 0+(((i:Nat):Int) / 8).toNat=i / 8 by omega];exact k9 (by omega)
 have hboolA:=hbool
 clear hbool
 refine bK (fun i:Nat=>i<=8*x.n) (fun i=>[(0,.pointer (some ⟨x.p,0,none⟩)),(8,.slice (some ⟨bv,0,none⟩) x.n bc),(9,.int .i64 (mz x.T.cells b i:Nat)),(10,.int .i64 (i:Nat))]) (fun i=>aF 4 1 (.slice (some ⟨bv,0,none⟩) x.n bc) x.n (dw b x.n)::pt x.p (.cells #[.pointer (some ⟨pr,0,none⟩),.int .i64 l.key,.int .i64 l.elem,.int .i64 l.ka,.int .i64 l.ea,.int .i64 l.cap,.int .i64 l.eo,.int .i64 l.bo,.int .i64 l.slot,.int .i64 l.group,.int .i64 (x.off:Nat),.int .i64 (x.go:Nat),.int .i64 x.T.used,.int .i64 x.T.left,.int .i64 x.T.depth,.int .i64 x.T.pins,.int .i64 x.T.next,.bool (decide (x.T.kind=4)),.bool false,(.slice (some ⟨g0,0,none⟩) (8*x.n) cap)] 45 (0,0))::aF 142 5 (.slice (some ⟨g0,0,none⟩) (8*x.n) cap) (8*x.n) (rowOf cj (bO x.T.cells (8*x.n)))::dv bq os::Fr) (fun i=>8*x.n-i) 0 (Nat.zero_le _) ⟨rfl,rfl,rfl,rfl,trivial⟩ (by(exact en)) ?_
 intro i hi
 have hcd:=lM isDel x.T.cells i
 have hgn:mz x.T.cells b i<=dX isDel x.T.cells i:=Nat.sub_le _ _
 refine al<|sr<|mv O O<|mv O O<|ad O (ae O)<|ad O (aE 19 O bT O O eH)<|ad O (aI O eI) ?_
 refine ad O (ql O ef)<|ad O (qi O O (bj ·))<|lc<|aG O (fun h1=>?_) fun h1=>?_
 ·skip
  have hi8:i < 8*x.n:=by omega
  have hbool:=hboolA i hi8
  have hkind:(rowOf cj (bO x.T.cells (8*x.n)))[0+((i:Nat):Int).toNat*5+0]?=some (.int .i64 (x.T.cells i).kind):=by
   rw[show 0+((i:Nat):Int).toNat*5+0=i*5+0 by omega,fI x.T.cells hi8 0 (by decide)]
   rfl
  refine aq<|an<|al<|aB<|sr<|mv O O<|ad O (ae O)<|ad O (aE 19 O bT O O eH)<|ad O (aI O eI) ?_
  refine mv O O<|ad O (aL O O ef bV (by omega)) ?_
  refine ad O (aE 0 O cq O O aN) ?_
  apply ad O
  ·apply aT O aX
   ·exact tk
   exact hkind
  refine ad O (qi O O (bN ·))<|mv O O<|bQ (t:=38) rfl (fun q1=>?_) fun q1=>?_
  ·refine aA O O<|mv O O<|aA O O<|mv O O<|aA O O<|ad O (eT O O) ?_
   refine aA O O<|ad O (az O O ln j6 (by omega)) ?_
   refine aA O O ?_
   apply ad O
   ·apply aT O nH
    ·exact tk
    exact hbool
   refine aA O O<|ad O (db O (cy ·))<|ad O (aS O O)<|lc<|aG O (fun q2=>?_) fun q2=>?_
   ·skip
    have hgd:=DJ (nm.1 q1) (by simpa using q2)
    refine aD<|mv O O<|ad O (bn O O) ?_
    refine ar O O<|ai<|bz<|an<|aD<|mv O O<|ad O (bn O O) ?_
    refine ar O O<|ai ?_
    apply aU ((i+1))
    ·exact(show i+1<=8*x.n by omega)
    ·omega
    ·exact⟨rfl,rfl,congrArg (fun z=>some (Value.int .i64 z)) (by rw[hgd];simp),rfl,trivial⟩
    exact en
   have hgd:=rL (cells:=x.T.cells) (b:=b) (i:=i) fun r=>by simp[r.2] at q2
   refine aq<|bz<|an<|aD<|mv O O<|ad O (bn O O) ?_
   refine ar O O<|ai ?_
   apply aU ((i+1))
   ·exact(show i+1<=8*x.n by omega)
   ·omega
   ·exact⟨rfl,rfl,by rw[hgd];rfl,rfl,trivial⟩
   exact en
  have hgd:=rL (cells:=x.T.cells) (b:=b) (i:=i) fun r=>q1 (nm.2 r.1)
  refine ax O O O O<|ax O O O O<|ax O O O O<|ax O O O O<|ax O O O O<|ax O O O O<|ad O (aS O O)<|lc<|cQ O<|aq<|bz<|an<|aD<|mv O O<|ad O (bn O O) ?_
  refine ar O O<|ai ?_
  apply aU ((i+1))
  ·exact(show i+1<=8*x.n by omega)
  ·omega
  ·exact⟨rfl,rfl,by rw[hgd];rfl,rfl,trivial⟩
  exact en
 obtain rfl:i=8*x.n:=by omega
 obtain⟨kk,hkk⟩:∃ kk,kk=mz x.T.cells b (8*x.n):=⟨_,rfl⟩
 have hgl:=oW x.T.cells b (8*x.n)
 have hkd:dX isDel x.T.cells (8*x.n)=dX isDel (df x.T.cells b) (8*x.n)+kk:=by rw[hkk];unfold mz;omega
 rw[<- hkk]
 refine xt O<|an<|al<|sr<|ar O O<|lc<|aB ?_
 refine bK (fun i:Nat=>i<=8*x.n) (fun i=>[(0,.pointer (some ⟨x.p,0,none⟩)),(8,.slice (some ⟨bv,0,none⟩) x.n bc),(9,.int .i64 (kk:Nat)),(11,.int .i64 (i:Nat))]) (fun i=>aF 4 1 (.slice (some ⟨bv,0,none⟩) x.n bc) x.n (dw b x.n)::pt x.p (.cells #[.pointer (some ⟨pr,0,none⟩),.int .i64 l.key,.int .i64 l.elem,.int .i64 l.ka,.int .i64 l.ea,.int .i64 l.cap,.int .i64 l.eo,.int .i64 l.bo,.int .i64 l.slot,.int .i64 l.group,.int .i64 (x.off:Nat),.int .i64 (x.go:Nat),.int .i64 x.T.used,.int .i64 x.T.left,.int .i64 x.T.depth,.int .i64 x.T.pins,.int .i64 x.T.next,.bool (decide (x.T.kind=4)),.bool false,(.slice (some ⟨g0,0,none⟩) (8*x.n) cap)] 45 (0,0))::aF 142 5 (.slice (some ⟨g0,0,none⟩) (8*x.n) cap) (8*x.n) (rowOf cj (bO (tE x.T.cells b i) (8*x.n)))::dv bq os::Fr) (fun i=>8*x.n-i) 0 (Nat.zero_le _) ⟨rfl,rfl,rfl,rfl,trivial⟩ (by rw[Az];(exact en)) ?_
 intro i hi
 refine al<|sr<|mv O O<|mv O O<|ad O (ae O)<|ad O (aE 19 O bT O O eH)<|ad O (aI O eI) ?_
 refine ad O (ql O ef)<|ad O (qi O O (bj ·))<|lc<|aG O (fun h2=>?_) fun h2=>?_
 ·skip
  have hi8:i < 8*x.n:=by omega
  have hbool:=hboolA i hi8
  have hkind:(rowOf cj (bO (tE x.T.cells b i) (8*x.n)))[0+((i:Nat):Int).toNat*5+0]?=some (.int .i64 (x.T.cells i).kind):=by
   rw[show 0+((i:Nat):Int).toNat*5+0=i*5+0 by omega,fI (tE x.T.cells b i) hi8 0 (by decide),AA]
   rfl
  refine aq<|an<|al<|aB<|sr<|mv O O<|ad O (ae O)<|ad O (aE 19 O bT O O eH)<|ad O (aI O eI) ?_
  refine mv O O<|ad O (aL O O ef bV (by omega)) ?_
  refine ad O (aE 0 O cq O O aN) ?_
  apply ad O
  ·apply aT O aX
   ·exact tk
   exact hkind
  refine ad O (qi O O (bN ·))<|mv O O<|bQ (t:=66) rfl (fun q1=>?_) fun q1=>?_
  ·refine aA O O<|mv O O<|aA O O<|mv O O<|aA O O<|ad O (eT O O) ?_
   refine aA O O<|ad O (az O O ln j6 (by omega)) ?_
   refine aA O O ?_
   apply ad O
   ·apply aT O nH
    ·exact tk
    exact hbool
   refine aA O O<|ad O (db O (cy ·))<|ad O (aS O O)<|lc<|aG O (fun q2=>?_) fun q2=>?_
   ·skip
    have hdl:=nm.1 q1
    have hup:=Fi hdl (show b (i / 8)=false by simpa using q2)
    have hset:(rowOf cj (bO (tE x.T.cells b i) (8*x.n))).set (0+((i:Nat):Int).toNat*5+0) (.int .i64 0)=rowOf cj (bO (tE x.T.cells b (i+1)) (8*x.n)):=by
     rw[show 0+((i:Nat):Int).toNat*5+0=i*5+0 by omega,g7 mO (by decide) _ i _ (eV hi8) (a':=.empty) (by rw[AA];cases hc:x.T.cells i <;> rw[hc] at hdl <;> first | rfl | cases hdl),k5 _ hi8,hup]
    refine aD<|mv O O<|ad O (ae O)<|ad O (aE 19 O bT O O eH)<|ad O (aI O eI) ?_
    refine mv O O<|ad O (aL O O ef bV (by omega)) ?_
    refine ad O (aE 0 O cq O O aN) ?_
    refine ee O O O aN O tk (by omega) hset ?_
    refine ai<|bz<|an<|aD<|mv O O<|ad O (bn O O) ?_
    refine ar O O<|ai ?_
    apply aU ((i+1))
    ·exact(show i+1<=8*x.n by omega)
    ·omega
    ·exact⟨O,O,O,O,trivial⟩
    exact en
   have hup:=tS (cells:=x.T.cells) (b:=b) (i:=i) fun r=>by simp[r.2] at q2
   rw[<- hup]
   refine aq<|bz<|an<|aD<|mv O O<|ad O (bn O O) ?_
   refine ar O O<|ai ?_
   apply aU ((i+1))
   ·exact(show i+1<=8*x.n by omega)
   ·omega
   ·exact⟨O,O,O,O,trivial⟩
   exact en
  have hup:=tS (cells:=x.T.cells) (b:=b) (i:=i) fun r=>q1 (nm.2 r.1)
  rw[<- hup]
  refine ax O O O O<|ax O O O O<|ax O O O O<|ax O O O O<|ax O O O O<|ax O O O O<|ad O (aS O O)<|lc<|cQ O<|aq<|bz<|an<|aD<|mv O O<|ad O (bn O O) ?_
  refine ar O O<|ai ?_
  apply aU ((i+1))
  ·exact(show i+1<=8*x.n by omega)
  ·omega
  ·exact⟨O,O,O,O,trivial⟩
  exact en
 obtain rfl:i=8*x.n:=by omega
 rw[C4]
 refine xt O<|nz<|mv O O<|mv O O<|ad O (ae O)<|ad O (aE 13 O bT O O aN)<|ad O (aI O aX) ?_
 refine mv O O<|ad O (bn O O) ?_
 refine ad O (ae O)<|ad O (aE 13 O bT O O aN)<|st O O O aN O ?_
 refine lz<|mv O O<|ar O O<|ar O O<|lc<|rt ?_
 apply aR (.inl rfl) ([cz pr l {x with T:=lF x.T b kk},dv bq os])
 ·apply cF O
  ·exact .tmp rfl
  exact .tmp rfl
 ·exact⟨b,kk,rfl,by rw[hd],hB,hkd⟩
 refine bC (x:={x with T:=lF x.T b kk}) (.slice (some ⟨g0,0,none⟩) (8*x.n) cap) ?_;unfold lF;dsimp only;rw[hd];(exact en)
end
end Plays
end Go.Proofs.YthkajgkagnenbaaGreatDoor
