/- Contracts of larderref09: refill, Anew, Split. -/
import Derived.Test.YthkajgkagnenbaaGreatDoorGpR
set_option linter.unusedVariables false
set_option linter.unusedSimpArgs false
set_option linter.unusedSectionVars false
set_option maxRecDepth 100000
namespace Go.Proofs.YthkajgkagnenbaaGreatDoor
namespace Plays
open Go.RowKit Go.Proofs Eng Ty Arena Layout GroupB TableI Table Cells Refill Oracle Grow Exact RefA RefT Ref04
section
variable (pr bq:Nat) (os:List (ByteArray×Int)) (hg:ix os) (hw:∀ o∈os,0<=o.2/\o.2 < 18446744073709551616) (l:Lay) (hl:l.err=0) (x:PR) (he:x.e<=13) (hn:x.n=2 ^ x.e) (hok:∀ i,i < 8*x.n->(x.T.cells i).ok l) (hdep:0<=x.T.depth/\x.T.depth<=6) (sd:Int) (hsd:0<=sd/\sd < 18446744073709551616)
include hg hw hl he hn hok hdep hsd
theorem pT (u:PR) (hud:u.dead=false) (hun:u.n=2 ^ u.e) (R:Nat->Cell) (d0:Int) (i:Nat) (hi:i < 8*x.n) (hf:isFull (x.T.cells i)=true) (hR:R i=x.T.cells i):
  ko l {u with T:=cw u.n (br (bu os) sd) R d0 i} ((br (bu os) sd) (x.T.cells i).keyS) (x.T.cells i).keyS (x.T.cells i).elemS (x.T.cells i).birthI=((eD u.n (cw u.n (br (bu os) sd) R d0 i) ((br (bu os) sd) (x.T.cells i).keyS) (x.T.cells i).keyS (x.T.cells i).elemS (x.T.cells i).birthI).1,0,cw u.n (br (bu os) sd) R d0 (i+1)):=by
 have hN:=eK hl
 have hkk:=hN.k
 have hee:=hN.e
 have hci:=hok i hi
 obtain⟨t1,hc1⟩:=kZ hf
 rw[hc1] at hci
 obtain⟨_,_,hks,hes,hb0,hb1⟩:=hci
 have hff:cw u.n (br (bu os) sd) R d0 (i+1)=(eD u.n (cw u.n (br (bu os) sd) R d0 i) ((br (bu os) sd) (x.T.cells i).keyS) (x.T.cells i).keyS (x.T.cells i).elemS (x.T.cells i).birthI).2:=by
  rw[mf (by rw[hR];exact hf),hR]
 rw[hff]
 unfold ko
 dsimp only
 rw[hud]
 simp only[Bool.false_eq_true,if_false]
 rw[if_neg (show ¬ (((x.T.cells i).keyS.size:Nat):Int)≠l.key by omega),if_neg (show ¬ (((x.T.cells i).elemS.size:Nat):Int)≠l.elem by omega),if_neg (by omega)]
theorem wk (u:PR) (hud:u.dead=false) (hun:u.n=2 ^ u.e) (hue:u.e<=13) (d0:Int):
  aK Tryz.prog 208 #[.pointer (some ⟨x.p,0,none⟩),.pointer (some ⟨bq,0,none⟩),.int .u64 sd,.pointer (some ⟨u.p,0,none⟩),.pointer (some ⟨u.p,0,none⟩)] [cz pr l x,dv bq os,cz pr l {u with T:=cR u.n d0}] (fun v L=>L= [cz pr l x,dv bq os,cz pr l {u with T:=cw u.n (br (bu os) sd) x.T.cells d0 (8*x.n)}]):=by
 have hN:=eK hl
 have hkk:=hN.k
 have hbd:=Lay.bnd hl
 have hn0:0 < x.n:=by rw[hn];exact Nat.two_pow_pos _
 have hn8:x.n<=8192:=by rw[hn];exact(Nat.pow_le_pow_right (by decide:0 < 2) he:2 ^ x.e<=2 ^ 13)
 have hu0:0 < u.n:=by rw[hun];exact Nat.two_pow_pos _
 have hu8:u.n<=8192:=by rw[hun];exact(Nat.pow_le_pow_right (by decide:0 < 2) hue:2 ^ u.e<=2 ^ 13)
 refine au EI Tryz.func208 rfl rfl rfl fun Fr w0=>aZ ?_
 refine cL .here fun vc=>?_
 refine bU (.there .here) fun _ hvc=>?_
 obtain⟨a0,cap,rfl,ha,_,_⟩:=hvc
 obtain⟨g0,rfl⟩:=ha (by omega)
 refine sr<|ar O O<|lc<|aB ?_
 refine bK (fun i:Nat=>i<=8*x.n) (fun i=>[(0,.pointer (some ⟨x.p,0,none⟩)),(1,.pointer (some ⟨bq,0,none⟩)),(2,.int .u64 sd),(3,.pointer (some ⟨u.p,0,none⟩)),(4,.pointer (some ⟨u.p,0,none⟩)),(10,.int .i64 (i:Nat))]) (fun i=>cz pr l {u with T:=cw u.n (br (bu os) sd) x.T.cells d0 i}::pt x.p (.cells #[.pointer (some ⟨pr,0,none⟩),.int .i64 l.key,.int .i64 l.elem,.int .i64 l.ka,.int .i64 l.ea,.int .i64 l.cap,.int .i64 l.eo,.int .i64 l.bo,.int .i64 l.slot,.int .i64 l.group,.int .i64 (x.off:Nat),.int .i64 (x.go:Nat),.int .i64 x.T.used,.int .i64 x.T.left,.int .i64 x.T.depth,.int .i64 x.T.pins,.int .i64 x.T.next,.bool (decide (x.T.kind=4)),.bool x.dead,(.slice (some ⟨g0,0,none⟩) (8*x.n) cap)] 45 (0,0))::aF 142 5 (.slice (some ⟨g0,0,none⟩) (8*x.n) cap) (8*x.n) (rowOf cj (bO x.T.cells (8*x.n)))::dv bq os::Fr) (fun i=>8*x.n-i) 0 (Nat.zero_le _) ⟨rfl,rfl,rfl,rfl,rfl,rfl,trivial⟩ (by simp only[cw];(exact en)) ?_
 intro i hi
 refine al<|sr<|mv O O<|mv O O<|ad O (ae O)<|ad O (aE 19 O bT O O eH)<|ad O (aI O eI) ?_
 refine ad O (ql O ef)<|ad O (qi O O (bj ·))<|lc<|aG O (fun h1=>?_) fun h1=>?_
 ·skip
  have hi8:i < 8*x.n:=by omega
  refine aq<|an<|al<|aB<|sr<|mv O O<|ad O (ae O)<|ad O (aE 19 O bT O O eH)<|ad O (aI O eI) ?_
  refine mv O O<|ad O (aL O O ef bV (by omega)) ?_
  apply ad O
  ·apply cg (A:=aF 142 5 (.slice (some ⟨g0,0,none⟩) (8*x.n) cap) (8*x.n) (rowOf cj (bO x.T.cells (8*x.n)))) (us:=[.int .i64 (x.T.cells i).kind,.int .i64 (x.T.cells i).tagI,.string (x.T.cells i).keyS,.string (x.T.cells i).elemS,.int .i64 (x.T.cells i).birthI]) rfl fj bV rfl
   ·exact tk
   exact tg x hn8 hi8 _ (by omega)
  refine ay O dF fun b11=>bZ O O O bV O O ?_
  refine lc<|al<|sr<|ad O (aE 0 O cq O O aN)<|ad O (aI O aX) ?_
  refine ad O (qi O O (bf ·))<|lc<|aG O (fun q=>?_) fun q=>?_
  ·skip
   have hf:isFull (x.T.cells i)=false:=by
    cases hf:isFull (x.T.cells i) with
    | true=>exact absurd (kq.2 hf) q
    | false=>rfl
   rw[<- js (n:=u.n) (H:=(br (bu os) sd)) (d0:=d0) hf]
   refine xt O<|an<|aD<|mv O O<|ad O (bn O O) ?_
   refine ar O O<|ai ?_
   apply aU ((i+1))
   ·exact(show i+1<=8*x.n by omega)
   ·omega
   ·exact⟨O,O,O,O,O,O,trivial⟩
   exact en
  have hf:isFull (x.T.cells i)=true:=kq.1 (by simpa using q)
  have hci:=hok i hi8
  obtain⟨t1,hc1⟩:=kZ hf
  rw[hc1] at hci
  obtain⟨_,_,hks,_,_,_⟩:=hci
  have hhb:=ib (fE hw) sd (x.T.cells i).keyS
  have hput:=pT os hg hw l hl x he hn hok hdep sd hsd u hud hun x.T.cells d0 i hi8 hf rfl
  have hP:=o4 pr l {u with T:=cw u.n (br (bu os) sd) x.T.cells d0 i} hu8 (iz hun i) hu0 _ hhb (x.T.cells i).keyS (x.T.cells i).elemS (x.T.cells i).birthI
  rw[hput] at hP
  refine aq<|nz<|mv O O<|mv O O<|ad O (aE 2 O cq O O fA)<|ad O (aI O fS) ?_
  refine bF O O O (lP bq os hg sd hsd (x.T.cells i).keyS (by omega)) ?_
  refine ar O O<|lz<|mv O O<|ar O O<|lc<|al<|sr<|mv O O<|mv O O<|ad O (ae O)<|ad O (aE 14 O bT O O aN)<|ad O (aI O aX) ?_
  refine bF O O O (ym _ x.T.depth hhb hdep) ?_
  refine ad O (qi O O (bN ·))<|lc<|aG O (fun r=>?_) fun r=>?_
  ·refine aD<|mv O O<|ar O O<|lr<|mv O O<|mv O O<|ad O (aE 2 O cq O O fA)<|ad O (aI O fS) ?_
   refine ad O (aE 3 O cq O O fA)<|ad O (aI O fS) ?_
   refine ad O (aE 4 O cq O O aN)<|ad O (aI O aX) ?_
   refine bF O O O (hP) ?_
   refine ai<|bz<|an<|aD<|mv O O<|ad O (bn O O) ?_
   refine ar O O<|ai ?_
   apply aU ((i+1))
   ·exact(show i+1<=8*x.n by omega)
   ·omega
   ·exact⟨O,O,O,O,O,O,trivial⟩
   exact en
  refine aq<|an<|aD<|mv O O<|mv O O<|ad O (aE 2 O cq O O fA)<|ad O (aI O fS) ?_
  refine ad O (aE 3 O cq O O fA)<|ad O (aI O fS) ?_
  refine ad O (aE 4 O cq O O aN)<|ad O (aI O aX) ?_
  refine bF O O O (hP) ?_
  refine ai<|bz<|an<|aD<|mv O O<|ad O (bn O O) ?_
  refine ar O O<|ai ?_
  apply aU ((i+1))
  ·exact(show i+1<=8*x.n by omega)
  ·omega
  ·exact⟨O,O,O,O,O,O,trivial⟩
  exact en
 obtain rfl:i=8*x.n:=by omega
 refine xt O ?_
 apply aR (.inr rfl) ([cz pr l x,dv bq os,cz pr l {u with T:=cw u.n (br (bu os) sd) x.T.cells d0 (8*x.n)}])
 ·exact pP O
 ·rfl
 refine bC (.slice (some ⟨g0,0,none⟩) (8*x.n) cap) ?_;(exact en)
theorem wj (u:PR) (hud:u.dead=false) (hun:u.n=2 ^ u.e) (hue:u.e<=13) (y:PR) (hyd:y.dead=false) (hyn:y.n=2 ^ y.e) (hye:y.e<=13) (d0:Int):
  aK Tryz.prog 208 #[.pointer (some ⟨x.p,0,none⟩),.pointer (some ⟨bq,0,none⟩),.int .u64 sd,.pointer (some ⟨u.p,0,none⟩),.pointer (some ⟨y.p,0,none⟩)] [cz pr l x,dv bq os,cz pr l {u with T:=cR u.n d0},cz pr l {y with T:=cR y.n d0}] (fun v L=>L= [cz pr l x,dv bq os,cz pr l {u with T:=cw u.n (br (bu os) sd) (side (br (bu os) sd) x.T.depth x.T.cells 0) d0 (8*x.n)},cz pr l {y with T:=cw y.n (br (bu os) sd) (side (br (bu os) sd) x.T.depth x.T.cells 1) d0 (8*x.n)}]):=by
 have hN:=eK hl
 have hkk:=hN.k
 have hbd:=Lay.bnd hl
 have hn0:0 < x.n:=by rw[hn];exact Nat.two_pow_pos _
 have hn8:x.n<=8192:=by rw[hn];exact(Nat.pow_le_pow_right (by decide:0 < 2) he:2 ^ x.e<=2 ^ 13)
 have hu0:0 < u.n:=by rw[hun];exact Nat.two_pow_pos _
 have hu8:u.n<=8192:=by rw[hun];exact(Nat.pow_le_pow_right (by decide:0 < 2) hue:2 ^ u.e<=2 ^ 13)
 have hv0:0 < y.n:=by rw[hyn];exact Nat.two_pow_pos _
 have hv8:y.n<=8192:=by rw[hyn];exact(Nat.pow_le_pow_right (by decide:0 < 2) hye:2 ^ y.e<=2 ^ 13)
 refine au EI Tryz.func208 rfl rfl rfl fun Fr w0=>aZ ?_
 refine cL .here fun vc=>?_
 refine bU (.there .here) fun _ hvc=>?_
 obtain⟨a0,cap,rfl,ha,_,_⟩:=hvc
 obtain⟨g0,rfl⟩:=ha (by omega)
 refine sr<|ar O O<|lc<|aB ?_
 refine bK (fun i:Nat=>i<=8*x.n) (fun i=>[(0,.pointer (some ⟨x.p,0,none⟩)),(1,.pointer (some ⟨bq,0,none⟩)),(2,.int .u64 sd),(3,.pointer (some ⟨u.p,0,none⟩)),(4,.pointer (some ⟨y.p,0,none⟩)),(10,.int .i64 (i:Nat))]) (fun i=>cz pr l {u with T:=cw u.n (br (bu os) sd) (side (br (bu os) sd) x.T.depth x.T.cells 0) d0 (i)}::cz pr l {y with T:=cw y.n (br (bu os) sd) (side (br (bu os) sd) x.T.depth x.T.cells 1) d0 (i)}::pt x.p (.cells #[.pointer (some ⟨pr,0,none⟩),.int .i64 l.key,.int .i64 l.elem,.int .i64 l.ka,.int .i64 l.ea,.int .i64 l.cap,.int .i64 l.eo,.int .i64 l.bo,.int .i64 l.slot,.int .i64 l.group,.int .i64 (x.off:Nat),.int .i64 (x.go:Nat),.int .i64 x.T.used,.int .i64 x.T.left,.int .i64 x.T.depth,.int .i64 x.T.pins,.int .i64 x.T.next,.bool (decide (x.T.kind=4)),.bool x.dead,(.slice (some ⟨g0,0,none⟩) (8*x.n) cap)] 45 (0,0))::aF 142 5 (.slice (some ⟨g0,0,none⟩) (8*x.n) cap) (8*x.n) (rowOf cj (bO x.T.cells (8*x.n)))::dv bq os::Fr) (fun i=>8*x.n-i) 0 (Nat.zero_le _) ⟨rfl,rfl,rfl,rfl,rfl,rfl,trivial⟩ (by simp only[cw];(exact en)) ?_
 intro i hi
 refine al<|sr<|mv O O<|mv O O<|ad O (ae O)<|ad O (aE 19 O bT O O eH)<|ad O (aI O eI) ?_
 refine ad O (ql O ef)<|ad O (qi O O (bj ·))<|lc<|aG O (fun h1=>?_) fun h1=>?_
 ·skip
  have hi8:i < 8*x.n:=by omega
  refine aq<|an<|al<|aB<|sr<|mv O O<|ad O (ae O)<|ad O (aE 19 O bT O O eH)<|ad O (aI O eI) ?_
  refine mv O O<|ad O (aL O O ef bV (by omega)) ?_
  apply ad O
  ·apply cg (A:=aF 142 5 (.slice (some ⟨g0,0,none⟩) (8*x.n) cap) (8*x.n) (rowOf cj (bO x.T.cells (8*x.n)))) (us:=[.int .i64 (x.T.cells i).kind,.int .i64 (x.T.cells i).tagI,.string (x.T.cells i).keyS,.string (x.T.cells i).elemS,.int .i64 (x.T.cells i).birthI]) rfl fj bV rfl
   ·exact tk
   exact tg x hn8 hi8 _ (by omega)
  refine ay O dF fun b11=>bZ O O O bV O O ?_
  refine lc<|al<|sr<|ad O (aE 0 O cq O O aN)<|ad O (aI O aX) ?_
  refine ad O (qi O O (bf ·))<|lc<|aG O (fun q=>?_) fun q=>?_
  ·skip
   have hf:isFull (x.T.cells i)=false:=by
    cases hf:isFull (x.T.cells i) with
    | true=>exact absurd (kq.2 hf) q
    | false=>rfl
   have hs0:∀ b,isFull (side (br (bu os) sd) x.T.depth x.T.cells b i)=false:=fun b=>by
    cases hs:isFull (side (br (bu os) sd) x.T.depth x.T.cells b i) with
    | false=>rfl
    | true=>have:=(ru hs).1;rw[hf] at this;cases this
   rw[<- js (n:=u.n) (H:=(br (bu os) sd)) (d0:=d0) (hs0 0),<- js (n:=y.n) (H:=(br (bu os) sd)) (d0:=d0) (hs0 1)]
   refine xt O<|an<|aD<|mv O O<|ad O (bn O O) ?_
   refine ar O O<|ai ?_
   apply aU ((i+1))
   ·exact(show i+1<=8*x.n by omega)
   ·omega
   ·exact⟨O,O,O,O,O,O,trivial⟩
   exact en
  have hf:isFull (x.T.cells i)=true:=kq.1 (by simpa using q)
  have hci:=hok i hi8
  obtain⟨t1,hc1⟩:=kZ hf
  rw[hc1] at hci
  obtain⟨_,_,hks,_,_,_⟩:=hci
  have hhb:=ib (fE hw) sd (x.T.cells i).keyS
  have hb2:=qG ((br (bu os) sd) (x.T.cells i).keyS) x.T.depth
  refine aq<|nz<|mv O O<|mv O O<|ad O (aE 2 O cq O O fA)<|ad O (aI O fS) ?_
  refine bF O O O (lP bq os hg sd hsd (x.T.cells i).keyS (by omega)) ?_
  refine ar O O<|lz<|mv O O<|ar O O<|lc<|al<|sr<|mv O O<|mv O O<|ad O (ae O)<|ad O (aE 14 O bT O O aN)<|ad O (aI O aX) ?_
  refine bF O O O (ym _ x.T.depth hhb hdep) ?_
  refine ad O (qi O O (bN ·))<|lc<|aG O (fun r=>?_) fun r=>?_
  ·skip
   have hb:nC ((br (bu os) sd) (x.T.cells i).keyS) x.T.depth=1:=r
   have hput:=pT os hg hw l hl x he hn hok hdep sd hsd y hyd hyn (side (br (bu os) sd) x.T.depth x.T.cells 1) d0 i hi8 hf (lV hf hb)
   have hP:=o4 pr l {y with T:=cw y.n (br (bu os) sd) (side (br (bu os) sd) x.T.depth x.T.cells 1) d0 (i)} hv8 (iz hyn i) hv0 _ hhb (x.T.cells i).keyS (x.T.cells i).elemS (x.T.cells i).birthI
   rw[hput] at hP
   rw[<- js (n:=u.n) (H:=(br (bu os) sd)) (d0:=d0) (show isFull (side (br (bu os) sd) x.T.depth x.T.cells 0 i)=false by rw[oS (b:=0) (by omega)];rfl)]
   refine aD<|mv O O<|ar O O<|lr<|mv O O<|mv O O<|ad O (aE 2 O cq O O fA)<|ad O (aI O fS) ?_
   refine ad O (aE 3 O cq O O fA)<|ad O (aI O fS) ?_
   refine ad O (aE 4 O cq O O aN)<|ad O (aI O aX) ?_
   refine bF O O O (hP) ?_
   refine ai<|bz<|an<|aD<|mv O O<|ad O (bn O O) ?_
   refine ar O O<|ai ?_
   apply aU ((i+1))
   ·exact(show i+1<=8*x.n by omega)
   ·omega
   ·exact⟨O,O,O,O,O,O,trivial⟩
   exact en
  have hb:nC ((br (bu os) sd) (x.T.cells i).keyS) x.T.depth=0:=by
   rcases hb2 with h | h
   ·exact h
   exact absurd h r
  have hput:=pT os hg hw l hl x he hn hok hdep sd hsd u hud hun (side (br (bu os) sd) x.T.depth x.T.cells 0) d0 i hi8 hf (lV hf hb)
  have hP:=o4 pr l {u with T:=cw u.n (br (bu os) sd) (side (br (bu os) sd) x.T.depth x.T.cells 0) d0 (i)} hu8 (iz hun i) hu0 _ hhb (x.T.cells i).keyS (x.T.cells i).elemS (x.T.cells i).birthI
  rw[hput] at hP
  rw[<- js (n:=y.n) (H:=(br (bu os) sd)) (d0:=d0) (show isFull (side (br (bu os) sd) x.T.depth x.T.cells 1 i)=false by rw[oS (b:=1) (by omega)];rfl)]
  refine aq<|an<|aD<|mv O O<|mv O O<|ad O (aE 2 O cq O O fA)<|ad O (aI O fS) ?_
  refine ad O (aE 3 O cq O O fA)<|ad O (aI O fS) ?_
  refine ad O (aE 4 O cq O O aN)<|ad O (aI O aX) ?_
  refine bF O O O (hP) ?_
  refine ai<|bz<|an<|aD<|mv O O<|ad O (bn O O) ?_
  refine ar O O<|ai ?_
  apply aU ((i+1))
  ·exact(show i+1<=8*x.n by omega)
  ·omega
  ·exact⟨O,O,O,O,O,O,trivial⟩
  exact en
 obtain rfl:i=8*x.n:=by omega
 refine xt O ?_
 apply aR (.inr rfl) ([cz pr l x,dv bq os,cz pr l {u with T:=cw u.n (br (bu os) sd) (side (br (bu os) sd) x.T.depth x.T.cells 0) d0 (8*x.n)},cz pr l {y with T:=cw y.n (br (bu os) sd) (side (br (bu os) sd) x.T.depth x.T.cells 1) d0 (8*x.n)}])
 ·exact pP O
 ·rfl
 refine bC (.slice (some ⟨g0,0,none⟩) (8*x.n) cap) ?_;(exact en)
omit hg hw hl he hn hok hdep hsd in
theorem xr (hd:x.dead=true) (s:ArS) (t:Int):aK Tryz.prog 150 #[.pointer (some ⟨x.p,0,none⟩),.pointer (some ⟨bq,0,none⟩),.int .u64 sd,.int .i64 t] [cz pr l x,dv bq os,bd pr s] (fun v L=>v=.tuple #[.pointer none,.int .i64 24]/\L= [cz pr l x,dv bq os,bd pr s]):=by
 refine au B2 Tryz.func150 rfl rfl rfl fun Fr w0=>aZ ?_
 refine cL .here fun vc=>?_
 rw[hd]
 refine sr<|ar O O<|ar O O<|lc<|al<|sr<|mv O O<|ad O (ae O)<|ad O (aE 18 O bT O O j6)<|ad O (aI O nH) ?_
 refine lc<|aG O (fun z=>?_) fun z=>?_
 ·refine sr<|ar O O<|ar O O<|lc<|rt ?_
  apply aR (.inl rfl) ([cz pr l x,dv bq os,bd pr s])
  ·apply cF O
   ·exact .tmp rfl
   exact .tmp rfl
  ·exact⟨rfl,rfl⟩
  refine bC vc ?_;rw[hd];(exact en)
 cases z
omit hg hw hl he hn hok hdep hsd in
theorem vu (hd:x.dead=true) (s:ArS):aK Tryz.prog 153 #[.pointer (some ⟨x.p,0,none⟩),.pointer (some ⟨bq,0,none⟩),.int .u64 sd] [cz pr l x,dv bq os,bd pr s] (fun v L=>v=.tuple #[.pointer none,.pointer none,.int .i64 24]/\L= [cz pr l x,dv bq os,bd pr s]):=by
 refine au yb Tryz.func153 rfl rfl rfl fun Fr w0=>aZ ?_
 refine cL .here fun vc=>?_
 rw[hd]
 refine sr<|ar O O<|ar O O<|ar O O<|lc<|al<|sr<|mv O O<|ad O (ae O)<|ad O (aE 18 O bT O O j6)<|ad O (aI O nH) ?_
 refine lc<|aG O (fun z=>?_) fun z=>?_
 ·refine sr<|ar O O<|ar O O<|ar O O<|lc<|rt ?_
  apply aR (.inl rfl) ([cz pr l x,dv bq os,bd pr s])
  ·apply oG O
   ·exact .tmp rfl
   ·exact .tmp rfl
   exact .tmp rfl
  ·exact⟨rfl,rfl⟩
  refine bC vc ?_;rw[hd];(exact en)
 cases z
variable (hd:x.dead=false) (s:ArS)
include hd
theorem CB (t:Int) (c:Int) (hc:c≠0) (hr:aK Tryz.prog 58 #[.pointer (some ⟨pr,0,none⟩),.agg #[.int .i64 l.key,.int .i64 l.elem,.int .i64 l.ka,.int .i64 l.ea,.int .i64 l.cap,.int .i64 l.eo,.int .i64 l.bo,.int .i64 l.slot,.int .i64 l.group],.int .i64 (IntKind.i64.wrap (t*((8*x.n:Nat):Int))),.int .i64 (x.T.depth)] [bd pr s] (fun v L=>v=.tuple #[.pointer none,.int .i64 c]/\L= [bd pr s])):
  aK Tryz.prog 150 #[.pointer (some ⟨x.p,0,none⟩),.pointer (some ⟨bq,0,none⟩),.int .u64 sd,.int .i64 t] [cz pr l x,dv bq os,bd pr s] (fun v L=>v=.tuple #[.pointer none,.int .i64 c]/\L= [cz pr l x,dv bq os,bd pr s]):=by
 refine au B2 Tryz.func150 rfl rfl rfl fun Fr w0=>aZ ?_
 refine cL .here fun vc=>?_
 refine bU (.there .here) fun _ hvc=>?_
 obtain⟨a0,cap,rfl,ha,_,_⟩:=hvc
 rw[hd]
 refine sr<|ar O O<|ar O O<|lc<|al<|sr<|mv O O<|ad O (ae O)<|ad O (aE 18 O bT O O j6)<|ad O (aI O nH) ?_
 refine lc<|aG O (fun z=>?_) fun z=>?_
 ·cases z
 refine aq<|an<|al<|aY mixed ?_
 apply dq 0 O (yq (ah O))
 apply dq 1 O (yq (ae O))
 apply dq 2 O (yq (aE 0 O bT O O kF))
 apply dq 3 O (yq (aI O kH))
 apply dq 4 O (yq (ah O))
 apply dq 5 O (yq (ae O))
 apply dq 6 O (yq (aE 1 O bT O O bH))
 apply dq 7 O (yq (aO O cZ bH))
 apply dq 8 O (yq (ah O))
 apply dq 9 O (yq (ah O))
 apply dq 10 O (yq (ae O))
 apply dq 11 O (yq (aE 19 O bT O O eH))
 apply dq 12 O (yq (aI O eI))
 apply dq 13 O (yq (ql O ef))
 apply dq 14 O (yq (dA O O))
 apply dq 15 O (yq (ah O))
 apply dq 16 O (yq (ae O))
 apply dq 17 O (yq (aE 14 O bT O O aN))
 apply dq 18 O (yq (aI O aX))
 refine ak [3,7,14,18,2,6,8,13,17,1,5,12,16,0,4,11,15,10,9] [] 19 [(20,_),(24,_),(31,_),(35,_)] gO ⟨rfl,rfl,rfl,rfl,trivial⟩ (by kernel_rfl) (by kernel_rfl) fun Ex=>?_
 refine bF O O O (hr) ?_
 refine ai ?_
 refine aQ trivial ?_
 apply dq 20 O (yq (ah O))
 apply dq 21 O (yq (aa O ga))
 apply dq 22 O (yq (aa O ga))
 refine ak [21,20] [22] 23 [(37,_)] gO ⟨rfl,trivial⟩ (by kernel_rfl) (by kernel_rfl) fun Ex=>?_
 refine ar O O<|ai ?_
 refine aQ ⟨ya O O (yq (aa O ga)),trivial⟩ ?_
 refine ak [22] [] 24 [(38,_)] gO ⟨rfl,trivial⟩ (by kernel_rfl) (by kernel_rfl) fun Ex=>?_
 refine ar O O<|ai ?_
 refine aQ trivial ?_
 refine aV (by kernel_rfl) ?_
 refine an<|al<|sr<|mv O O<|ad O (qi O O (bf ·))<|lc<|aG O (fun z2=>?_) fun z2=>?_
 ·refine sr<|mv O O<|ar O O<|ar O O<|lc<|rt ?_
  apply aR (.inl rfl) ([cz pr l x,dv bq os,bd pr s])
  ·apply cF O
   ·exact .tmp rfl
   exact .tmp rfl
  ·exact⟨rfl,rfl⟩
  refine bC (.slice a0 (8*x.n) cap) ?_;rw[hd];(exact en)
 exact absurd hc z2
theorem zR (t:Int) (N E o1 g1:Nat) (hN:N=2 ^ E) (hE:E<=13) (s2:ArS) (hr:aK Tryz.prog 58 #[.pointer (some ⟨pr,0,none⟩),.agg #[.int .i64 l.key,.int .i64 l.elem,.int .i64 l.ka,.int .i64 l.ea,.int .i64 l.cap,.int .i64 l.eo,.int .i64 l.bo,.int .i64 l.slot,.int .i64 l.group],.int .i64 (IntKind.i64.wrap (t*((8*x.n:Nat):Int))),.int .i64 (x.T.depth)] [bd pr s] (fun v L=>∃ p,v=.tuple #[.pointer (some ⟨p,0,none⟩),.int .i64 0]/\L= [cz pr l (⟨p,o1,g1,N,E,cR N x.T.depth,false,false⟩:PR),bd pr s2])):
  aK Tryz.prog 150 #[.pointer (some ⟨x.p,0,none⟩),.pointer (some ⟨bq,0,none⟩),.int .u64 sd,.int .i64 t] [cz pr l x,dv bq os,bd pr s] (fun v L=>∃ p,v=.tuple #[.pointer (some ⟨p,0,none⟩),.int .i64 0]/\L= [cz pr l (⟨p,o1,g1,N,E,cw N (br (bu os) sd) x.T.cells x.T.depth (8*x.n),false,false⟩:PR),cz pr l x,dv bq os,bd pr s2]):=by
 refine au B2 Tryz.func150 rfl rfl rfl fun Fr w0=>aZ ?_
 refine cL .here fun vc=>?_
 refine bU (.there .here) fun _ hvc=>?_
 obtain⟨a0,cap,rfl,ha,_,_⟩:=hvc
 rw[hd]
 refine sr<|ar O O<|ar O O<|lc<|al<|sr<|mv O O<|ad O (ae O)<|ad O (aE 18 O bT O O j6)<|ad O (aI O nH) ?_
 refine lc<|aG O (fun z=>?_) fun z=>?_
 ·cases z
 refine aq<|an<|al<|aY mixed ?_
 apply dq 0 O (yq (ah O))
 apply dq 1 O (yq (ae O))
 apply dq 2 O (yq (aE 0 O bT O O kF))
 apply dq 3 O (yq (aI O kH))
 apply dq 4 O (yq (ah O))
 apply dq 5 O (yq (ae O))
 apply dq 6 O (yq (aE 1 O bT O O bH))
 apply dq 7 O (yq (aO O cZ bH))
 apply dq 8 O (yq (ah O))
 apply dq 9 O (yq (ah O))
 apply dq 10 O (yq (ae O))
 apply dq 11 O (yq (aE 19 O bT O O eH))
 apply dq 12 O (yq (aI O eI))
 apply dq 13 O (yq (ql O ef))
 apply dq 14 O (yq (dA O O))
 apply dq 15 O (yq (ah O))
 apply dq 16 O (yq (ae O))
 apply dq 17 O (yq (aE 14 O bT O O aN))
 apply dq 18 O (yq (aI O aX))
 refine ak [3,7,14,18,2,6,8,13,17,1,5,12,16,0,4,11,15,10,9] [] 19 [(20,_),(24,_),(31,_),(35,_)] gO ⟨rfl,rfl,rfl,rfl,trivial⟩ (by kernel_rfl) (by kernel_rfl) fun Ex=>?_
 refine cT O O O (hr) ?_
 rintro v L' ⟨p,rfl,rfl⟩
 refine bx ?_
 refine ai ?_
 refine aQ trivial ?_
 apply dq 20 O (yq (ah O))
 apply dq 21 O (yq (aa O ga))
 apply dq 22 O (yq (aa O ga))
 refine ak [21,20] [22] 23 [(37,_)] gO ⟨rfl,trivial⟩ (by kernel_rfl) (by kernel_rfl) fun Ex=>?_
 refine ar O O<|ai ?_
 refine aQ ⟨ya O O (yq (aa O ga)),trivial⟩ ?_
 refine ak [22] [] 24 [(38,_)] gO ⟨rfl,trivial⟩ (by kernel_rfl) (by kernel_rfl) fun Ex=>?_
 refine ar O O<|ai ?_
 refine aQ trivial ?_
 refine aV (by kernel_rfl) ?_
 refine an<|al<|sr<|mv O O<|ad O (qi O O (bf ·))<|lc<|aG O (fun z2=>?_) fun z2=>?_
 ·exact absurd rfl z2
 refine il (L':=cz pr l x::dv bq os::cz pr l (⟨p,o1,g1,N,E,cR N x.T.depth,false,false⟩:PR)::bd pr s2::Fr) (fun w h=>bC (.slice a0 (8*x.n) cap) (by rw[hd];(exact en)) w h) ?_
 refine aq<|nz<|mv O O<|mv O O<|mv O O<|mv O O<|mv O O<|cT O O O (wk pr bq os hg hw l hl x he hn hok hdep sd hsd ⟨p,o1,g1,N,E,cR N x.T.depth,false,false⟩ rfl hN hE x.T.depth) ?_
 rintro v L' rfl
 refine bx ?_
 exact lz<|mv O O<|ar O O<|ar O O<|lc<|rt<|ft O ([cz pr l (⟨p,o1,g1,N,E,cw N (br (bu os) sd) x.T.cells x.T.depth (8*x.n),false,false⟩:PR),cz pr l x,dv bq os,bd pr s2]) (.tmp rfl) (.tmp rfl) ⟨p,rfl,rfl⟩
theorem xn (c:Int) (hc:c≠0) (hr:aK Tryz.prog 58 #[.pointer (some ⟨pr,0,none⟩),.agg #[.int .i64 l.key,.int .i64 l.elem,.int .i64 l.ka,.int .i64 l.ea,.int .i64 l.cap,.int .i64 l.eo,.int .i64 l.bo,.int .i64 l.slot,.int .i64 l.group],.int .i64 (((8*x.n:Nat):Int)),.int .i64 (x.T.depth+1)] [bd pr s] (fun v L=>v=.tuple #[.pointer none,.int .i64 c]/\L= [bd pr s])):
  aK Tryz.prog 153 #[.pointer (some ⟨x.p,0,none⟩),.pointer (some ⟨bq,0,none⟩),.int .u64 sd] [cz pr l x,dv bq os,bd pr s] (fun v L=>v=.tuple #[.pointer none,.pointer none,.int .i64 c]/\L= [cz pr l x,dv bq os,bd pr s]):=by
 refine au yb Tryz.func153 rfl rfl rfl fun Fr w0=>aZ ?_
 refine cL .here fun vc=>?_
 refine bU (.there .here) fun _ hvc=>?_
 obtain⟨a0,cap,rfl,ha,_,_⟩:=hvc
 rw[hd]
 refine sr<|ar O O<|ar O O<|ar O O<|lc<|al<|sr<|mv O O<|ad O (ae O)<|ad O (aE 18 O bT O O j6)<|ad O (aI O nH) ?_
 refine lc<|aG O (fun z=>?_) fun z=>?_
 ·cases z
 refine aq<|an<|al<|aY mixed ?_
 apply dq 0 O (yq (ah O))
 apply dq 1 O (yq (ae O))
 apply dq 2 O (yq (aE 0 O bT O O kF))
 apply dq 3 O (yq (aI O kH))
 apply dq 4 O (yq (ah O))
 apply dq 5 O (yq (ae O))
 apply dq 6 O (yq (aE 1 O bT O O bH))
 apply dq 7 O (yq (aO O cZ bH))
 apply dq 8 O (yq (ah O))
 apply dq 9 O (yq (ae O))
 apply dq 10 O (yq (aE 19 O bT O O eH))
 apply dq 11 O (yq (aI O eI))
 apply dq 12 O (yq (ql O ef))
 apply dq 13 O (yq (ah O))
 apply dq 14 O (yq (ae O))
 apply dq 15 O (yq (aE 14 O bT O O aN))
 apply dq 16 O (yq (aI O aX))
 apply dq 17 O (yq (bn O O))
 refine ak [3,7,12,17,2,6,11,16,1,5,10,15,0,4,9,14,8,13] [] 18 [(20,_),(24,_),(29,_),(34,_)] gO ⟨rfl,rfl,rfl,rfl,trivial⟩ (by kernel_rfl) (by kernel_rfl) fun Ex=>?_
 refine bF O O O (hr) ?_
 refine ai ?_
 refine aQ trivial ?_
 apply dq 19 O (yq (ah O))
 apply dq 20 O (yq (aa O ga))
 apply dq 21 O (yq (aa O ga))
 refine ak [20,19] [21] 22 [(36,_)] gO ⟨rfl,trivial⟩ (by kernel_rfl) (by kernel_rfl) fun Ex=>?_
 refine ar O O<|ai ?_
 refine aQ ⟨ya O O (yq (aa O ga)),trivial⟩ ?_
 refine ak [21] [] 23 [(37,_)] gO ⟨rfl,trivial⟩ (by kernel_rfl) (by kernel_rfl) fun Ex=>?_
 refine ar O O<|ai ?_
 refine aQ trivial ?_
 refine aV (by kernel_rfl) ?_
 refine an<|al<|sr<|mv O O<|ad O (qi O O (bf ·))<|lc<|aG O (fun z2=>?_) fun z2=>?_
 ·refine sr<|mv O O<|ar O O<|ar O O<|ar O O<|lc<|rt ?_
  apply aR (.inl rfl) ([cz pr l x,dv bq os,bd pr s])
  ·apply oG O
   ·exact .tmp rfl
   ·exact .tmp rfl
   exact .tmp rfl
  ·exact⟨rfl,rfl⟩
  refine bC (.slice a0 (8*x.n) cap) ?_;rw[hd];(exact en)
 exact absurd hc z2
theorem xm (c:Int) (hc:c≠0) (o1 g1:Nat) (s2:ArS) (hs2:s2.ok) (hog:o1≠g1) (hb1:∃ c,(((o1:Nat):Int),c)∈s2.bl) (hb2:∃ c,(((g1:Nat):Int),c)∈s2.bl)
  (hr:aK Tryz.prog 58 #[.pointer (some ⟨pr,0,none⟩),.agg #[.int .i64 l.key,.int .i64 l.elem,.int .i64 l.ka,.int .i64 l.ea,.int .i64 l.cap,.int .i64 l.eo,.int .i64 l.bo,.int .i64 l.slot,.int .i64 l.group],.int .i64 (((8*x.n:Nat):Int)),.int .i64 (x.T.depth+1)] [bd pr s] (fun v L=>∃ p,v=.tuple #[.pointer (some ⟨p,0,none⟩),.int .i64 0]/\L= [cz pr l (⟨p,o1,g1,x.n,x.e,cR x.n (x.T.depth+1),false,false⟩:PR),bd pr s2]))
  (hr2:aK Tryz.prog 58 #[.pointer (some ⟨pr,0,none⟩),.agg #[.int .i64 l.key,.int .i64 l.elem,.int .i64 l.ka,.int .i64 l.ea,.int .i64 l.cap,.int .i64 l.eo,.int .i64 l.bo,.int .i64 l.slot,.int .i64 l.group],.int .i64 (((8*x.n:Nat):Int)),.int .i64 (x.T.depth+1)] [bd pr s2] (fun v L=>v=.tuple #[.pointer none,.int .i64 c]/\L= [bd pr s2])):
  aK Tryz.prog 153 #[.pointer (some ⟨x.p,0,none⟩),.pointer (some ⟨bq,0,none⟩),.int .u64 sd] [cz pr l x,dv bq os,bd pr s] (fun v L=>v=.tuple #[.pointer none,.pointer none,.int .i64 c]/\L= [cz pr l x,dv bq os,bd pr (s2.gives [((o1:Nat):Int),((g1:Nat):Int)])]):=by
 have hn8:x.n<=8192:=by rw[hn];exact(Nat.pow_le_pow_right (by decide:0 < 2) he:2 ^ x.e<=2 ^ 13)
 refine au yb Tryz.func153 rfl rfl rfl fun Fr w0=>aZ ?_
 refine cL .here fun vc=>?_
 refine bU (.there .here) fun _ hvc=>?_
 obtain⟨a0,cap,rfl,ha,_,_⟩:=hvc
 rw[hd]
 refine sr<|ar O O<|ar O O<|ar O O<|lc<|al<|sr<|mv O O<|ad O (ae O)<|ad O (aE 18 O bT O O j6)<|ad O (aI O nH) ?_
 refine lc<|aG O (fun z=>?_) fun z=>?_
 ·cases z
 refine aq<|an<|al<|aY mixed ?_
 apply dq 0 O (yq (ah O))
 apply dq 1 O (yq (ae O))
 apply dq 2 O (yq (aE 0 O bT O O kF))
 apply dq 3 O (yq (aI O kH))
 apply dq 4 O (yq (ah O))
 apply dq 5 O (yq (ae O))
 apply dq 6 O (yq (aE 1 O bT O O bH))
 apply dq 7 O (yq (aO O cZ bH))
 apply dq 8 O (yq (ah O))
 apply dq 9 O (yq (ae O))
 apply dq 10 O (yq (aE 19 O bT O O eH))
 apply dq 11 O (yq (aI O eI))
 apply dq 12 O (yq (ql O ef))
 apply dq 13 O (yq (ah O))
 apply dq 14 O (yq (ae O))
 apply dq 15 O (yq (aE 14 O bT O O aN))
 apply dq 16 O (yq (aI O aX))
 apply dq 17 O (yq (bn O O))
 refine ak [3,7,12,17,2,6,11,16,1,5,10,15,0,4,9,14,8,13] [] 18 [(20,_),(24,_),(29,_),(34,_)] gO ⟨rfl,rfl,rfl,rfl,trivial⟩ (by kernel_rfl) (by kernel_rfl) fun Ex=>?_
 refine cT O O O (hr) ?_
 rintro v L' ⟨p,rfl,rfl⟩
 refine bx ?_
 refine ai ?_
 refine aQ trivial ?_
 apply dq 19 O (yq (ah O))
 apply dq 20 O (yq (aa O ga))
 apply dq 21 O (yq (aa O ga))
 refine ak [20,19] [21] 22 [(36,_)] gO ⟨rfl,trivial⟩ (by kernel_rfl) (by kernel_rfl) fun Ex=>?_
 refine ar O O<|ai ?_
 refine aQ ⟨ya O O (yq (aa O ga)),trivial⟩ ?_
 refine ak [21] [] 23 [(37,_)] gO ⟨rfl,trivial⟩ (by kernel_rfl) (by kernel_rfl) fun Ex=>?_
 refine ar O O<|ai ?_
 refine aQ trivial ?_
 refine aV (by kernel_rfl) ?_
 refine an<|al<|sr<|mv O O<|ad O (qi O O (bf ·))<|lc<|aG O (fun z2=>?_) fun z2=>?_
 ·exact absurd rfl z2
 refine aq<|an<|al<|aY mixed ?_
 apply dq 0 O (yq (ah O))
 apply dq 1 O (yq (ae O))
 apply dq 2 O (yq (aE 0 O bT O O kF))
 apply dq 3 O (yq (aI O kH))
 apply dq 4 O (yq (ah O))
 apply dq 5 O (yq (ae O))
 apply dq 6 O (yq (aE 1 O bT O O bH))
 apply dq 7 O (yq (aO O cZ bH))
 apply dq 8 O (yq (ah O))
 apply dq 9 O (yq (ae O))
 apply dq 10 O (yq (aE 19 O bT O O eH))
 apply dq 11 O (yq (aI O eI))
 apply dq 12 O (yq (ql O ef))
 apply dq 13 O (yq (ah O))
 apply dq 14 O (yq (ae O))
 apply dq 15 O (yq (aE 14 O bT O O aN))
 apply dq 16 O (yq (aI O aX))
 apply dq 17 O (yq (bn O O))
 refine ak [3,7,12,17,2,6,11,16,1,5,10,15,0,4,9,14,8,13] [] 18 [(45,_),(49,_),(54,_),(59,_)] gO ⟨rfl,rfl,rfl,rfl,trivial⟩ (by kernel_rfl) (by kernel_rfl) fun Ex=>?_
 refine bF O O O (hr2) ?_
 refine ai ?_
 refine aQ trivial ?_
 apply dq 19 O (yq (ah O))
 apply dq 20 O (yq (aa O ga))
 apply dq 21 O (yq (aa O ga))
 refine ak [20,19] [21] 22 [(61,_)] gO ⟨rfl,trivial⟩ (by kernel_rfl) (by kernel_rfl) fun Ex=>?_
 refine ar O O<|ai ?_
 refine aQ ⟨ya O O (yq (aa O ga)),trivial⟩ ?_
 refine ak [21] [] 23 [(62,_)] gO ⟨rfl,trivial⟩ (by kernel_rfl) (by kernel_rfl) fun Ex=>?_
 refine ar O O<|ai ?_
 refine aQ trivial ?_
 refine aV (by kernel_rfl) ?_
 refine an<|al<|sr<|mv O O<|ad O (qi O O (bf ·))<|lc<|aG O (fun z3=>?_) fun z3=>?_
 ·refine sr<|mv O O<|cT O O O (oh pr l (⟨p,o1,g1,x.n,x.e,cR x.n (x.T.depth+1),false,false⟩:PR) hn8 (fu.new _ _) s2 hs2 (fun _=>⟨hog,hb1,hb2⟩)) ?_
  rintro v L' ⟨rfl,(⟨hq,rfl⟩ | ⟨_,rfl⟩)⟩
  refine bx ?_
  ·cases hq
  refine bx ?_
  refine lz<|mv O O<|ar O O<|ar O O<|ar O O<|lc<|rt ?_
  apply aR (.inl rfl) ([cz pr l x,dv bq os,bd pr (s2.gives [((o1:Nat):Int),((g1:Nat):Int)])])
  ·apply oG O
   ·exact .tmp rfl
   ·exact .tmp rfl
   exact .tmp rfl
  ·exact⟨rfl,rfl⟩
  refine bC (.slice a0 (8*x.n) cap) ?_;rw[hd];(exact en)
 exact absurd hc z3
theorem xl (o1 g1 o2 g2:Nat) (s2 s3:ArS)
  (hr:aK Tryz.prog 58 #[.pointer (some ⟨pr,0,none⟩),.agg #[.int .i64 l.key,.int .i64 l.elem,.int .i64 l.ka,.int .i64 l.ea,.int .i64 l.cap,.int .i64 l.eo,.int .i64 l.bo,.int .i64 l.slot,.int .i64 l.group],.int .i64 (((8*x.n:Nat):Int)),.int .i64 (x.T.depth+1)] [bd pr s] (fun v L=>∃ p,v=.tuple #[.pointer (some ⟨p,0,none⟩),.int .i64 0]/\L= [cz pr l (⟨p,o1,g1,x.n,x.e,cR x.n (x.T.depth+1),false,false⟩:PR),bd pr s2]))
  (hr2:aK Tryz.prog 58 #[.pointer (some ⟨pr,0,none⟩),.agg #[.int .i64 l.key,.int .i64 l.elem,.int .i64 l.ka,.int .i64 l.ea,.int .i64 l.cap,.int .i64 l.eo,.int .i64 l.bo,.int .i64 l.slot,.int .i64 l.group],.int .i64 (((8*x.n:Nat):Int)),.int .i64 (x.T.depth+1)] [bd pr s2] (fun v L=>∃ p,v=.tuple #[.pointer (some ⟨p,0,none⟩),.int .i64 0]/\L= [cz pr l (⟨p,o2,g2,x.n,x.e,cR x.n (x.T.depth+1),false,false⟩:PR),bd pr s3])):
  aK Tryz.prog 153 #[.pointer (some ⟨x.p,0,none⟩),.pointer (some ⟨bq,0,none⟩),.int .u64 sd] [cz pr l x,dv bq os,bd pr s] (fun v L=>∃ p q,v=.tuple #[.pointer (some ⟨p,0,none⟩),.pointer (some ⟨q,0,none⟩),.int .i64 0]/\L= [cz pr l (⟨p,o1,g1,x.n,x.e,cw x.n (br (bu os) sd) (side (br (bu os) sd) x.T.depth x.T.cells 0) (x.T.depth+1) (8*x.n),false,false⟩:PR),cz pr l (⟨q,o2,g2,x.n,x.e,cw x.n (br (bu os) sd) (side (br (bu os) sd) x.T.depth x.T.cells 1) (x.T.depth+1) (8*x.n),false,false⟩:PR),cz pr l x,dv bq os,bd pr s3]):=by
 refine au yb Tryz.func153 rfl rfl rfl fun Fr w0=>aZ ?_
 refine cL .here fun vc=>?_
 refine bU (.there .here) fun _ hvc=>?_
 obtain⟨a0,cap,rfl,ha,_,_⟩:=hvc
 rw[hd]
 refine sr<|ar O O<|ar O O<|ar O O<|lc<|al<|sr<|mv O O<|ad O (ae O)<|ad O (aE 18 O bT O O j6)<|ad O (aI O nH) ?_
 refine lc<|aG O (fun z=>?_) fun z=>?_
 ·cases z
 refine aq<|an<|al<|aY mixed ?_
 apply dq 0 O (yq (ah O))
 apply dq 1 O (yq (ae O))
 apply dq 2 O (yq (aE 0 O bT O O kF))
 apply dq 3 O (yq (aI O kH))
 apply dq 4 O (yq (ah O))
 apply dq 5 O (yq (ae O))
 apply dq 6 O (yq (aE 1 O bT O O bH))
 apply dq 7 O (yq (aO O cZ bH))
 apply dq 8 O (yq (ah O))
 apply dq 9 O (yq (ae O))
 apply dq 10 O (yq (aE 19 O bT O O eH))
 apply dq 11 O (yq (aI O eI))
 apply dq 12 O (yq (ql O ef))
 apply dq 13 O (yq (ah O))
 apply dq 14 O (yq (ae O))
 apply dq 15 O (yq (aE 14 O bT O O aN))
 apply dq 16 O (yq (aI O aX))
 apply dq 17 O (yq (bn O O))
 refine ak [3,7,12,17,2,6,11,16,1,5,10,15,0,4,9,14,8,13] [] 18 [(20,_),(24,_),(29,_),(34,_)] gO ⟨rfl,rfl,rfl,rfl,trivial⟩ (by kernel_rfl) (by kernel_rfl) fun Ex=>?_
 refine cT O O O (hr) ?_
 rintro v L' ⟨p,rfl,rfl⟩
 refine bx ?_
 refine ai ?_
 refine aQ trivial ?_
 apply dq 19 O (yq (ah O))
 apply dq 20 O (yq (aa O ga))
 apply dq 21 O (yq (aa O ga))
 refine ak [20,19] [21] 22 [(36,_)] gO ⟨rfl,trivial⟩ (by kernel_rfl) (by kernel_rfl) fun Ex=>?_
 refine ar O O<|ai ?_
 refine aQ ⟨ya O O (yq (aa O ga)),trivial⟩ ?_
 refine ak [21] [] 23 [(37,_)] gO ⟨rfl,trivial⟩ (by kernel_rfl) (by kernel_rfl) fun Ex=>?_
 refine ar O O<|ai ?_
 refine aQ trivial ?_
 refine aV (by kernel_rfl) ?_
 refine an<|al<|sr<|mv O O<|ad O (qi O O (bf ·))<|lc<|aG O (fun z2=>?_) fun z2=>?_
 ·exact absurd rfl z2
 refine aq<|an<|al<|aY mixed ?_
 apply dq 0 O (yq (ah O))
 apply dq 1 O (yq (ae O))
 apply dq 2 O (yq (aE 0 O bT O O kF))
 apply dq 3 O (yq (aI O kH))
 apply dq 4 O (yq (ah O))
 apply dq 5 O (yq (ae O))
 apply dq 6 O (yq (aE 1 O bT O O bH))
 apply dq 7 O (yq (aO O cZ bH))
 apply dq 8 O (yq (ah O))
 apply dq 9 O (yq (ae O))
 apply dq 10 O (yq (aE 19 O bT O O eH))
 apply dq 11 O (yq (aI O eI))
 apply dq 12 O (yq (ql O ef))
 apply dq 13 O (yq (ah O))
 apply dq 14 O (yq (ae O))
 apply dq 15 O (yq (aE 14 O bT O O aN))
 apply dq 16 O (yq (aI O aX))
 apply dq 17 O (yq (bn O O))
 refine ak [3,7,12,17,2,6,11,16,1,5,10,15,0,4,9,14,8,13] [] 18 [(45,_),(49,_),(54,_),(59,_)] gO ⟨rfl,rfl,rfl,rfl,trivial⟩ (by kernel_rfl) (by kernel_rfl) fun Ex=>?_
 refine cT O O O (hr2) ?_
 rintro v L' ⟨q,rfl,rfl⟩
 refine bx ?_
 refine ai ?_
 refine aQ trivial ?_
 apply dq 19 O (yq (ah O))
 apply dq 20 O (yq (aa O ga))
 apply dq 21 O (yq (aa O ga))
 refine ak [20,19] [21] 22 [(61,_)] gO ⟨rfl,trivial⟩ (by kernel_rfl) (by kernel_rfl) fun Ex=>?_
 refine ar O O<|ai ?_
 refine aQ ⟨ya O O (yq (aa O ga)),trivial⟩ ?_
 refine ak [21] [] 23 [(62,_)] gO ⟨rfl,trivial⟩ (by kernel_rfl) (by kernel_rfl) fun Ex=>?_
 refine ar O O<|ai ?_
 refine aQ trivial ?_
 refine aV (by kernel_rfl) ?_
 refine an<|al<|sr<|mv O O<|ad O (qi O O (bf ·))<|lc<|aG O (fun z3=>?_) fun z3=>?_
 ·exact absurd rfl z3
 refine il (L':=cz pr l x::dv bq os::cz pr l (⟨p,o1,g1,x.n,x.e,cR x.n (x.T.depth+1),false,false⟩:PR)::cz pr l (⟨q,o2,g2,x.n,x.e,cR x.n (x.T.depth+1),false,false⟩:PR)::bd pr s3::Fr) (fun w h=>bC (.slice a0 (8*x.n) cap) (by rw[hd];(exact en)) w h) ?_
 refine aq<|nz<|mv O O<|mv O O<|mv O O<|mv O O<|mv O O<|cT O O O (wj pr bq os hg hw l hl x he hn hok hdep sd hsd (⟨p,o1,g1,x.n,x.e,cR x.n (x.T.depth+1),false,false⟩:PR) rfl hn he (⟨q,o2,g2,x.n,x.e,cR x.n (x.T.depth+1),false,false⟩:PR) rfl hn he (x.T.depth+1)) ?_
 rintro v L' rfl
 refine bx ?_
 refine lz<|mv O O<|mv O O<|ar O O<|ar O O<|ar O O<|lc<|rt ?_
 apply aR (.inl rfl) ([cz pr l (⟨p,o1,g1,x.n,x.e,cw x.n (br (bu os) sd) (side (br (bu os) sd) x.T.depth x.T.cells 0) (x.T.depth+1) (8*x.n),false,false⟩:PR),cz pr l (⟨q,o2,g2,x.n,x.e,cw x.n (br (bu os) sd) (side (br (bu os) sd) x.T.depth x.T.cells 1) (x.T.depth+1) (8*x.n),false,false⟩:PR),cz pr l x,dv bq os,bd pr s3])
 ·apply oG O
  ·exact .tmp rfl
  ·exact .tmp rfl
  exact .tmp rfl
 ·exact⟨p,q,rfl,rfl⟩
 exact en
end
end Plays
end Go.Proofs.YthkajgkagnenbaaGreatDoor
