import Derived.Test.YthkajgkagnenbaaGreatDoorBenchB
set_option linter.unusedVariables false
set_option linter.unusedSimpArgs false
set_option linter.unusedSectionVars false
set_option maxRecDepth 100000
namespace Go.Proofs.YthkajgkagnenbaaGreatDoor
namespace Table
open Go.RowKit Go.Proofs Eng Ty Mem Arena CtrlB Ctrl Layout GroupB Group TableB
section
variable (G:HP) (hG:dR G) (pa off go n e:Nat) (s:ArS) (l:Lay) (T:Tb) (hP:cd s off go l n e T)
include hP
theorem eS:aK Tryz.prog 65 #[.agg #[.pointer (some ⟨pa,0,none⟩),.int .i64 l.key,.int .i64 l.elem,.int .i64 l.ka,.int .i64 l.ea,.int .i64 l.cap,.int .i64 l.eo,.int .i64 l.bo,.int .i64 l.slot,.int .i64 l.group,.int .i64 (off:Nat)]] [aj pa s] (fun v L=>v=.tuple #[.agg #[.int .i64 T.used,.int .i64 (8*(n:Int)),.int .i64 T.left,.int .i64 T.depth,.int .i64 T.pins,.int .i64 T.next,.bool (decide (T.kind=4)),.int .i64 (go:Nat)],.int .i64 0]/\L= [aj pa s]):=
 yj pa off go n s l T hP.gh hP.hT.head hP.hr
theorem iY {g:Nat} (hok:s.ok) (hg:g < n) (i:Int) (hi:i=(g:Nat)):aK Tryz.prog 136 #[.agg #[.pointer (some ⟨pa,0,none⟩),.int .i64 l.key,.int .i64 l.elem,.int .i64 l.ka,.int .i64 l.ea,.int .i64 l.cap,.int .i64 l.eo,.int .i64 l.bo,.int .i64 l.slot,.int .i64 l.group,.int .i64 (off:Nat)],.agg #[.int .i64 T.used,.int .i64 (8*(n:Int)),.int .i64 T.left,.int .i64 T.depth,.int .i64 T.pins,.int .i64 T.next,.bool (decide (T.kind=4)),.int .i64 (go:Nat)],.int .i64 i] [] (fun v L=>v=.agg #[.pointer (some ⟨pa,0,none⟩),.int .i64 l.key,.int .i64 l.elem,.int .i64 l.ka,.int .i64 l.ea,.int .i64 l.cap,.int .i64 l.eo,.int .i64 l.bo,.int .i64 l.slot,.int .i64 l.group,.int .i64 ((go+g*gN l:Nat):Int)]/\L= []):=by
 refine nq pa off go g n l hP.hl T i hi ?_
 have h1:=bt.end_le hok hP.gg
 have h2:=hok.stop_eq
 obtain⟨_,_,_,h3⟩:=hP.grpAt hg
 omega
theorem vK (k:Nat) (hk:k < 8*n):aK Tryz.prog 56 #[.agg #[.pointer (some ⟨pa,0,none⟩),.int .i64 l.key,.int .i64 l.elem,.int .i64 l.ka,.int .i64 l.ea,.int .i64 l.cap,.int .i64 l.eo,.int .i64 l.bo,.int .i64 l.slot,.int .i64 l.group,.int .i64 (off:Nat)],.int .i64 k] [aj pa s] (fun v L=>v=.tuple #[.agg #[.int .i64 (T.cells k).kind,.int .i64 (T.cells k).tagI,.string (T.cells k).keyS,.string (T.cells k).elemS,.int .i64 (T.cells k).birthI],.int .i64 0]/\L= [aj pa s]):=by
 have hn8:=hP.n0
 refine au FR Tryz.func56 rfl rfl rfl fun Fr w0=>aZ ?_
 refine dN (φ:=s.ok) (fun w hw=>cS hw .here) fun hok0=>?_
 refine sr<|bw O O fun b2=>ay O dF fun b4=>ar O O<|lz<|ad O (aO O bA aM) ?_
 refine bF O O O (eS pa off go n e s l T hP) ?_
 refine mv O O<|ad O (aa O ga) ?_
 refine ad O (aa O ga) ?_
 refine ay O da fun b6=>bZ O O O cl O O ?_
 refine ar O O<|lc<|al<|sr<|mv O O<|ad O (qi O O (bf ·))<|lc<|aG O (fun z=>?_) fun z=>?_
 ·exact absurd rfl z
 refine aq<|an<|al<|sr<|mv O O<|ad O (qi O O (bj ·))<|mv O O<|bQ (t:=19) rfl (fun p1=>?_) fun p1=>?_
 ·omega
 refine aA O O<|mv O O<|aA O O<|ad O (aE 1 O bP O O aN)<|aA O O<|ad O (aI O aX) ?_
 refine aA O O<|ad O (qi O O (iC ·))<|ad O (aS O O)<|lc<|aG O (fun p2=>?_) fun p2=>?_
 ·omega
 refine aq<|nz<|ad O (aO O bA aM) ?_
 refine ad O (aO O eY cl) ?_
 refine mv O O<|ad O (eT O O) ?_
 obtain⟨hgood,hG',hok',hin⟩:=hP.grpAt (g:=k / 8) (by omega)
 refine bF O O O (iY pa off go n e s l T hP hok0 (g:=k / 8) (by omega) _ (by omega)) ?_
 refine mv O O<|ad O (iQ O O) ?_
 rw[show((k:Nat):Int) % 8=((k % 8:Nat):Int) by omega]
 refine bF O O O (tB pa (go+k / 8*gN l) s l (ck T.cells (k / 8)) hP.hl hgood hG' hok' (k % 8) (by omega)) ?_
 rw[show ck T.cells (k / 8) (k % 8)=T.cells k by show T.cells (8*(k / 8)+k % 8)=_;congr 1;omega]
 refine ad O (aa O ga) ?_
 refine ad O (aa O ga) ?_
 refine bZ O O O bV O O ?_
 refine ar O O<|lc<|rt ?_
 apply aR (.inl rfl) ([aj pa s])
 ·apply cF O
  ·apply Rv.agg rfl
   ·exact tk
   exact aJ fj bV O
  exact .tmp rfl
 ·exact⟨rfl,rfl⟩
 exact en
theorem xi (next:Int) (hb:-9223372036854775808<=next/\next<=9223372036854775807):aK Tryz.prog 90 #[.agg #[.pointer (some ⟨pa,0,none⟩),.int .i64 l.key,.int .i64 l.elem,.int .i64 l.ka,.int .i64 l.ea,.int .i64 l.cap,.int .i64 l.eo,.int .i64 l.bo,.int .i64 l.slot,.int .i64 l.group,.int .i64 (off:Nat)],.int .i64 next] [aj pa s]
  (fun v L=>∃ s',v=.int .i64 0/\L= [aj pa s']/\cd s' off go l n e {T with next:=next}/\cb s s' off go (n*gN l)):=by
 have hw:=hP.word (T':={T with next:=next}) (k:=2) (by decide) hb rfl (iR (.inr rfl) (.inr rfl) (.inl rfl) (.inr rfl) (.inr rfl) (.inr rfl)) rfl
 refine au G9 Tryz.func90 rfl rfl rfl fun Fr w0=>aZ ?_
 refine sr<|bw O O fun b2=>ar O O<|lc<|al<|sr<|ad O (aO O bA aM) ?_
 refine bF O O O (eS pa off go n e s l T hP) ?_
 refine mv O O<|ad O (aa O ga) ?_
 refine ad O (aa O ga) ?_
 refine ay O da fun b5=>bZ O O O cl O O ?_
 refine ar O O<|lz<|mv O O<|ad O (qi O O (bf ·))<|lc<|aG O (fun z=>?_) fun z=>?_
 ·exact absurd rfl z
 refine aq<|nz<|ad O (aO O bA aM) ?_
 refine mv O O<|cT O O O (gG pa off 2 s l 16 next rfl (by decide) hP.gh) ?_
 rintro v L' rfl
 refine bx ?_
 exact lz<|ar O O<|lc<|rt<|cN O ([aj pa (s.put (off+8*2) 8 (ct (IntKind.u64.wrap next)))]) (.tmp rfl) ⟨_,rfl,rfl,hw⟩
theorem zN (next:Int) (hb:-9223372036854775808<=next/\next<=9223372036854775807):aK Tryz.prog 88 #[.agg #[.pointer (some ⟨pa,0,none⟩),.int .i64 l.key,.int .i64 l.elem,.int .i64 l.ka,.int .i64 l.ea,.int .i64 l.cap,.int .i64 l.eo,.int .i64 l.bo,.int .i64 l.slot,.int .i64 l.group,.int .i64 (off:Nat)],.int .i64 next] [aj pa s]
  (fun v L=>∃ s',v=.int .i64 0/\L= [aj pa s']/\cd s' off go l n e {T with next:=next,kind:=4}/\cb s s' off go (n*gN l)):=by
 refine au Hb Tryz.func88 rfl rfl rfl fun Fr w0=>aZ ?_
 refine sr<|bw O O fun b2=>ar O O<|lc<|al<|sr<|ad O (aO O bA aM) ?_
 refine mv O O<|cT O O O (xi pa off go n e s l T hP next hb) ?_
 rintro v L' ⟨s1,rfl,rfl,hP1,hS1⟩
 refine bx ?_
 refine ar O O<|lz<|mv O O<|ad O (qi O O (bf ·))<|lc<|aG O (fun z=>?_) fun z=>?_
 ·exact absurd rfl z
 refine aq<|nz<|ad O (aO O bA aM) ?_
 have hw:=hP1.word (T':={T with next:=next,kind:=4}) (k:=0) (v:=4) (by decide) (by omega) rfl (iR (.inl rfl) (.inr rfl) (.inr rfl) (.inr rfl) (.inr rfl) (.inr rfl)) rfl
 refine cT O O O (gG pa off 0 s1 l 0 4 rfl (by decide) hP1.gh) ?_
 rintro v L' rfl
 refine bx ?_
 exact lz<|ar O O<|lc<|rt<|cN O ([aj pa (s1.put (off+8*0) 8 (ct (IntKind.u64.wrap 4)))]) (.tmp rfl) ⟨_,rfl,rfl,hw.1,hS1.trans hw.2⟩
theorem Gd (by_:Int) (hb:-9223372036854775808<=by_/\by_<=9223372036854775807) (hpin:0<=T.pins/\T.pins<=4611686018427387904):aK Tryz.prog 86 #[.agg #[.pointer (some ⟨pa,0,none⟩),.int .i64 l.key,.int .i64 l.elem,.int .i64 l.ka,.int .i64 l.ea,.int .i64 l.cap,.int .i64 l.eo,.int .i64 l.bo,.int .i64 l.slot,.int .i64 l.group,.int .i64 (off:Nat)],.int .i64 by_] [aj pa s]
  (fun v L=>((by_ < -T.pins\/4611686018427387904-T.pins < by_)/\v=.tuple #[.int .i64 0,.int .i64 83]/\L= [aj pa s])\/
   (-T.pins<=by_/\by_<=4611686018427387904-T.pins/\∃ s',v=.tuple #[.int .i64 (T.pins+by_),.int .i64 0]/\L= [aj pa s']/\cd s' off go l n e {T with pins:=T.pins+by_}/\cb s s' off go (n*gN l))):=by
 have hneg:IntKind.i64.wrap (0-T.pins)= -T.pins:=by rw[wrap_i64 (by omega)];omega
 refine au Hc Tryz.func86 rfl rfl rfl fun Fr w0=>aZ ?_
 refine sr<|bw O O fun b2=>ar O O<|ar O O<|lz<|ad O (aO O bA aM) ?_
 refine bF O O O (eS pa off go n e s l T hP) ?_
 refine mv O O<|ad O (aa O ga) ?_
 refine ad O (aa O ga) ?_
 refine ay O da fun b6=>bZ O O O cl O O ?_
 refine ar O O<|lc<|al<|sr<|mv O O<|ad O (qi O O (bf ·))<|lc<|aG O (fun z=>?_) fun z=>?_
 ·exact absurd rfl z
 refine aq<|an<|al<|sr<|mv O O<|ad O (aE 4 O bP O O aN)<|ad O (aI O aX) ?_
 refine ad O (db O (tT ·))<|ad O (qi O O (bj ·))<|mv O O<|bQ (t:=21) rfl (fun p1=>?_) fun p1=>?_
 ·refine ax O O O O<|ax O O O O<|ax O O O O<|ax O O O O<|ax O O O O<|ad O (aS O O)<|lc<|bk O<|sr<|ar O O<|ar O O<|lc<|rt ?_
  rw[hneg] at p1
  exact ft O ([aj pa s]) (.tmp rfl) (.tmp rfl) (.inl ⟨.inl p1,rfl,rfl⟩)
 refine aA O O<|mv O O<|aA O O<|ad O (aE 4 O bP O O aN)<|aA O O<|ad O (aI O aX) ?_
 refine aA O O<|ad O (eJ O O) ?_
 refine aA O O<|ad O (qi O O (di ·))<|ad O (aS O O)<|lc ?_
 rw[hneg] at p1
 refine aG O (fun p2=>?_) fun p2=>?_
 ·exact sr<|ar O O<|ar O O<|lc<|rt<|ft O ([aj pa s]) (.tmp rfl) (.tmp rfl) (.inl ⟨.inr p2,rfl,rfl⟩)
 refine aq<|nz<|ad O (aO O bA aM) ?_
 refine ad O (aE 4 O bP O O aN)<|ad O (aI O aX) ?_
 refine mv O O<|ad O (bn O O) ?_
 have hw:=hP.word (T':={T with pins:=T.pins+by_}) (k:=1) (v:=T.pins+by_) (by decide) (by omega) rfl (iR (.inr rfl) (.inl rfl) (.inr rfl) (.inr rfl) (.inr rfl) (.inr rfl)) rfl
 refine cT O O O (gG pa off 1 s l 8 _ rfl (by decide) hP.gh) ?_
 rintro v L' rfl
 refine bx ?_
 refine lz<|ad O (aE 4 O bP O O aN)<|ad O (aI O aX) ?_
 refine mv O O<|ad O (bn O O) ?_
 refine ar O O<|ar O O<|lc<|rt<|ft O ([aj pa (s.put (off+8*1) 8 (ct (IntKind.u64.wrap (T.pins+by_))))]) (.tmp rfl) (.tmp rfl) ?_
 exact .inr ⟨by omega,by omega,_,rfl,rfl,hw⟩
include hG
theorem kQ (h:Int) (hh:0<=h/\h < 18446744073709551616) (key:ByteArray) (hk:key.size=kN l):
  aK Tryz.prog 135 #[.agg #[.pointer (some ⟨pa,0,none⟩),.int .i64 l.key,.int .i64 l.elem,.int .i64 l.ka,.int .i64 l.ea,.int .i64 l.cap,.int .i64 l.eo,.int .i64 l.bo,.int .i64 l.slot,.int .i64 l.group,.int .i64 (off:Nat)],.int .u64 h,.string key] [G,aj pa s]
   (fun v L=>v=.tuple #[.agg #[.int .i64 T.used,.int .i64 (8*(n:Int)),.int .i64 T.left,.int .i64 T.depth,.int .i64 T.pins,.int .i64 T.next,.bool (decide (T.kind=4)),.int .i64 (go:Nat)],.agg #[.int .i64 (bB (h / 128) n T.cells (h % 128) key).slot,.int .i64 (bB (h / 128) n T.cells (h % 128) key).vac,.bool (bB (h / 128) n T.cells (h % 128) key).emp,.int .i64 (bB (h / 128) n T.cells (h % 128) key).probes],.int .i64 0]/\L= [G,aj pa s]):=
 yF G hG pa off go n e s l T hP.hl hP.he hP.hn hP.hT hP.gh hP.gg hP.hr h hh key hk
theorem oi (h:Int) (hh:0<=h/\h < 18446744073709551616) (key elem:ByteArray) (hk:key.size=kN l) (he:elem.size=eN l) (birth:Int) (hb:0<=birth/\birth < 9223372036854775808) (hu:0<=T.used/\T.used<=1099511627776) (hlf:0<=T.left/\T.left<=1099511627776):
  aK Tryz.prog 53 #[.agg #[.pointer (some ⟨pa,0,none⟩),.int .i64 l.key,.int .i64 l.elem,.int .i64 l.ka,.int .i64 l.ea,.int .i64 l.cap,.int .i64 l.eo,.int .i64 l.bo,.int .i64 l.slot,.int .i64 l.group,.int .i64 (off:Nat)],.int .u64 h,.string key,.string elem,.int .i64 birth] [G,aj pa s]
   (fun v L=>∃ s',v=.tuple #[.int .i64 (eD n T h key elem birth).1,.int .i64 0]/\L= [G,aj pa s']/\cd s' off go l n e (eD n T h key elem birth).2/\cb s s' off go (n*gN l)):=by
 have hn:=hP.n0
 have hN:=eK hP.hl
 have hes:(elem.size:Int)=l.elem:=by rw[he];exact hN.e
 refine au B1 Tryz.func53 rfl rfl rfl fun Fr w0=>aZ ?_
 refine dN (φ:=s.ok) (fun w hw=>cS hw (.there .here)) fun hok0=>?_
 refine sr<|bw O O fun b5=>ar O O<|ar O O<|lz<|ad O (aO O bA aM) ?_
 refine mv O O<|mv O O<|bF O O O (kQ G hG pa off go n e s l T hP h hh key hk) ?_
 refine mv O O<|ad O (aa O ga) ?_
 refine ad O (aa O ga) ?_
 refine ad O (aa O ga) ?_
 refine ay O da fun b12=>ay O ja fun b13=>bZ O O O cl O O ?_
 refine bZ O O O fN O O ?_
 refine ar O O<|lc<|al<|aB<|sr<|mv O O<|ad O (qi O O (bf ·))<|ar O O<|lc<|aG O (fun z=>?_) fun z=>?_
 ·exact absurd rfl z
 refine sr<|mv O O<|ad O (m9 O lg)<|ad O (aE 1 O kE O O bH)<|ad O (aE 1 O cB O O aN)<|ad O (aI O aX) ?_
 refine ad O (qi O O (bf ·))<|ar O O<|lc<|aG O (fun y=>?_) fun y=>?_
 ·omega
 refine sr<|mv O O<|ad O (qi O O (bj ·))<|ar O O<|lc<|aG O (fun x=>?_) fun x=>?_
 ·omega
 refine sr<|ad O (aE 0 O eF O O aN)<|ad O (aI O aX) ?_
 refine ad O (qi O O (iC ·))<|ar O O<|lc ?_
 rcases wu hP h key elem birth with⟨g,i,e0,b0,hg,hi,hs,hc,hp⟩ | ⟨hs,hv,hp⟩ | ⟨g,i,hg,hi,hs,hv,hnf,hem,hno,hp⟩
 ·rw[hp,hs]
  obtain⟨hgood,hG',hok',hin⟩:=hP.grpAt hg
  have hcok:=hok' i hi
  have hcg:ck T.cells g i=.full (h % 128) key e0 b0:=hc
  rw[hcg] at hcok
  refine aG O (fun q=>?_) fun q=>?_
  ·refine al<|aY mixed ?_
   apply dq 0 O (yq (aO O bA aM))
   apply dq 1 O (yq (aO O eY cl))
   apply dq 2 O (yq (aE 0 O eF O O aN))
   apply dq 3 O (yq (aI O aX))
   apply dq 4 O (yq (eT O O))
   apply dq 6 O (yq (aE 0 O eF O O aN))
   apply dq 7 O (yq (aI O aX))
   apply dq 8 O (yq (iQ O O))
   apply dq 9 O (yq (ah O))
   refine ak [0,1,4,3,2] [9,8,7,6] 5 [(42,_),(43,_),(46,_)] gO ⟨rfl,rfl,rfl,trivial⟩ (by kernel_rfl) (by kernel_rfl) fun Ex=>?_
   refine bF O O O (iY pa off go n e s l T hP hok0 hg _ (by omega)) ?_
   refine ai ?_
   refine aQ ⟨ya O O (yq (ah O)),ya O O (yq (iQ O O)),ya O O (yq (aI O aX)),ya O O (yq (aE 0 O eF O O aN)),trivial⟩ ?_
   refine ak [8,9,7,6] [] 10 [(47,_),(50,_),(51,_)] gO ⟨rfl,rfl,rfl,trivial⟩ (by kernel_rfl) (by kernel_rfl) fun Ex=>?_
   rw[show((8*g+i:Nat):Int) % 8=((i:Nat):Int) by omega]
   refine bF O O O (xj pa (go+g*gN l) s l (ck T.cells g) hP.hl hgood hG' hok' i (h % 128) key e0 elem b0 hi hcg he) ?_
   refine ai ?_
   refine aQ trivial ?_
   refine ak [] [] 11 [] gO trivial (by kernel_rfl) (by kernel_rfl) fun Ex=>?_
   refine ar O O<|ai ?_
   refine aQ trivial ?_
   refine ak [] [] 12 [(52,_)] gO ⟨rfl,trivial⟩ (by kernel_rfl) (by kernel_rfl) fun Ex=>?_
   refine ar O O<|ai ?_
   refine aQ trivial ?_
   refine aV (by kernel_rfl) ?_
   refine an<|rt ?_
   have hw:=hP.cell hg hi (c:=.full (h % 128) key elem b0) (by obtain⟨c1,c2,c3,c4,c5⟩:=hcok;exact⟨c1,c2,c3,he,c5⟩)
   exact ft O ([G,aj pa (s.put (go+g*gN l) (gN l) (dZ l (cW (ck T.cells g) i (.full (h % 128) key elem b0))))]) (.tmp rfl) (.tmp rfl) ⟨_,rfl,rfl,hw⟩
  omega
 ·rw[hp]
  refine aG O (fun q=>?_) fun q=>?_
  ·omega
  refine sr<|ad O (aE 1 O eF O O aN)<|ad O (aI O aX) ?_
  refine ad O (qi O O (bj ·))<|mv O O<|bQ (t:=57) rfl (fun v1=>?_) fun v1=>?_
  ·exact ax O O O O<|ax O O O O<|ax O O O O<|cJ O O O<|cJ O O O<|cJ O O O<|ax O O O O<|ad O (aS O O)<|ar O O<|lc<|bk O<|sr<|ar O O<|ar O O<|lc<|rt<|ft O ([G,aj pa s]) (.tmp rfl) (.tmp rfl) ⟨s,rfl,rfl,hP,cb.refl _ _ _ _⟩
  refine aA O O<|ad O (aE 2 O eF O O j6)<|aA O O<|ad O (aI O nH) ?_
  refine aA O O<|mv O O ?_
  have hv2:=hv.resolve_left v1
  refine bQ (t:=60) rfl (fun v2=>?_) fun v2=>?_
  ·refine aA O O<|ad O (aE 2 O bP O O aN)<|aA O O<|ad O (aI O aX) ?_
   refine aA O O<|ad O (qi O O (bN ·))<|aA O O<|ad O (aS O O)<|ad O (aS O O)<|ar O O<|lc<|aG O (fun v3=>?_) fun v3=>?_
   ·exact sr<|ar O O<|ar O O<|lc<|rt<|ft O ([G,aj pa s]) (.tmp rfl) (.tmp rfl) ⟨s,rfl,rfl,hP,cb.refl _ _ _ _⟩
   exact absurd hv2.2 v3
  rw[hv2.1] at v2;cases v2
 rw[hp]
 obtain⟨hgood,hG',hok',hin⟩:=hP.grpAt hg
 obtain⟨t,htt,ht128⟩:∃ t:Nat,h % 128=(t:Nat)/\t < 128:=⟨(h % 128).toNat,by omega,by omega⟩
 have hcell:(Cell.full (h % 128) key elem birth).ok l:=⟨by omega,by omega,hk,he,hb.1,hb.2⟩
 have hw:=hP.cell hg hi hcell
 rw[hv,hem]
 refine aG O (fun q=>?_) fun q=>?_
 ·omega
 refine sr<|ad O (aE 1 O eF O O aN)<|ad O (aI O aX) ?_
 refine ad O (qi O O (bj ·))<|mv O O<|bQ (t:=57) rfl (fun v1=>?_) fun v1=>?_
 ·omega
 refine aA O O<|ad O (aE 2 O eF O O j6)<|aA O O<|ad O (aI O nH) ?_
 refine aA O O<|mv O O<|bQ (t:=60) rfl (fun v2=>?_) fun v2=>?_
 ·refine aA O O<|ad O (aE 2 O bP O O aN)<|aA O O<|ad O (aI O aX) ?_
  refine aA O O<|ad O (qi O O (bN ·))<|aA O O<|ad O (aS O O)<|ad O (aS O O)<|ar O O<|lc<|aG O (fun v3=>?_) fun v3=>?_
  ·exact absurd ⟨v2,v3⟩ hno
  have w1:=hw.1.word (T':={T with used:=T.used+1,cells:=cW T.cells (8*g+i) (.full (h % 128) key elem birth)}) (k:=3) (v:=T.used+1) (by decide) (by omega) rfl (iR (.inr rfl) (.inr rfl) (.inr rfl) (.inl rfl) (.inr rfl) (.inr rfl)) rfl
  have w2:=w1.1.word (T':={T with used:=T.used+1,left:=T.left-1,cells:=cW T.cells (8*g+i) (.full (h % 128) key elem birth)}) (k:=5) (v:=T.left-1) (by decide) (by omega) rfl (iR (.inr rfl) (.inr rfl) (.inr rfl) (.inr rfl) (.inl rfl) (.inr rfl)) rfl
  refine aq<|bz<|an<|al<|al<|aY mixed ?_
  apply dq 0 O (yq (aO O bA aM))
  apply dq 1 O (yq (aO O eY cl))
  apply dq 2 O (yq (aE 1 O eF O O aN))
  apply dq 3 O (yq (aI O aX))
  apply dq 4 O (yq (eT O O))
  apply dq 6 O (yq (aE 1 O eF O O aN))
  apply dq 7 O (yq (aI O aX))
  apply dq 8 O (yq (iQ O O))
  apply dq 9 O (yq (ah O))
  apply dq 11 O (yq (ah O))
  apply dq 12 O (yq (ah O))
  apply dq 13 O (yq (ah O))
  refine ak [0,1,4,3,2] [13,12,11,9,8,7,6] 5 [(66,_),(67,_),(70,_)] gO ⟨rfl,rfl,rfl,trivial⟩ (by kernel_rfl) (by kernel_rfl) fun Ex=>?_
  refine bF O O O (iY pa off go n e s l T hP hok0 hg _ (by omega)) ?_
  refine ai ?_
  refine aQ ⟨ya O O (yq (ah O)),ya O O (yq (ah O)),ya O O (yq (ah O)),ya O O (yq (ah O)),ya O O (yq (iQ O O)),ya O O (yq (aI O aX)),ya O O (yq (aE 1 O eF O O aN)),trivial⟩ ?_
  refine ak [9] [13,12,11,8,7,6] 10 [(75,_)] gO ⟨rfl,trivial⟩ (by kernel_rfl) (by kernel_rfl) fun Ex=>?_
  refine bF O O O (tu h hh t htt) ?_
  refine ai ?_
  refine aQ ⟨ya O O (yq (ah O)),ya O O (yq (ah O)),ya O O (yq (ah O)),ya O O (yq (iQ O O)),ya O O (yq (aI O aX)),ya O O (yq (aE 1 O eF O O aN)),trivial⟩ ?_
  refine ak [8,11,12,13,7,6] [] 14 [(71,_),(74,_),(76,_),(77,_),(78,_),(79,_)] gO ⟨rfl,rfl,rfl,rfl,rfl,rfl,trivial⟩ (by kernel_rfl) (by kernel_rfl) fun Ex=>?_
  rw[show((8*g+i:Nat):Int) % 8=((i:Nat):Int) by omega]
  refine bF O O O (Fill_ok pa (go+g*gN l) s l (ck T.cells g) hP.hl hgood hG' hok' i t key elem birth hi ht128 hk he hb) ?_
  rw[<- htt]
  refine ai ?_
  refine aQ trivial ?_
  refine ak [] [] 15 [(80,_)] gO ⟨rfl,trivial⟩ (by kernel_rfl) (by kernel_rfl) fun Ex=>?_
  refine ar O O<|ai ?_
  refine aQ trivial ?_
  refine aV (by kernel_rfl) ?_
  refine nz<|mv O O<|ad O (qi O O (bf ·))<|lc<|aG O (fun v5=>?_) fun v5=>?_
  ·exact absurd rfl v5
  refine aq<|nz<|ad O (aO O bA aM) ?_
  refine ad O (aE 0 O bP O O aN)<|ad O (aI O aX) ?_
  refine ad O (bn O O) ?_
  refine cT O O O (gG pa off 3 _ l 24 _ rfl (by decide) hw.1.gh) ?_
  rintro v L' rfl
  refine bx ?_
  refine lc<|al<|sr<|ad O (aE 2 O eF O O j6)<|ad O (aI O nH) ?_
  refine lc<|aG O (fun v4=>?_) fun v4=>?_
  ·refine aD<|ad O (aO O bA aM) ?_
   refine ad O (aE 2 O bP O O aN)<|ad O (aI O aX) ?_
   refine ad O (eJ O O) ?_
   refine cT O O O (gG pa off 5 _ l 40 _ rfl (by decide) w1.1.gh) ?_
   rintro v L' rfl
   refine bx ?_
   refine lz<|ar O O<|ar O O<|lc<|rt<|ft O ([G,aj pa (((s.put (go+g*gN l) (gN l) (dZ l (cW (ck T.cells g) i (.full (h % 128) key elem birth)))).put (off+8*3) 8 (ct (IntKind.u64.wrap (T.used+1)))).put (off+8*5) 8 (ct (IntKind.u64.wrap (T.left-1))))]) (.tmp rfl) (.tmp rfl) ?_
   exact⟨_,rfl,rfl,by rw[v2];exact w2.1,(hw.2.trans w1.2).trans w2.2⟩
  rw[v2] at v4;cases v4
 refine ax O O O O<|ax O O O O<|ax O O O O<|aA O O<|ad O (aS O O)<|ad O (aS O O)<|ar O O<|lc<|cQ O<|aq<|bz<|an<|al<|al<|aY mixed ?_
 apply dq 0 O (yq (aO O bA aM))
 apply dq 1 O (yq (aO O eY cl))
 apply dq 2 O (yq (aE 1 O eF O O aN))
 apply dq 3 O (yq (aI O aX))
 apply dq 4 O (yq (eT O O))
 apply dq 6 O (yq (aE 1 O eF O O aN))
 apply dq 7 O (yq (aI O aX))
 apply dq 8 O (yq (iQ O O))
 apply dq 9 O (yq (ah O))
 apply dq 11 O (yq (ah O))
 apply dq 12 O (yq (ah O))
 apply dq 13 O (yq (ah O))
 refine ak [0,1,4,3,2] [13,12,11,9,8,7,6] 5 [(66,_),(67,_),(70,_)] gO ⟨rfl,rfl,rfl,trivial⟩ (by kernel_rfl) (by kernel_rfl) fun Ex=>?_
 have w1:=hw.1.word (T':={T with used:=T.used+1,cells:=cW T.cells (8*g+i) (.full (h % 128) key elem birth)}) (k:=3) (v:=T.used+1) (by decide) (by omega) rfl (iR (.inr rfl) (.inr rfl) (.inr rfl) (.inl rfl) (.inr rfl) (.inr rfl)) rfl
 refine bF O O O (iY pa off go n e s l T hP hok0 hg _ (by omega)) ?_
 refine ai ?_
 refine aQ ⟨ya O O (yq (ah O)),ya O O (yq (ah O)),ya O O (yq (ah O)),ya O O (yq (ah O)),ya O O (yq (iQ O O)),ya O O (yq (aI O aX)),ya O O (yq (aE 1 O eF O O aN)),trivial⟩ ?_
 refine ak [9] [13,12,11,8,7,6] 10 [(75,_)] gO ⟨rfl,trivial⟩ (by kernel_rfl) (by kernel_rfl) fun Ex=>?_
 refine bF O O O (tu h hh t htt) ?_
 refine ai ?_
 refine aQ ⟨ya O O (yq (ah O)),ya O O (yq (ah O)),ya O O (yq (ah O)),ya O O (yq (iQ O O)),ya O O (yq (aI O aX)),ya O O (yq (aE 1 O eF O O aN)),trivial⟩ ?_
 refine ak [8,11,12,13,7,6] [] 14 [(71,_),(74,_),(76,_),(77,_),(78,_),(79,_)] gO ⟨rfl,rfl,rfl,rfl,rfl,rfl,trivial⟩ (by kernel_rfl) (by kernel_rfl) fun Ex=>?_
 rw[show((8*g+i:Nat):Int) % 8=((i:Nat):Int) by omega]
 refine bF O O O (Fill_ok pa (go+g*gN l) s l (ck T.cells g) hP.hl hgood hG' hok' i t key elem birth hi ht128 hk he hb) ?_
 rw[<- htt]
 refine ai ?_
 refine aQ trivial ?_
 refine ak [] [] 15 [(80,_)] gO ⟨rfl,trivial⟩ (by kernel_rfl) (by kernel_rfl) fun Ex=>?_
 refine ar O O<|ai ?_
 refine aQ trivial ?_
 refine aV (by kernel_rfl) ?_
 refine nz<|mv O O<|ad O (qi O O (bf ·))<|lc<|aG O (fun v5=>?_) fun v5=>?_
 ·exact absurd rfl v5
 refine aq<|nz<|ad O (aO O bA aM) ?_
 refine ad O (aE 0 O bP O O aN)<|ad O (aI O aX) ?_
 refine ad O (bn O O) ?_
 refine cT O O O (gG pa off 3 _ l 24 _ rfl (by decide) hw.1.gh) ?_
 rintro v L' rfl
 refine bx ?_
 refine lc<|al<|sr<|ad O (aE 2 O eF O O j6)<|ad O (aI O nH) ?_
 refine lc<|aG O (fun v4=>?_) fun v4=>?_
 ·rw[v2] at v4;cases v4
 refine aq<|nz<|ar O O<|ar O O<|lc<|rt<|ft O ([G,aj pa ((s.put (go+g*gN l) (gN l) (dZ l (cW (ck T.cells g) i (.full (h % 128) key elem birth)))).put (off+8*3) 8 (ct (IntKind.u64.wrap (T.used+1))))]) (.tmp rfl) (.tmp rfl) ?_
 exact⟨_,rfl,rfl,by rw[v2];exact w1.1,hw.2.trans w1.2⟩
end
end Table
end Go.Proofs.YthkajgkagnenbaaGreatDoor
