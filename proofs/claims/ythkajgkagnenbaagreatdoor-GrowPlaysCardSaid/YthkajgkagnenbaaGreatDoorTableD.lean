import Derived.Test.YthkajgkagnenbaaGreatDoorTableW
import Derived.Test.YthkajgkagnenbaaGreatDoorArenaF
set_option linter.unusedVariables false
set_option linter.unusedSimpArgs false
set_option linter.unusedSectionVars false
set_option maxRecDepth 100000
namespace Go.Proofs.YthkajgkagnenbaaGreatDoor
section
namespace Table
open Go.RowKit Go.Proofs Eng Ty Mem Arena CtrlB Ctrl Layout GroupB Group TableB
def GV (x:Int):Int:=
 let a:=IntKind.u64.wrap (bits .and .u64 (x.fdiv (2 ^ min (Int.toNat 1) IntKind.u64.bits)) 6148914691236517205+bits .and .u64 x 6148914691236517205)
 let b:=IntKind.u64.wrap (bits .and .u64 (a.fdiv (2 ^ min (Int.toNat 2) IntKind.u64.bits)) 3689348814741910323+bits .and .u64 a 3689348814741910323)
 let c:=bits .and .u64 (IntKind.u64.wrap (b.fdiv (2 ^ min (Int.toNat 4) IntKind.u64.bits)+b)) 1085102592571150095
 let d:=IntKind.u64.wrap (c+c.fdiv (2 ^ min (Int.toNat 8) IntKind.u64.bits))
 let e:=IntKind.u64.wrap (d+d.fdiv (2 ^ min (Int.toNat 16) IntKind.u64.bits))
 IntKind.u64.wrap (e+e.fdiv (2 ^ min (Int.toNat 32) IntKind.u64.bits))
theorem Ea (s:Nat->Bool):aK Tryz.prog 213 #[.int .u64 (fL s)] [] (fun v L=>v=.int .i64 ((bE s).length:Nat)/\L= []):=by
 have ho:∀ a b c d e f g h:Bool,bits .and .i64 (IntKind.i64.wrap (GV (fL (qU a b c d e f g h)))) 127=(((bE (qU a b c d e f g h)).length:Nat):Int):=by decide +kernel
 refine au HS Tryz.func213 rfl rfl rfl fun Fr w0=>aZ ?_
 refine sr<|ar O O<|lz<|mv O O ?_
 apply ad O
 ·apply qi O O;first | exact fun w=>fp (m:=2) w (by decide) (by decide) (by omega) | exact fun w=>gA w (by decide)
 refine ad O (fh O O O)<|mv O O<|ad O (fh O O O)<|ad O (bn O O) ?_
 refine ar O O<|lz<|mv O O ?_
 apply ad O
 ·apply qi O O;first | exact fun w=>fp (m:=4) w (by decide) (by decide) (by omega) | exact fun w=>gA w (by decide)
 refine ad O (fh O O O)<|mv O O<|ad O (fh O O O)<|ad O (bn O O) ?_
 refine ar O O<|lz<|mv O O ?_
 apply ad O
 ·apply qi O O;first | exact fun w=>fp (m:=16) w (by decide) (by decide) (by omega) | exact fun w=>gA w (by decide)
 refine mv O O<|ad O (bn O O) ?_
 refine ad O (fh O O O)<|ar O O<|lz<|mv O O<|mv O O ?_
 apply ad O
 ·apply qi O O;first | exact fun w=>fp (m:=256) w (by decide) (by decide) (by omega) | exact fun w=>gA w (by decide)
 refine ad O (bn O O) ?_
 refine ar O O<|lz<|mv O O<|mv O O ?_
 apply ad O
 ·apply qi O O;first | exact fun w=>fp (m:=65536) w (by decide) (by decide) (by omega) | exact fun w=>gA w (by decide)
 refine ad O (bn O O) ?_
 refine ar O O<|lz<|mv O O<|mv O O ?_
 apply ad O
 ·apply qi O O;first | exact fun w=>fp (m:=4294967296) w (by decide) (by decide) (by omega) | exact fun w=>gA w (by decide)
 refine ad O (bn O O) ?_
 refine ar O O<|lz<|mv O O<|ad O (km O fv j5) ?_
 refine ad O (fh O O O)<|ar O O<|lc<|rt<|cN O ([]) (.tmp rfl) ?_
 refine⟨?_,rfl⟩;congr 1;rw[ud,g5];exact ho _ _ _ _ _ _ _ _
theorem nF (s:Nat->Bool):aK Tryz.prog 162 #[jx s] [] (fun v L=>v=.int .i64 ((bE s).length:Nat)/\L= []):=by
 refine au IB Tryz.func162 rfl rfl rfl fun Fr w0=>aZ ?_
 refine sr<|bw O O fun b1=>ar O O<|lz<|ad O (aE 0 O mR O O jV)<|ad O (aI O fV) ?_
 refine bF O O O (Ea s) ?_
 exact ar O O<|lc<|rt<|cN O ([]) (.tmp rfl) ⟨rfl,rfl⟩
section
variable (G:HP) (hG:dR G) (pa off go n e:Nat) (s:ArS) (l:Lay) (T:Tb) (hP:cd s off go l n e T)
include hP hG
theorem Ad (h:Int) (hh:0<=h/\h < 18446744073709551616) (key:ByteArray) (hk:key.size=kN l) (hu:0<=T.used/\T.used<=1099511627776) (hlf:0<=T.left/\T.left<=1099511627776):
  aK Tryz.prog 82 #[.agg #[.pointer (some ⟨pa,0,none⟩),.int .i64 l.key,.int .i64 l.elem,.int .i64 l.ka,.int .i64 l.ea,.int .i64 l.cap,.int .i64 l.eo,.int .i64 l.bo,.int .i64 l.slot,.int .i64 l.group,.int .i64 (off:Nat)],.int .u64 h,.string key] [G,aj pa s]
   (fun v L=>∃ s',v=.tuple #[.bool (nw n T h key).1,.int .i64 0]/\L= [G,aj pa s']/\cd s' off go l n e (nw n T h key).2/\cb s s' off go (n*gN l)):=by
 have hn8:=hP.n0
 refine au FQ Tryz.func82 rfl rfl rfl fun Fr w0=>aZ ?_
 refine dN (φ:=s.ok) (fun w hw=>cS hw (.there .here)) fun hok0=>?_
 refine sr<|bw O O fun b3=>ar O O<|ar O O<|lz<|ad O (aO O bA aM) ?_
 refine mv O O<|mv O O<|bF O O O (kQ G hG pa off go n e s l T hP h hh key hk) ?_
 refine mv O O<|ad O (aa O ga) ?_
 refine ad O (aa O ga) ?_
 refine ad O (aa O ga) ?_
 refine ay O da fun b8=>ay O ja fun b9=>bZ O O O cl O O ?_
 refine bZ O O O fN O O ?_
 refine ar O O<|lc<|al<|sr<|mv O O<|ad O (qi O O (bf ·))<|mv O O ?_
 rcases(show(bB (h / 128) n T.cells (h % 128) key).slot < 0\/0<=(bB (h / 128) n T.cells (h % 128) key).slot by omega) with hneg | hpos
 ·refine bQ (t:=25) rfl (fun p1=>?_) fun p1=>?_
  ·exact absurd rfl p1
  refine aA O O<|ad O (aE 0 O eF O O aN)<|aA O O<|ad O (aI O aX) ?_
  refine aA O O<|ad O (qi O O (bj ·))<|ad O (aS O O)<|lc<|aG O (fun p2=>?_) fun p2=>?_
  ·refine sr<|mv O O<|ar O O<|ar O O<|lc<|rt<|ft O ([G,aj pa s]) (.tmp rfl) (.tmp rfl) ?_
   have hd:nw n T h key=(false,T):=(by unfold nw;rw[if_neg (by omega)]);rw[hd];exact⟨s,rfl,rfl,hP,cb.refl _ _ _ _⟩
  omega
 obtain⟨g,i,hg,hi,h2,e0,b0,h3⟩:=im (home:=h / 128) (cells:=T.cells) (tag:=h % 128) (key:=key) hn8.1 hpos
 obtain⟨hgood,hG',hok',hin⟩:=hP.grpAt hg
 rw[h2]
 refine bQ (t:=25) rfl (fun p1=>?_) fun p1=>?_
 ·exact absurd rfl p1
 refine aA O O<|ad O (aE 0 O eF O O aN)<|aA O O<|ad O (aI O aX) ?_
 refine aA O O<|ad O (qi O O (bj ·))<|ad O (aS O O)<|lc<|aG O (fun p2=>?_) fun p2=>?_
 ·omega
 refine aq<|nz<|ad O (aO O bA aM) ?_
 refine ad O (aO O eY cl) ?_
 refine ad O (aE 0 O eF O O aN)<|ad O (aI O aX) ?_
 refine ad O (eT O O) ?_
 refine bF O O O (iY pa off go n e s l T hP hok0 (g:=g) hg _ (by omega)) ?_
 refine ay O o6 fun b11=>bZ O O O dO O O ?_
 refine lz<|ad O (aO O eG dO) ?_
 refine bF O O O (tr pa (go+g*gN l) s l (ck T.cells g) hP.hl hgood hG' hok') ?_
 refine mv O O<|ad O (aa O ga) ?_
 refine ad O (aa O ga) ?_
 refine ar O O<|ar O O<|lc<|al<|sr<|mv O O<|ad O (qi O O (bf ·))<|lc<|aG O (fun p3=>?_) fun p3=>?_
 ·exact absurd rfl p3
 refine aq<|nz<|mv O O<|bF O O O (ie hok') ?_
 have hpb:dK T.cells (8*g+i)=decide ((bE (eh (ck T.cells g))).length=0):=by unfold dK;rw[show(8*g+i) / 8=g by omega]
 have hd:nw n T h key=(true,{T with used:=T.used-1,left:=if dK T.cells (8*g+i) then T.left else T.left+1,cells:=cW T.cells (8*g+i) (if dK T.cells (8*g+i) then .deleted else .empty)}):=by
  unfold nw;rw[if_pos (by omega),h2,Int.toNat_natCast]
 rw[hd]
 have hcok:(if dK T.cells (8*g+i)=true then Cell.deleted else Cell.empty).ok l:=by split <;> trivial
 have hw:=hP.cell hg hi (c:=if dK T.cells (8*g+i) then .deleted else .empty) hcok
 have w1:=hw.1.word (T':={T with used:=T.used-1,cells:=cW T.cells (8*g+i) (if dK T.cells (8*g+i) then .deleted else .empty)}) (k:=3) (v:=T.used-1) (by decide) (by omega) rfl (iR (.inr rfl) (.inr rfl) (.inr rfl) (.inl rfl) (.inr rfl) (.inr rfl)) rfl
 refine bF O O O (nF _) ?_
 rw[show(bE (eh (ck T.cells g))).length=(if dK T.cells (8*g+i) then 0 else(bE (eh (ck T.cells g))).length:Nat) by rw[hpb];split <;> simp_all]
 refine ad O (qi O O (bN ·))<|ar O O<|lc<|al<|sr<|ad O (aO O eG dO) ?_
 refine ad O (aE 0 O eF O O aN)<|ad O (aI O aX) ?_
 refine ad O (iQ O O) ?_
 refine mv O O ?_
 rw[show((8*g+i:Nat):Int) % 8=((i:Nat):Int) by omega]
 refine bF O O O (CO pa (go+g*gN l) s l (ck T.cells g) hP.hl hgood hG' hok' i _ hi) ?_
 rw[show(decide ((((if dK T.cells (8*g+i) then 0 else(bE (eh (ck T.cells g))).length:Nat)):Int)=0))=dK T.cells (8*g+i) by rw[hpb];by_cases hz:(bE (eh (ck T.cells g))).length=0 <;> simp[hz]]
 refine ar O O<|lz<|mv O O<|ad O (qi O O (bf ·))<|lc<|aG O (fun p5=>?_) fun p5=>?_
 ·exact absurd rfl p5
 refine aq<|nz<|ad O (aO O bA aM) ?_
 refine ad O (aE 0 O bP O O aN)<|ad O (aI O aX) ?_
 refine ad O (eJ O O) ?_
 refine cT O O O (gG pa off 3 _ l 24 _ rfl (by decide) hw.1.gh) ?_
 rintro v L' rfl
 refine bx ?_
 refine lc<|al<|sr<|mv O O<|ad O (db O (cy ·))<|lc ?_
 cases hpq:dK T.cells (8*g+i) with
 | true=>
  simp only[hpq,↓reduceIte] at hw w1 ⊢
  refine aG O (fun p6=>?_) fun p6=>?_
  ·cases p6
  exact aq<|nz<|ar O O<|ar O O<|lc<|rt<|ft O ([G,aj pa ((s.put (go+g*gN l) (gN l) (dZ l (cW (ck T.cells g) i .deleted))).put (off+8*3) 8 (ct (IntKind.u64.wrap (T.used-1))))]) (.tmp rfl) (.tmp rfl) ⟨_,rfl,rfl,w1.1,hw.2.trans w1.2⟩
 | false=>
  simp only[hpq,Bool.false_eq_true,↓reduceIte] at hw w1 ⊢
  refine aG O (fun p6=>?_) fun p6=>?_
  ·refine aD<|ad O (aO O bA aM) ?_
   refine ad O (aE 2 O bP O O aN)<|ad O (aI O aX) ?_
   refine ad O (bn O O) ?_
   have w2:=w1.1.word (T':={T with used:=T.used-1,left:=T.left+1,cells:=cW T.cells (8*g+i) .empty}) (k:=5) (v:=T.left+1) (by decide) (by omega) rfl (iR (.inr rfl) (.inr rfl) (.inr rfl) (.inr rfl) (.inl rfl) (.inr rfl)) rfl
   refine cT O O O (gG pa off 5 _ l 40 _ rfl (by decide) w1.1.gh) ?_
   rintro v L' rfl
   refine bx ?_
   exact lz<|ar O O<|ar O O<|lc<|rt<|ft O ([G,aj pa (((s.put (go+g*gN l) (gN l) (dZ l (cW (ck T.cells g) i .empty))).put (off+8*3) 8 (ct (IntKind.u64.wrap (T.used-1)))).put (off+8*5) 8 (ct (IntKind.u64.wrap (T.left+1))))]) (.tmp rfl) (.tmp rfl) ⟨_,rfl,rfl,w2.1,(hw.2.trans w1.2).trans w2.2⟩
  cases p6
end
end Table
end
section
namespace Table
open Go.RowKit Go.Proofs Eng Ty Mem Arena CtrlB Layout GroupB TableB
theorem yw (pa:Nat) (s:ArS) (off:Int) (k:Nat) (hk:wid k) (hg:¬ bt s off k) (hne:s.all≠[]):aK Tryz.prog 168 #[.pointer (some ⟨pa,0,none⟩),.int .i64 off,.int .i64 k] [aj pa s]
  (fun v L=>v=.int .i64 24/\L= [aj pa s]):=by
 refine au EK Tryz.func168 rfl rfl rfl fun Fr w0=>aZ ?_
 refine sr<|ar O O<|lc<|al<|sr<|mv O O<|lc<|aB<|al<|sr<|ad O (qi O O (bN ·))<|ar O O<|lc<|oE (t:=8) rfl (fun h1=>?_) fun h1=>?_
 ·refine bk O<|aq<|an<|bk O<|aq<|bz<|an<|al<|sr<|mv O O<|mv O O<|mv O O<|cT O O O (fG pa s hne off k) ?_
  rintro v L' ⟨⟨b,rfl,hb⟩,rfl⟩
  refine bx ?_
  refine ad O (db O (cy ·))<|lc<|aG O (fun z=>?_) fun z=>?_
  ·exact sr<|ar O O<|lc<|rt<|cN O ([aj pa s]) (.tmp rfl) ⟨rfl,rfl⟩
  exact absurd (hb.1 (by simpa using z)) hg
 refine cQ O<|sr<|ad O (qi O O (bN ·))<|ar O O<|lc<|oE (t:=8) rfl (fun h2=>?_) fun h2=>?_
 ·refine bk O<|aq<|an<|bk O<|aq<|bz<|an<|al<|sr<|mv O O<|mv O O<|mv O O<|cT O O O (fG pa s hne off k) ?_
  rintro v L' ⟨⟨b,rfl,hb⟩,rfl⟩
  refine bx ?_
  refine ad O (db O (cy ·))<|lc<|aG O (fun z=>?_) fun z=>?_
  ·exact sr<|ar O O<|lc<|rt<|cN O ([aj pa s]) (.tmp rfl) ⟨rfl,rfl⟩
  exact absurd (hb.1 (by simpa using z)) hg
 refine cQ O<|sr<|ad O (qi O O (bN ·))<|ar O O<|lc<|oE (t:=8) rfl (fun h4=>?_) fun h4=>?_
 ·refine bk O<|aq<|an<|bk O<|aq<|bz<|an<|al<|sr<|mv O O<|mv O O<|mv O O<|cT O O O (fG pa s hne off k) ?_
  rintro v L' ⟨⟨b,rfl,hb⟩,rfl⟩
  refine bx ?_
  refine ad O (db O (cy ·))<|lc<|aG O (fun z=>?_) fun z=>?_
  ·exact sr<|ar O O<|lc<|rt<|cN O ([aj pa s]) (.tmp rfl) ⟨rfl,rfl⟩
  exact absurd (hb.1 (by simpa using z)) hg
 refine cQ O<|aD<|ad O (qi O O (bN ·))<|ar O O<|lc<|oE (t:=8) rfl (fun h8=>?_) fun h8=>?_
 ·refine bk O<|aq<|bz<|an<|al<|sr<|mv O O<|mv O O<|mv O O<|cT O O O (fG pa s hne off k) ?_
  rintro v L' ⟨⟨b,rfl,hb⟩,rfl⟩
  refine bx ?_
  refine ad O (db O (cy ·))<|lc<|aG O (fun z=>?_) fun z=>?_
  ·exact sr<|ar O O<|lc<|rt<|cN O ([aj pa s]) (.tmp rfl) ⟨rfl,rfl⟩
  exact absurd (hb.1 (by simpa using z)) hg
 unfold wid at hk;omega
theorem zY (pa:Nat) (s:ArS) (off:Int) (k:Nat) (hk:wid k) (hg:¬ bt s off k) (hne:s.all≠[]):aK Tryz.prog 99 #[.pointer (some ⟨pa,0,none⟩),.int .i64 off,.int .i64 k] [aj pa s]
  (fun v L=>v=.tuple #[.int .u64 0,.int .i64 24]/\L= [aj pa s]):=by
 refine au G7 Tryz.func99 rfl rfl rfl fun Fr w0=>aZ ?_
 refine sr<|ar O O<|ar O O<|lc<|al<|sr<|mv O O<|mv O O<|mv O O<|bF O O O (yw pa s off k hk hg hne) ?_
 refine ar O O<|lz<|mv O O<|ad O (qi O O (bf ·))<|lc<|aG O (fun z=>?_) fun z=>?_
 ·exact sr<|mv O O<|ar O O<|ar O O<|lc<|rt<|ft O ([aj pa s]) (.tmp rfl) (.tmp rfl) ⟨rfl,rfl⟩
 exact absurd z (by decide)
section
variable (pa:Nat) (off:Nat) (s:ArS) (l:Lay) (hg:¬ bt s (off:Nat) 8) (hne:s.all≠[]) (ho:off<=1000000000)
include hg hne ho
theorem fg:aK Tryz.prog 65 #[.agg #[.pointer (some ⟨pa,0,none⟩),.int .i64 l.key,.int .i64 l.elem,.int .i64 l.ka,.int .i64 l.ea,.int .i64 l.cap,.int .i64 l.eo,.int .i64 l.bo,.int .i64 l.slot,.int .i64 l.group,.int .i64 (off:Nat)]] [aj pa s] (fun v L=>v=.tuple #[.agg #[.int .i64 0,.int .i64 0,.int .i64 0,.int .i64 0,.int .i64 0,.int .i64 0,.bool false,.int .i64 0],.int .i64 24]/\L= [aj pa s]):=by
 refine au Hf Tryz.func65 rfl rfl rfl fun Fr w0=>aZ ?_
 refine sr<|bw O O fun b1=>ay O da fun b2=>ar O O<|lz<|ay O Ef fun b4=>lc<|al<|sr<|mv O O<|lc<|aB ?_
 refine bK (fun k:Nat=>k=0) (fun k=>[(1,.pointer (some ⟨b1,0,none⟩)),(2,.pointer (some ⟨b2,0,none⟩)),(4,.pointer (some ⟨b4,0,none⟩)),(8,.int .i64 k)]) (fun k=>pt b4 (.cells #[.int .i64 0,.int .i64 0,.int .i64 0,.int .i64 0,.int .i64 0,.int .i64 0,.int .i64 0,.int .i64 0] 243 (0,0))::pt b1 (.cells #[.pointer (some ⟨pa,0,none⟩),.int .i64 l.key,.int .i64 l.elem,.int .i64 l.ka,.int .i64 l.ea,.int .i64 l.cap,.int .i64 l.eo,.int .i64 l.bo,.int .i64 l.slot,.int .i64 l.group,.int .i64 (off:Nat)] 39 (0,0))::pt b2 (.cells #[.int .i64 0,.int .i64 0,.int .i64 0,.int .i64 0,.int .i64 0,.int .i64 0,.bool false,.int .i64 0] 147 (0,0))::aj pa s::Fr) (fun k=>k) 0 rfl ⟨rfl,rfl,rfl,rfl,trivial⟩ (by(exact en)) ?_
 rintro k rfl
 refine sr<|ad O (qi O O (bj ·))<|lc<|al<|aG O (fun h=>?_) fun h=>?_
 ·refine aq<|an<|al<|aB<|sr<|mv O O<|ar O O<|lz<|ad O (aE 0 O kE O O eu)<|ad O (aI O ew) ?_
  refine ad O (aE 10 O kE O O aN)<|ad O (aI O aX) ?_
  refine mv O O<|ad O (dA O O) ?_
  refine ad O (bn O O) ?_
  refine bF O O O (zY pa s _ 8 (by unfold wid;omega) (by simpa using hg) hne) ?_
  refine mv O O<|ad O (aa O ga) ?_
  refine ad O (aa O ga) ?_
  refine ar O O<|ar O O<|lc<|al<|sr<|mv O O<|ad O (qi O O (bf ·))<|lc<|aG O (fun z=>?_) fun z=>?_
  ·refine sr ?_
   apply ad O
   ·apply bp O tI da
    exact aP.nil
   refine mv O O<|bZ O O O cl O O ?_
   refine ar O O<|lc<|rt ?_
   apply aR (.inl rfl) ([aj pa s])
   ·apply cF O
    ·apply Rv.agg rfl
     ·exact tk
     exact aJ eY cl O
    exact .tmp rfl
   ·exact⟨rfl,rfl⟩
   exact en
  exact absurd z (by decide)
 exact absurd h (by decide)
theorem ot (h:Int) (key:ByteArray):aK Tryz.prog 135 #[.agg #[.pointer (some ⟨pa,0,none⟩),.int .i64 l.key,.int .i64 l.elem,.int .i64 l.ka,.int .i64 l.ea,.int .i64 l.cap,.int .i64 l.eo,.int .i64 l.bo,.int .i64 l.slot,.int .i64 l.group,.int .i64 (off:Nat)],.int .u64 h,.string key] [aj pa s] (fun v L=>v=.tuple #[.agg #[.int .i64 0,.int .i64 0,.int .i64 0,.int .i64 0,.int .i64 0,.int .i64 0,.bool false,.int .i64 0],.agg #[.int .i64 0,.int .i64 0,.bool false,.int .i64 0],.int .i64 24]/\L= [aj pa s]):=by
 refine au B3 Tryz.func135 rfl rfl rfl fun Fr w0=>aZ ?_
 refine sr<|bw O O fun b3=>eQ O O O fun b4=>eQ O O O fun b5=>ay O da fun b6=>ay O ja fun b7=>iu O si O fun b8=>lc<|sA<|sr<|ad O (aO O bA aM) ?_
 refine bF O O O (fg pa off s l hg hne ho) ?_
 refine mv O O<|ad O (aa O ga) ?_
 refine ad O (aa O ga) ?_
 refine ay O da fun b9=>bZ O O O cl O O ?_
 refine ar O O<|lc<|al<|sr<|mv O O<|ad O (qi O O (bf ·))<|lc<|aG O (fun z=>?_) fun z=>?_
 ·refine sr<|ad O (aO O eY cl) ?_
  apply ad O
  ·apply bp O An ja
   exact aP.nil
  refine mv O O<|bZ O O O cl O O ?_
  refine bZ O O O fN O O ?_
  refine st O O O fU O ?_
  refine lc<|rt ?_
  apply aR (.inl rfl) ([aj pa s])
  ·apply oG O
   ·apply Rv.agg rfl
    ·exact tk
    exact aJ eY cl O
   ·apply Rv.agg rfl
    ·exact tk
    exact aJ oo fN O
   apply Rv.cellL rfl
   ·exact tk
   ·exact ga
   exact iO
  ·exact⟨rfl,rfl⟩
  exact en
 exact absurd z (by decide)
theorem CD (h:Int) (key elem:ByteArray) (birth:Int):aK Tryz.prog 53 #[.agg #[.pointer (some ⟨pa,0,none⟩),.int .i64 l.key,.int .i64 l.elem,.int .i64 l.ka,.int .i64 l.ea,.int .i64 l.cap,.int .i64 l.eo,.int .i64 l.bo,.int .i64 l.slot,.int .i64 l.group,.int .i64 (off:Nat)],.int .u64 h,.string key,.string elem,.int .i64 birth] [aj pa s] (fun v L=>v=.tuple #[.int .i64 0,.int .i64 24]/\L= [aj pa s]):=by
 refine au B1 Tryz.func53 rfl rfl rfl fun Fr w0=>aZ ?_
 refine sr<|bw O O fun b5=>ar O O<|ar O O<|lz<|ad O (aO O bA aM) ?_
 refine mv O O<|mv O O<|bF O O O (ot pa off s l hg hne ho h key) ?_
 refine mv O O<|ad O (aa O ga) ?_
 refine ad O (aa O ga) ?_
 refine ad O (aa O ga) ?_
 refine ay O da fun b12=>ay O ja fun b13=>bZ O O O cl O O ?_
 refine bZ O O O fN O O ?_
 refine ar O O<|lc<|al<|aB<|sr<|mv O O<|ad O (qi O O (bf ·))<|ar O O<|lc<|aG O (fun z=>?_) fun z=>?_
 ·exact sr<|mv O O<|ar O O<|ar O O<|lc<|rt<|ft O ([aj pa s]) (.tmp rfl) (.tmp rfl) ⟨rfl,rfl⟩
 exact absurd z (by decide)
theorem vH (h:Int) (key:ByteArray):aK Tryz.prog 82 #[.agg #[.pointer (some ⟨pa,0,none⟩),.int .i64 l.key,.int .i64 l.elem,.int .i64 l.ka,.int .i64 l.ea,.int .i64 l.cap,.int .i64 l.eo,.int .i64 l.bo,.int .i64 l.slot,.int .i64 l.group,.int .i64 (off:Nat)],.int .u64 h,.string key] [aj pa s] (fun v L=>v=.tuple #[.bool false,.int .i64 24]/\L= [aj pa s]):=by
 refine au FQ Tryz.func82 rfl rfl rfl fun Fr w0=>aZ ?_
 refine sr<|bw O O fun b3=>ar O O<|ar O O<|lz<|ad O (aO O bA aM) ?_
 refine mv O O<|mv O O<|bF O O O (ot pa off s l hg hne ho h key) ?_
 refine mv O O<|ad O (aa O ga) ?_
 refine ad O (aa O ga) ?_
 refine ad O (aa O ga) ?_
 refine ay O da fun b8=>ay O ja fun b9=>bZ O O O cl O O ?_
 refine bZ O O O fN O O ?_
 refine ar O O<|lc<|al<|sr<|mv O O<|ad O (qi O O (bf ·))<|mv O O<|bQ (t:=25) rfl (fun z=>?_) fun z=>?_
 ·exact ax O O O O<|ax O O O O<|ax O O O O<|ad O (aS O O)<|lc<|bk O<|sr<|mv O O<|ar O O<|ar O O<|lc<|rt<|ft O ([aj pa s]) (.tmp rfl) (.tmp rfl) ⟨rfl,rfl⟩
 exact absurd z (by decide)
theorem Ag (k:Int):aK Tryz.prog 56 #[.agg #[.pointer (some ⟨pa,0,none⟩),.int .i64 l.key,.int .i64 l.elem,.int .i64 l.ka,.int .i64 l.ea,.int .i64 l.cap,.int .i64 l.eo,.int .i64 l.bo,.int .i64 l.slot,.int .i64 l.group,.int .i64 (off:Nat)],.int .i64 k] [aj pa s] (fun v L=>v=.tuple #[.agg #[.int .i64 0,.int .i64 0,.string ⟨#[]⟩,.string ⟨#[]⟩,.int .i64 0],.int .i64 24]/\L= [aj pa s]):=by
 refine au FR Tryz.func56 rfl rfl rfl fun Fr w0=>aZ ?_
 refine sr<|bw O O fun b2=>ay O dF fun b4=>ar O O<|lz<|ad O (aO O bA aM) ?_
 refine bF O O O (fg pa off s l hg hne ho) ?_
 refine mv O O<|ad O (aa O ga) ?_
 refine ad O (aa O ga) ?_
 refine ay O da fun b6=>bZ O O O cl O O ?_
 refine ar O O<|lc<|al<|sr<|mv O O<|ad O (qi O O (bf ·))<|lc<|aG O (fun z=>?_) fun z=>?_
 ·refine sr ?_
  apply ad O
  ·apply bp O j9 dF
   exact aP.nil
  refine mv O O<|bZ O O O bV O O ?_
  refine ar O O<|lc<|rt ?_
  apply aR (.inl rfl) ([aj pa s])
  ·apply cF O
   ·apply Rv.agg rfl
    ·exact tk
    exact aJ fj bV O
   exact .tmp rfl
  ·exact⟨rfl,rfl⟩
  exact en
 exact absurd z (by decide)
theorem CE (k:Int):aK Tryz.prog 86 #[.agg #[.pointer (some ⟨pa,0,none⟩),.int .i64 l.key,.int .i64 l.elem,.int .i64 l.ka,.int .i64 l.ea,.int .i64 l.cap,.int .i64 l.eo,.int .i64 l.bo,.int .i64 l.slot,.int .i64 l.group,.int .i64 (off:Nat)],.int .i64 k] [aj pa s] (fun v L=>v=.tuple #[.int .i64 0,.int .i64 24]/\L= [aj pa s]):=by
 refine au Hc Tryz.func86 rfl rfl rfl fun Fr w0=>aZ ?_
 refine sr<|bw O O fun b2=>ar O O<|ar O O<|lz<|ad O (aO O bA aM) ?_
 refine bF O O O (fg pa off s l hg hne ho) ?_
 refine mv O O<|ad O (aa O ga) ?_
 refine ad O (aa O ga) ?_
 refine ay O da fun b6=>bZ O O O cl O O ?_
 refine ar O O<|lc<|al<|sr<|mv O O<|ad O (qi O O (bf ·))<|lc<|aG O (fun z=>?_) fun z=>?_
 ·exact sr<|mv O O<|ar O O<|ar O O<|lc<|rt<|ft O ([aj pa s]) (.tmp rfl) (.tmp rfl) ⟨rfl,rfl⟩
 exact absurd z (by decide)
theorem tD (k:Int):aK Tryz.prog 84 #[.agg #[.pointer (some ⟨pa,0,none⟩),.int .i64 l.key,.int .i64 l.elem,.int .i64 l.ka,.int .i64 l.ea,.int .i64 l.cap,.int .i64 l.eo,.int .i64 l.bo,.int .i64 l.slot,.int .i64 l.group,.int .i64 (off:Nat)],.int .i64 k] [aj pa s] (fun v L=>v=.int .i64 24/\L= [aj pa s]):=by
 refine au He Tryz.func84 rfl rfl rfl fun Fr w0=>aZ ?_
 refine sr<|bw O O fun b2=>ar O O<|lz<|ad O (aO O bA aM) ?_
 refine bF O O O (fg pa off s l hg hne ho) ?_
 refine mv O O<|ad O (aa O ga) ?_
 refine ad O (aa O ga) ?_
 refine ay O da fun b5=>bZ O O O cl O O ?_
 refine ar O O<|lc<|al<|sr<|mv O O<|ad O (qi O O (bf ·))<|lc<|aG O (fun z=>?_) fun z=>?_
 ·exact sr<|mv O O<|ar O O<|lc<|rt<|cN O ([aj pa s]) (.tmp rfl) ⟨rfl,rfl⟩
 exact absurd z (by decide)
theorem tv (k:Int):aK Tryz.prog 90 #[.agg #[.pointer (some ⟨pa,0,none⟩),.int .i64 l.key,.int .i64 l.elem,.int .i64 l.ka,.int .i64 l.ea,.int .i64 l.cap,.int .i64 l.eo,.int .i64 l.bo,.int .i64 l.slot,.int .i64 l.group,.int .i64 (off:Nat)],.int .i64 k] [aj pa s] (fun v L=>v=.int .i64 24/\L= [aj pa s]):=by
 refine au G9 Tryz.func90 rfl rfl rfl fun Fr w0=>aZ ?_
 refine sr<|bw O O fun b2=>ar O O<|lc<|al<|sr<|ad O (aO O bA aM) ?_
 refine bF O O O (fg pa off s l hg hne ho) ?_
 refine mv O O<|ad O (aa O ga) ?_
 refine ad O (aa O ga) ?_
 refine ay O da fun b5=>bZ O O O cl O O ?_
 refine ar O O<|lz<|mv O O<|ad O (qi O O (bf ·))<|lc<|aG O (fun z=>?_) fun z=>?_
 ·exact sr<|mv O O<|ar O O<|lc<|rt<|cN O ([aj pa s]) (.tmp rfl) ⟨rfl,rfl⟩
 exact absurd z (by decide)
theorem vq (k:Int):aK Tryz.prog 88 #[.agg #[.pointer (some ⟨pa,0,none⟩),.int .i64 l.key,.int .i64 l.elem,.int .i64 l.ka,.int .i64 l.ea,.int .i64 l.cap,.int .i64 l.eo,.int .i64 l.bo,.int .i64 l.slot,.int .i64 l.group,.int .i64 (off:Nat)],.int .i64 k] [aj pa s] (fun v L=>v=.int .i64 24/\L= [aj pa s]):=by
 refine au Hb Tryz.func88 rfl rfl rfl fun Fr w0=>aZ ?_
 refine sr<|bw O O fun b2=>ar O O<|lc<|al<|sr<|ad O (aO O bA aM) ?_
 refine mv O O<|bF O O O (tv pa off s l hg hne ho k) ?_
 refine ar O O<|lz<|mv O O<|ad O (qi O O (bf ·))<|lc<|aG O (fun z=>?_) fun z=>?_
 ·exact sr<|mv O O<|ar O O<|lc<|rt<|cN O ([aj pa s]) (.tmp rfl) ⟨rfl,rfl⟩
 exact absurd z (by decide)
theorem xf:aK Tryz.prog 92 #[.agg #[.pointer (some ⟨pa,0,none⟩),.int .i64 l.key,.int .i64 l.elem,.int .i64 l.ka,.int .i64 l.ea,.int .i64 l.cap,.int .i64 l.eo,.int .i64 l.bo,.int .i64 l.slot,.int .i64 l.group,.int .i64 (off:Nat)]] [aj pa s] (fun v L=>v=.int .i64 24/\L= [aj pa s]):=by
 refine au G8 Tryz.func92 rfl rfl rfl fun Fr w0=>aZ ?_
 refine sr<|bw O O fun b1=>ar O O<|lz<|ad O (aO O bA aM) ?_
 refine bF O O O (fg pa off s l hg hne ho) ?_
 refine mv O O<|ad O (aa O ga) ?_
 refine ad O (aa O ga) ?_
 refine ay O da fun b3=>bZ O O O cl O O ?_
 refine ar O O<|lc<|al<|sr<|mv O O<|ad O (qi O O (bf ·))<|lc<|aG O (fun z=>?_) fun z=>?_
 ·exact sr<|mv O O<|ar O O<|lc<|rt<|cN O ([aj pa s]) (.tmp rfl) ⟨rfl,rfl⟩
 exact absurd z (by decide)
end
theorem vn (pa off go n e:Nat) (s:ArS) (l:Lay) (T:Tb) (hP:cd s off go l n e T) (c1 c2:Int) (h1:(((off:Nat):Int),c1)∈s.bl) (h2:(((go:Nat):Int),c2)∈s.bl):
  aK Tryz.prog 92 #[.agg #[.pointer (some ⟨pa,0,none⟩),.int .i64 l.key,.int .i64 l.elem,.int .i64 l.ka,.int .i64 l.ea,.int .i64 l.cap,.int .i64 l.eo,.int .i64 l.bo,.int .i64 l.slot,.int .i64 l.group,.int .i64 (off:Nat)]] [aj pa s] (fun v L=>v=.int .i64 0/\L= [aj pa (s.gives [((off:Nat):Int),((go:Nat):Int)])]):=by
 have hdj:=hP.dj
 have hn8:=hP.n0
 have hgn:0 < n*gN l:=Nat.mul_pos hn8.1 (by have:=(eK hP.hl).g_eq;omega)
 refine au G8 Tryz.func92 rfl rfl rfl fun Fr w0=>aZ ?_
 refine sr<|bw O O fun b1=>ar O O<|lz<|ad O (aO O bA aM) ?_
 refine bF O O O (eS pa off go n e s l T hP) ?_
 refine mv O O<|ad O (aa O ga) ?_
 refine ad O (aa O ga) ?_
 refine ay O da fun b3=>bZ O O O cl O O ?_
 refine ar O O<|lc<|al<|sr<|mv O O<|ad O (qi O O (bf ·))<|lc<|aG O (fun z=>?_) fun z=>?_
 ·exact absurd rfl z
 refine aq<|nz<|ad O (aE 0 O kE O O eu)<|ad O (aI O ew) ?_
 refine ad O (aE 10 O kE O O aN)<|ad O (aI O aX) ?_
 refine ad O (aE 7 O bP O O aN)<|ad O (aI O aX) ?_
 refine bR [_,_] rfl rfl bI aN sj rfl rfl rfl rfl (fun b19=>?_)
 refine bF O O O (CM pa s b19 ((off:Nat):Int) ((go:Nat):Int) (by omega) ⟨_,h1⟩ ⟨_,h2⟩) ?_
 exact ar O O<|lc<|rt<|cN O ([aj pa (s.gives [((off:Nat):Int),((go:Nat):Int)])]) (.tmp rfl) ⟨rfl,rfl⟩
end Table
end
end Go.Proofs.YthkajgkagnenbaaGreatDoor
