import Derived.Test.YthkajgkagnenbaaGreatDoorRefA
import Derived.Test.YthkajgkagnenbaaGreatDoorExactP
set_option linter.unusedVariables false
set_option linter.unusedSimpArgs false
set_option linter.unusedSectionVars false
set_option maxRecDepth 100000
namespace Go.Proofs.YthkajgkagnenbaaGreatDoor
namespace RefT
open Go.RowKit Go.Proofs Eng Ty Search CtrlB Layout GroupB TableB TableI Table Cells Exact RefA
@[reducible] def Jz (pr:Nat) (l:Lay) (x:PR) (v:Value):List HP:=[pt x.p (.cells #[.pointer (some ⟨pr,0,none⟩),.int .i64 l.key,.int .i64 l.elem,.int .i64 l.ka,.int .i64 l.ea,.int .i64 l.cap,.int .i64 l.eo,.int .i64 l.bo,.int .i64 l.slot,.int .i64 l.group,.int .i64 (x.off:Nat),.int .i64 (x.go:Nat),.int .i64 x.T.used,.int .i64 x.T.left,.int .i64 x.T.depth,.int .i64 x.T.pins,.int .i64 x.T.next,.bool (decide (x.T.kind=4)),.bool x.dead,v] 45 (0,0)),aF 142 5 v (8*x.n) (rowOf cj (bO x.T.cells (8*x.n)))]
def cz (pr:Nat) (l:Lay) (x:PR):HP:=wS (fun _:Value=>True) (Jz pr l x)
theorem cL {c:Cx} {fin:Exit->Act->World->Prop} {ds:List Deferred} {E:Env} {ks:List KI} {pr:Nat} {l:Lay} {x:PR} {L M:List HP} {y:Code} (ht:Take (cz pr l x) L M) (k:∀ v,TC c fin ds E (pt x.p (.cells #[.pointer (some ⟨pr,0,none⟩),.int .i64 l.key,.int .i64 l.elem,.int .i64 l.ka,.int .i64 l.ea,.int .i64 l.cap,.int .i64 l.eo,.int .i64 l.bo,.int .i64 l.slot,.int .i64 l.group,.int .i64 (x.off:Nat),.int .i64 (x.go:Nat),.int .i64 x.T.used,.int .i64 x.T.left,.int .i64 x.T.depth,.int .i64 x.T.pins,.int .i64 x.T.next,.bool (decide (x.T.kind=4)),.bool x.dead,v] 45 (0,0))::aF 142 5 v (8*x.n) (rowOf cj (bO x.T.cells (8*x.n)))::M) y ks):TC c fin ds E L y ks:=
 lx (X:=Value) (LL:=fun v=>Jz pr l x v ++ M) (fun w hs=>let ⟨v,_,h⟩:=cV.1 (hs.take ht);⟨v,h⟩) k
theorem AX {c:Cx} {fin:Exit->Act->World->Prop} {ds:List Deferred} {E:Env} {ks:List KI} {pr:Nat} {l:Lay} {x:PR} {L M:List HP} {ops:Array Oper} {y:List Oper} (ht:Take (cz pr l x) L M) (k:∀ v,TL c fin ds E (pt x.p (.cells #[.pointer (some ⟨pr,0,none⟩),.int .i64 l.key,.int .i64 l.elem,.int .i64 l.ka,.int .i64 l.ea,.int .i64 l.cap,.int .i64 l.eo,.int .i64 l.bo,.int .i64 l.slot,.int .i64 l.group,.int .i64 (x.off:Nat),.int .i64 (x.go:Nat),.int .i64 x.T.used,.int .i64 x.T.left,.int .i64 x.T.depth,.int .i64 x.T.pins,.int .i64 x.T.next,.bool (decide (x.T.kind=4)),.bool x.dead,v] 45 (0,0))::aF 142 5 v (8*x.n) (rowOf cj (bO x.T.cells (8*x.n)))::M) ops y ks):TL c fin ds E L ops y ks:=
 wN (X:=Value) (LL:=fun v=>Jz pr l x v ++ M) (fun w hs=>let ⟨v,_,h⟩:=cV.1 (hs.take ht);⟨v,h⟩) k
theorem bC {pr:Nat} {l:Lay} {x:PR} (v:Value) {L R:List HP} (he:dS L (pt x.p (.cells #[.pointer (some ⟨pr,0,none⟩),.int .i64 l.key,.int .i64 l.elem,.int .i64 l.ka,.int .i64 l.ea,.int .i64 l.cap,.int .i64 l.eo,.int .i64 l.bo,.int .i64 l.slot,.int .i64 l.group,.int .i64 (x.off:Nat),.int .i64 (x.go:Nat),.int .i64 x.T.used,.int .i64 x.T.left,.int .i64 x.T.depth,.int .i64 x.T.pins,.int .i64 x.T.next,.bool (decide (x.T.kind=4)),.bool x.dead,v] 45 (0,0))::aF 142 5 v (8*x.n) (rowOf cj (bO x.T.cells (8*x.n)))::R)):dS L (cz pr l x::R):=fun w h=>cV.2 ⟨v,trivial,he w h⟩
theorem fI (cs:Nat->Cell) {N i:Nat} (h:i < N) (j:Nat) (hj:j < 5):(rowOf cj (bO cs N))[i*5+j]?=(cj (cs i))[j]?:=er mO (bO cs N) i j (cs i) (eV h) hj
theorem k5 (cs:Nat->Cell) {N i:Nat} (h:i < N) (c:Cell):(bO cs N).set i c=bO (cW cs i c) N:=by
 refine List.ext_getElem? fun j=>?_
 rw[List.getElem?_set]
 by_cases hj:j < N
 ·rw[eV hj]
  split
  ·next q=>subst q;simp only[jr,h,if_true];rw[eV h,ek]
  next q=>rw[eV hj,fm _ (Ne.symm q)]
 rw[List.getElem?_eq_none (by rw[jr];omega)]
 split
 ·next q=>subst q;omega
 rw[List.getElem?_eq_none (by rw[jr];omega)]
section
variable (pr:Nat) (l:Lay) (x:PR) (hn:x.n<=8192)
include hn
theorem ox (g:Nat) (hg:g < x.n):aK Tryz.prog 164 #[.pointer (some ⟨x.p,0,none⟩),.int .i64 (g:Nat)] [cz pr l x] (fun v L=>v=.bool (decide (cm (eh (ck x.T.cells g)) < 8))/\L= [cz pr l x]):=by
 refine au Iz Tryz.func164 rfl rfl rfl fun Fr w0=>aZ ?_
 refine cL .here fun vc=>?_
 refine bU (.there .here) fun _ hvc=>?_
 obtain⟨a0,cap,rfl,ha,_,_⟩:=hvc
 obtain⟨g0,rfl⟩:=ha (by omega)
 refine sr<|ar O O<|lc<|al<|sr<|ar O O<|lc<|aB ?_
 refine bK (fun i:Nat=>i<=8/\∀ j,j < i->eh (ck x.T.cells g) j=false) (fun i=>[(0,.pointer (some ⟨x.p,0,none⟩)),(1,.int .i64 (g:Nat)),(5,.int .i64 (i:Nat))]) (fun _=>pt x.p (.cells #[.pointer (some ⟨pr,0,none⟩),.int .i64 l.key,.int .i64 l.elem,.int .i64 l.ka,.int .i64 l.ea,.int .i64 l.cap,.int .i64 l.eo,.int .i64 l.bo,.int .i64 l.slot,.int .i64 l.group,.int .i64 (x.off:Nat),.int .i64 (x.go:Nat),.int .i64 x.T.used,.int .i64 x.T.left,.int .i64 x.T.depth,.int .i64 x.T.pins,.int .i64 x.T.next,.bool (decide (x.T.kind=4)),.bool x.dead,(.slice (some ⟨g0,0,none⟩) (8*x.n) cap)] 45 (0,0))::aF 142 5 (.slice (some ⟨g0,0,none⟩) (8*x.n) cap) (8*x.n) (rowOf cj (bO x.T.cells (8*x.n)))::Fr) (fun i=>8-i) 0 ⟨Nat.zero_le _,fun j h=>by omega⟩ ⟨rfl,rfl,rfl,trivial⟩ (by(exact en)) ?_
 rintro i ⟨hi,hno⟩
 refine al<|sr<|mv O O<|ad O (qi O O (bj ·))<|lc<|aG O (fun h=>?_) fun h=>?_
 ·skip
  have hcell:(rowOf cj (bO x.T.cells (8*x.n)))[0+(8*((g:Nat):Int)+((i:Nat):Int)).toNat*5+0]?=some (.int .i64 (x.T.cells (8*g+i)).kind):=by
   rw[show 0+(8*((g:Nat):Int)+((i:Nat):Int)).toNat*5+0=(8*g+i)*5+0 by omega,fI x.T.cells (by omega) 0 (by decide)]
   rfl
  refine aq<|an<|al<|aB<|sr<|mv O O<|ad O (ae O)<|ad O (aE 19 O bT O O eH)<|ad O (aI O eI) ?_
  refine mv O O<|ad O (dA O O) ?_
  refine mv O O<|ad O (bn O O) ?_
  refine ad O (aL O O ef bV (by omega)) ?_
  refine ad O (aE 0 O cq O O aN) ?_
  apply ad O
  ·apply aT O aX
   ·exact tk
   exact hcell
  refine ad O (qi O O (bN ·))<|lc<|aG O (fun q=>?_) fun q=>?_
  ·skip
   have he:eh (ck x.T.cells g) i=true:=by rw[qA];exact kX.1 q
   refine sr<|ar O O<|lc<|rt ?_
   apply aR (.inl rfl) ([cz pr l x])
   ·apply cP O
    exact .tmp rfl
   ·exact⟨by rw[decide_eq_true (qu (by omega) he)],rfl⟩
   refine bC (.slice (some ⟨g0,0,none⟩) (8*x.n) cap) ?_;(exact en)
  refine aq<|bz<|an<|aD<|mv O O<|ad O (bn O O) ?_
  refine ar O O<|ai ?_
  apply aU ((i+1))
  ·exact⟨by omega,fun j hj=>by rcases Nat.lt_or_ge j i with q2 | q2;exact hno j q2;(obtain rfl:j=i:=by omega);rw[qA];cases he:dz (ck x.T.cells g j) with | false=>rfl | true=>exact absurd (kX.2 he) q⟩
  ·omega
  ·exact⟨O,O,O,trivial⟩
  exact en
 obtain rfl:i=8:=by omega
 refine xt O<|nz<|ar O O<|lc<|rt ?_
 apply aR (.inl rfl) ([cz pr l x])
 ·apply cP O
  exact .tmp rfl
 ·exact⟨by rw[decide_eq_false (mK hno)],rfl⟩
 refine bC (.slice (some ⟨g0,0,none⟩) (8*x.n) cap) ?_;(exact en)
theorem Cp (hn0:0 < x.n) (h:Int) (hh:0<=h/\h < 18446744073709551616):aK Tryz.prog 160 #[.pointer (some ⟨x.p,0,none⟩),.int .u64 h] [cz pr l x] (fun v L=>L= [aF 3 1 v (dT (h / 128) x.n x.T.cells) (ints (jF (h / 128) x.n (dT (h / 128) x.n x.T.cells))),cz pr l x]):=by
 have hg0:=DK (n:=x.n) (h / 128) hn0 (by omega)
 have hm1:=Int.emod_nonneg (h / 128) (show(x.n:Int)≠0 by omega)
 have hm2:=Int.emod_lt_of_pos (h / 128) (show(0:Int) < (x.n:Int) by omega)
 have h5:(((8*x.n:Nat):Int) / 8)=((x.n:Nat):Int):=by omega
 have h6:IntKind.i64.wrap ((IntKind.u64.wrap (h.tdiv 128)).tmod (((8*x.n:Nat):Int) / 8))=((gk (h / 128) x.n 0:Nat):Int):=by
  rw[h5,Int.tdiv_eq_ediv_of_nonneg hh.1,IntKind.wrap_u64,show h / 128 % 18446744073709551616=h / 128 by omega,Int.tmod_eq_emod_of_nonneg (by omega),hg0]
  exact wrap_i64 (by omega)
 refine au ID Tryz.func160 rfl rfl rfl fun Fr w0=>aZ ?_
 refine cL .here fun vc=>?_
 refine bU (.there .here) fun _ hvc=>?_
 obtain⟨a0,cap,rfl,ha,_,_⟩:=hvc
 refine sr<|ar O O<|lz<|mv O O<|ad O (ae O)<|ad O (aE 19 O bT O O eH)<|ad O (aI O eI) ?_
 refine ad O (ql O ef)<|ad O (eT O O) ?_
 refine ar O O<|lz<|mv O O<|ad O (eT O O) ?_
 refine mv O O<|ad O (km O j5 fv) ?_
 refine ad O (iQ O O) ?_
 refine ad O (km O fv j5) ?_
 refine ar O O<|lz<|ar O O<|lc<|al<|sr<|ar O O<|lc<|aB ?_
 refine bK (fun y:Nat×Value=>y.1<=x.n/\∀ j,j < y.1->¬ fo (h / 128) x.n x.T.cells j < 8) (fun y=>[(0,.pointer (some ⟨x.p,0,none⟩)),(5,.int .i64 (x.n:Nat)),(6,.int .i64 (gk (h / 128) x.n y.1:Nat)),(7,y.2),(8,.int .i64 ((y.1+1:Nat):Int))]) (fun y=>aF 3 1 y.2 y.1 (ints (jF (h / 128) x.n y.1))::cz pr l x::Fr) (fun y=>x.n-y.1) (0,.slice none 0 0) ⟨Nat.zero_le _,fun j h=>by omega⟩ ⟨rfl,congrArg (fun z=>some (Value.int .i64 z)) h5,congrArg (fun z=>some (Value.int .i64 z)) h6,rfl,rfl,trivial⟩ (fun w h=>gJ (bC (.slice a0 (8*x.n) cap) (by(exact en)) w h)) ?_
 rintro⟨k,vw⟩ ⟨hk,hno⟩
 dsimp only at hk hno ⊢
 refine al<|sr<|mv O O<|mv O O<|ad O (qi O O (iB ·))<|lc<|aG O (fun h1=>?_) fun h1=>?_
 ·skip
  have hkl:k < x.n:=by omega
  have hgl:=nr (home:=h / 128) (k:=k) hn0
  have hgn:=DL (n:=x.n) (h / 128) hn0 k
  have hro:ints (jF (h / 128) x.n k) ++ #[Value.int .i64 (gk (h / 128) x.n k:Nat)].toList=ints (jF (h / 128) x.n (k+1)):=by rw[yz];simp[ints]
  refine aq<|an<|al<|aB<|sr<|mv O O<|mv O O ?_
  refine bR [_] rfl rfl bI aN sj rfl rfl rfl rfl (fun b28=>?_)
  apply e9 (sz:=1) rfl rfl rfl bI E7 rfl rfl
  ·exact tk
  ·exact tk
  ·rfl
  ·rfl
  ·simp only[maxLen];omega
  ·omega
  intro v29
  refine ar O O<|lc<|al<|sr<|mv O O<|mv O O<|bF O O O (ox pr l x hn (gk (h / 128) x.n k) hgl) ?_
  refine lc<|aG O (fun q=>?_) fun q=>?_
  ·skip
   have hw:=tP hkl q hno
   rw[hro]
   refine sr<|mv O O<|ar O O<|lc<|rt ?_
   apply aR (.inl rfl) ([aF 3 1 v29 (dT (h / 128) x.n x.T.cells) (ints (jF (h / 128) x.n (dT (h / 128) x.n x.T.cells))),cz pr l x])
   ·apply cP O
    exact .tmp rfl
   ·rfl
   rw[hw];(exact en)
  rw[hro]
  refine aq<|an<|aD<|mv O O<|mv O O<|ad O (bn O O) ?_
  refine mv O O<|ad O (iQ O O) ?_
  refine ar O O<|ai<|bz<|an<|aD<|mv O O<|ad O (bn O O) ?_
  refine ar O O<|ai ?_
  apply aU ((k+1,v29))
  ·exact⟨by dsimp only;omega,fun j hj=>by rcases Nat.lt_or_ge j k with q2 | q2;exact hno j q2;(obtain rfl:j=k:=by dsimp only at hj;omega);exact fun h2=>q h2⟩
  ·dsimp only;omega
  ·exact⟨rfl,rfl,congrArg (fun z=>some (Value.int .i64 z)) hgn.symm,rfl,rfl,trivial⟩
  exact en
 obtain rfl:k=x.n:=by omega
 have hw:=rl hno
 refine xt O<|nz<|mv O O<|ar O O<|lc<|rt ?_
 apply aR (.inl rfl) ([aF 3 1 vw (dT (h / 128) x.n x.T.cells) (ints (jF (h / 128) x.n (dT (h / 128) x.n x.T.cells))),cz pr l x])
 ·apply cP O
  exact .tmp rfl
 ·rfl
 rw[hw];(exact en)
def qz (l:Lay) (x:PR) (key:ByteArray):Int:=if x.dead then 24 else if(key.size:Int)≠l.key then 61 else 0
theorem rP (key:ByteArray):aK Tryz.prog 158 #[.pointer (some ⟨x.p,0,none⟩),.string key] [cz pr l x] (fun v L=>v=.int .i64 (qz l x key)/\L= [cz pr l x]):=by
 refine au IF Tryz.func158 rfl rfl rfl fun Fr w0=>aZ ?_
 refine cL .here fun vc=>?_
 refine sr<|ar O O<|lc<|al<|sr<|mv O O<|ad O (ae O)<|ad O (aE 18 O bT O O j6)<|ad O (aI O nH) ?_
 refine lc<|aG O (fun z=>?_) fun z=>?_
 ·refine sr<|ar O O<|lc<|rt ?_
  apply aR (.inl rfl) ([cz pr l x])
  ·apply cP O
   exact .tmp rfl
  ·exact⟨by unfold qz;rw[if_pos z],rfl⟩
  refine bC vc ?_;(exact en)
 refine aq<|an<|al<|sr<|mv O O<|ad O (m9 O lg)<|mv O O<|ad O (ae O)<|ad O (aE 1 O bT O O bH)<|ad O (aE 0 O cB O O aN)<|ad O (aI O aX) ?_
 refine ad O (qi O O (bf ·))<|lc<|aG O (fun y=>?_) fun y=>?_
 ·refine sr<|ar O O<|lc<|rt ?_
  apply aR (.inl rfl) ([cz pr l x])
  ·apply cP O
   exact .tmp rfl
  ·exact⟨by unfold qz;rw[if_neg (by simp[z]),if_pos y],rfl⟩
  refine bC vc ?_;(exact en)
 refine aq<|nz<|ar O O<|lc<|rt ?_
 apply aR (.inl rfl) ([cz pr l x])
 ·apply cP O
  exact .tmp rfl
 ·exact⟨by unfold qz;rw[if_neg (by simp[z]),if_neg y],rfl⟩
 refine bC vc ?_;(exact en)
theorem rfind_ok (hn0:0 < x.n) (h:Int) (hh:0<=h/\h < 18446744073709551616) (key:ByteArray):aK Tryz.prog 159 #[.pointer (some ⟨x.p,0,none⟩),.int .u64 h,.string key] [cz pr l x] (fun v L=>v=.tuple #[.int .i64 (bB (h / 128) x.n x.T.cells (h % 128) key).slot,.int .i64 (bB (h / 128) x.n x.T.cells (h % 128) key).probes]/\L= [cz pr l x]):=by
 have hwle:=su (h / 128) x.n x.T.cells
 refine au IE Tryz.func159 rfl rfl rfl fun Fr w0=>aZ ?_
 refine sr<|ar O O<|ar O O<|lz<|mv O O<|mv O O<|cT O O O (Cp pr l x hn hn0 h hh) ?_
 rintro vw L' rfl
 refine bx ?_
 refine ar O O<|lz<|mv O O<|ad O (iQ O O) ?_
 refine ad O (km O fv j5) ?_
 refine ar O O<|lc<|al<|sr<|ar O O<|lc<|aB ?_
 refine bU .here fun _ hvw=>?_
 obtain⟨aw,capw,rfl,haw,_,_⟩:=hvw
 refine cL (.there .here) fun vc=>?_
 refine bU (.there .here) fun _ hvc=>?_
 obtain⟨a0,cap,rfl,ha,_,_⟩:=hvc
 obtain⟨g0,rfl⟩:=ha (by omega)
 refine bK (fun k:Nat=>k<=dT (h / 128) x.n x.T.cells/\∀ j,j < k->¬ eR (h / 128) x.n x.T.cells (h % 128) key j < 8) (fun k=>[(0,.pointer (some ⟨x.p,0,none⟩)),(2,.string key),(8,.slice aw (dT (h / 128) x.n x.T.cells) capw),(9,.int .i64 (h % 128)),(10,.int .i64 (k:Nat))]) (fun _=>pt x.p (.cells #[.pointer (some ⟨pr,0,none⟩),.int .i64 l.key,.int .i64 l.elem,.int .i64 l.ka,.int .i64 l.ea,.int .i64 l.cap,.int .i64 l.eo,.int .i64 l.bo,.int .i64 l.slot,.int .i64 l.group,.int .i64 (x.off:Nat),.int .i64 (x.go:Nat),.int .i64 x.T.used,.int .i64 x.T.left,.int .i64 x.T.depth,.int .i64 x.T.pins,.int .i64 x.T.next,.bool (decide (x.T.kind=4)),.bool x.dead,(.slice (some ⟨g0,0,none⟩) (8*x.n) cap)] 45 (0,0))::aF 142 5 (.slice (some ⟨g0,0,none⟩) (8*x.n) cap) (8*x.n) (rowOf cj (bO x.T.cells (8*x.n)))::aF 3 1 (.slice aw (dT (h / 128) x.n x.T.cells) capw) (dT (h / 128) x.n x.T.cells) (ints (jF (h / 128) x.n (dT (h / 128) x.n x.T.cells)))::Fr) (fun k=>dT (h / 128) x.n x.T.cells-k) 0 ⟨Nat.zero_le _,fun j h=>by omega⟩ ⟨rfl,rfl,rfl,rfl,rfl,trivial⟩ (by(exact en)) ?_
 rintro k ⟨hk,hnok⟩
 refine al<|sr<|mv O O<|mv O O<|ad O (ql O bI)<|ad O (qi O O (bj ·))<|lc<|aG O (fun h1=>?_) fun h1=>?_
 ·skip
  have hkl:k < dT (h / 128) x.n x.T.cells:=by omega
  obtain⟨gw,rfl⟩:=haw (by omega)
  have hgl:=nr (home:=h / 128) (k:=k) hn0
  have hwk:(ints (jF (h / 128) x.n (dT (h / 128) x.n x.T.cells)))[0+((k:Nat):Int).toNat]?=some (.int .i64 (gk (h / 128) x.n k:Nat)):=by
   rw[Nat.zero_add,Int.toNat_natCast];unfold ints;rw[List.getElem?_map,pd hkl];rfl
  refine aq<|an<|al<|aB<|sr<|mv O O<|mv O O<|ad O (az O O bI aN (by omega)) ?_
  apply ad O
  ·apply aT O aX
   ·exact tk
   exact hwk
  refine ad O (dA O O) ?_
  refine ar O O<|lc<|aB ?_
  refine bK (fun i:Nat=>i<=8/\∀ j,j < i->mq (ck x.T.cells (gk (h / 128) x.n k)) (h % 128) key j=false) (fun i=>[(0,.pointer (some ⟨x.p,0,none⟩)),(2,.string key),(8,.slice (some ⟨gw,0,none⟩) (dT (h / 128) x.n x.T.cells) capw),(9,.int .i64 (h % 128)),(10,.int .i64 (k:Nat)),(11,.int .i64 (8*((gk (h / 128) x.n k:Nat):Int)+(i:Nat)))]) (fun _=>pt x.p (.cells #[.pointer (some ⟨pr,0,none⟩),.int .i64 l.key,.int .i64 l.elem,.int .i64 l.ka,.int .i64 l.ea,.int .i64 l.cap,.int .i64 l.eo,.int .i64 l.bo,.int .i64 l.slot,.int .i64 l.group,.int .i64 (x.off:Nat),.int .i64 (x.go:Nat),.int .i64 x.T.used,.int .i64 x.T.left,.int .i64 x.T.depth,.int .i64 x.T.pins,.int .i64 x.T.next,.bool (decide (x.T.kind=4)),.bool x.dead,(.slice (some ⟨g0,0,none⟩) (8*x.n) cap)] 45 (0,0))::aF 142 5 (.slice (some ⟨g0,0,none⟩) (8*x.n) cap) (8*x.n) (rowOf cj (bO x.T.cells (8*x.n)))::aF 3 1 (.slice (some ⟨gw,0,none⟩) (dT (h / 128) x.n x.T.cells) capw) (dT (h / 128) x.n x.T.cells) (ints (jF (h / 128) x.n (dT (h / 128) x.n x.T.cells)))::Fr) (fun i=>8-i) 0 ⟨Nat.zero_le _,fun j h=>by omega⟩ ⟨rfl,rfl,rfl,rfl,rfl,congrArg (fun z=>some (Value.int .i64 z)) (by omega),trivial⟩ (by(exact en)) ?_
  rintro i ⟨hi,hnoi⟩
  refine al<|sr<|mv O O<|mv O O<|mv O O<|ad O (az O O bI aN (by omega)) ?_
  apply ad O
  ·apply aT O aX
   ·exact tk
   exact hwk
  refine ad O (dA O O) ?_
  refine ad O (bn O O) ?_
  refine ad O (qi O O (bj ·))<|lc<|aG O (fun h2=>?_) fun h2=>?_
  ·skip
   have hcell:∀ j v,[Value.int .i64 (x.T.cells (8*gk (h / 128) x.n k+i)).kind,.int .i64 (x.T.cells (8*gk (h / 128) x.n k+i)).tagI,.string (x.T.cells (8*gk (h / 128) x.n k+i)).keyS,.string (x.T.cells (8*gk (h / 128) x.n k+i)).elemS,.int .i64 (x.T.cells (8*gk (h / 128) x.n k+i)).birthI][j]?=some v->dt (aF 142 5 (.slice (some ⟨g0,0,none⟩) (8*x.n) cap) (8*x.n) (rowOf cj (bO x.T.cells (8*x.n)))) ((⟨g0,0+(8*((gk (h / 128) x.n k:Nat):Int)+((i:Nat):Int)).toNat*5,none⟩:Addr).add j) v:=fun j v hv=>by
    have hj:j < 5:=by rcases Nat.lt_or_ge j 5 with q | q;exact q;rw[List.getElem?_eq_none (by simpa using q)] at hv;cases hv
    rw[dr,show 0+(8*((gk (h / 128) x.n k:Nat):Int)+((i:Nat):Int)).toNat*5+j=(8*gk (h / 128) x.n k+i)*5+j by omega]
    exact nb (by rw[fI x.T.cells (by omega) j hj];exact hv)
   refine aq<|an<|al<|aB<|sr<|mv O O<|ad O (ae O)<|ad O (aE 19 O bT O O eH)<|ad O (aI O eI) ?_
   refine mv O O<|ad O (aL O O ef bV (by omega)) ?_
   apply ad O
   ·apply cg (A:=aF 142 5 (.slice (some ⟨g0,0,none⟩) (8*x.n) cap) (8*x.n) (rowOf cj (bO x.T.cells (8*x.n)))) (us:=[.int .i64 (x.T.cells (8*gk (h / 128) x.n k+i)).kind,.int .i64 (x.T.cells (8*gk (h / 128) x.n k+i)).tagI,.string (x.T.cells (8*gk (h / 128) x.n k+i)).keyS,.string (x.T.cells (8*gk (h / 128) x.n k+i)).elemS,.int .i64 (x.T.cells (8*gk (h / 128) x.n k+i)).birthI]) rfl fj bV rfl
    ·exact tk
    exact hcell
   refine ay O dF fun b12=>bZ O O O bV O O ?_
   refine lz<|ad O (aE 0 O cq O O aN)<|ad O (aI O aX) ?_
   refine ad O (qi O O (bN ·))<|mv O O<|bQ (t:=50) rfl (fun z1=>?_) fun z1=>?_
   ·refine aA O O<|ad O (aE 1 O cq O O aN)<|aA O O<|ad O (aI O aX) ?_
    refine aA O O<|mv O O<|aA O O<|ad O (qi O O (bN ·))<|ad O (aS O O)<|mv O O<|bQ (t:=56) rfl (fun z2=>?_) fun z2=>?_
    ·refine aA O O<|ad O (aE 2 O cq O O fA)<|aA O O<|ad O (aI O fS) ?_
     refine aA O O<|mv O O<|aA O O<|ad O (qs O O (lO ·))<|ad O (aS O O)<|lc<|aG O (fun z3=>?_) fun z3=>?_
     ·skip
      have hhs:mq (ck x.T.cells (gk (h / 128) x.n k)) (h % 128) key i=true:=np.2 ⟨z1,z2,z3⟩
      have hfe:eR (h / 128) x.n x.T.cells (h % 128) key k=i:=n3 (by omega) hhs hnoi
      have hsr:=u1 hkl (by rw[hfe];omega) hnok
      rw[hfe] at hsr
      refine sr<|mv O O<|mv O O<|ad O (bn O O) ?_
      refine ar O O<|ar O O<|lc<|rt ?_
      apply aR (.inl rfl) ([cz pr l x])
      ·apply cF O
       ·exact .tmp rfl
       exact .tmp rfl
      ·exact⟨by rw[hsr],rfl⟩
      refine bC (.slice (some ⟨g0,0,none⟩) (8*x.n) cap) ?_;(exact en)
     refine aq<|bz<|an<|aD<|mv O O<|ad O (bn O O) ?_
     refine ar O O<|ai ?_
     apply aU ((i+1))
     ·exact⟨by omega,fun j hj=>by rcases Nat.lt_or_ge j i with q2 | q2;exact hnoi j q2;(obtain rfl:j=i:=by omega);cases hs:mq (ck x.T.cells (gk (h / 128) x.n k)) (h % 128) key j with | false=>rfl | true=>(obtain⟨a1,a2,a3⟩:=np.1 hs;first | exact absurd a1 z1 | exact absurd a2 z2 | exact absurd a3 z3)⟩
     ·omega
     ·exact⟨O,O,O,O,O,O,trivial⟩
     exact en
    refine ax O O O O<|ax O O O O<|ax O O O O<|ax O O O O<|ad O (aS O O)<|lc<|cQ O<|aq<|bz<|an<|aD<|mv O O<|ad O (bn O O) ?_
    refine ar O O<|ai ?_
    apply aU ((i+1))
    ·exact⟨by omega,fun j hj=>by rcases Nat.lt_or_ge j i with q2 | q2;exact hnoi j q2;(obtain rfl:j=i:=by omega);cases hs:mq (ck x.T.cells (gk (h / 128) x.n k)) (h % 128) key j with | false=>rfl | true=>(obtain⟨a1,a2,a3⟩:=np.1 hs;first | exact absurd a1 z1 | exact absurd a2 z2 | exact absurd a3 z3)⟩
    ·omega
    ·exact⟨O,O,O,O,O,O,trivial⟩
    exact en
   refine ax O O O O<|ax O O O O<|ax O O O O<|ax O O O O<|ad O (aS O O)<|mv O O<|ax O O O O<|ax O O O O<|ax O O O O<|ax O O O O<|ad O (aS O O)<|lc<|cQ O<|aq<|bz<|an<|aD<|mv O O<|ad O (bn O O) ?_
   refine ar O O<|ai ?_
   apply aU ((i+1))
   ·exact⟨by omega,fun j hj=>by rcases Nat.lt_or_ge j i with q2 | q2;exact hnoi j q2;(obtain rfl:j=i:=by omega);cases hs:mq (ck x.T.cells (gk (h / 128) x.n k)) (h % 128) key j with | false=>rfl | true=>(obtain⟨a1,a2,a3⟩:=np.1 hs;first | exact absurd a1 z1 | exact absurd a2 z2 | exact absurd a3 z3)⟩
   ·omega
   ·exact⟨O,O,O,O,O,O,trivial⟩
   exact en
  obtain rfl:i=8:=by omega
  refine xt O<|bz<|an<|aD<|mv O O<|ad O (bn O O) ?_
  refine ar O O<|ai ?_
  apply aU ((k+1))
  ·exact⟨by omega,fun j hj=>by rcases Nat.lt_or_ge j k with q2 | q2;exact hnok j q2;(obtain rfl:j=k:=by omega);exact mK hnoi⟩
  ·omega
  ·exact⟨O,O,O,O,O,trivial⟩
  exact en
 obtain rfl:k=dT (h / 128) x.n x.T.cells:=by omega
 have hsr:=x8 hnok
 refine xt O<|nz<|mv O O<|ad O (ql O bI)<|ar O O<|ar O O<|lc<|rt ?_
 apply aR (.inl rfl) ([cz pr l x])
 ·apply cF O
  ·exact .tmp rfl
  exact .tmp rfl
 ·exact⟨by rw[hsr],rfl⟩
 refine bC (.slice (some ⟨g0,0,none⟩) (8*x.n) cap) ?_;(exact en)
theorem u4 (key:ByteArray) (he:¬ qz l x key=0):(x.dead=true/\qz l x key=24)\/(x.dead=false/\(key.size:Int)≠l.key/\qz l x key=61):=by
 unfold qz at *
 cases hd:x.dead with
 | true=>exact .inl ⟨rfl,by simp⟩
 | false=>
  by_cases hk:(key.size:Int)≠l.key
  ·exact .inr ⟨rfl,hk,by simp[hk]⟩
  rw[hd] at he
  simp[hk] at he
theorem rQ (key:ByteArray) (he:¬ qz l x key≠0):x.dead=false/\¬ (key.size:Int)≠l.key:=by
 unfold qz at he
 cases hd:x.dead with
 | true=>rw[hd] at he;simp at he
 | false=>
  rw[hd] at he
  by_cases hk:(key.size:Int)≠l.key
  ·rw[if_pos hk] at he;simp at he
  exact⟨rfl,hk⟩
theorem CA (hn0:0 < x.n) (h:Int) (hh:0<=h/\h < 18446744073709551616) (key:ByteArray):aK Tryz.prog 76 #[.pointer (some ⟨x.p,0,none⟩),.int .u64 h,.string key] [cz pr l x] (fun v L=>v=.tuple #[.int .i64 (kr l x h key).1,.int .i64 (kr l x h key).2]/\L= [cz pr l x]):=by
 refine au JW Tryz.func76 rfl rfl rfl fun Fr w0=>aZ ?_
 refine sr<|ar O O<|ar O O<|lz<|mv O O<|mv O O<|bF O O O (rP pr l x hn key) ?_
 refine ar O O<|lc<|al<|sr<|mv O O<|ad O (qi O O (bf ·))<|lc<|aG O (fun z=>?_) fun z=>?_
 ·refine sr<|mv O O<|ar O O<|ar O O<|lc<|rt<|ft O ([cz pr l x]) (.tmp rfl) (.tmp rfl) ?_
  exact⟨by rcases u4 l x hn key z with⟨a1,a2⟩ | ⟨a1,a2,a3⟩ <;> unfold kr <;> simp[*],rfl⟩
 refine aq<|nz<|mv O O<|mv O O<|mv O O<|bF O O O (rfind_ok pr l x hn hn0 h hh key) ?_
 refine mv O O<|ad O (aa O ga) ?_
 refine ad O (aa O ga) ?_
 refine ar O O<|ar O O<|lz<|mv O O<|ar O O<|ar O O<|lc<|rt<|ft O ([cz pr l x]) (.tmp rfl) (.tmp rfl) ?_
 exact⟨by obtain⟨a1,a2⟩:=rQ l x hn key z;unfold kr;simp only[a1,if_neg a2,Bool.false_eq_true,if_false],rfl⟩
theorem tg {g0 cap k:Nat} (hk:k < 8*x.n) (o:Nat) (ho:o=k*5):∀ j v,[.int .i64 (x.T.cells k).kind,.int .i64 (x.T.cells k).tagI,.string (x.T.cells k).keyS,.string (x.T.cells k).elemS,.int .i64 (x.T.cells k).birthI][j]?=some v->dt (aF 142 5 (.slice (some ⟨g0,0,none⟩) (8*x.n) cap) (8*x.n) (rowOf cj (bO x.T.cells (8*x.n)))) ((⟨g0,o,none⟩:Addr).add j) v:=fun j v hv=>by
 have hj:j < 5:=by rcases Nat.lt_or_ge j 5 with q | q;exact q;rw[List.getElem?_eq_none (by simpa using q)] at hv;cases hv
 rw[dr,ho]
 exact nb (by rw[fI x.T.cells hk j hj];exact hv)
theorem tZ (h:Int) (key:ByteArray) (hn0:0 < x.n) (hs:0<=(bB (h / 128) x.n x.T.cells (h % 128) key).slot):∃ k,k < 8*x.n/\(bB (h / 128) x.n x.T.cells (h % 128) key).slot=((k:Nat):Int)/\∃ e b,x.T.cells k=.full (h % 128) key e b:=by
 obtain⟨g,i,hg,hi,h2,h3⟩:=im (home:=h / 128) (cells:=x.T.cells) (tag:=h % 128) (key:=key) hn0 hs
 exact⟨8*g+i,by omega,h2,h3⟩
variable (hr:fu x.n x.T)
include hr
theorem AW {g0 cap:Nat} {k:Nat} (hk:k < 8*x.n) (c:Cell):lay (rowOf cj (bO x.T.cells (8*x.n))) (k*5) (cj c)=rowOf cj (bO (cW x.T.cells k c) (8*x.n)):=by
 rw[yJ mO (by rw[jr];exact hk),k5 _ hk]
theorem o4 (hn0:0 < x.n) (h:Int) (hh:0<=h/\h < 18446744073709551616) (key elem:ByteArray) (birth:Int):aK Tryz.prog 81 #[.pointer (some ⟨x.p,0,none⟩),.int .u64 h,.string key,.string elem,.int .i64 birth] [cz pr l x] (fun v L=>v=.tuple #[.int .i64 (ko l x h key elem birth).1,.int .i64 (ko l x h key elem birth).2.1]/\L= [cz pr l {x with T:=(ko l x h key elem birth).2.2}]):=by
 have hus:=hr.used
 have hl0:=hr.left0
 have hl1:=hr.left1
 have hcle:=lM isFull x.T.cells (8*x.n)
 have hwle:=su (h / 128) x.n x.T.cells
 refine au JV Tryz.func81 rfl rfl rfl fun Fr w0=>aZ ?_
 refine sr<|ar O O<|ar O O<|lz<|mv O O<|mv O O<|bF O O O (rP pr l x hn key) ?_
 refine ar O O<|lc<|al<|sr<|mv O O<|ad O (qi O O (bf ·))<|lc<|aG O (fun z0=>?_) fun z0=>?_
 ·skip
  have hp:ko l x h key elem birth=(0,qz l x key,x.T):=by rcases u4 l x hn key z0 with⟨a1,a2⟩ | ⟨a1,a2,a3⟩ <;> unfold ko <;> simp[*]
  rw[hp]
  exact sr<|mv O O<|ar O O<|ar O O<|lc<|rt<|ft O ([cz pr l x]) (.tmp rfl) (.tmp rfl) ⟨rfl,rfl⟩
 obtain⟨hxd,hkey⟩:=rQ l x hn key z0
 refine cL .here fun vc=>?_
 refine aq<|an<|al<|sr<|mv O O<|ad O (m9 O lg)<|mv O O<|ad O (ae O)<|ad O (aE 1 O bT O O bH)<|ad O (aE 1 O cB O O aN)<|ad O (aI O aX) ?_
 refine ad O (qi O O (bf ·))<|lc<|aG O (fun z1=>?_) fun z1=>?_
 ·skip
  have hp:ko l x h key elem birth=(0,62,x.T):=by unfold ko;simp only[hxd,if_neg hkey,Bool.false_eq_true,if_false,if_pos z1]
  rw[hp]
  refine sr<|ar O O<|ar O O<|lc<|rt ?_
  apply aR (.inl rfl) ([cz pr l x])
  ·apply cF O
   ·exact .tmp rfl
   exact .tmp rfl
  ·exact⟨rfl,rfl⟩
  refine bC vc ?_;(exact en)
 refine aq<|an<|al<|sr<|mv O O<|ad O (qi O O (bj ·))<|lc<|aG O (fun z2=>?_) fun z2=>?_
 ·skip
  have hp:ko l x h key elem birth=(0,64,x.T):=by unfold ko;simp only[hxd,if_neg hkey,Bool.false_eq_true,if_false,if_neg z1,if_pos z2]
  rw[hp]
  refine sr<|ar O O<|ar O O<|lc<|rt ?_
  apply aR (.inl rfl) ([cz pr l x])
  ·apply cF O
   ·exact .tmp rfl
   exact .tmp rfl
  ·exact⟨rfl,rfl⟩
  refine bC vc ?_;(exact en)
 have hp:ko l x h key elem birth=((eD x.n x.T h key elem birth).1,0,(eD x.n x.T h key elem birth).2):=by unfold ko;simp only[hxd,if_neg hkey,Bool.false_eq_true,if_false,if_neg z1,if_neg z2]
 rw[hp]
 refine il (L':=cz pr l x::Fr) (bC vc (by(exact en))) ?_
 refine aq<|nz<|mv O O<|mv O O<|mv O O<|bF O O O (rfind_ok pr l x hn hn0 h hh key) ?_
 refine mv O O<|ad O (aa O ga) ?_
 refine ad O (aa O ga) ?_
 refine ar O O<|ar O O<|lc<|al<|sr<|mv O O<|ad O (qi O O (iC ·))<|lc<|aG O (fun z3=>?_) fun z3=>?_
 ·skip
  obtain⟨k,hk,hks,e0,b0,hcf⟩:=tZ x hn h key hn0 z3
  have hput:eD x.n x.T h key elem birth=(1,{x.T with cells:=cW x.T.cells k (.full (h % 128) key elem b0)}):=by
   unfold eD
   rw[if_pos z3,hks,Int.toNat_natCast,hcf];rfl
  rw[hput,hks]
  refine cL .here fun vc=>?_
  refine bU (.there .here) fun _ hvc=>?_
  obtain⟨a0,cap,rfl,ha,_,_⟩:=hvc
  obtain⟨g0,rfl⟩:=ha (by omega)
  have hset:(rowOf cj (bO x.T.cells (8*x.n))).set (0+((k:Nat):Int).toNat*5+3) (.string elem)=rowOf cj (bO (cW x.T.cells k (.full (h % 128) key elem b0)) (8*x.n)):=by
   rw[Nat.zero_add,Int.toNat_natCast,g7 mO (by decide) (bO x.T.cells (8*x.n)) k (x.T.cells k) (eV hk) (a':=.full (h % 128) key elem b0) (by rw[hcf];rfl),k5 _ hk]
  refine sr<|mv O O<|ad O (ae O)<|ad O (aE 19 O bT O O eH)<|ad O (aI O eI) ?_
  refine mv O O<|mv O O<|ad O (aL O O ef bV (by omega)) ?_
  refine ad O (aE 3 O cq O O fA) ?_
  refine ee O O O fA O tk (by omega) hset ?_
  refine lz<|ar O O<|ar O O<|lc<|rt ?_
  apply aR (.inl rfl) ([cz pr l {x with T:={x.T with cells:=cW x.T.cells k (.full (h % 128) key elem b0)}}])
  ·apply cF O
   ·exact .tmp rfl
   exact .tmp rfl
  ·exact⟨rfl,rfl⟩
  refine bC (.slice (some ⟨g0,0,none⟩) (8*x.n) cap) ?_;(exact en)
 have hneg:=BV (home:=h / 128) (n:=x.n) (cells:=x.T.cells) (tag:=h % 128) (key:=key) (by omega)
 refine aq<|nz<|mv O O<|mv O O<|cT O O O (Cp pr l x hn hn0 h hh) ?_
 rintro vw L' rfl
 refine bx ?_
 refine ar O O<|lc<|al<|sr<|ar O O<|lc<|aB ?_
 refine bU .here fun _ hvw=>?_
 obtain⟨aw,capw,rfl,haw,_,_⟩:=hvw
 refine cL (.there .here) fun vc=>?_
 refine bU (.there .here) fun _ hvc=>?_
 obtain⟨a0,cap,rfl,ha,_,_⟩:=hvc
 obtain⟨g0,rfl⟩:=ha (by omega)
 dsimp only
 refine bK (fun k:Nat=>k<=dT (h / 128) x.n x.T.cells/\∀ j,j < k->¬ dm (h / 128) x.n x.T.cells j < 8) (fun k=>[(0,.pointer (some ⟨x.p,0,none⟩)),(1,.int .u64 h),(2,.string key),(3,.string elem),(4,.int .i64 birth),(15,.slice aw (dT (h / 128) x.n x.T.cells) capw),(16,.int .i64 (k:Nat))]) (fun _=>pt x.p (.cells #[.pointer (some ⟨pr,0,none⟩),.int .i64 l.key,.int .i64 l.elem,.int .i64 l.ka,.int .i64 l.ea,.int .i64 l.cap,.int .i64 l.eo,.int .i64 l.bo,.int .i64 l.slot,.int .i64 l.group,.int .i64 (x.off:Nat),.int .i64 (x.go:Nat),.int .i64 x.T.used,.int .i64 x.T.left,.int .i64 x.T.depth,.int .i64 x.T.pins,.int .i64 x.T.next,.bool (decide (x.T.kind=4)),.bool x.dead,(.slice (some ⟨g0,0,none⟩) (8*x.n) cap)] 45 (0,0))::aF 142 5 (.slice (some ⟨g0,0,none⟩) (8*x.n) cap) (8*x.n) (rowOf cj (bO x.T.cells (8*x.n)))::aF 3 1 (.slice aw (dT (h / 128) x.n x.T.cells) capw) (dT (h / 128) x.n x.T.cells) (ints (jF (h / 128) x.n (dT (h / 128) x.n x.T.cells)))::Fr) (fun k=>dT (h / 128) x.n x.T.cells-k) 0 ⟨Nat.zero_le _,fun j h=>by omega⟩ ⟨rfl,rfl,rfl,rfl,rfl,rfl,rfl,trivial⟩ (by(exact en)) ?_
 rintro k ⟨hk,hnok⟩
 refine al<|sr<|mv O O<|mv O O<|ad O (ql O bI)<|ad O (qi O O (bj ·))<|lc<|aG O (fun h1=>?_) fun h1=>?_
 ·skip
  have hkl:k < dT (h / 128) x.n x.T.cells:=by omega
  obtain⟨gw,rfl⟩:=haw (by omega)
  have hgl:=nr (home:=h / 128) (k:=k) hn0
  have hwk:(ints (jF (h / 128) x.n (dT (h / 128) x.n x.T.cells)))[0+((k:Nat):Int).toNat]?=some (.int .i64 (gk (h / 128) x.n k:Nat)):=by
   rw[Nat.zero_add,Int.toNat_natCast];unfold ints;rw[List.getElem?_map,pd hkl];rfl
  refine aq<|an<|al<|aB<|sr<|mv O O<|mv O O<|ad O (az O O bI aN (by omega)) ?_
  apply ad O
  ·apply aT O aX
   ·exact tk
   exact hwk
  refine ad O (dA O O) ?_
  refine ar O O<|lc<|aB ?_
  refine bK (fun i:Nat=>i<=8/\∀ j,j < i->iD (ck x.T.cells (gk (h / 128) x.n k)) j=false) (fun i=>[(0,.pointer (some ⟨x.p,0,none⟩)),(1,.int .u64 h),(2,.string key),(3,.string elem),(4,.int .i64 birth),(15,.slice (some ⟨gw,0,none⟩) (dT (h / 128) x.n x.T.cells) capw),(16,.int .i64 (k:Nat)),(17,.int .i64 (8*((gk (h / 128) x.n k:Nat):Int)+(i:Nat)))]) (fun _=>pt x.p (.cells #[.pointer (some ⟨pr,0,none⟩),.int .i64 l.key,.int .i64 l.elem,.int .i64 l.ka,.int .i64 l.ea,.int .i64 l.cap,.int .i64 l.eo,.int .i64 l.bo,.int .i64 l.slot,.int .i64 l.group,.int .i64 (x.off:Nat),.int .i64 (x.go:Nat),.int .i64 x.T.used,.int .i64 x.T.left,.int .i64 x.T.depth,.int .i64 x.T.pins,.int .i64 x.T.next,.bool (decide (x.T.kind=4)),.bool x.dead,(.slice (some ⟨g0,0,none⟩) (8*x.n) cap)] 45 (0,0))::aF 142 5 (.slice (some ⟨g0,0,none⟩) (8*x.n) cap) (8*x.n) (rowOf cj (bO x.T.cells (8*x.n)))::aF 3 1 (.slice (some ⟨gw,0,none⟩) (dT (h / 128) x.n x.T.cells) capw) (dT (h / 128) x.n x.T.cells) (ints (jF (h / 128) x.n (dT (h / 128) x.n x.T.cells)))::Fr) (fun i=>8-i) 0 ⟨Nat.zero_le _,fun j h=>by omega⟩ ⟨rfl,rfl,rfl,rfl,rfl,rfl,rfl,congrArg (fun z=>some (Value.int .i64 z)) (by omega),trivial⟩ (by(exact en)) ?_
  rintro i ⟨hi,hnoi⟩
  refine al<|sr<|mv O O<|mv O O<|mv O O<|ad O (az O O bI aN (by omega)) ?_
  apply ad O
  ·apply aT O aX
   ·exact tk
   exact hwk
  refine ad O (dA O O) ?_
  refine ad O (bn O O) ?_
  refine ad O (qi O O (bj ·))<|lc<|aG O (fun h2=>?_) fun h2=>?_
  ·skip
   obtain⟨cc,hcc⟩:∃ cc,x.T.cells (8*gk (h / 128) x.n k+i)=cc:=⟨_,rfl⟩
   have hkind:(rowOf cj (bO x.T.cells (8*x.n)))[0+(8*((gk (h / 128) x.n k:Nat):Int)+((i:Nat):Int)).toNat*5+0]?=some (.int .i64 cc.kind):=by
    rw[show 0+(8*((gk (h / 128) x.n k:Nat):Int)+((i:Nat):Int)).toNat*5+0=(8*gk (h / 128) x.n k+i)*5+0 by omega,fI x.T.cells (by omega) 0 (by decide),hcc]
    rfl
   have hlay:lay (rowOf cj (bO x.T.cells (8*x.n))) (0+(8*((gk (h / 128) x.n k:Nat):Int)+((i:Nat):Int)).toNat*5) (cj (.full (h % 128) key elem birth))=rowOf cj (bO (cW x.T.cells (8*gk (h / 128) x.n k+i) (.full (h % 128) key elem birth)) (8*x.n)):=by
    rw[show 0+(8*((gk (h / 128) x.n k:Nat):Int)+((i:Nat):Int)).toNat*5=(8*gk (h / 128) x.n k+i)*5 by omega]
    exact AW x hn hr (g0:=g0) (cap:=cap) (by omega) _
   have hvi:iD (ck x.T.cells (gk (h / 128) x.n k)) i=true->ez (h / 128) x.n x.T.cells (dT (h / 128) x.n x.T.cells)=((8*gk (h / 128) x.n k+i:Nat):Int)/\fw (h / 128) x.n x.T.cells (dT (h / 128) x.n x.T.cells)=dz cc:=fun hv=>by
    have hfe:dm (h / 128) x.n x.T.cells k=i:=n3 (by omega) hv hnoi
    obtain⟨e1,e2⟩:=C0 hkl (by rw[hfe];omega) hnok
    rw[hfe] at e1 e2
    exact⟨by rw[e1];omega,by rw[e2,qA,<- hcc];rfl⟩
   cases cc with
   | full t0 k0 e0 b0=>
    have hfull:isFull (ck x.T.cells (gk (h / 128) x.n k) i)=true:=by show isFull (x.T.cells (8*gk (h / 128) x.n k+i))=true;rw[hcc];rfl
    refine aq<|an<|al<|aB<|al<|sr<|mv O O<|ad O (ae O)<|ad O (aE 19 O bT O O eH)<|ad O (aI O eI) ?_
    refine mv O O<|ad O (aL O O ef bV (by omega)) ?_
    refine ad O (aE 0 O cq O O aN) ?_
    apply ad O
    ·apply aT O aX
     ·exact tk
     exact hkind
    refine ad O (qi O O (bN ·))<|lc<|aG O (fun q=>?_) fun q=>?_
    ·refine xt O<|an<|aD<|mv O O<|ad O (bn O O) ?_
     refine ar O O<|ai ?_
     apply aU ((i+1))
     ·exact⟨by omega,fun j hj=>by rcases Nat.lt_or_ge j i with q2 | q2;exact hnoi j q2;(obtain rfl:j=i:=by omega);rw[pg,hfull];rfl⟩
     ·omega
     ·exact⟨O,O,O,O,O,O,O,O,trivial⟩
     exact en
    exact absurd rfl q
   | empty=>
    obtain⟨hv1,hv2⟩:=hvi (by rw[pg];show(!isFull (x.T.cells (8*gk (h / 128) x.n k+i)))=true;rw[hcc];rfl)
    refine aq<|an<|al<|aB<|al<|sr<|mv O O<|ad O (ae O)<|ad O (aE 19 O bT O O eH)<|ad O (aI O eI) ?_
    refine mv O O<|ad O (aL O O ef bV (by omega)) ?_
    refine ad O (aE 0 O cq O O aN) ?_
    apply ad O
    ·apply aT O aX
     ·exact tk
     exact hkind
    refine ad O (qi O O (bN ·))<|lc<|aG O (fun q=>?_) fun q=>?_
    ·exact absurd q (by decide)
    refine aq<|an<|al<|sr<|mv O O<|ad O (ae O)<|ad O (aE 19 O bT O O eH)<|ad O (aI O eI) ?_
    refine mv O O<|ad O (aL O O ef bV (by omega)) ?_
    refine ad O (aE 0 O cq O O aN) ?_
    apply ad O
    ·apply aT O aX
     ·exact tk
     exact hkind
    refine ad O (qi O O (bN ·))<|lc<|aG O (fun q2=>?_) fun q2=>?_
    ·refine al<|sr<|mv O O<|ad O (ae O)<|ad O (aE 13 O bT O O aN)<|ad O (aI O aX) ?_
     refine ad O (qi O O (bN ·))<|lc<|aG O (fun q3=>?_) fun q3=>?_
     ·skip
      have hput:eD x.n x.T h key elem birth=(3,x.T):=by
       unfold eD
       rw[hneg]
       simp only[hv1,hv2,dz]
       rw[if_neg (by omega),if_pos (.inr ⟨trivial,q3⟩)]
      rw[hput]
      refine sr<|ar O O<|ar O O<|lc<|rt ?_
      apply aR (.inl rfl) ([cz pr l x])
      ·apply cF O
       ·exact .tmp rfl
       exact .tmp rfl
      ·exact⟨rfl,rfl⟩
      refine bC (.slice (some ⟨g0,0,none⟩) (8*x.n) cap) ?_;(exact en)
     have hput:eD x.n x.T h key elem birth=(2,{x.T with used:=x.T.used+1,left:=x.T.left-1,cells:=cW x.T.cells (8*gk (h / 128) x.n k+i) (.full (h % 128) key elem birth)}):=by
      unfold eD
      rw[hneg]
      simp only[hv1,hv2,dz]
      rw[if_neg (by omega),if_neg (by omega)]
      simp only[Int.toNat_natCast,if_true]
     rw[hput]
     refine aq<|an<|aD<|mv O O<|ad O (ae O)<|ad O (aE 13 O bT O O aN)<|ad O (aI O aX) ?_
     refine ad O (eJ O O) ?_
     refine ad O (ae O)<|ad O (aE 13 O bT O O aN)<|st O O O aN O ?_
     refine lz<|mv O O<|ad O (ae O)<|ad O (aE 19 O bT O O eH)<|ad O (aI O eI) ?_
     refine mv O O<|mv O O<|ad O (iQ O O) ?_
     refine ad O (km O fv j5) ?_
     refine mv O O<|mv O O<|mv O O ?_
     apply ad O
     ·apply bp O j9 dF
      apply aP.one
      ·repeat (first | exact ba.here | apply ba.there)
      ·rfl
      ·exact sa
      apply aP.one
      ·repeat (first | exact ba.here | apply ba.there)
      ·rfl
      ·exact sa
      apply aP.one
      ·repeat (first | exact ba.here | apply ba.there)
      ·rfl
      ·exact sa
      apply aP.one
      ·repeat (first | exact ba.here | apply ba.there)
      ·rfl
      ·exact sa
      apply aP.one
      ·repeat (first | exact ba.here | apply ba.there)
      ·rfl
      ·exact sa
      exact aP.nil
     refine ad O (aL O O ef bV (by omega)) ?_
     refine jI (us:=cj (.full (h % 128) key elem birth)) rfl rfl rfl bV rfl rfl tk (by omega) hlay ?_
     refine lz<|mv O O<|ad O (ae O)<|ad O (aE 12 O bT O O aN)<|ad O (aI O aX) ?_
     refine ad O (bn O O) ?_
     refine ad O (ae O)<|ad O (aE 12 O bT O O aN)<|st O O O aN O ?_
     refine lz<|ar O O<|ar O O<|lc<|rt ?_
     apply aR (.inl rfl) ([cz pr l {x with T:={x.T with used:=x.T.used+1,left:=x.T.left-1,cells:=cW x.T.cells (8*gk (h / 128) x.n k+i) (.full (h % 128) key elem birth)}}])
     ·apply cF O
      ·exact .tmp rfl
      exact .tmp rfl
     ·exact⟨rfl,rfl⟩
     refine bC (.slice (some ⟨g0,0,none⟩) (8*x.n) cap) ?_;(exact en)
    exact absurd rfl q2
   | deleted=>
    obtain⟨hv1,hv2⟩:=hvi (by rw[pg];show(!isFull (x.T.cells (8*gk (h / 128) x.n k+i)))=true;rw[hcc];rfl)
    have hput:eD x.n x.T h key elem birth=(2,{x.T with used:=x.T.used+1,cells:=cW x.T.cells (8*gk (h / 128) x.n k+i) (.full (h % 128) key elem birth)}):=by
     unfold eD
     rw[hneg]
     simp only[hv1,hv2,dz]
     rw[if_neg (by omega),if_neg (by rintro(q9 | ⟨q9,_⟩);omega;cases q9)]
     simp only[Int.toNat_natCast,Bool.false_eq_true,if_false]
    rw[hput]
    refine aq<|an<|al<|aB<|al<|sr<|mv O O<|ad O (ae O)<|ad O (aE 19 O bT O O eH)<|ad O (aI O eI) ?_
    refine mv O O<|ad O (aL O O ef bV (by omega)) ?_
    refine ad O (aE 0 O cq O O aN) ?_
    apply ad O
    ·apply aT O aX
     ·exact tk
     exact hkind
    refine ad O (qi O O (bN ·))<|lc<|aG O (fun q=>?_) fun q=>?_
    ·exact absurd q (by decide)
    refine aq<|an<|al<|sr<|mv O O<|ad O (ae O)<|ad O (aE 19 O bT O O eH)<|ad O (aI O eI) ?_
    refine mv O O<|ad O (aL O O ef bV (by omega)) ?_
    refine ad O (aE 0 O cq O O aN) ?_
    apply ad O
    ·apply aT O aX
     ·exact tk
     exact hkind
    refine ad O (qi O O (bN ·))<|lc<|aG O (fun q2=>?_) fun q2=>?_
    ·exact absurd q2 (by decide)
    refine aq<|nz<|mv O O<|ad O (ae O)<|ad O (aE 19 O bT O O eH)<|ad O (aI O eI) ?_
    refine mv O O<|mv O O<|ad O (iQ O O) ?_
    refine ad O (km O fv j5) ?_
    refine mv O O<|mv O O<|mv O O ?_
    apply ad O
    ·apply bp O j9 dF
     apply aP.one
     ·repeat (first | exact ba.here | apply ba.there)
     ·rfl
     ·exact sa
     apply aP.one
     ·repeat (first | exact ba.here | apply ba.there)
     ·rfl
     ·exact sa
     apply aP.one
     ·repeat (first | exact ba.here | apply ba.there)
     ·rfl
     ·exact sa
     apply aP.one
     ·repeat (first | exact ba.here | apply ba.there)
     ·rfl
     ·exact sa
     apply aP.one
     ·repeat (first | exact ba.here | apply ba.there)
     ·rfl
     ·exact sa
     exact aP.nil
    refine ad O (aL O O ef bV (by omega)) ?_
    refine jI (us:=cj (.full (h % 128) key elem birth)) rfl rfl rfl bV rfl rfl tk (by omega) hlay ?_
    refine lz<|mv O O<|ad O (ae O)<|ad O (aE 12 O bT O O aN)<|ad O (aI O aX) ?_
    refine ad O (bn O O) ?_
    refine ad O (ae O)<|ad O (aE 12 O bT O O aN)<|st O O O aN O ?_
    refine lz<|ar O O<|ar O O<|lc<|rt ?_
    apply aR (.inl rfl) ([cz pr l {x with T:={x.T with used:=x.T.used+1,cells:=cW x.T.cells (8*gk (h / 128) x.n k+i) (.full (h % 128) key elem birth)}}])
    ·apply cF O
     ·exact .tmp rfl
     exact .tmp rfl
    ·exact⟨rfl,rfl⟩
    refine bC (.slice (some ⟨g0,0,none⟩) (8*x.n) cap) ?_;(exact en)
  obtain rfl:i=8:=by omega
  refine xt O<|bz<|an<|aD<|mv O O<|ad O (bn O O) ?_
  refine ar O O<|ai ?_
  apply aU ((k+1))
  ·exact⟨by omega,fun j hj=>by rcases Nat.lt_or_ge j k with q2 | q2;exact hnok j q2;(obtain rfl:j=k:=by omega);exact mK hnoi⟩
  ·omega
  ·exact⟨O,O,O,O,O,O,O,trivial⟩
  exact en
 obtain rfl:k=dT (h / 128) x.n x.T.cells:=by omega
 have hvn:=vac_no hnok
 have hput:eD x.n x.T h key elem birth=(3,x.T):=by
  unfold eD
  rw[hneg]
  simp only[hvn]
  rw[if_neg (by omega),if_pos (.inl (by omega))]
 rw[hput]
 refine xt O<|nz<|ar O O<|ar O O<|lc<|rt ?_
 apply aR (.inl rfl) ([cz pr l x])
 ·apply cF O
  ·exact .tmp rfl
  exact .tmp rfl
 ·exact⟨rfl,rfl⟩
 refine bC (.slice (some ⟨g0,0,none⟩) (8*x.n) cap) ?_;(exact en)
end
end RefT
end Go.Proofs.YthkajgkagnenbaaGreatDoor
