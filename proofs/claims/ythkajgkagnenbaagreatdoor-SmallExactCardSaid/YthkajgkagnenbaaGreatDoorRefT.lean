import Derived.Test.YthkajgkagnenbaaGreatDoorRefA
import Derived.Test.YthkajgkagnenbaaGreatDoorBytesP
set_option linter.unusedVariables false
set_option linter.unusedSimpArgs false
set_option linter.unusedSectionVars false
set_option maxRecDepth 100000
namespace Go.Proofs.YthkajgkagnenbaaGreatDoor
namespace RefT
open Go.RowKit Go.Proofs Eng Ty Bits Mem Search Arena CtrlB Layout GroupB Probe TableB TableI Table Cells Refill Exact RefA Ref03
@[reducible] def rtP (pr:Nat) (l:Lay) (x:PR) (v:Value):List HP:=[pt x.p (.cells #[.pointer (some ⟨pr,0,none⟩),.int .i64 l.key,.int .i64 l.elem,.int .i64 l.ka,.int .i64 l.ea,.int .i64 l.cap,.int .i64 l.eo,.int .i64 l.bo,.int .i64 l.slot,.int .i64 l.group,.int .i64 (x.off:Nat),.int .i64 (x.go:Nat),.int .i64 x.T.used,.int .i64 x.T.left,.int .i64 x.T.depth,.int .i64 x.T.pins,.int .i64 x.T.next,.bool (decide (x.T.kind=4)),.bool x.dead,v] 45 (0,0)),aE 142 5 v (8*x.n) (rowOf bI (bx x.T.cells (8*x.n)))]
def rtH (pr:Nat) (l:Lay) (x:PR):HP:=exP (fun _:Value=>True) (rtP pr l x)
theorem iF {c:Cx} {fin:Exit→Act→World→Prop} {ds:List Deferred} {E:Env} {ks:List KI} {pr:Nat} {l:Lay} {x:PR} {L M:List HP} {y:Code} (ht:Take (rtH pr l x) L M) (k:∀ v,TC c fin ds E (pt x.p (.cells #[.pointer (some ⟨pr,0,none⟩),.int .i64 l.key,.int .i64 l.elem,.int .i64 l.ka,.int .i64 l.ea,.int .i64 l.cap,.int .i64 l.eo,.int .i64 l.bo,.int .i64 l.slot,.int .i64 l.group,.int .i64 (x.off:Nat),.int .i64 (x.go:Nat),.int .i64 x.T.used,.int .i64 x.T.left,.int .i64 x.T.depth,.int .i64 x.T.pins,.int .i64 x.T.next,.bool (decide (x.T.kind=4)),.bool x.dead,v] 45 (0,0))::aE 142 5 v (8*x.n) (rowOf bI (bx x.T.cells (8*x.n)))::M) y ks):TC c fin ds E L y ks:=
 jw (X:=Value) (LL:=fun v=>rtP pr l x v ++ M) (fun w hs=>let ⟨v,_,h⟩:=bX.1 (hs.take ht);⟨v,h⟩) k
theorem zb {c:Cx} {fin:Exit→Act→World→Prop} {ds:List Deferred} {E:Env} {ks:List KI} {pr:Nat} {l:Lay} {x:PR} {L M:List HP} {ops:Array Oper} {y:List Oper} (ht:Take (rtH pr l x) L M) (k:∀ v,TL c fin ds E (pt x.p (.cells #[.pointer (some ⟨pr,0,none⟩),.int .i64 l.key,.int .i64 l.elem,.int .i64 l.ka,.int .i64 l.ea,.int .i64 l.cap,.int .i64 l.eo,.int .i64 l.bo,.int .i64 l.slot,.int .i64 l.group,.int .i64 (x.off:Nat),.int .i64 (x.go:Nat),.int .i64 x.T.used,.int .i64 x.T.left,.int .i64 x.T.depth,.int .i64 x.T.pins,.int .i64 x.T.next,.bool (decide (x.T.kind=4)),.bool x.dead,v] 45 (0,0))::aE 142 5 v (8*x.n) (rowOf bI (bx x.T.cells (8*x.n)))::M) ops y ks):TL c fin ds E L ops y ks:=
 rG (X:=Value) (LL:=fun v=>rtP pr l x v ++ M) (fun w hs=>let ⟨v,_,h⟩:=bX.1 (hs.take ht);⟨v,h⟩) k
theorem cQ {pr:Nat} {l:Lay} {x:PR} (v:Value) {L R:List HP} (he:Ent L (pt x.p (.cells #[.pointer (some ⟨pr,0,none⟩),.int .i64 l.key,.int .i64 l.elem,.int .i64 l.ka,.int .i64 l.ea,.int .i64 l.cap,.int .i64 l.eo,.int .i64 l.bo,.int .i64 l.slot,.int .i64 l.group,.int .i64 (x.off:Nat),.int .i64 (x.go:Nat),.int .i64 x.T.used,.int .i64 x.T.left,.int .i64 x.T.depth,.int .i64 x.T.pins,.int .i64 x.T.next,.bool (decide (x.T.kind=4)),.bool x.dead,v] 45 (0,0))::aE 142 5 v (8*x.n) (rowOf bI (bx x.T.cells (8*x.n)))::R)):Ent L (rtH pr l x::R):=fun w h=>bX.2 ⟨v,trivial,he w h⟩
theorem cells_row (cs:Nat→Cell) {N i:Nat} (h:i < N) (j:Nat) (hj:j < 5):(rowOf bI (bx cs N))[i*5+j]?=(bI (cs i))[j]?:=dy kE (bx cs N) i j (cs i) (fk h) hj
theorem ir (cs:Nat→Cell) {N i:Nat} (h:i < N) (c:Cell):(bx cs N).set i c=bx (bU cs i c) N:=by
 refine List.ext_getElem? fun j=>?_
 rw[List.getElem?_set]
 by_cases hj:j < N
 ·rw[fk hj]
  split
  ·next q=>subst q;simp only[fj,h,if_true];rw[fk h,fp]
  next q=>rw[fk hj,gi _ (Ne.symm q)]
 rw[List.getElem?_eq_none (by rw[fj];omega)]
 split
 ·next q=>subst q;omega
 rw[List.getElem?_eq_none (by rw[fj];omega)]
section
variable (pr:Nat) (l:Lay) (x:PR) (hn:x.n≤8192)
include hn
theorem tF (g:Nat) (hg:g < x.n):aG Tryz.prog 164 #[.pointer (some ⟨x.p,0,none⟩),.int .i64 (g:Nat)] [rtH pr l x] (fun v L=>v=.bool (decide (bB (fX (cy x.T.cells g)) < 8))∧L= [rtH pr l x]):=by
 refine aq F6 Tryz.func164 rfl rfl rfl fun Fr w0=>aR ?_
 refine iF .here fun vc=>?_
 refine cF (.there .here) fun _ hvc=>?_
 obtain⟨a0,cap,rfl,ha,_,_⟩:=hvc
 obtain⟨g0,rfl⟩:=ha (by omega)
 refine sr<|asg rfl rfl<|lc<|ah<|sr<|asg rfl rfl<|lc<|ay ?_
 refine bw (fun i:Nat=>i≤8∧∀ j,j < i→fX (cy x.T.cells g) j=false) (fun i=>[(0,.pointer (some ⟨x.p,0,none⟩)),(1,.int .i64 (g:Nat)),(5,.int .i64 (i:Nat))]) (fun _=>pt x.p (.cells #[.pointer (some ⟨pr,0,none⟩),.int .i64 l.key,.int .i64 l.elem,.int .i64 l.ka,.int .i64 l.ea,.int .i64 l.cap,.int .i64 l.eo,.int .i64 l.bo,.int .i64 l.slot,.int .i64 l.group,.int .i64 (x.off:Nat),.int .i64 (x.go:Nat),.int .i64 x.T.used,.int .i64 x.T.left,.int .i64 x.T.depth,.int .i64 x.T.pins,.int .i64 x.T.next,.bool (decide (x.T.kind=4)),.bool x.dead,(.slice (some ⟨g0,0,none⟩) (8*x.n) cap)] 45 (0,0))::aE 142 5 (.slice (some ⟨g0,0,none⟩) (8*x.n) cap) (8*x.n) (rowOf bI (bx x.T.cells (8*x.n)))::Fr) (fun i=>8-i) 0 ⟨Nat.zero_le _,fun j h=>by omega⟩ ⟨rfl,rfl,rfl,trivial⟩ (by(exact en)) ?_
 rintro i ⟨hi,hno⟩
 refine ah<|sr<|mv rfl rfl<|l_q rfl (qi rfl rfl (aS ·))<|lc<|aA rfl (fun h=>?_) fun h=>?_
 ·skip
  have hcell:(rowOf bI (bx x.T.cells (8*x.n)))[0+(8*((g:Nat):Int)+((i:Nat):Int)).toNat*5+0]?=some (.int .i64 (x.T.cells (8*g+i)).kind):=by
   rw[show 0+(8*((g:Nat):Int)+((i:Nat):Int)).toNat*5+0=(8*g+i)*5+0 by omega,cells_row x.T.cells (by omega) 0 (by decide)]
   rfl
  refine al<|ak<|ah<|ay<|sr<|mv rfl rfl<|l_q rfl (ad rfl)<|l_q rfl (qfa 19 rfl eh rfl rfl g7)<|l_q rfl (qld rfl g9) ?_
  refine mv rfl rfl<|l_q rfl (dD rfl rfl) ?_
  refine mv rfl rfl<|l_q rfl (ba rfl rfl) ?_
  refine l_q rfl (aU rfl rfl g6 bu (by omega)) ?_
  refine l_q rfl (qfa 0 rfl cO rfl rfl yS3) ?_
  apply l_q rfl
  ·apply bf rfl yA3
   ·exact tk
   exact hcell
  refine l_q rfl (qi rfl rfl (aW ·))<|lc<|aA rfl (fun q=>?_) fun q=>?_
  ·skip
   have he:fX (cy x.T.cells g) i=true:=by rw[oY];exact oM.1 q
   refine sr<|asg rfl rfl<|lc<|rt ?_
   apply aJ (.inl rfl) ([rtH pr l x])
   ·apply cM rfl
    exact .tmp rfl
   ·exact⟨by rw[decide_eq_true (oS (by omega) he)],rfl⟩
   refine cQ (.slice (some ⟨g0,0,none⟩) (8*x.n) cap) ?_;(exact en)
  refine al<|aV<|ak<|aB<|mv rfl rfl<|l_q rfl (ba rfl rfl) ?_
  refine asg rfl rfl<|aj ?_
  apply aO ((i+1))
  ·exact⟨by omega,fun j hj=>by rcases Nat.lt_or_ge j i with q2 | q2;exact hno j q2;(obtain rfl:j=i:=by omega);rw[oY];cases he:dZ (cy x.T.cells g j) with | false=>rfl | true=>exact absurd (oM.2 he) q⟩
  ·omega
  ·exact⟨rfl,rfl,rfl,trivial⟩
  exact en
 obtain rfl:i=8:=by omega
 refine xt rfl<|nz<|asg rfl rfl<|lc<|rt ?_
 apply aJ (.inl rfl) ([rtH pr l x])
 ·apply cM rfl
  exact .tmp rfl
 ·exact⟨by rw[decide_eq_false (iq hno)],rfl⟩
 refine cQ (.slice (some ⟨g0,0,none⟩) (8*x.n) cap) ?_;(exact en)
theorem AH (hn0:0 < x.n) (h:Int) (hh:0≤h∧h < 18446744073709551616):aG Tryz.prog 160 #[.pointer (some ⟨x.p,0,none⟩),.int .u64 h] [rtH pr l x] (fun v L=>L= [aE 3 1 v (dn (h / 128) x.n x.T.cells) (ints (j0 (h / 128) x.n (dn (h / 128) x.n x.T.cells))),rtH pr l x]):=by
 have hg0:=BZ (n:=x.n) (h / 128) hn0 (by omega)
 have hm1:=Int.emod_nonneg (h / 128) (show(x.n:Int)≠0 by omega)
 have hm2:=Int.emod_lt_of_pos (h / 128) (show(0:Int) < (x.n:Int) by omega)
 have h5:(((8*x.n:Nat):Int) / 8)=((x.n:Nat):Int):=by omega
 have h6:IntKind.i64.wrap ((IntKind.u64.wrap (h.tdiv 128)).tmod (((8*x.n:Nat):Int) / 8))=((gk (h / 128) x.n 0:Nat):Int):=by
  rw[h5,Int.tdiv_eq_ediv_of_nonneg hh.1,IntKind.wrap_u64,show h / 128 % 18446744073709551616=h / 128 by omega,Int.tmod_eq_emod_of_nonneg (by omega),hg0]
  exact wrap_i64 (by omega)
 refine aq F9 Tryz.func160 rfl rfl rfl fun Fr w0=>aR ?_
 refine iF .here fun vc=>?_
 refine cF (.there .here) fun _ hvc=>?_
 obtain⟨a0,cap,rfl,ha,_,_⟩:=hvc
 refine sr<|asg rfl rfl<|lz<|mv rfl rfl<|l_q rfl (ad rfl)<|l_q rfl (qfa 19 rfl eh rfl rfl g7)<|l_q rfl (qld rfl g9) ?_
 refine l_q rfl (ql rfl g6)<|l_q rfl (gH rfl rfl) ?_
 refine asg rfl rfl<|lz<|mv rfl rfl<|l_q rfl (gH rfl rfl) ?_
 refine mv rfl rfl<|l_q rfl (qcv rfl yU3 fB) ?_
 refine l_q rfl (iR rfl rfl) ?_
 refine l_q rfl (qcv rfl fB yU3) ?_
 refine asg rfl rfl<|lz<|asg rfl rfl<|lc<|ah<|sr<|asg rfl rfl<|lc<|ay ?_
 refine bw (fun y:Nat×Value=>y.1≤x.n∧∀ j,j < y.1→¬ ey (h / 128) x.n x.T.cells j < 8) (fun y=>[(0,.pointer (some ⟨x.p,0,none⟩)),(5,.int .i64 (x.n:Nat)),(6,.int .i64 (gk (h / 128) x.n y.1:Nat)),(7,y.2),(8,.int .i64 ((y.1+1:Nat):Int))]) (fun y=>aE 3 1 y.2 y.1 (ints (j0 (h / 128) x.n y.1))::rtH pr l x::Fr) (fun y=>x.n-y.1) (0,.slice none 0 0) ⟨Nat.zero_le _,fun j h=>by omega⟩ ⟨rfl,congrArg (fun z=>some (Value.int .i64 z)) h5,congrArg (fun z=>some (Value.int .i64 z)) h6,rfl,rfl,trivial⟩ (fun w h=>ew (cQ (.slice a0 (8*x.n) cap) (by(exact en)) w h)) ?_
 rintro⟨k,vw⟩ ⟨hk,hno⟩
 dsimp only at hk hno ⊢
 refine ah<|sr<|mv rfl rfl<|mv rfl rfl<|l_q rfl (qi rfl rfl (iv ·))<|lc<|aA rfl (fun h1=>?_) fun h1=>?_
 ·skip
  have hkl:k < x.n:=by omega
  have hgl:=oO (home:=h / 128) (k:=k) hn0
  have hgn:=B0 (n:=x.n) (h / 128) hn0 k
  have hro:ints (j0 (h / 128) x.n k) ++ #[Value.int .i64 (gk (h / 128) x.n k:Nat)].toList=ints (j0 (h / 128) x.n (k+1)):=by rw[wQ];simp[ints]
  refine al<|ak<|ah<|ay<|sr<|mv rfl rfl<|mv rfl rfl ?_
  refine aY [_] rfl rfl bn yS3 yZ3 rfl rfl rfl rfl (fun b28=>?_)
  apply dT (sz:=1) rfl rfl rfl bn yI3 rfl rfl
  ·exact tk
  ·exact tk
  ·rfl
  ·rfl
  ·simp only[maxLen];omega
  ·omega
  intro v29
  refine asg rfl rfl<|lc<|ah<|sr<|mv rfl rfl<|mv rfl rfl<|lc1 rfl rfl rfl (tF pr l x hn (gk (h / 128) x.n k) hgl) ?_
  refine lc<|aA rfl (fun q=>?_) fun q=>?_
  ·skip
   have hw:=sx hkl q hno
   rw[hro]
   refine sr<|mv rfl rfl<|asg rfl rfl<|lc<|rt ?_
   apply aJ (.inl rfl) ([aE 3 1 v29 (dn (h / 128) x.n x.T.cells) (ints (j0 (h / 128) x.n (dn (h / 128) x.n x.T.cells))),rtH pr l x])
   ·apply cM rfl
    exact .tmp rfl
   ·rfl
   rw[hw];(exact en)
  rw[hro]
  refine al<|ak<|aB<|mv rfl rfl<|mv rfl rfl<|l_q rfl (ba rfl rfl) ?_
  refine mv rfl rfl<|l_q rfl (iR rfl rfl) ?_
  refine asg rfl rfl<|aj<|aV<|ak<|aB<|mv rfl rfl<|l_q rfl (ba rfl rfl) ?_
  refine asg rfl rfl<|aj ?_
  apply aO ((k+1,v29))
  ·exact⟨by dsimp only;omega,fun j hj=>by rcases Nat.lt_or_ge j k with q2 | q2;exact hno j q2;(obtain rfl:j=k:=by dsimp only at hj;omega);exact fun h2=>q h2⟩
  ·dsimp only;omega
  ·exact⟨rfl,rfl,congrArg (fun z=>some (Value.int .i64 z)) hgn.symm,rfl,rfl,trivial⟩
  exact en
 obtain rfl:k=x.n:=by omega
 have hw:=pX hno
 refine xt rfl<|nz<|mv rfl rfl<|asg rfl rfl<|lc<|rt ?_
 apply aJ (.inl rfl) ([aE 3 1 vw (dn (h / 128) x.n x.T.cells) (ints (j0 (h / 128) x.n (dn (h / 128) x.n x.T.cells))),rtH pr l x])
 ·apply cM rfl
  exact .tmp rfl
 ·rfl
 rw[hw];(exact en)
def oW (l:Lay) (x:PR) (key:ByteArray):Int:=if x.dead then 24 else if(key.size:Int)≠l.key then 61 else 0
theorem xI (key:ByteArray):aG Tryz.prog 158 #[.pointer (some ⟨x.p,0,none⟩),.string key] [rtH pr l x] (fun v L=>v=.int .i64 (oW l x key)∧L= [rtH pr l x]):=by
 refine aq Gb Tryz.func158 rfl rfl rfl fun Fr w0=>aR ?_
 refine iF .here fun vc=>?_
 refine sr<|asg rfl rfl<|lc<|ah<|sr<|mv rfl rfl<|l_q rfl (ad rfl)<|l_q rfl (qfa 18 rfl eh rfl rfl yS4)<|l_q rfl (qld rfl yA4) ?_
 refine lc<|aA rfl (fun z=>?_) fun z=>?_
 ·refine sr<|asg rfl rfl<|lc<|rt ?_
  apply aJ (.inl rfl) ([rtH pr l x])
  ·apply cM rfl
   exact .tmp rfl
  ·exact⟨by unfold oW;rw[if_pos z],rfl⟩
  refine cQ vc ?_;(exact en)
 refine al<|ak<|ah<|sr<|mv rfl rfl<|l_q rfl (qls rfl yU9)<|mv rfl rfl<|l_q rfl (ad rfl)<|l_q rfl (qfa 1 rfl eh rfl rfl aZ)<|l_q rfl (qfa 0 rfl bJ rfl rfl yS3)<|l_q rfl (qld rfl yA3) ?_
 refine l_q rfl (qi rfl rfl (aI ·))<|lc<|aA rfl (fun y=>?_) fun y=>?_
 ·refine sr<|asg rfl rfl<|lc<|rt ?_
  apply aJ (.inl rfl) ([rtH pr l x])
  ·apply cM rfl
   exact .tmp rfl
  ·exact⟨by unfold oW;rw[if_neg (by simp[z]),if_pos y],rfl⟩
  refine cQ vc ?_;(exact en)
 refine al<|nz<|asg rfl rfl<|lc<|rt ?_
 apply aJ (.inl rfl) ([rtH pr l x])
 ·apply cM rfl
  exact .tmp rfl
 ·exact⟨by unfold oW;rw[if_neg (by simp[z]),if_neg y],rfl⟩
 refine cQ vc ?_;(exact en)
theorem rfind_ok (hn0:0 < x.n) (h:Int) (hh:0≤h∧h < 18446744073709551616) (key:ByteArray):aG Tryz.prog 159 #[.pointer (some ⟨x.p,0,none⟩),.int .u64 h,.string key] [rtH pr l x] (fun v L=>v=.tuple #[.int .i64 (bt (h / 128) x.n x.T.cells (h % 128) key).slot,.int .i64 (bt (h / 128) x.n x.T.cells (h % 128) key).probes]∧L= [rtH pr l x]):=by
 have hwle:=ra (h / 128) x.n x.T.cells
 refine aq Ga Tryz.func159 rfl rfl rfl fun Fr w0=>aR ?_
 refine sr<|asg rfl rfl<|asg rfl rfl<|lz<|mv rfl rfl<|mv rfl rfl<|lcf rfl rfl rfl (AH pr l x hn hn0 h hh) ?_
 rintro vw L' rfl
 refine bF ?_
 refine asg rfl rfl<|lz<|mv rfl rfl<|l_q rfl (iR rfl rfl) ?_
 refine l_q rfl (qcv rfl fB yU3) ?_
 refine asg rfl rfl<|lc<|ah<|sr<|asg rfl rfl<|lc<|ay ?_
 refine cF .here fun _ hvw=>?_
 obtain⟨aw,capw,rfl,haw,_,_⟩:=hvw
 refine iF (.there .here) fun vc=>?_
 refine cF (.there .here) fun _ hvc=>?_
 obtain⟨a0,cap,rfl,ha,_,_⟩:=hvc
 obtain⟨g0,rfl⟩:=ha (by omega)
 refine bw (fun k:Nat=>k≤dn (h / 128) x.n x.T.cells∧∀ j,j < k→¬ dU (h / 128) x.n x.T.cells (h % 128) key j < 8) (fun k=>[(0,.pointer (some ⟨x.p,0,none⟩)),(2,.string key),(8,.slice aw (dn (h / 128) x.n x.T.cells) capw),(9,.int .i64 (h % 128)),(10,.int .i64 (k:Nat))]) (fun _=>pt x.p (.cells #[.pointer (some ⟨pr,0,none⟩),.int .i64 l.key,.int .i64 l.elem,.int .i64 l.ka,.int .i64 l.ea,.int .i64 l.cap,.int .i64 l.eo,.int .i64 l.bo,.int .i64 l.slot,.int .i64 l.group,.int .i64 (x.off:Nat),.int .i64 (x.go:Nat),.int .i64 x.T.used,.int .i64 x.T.left,.int .i64 x.T.depth,.int .i64 x.T.pins,.int .i64 x.T.next,.bool (decide (x.T.kind=4)),.bool x.dead,(.slice (some ⟨g0,0,none⟩) (8*x.n) cap)] 45 (0,0))::aE 142 5 (.slice (some ⟨g0,0,none⟩) (8*x.n) cap) (8*x.n) (rowOf bI (bx x.T.cells (8*x.n)))::aE 3 1 (.slice aw (dn (h / 128) x.n x.T.cells) capw) (dn (h / 128) x.n x.T.cells) (ints (j0 (h / 128) x.n (dn (h / 128) x.n x.T.cells)))::Fr) (fun k=>dn (h / 128) x.n x.T.cells-k) 0 ⟨Nat.zero_le _,fun j h=>by omega⟩ ⟨rfl,rfl,rfl,rfl,rfl,trivial⟩ (by(exact en)) ?_
 rintro k ⟨hk,hnok⟩
 refine ah<|sr<|mv rfl rfl<|mv rfl rfl<|l_q rfl (ql rfl bn)<|l_q rfl (qi rfl rfl (aS ·))<|lc<|aA rfl (fun h1=>?_) fun h1=>?_
 ·skip
  have hkl:k < dn (h / 128) x.n x.T.cells:=by omega
  obtain⟨gw,rfl⟩:=haw (by omega)
  have hgl:=oO (home:=h / 128) (k:=k) hn0
  have hwk:(ints (j0 (h / 128) x.n (dn (h / 128) x.n x.T.cells)))[0+((k:Nat):Int).toNat]?=some (.int .i64 (gk (h / 128) x.n k:Nat)):=by
   rw[Nat.zero_add,Int.toNat_natCast];unfold ints;rw[List.getElem?_map,sy hkl];rfl
  refine al<|ak<|ah<|ay<|sr<|mv rfl rfl<|mv rfl rfl<|l_q rfl (ax rfl rfl bn yS3 (by omega)) ?_
  apply l_q rfl
  ·apply bf rfl yA3
   ·exact tk
   exact hwk
  refine l_q rfl (dD rfl rfl) ?_
  refine asg rfl rfl<|lc<|ay ?_
  refine bw (fun i:Nat=>i≤8∧∀ j,j < i→fa (cy x.T.cells (gk (h / 128) x.n k)) (h % 128) key j=false) (fun i=>[(0,.pointer (some ⟨x.p,0,none⟩)),(2,.string key),(8,.slice (some ⟨gw,0,none⟩) (dn (h / 128) x.n x.T.cells) capw),(9,.int .i64 (h % 128)),(10,.int .i64 (k:Nat)),(11,.int .i64 (8*((gk (h / 128) x.n k:Nat):Int)+(i:Nat)))]) (fun _=>pt x.p (.cells #[.pointer (some ⟨pr,0,none⟩),.int .i64 l.key,.int .i64 l.elem,.int .i64 l.ka,.int .i64 l.ea,.int .i64 l.cap,.int .i64 l.eo,.int .i64 l.bo,.int .i64 l.slot,.int .i64 l.group,.int .i64 (x.off:Nat),.int .i64 (x.go:Nat),.int .i64 x.T.used,.int .i64 x.T.left,.int .i64 x.T.depth,.int .i64 x.T.pins,.int .i64 x.T.next,.bool (decide (x.T.kind=4)),.bool x.dead,(.slice (some ⟨g0,0,none⟩) (8*x.n) cap)] 45 (0,0))::aE 142 5 (.slice (some ⟨g0,0,none⟩) (8*x.n) cap) (8*x.n) (rowOf bI (bx x.T.cells (8*x.n)))::aE 3 1 (.slice (some ⟨gw,0,none⟩) (dn (h / 128) x.n x.T.cells) capw) (dn (h / 128) x.n x.T.cells) (ints (j0 (h / 128) x.n (dn (h / 128) x.n x.T.cells)))::Fr) (fun i=>8-i) 0 ⟨Nat.zero_le _,fun j h=>by omega⟩ ⟨rfl,rfl,rfl,rfl,rfl,congrArg (fun z=>some (Value.int .i64 z)) (by omega),trivial⟩ (by(exact en)) ?_
  rintro i ⟨hi,hnoi⟩
  refine ah<|sr<|mv rfl rfl<|mv rfl rfl<|mv rfl rfl<|l_q rfl (ax rfl rfl bn yS3 (by omega)) ?_
  apply l_q rfl
  ·apply bf rfl yA3
   ·exact tk
   exact hwk
  refine l_q rfl (dD rfl rfl) ?_
  refine l_q rfl (ba rfl rfl) ?_
  refine l_q rfl (qi rfl rfl (aS ·))<|lc<|aA rfl (fun h2=>?_) fun h2=>?_
  ·skip
   have hcell:∀ j v,[Value.int .i64 (x.T.cells (8*gk (h / 128) x.n k+i)).kind,.int .i64 (x.T.cells (8*gk (h / 128) x.n k+i)).tagI,.string (x.T.cells (8*gk (h / 128) x.n k+i)).keyS,.string (x.T.cells (8*gk (h / 128) x.n k+i)).elemS,.int .i64 (x.T.cells (8*gk (h / 128) x.n k+i)).birthI][j]?=some v→cr (aE 142 5 (.slice (some ⟨g0,0,none⟩) (8*x.n) cap) (8*x.n) (rowOf bI (bx x.T.cells (8*x.n)))) ((⟨g0,0+(8*((gk (h / 128) x.n k:Nat):Int)+((i:Nat):Int)).toNat*5,none⟩:Addr).add j) v:=fun j v hv=>by
    have hj:j < 5:=by rcases Nat.lt_or_ge j 5 with q | q;exact q;rw[List.getElem?_eq_none (by simpa using q)] at hv;cases hv
    rw[cD,show 0+(8*((gk (h / 128) x.n k:Nat):Int)+((i:Nat):Int)).toNat*5+j=(8*gk (h / 128) x.n k+i)*5+j by omega]
    exact ko (by rw[cells_row x.T.cells (by omega) j hj];exact hv)
   refine al<|ak<|ah<|ay<|sr<|mv rfl rfl<|l_q rfl (ad rfl)<|l_q rfl (qfa 19 rfl eh rfl rfl g7)<|l_q rfl (qld rfl g9) ?_
   refine mv rfl rfl<|l_q rfl (aU rfl rfl g6 bu (by omega)) ?_
   apply l_q rfl
   ·apply eF (A:=aE 142 5 (.slice (some ⟨g0,0,none⟩) (8*x.n) cap) (8*x.n) (rowOf bI (bx x.T.cells (8*x.n)))) (us:=[.int .i64 (x.T.cells (8*gk (h / 128) x.n k+i)).kind,.int .i64 (x.T.cells (8*gk (h / 128) x.n k+i)).tagI,.string (x.T.cells (8*gk (h / 128) x.n k+i)).keyS,.string (x.T.cells (8*gk (h / 128) x.n k+i)).elemS,.int .i64 (x.T.cells (8*gk (h / 128) x.n k+i)).birthI]) rfl de bu rfl
    ·exact tk
    exact hcell
   refine az rfl cJ fun b12=>sta rfl rfl rfl bu rfl rfl ?_
   refine lz<|l_q rfl (qfa 0 rfl cO rfl rfl yS3)<|l_q rfl (qld rfl yA3) ?_
   refine l_q rfl (qi rfl rfl (aW ·))<|mv rfl rfl<|bE (t:=50) rfl (fun z1=>?_) fun z1=>?_
   ·refine au rfl rfl<|l_q rfl (qfa 1 rfl cO rfl rfl yS3)<|au rfl rfl<|l_q rfl (qld rfl yA3) ?_
    refine au rfl rfl<|mv rfl rfl<|au rfl rfl<|l_q rfl (qi rfl rfl (aW ·))<|l_q rfl (aL rfl rfl)<|mv rfl rfl<|bE (t:=56) rfl (fun z2=>?_) fun z2=>?_
    ·refine au rfl rfl<|l_q rfl (qfa 2 rfl cO rfl rfl yS9)<|au rfl rfl<|l_q rfl (qld rfl yA9) ?_
     refine au rfl rfl<|mv rfl rfl<|au rfl rfl<|l_q rfl (qs rfl rfl (lY ·))<|l_q rfl (aL rfl rfl)<|lc<|aA rfl (fun z3=>?_) fun z3=>?_
     ·skip
      have hhs:fa (cy x.T.cells (gk (h / 128) x.n k)) (h % 128) key i=true:=gB.2 ⟨z1,z2,z3⟩
      have hfe:dU (h / 128) x.n x.T.cells (h % 128) key k=i:=ji (by omega) hhs hnoi
      have hsr:=tN hkl (by rw[hfe];omega) hnok
      rw[hfe] at hsr
      refine sr<|mv rfl rfl<|mv rfl rfl<|l_q rfl (ba rfl rfl) ?_
      refine asg rfl rfl<|asg rfl rfl<|lc<|rt ?_
      apply aJ (.inl rfl) ([rtH pr l x])
      ·apply bT rfl
       ·exact .tmp rfl
       exact .tmp rfl
      ·exact⟨by rw[hsr],rfl⟩
      refine cQ (.slice (some ⟨g0,0,none⟩) (8*x.n) cap) ?_;(exact en)
     refine al<|aV<|ak<|aB<|mv rfl rfl<|l_q rfl (ba rfl rfl) ?_
     refine asg rfl rfl<|aj ?_
     apply aO ((i+1))
     ·exact⟨by omega,fun j hj=>by rcases Nat.lt_or_ge j i with q2 | q2;exact hnoi j q2;(obtain rfl:j=i:=by omega);cases hs:fa (cy x.T.cells (gk (h / 128) x.n k)) (h % 128) key j with | false=>rfl | true=>(obtain⟨a1,a2,a3⟩:=gB.1 hs;first | exact absurd a1 z1 | exact absurd a2 z2 | exact absurd a3 z3)⟩
     ·omega
     ·exact⟨rfl,rfl,rfl,rfl,rfl,rfl,trivial⟩
     exact en
    refine ar rfl rfl rfl rfl<|ar rfl rfl rfl rfl<|ar rfl rfl rfl rfl<|ar rfl rfl rfl rfl<|l_q rfl (aL rfl rfl)<|lc<|bQ rfl<|al<|aV<|ak<|aB<|mv rfl rfl<|l_q rfl (ba rfl rfl) ?_
    refine asg rfl rfl<|aj ?_
    apply aO ((i+1))
    ·exact⟨by omega,fun j hj=>by rcases Nat.lt_or_ge j i with q2 | q2;exact hnoi j q2;(obtain rfl:j=i:=by omega);cases hs:fa (cy x.T.cells (gk (h / 128) x.n k)) (h % 128) key j with | false=>rfl | true=>(obtain⟨a1,a2,a3⟩:=gB.1 hs;first | exact absurd a1 z1 | exact absurd a2 z2 | exact absurd a3 z3)⟩
    ·omega
    ·exact⟨rfl,rfl,rfl,rfl,rfl,rfl,trivial⟩
    exact en
   refine ar rfl rfl rfl rfl<|ar rfl rfl rfl rfl<|ar rfl rfl rfl rfl<|ar rfl rfl rfl rfl<|l_q rfl (aL rfl rfl)<|mv rfl rfl<|ar rfl rfl rfl rfl<|ar rfl rfl rfl rfl<|ar rfl rfl rfl rfl<|ar rfl rfl rfl rfl<|l_q rfl (aL rfl rfl)<|lc<|bQ rfl<|al<|aV<|ak<|aB<|mv rfl rfl<|l_q rfl (ba rfl rfl) ?_
   refine asg rfl rfl<|aj ?_
   apply aO ((i+1))
   ·exact⟨by omega,fun j hj=>by rcases Nat.lt_or_ge j i with q2 | q2;exact hnoi j q2;(obtain rfl:j=i:=by omega);cases hs:fa (cy x.T.cells (gk (h / 128) x.n k)) (h % 128) key j with | false=>rfl | true=>(obtain⟨a1,a2,a3⟩:=gB.1 hs;first | exact absurd a1 z1 | exact absurd a2 z2 | exact absurd a3 z3)⟩
   ·omega
   ·exact⟨rfl,rfl,rfl,rfl,rfl,rfl,trivial⟩
   exact en
  obtain rfl:i=8:=by omega
  refine xt rfl<|aV<|ak<|aB<|mv rfl rfl<|l_q rfl (ba rfl rfl) ?_
  refine asg rfl rfl<|aj ?_
  apply aO ((k+1))
  ·exact⟨by omega,fun j hj=>by rcases Nat.lt_or_ge j k with q2 | q2;exact hnok j q2;(obtain rfl:j=k:=by omega);exact iq hnoi⟩
  ·omega
  ·exact⟨rfl,rfl,rfl,rfl,rfl,trivial⟩
  exact en
 obtain rfl:k=dn (h / 128) x.n x.T.cells:=by omega
 have hsr:=wm hnok
 refine xt rfl<|nz<|mv rfl rfl<|l_q rfl (ql rfl bn)<|asg rfl rfl<|asg rfl rfl<|lc<|rt ?_
 apply aJ (.inl rfl) ([rtH pr l x])
 ·apply bT rfl
  ·exact .tmp rfl
  exact .tmp rfl
 ·exact⟨by rw[hsr],rfl⟩
 refine cQ (.slice (some ⟨g0,0,none⟩) (8*x.n) cap) ?_;(exact en)
theorem Ae (key:ByteArray) (he:¬ oW l x key=0):(x.dead=true∧oW l x key=24)∨(x.dead=false∧(key.size:Int)≠l.key∧oW l x key=61):=by
 unfold oW at *
 cases hd:x.dead with
 | true=>exact .inl ⟨rfl,by simp⟩
 | false=>
  by_cases hk:(key.size:Int)≠l.key
  ·exact .inr ⟨rfl,hk,by simp[hk]⟩
  rw[hd] at he
  simp[hk] at he
theorem xJ (key:ByteArray) (he:¬ oW l x key≠0):x.dead=false∧¬ (key.size:Int)≠l.key:=by
 unfold oW at he
 cases hd:x.dead with
 | true=>rw[hd] at he;simp at he
 | false=>
  rw[hd] at he
  by_cases hk:(key.size:Int)≠l.key
  ·rw[if_pos hk] at he;simp at he
  exact⟨rfl,hk⟩
theorem y7 (h:Int) (key:ByteArray) (hn0:0 < x.n) (hs:0≤(bt (h / 128) x.n x.T.cells (h % 128) key).slot):∃ k,k < 8*x.n∧(bt (h / 128) x.n x.T.cells (h % 128) key).slot=((k:Nat):Int)∧∃ e b,x.T.cells k=.full (h % 128) key e b:=by
 obtain⟨g,i,hg,hi,h2,h3⟩:=j8 (home:=h / 128) (cells:=x.T.cells) (tag:=h % 128) (key:=key) hn0 hs
 exact⟨8*g+i,by omega,h2,h3⟩
variable (hr:jV x.n x.T)
include hr
theorem Dm {g0 cap:Nat} {k:Nat} (hk:k < 8*x.n) (c:Cell):lay (rowOf bI (bx x.T.cells (8*x.n))) (k*5) (bI c)=rowOf bI (bx (bU x.T.cells k c) (8*x.n)):=by
 rw[mW kE (by rw[fj];exact hk),ir _ hk]
theorem Cn (hn0:0 < x.n) (h:Int) (hh:0≤h∧h < 18446744073709551616) (key elem:ByteArray) (birth:Int):aG Tryz.prog 81 #[.pointer (some ⟨x.p,0,none⟩),.int .u64 h,.string key,.string elem,.int .i64 birth] [rtH pr l x] (fun v L=>v=.tuple #[.int .i64 (mZ l x h key elem birth).1,.int .i64 (mZ l x h key elem birth).2.1]∧L= [rtH pr l {x with T:=(mZ l x h key elem birth).2.2}]):=by
 have hus:=hr.used
 have hl0:=hr.left0
 have hl1:=hr.left1
 have hcle:=rS isFull x.T.cells (8*x.n)
 have hwle:=ra (h / 128) x.n x.T.cells
 refine aq Hk Tryz.func81 rfl rfl rfl fun Fr w0=>aR ?_
 refine sr<|asg rfl rfl<|asg rfl rfl<|lz<|mv rfl rfl<|mv rfl rfl<|lc1 rfl rfl rfl (xI pr l x hn key) ?_
 refine asg rfl rfl<|lc<|ah<|sr<|mv rfl rfl<|l_q rfl (qi rfl rfl (aI ·))<|lc<|aA rfl (fun z0=>?_) fun z0=>?_
 ·skip
  have hp:mZ l x h key elem birth=(0,oW l x key,x.T):=by rcases Ae l x hn key z0 with⟨a1,a2⟩ | ⟨a1,a2,a3⟩ <;> unfold mZ <;> simp[*]
  rw[hp]
  exact sr<|mv rfl rfl<|asg rfl rfl<|asg rfl rfl<|lc<|rt<|fr2 rfl ([rtH pr l x]) (.tmp rfl) (.tmp rfl) ⟨rfl,rfl⟩
 obtain⟨hxd,hkey⟩:=xJ l x hn key z0
 refine iF .here fun vc=>?_
 refine al<|ak<|ah<|sr<|mv rfl rfl<|l_q rfl (qls rfl yU9)<|mv rfl rfl<|l_q rfl (ad rfl)<|l_q rfl (qfa 1 rfl eh rfl rfl aZ)<|l_q rfl (qfa 1 rfl bJ rfl rfl yS3)<|l_q rfl (qld rfl yA3) ?_
 refine l_q rfl (qi rfl rfl (aI ·))<|lc<|aA rfl (fun z1=>?_) fun z1=>?_
 ·skip
  have hp:mZ l x h key elem birth=(0,62,x.T):=by unfold mZ;simp only[hxd,if_neg hkey,Bool.false_eq_true,if_false,if_pos z1]
  rw[hp]
  refine sr<|asg rfl rfl<|asg rfl rfl<|lc<|rt ?_
  apply aJ (.inl rfl) ([rtH pr l x])
  ·apply bT rfl
   ·exact .tmp rfl
   exact .tmp rfl
  ·exact⟨rfl,rfl⟩
  refine cQ vc ?_;(exact en)
 refine al<|ak<|ah<|sr<|mv rfl rfl<|l_q rfl (qi rfl rfl (aS ·))<|lc<|aA rfl (fun z2=>?_) fun z2=>?_
 ·skip
  have hp:mZ l x h key elem birth=(0,64,x.T):=by unfold mZ;simp only[hxd,if_neg hkey,Bool.false_eq_true,if_false,if_neg z1,if_pos z2]
  rw[hp]
  refine sr<|asg rfl rfl<|asg rfl rfl<|lc<|rt ?_
  apply aJ (.inl rfl) ([rtH pr l x])
  ·apply bT rfl
   ·exact .tmp rfl
   exact .tmp rfl
  ·exact⟨rfl,rfl⟩
  refine cQ vc ?_;(exact en)
 have hp:mZ l x h key elem birth=((eO x.n x.T h key elem birth).1,0,(eO x.n x.T h key elem birth).2):=by unfold mZ;simp only[hxd,if_neg hkey,Bool.false_eq_true,if_false,if_neg z1,if_neg z2]
 rw[hp]
 refine fG (L':=rtH pr l x::Fr) (cQ vc (by(exact en))) ?_
 refine al<|nz<|mv rfl rfl<|mv rfl rfl<|mv rfl rfl<|lc1 rfl rfl rfl (rfind_ok pr l x hn hn0 h hh key) ?_
 refine mv rfl rfl<|l_q rfl (aa rfl ga) ?_
 refine l_q rfl (aa rfl ga) ?_
 refine asg rfl rfl<|asg rfl rfl<|lc<|ah<|sr<|mv rfl rfl<|l_q rfl (qi rfl rfl (gL ·))<|lc<|aA rfl (fun z3=>?_) fun z3=>?_
 ·skip
  obtain⟨k,hk,hks,e0,b0,hcf⟩:=y7 x hn h key hn0 z3
  have hput:eO x.n x.T h key elem birth=(1,{x.T with cells:=bU x.T.cells k (.full (h % 128) key elem b0)}):=by
   unfold eO
   rw[if_pos z3,hks,Int.toNat_natCast,hcf];rfl
  rw[hput,hks]
  refine iF .here fun vc=>?_
  refine cF (.there .here) fun _ hvc=>?_
  obtain⟨a0,cap,rfl,ha,_,_⟩:=hvc
  obtain⟨g0,rfl⟩:=ha (by omega)
  have hset:(rowOf bI (bx x.T.cells (8*x.n))).set (0+((k:Nat):Int).toNat*5+3) (.string elem)=rowOf bI (bx (bU x.T.cells k (.full (h % 128) key elem b0)) (8*x.n)):=by
   rw[Nat.zero_add,Int.toNat_natCast,fT kE (by decide) (bx x.T.cells (8*x.n)) k (x.T.cells k) (fk hk) (a':=.full (h % 128) key elem b0) (by rw[hcf];rfl),ir _ hk]
  refine sr<|mv rfl rfl<|l_q rfl (ad rfl)<|l_q rfl (qfa 19 rfl eh rfl rfl g7)<|l_q rfl (qld rfl g9) ?_
  refine mv rfl rfl<|mv rfl rfl<|l_q rfl (aU rfl rfl g6 bu (by omega)) ?_
  refine l_q rfl (qfa 3 rfl cO rfl rfl yS9) ?_
  refine dr rfl rfl rfl yS9 rfl tk (by omega) hset ?_
  refine lz<|asg rfl rfl<|asg rfl rfl<|lc<|rt ?_
  apply aJ (.inl rfl) ([rtH pr l {x with T:={x.T with cells:=bU x.T.cells k (.full (h % 128) key elem b0)}}])
  ·apply bT rfl
   ·exact .tmp rfl
   exact .tmp rfl
  ·exact⟨rfl,rfl⟩
  refine cQ (.slice (some ⟨g0,0,none⟩) (8*x.n) cap) ?_;(exact en)
 have hneg:=Ac (home:=h / 128) (n:=x.n) (cells:=x.T.cells) (tag:=h % 128) (key:=key) (by omega)
 refine al<|nz<|mv rfl rfl<|mv rfl rfl<|lcf rfl rfl rfl (AH pr l x hn hn0 h hh) ?_
 rintro vw L' rfl
 refine bF ?_
 refine asg rfl rfl<|lc<|ah<|sr<|asg rfl rfl<|lc<|ay ?_
 refine cF .here fun _ hvw=>?_
 obtain⟨aw,capw,rfl,haw,_,_⟩:=hvw
 refine iF (.there .here) fun vc=>?_
 refine cF (.there .here) fun _ hvc=>?_
 obtain⟨a0,cap,rfl,ha,_,_⟩:=hvc
 obtain⟨g0,rfl⟩:=ha (by omega)
 dsimp only
 refine bw (fun k:Nat=>k≤dn (h / 128) x.n x.T.cells∧∀ j,j < k→¬ cK (h / 128) x.n x.T.cells j < 8) (fun k=>[(0,.pointer (some ⟨x.p,0,none⟩)),(1,.int .u64 h),(2,.string key),(3,.string elem),(4,.int .i64 birth),(15,.slice aw (dn (h / 128) x.n x.T.cells) capw),(16,.int .i64 (k:Nat))]) (fun _=>pt x.p (.cells #[.pointer (some ⟨pr,0,none⟩),.int .i64 l.key,.int .i64 l.elem,.int .i64 l.ka,.int .i64 l.ea,.int .i64 l.cap,.int .i64 l.eo,.int .i64 l.bo,.int .i64 l.slot,.int .i64 l.group,.int .i64 (x.off:Nat),.int .i64 (x.go:Nat),.int .i64 x.T.used,.int .i64 x.T.left,.int .i64 x.T.depth,.int .i64 x.T.pins,.int .i64 x.T.next,.bool (decide (x.T.kind=4)),.bool x.dead,(.slice (some ⟨g0,0,none⟩) (8*x.n) cap)] 45 (0,0))::aE 142 5 (.slice (some ⟨g0,0,none⟩) (8*x.n) cap) (8*x.n) (rowOf bI (bx x.T.cells (8*x.n)))::aE 3 1 (.slice aw (dn (h / 128) x.n x.T.cells) capw) (dn (h / 128) x.n x.T.cells) (ints (j0 (h / 128) x.n (dn (h / 128) x.n x.T.cells)))::Fr) (fun k=>dn (h / 128) x.n x.T.cells-k) 0 ⟨Nat.zero_le _,fun j h=>by omega⟩ ⟨rfl,rfl,rfl,rfl,rfl,rfl,rfl,trivial⟩ (by(exact en)) ?_
 rintro k ⟨hk,hnok⟩
 refine ah<|sr<|mv rfl rfl<|mv rfl rfl<|l_q rfl (ql rfl bn)<|l_q rfl (qi rfl rfl (aS ·))<|lc<|aA rfl (fun h1=>?_) fun h1=>?_
 ·skip
  have hkl:k < dn (h / 128) x.n x.T.cells:=by omega
  obtain⟨gw,rfl⟩:=haw (by omega)
  have hgl:=oO (home:=h / 128) (k:=k) hn0
  have hwk:(ints (j0 (h / 128) x.n (dn (h / 128) x.n x.T.cells)))[0+((k:Nat):Int).toNat]?=some (.int .i64 (gk (h / 128) x.n k:Nat)):=by
   rw[Nat.zero_add,Int.toNat_natCast];unfold ints;rw[List.getElem?_map,sy hkl];rfl
  refine al<|ak<|ah<|ay<|sr<|mv rfl rfl<|mv rfl rfl<|l_q rfl (ax rfl rfl bn yS3 (by omega)) ?_
  apply l_q rfl
  ·apply bf rfl yA3
   ·exact tk
   exact hwk
  refine l_q rfl (dD rfl rfl) ?_
  refine asg rfl rfl<|lc<|ay ?_
  refine bw (fun i:Nat=>i≤8∧∀ j,j < i→eA (cy x.T.cells (gk (h / 128) x.n k)) j=false) (fun i=>[(0,.pointer (some ⟨x.p,0,none⟩)),(1,.int .u64 h),(2,.string key),(3,.string elem),(4,.int .i64 birth),(15,.slice (some ⟨gw,0,none⟩) (dn (h / 128) x.n x.T.cells) capw),(16,.int .i64 (k:Nat)),(17,.int .i64 (8*((gk (h / 128) x.n k:Nat):Int)+(i:Nat)))]) (fun _=>pt x.p (.cells #[.pointer (some ⟨pr,0,none⟩),.int .i64 l.key,.int .i64 l.elem,.int .i64 l.ka,.int .i64 l.ea,.int .i64 l.cap,.int .i64 l.eo,.int .i64 l.bo,.int .i64 l.slot,.int .i64 l.group,.int .i64 (x.off:Nat),.int .i64 (x.go:Nat),.int .i64 x.T.used,.int .i64 x.T.left,.int .i64 x.T.depth,.int .i64 x.T.pins,.int .i64 x.T.next,.bool (decide (x.T.kind=4)),.bool x.dead,(.slice (some ⟨g0,0,none⟩) (8*x.n) cap)] 45 (0,0))::aE 142 5 (.slice (some ⟨g0,0,none⟩) (8*x.n) cap) (8*x.n) (rowOf bI (bx x.T.cells (8*x.n)))::aE 3 1 (.slice (some ⟨gw,0,none⟩) (dn (h / 128) x.n x.T.cells) capw) (dn (h / 128) x.n x.T.cells) (ints (j0 (h / 128) x.n (dn (h / 128) x.n x.T.cells)))::Fr) (fun i=>8-i) 0 ⟨Nat.zero_le _,fun j h=>by omega⟩ ⟨rfl,rfl,rfl,rfl,rfl,rfl,rfl,congrArg (fun z=>some (Value.int .i64 z)) (by omega),trivial⟩ (by(exact en)) ?_
  rintro i ⟨hi,hnoi⟩
  refine ah<|sr<|mv rfl rfl<|mv rfl rfl<|mv rfl rfl<|l_q rfl (ax rfl rfl bn yS3 (by omega)) ?_
  apply l_q rfl
  ·apply bf rfl yA3
   ·exact tk
   exact hwk
  refine l_q rfl (dD rfl rfl) ?_
  refine l_q rfl (ba rfl rfl) ?_
  refine l_q rfl (qi rfl rfl (aS ·))<|lc<|aA rfl (fun h2=>?_) fun h2=>?_
  ·skip
   obtain⟨cc,hcc⟩:∃ cc,x.T.cells (8*gk (h / 128) x.n k+i)=cc:=⟨_,rfl⟩
   have hkind:(rowOf bI (bx x.T.cells (8*x.n)))[0+(8*((gk (h / 128) x.n k:Nat):Int)+((i:Nat):Int)).toNat*5+0]?=some (.int .i64 cc.kind):=by
    rw[show 0+(8*((gk (h / 128) x.n k:Nat):Int)+((i:Nat):Int)).toNat*5+0=(8*gk (h / 128) x.n k+i)*5+0 by omega,cells_row x.T.cells (by omega) 0 (by decide),hcc]
    rfl
   have hlay:lay (rowOf bI (bx x.T.cells (8*x.n))) (0+(8*((gk (h / 128) x.n k:Nat):Int)+((i:Nat):Int)).toNat*5) (bI (.full (h % 128) key elem birth))=rowOf bI (bx (bU x.T.cells (8*gk (h / 128) x.n k+i) (.full (h % 128) key elem birth)) (8*x.n)):=by
    rw[show 0+(8*((gk (h / 128) x.n k:Nat):Int)+((i:Nat):Int)).toNat*5=(8*gk (h / 128) x.n k+i)*5 by omega]
    exact Dm x hn hr (g0:=g0) (cap:=cap) (by omega) _
   have hvi:eA (cy x.T.cells (gk (h / 128) x.n k)) i=true→dK (h / 128) x.n x.T.cells (dn (h / 128) x.n x.T.cells)=((8*gk (h / 128) x.n k+i:Nat):Int)∧eD (h / 128) x.n x.T.cells (dn (h / 128) x.n x.T.cells)=dZ cc:=fun hv=>by
    have hfe:cK (h / 128) x.n x.T.cells k=i:=ji (by omega) hv hnoi
    obtain⟨e1,e2⟩:=Bp hkl (by rw[hfe];omega) hnok
    rw[hfe] at e1 e2
    exact⟨by rw[e1];omega,by rw[e2,oY,← hcc];rfl⟩
   cases cc with
   | full t0 k0 e0 b0=>
    have hfull:isFull (cy x.T.cells (gk (h / 128) x.n k) i)=true:=by show isFull (x.T.cells (8*gk (h / 128) x.n k+i))=true;rw[hcc];rfl
    refine al<|ak<|ah<|ay<|ah<|sr<|mv rfl rfl<|l_q rfl (ad rfl)<|l_q rfl (qfa 19 rfl eh rfl rfl g7)<|l_q rfl (qld rfl g9) ?_
    refine mv rfl rfl<|l_q rfl (aU rfl rfl g6 bu (by omega)) ?_
    refine l_q rfl (qfa 0 rfl cO rfl rfl yS3) ?_
    apply l_q rfl
    ·apply bf rfl yA3
     ·exact tk
     exact hkind
    refine l_q rfl (qi rfl rfl (aW ·))<|lc<|aA rfl (fun q=>?_) fun q=>?_
    ·refine xt rfl<|ak<|aB<|mv rfl rfl<|l_q rfl (ba rfl rfl) ?_
     refine asg rfl rfl<|aj ?_
     apply aO ((i+1))
     ·exact⟨by omega,fun j hj=>by rcases Nat.lt_or_ge j i with q2 | q2;exact hnoi j q2;(obtain rfl:j=i:=by omega);rw[iY,hfull];rfl⟩
     ·omega
     ·exact⟨rfl,rfl,rfl,rfl,rfl,rfl,rfl,rfl,trivial⟩
     exact en
    exact absurd rfl q
   | empty=>
    obtain⟨hv1,hv2⟩:=hvi (by rw[iY];show(!isFull (x.T.cells (8*gk (h / 128) x.n k+i)))=true;rw[hcc];rfl)
    refine al<|ak<|ah<|ay<|ah<|sr<|mv rfl rfl<|l_q rfl (ad rfl)<|l_q rfl (qfa 19 rfl eh rfl rfl g7)<|l_q rfl (qld rfl g9) ?_
    refine mv rfl rfl<|l_q rfl (aU rfl rfl g6 bu (by omega)) ?_
    refine l_q rfl (qfa 0 rfl cO rfl rfl yS3) ?_
    apply l_q rfl
    ·apply bf rfl yA3
     ·exact tk
     exact hkind
    refine l_q rfl (qi rfl rfl (aW ·))<|lc<|aA rfl (fun q=>?_) fun q=>?_
    ·exact absurd q (by decide)
    refine al<|ak<|ah<|sr<|mv rfl rfl<|l_q rfl (ad rfl)<|l_q rfl (qfa 19 rfl eh rfl rfl g7)<|l_q rfl (qld rfl g9) ?_
    refine mv rfl rfl<|l_q rfl (aU rfl rfl g6 bu (by omega)) ?_
    refine l_q rfl (qfa 0 rfl cO rfl rfl yS3) ?_
    apply l_q rfl
    ·apply bf rfl yA3
     ·exact tk
     exact hkind
    refine l_q rfl (qi rfl rfl (aW ·))<|lc<|aA rfl (fun q2=>?_) fun q2=>?_
    ·refine ah<|sr<|mv rfl rfl<|l_q rfl (ad rfl)<|l_q rfl (qfa 13 rfl eh rfl rfl yS3)<|l_q rfl (qld rfl yA3) ?_
     refine l_q rfl (qi rfl rfl (aW ·))<|lc<|aA rfl (fun q3=>?_) fun q3=>?_
     ·skip
      have hput:eO x.n x.T h key elem birth=(3,x.T):=by
       unfold eO
       rw[hneg]
       simp only[hv1,hv2,dZ]
       rw[if_neg (by omega),if_pos (.inr ⟨trivial,q3⟩)]
      rw[hput]
      refine sr<|asg rfl rfl<|asg rfl rfl<|lc<|rt ?_
      apply aJ (.inl rfl) ([rtH pr l x])
      ·apply bT rfl
       ·exact .tmp rfl
       exact .tmp rfl
      ·exact⟨rfl,rfl⟩
      refine cQ (.slice (some ⟨g0,0,none⟩) (8*x.n) cap) ?_;(exact en)
     have hput:eO x.n x.T h key elem birth=(2,{x.T with used:=x.T.used+1,left:=x.T.left-1,cells:=bU x.T.cells (8*gk (h / 128) x.n k+i) (.full (h % 128) key elem birth)}):=by
      unfold eO
      rw[hneg]
      simp only[hv1,hv2,dZ]
      rw[if_neg (by omega),if_neg (by omega)]
      simp only[Int.toNat_natCast,if_true]
     rw[hput]
     refine al<|ak<|aB<|mv rfl rfl<|l_q rfl (ad rfl)<|l_q rfl (qfa 13 rfl eh rfl rfl yS3)<|l_q rfl (qld rfl yA3) ?_
     refine l_q rfl (e9 rfl rfl) ?_
     refine l_q rfl (ad rfl)<|l_q rfl (qfa 13 rfl eh rfl rfl yS3)<|st rfl rfl rfl yS3 rfl ?_
     refine lz<|mv rfl rfl<|l_q rfl (ad rfl)<|l_q rfl (qfa 19 rfl eh rfl rfl g7)<|l_q rfl (qld rfl g9) ?_
     refine mv rfl rfl<|mv rfl rfl<|l_q rfl (iR rfl rfl) ?_
     refine l_q rfl (qcv rfl fB yU3) ?_
     refine mv rfl rfl<|mv rfl rfl<|mv rfl rfl ?_
     apply l_q rfl
     ·apply aQ rfl gj cJ
      apply aF.one
      ·repeat (first | exact aH.here | apply aH.there)
      ·rfl
      ·exact sa
      apply aF.one
      ·repeat (first | exact aH.here | apply aH.there)
      ·rfl
      ·exact sa
      apply aF.one
      ·repeat (first | exact aH.here | apply aH.there)
      ·rfl
      ·exact sa
      apply aF.one
      ·repeat (first | exact aH.here | apply aH.there)
      ·rfl
      ·exact sa
      apply aF.one
      ·repeat (first | exact aH.here | apply aH.there)
      ·rfl
      ·exact sa
      exact aF.nil
     refine l_q rfl (aU rfl rfl g6 bu (by omega)) ?_
     refine iG (us:=bI (.full (h % 128) key elem birth)) rfl rfl rfl bu rfl rfl tk (by omega) hlay ?_
     refine lz<|mv rfl rfl<|l_q rfl (ad rfl)<|l_q rfl (qfa 12 rfl eh rfl rfl yS3)<|l_q rfl (qld rfl yA3) ?_
     refine l_q rfl (ba rfl rfl) ?_
     refine l_q rfl (ad rfl)<|l_q rfl (qfa 12 rfl eh rfl rfl yS3)<|st rfl rfl rfl yS3 rfl ?_
     refine lz<|asg rfl rfl<|asg rfl rfl<|lc<|rt ?_
     apply aJ (.inl rfl) ([rtH pr l {x with T:={x.T with used:=x.T.used+1,left:=x.T.left-1,cells:=bU x.T.cells (8*gk (h / 128) x.n k+i) (.full (h % 128) key elem birth)}}])
     ·apply bT rfl
      ·exact .tmp rfl
      exact .tmp rfl
     ·exact⟨rfl,rfl⟩
     refine cQ (.slice (some ⟨g0,0,none⟩) (8*x.n) cap) ?_;(exact en)
    exact absurd rfl q2
   | deleted=>
    obtain⟨hv1,hv2⟩:=hvi (by rw[iY];show(!isFull (x.T.cells (8*gk (h / 128) x.n k+i)))=true;rw[hcc];rfl)
    have hput:eO x.n x.T h key elem birth=(2,{x.T with used:=x.T.used+1,cells:=bU x.T.cells (8*gk (h / 128) x.n k+i) (.full (h % 128) key elem birth)}):=by
     unfold eO
     rw[hneg]
     simp only[hv1,hv2,dZ]
     rw[if_neg (by omega),if_neg (by rintro(q9 | ⟨q9,_⟩);omega;cases q9)]
     simp only[Int.toNat_natCast,Bool.false_eq_true,if_false]
    rw[hput]
    refine al<|ak<|ah<|ay<|ah<|sr<|mv rfl rfl<|l_q rfl (ad rfl)<|l_q rfl (qfa 19 rfl eh rfl rfl g7)<|l_q rfl (qld rfl g9) ?_
    refine mv rfl rfl<|l_q rfl (aU rfl rfl g6 bu (by omega)) ?_
    refine l_q rfl (qfa 0 rfl cO rfl rfl yS3) ?_
    apply l_q rfl
    ·apply bf rfl yA3
     ·exact tk
     exact hkind
    refine l_q rfl (qi rfl rfl (aW ·))<|lc<|aA rfl (fun q=>?_) fun q=>?_
    ·exact absurd q (by decide)
    refine al<|ak<|ah<|sr<|mv rfl rfl<|l_q rfl (ad rfl)<|l_q rfl (qfa 19 rfl eh rfl rfl g7)<|l_q rfl (qld rfl g9) ?_
    refine mv rfl rfl<|l_q rfl (aU rfl rfl g6 bu (by omega)) ?_
    refine l_q rfl (qfa 0 rfl cO rfl rfl yS3) ?_
    apply l_q rfl
    ·apply bf rfl yA3
     ·exact tk
     exact hkind
    refine l_q rfl (qi rfl rfl (aW ·))<|lc<|aA rfl (fun q2=>?_) fun q2=>?_
    ·exact absurd q2 (by decide)
    refine al<|nz<|mv rfl rfl<|l_q rfl (ad rfl)<|l_q rfl (qfa 19 rfl eh rfl rfl g7)<|l_q rfl (qld rfl g9) ?_
    refine mv rfl rfl<|mv rfl rfl<|l_q rfl (iR rfl rfl) ?_
    refine l_q rfl (qcv rfl fB yU3) ?_
    refine mv rfl rfl<|mv rfl rfl<|mv rfl rfl ?_
    apply l_q rfl
    ·apply aQ rfl gj cJ
     apply aF.one
     ·repeat (first | exact aH.here | apply aH.there)
     ·rfl
     ·exact sa
     apply aF.one
     ·repeat (first | exact aH.here | apply aH.there)
     ·rfl
     ·exact sa
     apply aF.one
     ·repeat (first | exact aH.here | apply aH.there)
     ·rfl
     ·exact sa
     apply aF.one
     ·repeat (first | exact aH.here | apply aH.there)
     ·rfl
     ·exact sa
     apply aF.one
     ·repeat (first | exact aH.here | apply aH.there)
     ·rfl
     ·exact sa
     exact aF.nil
    refine l_q rfl (aU rfl rfl g6 bu (by omega)) ?_
    refine iG (us:=bI (.full (h % 128) key elem birth)) rfl rfl rfl bu rfl rfl tk (by omega) hlay ?_
    refine lz<|mv rfl rfl<|l_q rfl (ad rfl)<|l_q rfl (qfa 12 rfl eh rfl rfl yS3)<|l_q rfl (qld rfl yA3) ?_
    refine l_q rfl (ba rfl rfl) ?_
    refine l_q rfl (ad rfl)<|l_q rfl (qfa 12 rfl eh rfl rfl yS3)<|st rfl rfl rfl yS3 rfl ?_
    refine lz<|asg rfl rfl<|asg rfl rfl<|lc<|rt ?_
    apply aJ (.inl rfl) ([rtH pr l {x with T:={x.T with used:=x.T.used+1,cells:=bU x.T.cells (8*gk (h / 128) x.n k+i) (.full (h % 128) key elem birth)}}])
    ·apply bT rfl
     ·exact .tmp rfl
     exact .tmp rfl
    ·exact⟨rfl,rfl⟩
    refine cQ (.slice (some ⟨g0,0,none⟩) (8*x.n) cap) ?_;(exact en)
  obtain rfl:i=8:=by omega
  refine xt rfl<|aV<|ak<|aB<|mv rfl rfl<|l_q rfl (ba rfl rfl) ?_
  refine asg rfl rfl<|aj ?_
  apply aO ((k+1))
  ·exact⟨by omega,fun j hj=>by rcases Nat.lt_or_ge j k with q2 | q2;exact hnok j q2;(obtain rfl:j=k:=by omega);exact iq hnoi⟩
  ·omega
  ·exact⟨rfl,rfl,rfl,rfl,rfl,rfl,rfl,trivial⟩
  exact en
 obtain rfl:k=dn (h / 128) x.n x.T.cells:=by omega
 have hvn:=vac_no hnok
 have hput:eO x.n x.T h key elem birth=(3,x.T):=by
  unfold eO
  rw[hneg]
  simp only[hvn]
  rw[if_neg (by omega),if_pos (.inl (by omega))]
 rw[hput]
 refine xt rfl<|nz<|asg rfl rfl<|asg rfl rfl<|lc<|rt ?_
 apply aJ (.inl rfl) ([rtH pr l x])
 ·apply bT rfl
  ·exact .tmp rfl
  exact .tmp rfl
 ·exact⟨rfl,rfl⟩
 refine cQ (.slice (some ⟨g0,0,none⟩) (8*x.n) cap) ?_;(exact en)
end
end RefT
end Go.Proofs.YthkajgkagnenbaaGreatDoor
