import Derived.Test.YthkajgkagnenbaaGreatDoorRefA
import Derived.Test.YthkajgkagnenbaaGreatDoorBytesP
set_option linter.unusedVariables false
set_option linter.unusedSimpArgs false
set_option linter.unusedSectionVars false
set_option maxRecDepth 100000
namespace Go.Proofs.YthkajgkagnenbaaGreatDoor
namespace RefT
open Go.RowKit Go.Proofs Eng Ty Bits Mem Search Arena CtrlB Layout GroupB Probe TableB TableI Table Cells Refill Exact RefA Ref03
@[reducible] def rtP (pr:Nat) (l:Lay) (x:PR) (v:Value):List HP:=[pt x.p (.cells #[.pointer (some ⟨pr,0,none⟩),.int .i64 l.key,.int .i64 l.elem,.int .i64 l.ka,.int .i64 l.ea,.int .i64 l.cap,.int .i64 l.eo,.int .i64 l.bo,.int .i64 l.slot,.int .i64 l.group,.int .i64 (x.off:Nat),.int .i64 (x.go:Nat),.int .i64 x.T.used,.int .i64 x.T.left,.int .i64 x.T.depth,.int .i64 x.T.pins,.int .i64 x.T.next,.bool (decide (x.T.kind=4)),.bool x.dead,v] 45 (0,0)),aE 142 5 v (8*x.n) (rowOf bH (bu x.T.cells (8*x.n)))]
def rtH (pr:Nat) (l:Lay) (x:PR):HP:=exP (fun _:Value=>True) (rtP pr l x)
theorem iG {c:Cx} {fin:Exit→Act→World→Prop} {ds:List Deferred} {E:Env} {ks:List KI} {pr:Nat} {l:Lay} {x:PR} {L M:List HP} {y:Code} (ht:Take (rtH pr l x) L M) (k:∀ v,TC c fin ds E (pt x.p (.cells #[.pointer (some ⟨pr,0,none⟩),.int .i64 l.key,.int .i64 l.elem,.int .i64 l.ka,.int .i64 l.ea,.int .i64 l.cap,.int .i64 l.eo,.int .i64 l.bo,.int .i64 l.slot,.int .i64 l.group,.int .i64 (x.off:Nat),.int .i64 (x.go:Nat),.int .i64 x.T.used,.int .i64 x.T.left,.int .i64 x.T.depth,.int .i64 x.T.pins,.int .i64 x.T.next,.bool (decide (x.T.kind=4)),.bool x.dead,v] 45 (0,0))::aE 142 5 v (8*x.n) (rowOf bH (bu x.T.cells (8*x.n)))::M) y ks):TC c fin ds E L y ks:=
 jy (X:=Value) (LL:=fun v=>rtP pr l x v ++ M) (fun w hs=>let ⟨v,_,h⟩:=bZ.1 (hs.take ht);⟨v,h⟩) k
theorem zj {c:Cx} {fin:Exit→Act→World→Prop} {ds:List Deferred} {E:Env} {ks:List KI} {pr:Nat} {l:Lay} {x:PR} {L M:List HP} {ops:Array Oper} {y:List Oper} (ht:Take (rtH pr l x) L M) (k:∀ v,TL c fin ds E (pt x.p (.cells #[.pointer (some ⟨pr,0,none⟩),.int .i64 l.key,.int .i64 l.elem,.int .i64 l.ka,.int .i64 l.ea,.int .i64 l.cap,.int .i64 l.eo,.int .i64 l.bo,.int .i64 l.slot,.int .i64 l.group,.int .i64 (x.off:Nat),.int .i64 (x.go:Nat),.int .i64 x.T.used,.int .i64 x.T.left,.int .i64 x.T.depth,.int .i64 x.T.pins,.int .i64 x.T.next,.bool (decide (x.T.kind=4)),.bool x.dead,v] 45 (0,0))::aE 142 5 v (8*x.n) (rowOf bH (bu x.T.cells (8*x.n)))::M) ops y ks):TL c fin ds E L ops y ks:=
 rL (X:=Value) (LL:=fun v=>rtP pr l x v ++ M) (fun w hs=>let ⟨v,_,h⟩:=bZ.1 (hs.take ht);⟨v,h⟩) k
theorem cS {pr:Nat} {l:Lay} {x:PR} (v:Value) {L R:List HP} (he:Ent L (pt x.p (.cells #[.pointer (some ⟨pr,0,none⟩),.int .i64 l.key,.int .i64 l.elem,.int .i64 l.ka,.int .i64 l.ea,.int .i64 l.cap,.int .i64 l.eo,.int .i64 l.bo,.int .i64 l.slot,.int .i64 l.group,.int .i64 (x.off:Nat),.int .i64 (x.go:Nat),.int .i64 x.T.used,.int .i64 x.T.left,.int .i64 x.T.depth,.int .i64 x.T.pins,.int .i64 x.T.next,.bool (decide (x.T.kind=4)),.bool x.dead,v] 45 (0,0))::aE 142 5 v (8*x.n) (rowOf bH (bu x.T.cells (8*x.n)))::R)):Ent L (rtH pr l x::R):=fun w h=>bZ.2 ⟨v,trivial,he w h⟩
theorem cells_row (cs:Nat→Cell) {N i:Nat} (h:i < N) (j:Nat) (hj:j < 5):(rowOf bH (bu cs N))[i*5+j]?=(bH (cs i))[j]?:=dA kJ (bu cs N) i j (cs i) (fq h) hj
theorem iu (cs:Nat→Cell) {N i:Nat} (h:i < N) (c:Cell):(bu cs N).set i c=bu (bT cs i c) N:=by
 refine List.ext_getElem? fun j=>?_
 rw[List.getElem?_set]
 by_cases hj:j < N
 ·rw[fq hj]
  split
  ·next q=>subst q;simp only[fp,h,if_true];rw[fq h,fv]
  next q=>rw[fq hj,gj _ (Ne.symm q)]
 rw[List.getElem?_eq_none (by rw[fp];omega)]
 split
 ·next q=>subst q;omega
 rw[List.getElem?_eq_none (by rw[fp];omega)]
section
variable (pr:Nat) (l:Lay) (x:PR) (hn:x.n≤8192)
include hn
theorem tK (g:Nat) (hg:g < x.n):aG Tryz.prog 164 #[.pointer (some ⟨x.p,0,none⟩),.int .i64 (g:Nat)] [rtH pr l x] (fun v L=>v=.bool (decide (bA (fY (cD x.T.cells g)) < 8))∧L= [rtH pr l x]):=by
 refine aq Ge Tryz.func164 rfl rfl rfl fun Fr w0=>aR ?_
 refine iG .here fun vc=>?_
 refine cw (.there .here) fun _ hvc=>?_
 obtain⟨a0,cap,rfl,ha,_,_⟩:=hvc
 obtain⟨g0,rfl⟩:=ha (by omega)
 refine sr<|asg rfl rfl<|lc<|ah<|sr<|asg rfl rfl<|lc<|ax ?_
 refine bw (fun i:Nat=>i≤8∧∀ j,j < i→fY (cD x.T.cells g) j=false) (fun i=>[(0,.pointer (some ⟨x.p,0,none⟩)),(1,.int .i64 (g:Nat)),(5,.int .i64 (i:Nat))]) (fun _=>pt x.p (.cells #[.pointer (some ⟨pr,0,none⟩),.int .i64 l.key,.int .i64 l.elem,.int .i64 l.ka,.int .i64 l.ea,.int .i64 l.cap,.int .i64 l.eo,.int .i64 l.bo,.int .i64 l.slot,.int .i64 l.group,.int .i64 (x.off:Nat),.int .i64 (x.go:Nat),.int .i64 x.T.used,.int .i64 x.T.left,.int .i64 x.T.depth,.int .i64 x.T.pins,.int .i64 x.T.next,.bool (decide (x.T.kind=4)),.bool x.dead,(.slice (some ⟨g0,0,none⟩) (8*x.n) cap)] 45 (0,0))::aE 142 5 (.slice (some ⟨g0,0,none⟩) (8*x.n) cap) (8*x.n) (rowOf bH (bu x.T.cells (8*x.n)))::Fr) (fun i=>8-i) 0 ⟨Nat.zero_le _,fun j h=>by omega⟩ ⟨rfl,rfl,rfl,trivial⟩ (by(exact en)) ?_
 rintro i ⟨hi,hno⟩
 refine ah<|sr<|mv rfl rfl<|l_q rfl (qi rfl rfl (aU ·))<|lc<|aA rfl (fun h=>?_) fun h=>?_
 ·skip
  have hcell:(rowOf bH (bu x.T.cells (8*x.n)))[0+(8*((g:Nat):Int)+((i:Nat):Int)).toNat*5+0]?=some (.int .i64 (x.T.cells (8*g+i)).kind):=by
   rw[show 0+(8*((g:Nat):Int)+((i:Nat):Int)).toNat*5+0=(8*g+i)*5+0 by omega,cells_row x.T.cells (by omega) 0 (by decide)]
   rfl
  refine al<|ak<|ah<|ax<|sr<|mv rfl rfl<|l_q rfl (ad rfl)<|l_q rfl (qfa 19 rfl ep rfl rfl gQ)<|l_q rfl (qld rfl gR) ?_
  refine mv rfl rfl<|l_q rfl (dF rfl rfl) ?_
  refine mv rfl rfl<|l_q rfl (ba rfl rfl) ?_
  refine l_q rfl (aT rfl rfl g9 bx (by omega)) ?_
  refine l_q rfl (qfa 0 rfl cQ rfl rfl yS3) ?_
  apply l_q rfl
  ·apply bf rfl yA3
   ·exact tk
   exact hcell
  refine l_q rfl (qi rfl rfl (aZ ·))<|lc<|aA rfl (fun q=>?_) fun q=>?_
  ·skip
   have he:fY (cD x.T.cells g) i=true:=by rw[o0];exact oP.1 q
   refine sr<|asg rfl rfl<|lc<|rt ?_
   apply aJ (.inl rfl) ([rtH pr l x])
   ·apply cO rfl
    exact .tmp rfl
   ·exact⟨by rw[decide_eq_true (oV (by omega) he)],rfl⟩
   refine cS (.slice (some ⟨g0,0,none⟩) (8*x.n) cap) ?_;(exact en)
  refine al<|aV<|ak<|aB<|mv rfl rfl<|l_q rfl (ba rfl rfl) ?_
  refine asg rfl rfl<|aj ?_
  apply aO ((i+1))
  ·exact⟨by omega,fun j hj=>by rcases Nat.lt_or_ge j i with q2 | q2;exact hno j q2;(obtain rfl:j=i:=by omega);rw[o0];cases he:ed (cD x.T.cells g j) with | false=>rfl | true=>exact absurd (oP.2 he) q⟩
  ·omega
  ·exact⟨rfl,rfl,rfl,trivial⟩
  exact en
 obtain rfl:i=8:=by omega
 refine xt rfl<|nz<|asg rfl rfl<|lc<|rt ?_
 apply aJ (.inl rfl) ([rtH pr l x])
 ·apply cO rfl
  exact .tmp rfl
 ·exact⟨by rw[decide_eq_false (ir hno)],rfl⟩
 refine cS (.slice (some ⟨g0,0,none⟩) (8*x.n) cap) ?_;(exact en)
theorem AO (hn0:0 < x.n) (h:Int) (hh:0≤h∧h < 18446744073709551616):aG Tryz.prog 160 #[.pointer (some ⟨x.p,0,none⟩),.int .u64 h] [rtH pr l x] (fun v L=>L= [aE 3 1 v (dm (h / 128) x.n x.T.cells) (ints (j5 (h / 128) x.n (dm (h / 128) x.n x.T.cells))),rtH pr l x]):=by
 have hg0:=B9 (n:=x.n) (h / 128) hn0 (by omega)
 have hm1:=Int.emod_nonneg (h / 128) (show(x.n:Int)≠0 by omega)
 have hm2:=Int.emod_lt_of_pos (h / 128) (show(0:Int) < (x.n:Int) by omega)
 have h5:(((8*x.n:Nat):Int) / 8)=((x.n:Nat):Int):=by omega
 have h6:IntKind.i64.wrap ((IntKind.u64.wrap (h.tdiv 128)).tmod (((8*x.n:Nat):Int) / 8))=((gk (h / 128) x.n 0:Nat):Int):=by
  rw[h5,Int.tdiv_eq_ediv_of_nonneg hh.1,IntKind.wrap_u64,show h / 128 % 18446744073709551616=h / 128 by omega,Int.tmod_eq_emod_of_nonneg (by omega),hg0]
  exact wrap_i64 (by omega)
 refine aq Gh Tryz.func160 rfl rfl rfl fun Fr w0=>aR ?_
 refine iG .here fun vc=>?_
 refine cw (.there .here) fun _ hvc=>?_
 obtain⟨a0,cap,rfl,ha,_,_⟩:=hvc
 refine sr<|asg rfl rfl<|lz<|mv rfl rfl<|l_q rfl (ad rfl)<|l_q rfl (qfa 19 rfl ep rfl rfl gQ)<|l_q rfl (qld rfl gR) ?_
 refine l_q rfl (ql rfl g9)<|l_q rfl (gI rfl rfl) ?_
 refine asg rfl rfl<|lz<|mv rfl rfl<|l_q rfl (gI rfl rfl) ?_
 refine mv rfl rfl<|l_q rfl (qcv rfl yU3 fF) ?_
 refine l_q rfl (iT rfl rfl) ?_
 refine l_q rfl (qcv rfl fF yU3) ?_
 refine asg rfl rfl<|lz<|asg rfl rfl<|lc<|ah<|sr<|asg rfl rfl<|lc<|ax ?_
 refine bw (fun y:Nat×Value=>y.1≤x.n∧∀ j,j < y.1→¬ eC (h / 128) x.n x.T.cells j < 8) (fun y=>[(0,.pointer (some ⟨x.p,0,none⟩)),(5,.int .i64 (x.n:Nat)),(6,.int .i64 (gk (h / 128) x.n y.1:Nat)),(7,y.2),(8,.int .i64 ((y.1+1:Nat):Int))]) (fun y=>aE 3 1 y.2 y.1 (ints (j5 (h / 128) x.n y.1))::rtH pr l x::Fr) (fun y=>x.n-y.1) (0,.slice none 0 0) ⟨Nat.zero_le _,fun j h=>by omega⟩ ⟨rfl,congrArg (fun z=>some (Value.int .i64 z)) h5,congrArg (fun z=>some (Value.int .i64 z)) h6,rfl,rfl,trivial⟩ (fun w h=>eh (cS (.slice a0 (8*x.n) cap) (by(exact en)) w h)) ?_
 rintro⟨k,vw⟩ ⟨hk,hno⟩
 dsimp only at hk hno ⊢
 refine ah<|sr<|mv rfl rfl<|mv rfl rfl<|l_q rfl (qi rfl rfl (iw ·))<|lc<|aA rfl (fun h1=>?_) fun h1=>?_
 ·skip
  have hkl:k < x.n:=by omega
  have hgl:=oR (home:=h / 128) (k:=k) hn0
  have hgn:=Ca (n:=x.n) (h / 128) hn0 k
  have hro:ints (j5 (h / 128) x.n k) ++ #[Value.int .i64 (gk (h / 128) x.n k:Nat)].toList=ints (j5 (h / 128) x.n (k+1)):=by rw[wX];simp[ints]
  refine al<|ak<|ah<|ax<|sr<|mv rfl rfl<|mv rfl rfl ?_
  refine aW [_] rfl rfl bn yS3 yZ3 rfl rfl rfl rfl (fun b28=>?_)
  apply dV (sz:=1) rfl rfl rfl bn yI3 rfl rfl
  ·exact tk
  ·exact tk
  ·rfl
  ·rfl
  ·simp only[maxLen];omega
  ·omega
  intro v29
  refine asg rfl rfl<|lc<|ah<|sr<|mv rfl rfl<|mv rfl rfl<|lc1 rfl rfl rfl (tK pr l x hn (gk (h / 128) x.n k) hgl) ?_
  refine lc<|aA rfl (fun q=>?_) fun q=>?_
  ·skip
   have hw:=sF hkl q hno
   rw[hro]
   refine sr<|mv rfl rfl<|asg rfl rfl<|lc<|rt ?_
   apply aJ (.inl rfl) ([aE 3 1 v29 (dm (h / 128) x.n x.T.cells) (ints (j5 (h / 128) x.n (dm (h / 128) x.n x.T.cells))),rtH pr l x])
   ·apply cO rfl
    exact .tmp rfl
   ·rfl
   rw[hw];(exact en)
  rw[hro]
  refine al<|ak<|aB<|mv rfl rfl<|mv rfl rfl<|l_q rfl (ba rfl rfl) ?_
  refine mv rfl rfl<|l_q rfl (iT rfl rfl) ?_
  refine asg rfl rfl<|aj<|aV<|ak<|aB<|mv rfl rfl<|l_q rfl (ba rfl rfl) ?_
  refine asg rfl rfl<|aj ?_
  apply aO ((k+1,v29))
  ·exact⟨by dsimp only;omega,fun j hj=>by rcases Nat.lt_or_ge j k with q2 | q2;exact hno j q2;(obtain rfl:j=k:=by dsimp only at hj;omega);exact fun h2=>q h2⟩
  ·dsimp only;omega
  ·exact⟨rfl,rfl,congrArg (fun z=>some (Value.int .i64 z)) hgn.symm,rfl,rfl,trivial⟩
  exact en
 obtain rfl:k=x.n:=by omega
 have hw:=pY hno
 refine xt rfl<|nz<|mv rfl rfl<|asg rfl rfl<|lc<|rt ?_
 apply aJ (.inl rfl) ([aE 3 1 vw (dm (h / 128) x.n x.T.cells) (ints (j5 (h / 128) x.n (dm (h / 128) x.n x.T.cells))),rtH pr l x])
 ·apply cO rfl
  exact .tmp rfl
 ·rfl
 rw[hw];(exact en)
def oZ (l:Lay) (x:PR) (key:ByteArray):Int:=if x.dead then 24 else if(key.size:Int)≠l.key then 61 else 0
theorem xO (key:ByteArray):aG Tryz.prog 158 #[.pointer (some ⟨x.p,0,none⟩),.string key] [rtH pr l x] (fun v L=>v=.int .i64 (oZ l x key)∧L= [rtH pr l x]):=by
 refine aq Gj Tryz.func158 rfl rfl rfl fun Fr w0=>aR ?_
 refine iG .here fun vc=>?_
 refine sr<|asg rfl rfl<|lc<|ah<|sr<|mv rfl rfl<|l_q rfl (ad rfl)<|l_q rfl (qfa 18 rfl ep rfl rfl yS4)<|l_q rfl (qld rfl yA4) ?_
 refine lc<|aA rfl (fun z=>?_) fun z=>?_
 ·refine sr<|asg rfl rfl<|lc<|rt ?_
  apply aJ (.inl rfl) ([rtH pr l x])
  ·apply cO rfl
   exact .tmp rfl
  ·exact⟨by unfold oZ;rw[if_pos z],rfl⟩
  refine cS vc ?_;(exact en)
 refine al<|ak<|ah<|sr<|mv rfl rfl<|l_q rfl (qls rfl yU9)<|mv rfl rfl<|l_q rfl (ad rfl)<|l_q rfl (qfa 1 rfl ep rfl rfl aX)<|l_q rfl (qfa 0 rfl bK rfl rfl yS3)<|l_q rfl (qld rfl yA3) ?_
 refine l_q rfl (qi rfl rfl (aI ·))<|lc<|aA rfl (fun y=>?_) fun y=>?_
 ·refine sr<|asg rfl rfl<|lc<|rt ?_
  apply aJ (.inl rfl) ([rtH pr l x])
  ·apply cO rfl
   exact .tmp rfl
  ·exact⟨by unfold oZ;rw[if_neg (by simp[z]),if_pos y],rfl⟩
  refine cS vc ?_;(exact en)
 refine al<|nz<|asg rfl rfl<|lc<|rt ?_
 apply aJ (.inl rfl) ([rtH pr l x])
 ·apply cO rfl
  exact .tmp rfl
 ·exact⟨by unfold oZ;rw[if_neg (by simp[z]),if_neg y],rfl⟩
 refine cS vc ?_;(exact en)
theorem rfind_ok (hn0:0 < x.n) (h:Int) (hh:0≤h∧h < 18446744073709551616) (key:ByteArray):aG Tryz.prog 159 #[.pointer (some ⟨x.p,0,none⟩),.int .u64 h,.string key] [rtH pr l x] (fun v L=>v=.tuple #[.int .i64 (br (h / 128) x.n x.T.cells (h % 128) key).slot,.int .i64 (br (h / 128) x.n x.T.cells (h % 128) key).probes]∧L= [rtH pr l x]):=by
 have hwle:=rj (h / 128) x.n x.T.cells
 refine aq Gi Tryz.func159 rfl rfl rfl fun Fr w0=>aR ?_
 refine sr<|asg rfl rfl<|asg rfl rfl<|lz<|mv rfl rfl<|mv rfl rfl<|lcf rfl rfl rfl (AO pr l x hn hn0 h hh) ?_
 rintro vw L' rfl
 refine bF ?_
 refine asg rfl rfl<|lz<|mv rfl rfl<|l_q rfl (iT rfl rfl) ?_
 refine l_q rfl (qcv rfl fF yU3) ?_
 refine asg rfl rfl<|lc<|ah<|sr<|asg rfl rfl<|lc<|ax ?_
 refine cw .here fun _ hvw=>?_
 obtain⟨aw,capw,rfl,haw,_,_⟩:=hvw
 refine iG (.there .here) fun vc=>?_
 refine cw (.there .here) fun _ hvc=>?_
 obtain⟨a0,cap,rfl,ha,_,_⟩:=hvc
 obtain⟨g0,rfl⟩:=ha (by omega)
 refine bw (fun k:Nat=>k≤dm (h / 128) x.n x.T.cells∧∀ j,j < k→¬ dW (h / 128) x.n x.T.cells (h % 128) key j < 8) (fun k=>[(0,.pointer (some ⟨x.p,0,none⟩)),(2,.string key),(8,.slice aw (dm (h / 128) x.n x.T.cells) capw),(9,.int .i64 (h % 128)),(10,.int .i64 (k:Nat))]) (fun _=>pt x.p (.cells #[.pointer (some ⟨pr,0,none⟩),.int .i64 l.key,.int .i64 l.elem,.int .i64 l.ka,.int .i64 l.ea,.int .i64 l.cap,.int .i64 l.eo,.int .i64 l.bo,.int .i64 l.slot,.int .i64 l.group,.int .i64 (x.off:Nat),.int .i64 (x.go:Nat),.int .i64 x.T.used,.int .i64 x.T.left,.int .i64 x.T.depth,.int .i64 x.T.pins,.int .i64 x.T.next,.bool (decide (x.T.kind=4)),.bool x.dead,(.slice (some ⟨g0,0,none⟩) (8*x.n) cap)] 45 (0,0))::aE 142 5 (.slice (some ⟨g0,0,none⟩) (8*x.n) cap) (8*x.n) (rowOf bH (bu x.T.cells (8*x.n)))::aE 3 1 (.slice aw (dm (h / 128) x.n x.T.cells) capw) (dm (h / 128) x.n x.T.cells) (ints (j5 (h / 128) x.n (dm (h / 128) x.n x.T.cells)))::Fr) (fun k=>dm (h / 128) x.n x.T.cells-k) 0 ⟨Nat.zero_le _,fun j h=>by omega⟩ ⟨rfl,rfl,rfl,rfl,rfl,trivial⟩ (by(exact en)) ?_
 rintro k ⟨hk,hnok⟩
 refine ah<|sr<|mv rfl rfl<|mv rfl rfl<|l_q rfl (ql rfl bn)<|l_q rfl (qi rfl rfl (aU ·))<|lc<|aA rfl (fun h1=>?_) fun h1=>?_
 ·skip
  have hkl:k < dm (h / 128) x.n x.T.cells:=by omega
  obtain⟨gw,rfl⟩:=haw (by omega)
  have hgl:=oR (home:=h / 128) (k:=k) hn0
  have hwk:(ints (j5 (h / 128) x.n (dm (h / 128) x.n x.T.cells)))[0+((k:Nat):Int).toNat]?=some (.int .i64 (gk (h / 128) x.n k:Nat)):=by
   rw[Nat.zero_add,Int.toNat_natCast];unfold ints;rw[List.getElem?_map,sG hkl];rfl
  refine al<|ak<|ah<|ax<|sr<|mv rfl rfl<|mv rfl rfl<|l_q rfl (ay rfl rfl bn yS3 (by omega)) ?_
  apply l_q rfl
  ·apply bf rfl yA3
   ·exact tk
   exact hwk
  refine l_q rfl (dF rfl rfl) ?_
  refine asg rfl rfl<|lc<|ax ?_
  refine bw (fun i:Nat=>i≤8∧∀ j,j < i→fh (cD x.T.cells (gk (h / 128) x.n k)) (h % 128) key j=false) (fun i=>[(0,.pointer (some ⟨x.p,0,none⟩)),(2,.string key),(8,.slice (some ⟨gw,0,none⟩) (dm (h / 128) x.n x.T.cells) capw),(9,.int .i64 (h % 128)),(10,.int .i64 (k:Nat)),(11,.int .i64 (8*((gk (h / 128) x.n k:Nat):Int)+(i:Nat)))]) (fun _=>pt x.p (.cells #[.pointer (some ⟨pr,0,none⟩),.int .i64 l.key,.int .i64 l.elem,.int .i64 l.ka,.int .i64 l.ea,.int .i64 l.cap,.int .i64 l.eo,.int .i64 l.bo,.int .i64 l.slot,.int .i64 l.group,.int .i64 (x.off:Nat),.int .i64 (x.go:Nat),.int .i64 x.T.used,.int .i64 x.T.left,.int .i64 x.T.depth,.int .i64 x.T.pins,.int .i64 x.T.next,.bool (decide (x.T.kind=4)),.bool x.dead,(.slice (some ⟨g0,0,none⟩) (8*x.n) cap)] 45 (0,0))::aE 142 5 (.slice (some ⟨g0,0,none⟩) (8*x.n) cap) (8*x.n) (rowOf bH (bu x.T.cells (8*x.n)))::aE 3 1 (.slice (some ⟨gw,0,none⟩) (dm (h / 128) x.n x.T.cells) capw) (dm (h / 128) x.n x.T.cells) (ints (j5 (h / 128) x.n (dm (h / 128) x.n x.T.cells)))::Fr) (fun i=>8-i) 0 ⟨Nat.zero_le _,fun j h=>by omega⟩ ⟨rfl,rfl,rfl,rfl,rfl,congrArg (fun z=>some (Value.int .i64 z)) (by omega),trivial⟩ (by(exact en)) ?_
  rintro i ⟨hi,hnoi⟩
  refine ah<|sr<|mv rfl rfl<|mv rfl rfl<|mv rfl rfl<|l_q rfl (ay rfl rfl bn yS3 (by omega)) ?_
  apply l_q rfl
  ·apply bf rfl yA3
   ·exact tk
   exact hwk
  refine l_q rfl (dF rfl rfl) ?_
  refine l_q rfl (ba rfl rfl) ?_
  refine l_q rfl (qi rfl rfl (aU ·))<|lc<|aA rfl (fun h2=>?_) fun h2=>?_
  ·skip
   have hcell:∀ j v,[Value.int .i64 (x.T.cells (8*gk (h / 128) x.n k+i)).kind,.int .i64 (x.T.cells (8*gk (h / 128) x.n k+i)).tagI,.string (x.T.cells (8*gk (h / 128) x.n k+i)).keyS,.string (x.T.cells (8*gk (h / 128) x.n k+i)).elemS,.int .i64 (x.T.cells (8*gk (h / 128) x.n k+i)).birthI][j]?=some v→ct (aE 142 5 (.slice (some ⟨g0,0,none⟩) (8*x.n) cap) (8*x.n) (rowOf bH (bu x.T.cells (8*x.n)))) ((⟨g0,0+(8*((gk (h / 128) x.n k:Nat):Int)+((i:Nat):Int)).toNat*5,none⟩:Addr).add j) v:=fun j v hv=>by
    have hj:j < 5:=by rcases Nat.lt_or_ge j 5 with q | q;exact q;rw[List.getElem?_eq_none (by simpa using q)] at hv;cases hv
    rw[cz,show 0+(8*((gk (h / 128) x.n k:Nat):Int)+((i:Nat):Int)).toNat*5+j=(8*gk (h / 128) x.n k+i)*5+j by omega]
    exact ji (by rw[cells_row x.T.cells (by omega) j hj];exact hv)
   refine al<|ak<|ah<|ax<|sr<|mv rfl rfl<|l_q rfl (ad rfl)<|l_q rfl (qfa 19 rfl ep rfl rfl gQ)<|l_q rfl (qld rfl gR) ?_
   refine mv rfl rfl<|l_q rfl (aT rfl rfl g9 bx (by omega)) ?_
   apply l_q rfl
   ·apply eu (A:=aE 142 5 (.slice (some ⟨g0,0,none⟩) (8*x.n) cap) (8*x.n) (rowOf bH (bu x.T.cells (8*x.n)))) (us:=[.int .i64 (x.T.cells (8*gk (h / 128) x.n k+i)).kind,.int .i64 (x.T.cells (8*gk (h / 128) x.n k+i)).tagI,.string (x.T.cells (8*gk (h / 128) x.n k+i)).keyS,.string (x.T.cells (8*gk (h / 128) x.n k+i)).elemS,.int .i64 (x.T.cells (8*gk (h / 128) x.n k+i)).birthI]) rfl dh bx rfl
    ·exact tk
    exact hcell
   refine az rfl cK fun b12=>sta rfl rfl rfl bx rfl rfl ?_
   refine lz<|l_q rfl (qfa 0 rfl cQ rfl rfl yS3)<|l_q rfl (qld rfl yA3) ?_
   refine l_q rfl (qi rfl rfl (aZ ·))<|mv rfl rfl<|bD (t:=50) rfl (fun z1=>?_) fun z1=>?_
   ·refine au rfl rfl<|l_q rfl (qfa 1 rfl cQ rfl rfl yS3)<|au rfl rfl<|l_q rfl (qld rfl yA3) ?_
    refine au rfl rfl<|mv rfl rfl<|au rfl rfl<|l_q rfl (qi rfl rfl (aZ ·))<|l_q rfl (aL rfl rfl)<|mv rfl rfl<|bD (t:=56) rfl (fun z2=>?_) fun z2=>?_
    ·refine au rfl rfl<|l_q rfl (qfa 2 rfl cQ rfl rfl yS9)<|au rfl rfl<|l_q rfl (qld rfl yA9) ?_
     refine au rfl rfl<|mv rfl rfl<|au rfl rfl<|l_q rfl (qs rfl rfl (l8 ·))<|l_q rfl (aL rfl rfl)<|lc<|aA rfl (fun z3=>?_) fun z3=>?_
     ·skip
      have hhs:fh (cD x.T.cells (gk (h / 128) x.n k)) (h % 128) key i=true:=gB.2 ⟨z1,z2,z3⟩
      have hfe:dW (h / 128) x.n x.T.cells (h % 128) key k=i:=jm (by omega) hhs hnoi
      have hsr:=tS hkl (by rw[hfe];omega) hnok
      rw[hfe] at hsr
      refine sr<|mv rfl rfl<|mv rfl rfl<|l_q rfl (ba rfl rfl) ?_
      refine asg rfl rfl<|asg rfl rfl<|lc<|rt ?_
      apply aJ (.inl rfl) ([rtH pr l x])
      ·apply bS rfl
       ·exact .tmp rfl
       exact .tmp rfl
      ·exact⟨by rw[hsr],rfl⟩
      refine cS (.slice (some ⟨g0,0,none⟩) (8*x.n) cap) ?_;(exact en)
     refine al<|aV<|ak<|aB<|mv rfl rfl<|l_q rfl (ba rfl rfl) ?_
     refine asg rfl rfl<|aj ?_
     apply aO ((i+1))
     ·exact⟨by omega,fun j hj=>by rcases Nat.lt_or_ge j i with q2 | q2;exact hnoi j q2;(obtain rfl:j=i:=by omega);cases hs:fh (cD x.T.cells (gk (h / 128) x.n k)) (h % 128) key j with | false=>rfl | true=>(obtain⟨a1,a2,a3⟩:=gB.1 hs;first | exact absurd a1 z1 | exact absurd a2 z2 | exact absurd a3 z3)⟩
     ·omega
     ·exact⟨rfl,rfl,rfl,rfl,rfl,rfl,trivial⟩
     exact en
    refine ar rfl rfl rfl rfl<|ar rfl rfl rfl rfl<|ar rfl rfl rfl rfl<|ar rfl rfl rfl rfl<|l_q rfl (aL rfl rfl)<|lc<|bR rfl<|al<|aV<|ak<|aB<|mv rfl rfl<|l_q rfl (ba rfl rfl) ?_
    refine asg rfl rfl<|aj ?_
    apply aO ((i+1))
    ·exact⟨by omega,fun j hj=>by rcases Nat.lt_or_ge j i with q2 | q2;exact hnoi j q2;(obtain rfl:j=i:=by omega);cases hs:fh (cD x.T.cells (gk (h / 128) x.n k)) (h % 128) key j with | false=>rfl | true=>(obtain⟨a1,a2,a3⟩:=gB.1 hs;first | exact absurd a1 z1 | exact absurd a2 z2 | exact absurd a3 z3)⟩
    ·omega
    ·exact⟨rfl,rfl,rfl,rfl,rfl,rfl,trivial⟩
    exact en
   refine ar rfl rfl rfl rfl<|ar rfl rfl rfl rfl<|ar rfl rfl rfl rfl<|ar rfl rfl rfl rfl<|l_q rfl (aL rfl rfl)<|mv rfl rfl<|ar rfl rfl rfl rfl<|ar rfl rfl rfl rfl<|ar rfl rfl rfl rfl<|ar rfl rfl rfl rfl<|l_q rfl (aL rfl rfl)<|lc<|bR rfl<|al<|aV<|ak<|aB<|mv rfl rfl<|l_q rfl (ba rfl rfl) ?_
   refine asg rfl rfl<|aj ?_
   apply aO ((i+1))
   ·exact⟨by omega,fun j hj=>by rcases Nat.lt_or_ge j i with q2 | q2;exact hnoi j q2;(obtain rfl:j=i:=by omega);cases hs:fh (cD x.T.cells (gk (h / 128) x.n k)) (h % 128) key j with | false=>rfl | true=>(obtain⟨a1,a2,a3⟩:=gB.1 hs;first | exact absurd a1 z1 | exact absurd a2 z2 | exact absurd a3 z3)⟩
   ·omega
   ·exact⟨rfl,rfl,rfl,rfl,rfl,rfl,trivial⟩
   exact en
  obtain rfl:i=8:=by omega
  refine xt rfl<|aV<|ak<|aB<|mv rfl rfl<|l_q rfl (ba rfl rfl) ?_
  refine asg rfl rfl<|aj ?_
  apply aO ((k+1))
  ·exact⟨by omega,fun j hj=>by rcases Nat.lt_or_ge j k with q2 | q2;exact hnok j q2;(obtain rfl:j=k:=by omega);exact ir hnoi⟩
  ·omega
  ·exact⟨rfl,rfl,rfl,rfl,rfl,trivial⟩
  exact en
 obtain rfl:k=dm (h / 128) x.n x.T.cells:=by omega
 have hsr:=wz hnok
 refine xt rfl<|nz<|mv rfl rfl<|l_q rfl (ql rfl bn)<|asg rfl rfl<|asg rfl rfl<|lc<|rt ?_
 apply aJ (.inl rfl) ([rtH pr l x])
 ·apply bS rfl
  ·exact .tmp rfl
  exact .tmp rfl
 ·exact⟨by rw[hsr],rfl⟩
 refine cS (.slice (some ⟨g0,0,none⟩) (8*x.n) cap) ?_;(exact en)
theorem Am (key:ByteArray) (he:¬ oZ l x key=0):(x.dead=true∧oZ l x key=24)∨(x.dead=false∧(key.size:Int)≠l.key∧oZ l x key=61):=by
 unfold oZ at *
 cases hd:x.dead with
 | true=>exact .inl ⟨rfl,by simp⟩
 | false=>
  by_cases hk:(key.size:Int)≠l.key
  ·exact .inr ⟨rfl,hk,by simp[hk]⟩
  rw[hd] at he
  simp[hk] at he
theorem xP (key:ByteArray) (he:¬ oZ l x key≠0):x.dead=false∧¬ (key.size:Int)≠l.key:=by
 unfold oZ at he
 cases hd:x.dead with
 | true=>rw[hd] at he;simp at he
 | false=>
  rw[hd] at he
  by_cases hk:(key.size:Int)≠l.key
  ·rw[if_pos hk] at he;simp at he
  exact⟨rfl,hk⟩
theorem zf (h:Int) (key:ByteArray) (hn0:0 < x.n) (hs:0≤(br (h / 128) x.n x.T.cells (h % 128) key).slot):∃ k,k < 8*x.n∧(br (h / 128) x.n x.T.cells (h % 128) key).slot=((k:Nat):Int)∧∃ e b,x.T.cells k=.full (h % 128) key e b:=by
 obtain⟨g,i,hg,hi,h2,h3⟩:=ke (home:=h / 128) (cells:=x.T.cells) (tag:=h % 128) (key:=key) hn0 hs
 exact⟨8*g+i,by omega,h2,h3⟩
variable (hr:jX x.n x.T)
include hr
theorem Dw {g0 cap:Nat} {k:Nat} (hk:k < 8*x.n) (c:Cell):lay (rowOf bH (bu x.T.cells (8*x.n))) (k*5) (bH c)=rowOf bH (bu (bT x.T.cells k c) (8*x.n)):=by
 rw[m5 kJ (by rw[fp];exact hk),iu _ hk]
theorem Cz (hn0:0 < x.n) (h:Int) (hh:0≤h∧h < 18446744073709551616) (key elem:ByteArray) (birth:Int):aG Tryz.prog 81 #[.pointer (some ⟨x.p,0,none⟩),.int .u64 h,.string key,.string elem,.int .i64 birth] [rtH pr l x] (fun v L=>v=.tuple #[.int .i64 (m8 l x h key elem birth).1,.int .i64 (m8 l x h key elem birth).2.1]∧L= [rtH pr l {x with T:=(m8 l x h key elem birth).2.2}]):=by
 have hus:=hr.used
 have hl0:=hr.left0
 have hl1:=hr.left1
 have hcle:=rY isFull x.T.cells (8*x.n)
 have hwle:=rj (h / 128) x.n x.T.cells
 refine aq Hs Tryz.func81 rfl rfl rfl fun Fr w0=>aR ?_
 refine sr<|asg rfl rfl<|asg rfl rfl<|lz<|mv rfl rfl<|mv rfl rfl<|lc1 rfl rfl rfl (xO pr l x hn key) ?_
 refine asg rfl rfl<|lc<|ah<|sr<|mv rfl rfl<|l_q rfl (qi rfl rfl (aI ·))<|lc<|aA rfl (fun z0=>?_) fun z0=>?_
 ·skip
  have hp:m8 l x h key elem birth=(0,oZ l x key,x.T):=by rcases Am l x hn key z0 with⟨a1,a2⟩ | ⟨a1,a2,a3⟩ <;> unfold m8 <;> simp[*]
  rw[hp]
  exact sr<|mv rfl rfl<|asg rfl rfl<|asg rfl rfl<|lc<|rt<|fr2 rfl ([rtH pr l x]) (.tmp rfl) (.tmp rfl) ⟨rfl,rfl⟩
 obtain⟨hxd,hkey⟩:=xP l x hn key z0
 refine iG .here fun vc=>?_
 refine al<|ak<|ah<|sr<|mv rfl rfl<|l_q rfl (qls rfl yU9)<|mv rfl rfl<|l_q rfl (ad rfl)<|l_q rfl (qfa 1 rfl ep rfl rfl aX)<|l_q rfl (qfa 1 rfl bK rfl rfl yS3)<|l_q rfl (qld rfl yA3) ?_
 refine l_q rfl (qi rfl rfl (aI ·))<|lc<|aA rfl (fun z1=>?_) fun z1=>?_
 ·skip
  have hp:m8 l x h key elem birth=(0,62,x.T):=by unfold m8;simp only[hxd,if_neg hkey,Bool.false_eq_true,if_false,if_pos z1]
  rw[hp]
  refine sr<|asg rfl rfl<|asg rfl rfl<|lc<|rt ?_
  apply aJ (.inl rfl) ([rtH pr l x])
  ·apply bS rfl
   ·exact .tmp rfl
   exact .tmp rfl
  ·exact⟨rfl,rfl⟩
  refine cS vc ?_;(exact en)
 refine al<|ak<|ah<|sr<|mv rfl rfl<|l_q rfl (qi rfl rfl (aU ·))<|lc<|aA rfl (fun z2=>?_) fun z2=>?_
 ·skip
  have hp:m8 l x h key elem birth=(0,64,x.T):=by unfold m8;simp only[hxd,if_neg hkey,Bool.false_eq_true,if_false,if_neg z1,if_pos z2]
  rw[hp]
  refine sr<|asg rfl rfl<|asg rfl rfl<|lc<|rt ?_
  apply aJ (.inl rfl) ([rtH pr l x])
  ·apply bS rfl
   ·exact .tmp rfl
   exact .tmp rfl
  ·exact⟨rfl,rfl⟩
  refine cS vc ?_;(exact en)
 have hp:m8 l x h key elem birth=((eR x.n x.T h key elem birth).1,0,(eR x.n x.T h key elem birth).2):=by unfold m8;simp only[hxd,if_neg hkey,Bool.false_eq_true,if_false,if_neg z1,if_neg z2]
 rw[hp]
 refine fw (L':=rtH pr l x::Fr) (cS vc (by(exact en))) ?_
 refine al<|nz<|mv rfl rfl<|mv rfl rfl<|mv rfl rfl<|lc1 rfl rfl rfl (rfind_ok pr l x hn hn0 h hh key) ?_
 refine mv rfl rfl<|l_q rfl (aa rfl ga) ?_
 refine l_q rfl (aa rfl ga) ?_
 refine asg rfl rfl<|asg rfl rfl<|lc<|ah<|sr<|mv rfl rfl<|l_q rfl (qi rfl rfl (gM ·))<|lc<|aA rfl (fun z3=>?_) fun z3=>?_
 ·skip
  obtain⟨k,hk,hks,e0,b0,hcf⟩:=zf x hn h key hn0 z3
  have hput:eR x.n x.T h key elem birth=(1,{x.T with cells:=bT x.T.cells k (.full (h % 128) key elem b0)}):=by
   unfold eR
   rw[if_pos z3,hks,Int.toNat_natCast,hcf];rfl
  rw[hput,hks]
  refine iG .here fun vc=>?_
  refine cw (.there .here) fun _ hvc=>?_
  obtain⟨a0,cap,rfl,ha,_,_⟩:=hvc
  obtain⟨g0,rfl⟩:=ha (by omega)
  have hset:(rowOf bH (bu x.T.cells (8*x.n))).set (0+((k:Nat):Int).toNat*5+3) (.string elem)=rowOf bH (bu (bT x.T.cells k (.full (h % 128) key elem b0)) (8*x.n)):=by
   rw[Nat.zero_add,Int.toNat_natCast,fU kJ (by decide) (bu x.T.cells (8*x.n)) k (x.T.cells k) (fq hk) (a':=.full (h % 128) key elem b0) (by rw[hcf];rfl),iu _ hk]
  refine sr<|mv rfl rfl<|l_q rfl (ad rfl)<|l_q rfl (qfa 19 rfl ep rfl rfl gQ)<|l_q rfl (qld rfl gR) ?_
  refine mv rfl rfl<|mv rfl rfl<|l_q rfl (aT rfl rfl g9 bx (by omega)) ?_
  refine l_q rfl (qfa 3 rfl cQ rfl rfl yS9) ?_
  refine dp rfl rfl rfl yS9 rfl tk (by omega) hset ?_
  refine lz<|asg rfl rfl<|asg rfl rfl<|lc<|rt ?_
  apply aJ (.inl rfl) ([rtH pr l {x with T:={x.T with cells:=bT x.T.cells k (.full (h % 128) key elem b0)}}])
  ·apply bS rfl
   ·exact .tmp rfl
   exact .tmp rfl
  ·exact⟨rfl,rfl⟩
  refine cS (.slice (some ⟨g0,0,none⟩) (8*x.n) cap) ?_;(exact en)
 have hneg:=Ak (home:=h / 128) (n:=x.n) (cells:=x.T.cells) (tag:=h % 128) (key:=key) (by omega)
 refine al<|nz<|mv rfl rfl<|mv rfl rfl<|lcf rfl rfl rfl (AO pr l x hn hn0 h hh) ?_
 rintro vw L' rfl
 refine bF ?_
 refine asg rfl rfl<|lc<|ah<|sr<|asg rfl rfl<|lc<|ax ?_
 refine cw .here fun _ hvw=>?_
 obtain⟨aw,capw,rfl,haw,_,_⟩:=hvw
 refine iG (.there .here) fun vc=>?_
 refine cw (.there .here) fun _ hvc=>?_
 obtain⟨a0,cap,rfl,ha,_,_⟩:=hvc
 obtain⟨g0,rfl⟩:=ha (by omega)
 dsimp only
 refine bw (fun k:Nat=>k≤dm (h / 128) x.n x.T.cells∧∀ j,j < k→¬ cM (h / 128) x.n x.T.cells j < 8) (fun k=>[(0,.pointer (some ⟨x.p,0,none⟩)),(1,.int .u64 h),(2,.string key),(3,.string elem),(4,.int .i64 birth),(15,.slice aw (dm (h / 128) x.n x.T.cells) capw),(16,.int .i64 (k:Nat))]) (fun _=>pt x.p (.cells #[.pointer (some ⟨pr,0,none⟩),.int .i64 l.key,.int .i64 l.elem,.int .i64 l.ka,.int .i64 l.ea,.int .i64 l.cap,.int .i64 l.eo,.int .i64 l.bo,.int .i64 l.slot,.int .i64 l.group,.int .i64 (x.off:Nat),.int .i64 (x.go:Nat),.int .i64 x.T.used,.int .i64 x.T.left,.int .i64 x.T.depth,.int .i64 x.T.pins,.int .i64 x.T.next,.bool (decide (x.T.kind=4)),.bool x.dead,(.slice (some ⟨g0,0,none⟩) (8*x.n) cap)] 45 (0,0))::aE 142 5 (.slice (some ⟨g0,0,none⟩) (8*x.n) cap) (8*x.n) (rowOf bH (bu x.T.cells (8*x.n)))::aE 3 1 (.slice aw (dm (h / 128) x.n x.T.cells) capw) (dm (h / 128) x.n x.T.cells) (ints (j5 (h / 128) x.n (dm (h / 128) x.n x.T.cells)))::Fr) (fun k=>dm (h / 128) x.n x.T.cells-k) 0 ⟨Nat.zero_le _,fun j h=>by omega⟩ ⟨rfl,rfl,rfl,rfl,rfl,rfl,rfl,trivial⟩ (by(exact en)) ?_
 rintro k ⟨hk,hnok⟩
 refine ah<|sr<|mv rfl rfl<|mv rfl rfl<|l_q rfl (ql rfl bn)<|l_q rfl (qi rfl rfl (aU ·))<|lc<|aA rfl (fun h1=>?_) fun h1=>?_
 ·skip
  have hkl:k < dm (h / 128) x.n x.T.cells:=by omega
  obtain⟨gw,rfl⟩:=haw (by omega)
  have hgl:=oR (home:=h / 128) (k:=k) hn0
  have hwk:(ints (j5 (h / 128) x.n (dm (h / 128) x.n x.T.cells)))[0+((k:Nat):Int).toNat]?=some (.int .i64 (gk (h / 128) x.n k:Nat)):=by
   rw[Nat.zero_add,Int.toNat_natCast];unfold ints;rw[List.getElem?_map,sG hkl];rfl
  refine al<|ak<|ah<|ax<|sr<|mv rfl rfl<|mv rfl rfl<|l_q rfl (ay rfl rfl bn yS3 (by omega)) ?_
  apply l_q rfl
  ·apply bf rfl yA3
   ·exact tk
   exact hwk
  refine l_q rfl (dF rfl rfl) ?_
  refine asg rfl rfl<|lc<|ax ?_
  refine bw (fun i:Nat=>i≤8∧∀ j,j < i→eD (cD x.T.cells (gk (h / 128) x.n k)) j=false) (fun i=>[(0,.pointer (some ⟨x.p,0,none⟩)),(1,.int .u64 h),(2,.string key),(3,.string elem),(4,.int .i64 birth),(15,.slice (some ⟨gw,0,none⟩) (dm (h / 128) x.n x.T.cells) capw),(16,.int .i64 (k:Nat)),(17,.int .i64 (8*((gk (h / 128) x.n k:Nat):Int)+(i:Nat)))]) (fun _=>pt x.p (.cells #[.pointer (some ⟨pr,0,none⟩),.int .i64 l.key,.int .i64 l.elem,.int .i64 l.ka,.int .i64 l.ea,.int .i64 l.cap,.int .i64 l.eo,.int .i64 l.bo,.int .i64 l.slot,.int .i64 l.group,.int .i64 (x.off:Nat),.int .i64 (x.go:Nat),.int .i64 x.T.used,.int .i64 x.T.left,.int .i64 x.T.depth,.int .i64 x.T.pins,.int .i64 x.T.next,.bool (decide (x.T.kind=4)),.bool x.dead,(.slice (some ⟨g0,0,none⟩) (8*x.n) cap)] 45 (0,0))::aE 142 5 (.slice (some ⟨g0,0,none⟩) (8*x.n) cap) (8*x.n) (rowOf bH (bu x.T.cells (8*x.n)))::aE 3 1 (.slice (some ⟨gw,0,none⟩) (dm (h / 128) x.n x.T.cells) capw) (dm (h / 128) x.n x.T.cells) (ints (j5 (h / 128) x.n (dm (h / 128) x.n x.T.cells)))::Fr) (fun i=>8-i) 0 ⟨Nat.zero_le _,fun j h=>by omega⟩ ⟨rfl,rfl,rfl,rfl,rfl,rfl,rfl,congrArg (fun z=>some (Value.int .i64 z)) (by omega),trivial⟩ (by(exact en)) ?_
  rintro i ⟨hi,hnoi⟩
  refine ah<|sr<|mv rfl rfl<|mv rfl rfl<|mv rfl rfl<|l_q rfl (ay rfl rfl bn yS3 (by omega)) ?_
  apply l_q rfl
  ·apply bf rfl yA3
   ·exact tk
   exact hwk
  refine l_q rfl (dF rfl rfl) ?_
  refine l_q rfl (ba rfl rfl) ?_
  refine l_q rfl (qi rfl rfl (aU ·))<|lc<|aA rfl (fun h2=>?_) fun h2=>?_
  ·skip
   obtain⟨cc,hcc⟩:∃ cc,x.T.cells (8*gk (h / 128) x.n k+i)=cc:=⟨_,rfl⟩
   have hkind:(rowOf bH (bu x.T.cells (8*x.n)))[0+(8*((gk (h / 128) x.n k:Nat):Int)+((i:Nat):Int)).toNat*5+0]?=some (.int .i64 cc.kind):=by
    rw[show 0+(8*((gk (h / 128) x.n k:Nat):Int)+((i:Nat):Int)).toNat*5+0=(8*gk (h / 128) x.n k+i)*5+0 by omega,cells_row x.T.cells (by omega) 0 (by decide),hcc]
    rfl
   have hlay:lay (rowOf bH (bu x.T.cells (8*x.n))) (0+(8*((gk (h / 128) x.n k:Nat):Int)+((i:Nat):Int)).toNat*5) (bH (.full (h % 128) key elem birth))=rowOf bH (bu (bT x.T.cells (8*gk (h / 128) x.n k+i) (.full (h % 128) key elem birth)) (8*x.n)):=by
    rw[show 0+(8*((gk (h / 128) x.n k:Nat):Int)+((i:Nat):Int)).toNat*5=(8*gk (h / 128) x.n k+i)*5 by omega]
    exact Dw x hn hr (g0:=g0) (cap:=cap) (by omega) _
   have hvi:eD (cD x.T.cells (gk (h / 128) x.n k)) i=true→dL (h / 128) x.n x.T.cells (dm (h / 128) x.n x.T.cells)=((8*gk (h / 128) x.n k+i:Nat):Int)∧eG (h / 128) x.n x.T.cells (dm (h / 128) x.n x.T.cells)=ed cc:=fun hv=>by
    have hfe:cM (h / 128) x.n x.T.cells k=i:=jm (by omega) hv hnoi
    obtain⟨e1,e2⟩:=Bx hkl (by rw[hfe];omega) hnok
    rw[hfe] at e1 e2
    exact⟨by rw[e1];omega,by rw[e2,o0,← hcc];rfl⟩
   cases cc with
   | full t0 k0 e0 b0=>
    have hfull:isFull (cD x.T.cells (gk (h / 128) x.n k) i)=true:=by show isFull (x.T.cells (8*gk (h / 128) x.n k+i))=true;rw[hcc];rfl
    refine al<|ak<|ah<|ax<|ah<|sr<|mv rfl rfl<|l_q rfl (ad rfl)<|l_q rfl (qfa 19 rfl ep rfl rfl gQ)<|l_q rfl (qld rfl gR) ?_
    refine mv rfl rfl<|l_q rfl (aT rfl rfl g9 bx (by omega)) ?_
    refine l_q rfl (qfa 0 rfl cQ rfl rfl yS3) ?_
    apply l_q rfl
    ·apply bf rfl yA3
     ·exact tk
     exact hkind
    refine l_q rfl (qi rfl rfl (aZ ·))<|lc<|aA rfl (fun q=>?_) fun q=>?_
    ·refine xt rfl<|ak<|aB<|mv rfl rfl<|l_q rfl (ba rfl rfl) ?_
     refine asg rfl rfl<|aj ?_
     apply aO ((i+1))
     ·exact⟨by omega,fun j hj=>by rcases Nat.lt_or_ge j i with q2 | q2;exact hnoi j q2;(obtain rfl:j=i:=by omega);rw[ja,hfull];rfl⟩
     ·omega
     ·exact⟨rfl,rfl,rfl,rfl,rfl,rfl,rfl,rfl,trivial⟩
     exact en
    exact absurd rfl q
   | empty=>
    obtain⟨hv1,hv2⟩:=hvi (by rw[ja];show(!isFull (x.T.cells (8*gk (h / 128) x.n k+i)))=true;rw[hcc];rfl)
    refine al<|ak<|ah<|ax<|ah<|sr<|mv rfl rfl<|l_q rfl (ad rfl)<|l_q rfl (qfa 19 rfl ep rfl rfl gQ)<|l_q rfl (qld rfl gR) ?_
    refine mv rfl rfl<|l_q rfl (aT rfl rfl g9 bx (by omega)) ?_
    refine l_q rfl (qfa 0 rfl cQ rfl rfl yS3) ?_
    apply l_q rfl
    ·apply bf rfl yA3
     ·exact tk
     exact hkind
    refine l_q rfl (qi rfl rfl (aZ ·))<|lc<|aA rfl (fun q=>?_) fun q=>?_
    ·exact absurd q (by decide)
    refine al<|ak<|ah<|sr<|mv rfl rfl<|l_q rfl (ad rfl)<|l_q rfl (qfa 19 rfl ep rfl rfl gQ)<|l_q rfl (qld rfl gR) ?_
    refine mv rfl rfl<|l_q rfl (aT rfl rfl g9 bx (by omega)) ?_
    refine l_q rfl (qfa 0 rfl cQ rfl rfl yS3) ?_
    apply l_q rfl
    ·apply bf rfl yA3
     ·exact tk
     exact hkind
    refine l_q rfl (qi rfl rfl (aZ ·))<|lc<|aA rfl (fun q2=>?_) fun q2=>?_
    ·refine ah<|sr<|mv rfl rfl<|l_q rfl (ad rfl)<|l_q rfl (qfa 13 rfl ep rfl rfl yS3)<|l_q rfl (qld rfl yA3) ?_
     refine l_q rfl (qi rfl rfl (aZ ·))<|lc<|aA rfl (fun q3=>?_) fun q3=>?_
     ·skip
      have hput:eR x.n x.T h key elem birth=(3,x.T):=by
       unfold eR
       rw[hneg]
       simp only[hv1,hv2,ed]
       rw[if_neg (by omega),if_pos (.inr ⟨trivial,q3⟩)]
      rw[hput]
      refine sr<|asg rfl rfl<|asg rfl rfl<|lc<|rt ?_
      apply aJ (.inl rfl) ([rtH pr l x])
      ·apply bS rfl
       ·exact .tmp rfl
       exact .tmp rfl
      ·exact⟨rfl,rfl⟩
      refine cS (.slice (some ⟨g0,0,none⟩) (8*x.n) cap) ?_;(exact en)
     have hput:eR x.n x.T h key elem birth=(2,{x.T with used:=x.T.used+1,left:=x.T.left-1,cells:=bT x.T.cells (8*gk (h / 128) x.n k+i) (.full (h % 128) key elem birth)}):=by
      unfold eR
      rw[hneg]
      simp only[hv1,hv2,ed]
      rw[if_neg (by omega),if_neg (by omega)]
      simp only[Int.toNat_natCast,if_true]
     rw[hput]
     refine al<|ak<|aB<|mv rfl rfl<|l_q rfl (ad rfl)<|l_q rfl (qfa 13 rfl ep rfl rfl yS3)<|l_q rfl (qld rfl yA3) ?_
     refine l_q rfl (e9 rfl rfl) ?_
     refine l_q rfl (ad rfl)<|l_q rfl (qfa 13 rfl ep rfl rfl yS3)<|st rfl rfl rfl yS3 rfl ?_
     refine lz<|mv rfl rfl<|l_q rfl (ad rfl)<|l_q rfl (qfa 19 rfl ep rfl rfl gQ)<|l_q rfl (qld rfl gR) ?_
     refine mv rfl rfl<|mv rfl rfl<|l_q rfl (iT rfl rfl) ?_
     refine l_q rfl (qcv rfl fF yU3) ?_
     refine mv rfl rfl<|mv rfl rfl<|mv rfl rfl ?_
     apply l_q rfl
     ·apply aQ rfl gl cK
      apply aF.one
      ·repeat (first | exact aH.here | apply aH.there)
      ·rfl
      ·exact sa
      apply aF.one
      ·repeat (first | exact aH.here | apply aH.there)
      ·rfl
      ·exact sa
      apply aF.one
      ·repeat (first | exact aH.here | apply aH.there)
      ·rfl
      ·exact sa
      apply aF.one
      ·repeat (first | exact aH.here | apply aH.there)
      ·rfl
      ·exact sa
      apply aF.one
      ·repeat (first | exact aH.here | apply aH.there)
      ·rfl
      ·exact sa
      exact aF.nil
     refine l_q rfl (aT rfl rfl g9 bx (by omega)) ?_
     refine iH (us:=bH (.full (h % 128) key elem birth)) rfl rfl rfl bx rfl rfl tk (by omega) hlay ?_
     refine lz<|mv rfl rfl<|l_q rfl (ad rfl)<|l_q rfl (qfa 12 rfl ep rfl rfl yS3)<|l_q rfl (qld rfl yA3) ?_
     refine l_q rfl (ba rfl rfl) ?_
     refine l_q rfl (ad rfl)<|l_q rfl (qfa 12 rfl ep rfl rfl yS3)<|st rfl rfl rfl yS3 rfl ?_
     refine lz<|asg rfl rfl<|asg rfl rfl<|lc<|rt ?_
     apply aJ (.inl rfl) ([rtH pr l {x with T:={x.T with used:=x.T.used+1,left:=x.T.left-1,cells:=bT x.T.cells (8*gk (h / 128) x.n k+i) (.full (h % 128) key elem birth)}}])
     ·apply bS rfl
      ·exact .tmp rfl
      exact .tmp rfl
     ·exact⟨rfl,rfl⟩
     refine cS (.slice (some ⟨g0,0,none⟩) (8*x.n) cap) ?_;(exact en)
    exact absurd rfl q2
   | deleted=>
    obtain⟨hv1,hv2⟩:=hvi (by rw[ja];show(!isFull (x.T.cells (8*gk (h / 128) x.n k+i)))=true;rw[hcc];rfl)
    have hput:eR x.n x.T h key elem birth=(2,{x.T with used:=x.T.used+1,cells:=bT x.T.cells (8*gk (h / 128) x.n k+i) (.full (h % 128) key elem birth)}):=by
     unfold eR
     rw[hneg]
     simp only[hv1,hv2,ed]
     rw[if_neg (by omega),if_neg (by rintro(q9 | ⟨q9,_⟩);omega;cases q9)]
     simp only[Int.toNat_natCast,Bool.false_eq_true,if_false]
    rw[hput]
    refine al<|ak<|ah<|ax<|ah<|sr<|mv rfl rfl<|l_q rfl (ad rfl)<|l_q rfl (qfa 19 rfl ep rfl rfl gQ)<|l_q rfl (qld rfl gR) ?_
    refine mv rfl rfl<|l_q rfl (aT rfl rfl g9 bx (by omega)) ?_
    refine l_q rfl (qfa 0 rfl cQ rfl rfl yS3) ?_
    apply l_q rfl
    ·apply bf rfl yA3
     ·exact tk
     exact hkind
    refine l_q rfl (qi rfl rfl (aZ ·))<|lc<|aA rfl (fun q=>?_) fun q=>?_
    ·exact absurd q (by decide)
    refine al<|ak<|ah<|sr<|mv rfl rfl<|l_q rfl (ad rfl)<|l_q rfl (qfa 19 rfl ep rfl rfl gQ)<|l_q rfl (qld rfl gR) ?_
    refine mv rfl rfl<|l_q rfl (aT rfl rfl g9 bx (by omega)) ?_
    refine l_q rfl (qfa 0 rfl cQ rfl rfl yS3) ?_
    apply l_q rfl
    ·apply bf rfl yA3
     ·exact tk
     exact hkind
    refine l_q rfl (qi rfl rfl (aZ ·))<|lc<|aA rfl (fun q2=>?_) fun q2=>?_
    ·exact absurd q2 (by decide)
    refine al<|nz<|mv rfl rfl<|l_q rfl (ad rfl)<|l_q rfl (qfa 19 rfl ep rfl rfl gQ)<|l_q rfl (qld rfl gR) ?_
    refine mv rfl rfl<|mv rfl rfl<|l_q rfl (iT rfl rfl) ?_
    refine l_q rfl (qcv rfl fF yU3) ?_
    refine mv rfl rfl<|mv rfl rfl<|mv rfl rfl ?_
    apply l_q rfl
    ·apply aQ rfl gl cK
     apply aF.one
     ·repeat (first | exact aH.here | apply aH.there)
     ·rfl
     ·exact sa
     apply aF.one
     ·repeat (first | exact aH.here | apply aH.there)
     ·rfl
     ·exact sa
     apply aF.one
     ·repeat (first | exact aH.here | apply aH.there)
     ·rfl
     ·exact sa
     apply aF.one
     ·repeat (first | exact aH.here | apply aH.there)
     ·rfl
     ·exact sa
     apply aF.one
     ·repeat (first | exact aH.here | apply aH.there)
     ·rfl
     ·exact sa
     exact aF.nil
    refine l_q rfl (aT rfl rfl g9 bx (by omega)) ?_
    refine iH (us:=bH (.full (h % 128) key elem birth)) rfl rfl rfl bx rfl rfl tk (by omega) hlay ?_
    refine lz<|mv rfl rfl<|l_q rfl (ad rfl)<|l_q rfl (qfa 12 rfl ep rfl rfl yS3)<|l_q rfl (qld rfl yA3) ?_
    refine l_q rfl (ba rfl rfl) ?_
    refine l_q rfl (ad rfl)<|l_q rfl (qfa 12 rfl ep rfl rfl yS3)<|st rfl rfl rfl yS3 rfl ?_
    refine lz<|asg rfl rfl<|asg rfl rfl<|lc<|rt ?_
    apply aJ (.inl rfl) ([rtH pr l {x with T:={x.T with used:=x.T.used+1,cells:=bT x.T.cells (8*gk (h / 128) x.n k+i) (.full (h % 128) key elem birth)}}])
    ·apply bS rfl
     ·exact .tmp rfl
     exact .tmp rfl
    ·exact⟨rfl,rfl⟩
    refine cS (.slice (some ⟨g0,0,none⟩) (8*x.n) cap) ?_;(exact en)
  obtain rfl:i=8:=by omega
  refine xt rfl<|aV<|ak<|aB<|mv rfl rfl<|l_q rfl (ba rfl rfl) ?_
  refine asg rfl rfl<|aj ?_
  apply aO ((k+1))
  ·exact⟨by omega,fun j hj=>by rcases Nat.lt_or_ge j k with q2 | q2;exact hnok j q2;(obtain rfl:j=k:=by omega);exact ir hnoi⟩
  ·omega
  ·exact⟨rfl,rfl,rfl,rfl,rfl,rfl,rfl,trivial⟩
  exact en
 obtain rfl:k=dm (h / 128) x.n x.T.cells:=by omega
 have hvn:=vac_no hnok
 have hput:eR x.n x.T h key elem birth=(3,x.T):=by
  unfold eR
  rw[hneg]
  simp only[hvn]
  rw[if_neg (by omega),if_pos (.inl (by omega))]
 rw[hput]
 refine xt rfl<|nz<|asg rfl rfl<|asg rfl rfl<|lc<|rt ?_
 apply aJ (.inl rfl) ([rtH pr l x])
 ·apply bS rfl
  ·exact .tmp rfl
  exact .tmp rfl
 ·exact⟨rfl,rfl⟩
 refine cS (.slice (some ⟨g0,0,none⟩) (8*x.n) cap) ?_;(exact en)
end
end RefT
end Go.Proofs.YthkajgkagnenbaaGreatDoor
