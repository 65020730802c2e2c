import Derived.Test.YthkajgkagnenbaaGreatDoorRef04B
set_option linter.unusedVariables false
set_option linter.unusedSimpArgs false
set_option linter.unusedSectionVars false
set_option maxRecDepth 100000
namespace Go.Proofs.YthkajgkagnenbaaGreatDoor
namespace RefA
open Go.RowKit Go.Proofs Eng Ty Bits Mem Search Arena
@[reducible] def raP (pr:Nat) (s:ArS) (x:Value×List RB):List HP:=[pt pr (.cells #[.int .i64 s.limit,.int .i64 (s.stop:Nat),x.1] 51 (0,0)),aE 119 3 x.1 x.2.length (rowOf RB.cells x.2)]
def bj (pr:Nat) (s:ArS):HP:=exP (fun x:Value×List RB=>iz s x.2) (raP pr s)
theorem jg {pr:Nat} {s s':ArS} (h1:s'.limit=s.limit) (h2:s'.all=s.all) (h3:s'.dead=s.dead):bj pr s'=bj pr s:=by
 unfold bj raP iz ArS.stop
 rw[h1,h2,h3]
theorem mu {c:Cx} {fin:Exit→Act→World→Prop} {ds:List Deferred} {E:Env} {ks:List KI} {pr:Nat} {s:ArS} {L M:List HP} {y:Code} (ht:Take (bj pr s) L M) (k:∀ va rs,iz s rs→TC c fin ds E (pt pr (.cells #[.int .i64 s.limit,.int .i64 (s.stop:Nat),va] 51 (0,0))::aE 119 3 va rs.length (rowOf RB.cells rs)::M) y ks):TC c fin ds E L y ks:=
 jy (X:={x:Value×List RB // iz s x.2}) (LL:=fun x=>raP pr s x.1 ++ M) (fun w hs=>let ⟨x,hp,h⟩:=bZ.1 (hs.take ht);⟨⟨x,hp⟩,h⟩) fun x=>k x.1.1 x.1.2 x.2
theorem xi {c:Cx} {fin:Exit→Act→World→Prop} {ds:List Deferred} {E:Env} {ks:List KI} {pr:Nat} {s:ArS} {L M:List HP} {ops:Array Oper} {y:List Oper} (ht:Take (bj pr s) L M) (k:∀ va rs,iz s rs→TL c fin ds E (pt pr (.cells #[.int .i64 s.limit,.int .i64 (s.stop:Nat),va] 51 (0,0))::aE 119 3 va rs.length (rowOf RB.cells rs)::M) ops y ks):TL c fin ds E L ops y ks:=
 rL (X:={x:Value×List RB // iz s x.2}) (LL:=fun x=>raP pr s x.1 ++ M) (fun w hs=>let ⟨x,hp,h⟩:=bZ.1 (hs.take ht);⟨⟨x,hp⟩,h⟩) fun x=>k x.1.1 x.1.2 x.2
theorem ez {pr n:Nat} {s:ArS} {v:Value} {rs:List RB} {L R:List HP} {lim st:Int} (hp:iz s rs) (h1:s.limit=lim) (h2:((s.stop:Nat):Int)=st) (hn:rs.length=n) (he:Ent L (pt pr (.cells #[.int .i64 lim,.int .i64 st,v] 51 (0,0))::aE 119 3 v n (rowOf RB.cells rs)::R)):Ent L (bj pr s::R):=by
 subst h1 h2 hn
 exact fun w h=>bZ.2 ⟨(v,rs),hp,he w h⟩
theorem Class_ok (n:Int):aG Tryz.prog 49 #[.int .i64 n] [] (fun v L=>v=.int .i64 (aC n)∧L= []):=by
 refine aq HG Tryz.func49 rfl rfl rfl fun Fr w0=>aR ?_
 refine sr<|asg rfl rfl<|lc<|ah<|sr<|mv rfl rfl<|l_q rfl (qi rfl rfl (aU ·))<|mv rfl rfl<|bD (t:=6) rfl (fun h=>?_) fun h=>?_
 ·refine ar rfl rfl rfl rfl<|ar rfl rfl rfl rfl<|l_q rfl (aL rfl rfl)<|lc<|aY rfl<|sr<|asg rfl rfl<|lc<|rt<|fr1 rfl ([]) (.tmp rfl) ?_
  exact⟨by unfold aC;rw[if_pos (.inl h)],rfl⟩
 refine au rfl rfl<|mv rfl rfl<|au rfl rfl<|l_q rfl (qi rfl rfl (cU ·))<|l_q rfl (aL rfl rfl)<|lc<|aA rfl (fun h2=>?_) fun h2=>?_
 ·refine sr<|asg rfl rfl<|lc<|rt<|fr1 rfl ([]) (.tmp rfl) ?_
  exact⟨by unfold aC;rw[if_pos (.inr h2)],rfl⟩
 have hlast:∀ e,e≤16→(∀ j,j < e→16*(2:Int) ^ j < n)→n≤16*2 ^ e→nP n=16*2 ^ e:=fun e he hno h=>vO h he hno
 refine al<|ak<|ah<|sr<|asg rfl rfl<|lc<|ax ?_
 refine bw (fun e:Nat=>e≤16∧(∀ j,j < e→16*(2:Int) ^ j < n)∧(∀ j,j < e→1≤j→24*(2:Int) ^ j < n)) (fun e=>[(0,.int .i64 n),(3,.int .i64 (16*2 ^ e))]) (fun _=>Fr) (fun e=>17-e) 0 ⟨by omega,by omega,by omega⟩ ⟨rfl,rfl,trivial⟩ (Ent.refl _) ?_
 rintro e ⟨he,hno,hmid⟩
 have pe:(2:Int) ^ (e+1)=2*2 ^ e:=by rw[Int.pow_succ];omega
 have p0:(1:Int)≤2 ^ e:=by have:=bX e;have:=Nat.two_pow_pos e;omega
 have p1:(2:Int) ^ e≤65536:=by
  have h1:2 ^ e≤2 ^ 16:=Nat.pow_le_pow_right (by decide) (by omega)
  have:=bX e
  omega
 have hprev:2≤e→24*(2:Int) ^ (e-1) < n∧2*(2:Int) ^ (e-1)=2 ^ e:=fun h2=>⟨hmid (e-1) (by omega) (by omega),by rw[show e=(e-1)+1 by omega,Int.pow_succ];simp;omega⟩
 refine ah<|sr<|mv rfl rfl<|l_q rfl (qi rfl rfl (aU ·))<|lc<|aA rfl (fun q=>?_) fun q=>?_
 ·skip
  have he16:e≤15:=by
   rcases Nat.lt_or_ge e 16 with h16 | h16
   ·omega
   obtain rfl:e=16:=by omega
   omega
  refine al<|ak<|ah<|ax<|ah<|sr<|mv rfl rfl<|mv rfl rfl<|l_q rfl (qi rfl rfl (iw ·))<|lc<|aA rfl (fun r=>?_) fun r=>?_
  ·skip
   have ht:=hlast e he hno (by omega)
   have hcls:aC n=16*2 ^ e:=by
    unfold aC
    rw[if_neg (by omega),ht]
    by_cases h2e:2≤e
    ·have:=hprev h2e
     rw[if_neg (by omega)]
    have:e=0∨e=1:=by omega
    rcases this with rfl | rfl
    ·rw[if_neg (by omega)]
    rw[if_neg (by omega)]
   refine sr<|mv rfl rfl<|asg rfl rfl<|lc<|rt<|fr1 rfl ([]) (.tmp rfl) ?_
   exact⟨by rw[hcls],rfl⟩
  have hno':∀ j,j < e+1→16*(2:Int) ^ j < n:=fun j hj=>by
   by_cases hje:j=e
   ·subst hje;omega
   exact hno j (by omega)
  refine al<|nz<|mv rfl rfl<|l_q rfl (qi rfl rfl (cU ·))<|mv rfl rfl<|bD (t:=20) rfl (fun c1=>?_) fun c1=>?_
  ·refine au rfl rfl<|mv rfl rfl<|au rfl rfl<|mv rfl rfl<|au rfl rfl<|l_q rfl (gI rfl rfl) ?_
   refine au rfl rfl<|l_q rfl (dF rfl rfl) ?_
   refine au rfl rfl<|l_q rfl (qi rfl rfl (iw ·))<|l_q rfl (aL rfl rfl)<|lc<|aA rfl (fun c2=>?_) fun c2=>?_
   ·skip
    have he1:1≤e:=by
     rcases Nat.eq_zero_or_pos e with h0 | h0
     ·subst h0;omega
     omega
    have ht:=hlast (e+1) (by omega) hno' (by omega)
    have hcls:aC n=24*2 ^ e:=by
     unfold aC
     rw[if_neg (by omega),ht,if_pos (by omega)]
     omega
    refine sr<|mv rfl rfl<|l_q rfl (gI rfl rfl) ?_
    refine l_q rfl (dF rfl rfl) ?_
    refine asg rfl rfl<|lc<|rt<|fr1 rfl ([]) (.tmp rfl) ?_
    exact⟨by rw[hcls];congr 1;omega,rfl⟩
   refine al<|aV<|ak<|aB<|mv rfl rfl<|l_q rfl (dF rfl rfl) ?_
   refine asg rfl rfl<|aj ?_
   apply aO ((e+1))
   ·exact⟨by omega,hno',fun j hj h1=>by by_cases hje:j=e;(subst hje;omega);exact hmid j (by omega) h1⟩
   ·omega
   ·exact⟨rfl,congrArg (fun z=>some (Value.int .i64 z)) (by omega),trivial⟩
   exact en
  refine ar rfl rfl rfl rfl<|ar rfl rfl rfl rfl<|ar rfl rfl rfl rfl<|ar rfl rfl rfl rfl<|ar rfl rfl rfl rfl<|l_q rfl (aL rfl rfl)<|lc<|bR rfl<|al<|aV<|ak<|aB<|mv rfl rfl<|l_q rfl (dF rfl rfl) ?_
  refine asg rfl rfl<|aj ?_
  apply aO ((e+1))
  ·exact⟨by omega,hno',fun j hj h1=>by by_cases hje:j=e;(subst hje;(have:(2:Int)*2 ^ (j-1)=2 ^ j:=by rw[show j=(j-1)+1 by omega,Int.pow_succ];simp;omega);(have h3:(1:Int)≤2 ^ (j-1):=by have:=bX (j-1);have:=Nat.two_pow_pos (j-1);omega);omega);exact hmid j (by omega) h1⟩
  ·omega
  ·exact⟨rfl,congrArg (fun z=>some (Value.int .i64 z)) (by omega),trivial⟩
  exact en
 have he16:e=16:=by
  rcases Nat.lt_or_ge e 16 with h16 | h16
  ·exfalso
   have:(2:Int) ^ e≤32768:=by
    have h1:2 ^ e≤2 ^ 15:=Nat.pow_le_pow_right (by decide) (by omega)
    have:=bX e
    omega
   omega
  omega
 subst he16
 have ht:=hlast 16 (by omega) hno (by omega)
 have hm15:=hmid 15 (by omega) (by omega)
 have hcls:aC n=1048576:=by
  unfold aC
  rw[if_neg (by omega),ht,if_neg (by omega)]
  decide
 refine xt rfl<|nz<|asg rfl rfl<|lc<|rt<|fr1 rfl ([]) (.tmp rfl) ?_
 exact⟨by rw[hcls],rfl⟩
section
variable (pr:Nat) (s:ArS) (hs:s.ok)
include hs
theorem A0:aG Tryz.prog 12 #[.pointer (some ⟨pr,0,none⟩)] [bj pr s] (fun v L=>v=.int .i64 s.live∧L= [bj pr s]):=by
 have hst:=hs.stop_eq
 have hsn:=ArS.sum_nonneg hs.chain
 have hroom:=hs.room
 have hlim:=hs.limit
 refine aq H3 Tryz.func12 rfl rfl rfl fun Fr w0=>aR ?_
 refine mu .here fun va rs hx=>?_
 have hlen:=hx.len
 refine cw (.there .here) fun _ hva=>?_
 obtain⟨a0,cap,rfl,ha,_,_⟩:=hva
 refine sr<|asg rfl rfl<|lz<|asg rfl rfl<|lc<|ah<|sr<|asg rfl rfl<|lc<|ax ?_
 refine bw (fun i:Nat=>i≤rs.length) (fun i=>[(0,.pointer (some ⟨pr,0,none⟩)),(3,.int .i64 (mE s i)),(4,.int .i64 (i:Nat))]) (fun _=>pt pr (.cells #[.int .i64 s.limit,.int .i64 (s.stop:Nat),(.slice a0 rs.length cap)] 51 (0,0))::aE 119 3 (.slice a0 rs.length cap) rs.length (rowOf RB.cells rs)::Fr) (fun i=>rs.length-i) 0 (Nat.zero_le _) ⟨rfl,rfl,rfl,trivial⟩ (by(exact en)) ?_
 intro i hi
 refine ah<|sr<|mv rfl rfl<|mv rfl rfl<|l_q rfl (ad rfl)<|l_q rfl (qfa 2 rfl iS rfl rfl jv)<|l_q rfl (qld rfl j0) ?_
 refine l_q rfl (ql rfl lM)<|l_q rfl (qi rfl rfl (aU ·))<|lc<|aA rfl (fun h=>?_) fun h=>?_
 ·skip
  obtain⟨g,rfl⟩:=ha (by omega)
  obtain⟨r,hr⟩:∃ r,rs[i]?=some r:=⟨rs[i],List.getElem?_eq_getElem (by omega)⟩
  obtain⟨hra,hrl⟩:=hx.at hr
  have hln:=u0 hra
  have hb:=qC hs i
  have hb1:=qC hs (i+1)
  have hpos:=(ArS.chain_pos hs.chain _ (List.mem_of_getElem? hra)).2
  dsimp only at hln hpos
  have hcell:∀ j v,r.cells[j]?=some v→(rowOf RB.cells rs)[0+((i:Nat):Int).toNat*3+j]?=some v:=fun j v hv=>by
   have hj:j < 3:=by rcases Nat.lt_or_ge j 3 with q | q;exact q;rw[List.getElem?_eq_none (by rw[rb3];exact q)] at hv;cases hv
   rw[Nat.zero_add,Int.toNat_natCast,dA rb3 rs i j r hr hj]
   exact hv
  refine al<|ak<|ah<|ax<|sr<|mv rfl rfl<|l_q rfl (ad rfl)<|l_q rfl (qfa 2 rfl iS rfl rfl jv)<|l_q rfl (qld rfl j0) ?_
  refine mv rfl rfl<|l_q rfl (aT rfl rfl lM jZ (by omega)) ?_
  refine l_q rfl (qfa 1 rfl ly rfl rfl yS4) ?_
  apply l_q rfl
  ·apply bf rfl yA4
   ·exact tk
   exact hcell 1 _ rfl
  refine lc<|aA rfl (fun q=>?_) fun q=>?_
  ·skip
   rw[q] at hrl
   have hdd:s.dead r.off=false:=by cases hd:s.dead r.off with | false=>rfl | true=>rw[hd] at hrl;cases hrl
   rw[hdd] at hln
   simp only[Bool.false_eq_true,if_false] at hln
   refine aB<|mv rfl rfl<|mv rfl rfl<|l_q rfl (ad rfl)<|l_q rfl (qfa 2 rfl iS rfl rfl jv)<|l_q rfl (qld rfl j0) ?_
   refine mv rfl rfl<|l_q rfl (aT rfl rfl lM jZ (by omega)) ?_
   refine l_q rfl (qfa 2 rfl ly rfl rfl dG) ?_
   apply l_q rfl
   ·apply bf rfl eE
    ·exact tk
    exact hcell 2 _ rfl
   refine l_q rfl (ql rfl ck)<|l_q rfl (ba rfl rfl) ?_
   refine asg rfl rfl<|aj<|aV<|ak<|aB<|mv rfl rfl<|l_q rfl (ba rfl rfl) ?_
   refine asg rfl rfl<|aj ?_
   apply aO ((i+1))
   ·exact by omega
   ·omega
   ·exact⟨rfl,congrArg (fun z=>some (Value.int .i64 z)) (by omega),rfl,trivial⟩
   exact en
  have hdd:s.dead r.off=true:=by cases hd:s.dead r.off with | true=>rfl | false=>rw[hd,q] at hrl;cases hrl
  rw[hdd] at hln
  simp only[if_true] at hln
  refine al<|aV<|ak<|aB<|mv rfl rfl<|l_q rfl (ba rfl rfl) ?_
  refine asg rfl rfl<|aj ?_
  apply aO ((i+1))
  ·exact by omega
  ·omega
  ·exact⟨rfl,congrArg (fun z=>some (Value.int .i64 z)) (by omega),rfl,trivial⟩
  exact en
 obtain rfl:i=rs.length:=by omega
 have hla:=xB s
 rw[← hlen] at hla
 rw[hla]
 refine xt rfl<|nz<|mv rfl rfl<|asg rfl rfl<|lc<|rt ?_
 apply aJ (.inl rfl) ([bj pr s])
 ·apply cO rfl
  exact .tmp rfl
 ·exact⟨rfl,rfl⟩
 refine ez (v:=.slice a0 rs.length cap) hx rfl rfl rfl ?_;(exact en)
theorem zi (c:Int) (hc:c∈dx) (hl:s.live+c≤s.limit):aG Tryz.prog 157 #[.pointer (some ⟨pr,0,none⟩),.int .i64 c] [bj pr s] (fun v L=>v=.int .i64 ((s.at c:Nat):Int)∧L= [bj pr (s.take c)]):=by
 have hst:=hs.stop_eq
 have hsn:=ArS.sum_nonneg hs.chain
 have hroom:=hs.room
 have hlim:=hs.limit
 have hc16:=fC c hc
 refine aq Gk Tryz.func157 rfl rfl rfl fun Fr w0=>aR ?_
 refine mu .here fun va rs hx=>?_
 have hlen:=hx.len
 refine cw (.there .here) fun _ hva=>?_
 obtain⟨a0,cap,rfl,ha,_,_⟩:=hva
 refine sr<|asg rfl rfl<|lc<|ah<|sr<|asg rfl rfl<|lc<|ax ?_
 refine bw (fun i:Nat=>i≤rs.length∧∀(j:Nat) (q:Int×Int),j < i→s.all[j]?=some q→¬ (s.dead q.1=true∧q.2=c)) (fun i=>[(0,.pointer (some ⟨pr,0,none⟩)),(1,.int .i64 c),(5,.int .i64 (i:Nat))]) (fun _=>pt pr (.cells #[.int .i64 s.limit,.int .i64 (s.stop:Nat),(.slice a0 rs.length cap)] 51 (0,0))::aE 119 3 (.slice a0 rs.length cap) rs.length (rowOf RB.cells rs)::Fr) (fun i=>rs.length-i) 0 ⟨Nat.zero_le _,fun j q h=>by omega⟩ ⟨rfl,rfl,rfl,trivial⟩ (by(exact en)) ?_
 rintro i ⟨hi,hno⟩
 refine ah<|sr<|mv rfl rfl<|mv rfl rfl<|l_q rfl (ad rfl)<|l_q rfl (qfa 2 rfl iS rfl rfl jv)<|l_q rfl (qld rfl j0) ?_
 refine l_q rfl (ql rfl lM)<|l_q rfl (qi rfl rfl (aU ·))<|lc<|aA rfl (fun h=>?_) fun h=>?_
 ·skip
  obtain⟨g,rfl⟩:=ha (by omega)
  obtain⟨r,hr⟩:∃ r,rs[i]?=some r:=⟨rs[i],List.getElem?_eq_getElem (by omega)⟩
  obtain⟨hra,hrl⟩:=hx.at hr
  have hpos:=(ArS.chain_pos hs.chain _ (List.mem_of_getElem? hra)).2
  have hpo:=(ArS.chain_pos hs.chain _ (List.mem_of_getElem? hra)).1
  dsimp only at hpos hpo
  have hcell:∀ j v,r.cells[j]?=some v→(rowOf RB.cells rs)[0+((i:Nat):Int).toNat*3+j]?=some v:=fun j v hv=>by
   have hj:j < 3:=by rcases Nat.lt_or_ge j 3 with q | q;exact q;rw[List.getElem?_eq_none (by rw[rb3];exact q)] at hv;cases hv
   rw[Nat.zero_add,Int.toNat_natCast,dA rb3 rs i j r hr hj]
   exact hv
  have hnext:¬ (s.dead r.off=true∧r.c=c)→∀(j:Nat) (q:Int×Int),j < i+1→s.all[j]?=some q→¬ (s.dead q.1=true∧q.2=c):=fun hn j q hj hq=>by
   rcases Nat.lt_or_ge j i with q2 | q2
   ·exact hno j q q2 hq
   obtain rfl:j=i:=by omega
   rw[hra] at hq
   cases hq
   exact hn
  refine al<|ak<|ah<|ax<|sr<|mv rfl rfl<|l_q rfl (ad rfl)<|l_q rfl (qfa 2 rfl iS rfl rfl jv)<|l_q rfl (qld rfl j0) ?_
  refine mv rfl rfl<|l_q rfl (aT rfl rfl lM jZ (by omega)) ?_
  refine l_q rfl (qfa 1 rfl ly rfl rfl yS4) ?_
  apply l_q rfl
  ·apply bf rfl yA4
   ·exact tk
   exact hcell 1 _ rfl
  refine l_q rfl (cX rfl (bY ·))<|mv rfl rfl<|bD (t:=25) rfl (fun z1=>?_) fun z1=>?_
  ·skip
   have hdd:s.dead r.off=true:=by cases hd:s.dead r.off with | true=>rfl | false=>rw[hd] at hrl;simp[hrl] at z1
   refine au rfl rfl<|mv rfl rfl<|au rfl rfl<|l_q rfl (ad rfl)<|au rfl rfl<|l_q rfl (qfa 2 rfl iS rfl rfl jv)<|au rfl rfl<|l_q rfl (qld rfl j0) ?_
   refine au rfl rfl<|mv rfl rfl<|au rfl rfl<|l_q rfl (aT rfl rfl lM jZ (by omega)) ?_
   refine au rfl rfl<|l_q rfl (qfa 2 rfl ly rfl rfl dG)<|au rfl rfl ?_
   apply l_q rfl
   ·apply bf rfl eE
    ·exact tk
    exact hcell 2 _ rfl
   refine au rfl rfl<|l_q rfl (ql rfl ck)<|au rfl rfl<|mv rfl rfl<|au rfl rfl<|l_q rfl (qi rfl rfl (aZ ·))<|l_q rfl (aL rfl rfl)<|lc<|aA rfl (fun z2=>?_) fun z2=>?_
   ·skip
    obtain rfl:r.c=c:=by omega
    obtain⟨l',hfr⟩:=Aj hra hdd rfl hno
    obtain⟨_,hat,_,_,h16⟩:=take_cons hs hfr
    have hset1:(rowOf RB.cells rs).set (0+((i:Nat):Int).toNat*3+1) (.bool true)=rowOf RB.cells (rs.set i {r with live:=true}):=by
     rw[Nat.zero_add,Int.toNat_natCast]
     exact fU rb3 (by decide) rs i r hr rfl
    have hr2:(rs.set i {r with live:=true})[i]?=some {r with live:=true}:=by rw[List.getElem?_set];simp;omega
    have hset2:∀ b,(rowOf RB.cells (rs.set i {r with live:=true})).set (0+((i:Nat):Int).toNat*3+2) (.slice (some ⟨b,0,none⟩) r.c.toNat r.c.toNat)=rowOf RB.cells ((rs.set i {r with live:=true}).set i ⟨r.off,true,r.c,b⟩):=fun b=>by
     rw[Nat.zero_add,Int.toNat_natCast]
     exact fU rb3 (by decide) _ i _ hr2 rfl
    have hcell2:∀ b,(rowOf RB.cells ((rs.set i {r with live:=true}).set i ⟨r.off,true,r.c,b⟩))[0+((i:Nat):Int).toNat*3+0]?=some (.int .i64 r.off):=fun b=>by
     rw[Nat.zero_add,Int.toNat_natCast,dA rb3 _ i 0 ⟨r.off,true,r.c,b⟩ (by rw[List.getElem?_set];simp;omega) (by decide)]
     rfl
    refine sr<|mv rfl rfl<|l_q rfl (ad rfl)<|l_q rfl (qfa 2 rfl iS rfl rfl jv)<|l_q rfl (qld rfl j0) ?_
    refine mv rfl rfl<|l_q rfl (aT rfl rfl lM jZ (by omega)) ?_
    refine l_q rfl (qfa 1 rfl ly rfl rfl yS4) ?_
    refine dp rfl rfl rfl yS4 rfl tk (by omega) hset1 ?_
    refine lc<|ah<|aS mixed ?_
    apply dq 0 rfl
    ·exact yq (ai rfl)
    apply dq 1 rfl
    ·exact yq (ad rfl)
    apply dq 2 rfl
    ·exact yq (qfa 2 rfl iS rfl rfl jv)
    apply dq 3 rfl
    ·exact yq (qld rfl j0)
    apply dq 4 rfl
    ·exact yq (ai rfl)
    apply dq 5 rfl
    ·exact yq (ai rfl)
    refine an [5] [4,3,2,1,0] 6 [(50,_)] gO ⟨rfl,trivial⟩ (by kernel_rfl) (by kernel_rfl) fun Ex=>?_
    apply da rfl rfl rfl ck yI5 rfl (by omega) (by omega)
    intro b51
    refine aj ?_
    apply n_d
    ·refine⟨?_,?_,?_,?_,?_,trivial⟩
     ·apply ya rfl rfl;exact yq (ai rfl)
     ·apply ya rfl rfl;exact yq (qld rfl j0)
     ·apply ya rfl rfl;exact yq (qfa 2 rfl iS rfl rfl jv)
     ·apply ya rfl rfl;exact yq (ad rfl)
     apply ya rfl rfl;exact yq (ai rfl)
    apply dq 7 rfl
    ·exact yq (aT rfl rfl lM jZ (by omega))
    apply dq 8 rfl
    ·exact yq (qfa 2 rfl ly rfl rfl dG)
    refine an [8,0,1,2,3,4,7] [] 9 [(53,_),(51,_)] gO ⟨rfl,rfl,trivial⟩ (by kernel_rfl) (by kernel_rfl) fun Ex=>?_
    refine dp rfl rfl rfl dG rfl tk (by omega) (hset2 b51) ?_
    refine aj ?_
    apply n_d
    ·exact trivial
    refine bd (by kernel_rfl) ?_
    refine nz<|mv rfl rfl<|l_q rfl (ad rfl)<|l_q rfl (qfa 2 rfl iS rfl rfl jv)<|l_q rfl (qld rfl j0) ?_
    refine mv rfl rfl<|l_q rfl (aT rfl rfl lM jZ (by omega)) ?_
    refine l_q rfl (qfa 0 rfl ly rfl rfl yS3) ?_
    apply l_q rfl
    ·apply bf rfl yA3
     ·exact tk
     exact hcell2 b51
    refine asg rfl rfl<|lc<|rt ?_
    apply aJ (.inl rfl) ([bj pr (s.take r.c)])
    ·apply cO rfl
     exact .tmp rfl
    ·exact⟨by rw[hat,Int.toNat_of_nonneg (by omega)],rfl⟩
    refine ez (v:=.slice (some ⟨g,0,none⟩) rs.length cap) (n:=rs.length) (hx.revive hs hr hfr b51) (cW hs) (by rw[y7 hs hfr]) (by simp) ?_;rw[show rs.set i ⟨r.off,true,r.c,b51⟩=(rs.set i {r with live:=true}).set i ⟨r.off,true,r.c,b51⟩ from by rw[List.set_set]];(exact en)
   refine al<|aV<|ak<|aB<|mv rfl rfl<|l_q rfl (ba rfl rfl) ?_
   refine asg rfl rfl<|aj ?_
   apply aO ((i+1))
   ·exact⟨by omega,hnext (by omega)⟩
   ·omega
   ·exact⟨rfl,rfl,rfl,trivial⟩
   exact en
  have hdd:s.dead r.off=false:=by cases hd:s.dead r.off with | false=>rfl | true=>rw[hd] at hrl;simp[hrl] at z1
  refine ar rfl rfl rfl rfl<|ar rfl rfl rfl rfl<|ar rfl rfl rfl rfl<|ar rfl rfl rfl rfl<|ar rfl rfl rfl rfl<|ar rfl rfl rfl rfl<|ar rfl rfl rfl rfl<|ar rfl rfl rfl rfl<|ar rfl rfl rfl rfl<|ar rfl rfl rfl rfl<|ar rfl rfl rfl rfl<|l_q rfl (aL rfl rfl)<|lc<|bR rfl<|al<|aV<|ak<|aB<|mv rfl rfl<|l_q rfl (ba rfl rfl) ?_
  refine asg rfl rfl<|aj ?_
  apply aO ((i+1))
  ·exact⟨by omega,hnext (by rw[hdd];simp)⟩
  ·omega
  ·exact⟨rfl,rfl,rfl,trivial⟩
  exact en
 obtain rfl:i=rs.length:=by omega
 have hfr:s.frL c= []:=Cd fun j q hq=>hno j q (by rcases Nat.lt_or_ge j rs.length with q2 | q2;exact q2;rw[List.getElem?_eq_none (by omega)] at hq;cases hq) hq
 have hat:=(take_nil hs hfr).2
 refine xt rfl<|nz<|mv rfl rfl<|l_q rfl (ad rfl)<|l_q rfl (qfa 1 rfl iS rfl rfl yS3)<|l_q rfl (qld rfl yA3) ?_
 refine asg rfl rfl<|lc<|ah<|aS mixed ?_
 apply dq 0 rfl
 ·exact yq (ai rfl)
 apply dq 1 rfl
 ·exact yq (ai rfl)
 apply dq 2 rfl
 ·exact yq (ad rfl)
 apply dq 3 rfl
 ·exact yq (qfa 2 rfl iS rfl rfl jv)
 apply dq 4 rfl
 ·exact yq (qld rfl j0)
 apply dq 5 rfl
 ·exact yq (ai rfl)
 apply dq 6 rfl
 ·exact yq (ai rfl)
 refine an [6] [5,4,3,2,1,0] 7 [(72,_)] gO ⟨rfl,trivial⟩ (by kernel_rfl) (by kernel_rfl) fun Ex=>?_
 apply da rfl rfl rfl ck yI5 rfl (by omega) (by omega)
 intro b73
 refine aj ?_
 apply n_d
 ·refine⟨?_,?_,?_,?_,?_,?_,trivial⟩
  ·apply ya rfl rfl;exact yq (ai rfl)
  ·apply ya rfl rfl;exact yq (qld rfl j0)
  ·apply ya rfl rfl;exact yq (qfa 2 rfl iS rfl rfl jv)
  ·apply ya rfl rfl;exact yq (ad rfl)
  ·apply ya rfl rfl;exact yq (ai rfl)
  apply ya rfl rfl;exact yq (ai rfl)
 apply dq 8 rfl
 ·apply yq
  apply aQ rfl Ey CK
  apply aF.one
  ·repeat (first | exact aH.here | apply aH.there)
  ·rfl
  ·exact sa
  apply aF.one
  ·repeat (first | exact aH.here | apply aH.there)
  ·rfl
  ·exact sa
  apply aF.one
  ·repeat (first | exact aH.here | apply aH.there)
  ·rfl
  ·exact sa
  exact aF.nil
 refine an [8,5] [4,3,2,1,0] 9 [(74,_)] gO ⟨rfl,trivial⟩ (by kernel_rfl) (by kernel_rfl) fun Ex=>?_
 refine ei (us:=[_]) rfl rfl lM jZ CK rfl rfl rfl rfl rfl (fun b75=>?_)
 refine aj ?_
 apply n_d
 ·refine⟨?_,?_,?_,?_,?_,trivial⟩
  ·apply ya rfl rfl;exact yq (qld rfl j0)
  ·apply ya rfl rfl;exact yq (qfa 2 rfl iS rfl rfl jv)
  ·apply ya rfl rfl;exact yq (ad rfl)
  ·apply ya rfl rfl;exact yq (ai rfl)
  apply ya rfl rfl;exact yq (ai rfl)
 refine an [4,3,2,1] [0] 10 [(70,_),(75,_)] gO ⟨rfl,rfl,trivial⟩ (by kernel_rfl) (by kernel_rfl) fun Ex=>?_
 apply dV (sz:=3) rfl rfl rfl lM EC rfl rfl
 ·exact tk
 ·exact tk
 ·rfl
 ·rfl
 ·simp only[maxLen];omega
 ·omega
 intro v76
 refine db (v:=v76) tk fun _ hs76=>?_
 obtain⟨a76,cap76,rfl,hs76,_,_⟩:=hs76
 refine aj ?_
 apply n_d
 ·refine⟨?_,trivial⟩
  apply ya rfl rfl;exact yq (ai rfl)
 apply dq 11 rfl
 ·exact yq (ad rfl)
 apply dq 12 rfl
 ·exact yq (qfa 2 rfl iS rfl rfl jv)
 refine an [12,0,11] [] 13 [(78,_),(76,_)] gO ⟨rfl,rfl,trivial⟩ (by kernel_rfl) (by kernel_rfl) fun Ex=>?_
 refine st rfl rfl rfl jv rfl ?_
 refine aj ?_
 apply n_d
 ·exact trivial
 refine bd (by kernel_rfl) ?_
 refine nz<|mv rfl rfl<|mv rfl rfl<|mv rfl rfl<|l_q rfl (ba rfl rfl) ?_
 refine l_q rfl (ad rfl)<|l_q rfl (qfa 1 rfl iS rfl rfl yS3)<|st rfl rfl rfl yS3 rfl ?_
 refine lz<|mv rfl rfl<|asg rfl rfl<|lc<|rt ?_
 apply aJ (.inl rfl) ([bj pr (s.take c)])
 ·apply cO rfl
  exact .tmp rfl
 ·exact⟨by rw[hat],rfl⟩
 rw[show rowOf RB.cells rs ++ ([Value.agg #[.int .i64 (s.stop:Nat),.bool true,.slice (some ⟨b73,0,none⟩) c.toNat c.toNat]].flatMap fun x=>x.cells.toList).toArray.toList=rowOf RB.cells (rs ++ [⟨((s.stop:Nat):Int),true,c,b73⟩]) from by rw[jf];rfl];refine ez (v:=.slice a76 (rs.length+1) cap76) (n:=rs.length+1) (hx.new hs hfr b73) (cW hs) (y8 hs (by omega) hfr) (by simp) ?_;(exact en)
theorem rfind_ok (o:Int):aG Tryz.prog 154 #[.pointer (some ⟨pr,0,none⟩),.int .i64 o] [bj pr s] (fun v L=>((∃ i c,i < s.all.length∧s.all[i]?=some (o,c)∧s.dead o=false∧v=.int .i64 (i:Nat))∨((∀ c,(o,c)∉s.bl)∧v=.int .i64 (-1)))∧L= [bj pr s]):=by
 have hst:=hs.stop_eq
 have hsn:=ArS.sum_nonneg hs.chain
 refine aq Gn Tryz.func154 rfl rfl rfl fun Fr w0=>aR ?_
 refine mu .here fun va rs hx=>?_
 have hlen:=hx.len
 refine cw (.there .here) fun _ hva=>?_
 obtain⟨a0,cap,rfl,ha,_,_⟩:=hva
 refine sr<|asg rfl rfl<|lc<|ah<|sr<|asg rfl rfl<|lc<|ax ?_
 refine bw (fun i:Nat=>i≤rs.length∧∀(j:Nat) (q:Int×Int),j < i→s.all[j]?=some q→¬ (s.dead q.1=false∧q.1=o)) (fun i=>[(0,.pointer (some ⟨pr,0,none⟩)),(1,.int .i64 o),(5,.int .i64 (i:Nat))]) (fun _=>pt pr (.cells #[.int .i64 s.limit,.int .i64 (s.stop:Nat),(.slice a0 rs.length cap)] 51 (0,0))::aE 119 3 (.slice a0 rs.length cap) rs.length (rowOf RB.cells rs)::Fr) (fun i=>rs.length-i) 0 ⟨Nat.zero_le _,fun j q h=>by omega⟩ ⟨rfl,rfl,rfl,trivial⟩ (by(exact en)) ?_
 rintro i ⟨hi,hno⟩
 refine ah<|sr<|mv rfl rfl<|mv rfl rfl<|l_q rfl (ad rfl)<|l_q rfl (qfa 2 rfl iS rfl rfl jv)<|l_q rfl (qld rfl j0) ?_
 refine l_q rfl (ql rfl lM)<|l_q rfl (qi rfl rfl (aU ·))<|lc<|aA rfl (fun h=>?_) fun h=>?_
 ·skip
  obtain⟨g,rfl⟩:=ha (by omega)
  obtain⟨r,hr⟩:∃ r,rs[i]?=some r:=⟨rs[i],List.getElem?_eq_getElem (by omega)⟩
  obtain⟨hra,hrl⟩:=hx.at hr
  have hpos:=(ArS.chain_pos hs.chain _ (List.mem_of_getElem? hra)).2
  have hpo:=(ArS.chain_pos hs.chain _ (List.mem_of_getElem? hra)).1
  dsimp only at hpos hpo
  have hcell:∀ j v,r.cells[j]?=some v→(rowOf RB.cells rs)[0+((i:Nat):Int).toNat*3+j]?=some v:=fun j v hv=>by
   have hj:j < 3:=by rcases Nat.lt_or_ge j 3 with q | q;exact q;rw[List.getElem?_eq_none (by rw[rb3];exact q)] at hv;cases hv
   rw[Nat.zero_add,Int.toNat_natCast,dA rb3 rs i j r hr hj]
   exact hv
  have hnext:¬ (s.dead r.off=false∧r.off=o)→∀(j:Nat) (q:Int×Int),j < i+1→s.all[j]?=some q→¬ (s.dead q.1=false∧q.1=o):=fun hn j q hj hq=>by
   rcases Nat.lt_or_ge j i with q2 | q2
   ·exact hno j q q2 hq
   obtain rfl:j=i:=by omega
   rw[hra] at hq
   cases hq
   exact hn
  refine al<|ak<|ah<|ax<|sr<|mv rfl rfl<|l_q rfl (ad rfl)<|l_q rfl (qfa 2 rfl iS rfl rfl jv)<|l_q rfl (qld rfl j0) ?_
  refine mv rfl rfl<|l_q rfl (aT rfl rfl lM jZ (by omega)) ?_
  refine l_q rfl (qfa 1 rfl ly rfl rfl yS4) ?_
  apply l_q rfl
  ·apply bf rfl yA4
   ·exact tk
   exact hcell 1 _ rfl
  refine mv rfl rfl<|bD (t:=23) rfl (fun z1=>?_) fun z1=>?_
  ·skip
   have hdd:s.dead r.off=false:=by cases hd:s.dead r.off with | false=>rfl | true=>rw[hd,z1] at hrl;cases hrl
   refine au rfl rfl<|mv rfl rfl<|au rfl rfl<|l_q rfl (ad rfl)<|au rfl rfl<|l_q rfl (qfa 2 rfl iS rfl rfl jv)<|au rfl rfl<|l_q rfl (qld rfl j0) ?_
   refine au rfl rfl<|mv rfl rfl<|au rfl rfl<|l_q rfl (aT rfl rfl lM jZ (by omega)) ?_
   refine au rfl rfl<|l_q rfl (qfa 0 rfl ly rfl rfl yS3)<|au rfl rfl ?_
   apply l_q rfl
   ·apply bf rfl yA3
    ·exact tk
    exact hcell 0 _ rfl
   refine au rfl rfl<|mv rfl rfl<|au rfl rfl<|l_q rfl (qi rfl rfl (aZ ·))<|l_q rfl (aL rfl rfl)<|lc<|aA rfl (fun z2=>?_) fun z2=>?_
   ·skip
    obtain rfl:r.off=o:=by omega
    refine sr<|mv rfl rfl<|asg rfl rfl<|lc<|rt ?_
    apply aJ (.inl rfl) ([bj pr s])
    ·apply cO rfl
     exact .tmp rfl
    ·exact⟨.inl ⟨i,r.c,by omega,hra,hdd,rfl⟩,rfl⟩
    refine ez (v:=.slice (some ⟨g,0,none⟩) rs.length cap) hx rfl rfl rfl ?_;(exact en)
   refine al<|aV<|ak<|aB<|mv rfl rfl<|l_q rfl (ba rfl rfl) ?_
   refine asg rfl rfl<|aj ?_
   apply aO ((i+1))
   ·exact⟨by omega,hnext (by omega)⟩
   ·omega
   ·exact⟨rfl,rfl,rfl,trivial⟩
   exact en
  have hdd:s.dead r.off=true:=by cases hd:s.dead r.off with | true=>rfl | false=>rw[hd,z1] at hrl;cases hrl
  refine ar rfl rfl rfl rfl<|ar rfl rfl rfl rfl<|ar rfl rfl rfl rfl<|ar rfl rfl rfl rfl<|ar rfl rfl rfl rfl<|ar rfl rfl rfl rfl<|ar rfl rfl rfl rfl<|ar rfl rfl rfl rfl<|ar rfl rfl rfl rfl<|ar rfl rfl rfl rfl<|l_q rfl (aL rfl rfl)<|lc<|bR rfl<|al<|aV<|ak<|aB<|mv rfl rfl<|l_q rfl (ba rfl rfl) ?_
  refine asg rfl rfl<|aj ?_
  apply aO ((i+1))
  ·exact⟨by omega,hnext (by rw[hdd];simp)⟩
  ·omega
  ·exact⟨rfl,rfl,rfl,trivial⟩
  exact en
 obtain rfl:i=rs.length:=by omega
 have hnb:∀ c,(o,c)∉s.bl:=fun c hc=>by
  obtain⟨h1,h2⟩:=cr.1 hc
  obtain⟨j,hj,he⟩:=List.getElem_of_mem h1
  exact hno j (o,c) (by omega) (by rw[List.getElem?_eq_getElem hj,he]) ⟨h2,rfl⟩
 refine xt rfl<|nz<|asg rfl rfl<|lc<|rt ?_
 apply aJ (.inl rfl) ([bj pr s])
 ·apply cO rfl
  exact .tmp rfl
 ·exact⟨.inr ⟨hnb,rfl⟩,rfl⟩
 refine ez (v:=.slice a0 rs.length cap) hx rfl rfl rfl ?_;(exact en)
theorem mR (p k:Nat) (ns:List Int) (hk:ns.length=k) (hkb:k≤1000):
  aG Tryz.prog 74 #[.pointer (some ⟨pr,0,none⟩),.slice (some ⟨p,0,none⟩) k k] [pt p (.cells (ints ns).toArray 3 (0,0)),bj pr s] (fun v L=>
   ((∃ n∈ns,n < 1)∧v=.tuple #[.slice none 0 0,.int .i64 21]∧L= [bj pr s])∨
   ((∀ n∈ns,1≤n)∧((∃ n∈ns,1048576 < n)∨s.limit-s.live < dY ns)∧v=.tuple #[.slice none 0 0,.int .i64 22]∧L= [bj pr s])∨
   ((∀ n∈ns,1≤n∧n≤1048576)∧s.live+dY ns≤s.limit∧∃ vo,v=.tuple #[vo,.int .i64 0]∧L= [aE 3 1 vo k (ints (s.offs ns)),bj pr (s.takes ns)])):=by
 subst hk
 have hst:=hs.stop_eq
 have hlim:=hs.limit
 refine aq Ht Tryz.func74 rfl rfl rfl fun Fr w0=>aR ?_
 refine sr<|asg rfl rfl<|asg rfl rfl<|lc<|ah<|sr<|asg rfl rfl<|lc<|ax ?_
 refine bw (fun j:Nat=>j≤ns.length∧∀ n∈ns.take j,1≤n) (fun j=>[(0,.pointer (some ⟨pr,0,none⟩)),(1,.slice (some ⟨p,0,none⟩) ns.length ns.length),(6,.int .i64 (j:Nat))]) (fun _=>pt p (.cells (ints ns).toArray 3 (0,0))::bj pr s::Fr) (fun j=>ns.length-j) 0 ⟨Nat.zero_le _,by simp⟩ ⟨rfl,rfl,rfl,trivial⟩ (by(exact en)) ?_
 rintro j ⟨hj,hpos⟩
 refine ah<|sr<|mv rfl rfl<|mv rfl rfl<|l_q rfl (ql rfl bn)<|l_q rfl (qi rfl rfl (aU ·))<|lc<|aA rfl (fun h=>?_) fun h=>?_
 ·skip
  have hjl:j < ns.length:=by omega
  refine al<|ak<|ah<|ax<|sr<|mv rfl rfl<|mv rfl rfl<|l_q rfl (ay rfl rfl bn yS3 (by omega)) ?_
  apply l_q rfl
  ·apply fa rfl yA3
   ·exact tk
   rw[Nat.zero_add,Int.toNat_natCast];simp[ints,hjl];rfl
  refine l_q rfl (qi rfl rfl (aU ·))<|lc<|aA rfl (fun q=>?_) fun q=>?_
  ·exact sr<|asg rfl rfl<|asg rfl rfl<|lc<|rt<|fr2 rfl ([bj pr s]) (.tmp rfl) (.tmp rfl) (.inl ⟨⟨ns[j],List.getElem_mem hjl,q⟩,rfl,rfl⟩)
  refine al<|aV<|ak<|aB<|mv rfl rfl<|l_q rfl (ba rfl rfl) ?_
  refine asg rfl rfl<|aj ?_
  apply aO ((j+1))
  ·exact⟨by omega,fun n hn=>by rw[List.take_succ_eq_append_getElem hjl] at hn;rcases List.mem_append.1 hn with q2 | q2;exact hpos n q2;rw[List.mem_singleton.1 q2];omega⟩
  ·omega
  ·exact⟨rfl,rfl,rfl,trivial⟩
  exact en
 obtain rfl:j=ns.length:=by omega
 rw[List.take_length] at hpos
 refine xt rfl<|nz<|mv rfl rfl<|lc1 rfl rfl rfl (A0 pr s hs) ?_
 refine asg rfl rfl<|lc<|ah<|sr<|asg rfl rfl<|lc<|ax ?_
 have hnn:=fun j=>jA (ns:=ns.take j) fun n hn=>hpos n (List.mem_of_mem_take hn)
 have hroom:=hs.room
 refine bw (fun j:Nat=>j≤ns.length∧(∀ n∈ns.take j,n≤1048576)∧s.live+dY (ns.take j)≤s.limit) (fun j=>[(0,.pointer (some ⟨pr,0,none⟩)),(1,.slice (some ⟨p,0,none⟩) ns.length ns.length),(7,.int .i64 (s.live+dY (ns.take j))),(8,.int .i64 (j:Nat))]) (fun _=>pt p (.cells (ints ns).toArray 3 (0,0))::bj pr s::Fr) (fun j=>ns.length-j) 0 ⟨Nat.zero_le _,by simp,by simp[dY];omega⟩ ⟨rfl,rfl,by simp[dY];rfl,rfl,trivial⟩ (by(exact en)) ?_
 rintro j ⟨hj,hsm,hsu⟩
 have hnj0:=hnn j
 refine ah<|sr<|mv rfl rfl<|mv rfl rfl<|l_q rfl (ql rfl bn)<|l_q rfl (qi rfl rfl (aU ·))<|lc<|aA rfl (fun h=>?_) fun h=>?_
 ·skip
  have hjl:j < ns.length:=by omega
  have hnj:=hpos ns[j] (List.getElem_mem hjl)
  have hcj:=cF hnj
  have hsj:dY (ns.take (j+1))=dY (ns.take j)+aC ns[j]:=by rw[dU hjl,om]
  have hsp:=jz hjl
  have hs2:=(jA (ns:=ns.drop (j+1)) fun n hm=>hpos n (List.mem_of_mem_drop hm)).1
  refine fw (L':=bj pr s::pt p (.cells (ints ns).toArray 3 (0,0))::Fr) (by(exact en)) ?_
  refine mu .here fun va rs hx=>?_
  refine al<|ak<|ah<|ax<|sr<|mv rfl rfl<|mv rfl rfl<|l_q rfl (ay rfl rfl bn yS3 (by omega)) ?_
  apply l_q rfl
  ·apply fa rfl yA3
   ·exact tk
   rw[Nat.zero_add,Int.toNat_natCast];simp[ints,hjl];rfl
  refine lc1 rfl rfl rfl (Class_ok ns[j]) ?_
  refine asg rfl rfl<|lc<|ah<|sr<|mv rfl rfl<|l_q rfl (qi rfl rfl (aZ ·))<|mv rfl rfl<|bD (t:=40) rfl (fun z1=>?_) fun z1=>?_
  ·skip
   have hbig:1048576 < ns[j]:=by
    rcases Int.lt_or_le 1048576 ns[j] with q | q
    ·exact q
    have:=hcj.2.2 q;omega
   refine ar rfl rfl rfl rfl<|ar rfl rfl rfl rfl<|ar rfl rfl rfl rfl<|ar rfl rfl rfl rfl<|ar rfl rfl rfl rfl<|ar rfl rfl rfl rfl<|ar rfl rfl rfl rfl<|ar rfl rfl rfl rfl<|l_q rfl (aL rfl rfl)<|lc<|aY rfl<|sr<|asg rfl rfl<|asg rfl rfl<|lc<|rt ?_
   apply aJ (.inl rfl) ([bj pr s])
   ·apply bS rfl
    ·exact .tmp rfl
    exact .tmp rfl
   ·exact .inr (.inl ⟨hpos,.inl ⟨_,List.getElem_mem hjl,hbig⟩,rfl,rfl⟩)
   refine ez (v:=va) (n:=rs.length) hx rfl rfl rfl ?_;(exact en)
  refine au rfl rfl<|mv rfl rfl<|au rfl rfl<|mv rfl rfl<|au rfl rfl<|l_q rfl (ad rfl)<|au rfl rfl<|l_q rfl (qfa 0 rfl iS rfl rfl yS3)<|au rfl rfl<|l_q rfl (qld rfl yA3) ?_
  refine au rfl rfl<|mv rfl rfl<|au rfl rfl<|l_q rfl (e9 rfl rfl) ?_
  refine au rfl rfl<|l_q rfl (qi rfl rfl (cU ·))<|l_q rfl (aL rfl rfl)<|lc<|aA rfl (fun z2=>?_) fun z2=>?_
  ·refine sr<|asg rfl rfl<|asg rfl rfl<|lc<|rt ?_
   apply aJ (.inl rfl) ([bj pr s])
   ·apply bS rfl
    ·exact .tmp rfl
    exact .tmp rfl
   ·exact .inr (.inl ⟨hpos,.inr (by omega),rfl,rfl⟩)
   refine ez (v:=va) (n:=rs.length) hx rfl rfl rfl ?_;(exact en)
  have hsmall:ns[j]≤1048576:=by
   rcases Int.lt_or_le 1048576 ns[j] with q | q
   ·have:aC ns[j]=0:=by unfold aC;rw[if_pos (.inr q)]
    exact absurd this z1
   exact q
  have hsm':∀ n∈ns.take (j+1),n≤1048576:=fun n hn=>by
   rw[dU hjl] at hn
   rcases List.mem_append.1 hn with q2 | q2
   ·exact hsm n q2
   rw[List.mem_singleton.1 q2];exact hsmall
  refine jy (X:=Unit) (LL:=fun _=>bj pr s::pt p (.cells (ints ns).toArray 3 (0,0))::Fr) (fun w hs=>⟨(),ez (v:=va) (n:=rs.length) hx rfl rfl rfl (by(exact en)) w hs⟩) fun _=>?_
  refine al<|ak<|aB<|mv rfl rfl<|mv rfl rfl<|l_q rfl (ba rfl rfl) ?_
  refine asg rfl rfl<|aj<|aV<|ak<|aB<|mv rfl rfl<|l_q rfl (ba rfl rfl) ?_
  refine asg rfl rfl<|aj ?_
  apply aO ((j+1))
  ·exact⟨by omega,hsm',by omega⟩
  ·omega
  ·exact⟨rfl,rfl,congrArg (fun z=>some (Value.int .i64 z)) (by omega),rfl,trivial⟩
  exact en
 obtain rfl:j=ns.length:=by omega
 rw[List.take_length] at hsm hsu
 refine xt rfl<|nz<|asg rfl rfl<|lc<|ah<|sr<|asg rfl rfl<|lc<|ax ?_
 refine bw (fun x:Nat×Value=>x.1≤ns.length) (fun x=>[(0,.pointer (some ⟨pr,0,none⟩)),(1,.slice (some ⟨p,0,none⟩) ns.length ns.length),(10,x.2),(11,.int .i64 (x.1:Nat))]) (fun x=>aE 3 1 x.2 x.1 (ints (s.offs (ns.take x.1)))::bj pr (s.takes (ns.take x.1))::pt p (.cells (ints ns).toArray 3 (0,0))::Fr) (fun x=>ns.length-x.1) (0,.slice none 0 0) (Nat.zero_le _) ⟨rfl,rfl,rfl,rfl,trivial⟩ (fun w h=>eh (h.perm (by simp;exact List.Perm.swap _ _ _))) ?_
 rintro⟨j,v10⟩ hj
 dsimp only at hj ⊢
 refine ah<|sr<|mv rfl rfl<|mv rfl rfl<|l_q rfl (ql rfl bn)<|l_q rfl (qi rfl rfl (aU ·))<|lc<|aA rfl (fun h3=>?_) fun h3=>?_
 ·skip
  have hjl:j < ns.length:=by omega
  have hnj:=hpos ns[j] (List.getElem_mem hjl)
  have hcj:=(cF hnj).2.2 (hsm _ (List.getElem_mem hjl))
  have hsp:=jz hjl
  have et:(s.takes (ns.take j)).take (aC ns[j])=s.takes (ns.take (j+1)):=by rw[dU hjl,qc]
  have eo:ints (s.offs (ns.take j)) ++ #[Value.int .i64 (((s.takes (ns.take j)).at (aC ns[j]):Nat):Int)].toList=ints (s.offs (ns.take (j+1))):=by rw[dU hjl,tw];simp[ints]
  have hs2:=(jA (ns:=ns.drop (j+1)) fun n hm=>hpos n (List.mem_of_mem_drop hm)).1
  have htk:=oi (ns:=ns.take j) hs (fun n hm=>⟨hpos n (List.mem_of_mem_take hm),hsm n (List.mem_of_mem_take hm)⟩) (by omega)
  refine al<|ak<|ah<|ax<|sr<|mv rfl rfl<|mv rfl rfl<|l_q rfl (ay rfl rfl bn yS3 (by omega)) ?_
  apply l_q rfl
  ·apply fa rfl yA3
   ·exact tk
   rw[Nat.zero_add,Int.toNat_natCast];simp[ints,hjl];rfl
  refine lc1 rfl rfl rfl (Class_ok ns[j]) ?_
  refine asg rfl rfl<|lz<|mv rfl rfl<|mv rfl rfl ?_
  refine lc1 rfl rfl rfl (zi pr (s.takes (ns.take j)) htk.1 (aC ns[j]) (fZ hnj (hsm _ (List.getElem_mem hjl))) (by rw[htk.2.1,htk.2.2];omega)) ?_
  refine asg rfl rfl<|lr<|mv rfl rfl<|mv rfl rfl ?_
  refine aW [_] rfl rfl bn yS3 yZ3 rfl rfl rfl rfl (fun b69=>?_)
  apply dV (sz:=1) rfl rfl rfl bn yI3 rfl rfl
  ·exact tk
  ·exact tk
  ·rfl
  ·rfl
  ·simp only[maxLen];omega
  ·omega
  intro v70
  refine asg rfl rfl<|aj<|aV<|ak<|aB<|mv rfl rfl<|l_q rfl (ba rfl rfl) ?_
  refine asg rfl rfl<|aj ?_
  rw[et,eo]
  apply aO ((j+1,v70))
  ·exact(show j+1≤ns.length by omega)
  ·dsimp only;omega
  ·exact⟨rfl,rfl,rfl,rfl,trivial⟩
  exact en
 refine xt rfl<|nz<|mv rfl rfl<|asg rfl rfl<|asg rfl rfl<|lc<|rt ?_
 obtain rfl:j=ns.length:=by omega
 rw[List.take_length]
 exact fr2 rfl ([aE 3 1 v10 ns.length (ints (s.offs ns)),bj pr (s.takes ns)]) (.tmp rfl) (.tmp rfl) (.inr (.inr ⟨fun n hn=>⟨hpos n hn,hsm n hn⟩,hsu,_,rfl,rfl⟩))
theorem vC (p:Nat) (n:Int):aG Tryz.prog 74 #[.pointer (some ⟨pr,0,none⟩),.slice (some ⟨p,0,none⟩) 1 1] [pt p (.cells #[.int .i64 n] 3 (0,0)),bj pr s] (fun v L=>
   (n < 1∧v=.tuple #[.slice none 0 0,.int .i64 21]∧L= [bj pr s])∨
   (1≤n∧(1048576 < n∨s.limit-s.live < aC n)∧v=.tuple #[.slice none 0 0,.int .i64 22]∧L= [bj pr s])∨
   (1≤n∧n≤1048576∧s.live+aC n≤s.limit∧∃ vo,v=.tuple #[vo,.int .i64 0]∧L= [aE 3 1 vo 1 [.int .i64 ((s.at (aC n):Nat):Int)],bj pr (s.take (aC n))])):=
 (mR pr s hs p 1 [n] rfl (by decide)).mono fun v L h=>by
  rcases h with⟨h1,h2,h3⟩ | ⟨h1,h2,h3,h4⟩ | ⟨h1,h2,h3⟩
  ·exact .inl ⟨by simpa using h1,h2,h3⟩
  ·exact .inr (.inl ⟨by simpa using h1,by simpa [dY] using h2,h3,h4⟩)
  have h4:=h1 n (by simp)
  exact .inr (.inr ⟨h4.1,h4.2,by simpa [dY] using h2,h3⟩)
theorem vB (p:Nat) (a b:Int) (ha:1≤a) (hb:1≤b):aG Tryz.prog 74 #[.pointer (some ⟨pr,0,none⟩),.slice (some ⟨p,0,none⟩) 2 2] [pt p (.cells #[.int .i64 a,.int .i64 b] 3 (0,0)),bj pr s] (fun v L=>
   ((1048576 < a∨1048576 < b∨s.limit-s.live < aC a+aC b)∧v=.tuple #[.slice none 0 0,.int .i64 22]∧L= [bj pr s])∨
   (a≤1048576∧b≤1048576∧s.live+(aC a+aC b)≤s.limit∧∃ vo,v=.tuple #[vo,.int .i64 0]∧L= [aE 3 1 vo 2 [.int .i64 ((s.at (aC a):Nat):Int),.int .i64 (((s.take (aC a)).at (aC b):Nat):Int)],bj pr ((s.take (aC a)).take (aC b))])):=
 (mR pr s hs p 2 [a,b] rfl (by decide)).mono fun v L h=>by
  rcases h with⟨⟨n,h1,h11⟩,h2,h3⟩ | ⟨h1,h2,h3,h4⟩ | ⟨h1,h2,h3⟩
  ·simp at h1;omega
  ·exact .inl ⟨by simpa [dY,or_assoc] using h2,h3,h4⟩
  exact .inr ⟨(h1 a (by simp)).2,(h1 b (by simp)).2,by simpa [dY] using h2,h3⟩
theorem qY (n:Int):aG Tryz.prog 31 #[.pointer (some ⟨pr,0,none⟩),.int .i64 n] [bj pr s] (fun v L=>
   (n < 1∧v=.tuple #[.int .i64 0,.int .i64 21]∧L= [bj pr s])∨
   (1≤n∧(1048576 < n∨s.limit-s.live < aC n)∧v=.tuple #[.int .i64 0,.int .i64 22]∧L= [bj pr s])∨
   (1≤n∧n≤1048576∧s.live+aC n≤s.limit∧v=.tuple #[.int .i64 (s.at (aC n):Nat),.int .i64 0]∧L= [bj pr (s.take (aC n))])):=by
 refine aq HT Tryz.func31 rfl rfl rfl fun Fr w0=>aR ?_
 refine sr<|asg rfl rfl<|asg rfl rfl<|lz<|mv rfl rfl<|mv rfl rfl ?_
 refine aW [_] rfl rfl bn yS3 yZ3 rfl rfl rfl rfl (fun b11=>?_)
 refine lcf rfl rfl rfl (vC pr s hs b11 n) ?_
 rintro v L' (⟨hb,rfl,rfl⟩ | ⟨h1,hb,rfl,rfl⟩ | ⟨h1,h2,hb,vo,rfl,rfl⟩)
 refine bF ?_
 ·skip
  refine mv rfl rfl<|l_q rfl (aa rfl ga) ?_
  refine l_q rfl (aa rfl ga) ?_
  refine asg rfl rfl<|asg rfl rfl<|lc<|ah<|sr<|mv rfl rfl<|l_q rfl (qi rfl rfl (aI ·))<|lc<|aA rfl (fun z=>?_) fun z=>?_
  ·exact sr<|mv rfl rfl<|asg rfl rfl<|asg rfl rfl<|lc<|rt<|fr2 rfl ([bj pr s]) (.tmp rfl) (.tmp rfl) (.inl ⟨hb,rfl,rfl⟩)
  exact absurd z (by decide)
 ·skip
  refine mv rfl rfl<|l_q rfl (aa rfl ga) ?_
  refine l_q rfl (aa rfl ga) ?_
  refine asg rfl rfl<|asg rfl rfl<|lc<|ah<|sr<|mv rfl rfl<|l_q rfl (qi rfl rfl (aI ·))<|lc<|aA rfl (fun z=>?_) fun z=>?_
  ·exact sr<|mv rfl rfl<|asg rfl rfl<|asg rfl rfl<|lc<|rt<|fr2 rfl ([bj pr s]) (.tmp rfl) (.tmp rfl) (.inr (.inl ⟨h1,hb,rfl,rfl⟩))
  exact absurd z (by decide)
 refine bF ?_
 refine db (.here) fun _ hsh=>?_
 obtain⟨a8,c8,rfl,ha8,_,_⟩:=hsh
 obtain⟨g8,rfl⟩:=ha8 (by decide)
 refine mv rfl rfl<|l_q rfl (aa rfl ga) ?_
 refine l_q rfl (aa rfl ga) ?_
 refine asg rfl rfl<|asg rfl rfl<|lc<|ah<|sr<|mv rfl rfl<|l_q rfl (qi rfl rfl (aI ·))<|lc<|aA rfl (fun z=>?_) fun z=>?_
 ·exact absurd rfl z
 refine al<|nz<|mv rfl rfl ?_
 first | refine l_q rfl (aM 0 rfl rfl bn yS3 (by omega)) ?_ | refine l_q rfl (ay rfl rfl bn yS3 (by omega)) ?_
 apply l_q rfl
 ·apply bf rfl yA3
  ·exact tk
  exact rfl
 exact asg rfl rfl<|asg rfl rfl<|lc<|rt<|fr2 rfl ([bj pr (s.take (aC n))]) (.tmp rfl) (.tmp rfl) (.inr (.inr ⟨h1,h2,hb,rfl,rfl⟩))
omit hs in
theorem qI:∀ {os:List Int} {s:ArS},s.ok→os.Nodup→(∀ o∈os,∃ c,(o,c)∈s.bl)→(s.gives os).ok
 | [],s,hs,_,_=>hs
 | o::r,s,hs,hn,hlv=>by
  rw[List.nodup_cons] at hn
  obtain⟨c,hc⟩:=hlv o List.mem_cons_self
  refine qI (os:=r) (s:=s.give o) (rQ hs hc) hn.2 fun o' ho'=>?_
  obtain⟨c',hc'⟩:=hlv o' (List.mem_cons_of_mem _ ho')
  exact⟨c',(rR hs hc).2 ⟨hc',fun e=>by rw[Prod.mk.injEq] at e;exact hn.1 (e.1 ▸ ho')⟩⟩
theorem A2 (p k:Nat) (os:List Int) (hk:os.length=k) (hkb:k≤1000) (hnd:os.Nodup) (hlv:∀ o∈os,∃ c,(o,c)∈s.bl):
  aG Tryz.prog 166 #[.pointer (some ⟨pr,0,none⟩),.slice (some ⟨p,0,none⟩) k k] [pt p (.cells (ints os).toArray 3 (0,0)),bj pr s] (fun v L=>v=.int .i64 0∧L= [bj pr (s.gives os)]):=by
 subst hk
 refine aq Gc Tryz.func166 rfl rfl rfl fun Fr w0=>aR ?_
 refine sr<|asg rfl rfl<|lc<|ah<|sr<|asg rfl rfl<|lc<|ax ?_
 refine bw (fun j:Nat=>j≤os.length) (fun j=>[(0,.pointer (some ⟨pr,0,none⟩)),(1,.slice (some ⟨p,0,none⟩) os.length os.length),(5,.int .i64 (j:Nat))]) (fun _=>pt p (.cells (ints os).toArray 3 (0,0))::bj pr s::Fr) (fun j=>os.length-j) 0 (Nat.zero_le _) ⟨rfl,rfl,rfl,trivial⟩ (by(exact en)) ?_
 rintro j hj
 refine ah<|sr<|mv rfl rfl<|mv rfl rfl<|l_q rfl (ql rfl bn)<|l_q rfl (qi rfl rfl (aU ·))<|lc<|aA rfl (fun h=>?_) fun h=>?_
 ·skip
  have hjl:j < os.length:=by omega
  obtain⟨c0,hc0⟩:=hlv os[j] (List.getElem_mem hjl)
  refine al<|ak<|ah<|ax<|sr<|mv rfl rfl<|mv rfl rfl<|mv rfl rfl<|l_q rfl (ay rfl rfl bn yS3 (by omega)) ?_
  apply l_q rfl
  ·apply fa rfl yA3
   ·exact tk
   rw[Nat.zero_add,Int.toNat_natCast];simp[ints,hjl];rfl
  refine lcf rfl rfl rfl (rfind_ok pr s hs os[j]) ?_
  rintro v L' ⟨⟨i,c,hi,hia,hid,rfl⟩ | ⟨hno,rfl⟩,rfl⟩
  refine bF ?_
  ·skip
   refine asg rfl rfl<|lc<|ah<|sr<|mv rfl rfl<|l_q rfl (qi rfl rfl (aU ·))<|lc<|aA rfl (fun z=>?_) fun z=>?_
   ·omega
   refine al<|nz<|asg rfl rfl<|lc<|ax ?_
   refine bw (fun i:Nat=>i≤j) (fun i=>[(0,.pointer (some ⟨pr,0,none⟩)),(1,.slice (some ⟨p,0,none⟩) os.length os.length),(5,.int .i64 (j:Nat)),(7,.int .i64 (i:Nat))]) (fun _=>pt p (.cells (ints os).toArray 3 (0,0))::bj pr s::Fr) (fun i=>j-i) 0 (Nat.zero_le _) ⟨rfl,rfl,rfl,rfl,trivial⟩ (by(exact en)) ?_
   rintro i hi2
   refine ah<|sr<|mv rfl rfl<|mv rfl rfl<|l_q rfl (qi rfl rfl (aU ·))<|lc<|aA rfl (fun h2=>?_) fun h2=>?_
   ·skip
    have hil:i < os.length:=by omega
    refine al<|ak<|ah<|ax<|ah<|aS mixed ?_
    apply dq 0 rfl
    ·exact yq (ai rfl)
    apply dq 1 rfl
    ·exact yq (ai rfl)
    apply dq 2 rfl
    ·exact yq (ay rfl rfl bn yS3 (by omega))
    apply dq 3 rfl
    ·apply yq
     apply fa rfl yA3
     ·exact tk
     rw[Nat.zero_add,Int.toNat_natCast];simp[ints,hil];rfl
    apply dq 4 rfl
    ·exact yq (ai rfl)
    apply dq 5 rfl
    ·exact yq (ai rfl)
    apply dq 6 rfl
    ·exact yq (ay rfl rfl bn yS3 (by omega))
    apply dq 7 rfl
    ·apply yq
     apply fa rfl yA3
     ·exact tk
     rw[Nat.zero_add,Int.toNat_natCast];simp[ints,hjl];rfl
    apply dq 8 rfl
    ·exact yq (qi rfl rfl (aZ ·))
    refine bd (by kernel_rfl) ?_
    refine ak<|aA rfl (fun h3=>?_) fun h3=>?_
    ·exact absurd ((List.getElem_inj hnd).1 h3) (by omega)
    refine al<|aV<|ak<|aB<|mv rfl rfl<|l_q rfl (ba rfl rfl) ?_
    refine asg rfl rfl<|aj ?_
    apply aO ((i+1))
    ·exact by omega
    ·omega
    ·exact⟨rfl,rfl,rfl,rfl,trivial⟩
    exact en
   refine xt rfl<|aV<|ak<|aB<|mv rfl rfl<|l_q rfl (ba rfl rfl) ?_
   refine asg rfl rfl<|aj ?_
   apply aO ((j+1))
   ·exact by omega
   ·omega
   ·exact⟨rfl,rfl,rfl,trivial⟩
   exact en
  exact absurd hc0 (hno c0)
 obtain rfl:j=os.length:=by omega
 refine xt rfl<|ak<|ah<|sr<|asg rfl rfl<|lc<|ax ?_
 refine bw (fun j:Nat=>j≤os.length) (fun j=>[(0,.pointer (some ⟨pr,0,none⟩)),(1,.slice (some ⟨p,0,none⟩) os.length os.length),(8,.int .i64 (j:Nat))]) (fun j=>pt p (.cells (ints os).toArray 3 (0,0))::bj pr (s.gives (os.take j))::Fr) (fun j=>os.length-j) 0 (Nat.zero_le _) ⟨rfl,rfl,rfl,trivial⟩ (by(exact en)) ?_
 rintro j hj
 refine ah<|sr<|mv rfl rfl<|mv rfl rfl<|l_q rfl (ql rfl bn)<|l_q rfl (qi rfl rfl (aU ·))<|lc<|aA rfl (fun h2=>?_) fun h2=>?_
 ·skip
  have hjl:j < os.length:=by omega
  obtain⟨c0,hc0⟩:=hlv os[j] (List.getElem_mem hjl)
  have hokj:(s.gives (os.take j)).ok:=qI hs (hnd.sublist (List.take_sublist _ _)) fun o ho=>hlv o (List.mem_of_mem_take ho)
  have hnin:os[j]∉os.take j:=fun hm=>by
   obtain⟨k,hk,he⟩:=List.getElem_of_mem hm
   rw[List.length_take] at hk
   rw[List.getElem_take] at he
   exact absurd ((List.getElem_inj hnd).1 he) (by omega)
  have hlj:(os[j],c0)∈(s.gives (os.take j)).bl:=oS.2 ⟨hc0,hnin⟩
  have eg:(s.gives (os.take j)).give os[j]=s.gives (os.take (j+1)):=by rw[List.take_succ_eq_append_getElem hjl,qJ]
  refine al<|ak<|ah<|ax<|sr<|mv rfl rfl<|mv rfl rfl<|mv rfl rfl<|l_q rfl (ay rfl rfl bn yS3 (by omega)) ?_
  apply l_q rfl
  ·apply fa rfl yA3
   ·exact tk
   rw[Nat.zero_add,Int.toNat_natCast];simp[ints,hjl];rfl
  refine lcf rfl rfl rfl (rfind_ok pr (s.gives (os.take j)) hokj os[j]) ?_
  rintro v L' ⟨⟨i,c,hi,hia,hid,rfl⟩ | ⟨hno,rfl⟩,rfl⟩
  refine bF ?_
  ·skip
   refine xi .here fun va rs hx=>?_
   have hlen:=hx.len
   refine db (.there .here) fun _ hva=>?_
   obtain⟨a0,cap,rfl,ha,_,_⟩:=hva
   obtain⟨g,rfl⟩:=ha (by omega)
   obtain⟨r,hr⟩:∃ r,rs[i]?=some r:=⟨rs[i],List.getElem?_eq_getElem (by omega)⟩
   have hra:=(hx.at hr).1
   rw[hia] at hra
   have hro:r.off=os[j]:=by have:=Option.some.inj hra;rw[Prod.mk.injEq] at this;exact this.1.symm
   have hset:(rowOf RB.cells rs).set (0+((i:Nat):Int).toNat*3+1) (.bool false)=rowOf RB.cells (rs.set i ⟨os[j],false,r.c,r.b⟩):=by
    rw[Nat.zero_add,Int.toNat_natCast]
    exact fU rb3 (by decide) rs i r hr (by rw[← hro];rfl)
   have hgv:=hx.give hokj hr
   rw[hro,eg] at hgv
   refine asg rfl rfl<|lr<|mv rfl rfl<|l_q rfl (ad rfl)<|l_q rfl (qfa 2 rfl iS rfl rfl jv)<|l_q rfl (qld rfl j0) ?_
   refine mv rfl rfl<|l_q rfl (aT rfl rfl lM jZ (by omega)) ?_
   refine l_q rfl (qfa 1 rfl ly rfl rfl yS4) ?_
   refine dp rfl rfl rfl yS4 rfl tk (by omega) hset ?_
   refine aj<|aV<|ak<|aB<|mv rfl rfl<|l_q rfl (ba rfl rfl) ?_
   refine asg rfl rfl<|aj ?_
   refine lF (L':=bj pr (s.gives (os.take (j+1)))::pt p (.cells (ints os).toArray 3 (0,0))::Fr) (ez (v:=.slice (some ⟨g,0,none⟩) rs.length cap) (n:=rs.length) (lim:=(s.gives (os.take j)).limit) (st:=(((s.gives (os.take j)).stop:Nat):Int)) hgv (by rw[(rP _ _).2,(rP _ _).2]) (by unfold ArS.stop;rw[jl,jl]) (by simp) (by(exact en))) ?_
   apply aO ((j+1))
   ·exact by omega
   ·omega
   ·exact⟨rfl,rfl,rfl,trivial⟩
   exact en
  exact absurd hlj (hno c0)
 obtain rfl:j=os.length:=by omega
 rw[List.take_length]
 exact xt rfl<|nz<|asg rfl rfl<|lc<|rt<|fr1 rfl ([bj pr (s.gives os)]) (.tmp rfl) ⟨rfl,rfl⟩
end
theorem wN (limit:Int):aG Tryz.prog 27 #[.int .i64 limit] [] (fun v L=>((limit < 0∨2097152 < limit)∧v=.tuple #[.pointer none,.int .i64 20]∧L= [])∨(0≤limit∧limit≤2097152∧∃ pr,v=.tuple #[.pointer (some ⟨pr,0,none⟩),.int .i64 0]∧L= [bj pr (ArS.new limit)])):=by
 refine aq HU Tryz.func27 rfl rfl rfl fun Fr w0=>aR ?_
 refine sr<|asg rfl rfl<|asg rfl rfl<|lc<|ah<|sr<|mv rfl rfl<|l_q rfl (qi rfl rfl (aU ·))<|mv rfl rfl<|bD (t:=6) rfl (fun h=>?_) fun h=>?_
 ·exact ar rfl rfl rfl rfl<|ar rfl rfl rfl rfl<|l_q rfl (aL rfl rfl)<|lc<|aY rfl<|sr<|asg rfl rfl<|asg rfl rfl<|lc<|rt<|fr2 rfl ([]) (.tmp rfl) (.tmp rfl) (.inl ⟨.inl h,rfl,rfl⟩)
 refine au rfl rfl<|mv rfl rfl<|au rfl rfl<|l_q rfl (qi rfl rfl (cU ·))<|l_q rfl (aL rfl rfl)<|lc<|aA rfl (fun h2=>?_) fun h2=>?_
 ·exact sr<|asg rfl rfl<|asg rfl rfl<|lc<|rt<|fr2 rfl ([]) (.tmp rfl) (.tmp rfl) (.inl ⟨.inr h2,rfl,rfl⟩)
 refine al<|nz<|mv rfl rfl ?_
 apply l_q rfl
 ·apply aQ rfl He Ha
  apply aF.one
  ·repeat (first | exact aH.here | apply aH.there)
  ·rfl
  ·exact sa
  apply aF.one
  ·repeat (first | exact aH.here | apply aH.there)
  ·rfl
  ·exact sa
  exact aF.nil
 refine aP rfl rfl fun b12=>asg rfl rfl<|asg rfl rfl<|lc<|rt ?_
 apply aJ (.inl rfl) ([bj b12 (ArS.new limit)])
 ·apply bS rfl
  ·exact .tmp rfl
  exact .tmp rfl
 ·exact .inr ⟨by omega,by omega,_,rfl,rfl⟩
 refine ez (v:=.slice none 0 0) (rs:=[]) (n:=0) ⟨rfl,fun r hr=>(by cases hr)⟩ rfl rfl rfl (fun w h=>(eh (e:=119) (sz:=3) h).perm (List.Perm.swap _ _ _))
end RefA
end Go.Proofs.YthkajgkagnenbaaGreatDoor
