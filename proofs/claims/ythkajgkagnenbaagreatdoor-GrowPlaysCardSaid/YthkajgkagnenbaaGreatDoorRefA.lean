import Derived.Test.YthkajgkagnenbaaGreatDoorRef04B
set_option linter.unusedVariables false
set_option linter.unusedSimpArgs false
set_option linter.unusedSectionVars false
set_option maxRecDepth 100000
namespace Go.Proofs.YthkajgkagnenbaaGreatDoor
namespace RefA
open Go.RowKit Go.Proofs Eng Ty Bits Search Arena
@[reducible] def Jj (pr:Nat) (s:ArS) (x:Value×List RB):List HP:=[pt pr (.cells #[.int .i64 s.limit,.int .i64 (s.stop:Nat),x.1] 51 (0,0)),aF 119 3 x.1 x.2.length (rowOf RB.cells x.2)]
def bd (pr:Nat) (s:ArS):HP:=wS (fun x:Value×List RB=>jy s x.2) (Jj pr s)
theorem ff {pr:Nat} {s s':ArS} (h1:s'.limit=s.limit) (h2:s'.all=s.all) (h3:s'.dead=s.dead):bd pr s'=bd pr s:=by
 unfold bd Jj jy ArS.stop
 rw[h1,h2,h3]
theorem lD {c:Cx} {fin:Exit->Act->World->Prop} {ds:List Deferred} {E:Env} {ks:List KI} {pr:Nat} {s:ArS} {L M:List HP} {y:Code} (ht:Take (bd pr s) L M) (k:∀ va rs,jy s rs->TC c fin ds E (pt pr (.cells #[.int .i64 s.limit,.int .i64 (s.stop:Nat),va] 51 (0,0))::aF 119 3 va rs.length (rowOf RB.cells rs)::M) y ks):TC c fin ds E L y ks:=
 lx (X:={x:Value×List RB // jy s x.2}) (LL:=fun x=>Jj pr s x.1 ++ M) (fun w hs=>let ⟨x,hp,h⟩:=cV.1 (hs.take ht);⟨⟨x,hp⟩,h⟩) fun x=>k x.1.1 x.1.2 x.2
theorem yN {c:Cx} {fin:Exit->Act->World->Prop} {ds:List Deferred} {E:Env} {ks:List KI} {pr:Nat} {s:ArS} {L M:List HP} {ops:Array Oper} {y:List Oper} (ht:Take (bd pr s) L M) (k:∀ va rs,jy s rs->TL c fin ds E (pt pr (.cells #[.int .i64 s.limit,.int .i64 (s.stop:Nat),va] 51 (0,0))::aF 119 3 va rs.length (rowOf RB.cells rs)::M) ops y ks):TL c fin ds E L ops y ks:=
 wN (X:={x:Value×List RB // jy s x.2}) (LL:=fun x=>Jj pr s x.1 ++ M) (fun w hs=>let ⟨x,hp,h⟩:=cV.1 (hs.take ht);⟨⟨x,hp⟩,h⟩) fun x=>k x.1.1 x.1.2 x.2
theorem eP {pr n:Nat} {s:ArS} {v:Value} {rs:List RB} {L R:List HP} {lim st:Int} (hp:jy s rs) (h1:s.limit=lim) (h2:((s.stop:Nat):Int)=st) (hn:rs.length=n) (he:dS L (pt pr (.cells #[.int .i64 lim,.int .i64 st,v] 51 (0,0))::aF 119 3 v n (rowOf RB.cells rs)::R)):dS L (bd pr s::R):=by
 subst h1 h2 hn
 exact fun w h=>cV.2 ⟨(v,rs),hp,he w h⟩
theorem Class_ok (n:Int):aK Tryz.prog 49 #[.int .i64 n] [] (fun v L=>v=.int .i64 (aH n)/\L= []):=by
 refine au Kf Tryz.func49 rfl rfl rfl fun Fr w0=>aZ ?_
 refine sr<|ar O O<|lc<|al<|sr<|mv O O<|ad O (qi O O (bj ·))<|mv O O<|bQ (t:=6) rfl (fun h=>?_) fun h=>?_
 ·refine ax O O O O<|ax O O O O<|ad O (aS O O)<|lc<|bk O<|sr<|ar O O<|lc<|rt<|cN O ([]) (.tmp rfl) ?_
  exact⟨by unfold aH;rw[if_pos (.inl h)],rfl⟩
 refine aA O O<|mv O O<|aA O O<|ad O (qi O O (di ·))<|ad O (aS O O)<|lc<|aG O (fun h2=>?_) fun h2=>?_
 ·refine sr<|ar O O<|lc<|rt<|cN O ([]) (.tmp rfl) ?_
  exact⟨by unfold aH;rw[if_pos (.inr h2)],rfl⟩
 have hlast:∀ e,e<=16->(∀ j,j < e->16*(2:Int) ^ j < n)->n<=16*2 ^ e->oD n=16*2 ^ e:=fun e he hno h=>xK h he hno
 refine aq<|an<|al<|sr<|ar O O<|lc<|aB ?_
 refine bK (fun e:Nat=>e<=16/\(∀ j,j < e->16*(2:Int) ^ j < n)/\(∀ j,j < e->1<=j->24*(2:Int) ^ j < n)) (fun e=>[(0,.int .i64 n),(3,.int .i64 (16*2 ^ e))]) (fun _=>Fr) (fun e=>17-e) 0 ⟨by omega,by omega,by omega⟩ ⟨rfl,rfl,trivial⟩ (dS.refl _) ?_
 rintro e ⟨he,hno,hmid⟩
 have pe:(2:Int) ^ (e+1)=2*2 ^ e:=by rw[Int.pow_succ];omega
 have p0:(1:Int)<=2 ^ e:=by have:=cr e;have:=Nat.two_pow_pos e;omega
 have p1:(2:Int) ^ e<=65536:=by
  have h1:2 ^ e<=2 ^ 16:=Nat.pow_le_pow_right (by decide) (by omega)
  have:=cr e
  omega
 have hprev:2<=e->24*(2:Int) ^ (e-1) < n/\2*(2:Int) ^ (e-1)=2 ^ e:=fun h2=>⟨hmid (e-1) (by omega) (by omega),by rw[show e=(e-1)+1 by omega,Int.pow_succ];simp;omega⟩
 refine al<|sr<|mv O O<|ad O (qi O O (bj ·))<|lc<|aG O (fun q=>?_) fun q=>?_
 ·skip
  have he16:e<=15:=by
   rcases Nat.lt_or_ge e 16 with h16 | h16
   ·omega
   obtain rfl:e=16:=by omega
   omega
  refine aq<|an<|al<|aB<|al<|sr<|mv O O<|mv O O<|ad O (qi O O (iB ·))<|lc<|aG O (fun r=>?_) fun r=>?_
  ·skip
   have ht:=hlast e he hno (by omega)
   have hcls:aH n=16*2 ^ e:=by
    unfold aH
    rw[if_neg (by omega),ht]
    by_cases h2e:2<=e
    ·have:=hprev h2e
     rw[if_neg (by omega)]
    have:e=0\/e=1:=by omega
    rcases this with rfl | rfl
    ·rw[if_neg (by omega)]
    rw[if_neg (by omega)]
   refine sr<|mv O O<|ar O O<|lc<|rt<|cN O ([]) (.tmp rfl) ?_
   exact⟨by rw[hcls],rfl⟩
  have hno':∀ j,j < e+1->16*(2:Int) ^ j < n:=fun j hj=>by
   by_cases hje:j=e
   ·subst hje;omega
   exact hno j (by omega)
  refine aq<|nz<|mv O O<|ad O (qi O O (di ·))<|mv O O<|bQ (t:=20) rfl (fun c1=>?_) fun c1=>?_
  ·refine aA O O<|mv O O<|aA O O<|mv O O<|aA O O<|ad O (eT O O) ?_
   refine aA O O<|ad O (dA O O) ?_
   refine aA O O<|ad O (qi O O (iB ·))<|ad O (aS O O)<|lc<|aG O (fun c2=>?_) fun c2=>?_
   ·skip
    have he1:1<=e:=by
     rcases Nat.eq_zero_or_pos e with h0 | h0
     ·subst h0;omega
     omega
    have ht:=hlast (e+1) (by omega) hno' (by omega)
    have hcls:aH n=24*2 ^ e:=by
     unfold aH
     rw[if_neg (by omega),ht,if_pos (by omega)]
     omega
    refine sr<|mv O O<|ad O (eT O O) ?_
    refine ad O (dA O O) ?_
    refine ar O O<|lc<|rt<|cN O ([]) (.tmp rfl) ?_
    exact⟨by rw[hcls];congr 1;omega,rfl⟩
   refine aq<|bz<|an<|aD<|mv O O<|ad O (dA O O) ?_
   refine ar O O<|ai ?_
   apply aU ((e+1))
   ·exact⟨by omega,hno',fun j hj h1=>by by_cases hje:j=e;(subst hje;omega);exact hmid j (by omega) h1⟩
   ·omega
   ·exact⟨rfl,congrArg (fun z=>some (Value.int .i64 z)) (by omega),trivial⟩
   exact en
  refine ax O O O O<|ax O O O O<|ax O O O O<|ax O O O O<|ax O O O O<|ad O (aS O O)<|lc<|cQ O<|aq<|bz<|an<|aD<|mv O O<|ad O (dA O O) ?_
  refine ar O O<|ai ?_
  apply aU ((e+1))
  ·exact⟨by omega,hno',fun j hj h1=>by by_cases hje:j=e;(subst hje;(have:(2:Int)*2 ^ (j-1)=2 ^ j:=by rw[show j=(j-1)+1 by omega,Int.pow_succ];simp;omega);(have h3:(1:Int)<=2 ^ (j-1):=by have:=cr (j-1);have:=Nat.two_pow_pos (j-1);omega);omega);exact hmid j (by omega) h1⟩
  ·omega
  ·exact⟨rfl,congrArg (fun z=>some (Value.int .i64 z)) (by omega),trivial⟩
  exact en
 have he16:e=16:=by
  rcases Nat.lt_or_ge e 16 with h16 | h16
  ·exfalso
   have:(2:Int) ^ e<=32768:=by
    have h1:2 ^ e<=2 ^ 15:=Nat.pow_le_pow_right (by decide) (by omega)
    have:=cr e
    omega
   omega
  omega
 subst he16
 have ht:=hlast 16 (by omega) hno (by omega)
 have hm15:=hmid 15 (by omega) (by omega)
 have hcls:aH n=1048576:=by
  unfold aH
  rw[if_neg (by omega),ht,if_neg (by omega)]
  decide
 refine xt O<|nz<|ar O O<|lc<|rt<|cN O ([]) (.tmp rfl) ?_
 exact⟨by rw[hcls],rfl⟩
section
variable (pr:Nat) (s:ArS) (hs:s.ok)
include hs
theorem vB:aK Tryz.prog 12 #[.pointer (some ⟨pr,0,none⟩)] [bd pr s] (fun v L=>v=.int .i64 s.live/\L= [bd pr s]):=by
 have hst:=hs.stop_eq
 have hsn:=ArS.sum_nonneg hs.chain
 have hroom:=hs.room
 have hlim:=hs.limit
 refine au Kq Tryz.func12 rfl rfl rfl fun Fr w0=>aZ ?_
 refine lD .here fun va rs hx=>?_
 have hlen:=hx.len
 refine bU (.there .here) fun _ hva=>?_
 obtain⟨a0,cap,rfl,ha,_,_⟩:=hva
 refine sr<|ar O O<|lz<|ar O O<|lc<|al<|sr<|ar O O<|lc<|aB ?_
 refine bK (fun i:Nat=>i<=rs.length) (fun i=>[(0,.pointer (some ⟨pr,0,none⟩)),(3,.int .i64 (nh s i)),(4,.int .i64 (i:Nat))]) (fun _=>pt pr (.cells #[.int .i64 s.limit,.int .i64 (s.stop:Nat),(.slice a0 rs.length cap)] 51 (0,0))::aF 119 3 (.slice a0 rs.length cap) rs.length (rowOf RB.cells rs)::Fr) (fun i=>rs.length-i) 0 (Nat.zero_le _) ⟨rfl,rfl,rfl,trivial⟩ (by(exact en)) ?_
 intro i hi
 refine al<|sr<|mv O O<|mv O O<|ad O (ae O)<|ad O (aE 2 O iN O O j8)<|ad O (aI O lh) ?_
 refine ad O (ql O mm)<|ad O (qi O O (bj ·))<|lc<|aG O (fun h=>?_) fun h=>?_
 ·skip
  obtain⟨g,rfl⟩:=ha (by omega)
  obtain⟨r,hr⟩:∃ r,rs[i]?=some r:=⟨rs[i],List.getElem?_eq_getElem (by omega)⟩
  obtain⟨hra,hrl⟩:=hx.at hr
  have hln:=wJ hra
  have hb:=rH hs i
  have hb1:=rH hs (i+1)
  have hpos:=(ArS.chain_pos hs.chain _ (List.mem_of_getElem? hra)).2
  dsimp only at hln hpos
  have hcell:∀ j v,r.cells[j]?=some v->(rowOf RB.cells rs)[0+((i:Nat):Int).toNat*3+j]?=some v:=fun j v hv=>by
   have hj:j < 3:=by rcases Nat.lt_or_ge j 3 with q | q;exact q;rw[List.getElem?_eq_none (by rw[A2];exact q)] at hv;cases hv
   rw[Nat.zero_add,Int.toNat_natCast,er A2 rs i j r hr hj]
   exact hv
  refine aq<|an<|al<|aB<|sr<|mv O O<|ad O (ae O)<|ad O (aE 2 O iN O O j8)<|ad O (aI O lh) ?_
  refine mv O O<|ad O (aL O O mm lb (by omega)) ?_
  refine ad O (aE 1 O lq O O j6) ?_
  apply ad O
  ·apply aT O nH
   ·exact tk
   exact hcell 1 _ rfl
  refine lc<|aG O (fun q=>?_) fun q=>?_
  ·skip
   rw[q] at hrl
   have hdd:s.dead r.off=false:=by cases hd:s.dead r.off with | false=>rfl | true=>rw[hd] at hrl;cases hrl
   rw[hdd] at hln
   simp only[Bool.false_eq_true,if_false] at hln
   refine aD<|mv O O<|mv O O<|ad O (ae O)<|ad O (aE 2 O iN O O j8)<|ad O (aI O lh) ?_
   refine mv O O<|ad O (aL O O mm lb (by omega)) ?_
   refine ad O (aE 2 O lq O O ec) ?_
   apply ad O
   ·apply aT O fk
    ·exact tk
    exact hcell 2 _ rfl
   refine ad O (ql O dG)<|ad O (bn O O) ?_
   refine ar O O<|ai<|bz<|an<|aD<|mv O O<|ad O (bn O O) ?_
   refine ar O O<|ai ?_
   apply aU ((i+1))
   ·exact by omega
   ·omega
   ·exact⟨rfl,congrArg (fun z=>some (Value.int .i64 z)) (by omega),rfl,trivial⟩
   exact en
  have hdd:s.dead r.off=true:=by cases hd:s.dead r.off with | true=>rfl | false=>rw[hd,q] at hrl;cases hrl
  rw[hdd] at hln
  simp only[if_true] at hln
  refine aq<|bz<|an<|aD<|mv O O<|ad O (bn O O) ?_
  refine ar O O<|ai ?_
  apply aU ((i+1))
  ·exact by omega
  ·omega
  ·exact⟨rfl,congrArg (fun z=>some (Value.int .i64 z)) (by omega),rfl,trivial⟩
  exact en
 obtain rfl:i=rs.length:=by omega
 have hla:=zb s
 rw[<- hlen] at hla
 rw[hla]
 refine xt O<|nz<|mv O O<|ar O O<|lc<|rt ?_
 apply aR (.inl rfl) ([bd pr s])
 ·apply cP O
  exact .tmp rfl
 ·exact⟨rfl,rfl⟩
 refine eP (v:=.slice a0 rs.length cap) hx rfl rfl rfl ?_;(exact en)
theorem AV (c:Int) (hc:c∈dM) (hl:s.live+c<=s.limit):aK Tryz.prog 157 #[.pointer (some ⟨pr,0,none⟩),.int .i64 c] [bd pr s] (fun v L=>v=.int .i64 ((s.at c:Nat):Int)/\L= [bd pr (s.take c)]):=by
 have hst:=hs.stop_eq
 have hsn:=ArS.sum_nonneg hs.chain
 have hroom:=hs.room
 have hlim:=hs.limit
 have hc16:=gn c hc
 refine au IG Tryz.func157 rfl rfl rfl fun Fr w0=>aZ ?_
 refine lD .here fun va rs hx=>?_
 have hlen:=hx.len
 refine bU (.there .here) fun _ hva=>?_
 obtain⟨a0,cap,rfl,ha,_,_⟩:=hva
 refine sr<|ar O O<|lc<|al<|sr<|ar O O<|lc<|aB ?_
 refine bK (fun i:Nat=>i<=rs.length/\∀(j:Nat) (q:Int×Int),j < i->s.all[j]?=some q->¬ (s.dead q.1=true/\q.2=c)) (fun i=>[(0,.pointer (some ⟨pr,0,none⟩)),(1,.int .i64 c),(5,.int .i64 (i:Nat))]) (fun _=>pt pr (.cells #[.int .i64 s.limit,.int .i64 (s.stop:Nat),(.slice a0 rs.length cap)] 51 (0,0))::aF 119 3 (.slice a0 rs.length cap) rs.length (rowOf RB.cells rs)::Fr) (fun i=>rs.length-i) 0 ⟨Nat.zero_le _,fun j q h=>by omega⟩ ⟨rfl,rfl,rfl,trivial⟩ (by(exact en)) ?_
 rintro i ⟨hi,hno⟩
 refine al<|sr<|mv O O<|mv O O<|ad O (ae O)<|ad O (aE 2 O iN O O j8)<|ad O (aI O lh) ?_
 refine ad O (ql O mm)<|ad O (qi O O (bj ·))<|lc<|aG O (fun h=>?_) fun h=>?_
 ·skip
  obtain⟨g,rfl⟩:=ha (by omega)
  obtain⟨r,hr⟩:∃ r,rs[i]?=some r:=⟨rs[i],List.getElem?_eq_getElem (by omega)⟩
  obtain⟨hra,hrl⟩:=hx.at hr
  have hpos:=(ArS.chain_pos hs.chain _ (List.mem_of_getElem? hra)).2
  have hpo:=(ArS.chain_pos hs.chain _ (List.mem_of_getElem? hra)).1
  dsimp only at hpos hpo
  have hcell:∀ j v,r.cells[j]?=some v->(rowOf RB.cells rs)[0+((i:Nat):Int).toNat*3+j]?=some v:=fun j v hv=>by
   have hj:j < 3:=by rcases Nat.lt_or_ge j 3 with q | q;exact q;rw[List.getElem?_eq_none (by rw[A2];exact q)] at hv;cases hv
   rw[Nat.zero_add,Int.toNat_natCast,er A2 rs i j r hr hj]
   exact hv
  have hnext:¬ (s.dead r.off=true/\r.c=c)->∀(j:Nat) (q:Int×Int),j < i+1->s.all[j]?=some q->¬ (s.dead q.1=true/\q.2=c):=fun hn j q hj hq=>by
   rcases Nat.lt_or_ge j i with q2 | q2
   ·exact hno j q q2 hq
   obtain rfl:j=i:=by omega
   rw[hra] at hq
   cases hq
   exact hn
  refine aq<|an<|al<|aB<|sr<|mv O O<|ad O (ae O)<|ad O (aE 2 O iN O O j8)<|ad O (aI O lh) ?_
  refine mv O O<|ad O (aL O O mm lb (by omega)) ?_
  refine ad O (aE 1 O lq O O j6) ?_
  apply ad O
  ·apply aT O nH
   ·exact tk
   exact hcell 1 _ rfl
  refine ad O (db O (cy ·))<|mv O O<|bQ (t:=25) rfl (fun z1=>?_) fun z1=>?_
  ·skip
   have hdd:s.dead r.off=true:=by cases hd:s.dead r.off with | true=>rfl | false=>rw[hd] at hrl;simp[hrl] at z1
   refine aA O O<|mv O O<|aA O O<|ad O (ae O)<|aA O O<|ad O (aE 2 O iN O O j8)<|aA O O<|ad O (aI O lh) ?_
   refine aA O O<|mv O O<|aA O O<|ad O (aL O O mm lb (by omega)) ?_
   refine aA O O<|ad O (aE 2 O lq O O ec)<|aA O O ?_
   apply ad O
   ·apply aT O fk
    ·exact tk
    exact hcell 2 _ rfl
   refine aA O O<|ad O (ql O dG)<|aA O O<|mv O O<|aA O O<|ad O (qi O O (bN ·))<|ad O (aS O O)<|lc<|aG O (fun z2=>?_) fun z2=>?_
   ·skip
    obtain rfl:r.c=c:=by omega
    obtain⟨l',hfr⟩:=BU hra hdd rfl hno
    obtain⟨_,hat,_,_,h16⟩:=take_cons hs hfr
    have hset1:(rowOf RB.cells rs).set (0+((i:Nat):Int).toNat*3+1) (.bool true)=rowOf RB.cells (rs.set i {r with live:=true}):=by
     rw[Nat.zero_add,Int.toNat_natCast]
     exact g7 A2 (by decide) rs i r hr rfl
    have hr2:(rs.set i {r with live:=true})[i]?=some {r with live:=true}:=by rw[List.getElem?_set];simp;omega
    have hset2:∀ b,(rowOf RB.cells (rs.set i {r with live:=true})).set (0+((i:Nat):Int).toNat*3+2) (.slice (some ⟨b,0,none⟩) r.c.toNat r.c.toNat)=rowOf RB.cells ((rs.set i {r with live:=true}).set i ⟨r.off,true,r.c,b⟩):=fun b=>by
     rw[Nat.zero_add,Int.toNat_natCast]
     exact g7 A2 (by decide) _ i _ hr2 rfl
    have hcell2:∀ b,(rowOf RB.cells ((rs.set i {r with live:=true}).set i ⟨r.off,true,r.c,b⟩))[0+((i:Nat):Int).toNat*3+0]?=some (.int .i64 r.off):=fun b=>by
     rw[Nat.zero_add,Int.toNat_natCast,er A2 _ i 0 ⟨r.off,true,r.c,b⟩ (by rw[List.getElem?_set];simp;omega) (by decide)]
     rfl
    refine sr<|mv O O<|ad O (ae O)<|ad O (aE 2 O iN O O j8)<|ad O (aI O lh) ?_
    refine mv O O<|ad O (aL O O mm lb (by omega)) ?_
    refine ad O (aE 1 O lq O O j6) ?_
    refine ee O O O j6 O tk (by omega) hset1 ?_
    refine lc<|al<|aY mixed ?_
    apply dq 0 O (yq (ah O))
    apply dq 1 O (yq (ae O))
    apply dq 2 O (yq (aE 2 O iN O O j8))
    apply dq 3 O (yq (aI O lh))
    apply dq 4 O (yq (ah O))
    apply dq 5 O (yq (ah O))
    refine ak [5] [4,3,2,1,0] 6 [(50,_)] gO ⟨rfl,trivial⟩ (by kernel_rfl) (by kernel_rfl) fun Ex=>?_
    apply dL O O O dG CU O (by omega) (by omega)
    intro b51
    refine ai ?_
    refine aQ ⟨ya O O (yq (ah O)),ya O O (yq (aI O lh)),ya O O (yq (aE 2 O iN O O j8)),ya O O (yq (ae O)),ya O O (yq (ah O)),trivial⟩ ?_
    apply dq 7 O (yq (aL O O mm lb (by omega)))
    apply dq 8 O (yq (aE 2 O lq O O ec))
    refine ak [8,0,1,2,3,4,7] [] 9 [(53,_),(51,_)] gO ⟨rfl,rfl,trivial⟩ (by kernel_rfl) (by kernel_rfl) fun Ex=>?_
    refine ee O O O ec O tk (by omega) (hset2 b51) ?_
    refine ai ?_
    refine aQ trivial ?_
    refine aV (by kernel_rfl) ?_
    refine nz<|mv O O<|ad O (ae O)<|ad O (aE 2 O iN O O j8)<|ad O (aI O lh) ?_
    refine mv O O<|ad O (aL O O mm lb (by omega)) ?_
    refine ad O (aE 0 O lq O O aN) ?_
    apply ad O
    ·apply aT O aX
     ·exact tk
     exact hcell2 b51
    refine ar O O<|lc<|rt ?_
    apply aR (.inl rfl) ([bd pr (s.take r.c)])
    ·apply cP O
     exact .tmp rfl
    ·exact⟨by rw[hat,Int.toNat_of_nonneg (by omega)],rfl⟩
    refine eP (v:=.slice (some ⟨g,0,none⟩) rs.length cap) (n:=rs.length) (hx.revive hs hr hfr b51) (cX hs) (by rw[AM hs hfr]) (by simp) ?_;rw[show rs.set i ⟨r.off,true,r.c,b51⟩=(rs.set i {r with live:=true}).set i ⟨r.off,true,r.c,b51⟩ from by rw[List.set_set]];(exact en)
   refine aq<|bz<|an<|aD<|mv O O<|ad O (bn O O) ?_
   refine ar O O<|ai ?_
   apply aU ((i+1))
   ·exact⟨by omega,hnext (by omega)⟩
   ·omega
   ·exact⟨O,O,O,trivial⟩
   exact en
  have hdd:s.dead r.off=false:=by cases hd:s.dead r.off with | false=>rfl | true=>rw[hd] at hrl;simp[hrl] at z1
  refine ax O O O O<|ax O O O O<|ax O O O O<|ax O O O O<|ax O O O O<|ax O O O O<|ax O O O O<|ax O O O O<|ax O O O O<|ax O O O O<|ax O O O O<|ad O (aS O O)<|lc<|cQ O<|aq<|bz<|an<|aD<|mv O O<|ad O (bn O O) ?_
  refine ar O O<|ai ?_
  apply aU ((i+1))
  ·exact⟨by omega,hnext (by rw[hdd];simp)⟩
  ·omega
  ·exact⟨O,O,O,trivial⟩
  exact en
 obtain rfl:i=rs.length:=by omega
 have hfr:s.frL c= []:=DO fun j q hq=>hno j q (by rcases Nat.lt_or_ge j rs.length with q2 | q2;exact q2;rw[List.getElem?_eq_none (by omega)] at hq;cases hq) hq
 have hat:=(take_nil hs hfr).2
 refine xt O<|nz<|mv O O<|ad O (ae O)<|ad O (aE 1 O iN O O aN)<|ad O (aI O aX) ?_
 refine ar O O<|lc<|al<|aY mixed ?_
 apply dq 0 O (yq (ah O))
 apply dq 1 O (yq (ah O))
 apply dq 2 O (yq (ae O))
 apply dq 3 O (yq (aE 2 O iN O O j8))
 apply dq 4 O (yq (aI O lh))
 apply dq 5 O (yq (ah O))
 apply dq 6 O (yq (ah O))
 refine ak [6] [5,4,3,2,1,0] 7 [(72,_)] gO ⟨rfl,trivial⟩ (by kernel_rfl) (by kernel_rfl) fun Ex=>?_
 apply dL O O O dG CU O (by omega) (by omega)
 intro b73
 refine ai ?_
 refine aQ ⟨ya O O (yq (ah O)),ya O O (yq (aI O lh)),ya O O (yq (aE 2 O iN O O j8)),ya O O (yq (ae O)),ya O O (yq (ah O)),ya O O (yq (ah O)),trivial⟩ ?_
 apply dq 8 O
 ·apply yq
  apply bp O GF Ei
  apply aP.one
  ·repeat (first | exact ba.here | apply ba.there)
  ·rfl
  ·exact sa
  apply aP.one
  ·repeat (first | exact ba.here | apply ba.there)
  ·rfl
  ·exact sa
  apply aP.one
  ·repeat (first | exact ba.here | apply ba.there)
  ·rfl
  ·exact sa
  exact aP.nil
 refine ak [8,5] [4,3,2,1,0] 9 [(74,_)] gO ⟨rfl,trivial⟩ (by kernel_rfl) (by kernel_rfl) fun Ex=>?_
 refine fD (us:=[_]) rfl rfl mm lb Ei rfl rfl rfl rfl rfl (fun b75=>?_)
 refine ai ?_
 refine aQ ⟨ya O O (yq (aI O lh)),ya O O (yq (aE 2 O iN O O j8)),ya O O (yq (ae O)),ya O O (yq (ah O)),ya O O (yq (ah O)),trivial⟩ ?_
 refine ak [4,3,2,1] [0] 10 [(70,_),(75,_)] gO ⟨rfl,rfl,trivial⟩ (by kernel_rfl) (by kernel_rfl) fun Ex=>?_
 apply e9 (sz:=3) rfl rfl rfl mm GI rfl rfl
 ·exact tk
 ·exact tk
 ·rfl
 ·rfl
 ·simp only[maxLen];omega
 ·omega
 intro v76
 refine gM (v:=v76) tk fun _ hs76=>?_
 obtain⟨a76,cap76,rfl,hs76,_,_⟩:=hs76
 refine ai ?_
 refine aQ ⟨ya O O (yq (ah O)),trivial⟩ ?_
 apply dq 11 O (yq (ae O))
 apply dq 12 O (yq (aE 2 O iN O O j8))
 refine ak [12,0,11] [] 13 [(78,_),(76,_)] gO ⟨rfl,rfl,trivial⟩ (by kernel_rfl) (by kernel_rfl) fun Ex=>?_
 refine st O O O j8 O ?_
 refine ai ?_
 refine aQ trivial ?_
 refine aV (by kernel_rfl) ?_
 refine nz<|mv O O<|mv O O<|mv O O<|ad O (bn O O) ?_
 refine ad O (ae O)<|ad O (aE 1 O iN O O aN)<|st O O O aN O ?_
 refine lz<|mv O O<|ar O O<|lc<|rt ?_
 apply aR (.inl rfl) ([bd pr (s.take c)])
 ·apply cP O
  exact .tmp rfl
 ·exact⟨by rw[hat],rfl⟩
 rw[show rowOf RB.cells rs ++ ([Value.agg #[.int .i64 (s.stop:Nat),.bool true,.slice (some ⟨b73,0,none⟩) c.toNat c.toNat]].flatMap fun x=>x.cells.toList).toArray.toList=rowOf RB.cells (rs ++ [⟨((s.stop:Nat):Int),true,c,b73⟩]) from by rw[eO];rfl];refine eP (v:=.slice a76 (rs.length+1) cap76) (n:=rs.length+1) (hx.new hs hfr b73) (cX hs) (AN hs (by omega) hfr) (by simp) ?_;(exact en)
theorem rfind_ok (o:Int):aK Tryz.prog 154 #[.pointer (some ⟨pr,0,none⟩),.int .i64 o] [bd pr s] (fun v L=>((∃ i c,i < s.all.length/\s.all[i]?=some (o,c)/\s.dead o=false/\v=.int .i64 (i:Nat))\/((∀ c,(o,c)∉s.bl)/\v=.int .i64 (-1)))/\L= [bd pr s]):=by
 have hst:=hs.stop_eq
 have hsn:=ArS.sum_nonneg hs.chain
 refine au IJ Tryz.func154 rfl rfl rfl fun Fr w0=>aZ ?_
 refine lD .here fun va rs hx=>?_
 have hlen:=hx.len
 refine bU (.there .here) fun _ hva=>?_
 obtain⟨a0,cap,rfl,ha,_,_⟩:=hva
 refine sr<|ar O O<|lc<|al<|sr<|ar O O<|lc<|aB ?_
 refine bK (fun i:Nat=>i<=rs.length/\∀(j:Nat) (q:Int×Int),j < i->s.all[j]?=some q->¬ (s.dead q.1=false/\q.1=o)) (fun i=>[(0,.pointer (some ⟨pr,0,none⟩)),(1,.int .i64 o),(5,.int .i64 (i:Nat))]) (fun _=>pt pr (.cells #[.int .i64 s.limit,.int .i64 (s.stop:Nat),(.slice a0 rs.length cap)] 51 (0,0))::aF 119 3 (.slice a0 rs.length cap) rs.length (rowOf RB.cells rs)::Fr) (fun i=>rs.length-i) 0 ⟨Nat.zero_le _,fun j q h=>by omega⟩ ⟨rfl,rfl,rfl,trivial⟩ (by(exact en)) ?_
 rintro i ⟨hi,hno⟩
 refine al<|sr<|mv O O<|mv O O<|ad O (ae O)<|ad O (aE 2 O iN O O j8)<|ad O (aI O lh) ?_
 refine ad O (ql O mm)<|ad O (qi O O (bj ·))<|lc<|aG O (fun h=>?_) fun h=>?_
 ·skip
  obtain⟨g,rfl⟩:=ha (by omega)
  obtain⟨r,hr⟩:∃ r,rs[i]?=some r:=⟨rs[i],List.getElem?_eq_getElem (by omega)⟩
  obtain⟨hra,hrl⟩:=hx.at hr
  have hpos:=(ArS.chain_pos hs.chain _ (List.mem_of_getElem? hra)).2
  have hpo:=(ArS.chain_pos hs.chain _ (List.mem_of_getElem? hra)).1
  dsimp only at hpos hpo
  have hcell:∀ j v,r.cells[j]?=some v->(rowOf RB.cells rs)[0+((i:Nat):Int).toNat*3+j]?=some v:=fun j v hv=>by
   have hj:j < 3:=by rcases Nat.lt_or_ge j 3 with q | q;exact q;rw[List.getElem?_eq_none (by rw[A2];exact q)] at hv;cases hv
   rw[Nat.zero_add,Int.toNat_natCast,er A2 rs i j r hr hj]
   exact hv
  have hnext:¬ (s.dead r.off=false/\r.off=o)->∀(j:Nat) (q:Int×Int),j < i+1->s.all[j]?=some q->¬ (s.dead q.1=false/\q.1=o):=fun hn j q hj hq=>by
   rcases Nat.lt_or_ge j i with q2 | q2
   ·exact hno j q q2 hq
   obtain rfl:j=i:=by omega
   rw[hra] at hq
   cases hq
   exact hn
  refine aq<|an<|al<|aB<|sr<|mv O O<|ad O (ae O)<|ad O (aE 2 O iN O O j8)<|ad O (aI O lh) ?_
  refine mv O O<|ad O (aL O O mm lb (by omega)) ?_
  refine ad O (aE 1 O lq O O j6) ?_
  apply ad O
  ·apply aT O nH
   ·exact tk
   exact hcell 1 _ rfl
  refine mv O O<|bQ (t:=23) rfl (fun z1=>?_) fun z1=>?_
  ·skip
   have hdd:s.dead r.off=false:=by cases hd:s.dead r.off with | false=>rfl | true=>rw[hd,z1] at hrl;cases hrl
   refine aA O O<|mv O O<|aA O O<|ad O (ae O)<|aA O O<|ad O (aE 2 O iN O O j8)<|aA O O<|ad O (aI O lh) ?_
   refine aA O O<|mv O O<|aA O O<|ad O (aL O O mm lb (by omega)) ?_
   refine aA O O<|ad O (aE 0 O lq O O aN)<|aA O O ?_
   apply ad O
   ·apply aT O aX
    ·exact tk
    exact hcell 0 _ rfl
   refine aA O O<|mv O O<|aA O O<|ad O (qi O O (bN ·))<|ad O (aS O O)<|lc<|aG O (fun z2=>?_) fun z2=>?_
   ·skip
    obtain rfl:r.off=o:=by omega
    refine sr<|mv O O<|ar O O<|lc<|rt ?_
    apply aR (.inl rfl) ([bd pr s])
    ·apply cP O
     exact .tmp rfl
    ·exact⟨.inl ⟨i,r.c,by omega,hra,hdd,rfl⟩,rfl⟩
    refine eP (v:=.slice (some ⟨g,0,none⟩) rs.length cap) hx rfl rfl rfl ?_;(exact en)
   refine aq<|bz<|an<|aD<|mv O O<|ad O (bn O O) ?_
   refine ar O O<|ai ?_
   apply aU ((i+1))
   ·exact⟨by omega,hnext (by omega)⟩
   ·omega
   ·exact⟨O,O,O,trivial⟩
   exact en
  have hdd:s.dead r.off=true:=by cases hd:s.dead r.off with | true=>rfl | false=>rw[hd,z1] at hrl;cases hrl
  refine ax O O O O<|ax O O O O<|ax O O O O<|ax O O O O<|ax O O O O<|ax O O O O<|ax O O O O<|ax O O O O<|ax O O O O<|ax O O O O<|ad O (aS O O)<|lc<|cQ O<|aq<|bz<|an<|aD<|mv O O<|ad O (bn O O) ?_
  refine ar O O<|ai ?_
  apply aU ((i+1))
  ·exact⟨by omega,hnext (by rw[hdd];simp)⟩
  ·omega
  ·exact⟨O,O,O,trivial⟩
  exact en
 obtain rfl:i=rs.length:=by omega
 have hnb:∀ c,(o,c)∉s.bl:=fun c hc=>by
  obtain⟨h1,h2⟩:=cG.1 hc
  obtain⟨j,hj,he⟩:=List.getElem_of_mem h1
  exact hno j (o,c) (by omega) (by rw[List.getElem?_eq_getElem hj,he]) ⟨h2,rfl⟩
 refine xt O<|nz<|ar O O<|lc<|rt ?_
 apply aR (.inl rfl) ([bd pr s])
 ·apply cP O
  exact .tmp rfl
 ·exact⟨.inr ⟨hnb,rfl⟩,rfl⟩
 refine eP (v:=.slice a0 rs.length cap) hx rfl rfl rfl ?_;(exact en)
theorem tw (p k:Nat) (ns:List Int) (hk:ns.length=k) (hkb:k<=1000):
  aK Tryz.prog 74 #[.pointer (some ⟨pr,0,none⟩),.slice (some ⟨p,0,none⟩) k k] [pt p (.cells (ints ns).toArray 3 (0,0)),bd pr s] (fun v L=>
   ((∃ n∈ns,n < 1)/\v=.tuple #[.slice none 0 0,.int .i64 21]/\L= [bd pr s])\/
   ((∀ n∈ns,1<=n)/\((∃ n∈ns,1048576 < n)\/s.limit-s.live < fq ns)/\v=.tuple #[.slice none 0 0,.int .i64 22]/\L= [bd pr s])\/
   ((∀ n∈ns,1<=n/\n<=1048576)/\s.live+fq ns<=s.limit/\∃ vo,v=.tuple #[vo,.int .i64 0]/\L= [aF 3 1 vo k (ints (s.offs ns)),bd pr (s.takes ns)])):=by
 subst hk
 have hst:=hs.stop_eq
 have hlim:=hs.limit
 refine au JX Tryz.func74 rfl rfl rfl fun Fr w0=>aZ ?_
 refine sr<|ar O O<|ar O O<|lc<|al<|sr<|ar O O<|lc<|aB ?_
 refine bK (fun j:Nat=>j<=ns.length/\∀ n∈ns.take j,1<=n) (fun j=>[(0,.pointer (some ⟨pr,0,none⟩)),(1,.slice (some ⟨p,0,none⟩) ns.length ns.length),(6,.int .i64 (j:Nat))]) (fun _=>pt p (.cells (ints ns).toArray 3 (0,0))::bd pr s::Fr) (fun j=>ns.length-j) 0 ⟨Nat.zero_le _,by simp⟩ ⟨rfl,rfl,rfl,trivial⟩ (by(exact en)) ?_
 rintro j ⟨hj,hpos⟩
 refine al<|sr<|mv O O<|mv O O<|ad O (ql O bI)<|ad O (qi O O (bj ·))<|lc<|aG O (fun h=>?_) fun h=>?_
 ·skip
  have hjl:j < ns.length:=by omega
  refine aq<|an<|al<|aB<|sr<|mv O O<|mv O O<|ad O (az O O bI aN (by omega)) ?_
  apply ad O
  ·apply fW O aX
   ·exact tk
   rw[Nat.zero_add,Int.toNat_natCast];simp[ints,hjl];rfl
  refine ad O (qi O O (bj ·))<|lc<|aG O (fun q=>?_) fun q=>?_
  ·exact sr<|ar O O<|ar O O<|lc<|rt<|ft O ([bd pr s]) (.tmp rfl) (.tmp rfl) (.inl ⟨⟨ns[j],List.getElem_mem hjl,q⟩,rfl,rfl⟩)
  refine aq<|bz<|an<|aD<|mv O O<|ad O (bn O O) ?_
  refine ar O O<|ai ?_
  apply aU ((j+1))
  ·exact⟨by omega,fun n hn=>by rw[List.take_succ_eq_append_getElem hjl] at hn;rcases List.mem_append.1 hn with q2 | q2;exact hpos n q2;rw[List.mem_singleton.1 q2];omega⟩
  ·omega
  ·exact⟨O,O,O,trivial⟩
  exact en
 obtain rfl:j=ns.length:=by omega
 rw[List.take_length] at hpos
 refine xt O<|nz<|mv O O<|bF O O O (vB pr s hs) ?_
 refine ar O O<|lc<|al<|sr<|ar O O<|lc<|aB ?_
 have hnn:=fun j=>kM (ns:=ns.take j) fun n hn=>hpos n (List.mem_of_mem_take hn)
 have hroom:=hs.room
 refine bK (fun j:Nat=>j<=ns.length/\(∀ n∈ns.take j,n<=1048576)/\s.live+fq (ns.take j)<=s.limit) (fun j=>[(0,.pointer (some ⟨pr,0,none⟩)),(1,.slice (some ⟨p,0,none⟩) ns.length ns.length),(7,.int .i64 (s.live+fq (ns.take j))),(8,.int .i64 (j:Nat))]) (fun _=>pt p (.cells (ints ns).toArray 3 (0,0))::bd pr s::Fr) (fun j=>ns.length-j) 0 ⟨Nat.zero_le _,by simp,by simp[fq];omega⟩ ⟨rfl,rfl,by simp[fq];rfl,rfl,trivial⟩ (by(exact en)) ?_
 rintro j ⟨hj,hsm,hsu⟩
 have hnj0:=hnn j
 refine al<|sr<|mv O O<|mv O O<|ad O (ql O bI)<|ad O (qi O O (bj ·))<|lc<|aG O (fun h=>?_) fun h=>?_
 ·skip
  have hjl:j < ns.length:=by omega
  have hnj:=hpos ns[j] (List.getElem_mem hjl)
  have hcj:=dE hnj
  have hsj:fq (ns.take (j+1))=fq (ns.take j)+aH ns[j]:=by rw[eL hjl,pC]
  have hsp:=kL hjl
  have hs2:=(kM (ns:=ns.drop (j+1)) fun n hm=>hpos n (List.mem_of_mem_drop hm)).1
  refine il (L':=bd pr s::pt p (.cells (ints ns).toArray 3 (0,0))::Fr) (by(exact en)) ?_
  refine lD .here fun va rs hx=>?_
  refine aq<|an<|al<|aB<|sr<|mv O O<|mv O O<|ad O (az O O bI aN (by omega)) ?_
  apply ad O
  ·apply fW O aX
   ·exact tk
   rw[Nat.zero_add,Int.toNat_natCast];simp[ints,hjl];rfl
  refine bF O O O (Class_ok ns[j]) ?_
  refine ar O O<|lc<|al<|sr<|mv O O<|ad O (qi O O (bN ·))<|mv O O<|bQ (t:=40) rfl (fun z1=>?_) fun z1=>?_
  ·skip
   have hbig:1048576 < ns[j]:=by
    rcases Int.lt_or_le 1048576 ns[j] with q | q
    ·exact q
    have:=hcj.2.2 q;omega
   refine ax O O O O<|ax O O O O<|ax O O O O<|ax O O O O<|ax O O O O<|ax O O O O<|ax O O O O<|ax O O O O<|ad O (aS O O)<|lc<|bk O<|sr<|ar O O<|ar O O<|lc<|rt ?_
   apply aR (.inl rfl) ([bd pr s])
   ·apply cF O
    ·exact .tmp rfl
    exact .tmp rfl
   ·exact .inr (.inl ⟨hpos,.inl ⟨_,List.getElem_mem hjl,hbig⟩,rfl,rfl⟩)
   refine eP (v:=va) (n:=rs.length) hx rfl rfl rfl ?_;(exact en)
  refine aA O O<|mv O O<|aA O O<|mv O O<|aA O O<|ad O (ae O)<|aA O O<|ad O (aE 0 O iN O O aN)<|aA O O<|ad O (aI O aX) ?_
  refine aA O O<|mv O O<|aA O O<|ad O (eJ O O) ?_
  refine aA O O<|ad O (qi O O (di ·))<|ad O (aS O O)<|lc<|aG O (fun z2=>?_) fun z2=>?_
  ·refine sr<|ar O O<|ar O O<|lc<|rt ?_
   apply aR (.inl rfl) ([bd pr s])
   ·apply cF O
    ·exact .tmp rfl
    exact .tmp rfl
   ·exact .inr (.inl ⟨hpos,.inr (by omega),rfl,rfl⟩)
   refine eP (v:=va) (n:=rs.length) hx rfl rfl rfl ?_;(exact en)
  have hsmall:ns[j]<=1048576:=by
   rcases Int.lt_or_le 1048576 ns[j] with q | q
   ·have:aH ns[j]=0:=by unfold aH;rw[if_pos (.inr q)]
    exact absurd this z1
   exact q
  have hsm':∀ n∈ns.take (j+1),n<=1048576:=fun n hn=>by
   rw[eL hjl] at hn
   rcases List.mem_append.1 hn with q2 | q2
   ·exact hsm n q2
   rw[List.mem_singleton.1 q2];exact hsmall
  refine lx (X:=Unit) (LL:=fun _=>bd pr s::pt p (.cells (ints ns).toArray 3 (0,0))::Fr) (fun w hs=>⟨(),eP (v:=va) (n:=rs.length) hx rfl rfl rfl (by(exact en)) w hs⟩) fun _=>?_
  refine aq<|an<|aD<|mv O O<|mv O O<|ad O (bn O O) ?_
  refine ar O O<|ai<|bz<|an<|aD<|mv O O<|ad O (bn O O) ?_
  refine ar O O<|ai ?_
  apply aU ((j+1))
  ·exact⟨by omega,hsm',by omega⟩
  ·omega
  ·exact⟨rfl,rfl,congrArg (fun z=>some (Value.int .i64 z)) (by omega),rfl,trivial⟩
  exact en
 obtain rfl:j=ns.length:=by omega
 rw[List.take_length] at hsm hsu
 refine xt O<|nz<|ar O O<|lc<|al<|sr<|ar O O<|lc<|aB ?_
 refine bK (fun x:Nat×Value=>x.1<=ns.length) (fun x=>[(0,.pointer (some ⟨pr,0,none⟩)),(1,.slice (some ⟨p,0,none⟩) ns.length ns.length),(10,x.2),(11,.int .i64 (x.1:Nat))]) (fun x=>aF 3 1 x.2 x.1 (ints (s.offs (ns.take x.1)))::bd pr (s.takes (ns.take x.1))::pt p (.cells (ints ns).toArray 3 (0,0))::Fr) (fun x=>ns.length-x.1) (0,.slice none 0 0) (Nat.zero_le _) ⟨rfl,rfl,rfl,rfl,trivial⟩ (fun w h=>gJ (h.perm (by simp;exact List.Perm.swap _ _ _))) ?_
 rintro⟨j,v10⟩ hj
 dsimp only at hj ⊢
 refine al<|sr<|mv O O<|mv O O<|ad O (ql O bI)<|ad O (qi O O (bj ·))<|lc<|aG O (fun h3=>?_) fun h3=>?_
 ·skip
  have hjl:j < ns.length:=by omega
  have hnj:=hpos ns[j] (List.getElem_mem hjl)
  have hcj:=(dE hnj).2.2 (hsm _ (List.getElem_mem hjl))
  have hsp:=kL hjl
  have et:(s.takes (ns.take j)).take (aH ns[j])=s.takes (ns.take (j+1)):=by rw[eL hjl,rq]
  have eo:ints (s.offs (ns.take j)) ++ #[Value.int .i64 (((s.takes (ns.take j)).at (aH ns[j]):Nat):Int)].toList=ints (s.offs (ns.take (j+1))):=by rw[eL hjl,uG];simp[ints]
  have hs2:=(kM (ns:=ns.drop (j+1)) fun n hm=>hpos n (List.mem_of_mem_drop hm)).1
  have htk:=pq (ns:=ns.take j) hs (fun n hm=>⟨hpos n (List.mem_of_mem_take hm),hsm n (List.mem_of_mem_take hm)⟩) (by omega)
  refine aq<|an<|al<|aB<|sr<|mv O O<|mv O O<|ad O (az O O bI aN (by omega)) ?_
  apply ad O
  ·apply fW O aX
   ·exact tk
   rw[Nat.zero_add,Int.toNat_natCast];simp[ints,hjl];rfl
  refine bF O O O (Class_ok ns[j]) ?_
  refine ar O O<|lz<|mv O O<|mv O O ?_
  refine bF O O O (AV pr (s.takes (ns.take j)) htk.1 (aH ns[j]) (gq hnj (hsm _ (List.getElem_mem hjl))) (by rw[htk.2.1,htk.2.2];omega)) ?_
  refine ar O O<|lr<|mv O O<|mv O O ?_
  refine bR [_] rfl rfl bI aN sj rfl rfl rfl rfl (fun b69=>?_)
  apply e9 (sz:=1) rfl rfl rfl bI E7 rfl rfl
  ·exact tk
  ·exact tk
  ·rfl
  ·rfl
  ·simp only[maxLen];omega
  ·omega
  intro v70
  refine ar O O<|ai<|bz<|an<|aD<|mv O O<|ad O (bn O O) ?_
  refine ar O O<|ai ?_
  rw[et,eo]
  apply aU ((j+1,v70))
  ·exact(show j+1<=ns.length by omega)
  ·dsimp only;omega
  ·exact⟨O,O,O,O,trivial⟩
  exact en
 refine xt O<|nz<|mv O O<|ar O O<|ar O O<|lc<|rt ?_
 obtain rfl:j=ns.length:=by omega
 rw[List.take_length]
 exact ft O ([aF 3 1 v10 ns.length (ints (s.offs ns)),bd pr (s.takes ns)]) (.tmp rfl) (.tmp rfl) (.inr (.inr ⟨fun n hn=>⟨hpos n hn,hsm n hn⟩,hsu,_,rfl,rfl⟩))
theorem xu (p:Nat) (a b:Int) (ha:1<=a) (hb:1<=b):aK Tryz.prog 74 #[.pointer (some ⟨pr,0,none⟩),.slice (some ⟨p,0,none⟩) 2 2] [pt p (.cells #[.int .i64 a,.int .i64 b] 3 (0,0)),bd pr s] (fun v L=>
   ((1048576 < a\/1048576 < b\/s.limit-s.live < aH a+aH b)/\v=.tuple #[.slice none 0 0,.int .i64 22]/\L= [bd pr s])\/
   (a<=1048576/\b<=1048576/\s.live+(aH a+aH b)<=s.limit/\∃ vo,v=.tuple #[vo,.int .i64 0]/\L= [aF 3 1 vo 2 [.int .i64 ((s.at (aH a):Nat):Int),.int .i64 (((s.take (aH a)).at (aH b):Nat):Int)],bd pr ((s.take (aH a)).take (aH b))])):=
 (tw pr s hs p 2 [a,b] rfl (by decide)).mono fun v L h=>by
  rcases h with⟨⟨n,h1,h11⟩,h2,h3⟩ | ⟨h1,h2,h3,h4⟩ | ⟨h1,h2,h3⟩
  ·simp at h1;omega
  ·exact .inl ⟨by simpa [fq,or_assoc] using h2,h3,h4⟩
  exact .inr ⟨(h1 a (by simp)).2,(h1 b (by simp)).2,by simpa [fq] using h2,h3⟩
omit hs in
theorem rM:∀ {os:List Int} {s:ArS},s.ok->os.Nodup->(∀ o∈os,∃ c,(o,c)∈s.bl)->(s.gives os).ok
 | [],s,hs,_,_=>hs
 | o::r,s,hs,hn,hlv=>by
  rw[List.nodup_cons] at hn
  obtain⟨c,hc⟩:=hlv o List.mem_cons_self
  refine rM (os:=r) (s:=s.give o) (nt hs hc) hn.2 fun o' ho'=>?_
  obtain⟨c',hc'⟩:=hlv o' (List.mem_cons_of_mem _ ho')
  exact⟨c',(oX hs hc).2 ⟨hc',fun e=>by rw[Prod.mk.injEq] at e;exact hn.1 (e.1 ▸ ho')⟩⟩
theorem Cz (p k:Nat) (os:List Int) (hk:os.length=k) (hkb:k<=1000) (hnd:os.Nodup) (hlv:∀ o∈os,∃ c,(o,c)∈s.bl):
  aK Tryz.prog 166 #[.pointer (some ⟨pr,0,none⟩),.slice (some ⟨p,0,none⟩) k k] [pt p (.cells (ints os).toArray 3 (0,0)),bd pr s] (fun v L=>v=.int .i64 0/\L= [bd pr (s.gives os)]):=by
 subst hk
 refine au Ix Tryz.func166 rfl rfl rfl fun Fr w0=>aZ ?_
 refine sr<|ar O O<|lc<|al<|sr<|ar O O<|lc<|aB ?_
 refine bK (fun j:Nat=>j<=os.length) (fun j=>[(0,.pointer (some ⟨pr,0,none⟩)),(1,.slice (some ⟨p,0,none⟩) os.length os.length),(5,.int .i64 (j:Nat))]) (fun _=>pt p (.cells (ints os).toArray 3 (0,0))::bd pr s::Fr) (fun j=>os.length-j) 0 (Nat.zero_le _) ⟨rfl,rfl,rfl,trivial⟩ (by(exact en)) ?_
 rintro j hj
 refine al<|sr<|mv O O<|mv O O<|ad O (ql O bI)<|ad O (qi O O (bj ·))<|lc<|aG O (fun h=>?_) fun h=>?_
 ·skip
  have hjl:j < os.length:=by omega
  obtain⟨c0,hc0⟩:=hlv os[j] (List.getElem_mem hjl)
  refine aq<|an<|al<|aB<|sr<|mv O O<|mv O O<|mv O O<|ad O (az O O bI aN (by omega)) ?_
  apply ad O
  ·apply fW O aX
   ·exact tk
   rw[Nat.zero_add,Int.toNat_natCast];simp[ints,hjl];rfl
  refine cT O O O (rfind_ok pr s hs os[j]) ?_
  rintro v L' ⟨⟨i,c,hi,hia,hid,rfl⟩ | ⟨hno,rfl⟩,rfl⟩
  refine bx ?_
  ·skip
   refine ar O O<|lc<|al<|sr<|mv O O<|ad O (qi O O (bj ·))<|lc<|aG O (fun z=>?_) fun z=>?_
   ·omega
   refine aq<|nz<|ar O O<|lc<|aB ?_
   refine bK (fun i:Nat=>i<=j) (fun i=>[(0,.pointer (some ⟨pr,0,none⟩)),(1,.slice (some ⟨p,0,none⟩) os.length os.length),(5,.int .i64 (j:Nat)),(7,.int .i64 (i:Nat))]) (fun _=>pt p (.cells (ints os).toArray 3 (0,0))::bd pr s::Fr) (fun i=>j-i) 0 (Nat.zero_le _) ⟨rfl,rfl,rfl,rfl,trivial⟩ (by(exact en)) ?_
   rintro i hi2
   refine al<|sr<|mv O O<|mv O O<|ad O (qi O O (bj ·))<|lc<|aG O (fun h2=>?_) fun h2=>?_
   ·skip
    have hil:i < os.length:=by omega
    refine aq<|an<|al<|aB<|al<|aY mixed ?_
    apply dq 0 O (yq (ah O))
    apply dq 1 O (yq (ah O))
    apply dq 2 O (yq (az O O bI aN (by omega)))
    apply dq 3 O
    ·apply yq
     apply fW O aX
     ·exact tk
     rw[Nat.zero_add,Int.toNat_natCast];simp[ints,hil];rfl
    apply dq 4 O (yq (ah O))
    apply dq 5 O (yq (ah O))
    apply dq 6 O (yq (az O O bI aN (by omega)))
    apply dq 7 O
    ·apply yq
     apply fW O aX
     ·exact tk
     rw[Nat.zero_add,Int.toNat_natCast];simp[ints,hjl];rfl
    apply dq 8 O (yq (qi O O (bN ·)))
    refine aV (by kernel_rfl) ?_
    refine an<|aG O (fun h3=>?_) fun h3=>?_
    ·exact absurd ((List.getElem_inj hnd).1 h3) (by omega)
    refine aq<|bz<|an<|aD<|mv O O<|ad O (bn O O) ?_
    refine ar O O<|ai ?_
    apply aU ((i+1))
    ·exact by omega
    ·omega
    ·exact⟨O,O,O,O,trivial⟩
    exact en
   refine xt O<|bz<|an<|aD<|mv O O<|ad O (bn O O) ?_
   refine ar O O<|ai ?_
   apply aU ((j+1))
   ·exact by omega
   ·omega
   ·exact⟨O,O,O,trivial⟩
   exact en
  exact absurd hc0 (hno c0)
 obtain rfl:j=os.length:=by omega
 refine xt O<|an<|al<|sr<|ar O O<|lc<|aB ?_
 refine bK (fun j:Nat=>j<=os.length) (fun j=>[(0,.pointer (some ⟨pr,0,none⟩)),(1,.slice (some ⟨p,0,none⟩) os.length os.length),(8,.int .i64 (j:Nat))]) (fun j=>pt p (.cells (ints os).toArray 3 (0,0))::bd pr (s.gives (os.take j))::Fr) (fun j=>os.length-j) 0 (Nat.zero_le _) ⟨rfl,rfl,rfl,trivial⟩ (by(exact en)) ?_
 rintro j hj
 refine al<|sr<|mv O O<|mv O O<|ad O (ql O bI)<|ad O (qi O O (bj ·))<|lc<|aG O (fun h2=>?_) fun h2=>?_
 ·skip
  have hjl:j < os.length:=by omega
  obtain⟨c0,hc0⟩:=hlv os[j] (List.getElem_mem hjl)
  have hokj:(s.gives (os.take j)).ok:=rM hs (hnd.sublist (List.take_sublist _ _)) fun o ho=>hlv o (List.mem_of_mem_take ho)
  have hnin:os[j]∉os.take j:=fun hm=>by
   obtain⟨k,hk,he⟩:=List.getElem_of_mem hm
   rw[List.length_take] at hk
   rw[List.getElem_take] at he
   exact absurd ((List.getElem_inj hnd).1 he) (by omega)
  have hlj:(os[j],c0)∈(s.gives (os.take j)).bl:=lJ.2 ⟨hc0,hnin⟩
  have eg:(s.gives (os.take j)).give os[j]=s.gives (os.take (j+1)):=by rw[List.take_succ_eq_append_getElem hjl,rN]
  refine aq<|an<|al<|aB<|sr<|mv O O<|mv O O<|mv O O<|ad O (az O O bI aN (by omega)) ?_
  apply ad O
  ·apply fW O aX
   ·exact tk
   rw[Nat.zero_add,Int.toNat_natCast];simp[ints,hjl];rfl
  refine cT O O O (rfind_ok pr (s.gives (os.take j)) hokj os[j]) ?_
  rintro v L' ⟨⟨i,c,hi,hia,hid,rfl⟩ | ⟨hno,rfl⟩,rfl⟩
  refine bx ?_
  ·skip
   refine yN .here fun va rs hx=>?_
   have hlen:=hx.len
   refine gM (.there .here) fun _ hva=>?_
   obtain⟨a0,cap,rfl,ha,_,_⟩:=hva
   obtain⟨g,rfl⟩:=ha (by omega)
   obtain⟨r,hr⟩:∃ r,rs[i]?=some r:=⟨rs[i],List.getElem?_eq_getElem (by omega)⟩
   have hra:=(hx.at hr).1
   rw[hia] at hra
   have hro:r.off=os[j]:=by have:=Option.some.inj hra;rw[Prod.mk.injEq] at this;exact this.1.symm
   have hset:(rowOf RB.cells rs).set (0+((i:Nat):Int).toNat*3+1) (.bool false)=rowOf RB.cells (rs.set i ⟨os[j],false,r.c,r.b⟩):=by
    rw[Nat.zero_add,Int.toNat_natCast]
    exact g7 A2 (by decide) rs i r hr (by rw[<- hro];rfl)
   have hgv:=hx.give hokj hr
   rw[hro,eg] at hgv
   refine ar O O<|lr<|mv O O<|ad O (ae O)<|ad O (aE 2 O iN O O j8)<|ad O (aI O lh) ?_
   refine mv O O<|ad O (aL O O mm lb (by omega)) ?_
   refine ad O (aE 1 O lq O O j6) ?_
   refine ee O O O j6 O tk (by omega) hset ?_
   refine ai<|bz<|an<|aD<|mv O O<|ad O (bn O O) ?_
   refine ar O O<|ai ?_
   refine xY (L':=bd pr (s.gives (os.take (j+1)))::pt p (.cells (ints os).toArray 3 (0,0))::Fr) (eP (v:=.slice (some ⟨g,0,none⟩) rs.length cap) (n:=rs.length) (lim:=(s.gives (os.take j)).limit) (st:=(((s.gives (os.take j)).stop:Nat):Int)) hgv (by rw[(kY _ _).2,(kY _ _).2]) (by unfold ArS.stop;rw[gm,gm]) (by simp) (by(exact en))) ?_
   apply aU ((j+1))
   ·exact by omega
   ·omega
   ·exact⟨O,O,O,trivial⟩
   exact en
  exact absurd hlj (hno c0)
 obtain rfl:j=os.length:=by omega
 rw[List.take_length]
 exact xt O<|nz<|ar O O<|lc<|rt<|cN O ([bd pr (s.gives os)]) (.tmp rfl) ⟨rfl,rfl⟩
theorem zQ (p:Nat) (a b:Int) (hab:a≠b) (h1:∃ c,(a,c)∈s.bl) (h2:∃ c,(b,c)∈s.bl):aK Tryz.prog 166 #[.pointer (some ⟨pr,0,none⟩),.slice (some ⟨p,0,none⟩) 2 2] [pt p (.cells #[.int .i64 a,.int .i64 b] 3 (0,0)),bd pr s] (fun v L=>v=.int .i64 0/\L= [bd pr (s.gives [a,b])]):=
 Cz pr s hs p 2 [a,b] rfl (by decide) (by simp[hab]) (by intro o ho;simp at ho;rcases ho with rfl | rfl;exact h1;exact h2)
end
theorem yl (limit:Int):aK Tryz.prog 27 #[.int .i64 limit] [] (fun v L=>((limit < 0\/2097152 < limit)/\v=.tuple #[.pointer none,.int .i64 20]/\L= [])\/(0<=limit/\limit<=2097152/\∃ pr,v=.tuple #[.pointer (some ⟨pr,0,none⟩),.int .i64 0]/\L= [bd pr (ArS.new limit)])):=by
 refine au Ki Tryz.func27 rfl rfl rfl fun Fr w0=>aZ ?_
 refine sr<|ar O O<|ar O O<|lc<|al<|sr<|mv O O<|ad O (qi O O (bj ·))<|mv O O<|bQ (t:=6) rfl (fun h=>?_) fun h=>?_
 ·exact ax O O O O<|ax O O O O<|ad O (aS O O)<|lc<|bk O<|sr<|ar O O<|ar O O<|lc<|rt<|ft O ([]) (.tmp rfl) (.tmp rfl) (.inl ⟨.inl h,rfl,rfl⟩)
 refine aA O O<|mv O O<|aA O O<|ad O (qi O O (di ·))<|ad O (aS O O)<|lc<|aG O (fun h2=>?_) fun h2=>?_
 ·exact sr<|ar O O<|ar O O<|lc<|rt<|ft O ([]) (.tmp rfl) (.tmp rfl) (.inl ⟨.inr h2,rfl,rfl⟩)
 refine aq<|nz<|mv O O ?_
 apply ad O
 ·apply bp O Jr Jn
  apply aP.one
  ·repeat (first | exact ba.here | apply ba.there)
  ·rfl
  ·exact sa
  apply aP.one
  ·repeat (first | exact ba.here | apply ba.there)
  ·rfl
  ·exact sa
  exact aP.nil
 refine bw O O fun b12=>ar O O<|ar O O<|lc<|rt ?_
 apply aR (.inl rfl) ([bd b12 (ArS.new limit)])
 ·apply cF O
  ·exact .tmp rfl
  exact .tmp rfl
 ·exact .inr ⟨by omega,by omega,_,rfl,rfl⟩
 refine eP (v:=.slice none 0 0) (rs:=[]) (n:=0) ⟨rfl,fun r hr=>(by cases hr)⟩ rfl rfl rfl (fun w h=>(gJ (e:=119) (sz:=3) h).perm (List.Perm.swap _ _ _))
end RefA
end Go.Proofs.YthkajgkagnenbaaGreatDoor
