import Derived.Test.YthkajgkagnenbaaGreatDoorArenaB
set_option linter.unusedVariables false
set_option linter.unusedSimpArgs false
set_option linter.unusedSectionVars false
set_option maxRecDepth 100000
namespace Go.Proofs.YthkajgkagnenbaaGreatDoor
namespace Arena
open Go.RowKit Go.Proofs Eng Ty Bits Mem Search
theorem Class_ok (n:Int):aG Tryz.prog 155 #[.int .i64 n] [] (fun v L=>v=.int .i64 (aC n)∧L= []):=by
  refine aq Gm Tryz.func155 rfl rfl rfl fun Fr w0=>aR ?_
  refine sr<|asg rfl rfl<|lc<|ah<|sr<|mv rfl rfl<|l_q rfl (qi rfl rfl (aU ·))<|mv rfl rfl<|bD (t:=7) rfl (fun h=>?_) fun h=>?_
  · refine ar rfl rfl rfl rfl<|ar rfl rfl rfl rfl<|l_q rfl (aL rfl rfl)<|lc<|aY rfl<|sr<|asg rfl rfl<|lc<|rt<|fr1 rfl ([]) (.tmp rfl) ?_
    exact⟨by unfold aC;rw[if_pos (.inl h)],rfl⟩
  refine au rfl rfl<|mv rfl rfl<|au rfl rfl<|l_q rfl (qi rfl rfl (cU ·))<|l_q rfl (aL rfl rfl)<|lc<|aA rfl (fun h2=>?_) fun h2=>?_
  · refine sr<|asg rfl rfl<|lc<|rt<|fr1 rfl ([]) (.tmp rfl) ?_
    exact⟨by unfold aC;rw[if_pos (.inr h2)],rfl⟩
  refine al<|nz<|asg rfl rfl<|lc<|ah<|ax ?_
  refine bw (fun e:Nat=>e≤16∧∀ j,j < e→16*(2:Int) ^ j < n) (fun e=>[(0,.int .i64 n),(3,.int .i64 (16*2 ^ e))]) (fun _=>Fr) (fun e=>17-e) 0 ⟨by omega,by omega⟩ ⟨rfl,rfl,trivial⟩ (Ent.refl _) ?_
  rintro e ⟨he,hno⟩
  have pe:(2:Int) ^ (e+1)=2*2 ^ e:=by rw[Int.pow_succ];omega
  have p0:(1:Int)≤2 ^ e:=by have:=bX e;have:=Nat.two_pow_pos e;omega
  have p1:(2:Int) ^ e≤65536:=by
    have h1:2 ^ e≤2 ^ 16:=Nat.pow_le_pow_right (by decide) he
    have:=bX e
    omega
  refine ah<|sr<|mv rfl rfl<|mv rfl rfl<|l_q rfl (qi rfl rfl (aU ·))<|lc<|aA rfl (fun q=>?_) fun q=>?_
  · refine al<|ak<|ax<|aB<|mv rfl rfl<|l_q rfl (dF rfl rfl) ?_
    refine asg rfl rfl<|aj<|aV ?_
    apply aO ((e+1))
    · exact⟨by rcases Nat.lt_or_ge e 16 with h16 | h16;omega;(have:e=16:=by omega);subst this;omega,fun j hj=>by by_cases hje:j=e;(subst hje;exact q);exact hno j (by omega)⟩
    · omega
    · exact⟨rfl,congrArg (fun z=>some (Value.int .i64 z)) (by omega),trivial⟩
    exact en
  refine xt rfl<|ak<|ah<|sr<|mv rfl rfl<|l_q rfl (gI rfl rfl) ?_
  refine l_q rfl (dF rfl rfl) ?_
  refine asg rfl rfl<|lz<|mv rfl rfl<|l_q rfl (qi rfl rfl (cU ·))<|mv rfl rfl ?_
  have ht:=vO (n:=n) (e:=e) (by omega) he hno
  refine bD (t:=21) rfl (fun r=>?_) fun r=>?_
  · refine au rfl rfl<|mv rfl rfl<|au rfl rfl<|mv rfl rfl<|au rfl rfl<|l_q rfl (qi rfl rfl (iw ·))<|l_q rfl (aL rfl rfl)<|lc<|aA rfl (fun s=>?_) fun s=>?_
    · refine sr<|mv rfl rfl<|asg rfl rfl<|lc<|rt<|fr1 rfl ([]) (.tmp rfl) ?_
      exact⟨by unfold aC;rw[if_neg (by omega),ht,if_pos (by omega)],rfl⟩
    refine al<|nz<|mv rfl rfl<|asg rfl rfl<|lc<|rt<|fr1 rfl ([]) (.tmp rfl) ?_
    exact⟨by unfold aC;rw[if_neg (by omega),ht,if_neg (by omega)],rfl⟩
  refine ar rfl rfl rfl rfl<|ar rfl rfl rfl rfl<|ar rfl rfl rfl rfl<|l_q rfl (aL rfl rfl)<|lc<|bR rfl<|al<|nz<|mv rfl rfl<|asg rfl rfl<|lc<|rt<|fr1 rfl ([]) (.tmp rfl) ?_
  exact⟨by unfold aC;rw[if_neg (by omega),ht,if_neg (by omega)],rfl⟩
abbrev FL:=List (Int×Value×List Int)
def eM:FL→Int→Value×List Int
  | [],_=>(.slice none 0 0,[])
  | p::r,k=>if p.1=k then p.2 else eM r k
def ij:FL→Int→Value×List Int→FL
  | [],k,y=>[(k,y)]
  | p::r,k,y=>if p.1=k then(p.1,y)::r else p::ij r k y
def gL:FL→Int→FL
  | [],_=>[]
  | p::r,k=>if p.1=k then r else p::gL r k
def qa (fl:FL):List (Int×Value):=fl.map fun p=>(p.1,p.2.1)
theorem tF (fl:FL) (k k':Int) (y:Value×List Int):eM (ij fl k y) k'=if k'=k then y else eM fl k':=by
  induction fl with
  | nil=>
    simp only[ij,eM]
    by_cases q:k=k'
    · rw[if_pos q,if_pos q.symm]
    rw[if_neg q,if_neg (Ne.symm q)]
  | cons p r ih=>
    simp only[ij]
    by_cases q:p.1=k
    · rw[if_pos q]
      simp only[eM]
      by_cases q2:p.1=k'
      · rw[if_pos q2,if_pos (by omega)]
      rw[if_neg q2,if_neg (by omega),if_neg q2]
    rw[if_neg q]
    simp only[eM]
    by_cases q2:p.1=k'
    · rw[if_pos q2,if_neg (by omega),if_pos q2]
    rw[if_neg q2,ih,if_neg q2]
theorem pZ (fl:FL) (k:Int) (y:Value×List Int):qa (ij fl k y)=gG (qa fl) k y.1:=by
  induction fl with
  | nil=>rfl
  | cons p r ih=>
    simp only[ij,qa,List.map_cons,gG]
    by_cases q:p.1=k
    · rw[if_pos q,if_pos q];simp
    rw[if_neg q,if_neg q,List.map_cons]
    exact congrArg _ ih
theorem p9 (fl:FL) (k:Int):(lkK (qa fl) k).getD (.slice none 0 0)=(eM fl k).1:=by
  induction fl with
  | nil=>rfl
  | cons p r ih=>
    simp only[qa,List.map_cons,lkK,eM]
    by_cases q:p.1=k
    · rw[if_pos q,if_pos q];rfl
    rw[if_neg q,if_neg q];exact ih
def nm (fl:FL):List HP:=fl.map fun p=>eK 3 p.2.1 (ints p.2.2)
def ek (fl:FL):HP:=stars (nm fl)
theorem Ai (fl:FL) (k:Int):(nm fl).Perm (eK 3 (eM fl k).1 (ints (eM fl k).2)::nm (gL fl k))∨(eM fl k=(.slice none 0 0,[])∧gL fl k=fl):=by
  induction fl with
  | nil=>exact .inr ⟨rfl,rfl⟩
  | cons p r ih=>
    simp only[eM,gL]
    by_cases q:p.1=k
    · rw[if_pos q,if_pos q];exact .inl (List.Perm.refl _)
    rw[if_neg q,if_neg q]
    rcases ih with h | ⟨h1,h2⟩
    · exact .inl ((List.Perm.cons _ h).trans (List.Perm.swap _ _ _))
    exact .inr ⟨h1,by rw[h2]⟩
theorem xL (fl:FL) (k:Int) (y:Value×List Int):(eK 3 y.1 (ints y.2)::nm (gL fl k)).Perm (nm (ij fl k y)):=by
  induction fl with
  | nil=>exact List.Perm.refl _
  | cons p r ih=>
    simp only[ij,gL]
    by_cases q:p.1=k
    · rw[if_pos q,if_pos q];exact List.Perm.refl _
    rw[if_neg q,if_neg q]
    exact(List.Perm.swap _ _ _).trans (List.Perm.cons _ ih)
theorem oT {fl:FL} {k:Int} {L:List HP}:Ent (ek fl::L) (eK 3 (eM fl k).1 (ints (eM fl k).2)::ek (gL fl k)::L):=fun w h=>by
  have h1:=cl.1 h
  rcases Ai fl k with hp | ⟨e1,e2⟩
  · have h2:=h1.perm (hp.append_right L)
    have h3:Sat (stars ((nm (gL fl k) ++ (eK 3 (eM fl k).1 (ints (eM fl k).2)::L)))) w:=h2.perm (by
      simp only[List.cons_append]
      exact List.perm_middle.symm)
    exact(cl.2 h3:Sat (stars (ek (gL fl k)::eK 3 (eM fl k).1 (ints (eM fl k).2)::L)) w).perm (List.Perm.swap _ _ _)
  rw[e1,e2]
  exact zw w h
theorem nG {fl:FL} {k:Int} {v:Value} {xs:List Int} {L:List HP}:Ent (eK 3 v (ints xs)::ek (gL fl k)::L) (ek (ij fl k (v,xs))::L):=fun w h=>by
  have h1:=(h.perm (List.Perm.swap _ _ _):Sat (stars (ek (gL fl k)::eK 3 v (ints xs)::L)) w)
  have h2:=cl.1 h1
  refine cl.2 (h2.perm ?_)
  refine List.perm_middle.trans ?_
  rw[← List.cons_append]
  exact(xL fl k (v,xs)).append_right L
def ym (s:ArS) (lm:List (Int×Value)):Prop:=(∀ p∈s.bl,lkK lm p.1=some (.int .i64 p.2))∧∀ k,(∀ c,(k,c)∉s.bl)→lkK lm k=none
def vD (s:ArS) (fl:FL):Prop:=∀ c,(eM fl c).2=s.frL c
structure ArX where
  pm:Nat
  g:Nat
  cap:Nat
  sb:Nat
  fb:Nat
  vs:Value
  vc:Value
  lm:List (Int×Value)
  fl:FL
@[reducible] def arP (pa:Nat) (s:ArS) (x:ArX):List HP:=
  [pt pa (.cells #[.int .i64 s.limit,.int .i64 s.live,.pointer (some ⟨x.pm,0,none⟩),x.vs,x.vc,.map (some x.sb),.map (some x.fb)] 116 (0,0)),pt x.pm (.cells #[.slice (some ⟨x.g,0,none⟩) s.stop x.cap] 189 (0,0)),aE 5 1 (.slice (some ⟨x.g,0,none⟩) s.stop x.cap) s.stop (bt s.m s.stop),
   aE 3 1 x.vs s.all.length (ints (s.all.map (·.1))),aE 3 1 x.vc s.all.length (ints (s.all.map (·.2))),cy (fun k:Int=>Value.int .i64 k) x.sb x.lm,cy (fun k:Int=>Value.int .i64 k) x.fb (qa x.fl),ek x.fl]
def x8 (s:ArS) (x:ArX):Prop:=s.ok∧s.stop≤x.cap∧x.cap≤134217728∧ym s x.lm∧vD s x.fl
def ae (pa:Nat) (s:ArS):HP:=exP (x8 s) (arP pa s)
theorem dr {c:Cx} {fin:Exit→Act→World→Prop} {ds:List Deferred} {E:Env} {ks:List KI} {pa:Nat} {s:ArS} {R:List HP} {y:Code} (k:∀ x,x8 s x→TC c fin ds E (arP pa s x ++ R) y ks):TC c fin ds E (ae pa s::R) y ks:=
  jy (X:={x:ArX // x8 s x}) (LL:=fun x=>arP pa s x.1 ++ R) (fun w hs=>let ⟨x,hp,h⟩:=bZ.1 hs;⟨⟨x,hp⟩,h⟩) fun x=>k x.1 x.2
theorem bV {pa:Nat} {s:ArS} {x:ArX} {L R:List HP} (hp:x8 s x) (he:Ent L (arP pa s x ++ R)):Ent L ([ae pa s] ++ R):=fun w h=>bZ.2 ⟨x,hp,he w h⟩
theorem Bd (pa:Nat) (s:ArS):aG Tryz.prog 13 #[.pointer (some ⟨pa,0,none⟩)] [ae pa s] (fun v L=>v=.int .i64 (s.stop:Nat)∧L= [ae pa s]):=by
  refine aq H2 Tryz.func13 rfl rfl rfl fun Fr w0=>aR ?_
  refine dr fun x hx=>?_
  refine gF fun M hM=>?_
  simp only[List.cons_append,List.nil_append] at hM
  subst M
  refine sr<|asg rfl rfl<|lz<|mv rfl rfl<|l_q rfl (ad rfl)<|l_q rfl (qfa 2 rfl cV rfl rfl mc)<|l_q rfl (qld rfl mg) ?_
  refine lc1 rfl rfl rfl (D8 x.pm x.g s.stop x.cap s.m) ?_
  refine asg rfl rfl<|lc<|rt ?_
  apply aJ (.inl rfl) ([ae pa s])
  · apply cO rfl
    exact .tmp rfl
  · exact⟨rfl,rfl⟩
  refine bV hx ?_;(exact en)
theorem Cn {s:ArS} {lm:List (Int×Value)} (h:ym s lm) (hok:s.ok) {i:Nat} (hi:i < s.all.length):∃ zz,(lkK lm s.all[i].1).getD (.int .i64 0)=.int .i64 zz∧(lkK lm s.all[i].1).isSome= !s.dead s.all[i].1∧(s.dead s.all[i].1=false→zz=s.all[i].2)∧(zz=0∨zz=s.all[i].2):=by
  have hm:s.all[i]∈s.all:=List.getElem_mem hi
  cases hd:s.dead s.all[i].1 with
  | false=>
    have:=h.1 _ (cr.2 ⟨hm,hd⟩)
    rw[this]
    exact⟨_,rfl,rfl,fun _=>rfl,.inr rfl⟩
  | true=>
    have:=h.2 s.all[i].1 fun c hc=>by have:=(cr.1 hc).2;dsimp only at this;rw[hd] at this;cases this
    rw[this]
    exact⟨0,rfl,rfl,fun q=>(by cases q),.inl rfl⟩
theorem oQ (pa:Nat) (s:ArS) (i:Nat) (hi:i < s.all.length) (off n:Int) (ho:0≤off∧off≤1000000000):aG Tryz.prog 128 #[.pointer (some ⟨pa,0,none⟩),.int .i64 i,.int .i64 off,.int .i64 n] [ae pa s]
    (fun v L=>v=.bool (!s.dead s.all[i].1 && decide (n≤s.all[i].1+s.all[i].2-off))∧L= [ae pa s]):=by
  refine aq C7 Tryz.func128 rfl rfl rfl fun Fr w0=>aR ?_
  refine dr fun x hx=>?_
  refine gF fun M hM=>?_
  simp only[List.cons_append,List.nil_append] at hM
  subst M
  obtain⟨pm,g,cap,sb,fb,vs,vc,lm,fl⟩:=x
  have hst:=hx.1.stop_eq
  have hmem:s.all[i]∈s.all:=List.getElem_mem hi
  obtain⟨hb1,hb2⟩:=ArS.chain_pos hx.1.chain _ hmem
  obtain⟨zz,hz1,hz2,hz3,hz4⟩:=Cn hx.2.2.2.1 hx.1 hi
  dsimp only at hz1 hz2
  refine cw (.there (.there (.there .here))) fun _ hvs=>?_
  obtain⟨av,cv,rfl,hav,_,_⟩:=hvs
  obtain⟨gv,rfl⟩:=hav (by omega)
  have hend:=fD hx.1.chain hmem
  dsimp only
  refine sr<|asg rfl rfl<|lc<|ah<|sr<|mv rfl rfl<|l_q rfl (qi rfl rfl (aU ·))<|lc<|aA rfl (fun z=>?_) fun z=>?_
  · omega
  refine al<|ak<|ah<|aS mixed ?_
  apply dq 0 rfl
  · exact yq (ai rfl)
  apply dq 1 rfl
  · exact yq (ad rfl)
  apply dq 2 rfl
  · exact yq (qfa 5 rfl cV rfl rfl pU)
  apply dq 3 rfl
  · exact yq (qld rfl pW)
  apply dq 4 rfl
  · exact yq (ai rfl)
  apply dq 5 rfl
  · exact yq (ad rfl)
  apply dq 6 rfl
  · exact yq (qfa 3 rfl cV rfl rfl od)
  apply dq 7 rfl
  · exact yq (qld rfl ux)
  apply dq 8 rfl
  · exact yq (ai rfl)
  apply dq 9 rfl
  · exact yq (ay rfl rfl bn yS3 (by omega))
  apply dq 10 rfl
  · apply yq
    apply bf rfl yA3
    · exact tk
    rw[Nat.zero_add,Int.toNat_natCast,ints_at (by simpa using hi),List.getElem_map]
  apply dq 11 rfl
  · apply yq
    refine QV.to (v':=.tuple #[.int .i64 zz,.bool (!s.dead s.all[i].1)]) (kY fX rfl rfl Tryz.underlying113 Tryz.underlying3 yZ3 (by exact tk)) (by rw[hz1,hz2])
  apply dq 12 rfl
  · exact yq (ai rfl)
  apply dq 13 rfl
  · exact yq (aa rfl ga)
  apply dq 14 rfl
  · exact yq (aa rfl ga)
  refine an [13,0,1,2,3,4,5,6,7,8,9,10,11,12] [14] 15 [(26,_)] gO ⟨rfl,trivial⟩ (by kernel_rfl) (by kernel_rfl) fun Ex=>?_
  refine asg rfl rfl<|aj ?_
  apply n_d
  · refine⟨?_,trivial⟩
    apply ya rfl rfl;exact yq (aa rfl ga)
  refine an [14] [] 16 [(27,_)] gO ⟨rfl,trivial⟩ (by kernel_rfl) (by kernel_rfl) fun Ex=>?_
  refine asg rfl rfl<|aj ?_
  apply n_d
  · exact trivial
  refine bd (by kernel_rfl) ?_
  refine nz<|mv rfl rfl<|mv rfl rfl<|bD (t:=29) rfl (fun q=>?_) fun q=>?_
  · refine au rfl rfl<|mv rfl rfl<|au rfl rfl<|mv rfl rfl<|au rfl rfl<|l_q rfl (ad rfl)<|au rfl rfl<|l_q rfl (qfa 3 rfl cV rfl rfl od)<|au rfl rfl<|l_q rfl (qld rfl ux) ?_
    refine au rfl rfl<|mv rfl rfl<|au rfl rfl<|l_q rfl (ay rfl rfl bn yS3 (by omega)) ?_
    refine au rfl rfl ?_
    apply l_q rfl
    · apply bf rfl yA3
      · exact tk
      rw[Nat.zero_add,Int.toNat_natCast,ints_at (by simpa using hi),List.getElem_map]
    refine au rfl rfl<|mv rfl rfl<|au rfl rfl<|l_q rfl (ba rfl rfl) ?_
    refine au rfl rfl<|mv rfl rfl<|au rfl rfl<|l_q rfl (e9 rfl rfl) ?_
    refine au rfl rfl<|l_q rfl (qi rfl rfl (iw ·))<|l_q rfl (aL rfl rfl)<|asg rfl rfl<|lc<|rt ?_
    have hdd:s.dead s.all[i].1=false:=by simpa using q
    apply aJ (.inl rfl) ([ae pa s])
    · apply cO rfl
      exact .tmp rfl
    · exact⟨by rw[hz3 hdd,hdd];rfl,rfl⟩
    refine bV hx ?_;dsimp only[arP];(exact en)
  refine ar rfl rfl rfl rfl<|ar rfl rfl rfl rfl<|ar rfl rfl rfl rfl<|ar rfl rfl rfl rfl<|ar rfl rfl rfl rfl<|ar rfl rfl rfl rfl<|ar rfl rfl rfl rfl<|ar rfl rfl rfl rfl<|ar rfl rfl rfl rfl<|ar rfl rfl rfl rfl<|ar rfl rfl rfl rfl<|ar rfl rfl rfl rfl<|ar rfl rfl rfl rfl<|l_q rfl (aL rfl rfl)<|asg rfl rfl<|lc<|rt ?_
  have hdd:s.dead s.all[i].1=true:=by simpa using q
  apply aJ (.inl rfl) ([ae pa s])
  · apply cO rfl
    exact .tmp rfl
  · exact⟨by rw[hdd];rfl,rfl⟩
  refine bV hx ?_;dsimp only[arP];(exact en)
theorem Aa (pa:Nat) (s:ArS) (off n i:Int) (hi:i < 0):aG Tryz.prog 128 #[.pointer (some ⟨pa,0,none⟩),.int .i64 i,.int .i64 off,.int .i64 n] [ae pa s]
    (fun v L=>v=.bool false∧L= [ae pa s]):=by
  refine aq C7 Tryz.func128 rfl rfl rfl fun Fr w0=>aR ?_
  refine sr<|asg rfl rfl<|lc<|ah<|sr<|mv rfl rfl<|l_q rfl (qi rfl rfl (aU ·))<|lc<|aA rfl (fun z=>?_) fun z=>?_
  · exact sr<|asg rfl rfl<|lc<|rt<|fr1 rfl ([ae pa s]) (.tmp rfl) ⟨rfl,rfl⟩
  omega
def Hd (s:ArS) (i:Nat) (off n:Int):Prop:=∃ h:i < s.all.length,s.dead s.all[i].1=false∧n≤s.all[i].1+s.all[i].2-off
theorem u4 {s:ArS} {i:Nat} (hi:i < s.all.length) {off n:Int}:(!s.dead s.all[i].1 && decide (n≤s.all[i].1+s.all[i].2-off))=true↔Hd s i off n:=by
  rw[Bool.and_eq_true,decide_eq_true_eq]
  constructor
  · rintro⟨a,b⟩;exact⟨hi,by simpa using a,b⟩
  rintro⟨_,a,b⟩;exact⟨by rw[a];rfl,b⟩
theorem Ad {s:ArS} (hc:ArS.chain 16 s.all) {i:Nat} (hi:i < s.all.length) {off n:Int} (h0:0≤n) (h1:s.all[i].1 < off) (h2:∀ j (hj:j < s.all.length),i < j→off < s.all[j].1):aN s off n↔Hd s i off n:=by
  constructor
  · rintro⟨_,p,hp,p1,p2⟩
    obtain⟨hp,hd⟩:=cr.1 hp
    obtain⟨j,hj,rfl⟩:=List.getElem_of_mem hp
    rcases Nat.lt_trichotomy j i with q | q | q
    · have:=dk hc j i hj hi q
      omega
    · subst q;exact⟨hi,hd,by omega⟩
    have:=h2 j hj q;omega
  rintro⟨_,a,b⟩
  exact⟨h0,_,cr.2 ⟨List.getElem_mem hi,a⟩,by omega,by omega⟩
theorem B8 {s:ArS} (hc:ArS.chain 16 s.all) {i:Nat} (hi:i < s.all.length) {off n:Int} (h0:0≤n) (h1:s.all[i].1=off):aN s off n↔Hd s i off n∨(n=0∧∃ j,i=j+1∧Hd s j off n):=by
  constructor
  · rintro⟨_,p,hp,p1,p2⟩
    obtain⟨hp,hd⟩:=cr.1 hp
    obtain⟨j,hj,rfl⟩:=List.getElem_of_mem hp
    have hpos:=(ArS.chain_pos hc _ hp).2
    rcases Nat.lt_trichotomy j i with q | q | q
    · have h3:=dk hc j i hj hi q
      refine .inr ⟨by omega,j,?_,hj,hd,by omega⟩
      rcases Nat.lt_or_ge (j+1) i with q2 | q2
      · have h4:=dk hc j (j+1) hj (by omega) (by omega)
        have h5:=dk hc (j+1) i (by omega) hi q2
        have h6:=(ArS.chain_pos hc _ (List.getElem_mem (show j+1 < s.all.length by omega))).2
        omega
      omega
    · subst q;exact .inl ⟨hi,hd,by omega⟩
    have:=dk hc i j hi hj q
    have h6:=(ArS.chain_pos hc _ (List.getElem_mem hi)).2
    omega
  rintro(⟨_,a,b⟩ | ⟨rfl,j,rfl,hj,a,b⟩)
  · exact⟨h0,_,cr.2 ⟨List.getElem_mem hi,a⟩,by omega,by omega⟩
  have h3:=dk hc j (j+1) hj hi (by omega)
  have h6:=(ArS.chain_pos hc _ (List.getElem_mem hj)).2
  exact⟨h0,_,cr.2 ⟨List.getElem_mem hj,a⟩,by omega,by omega⟩
theorem aN.end_le {s:ArS} (h:s.ok) {off n:Int} (hg:aN s off n):16≤off∧off+n≤(s.stop:Int)∧s.all≠[]:=by
  obtain⟨_,p,hp,p1,p2⟩:=hg
  obtain⟨hp,_⟩:=cr.1 hp
  have a:=ArS.chain_pos h.chain p hp
  have b:=fD h.chain hp
  have c:=h.stop_eq
  exact⟨by omega,by omega,fun e=>by rw[e] at hp;cases hp⟩
theorem eT (pa:Nat) (s:ArS) (hne:s.all≠[]) (off n:Int):aG Tryz.prog 50 #[.pointer (some ⟨pa,0,none⟩),.int .i64 off,.int .i64 n] [ae pa s]
    (fun v L=>(∃ b:Bool,v=.bool b∧(b=true↔aN s off n))∧L= [ae pa s]):=by
  refine aq HF Tryz.func50 rfl rfl rfl fun Fr w0=>aR ?_
  refine cI (φ:=s.ok) (fun w hw=>by obtain⟨x,hx,_⟩:=bZ.1 hw;exact hx.1) fun hok=>?_
  have hst:=hok.stop_eq
  refine sr<|asg rfl rfl<|lc<|ah<|sr<|mv rfl rfl<|l_q rfl (qi rfl rfl (aU ·))<|mv rfl rfl<|bD (t:=11) rfl (fun h1=>?_) fun h1=>?_
  · refine ar rfl rfl rfl rfl<|ar rfl rfl rfl rfl<|l_q rfl (aL rfl rfl)<|mv rfl rfl<|ar rfl rfl rfl rfl<|ar rfl rfl rfl rfl<|ar rfl rfl rfl rfl<|ar rfl rfl rfl rfl<|l_q rfl (aL rfl rfl)<|lc<|aY rfl<|sr<|asg rfl rfl<|lc<|rt<|fr1 rfl ([ae pa s]) (.tmp rfl) ?_
    exact⟨⟨true && false,rfl,by simp;rintro⟨h0,_⟩;omega⟩,rfl⟩
  refine au rfl rfl<|mv rfl rfl<|au rfl rfl<|l_q rfl (qi rfl rfl (aU ·))<|l_q rfl (aL rfl rfl)<|mv rfl rfl<|bD (t:=15) rfl (fun h2=>?_) fun h2=>?_
  · refine ar rfl rfl rfl rfl<|ar rfl rfl rfl rfl<|ar rfl rfl rfl rfl<|ar rfl rfl rfl rfl<|l_q rfl (aL rfl rfl)<|lc<|aY rfl<|sr<|asg rfl rfl<|lc<|rt<|fr1 rfl ([ae pa s]) (.tmp rfl) ?_
    exact⟨⟨false,rfl,by simp;intro hg;have:=aN.end_le hok hg;omega⟩,rfl⟩
  refine au rfl rfl<|mv rfl rfl<|au rfl rfl<|mv rfl rfl<|au rfl rfl<|lc1 rfl rfl rfl (Bd pa s) ?_
  refine au rfl rfl<|l_q rfl (qi rfl rfl (cU ·))<|l_q rfl (aL rfl rfl)<|lc<|aA rfl (fun h3=>?_) fun h3=>?_
  · refine sr<|asg rfl rfl<|lc<|rt<|fr1 rfl ([ae pa s]) (.tmp rfl) ?_
    exact⟨⟨false,rfl,by simp;intro hg;have:=aN.end_le hok hg;omega⟩,rfl⟩
  refine dr fun x hx=>?_
  refine gF fun M hM=>?_
  simp only[List.cons_append,List.nil_append] at hM
  subst M
  obtain⟨pm,g,cap,sb,fb,vs,vc,lm,fl⟩:=x
  have hpos:0 < s.all.length:=List.length_pos_iff.2 hne
  refine cw (.there (.there (.there .here))) fun _ hvs=>?_
  obtain⟨av,cv,rfl,hav,hcv,hcm⟩:=hvs
  obtain⟨gv,rfl⟩:=hav (by omega)
  dsimp only
  refine al<|nz<|mv rfl rfl<|l_q rfl (ad rfl)<|l_q rfl (qfa 3 rfl cV rfl rfl od)<|l_q rfl (qld rfl ux) ?_
  refine mv rfl rfl ?_
  have hsn:=ArS.sum_nonneg hok.chain
  refine lcf rfl rfl rfl (yb (s.all.map (·.1)) gv s.all.length cv off (by simp) (by omega) (o5 hok.chain)) ?_
  rintro v L' ⟨⟨i,rfl,hpl⟩,rfl⟩
  refine bF ?_
  refine mv rfl rfl<|l_q rfl (aa rfl ga) ?_
  refine l_q rfl (aa rfl ga) ?_
  refine asg rfl rfl<|asg rfl rfl<|lc<|ah<|sr<|mv rfl rfl<|l_q rfl (cX rfl (bY ·))<|lc ?_
  obtain⟨hp1,hp2,hp3⟩:=hpl
  simp only[List.length_map,List.getElem_map] at hp1 hp2 hp3
  have hx0:=vg hok.chain hpos
  refine jy (X:=Unit) (LL:=fun _=>ae pa s::Fr) (fun w hs=>⟨(),bV (x:=⟨pm,g,cap,sb,fb,.slice (some ⟨gv,0,none⟩) s.all.length cv,vc,lm,fl⟩) hx (by dsimp only[arP];(exact en)) w hs⟩) fun _=>?_
  refine aA rfl (fun e=>?_) fun e=>?_
  · refine aB<|mv rfl rfl<|l_q rfl (e9 rfl rfl) ?_
    refine asg rfl rfl<|lz<|mv rfl rfl<|mv rfl rfl<|mv rfl rfl<|mv rfl rfl ?_
    have hi1:1≤i:=by
      rcases Nat.eq_zero_or_pos i with h0 | h0
      · subst h0
        have:=hp3 0 hpos (by omega)
        exact absurd (by rw[List.getElem?_eq_getElem (by simpa using hpos)];simp only[List.getElem_map];congr 1;omega) e
      exact h0
    rw[show(i:Int)-1=((i-1:Nat):Int) by omega]
    have hlt:i-1 < s.all.length:=by omega
    have hge:=hp2 (i-1) hlt (by omega)
    have hup:∀ j (hj:j < s.all.length),i-1 < j→off < s.all[j].1:=fun j hj hij=>by
      have h5:=hp3 j hj (by omega)
      rcases Nat.lt_or_ge i j with h6 | h6
      · have h7:=hp3 i (by omega) (by omega)
        have h8:=o5 hok.chain i j (by simp;omega) (by simpa using hj) h6
        simp only[List.getElem_map] at h8
        omega
      have:j=i:=by omega
      subst this
      have h9:s.all[j].1≠off:=fun q=>e (by rw[List.getElem?_eq_getElem (by simpa using hj)];simp only[List.getElem_map];rw[q])
      omega
    have hgi:=Ad hok.chain hlt (n:=n) (by omega) hge hup
    have hHd:=u4 hlt (off:=off) (n:=n)
    refine lc1 rfl rfl rfl (oQ pa s (i-1) hlt off n ⟨by omega,by omega⟩) ?_
    refine mv rfl rfl<|bD (t:=39) rfl (fun r=>?_) fun r=>?_
    · refine ar rfl rfl rfl rfl<|ar rfl rfl rfl rfl<|ar rfl rfl rfl rfl<|cg rfl rfl rfl<|ar rfl rfl rfl rfl<|ar rfl rfl rfl rfl<|cg rfl rfl rfl<|cg rfl rfl rfl<|cg rfl rfl rfl<|cg rfl rfl rfl<|cg rfl rfl rfl<|cg rfl rfl rfl<|ar rfl rfl rfl rfl<|l_q rfl (aL rfl rfl)<|asg rfl rfl<|lc<|rt<|fr1 rfl ([ae pa s]) (.tmp rfl) ?_
      exact⟨⟨true,rfl,by simp only[true_iff];exact hgi.2 (hHd.1 r)⟩,rfl⟩
    refine au rfl rfl<|mv rfl rfl<|au rfl rfl<|l_q rfl (qi rfl rfl (aZ ·))<|au rfl rfl<|mv rfl rfl ?_
    have hng:¬ aN s off n:=fun hg=>by have:=hHd.2 (hgi.1 hg);rw[r] at this;cases this
    refine bD (t:=42) rfl (fun t=>?_) fun t=>?_
    · refine au rfl rfl<|mv rfl rfl<|au rfl rfl<|l_q rfl (aL rfl rfl)<|au rfl rfl<|mv rfl rfl<|bD (t:=45) rfl (fun u=>?_) fun u=>?_
      · exact absurd u e
      refine ar rfl rfl rfl rfl<|ar rfl rfl rfl rfl<|ar rfl rfl rfl rfl<|ar rfl rfl rfl rfl<|ar rfl rfl rfl rfl<|ar rfl rfl rfl rfl<|au rfl rfl<|l_q rfl (aL rfl rfl)<|l_q rfl (aL rfl rfl)<|asg rfl rfl<|lc<|rt<|fr1 rfl ([ae pa s]) (.tmp rfl) ?_
      exact⟨⟨false,rfl,by simp only[Bool.false_eq_true,false_iff];exact hng⟩,rfl⟩
    refine ar rfl rfl rfl rfl<|au rfl rfl<|l_q rfl (aL rfl rfl)<|au rfl rfl<|mv rfl rfl<|ar rfl rfl rfl rfl<|ar rfl rfl rfl rfl<|ar rfl rfl rfl rfl<|ar rfl rfl rfl rfl<|ar rfl rfl rfl rfl<|ar rfl rfl rfl rfl<|au rfl rfl<|l_q rfl (aL rfl rfl)<|l_q rfl (aL rfl rfl)<|asg rfl rfl<|lc<|rt<|fr1 rfl ([ae pa s]) (.tmp rfl) ?_
    exact⟨⟨false,rfl,by simp only[Bool.false_eq_true,false_iff];exact hng⟩,rfl⟩
  refine al<|nz<|mv rfl rfl<|mv rfl rfl<|mv rfl rfl<|mv rfl rfl ?_
  have he:=e
  have hlt:i < s.all.length:=by have:=(List.getElem?_eq_some_iff.1 he).1;simpa using this
  have heq:s.all[i].1=off:=by
    rw[List.getElem?_eq_getElem (by simpa using hlt)] at he
    simpa using he
  have hgi:=B8 hok.chain hlt (n:=n) (by omega) heq
  have hHd:=u4 hlt (off:=off) (n:=n)
  refine lc1 rfl rfl rfl (oQ pa s i hlt off n ⟨by omega,by omega⟩) ?_
  refine mv rfl rfl<|bD (t:=39) rfl (fun r=>?_) fun r=>?_
  · refine ar rfl rfl rfl rfl<|ar rfl rfl rfl rfl<|ar rfl rfl rfl rfl<|cg rfl rfl rfl<|ar rfl rfl rfl rfl<|ar rfl rfl rfl rfl<|cg rfl rfl rfl<|cg rfl rfl rfl<|cg rfl rfl rfl<|cg rfl rfl rfl<|cg rfl rfl rfl<|cg rfl rfl rfl<|ar rfl rfl rfl rfl<|l_q rfl (aL rfl rfl)<|asg rfl rfl<|lc<|rt<|fr1 rfl ([ae pa s]) (.tmp rfl) ?_
    exact⟨⟨true,rfl,by simp only[true_iff];exact hgi.2 (.inl (hHd.1 r))⟩,rfl⟩
  refine au rfl rfl<|mv rfl rfl<|au rfl rfl<|l_q rfl (qi rfl rfl (aZ ·))<|au rfl rfl<|mv rfl rfl ?_
  have hnr:¬ Hd s i off n:=fun hg=>by have:=hHd.2 hg;rw[r] at this;cases this
  refine bD (t:=42) rfl (fun t=>?_) fun t=>?_
  · refine au rfl rfl<|mv rfl rfl<|au rfl rfl<|l_q rfl (aL rfl rfl)<|au rfl rfl<|mv rfl rfl<|bD (t:=45) rfl (fun u=>?_) fun u=>?_
    · rcases Nat.eq_zero_or_pos i with hi0 | hi0
      · skip
        refine au rfl rfl<|mv rfl rfl<|au rfl rfl<|mv rfl rfl<|au rfl rfl<|l_q rfl (e9 rfl rfl) ?_
        refine au rfl rfl<|mv rfl rfl<|au rfl rfl<|mv rfl rfl<|au rfl rfl<|lc1 rfl rfl rfl (Aa pa s off n _ (by omega)) ?_
        refine au rfl rfl<|l_q rfl (aL rfl rfl)<|l_q rfl (aL rfl rfl)<|asg rfl rfl<|lc<|rt<|fr1 rfl ([ae pa s]) (.tmp rfl) ?_
        exact⟨⟨false,rfl,by simp only[Bool.false_eq_true,false_iff];intro hg;rcases hgi.1 hg with q | ⟨_,j,q,_⟩;exact hnr q;omega⟩,rfl⟩
      have hi1:(i:Int)-1=((i-1:Nat):Int):=by omega
      have hlt2:i-1 < s.all.length:=by omega
      have hHd2:=u4 hlt2 (off:=off) (n:=n)
      refine au rfl rfl<|mv rfl rfl<|au rfl rfl<|mv rfl rfl<|au rfl rfl<|l_q rfl (e9 rfl rfl) ?_
      refine au rfl rfl<|mv rfl rfl<|au rfl rfl<|mv rfl rfl<|au rfl rfl ?_
      rw[hi1]
      refine lc1 rfl rfl rfl (oQ pa s (i-1) hlt2 off n ⟨by omega,by omega⟩) ?_
      refine au rfl rfl<|l_q rfl (aL rfl rfl)<|l_q rfl (aL rfl rfl)<|asg rfl rfl<|lc<|rt<|fr1 rfl ([ae pa s]) (.tmp rfl) ?_
      exact⟨⟨_,rfl,by rw[hHd2,hgi];constructor;(exact fun q=>.inr ⟨t,i-1,by omega,q⟩);rintro(q | ⟨_,j,q,q2⟩);(exact absurd q hnr);rw[show i-1=j by omega];exact q2⟩,rfl⟩
    exact absurd he u
  refine ar rfl rfl rfl rfl<|au rfl rfl<|l_q rfl (aL rfl rfl)<|au rfl rfl<|mv rfl rfl<|ar rfl rfl rfl rfl<|ar rfl rfl rfl rfl<|ar rfl rfl rfl rfl<|ar rfl rfl rfl rfl<|ar rfl rfl rfl rfl<|ar rfl rfl rfl rfl<|au rfl rfl<|l_q rfl (aL rfl rfl)<|l_q rfl (aL rfl rfl)<|asg rfl rfl<|lc<|rt<|fr1 rfl ([ae pa s]) (.tmp rfl) ?_
  exact⟨⟨false,rfl,by simp only[Bool.false_eq_true,false_iff];intro hg;rcases hgi.1 hg with q | ⟨q,_⟩;exact hnr q;exact t q⟩,rfl⟩
theorem word_ok (pa:Nat) (s:ArS) (off:Int) (k:Nat) (hk:wid k) (hg:aN s off k) (hne:s.all≠[]):aG Tryz.prog 168 #[.pointer (some ⟨pa,0,none⟩),.int .i64 off,.int .i64 k] [ae pa s]
    (fun v L=>v=.int .i64 0∧L= [ae pa s]):=by
  refine aq C5 Tryz.func168 rfl rfl rfl fun Fr w0=>aR ?_
  refine sr<|asg rfl rfl<|lc<|ah<|sr<|mv rfl rfl<|lc<|ax<|ah<|sr<|l_q rfl (qi rfl rfl (aZ ·))<|asg rfl rfl<|lc<|ml (t:=8) rfl (fun h1=>?_) fun h1=>?_
  · refine aY rfl<|al<|ak<|aY rfl<|al<|aV<|ak<|ah<|sr<|mv rfl rfl<|mv rfl rfl<|mv rfl rfl<|lcf rfl rfl rfl (eT pa s hne off k) ?_
    rintro v L' ⟨⟨b,rfl,hb⟩,rfl⟩
    refine bF ?_
    refine l_q rfl (cX rfl (bY ·))<|lc<|aA rfl (fun z=>?_) fun z=>?_
    · rw[hb.2 hg] at z;cases z
    exact al<|nz<|asg rfl rfl<|lc<|rt<|fr1 rfl ([ae pa s]) (.tmp rfl) ⟨rfl,rfl⟩
  refine bR rfl<|sr<|l_q rfl (qi rfl rfl (aZ ·))<|asg rfl rfl<|lc<|ml (t:=8) rfl (fun h2=>?_) fun h2=>?_
  · refine aY rfl<|al<|ak<|aY rfl<|al<|aV<|ak<|ah<|sr<|mv rfl rfl<|mv rfl rfl<|mv rfl rfl<|lcf rfl rfl rfl (eT pa s hne off k) ?_
    rintro v L' ⟨⟨b,rfl,hb⟩,rfl⟩
    refine bF ?_
    refine l_q rfl (cX rfl (bY ·))<|lc<|aA rfl (fun z=>?_) fun z=>?_
    · rw[hb.2 hg] at z;cases z
    exact al<|nz<|asg rfl rfl<|lc<|rt<|fr1 rfl ([ae pa s]) (.tmp rfl) ⟨rfl,rfl⟩
  refine bR rfl<|sr<|l_q rfl (qi rfl rfl (aZ ·))<|asg rfl rfl<|lc<|ml (t:=8) rfl (fun h4=>?_) fun h4=>?_
  · refine aY rfl<|al<|ak<|aY rfl<|al<|aV<|ak<|ah<|sr<|mv rfl rfl<|mv rfl rfl<|mv rfl rfl<|lcf rfl rfl rfl (eT pa s hne off k) ?_
    rintro v L' ⟨⟨b,rfl,hb⟩,rfl⟩
    refine bF ?_
    refine l_q rfl (cX rfl (bY ·))<|lc<|aA rfl (fun z=>?_) fun z=>?_
    · rw[hb.2 hg] at z;cases z
    exact al<|nz<|asg rfl rfl<|lc<|rt<|fr1 rfl ([ae pa s]) (.tmp rfl) ⟨rfl,rfl⟩
  refine bR rfl<|aB<|l_q rfl (qi rfl rfl (aZ ·))<|asg rfl rfl<|lc<|ml (t:=8) rfl (fun h8=>?_) fun h8=>?_
  · refine aY rfl<|al<|aV<|ak<|ah<|sr<|mv rfl rfl<|mv rfl rfl<|mv rfl rfl<|lcf rfl rfl rfl (eT pa s hne off k) ?_
    rintro v L' ⟨⟨b,rfl,hb⟩,rfl⟩
    refine bF ?_
    refine l_q rfl (cX rfl (bY ·))<|lc<|aA rfl (fun z=>?_) fun z=>?_
    · rw[hb.2 hg] at z;cases z
    exact al<|nz<|asg rfl rfl<|lc<|rt<|fr1 rfl ([ae pa s]) (.tmp rfl) ⟨rfl,rfl⟩
  unfold wid at hk;omega
theorem Load_ok (pa:Nat) (s:ArS) (off k:Nat) (hk:wid k) (hg:aN s off k) (hne:s.all≠[]):aG Tryz.prog 99 #[.pointer (some ⟨pa,0,none⟩),.int .i64 off,.int .i64 k] [ae pa s]
    (fun v L=>v=.tuple #[.int .u64 (cZ s.m off k),.int .i64 0]∧L= [ae pa s]):=by
  refine aq E3 Tryz.func99 rfl rfl rfl fun Fr w0=>aR ?_
  refine sr<|asg rfl rfl<|asg rfl rfl<|lc<|ah<|sr<|mv rfl rfl<|mv rfl rfl<|mv rfl rfl<|lc1 rfl rfl rfl (word_ok pa s off k hk hg hne) ?_
  refine asg rfl rfl<|lz<|mv rfl rfl<|l_q rfl (qi rfl rfl (aI ·))<|lc<|aA rfl (fun z=>?_) fun z=>?_
  · exact absurd rfl z
  refine dr fun x hx=>?_
  refine gF fun M hM=>?_
  simp only[List.cons_append,List.nil_append] at hM
  subst M
  obtain⟨pm,g,cap,sb,fb,vs,vc,lm,fl⟩:=x
  obtain⟨hok,hcap,hcap2,hlm,hfl⟩:=hx
  dsimp only at hcap hcap2 hlm hfl ⊢
  have hst:=hok.stop_eq
  have hge:=aN.end_le hok hg
  refine al<|nz<|mv rfl rfl<|l_q rfl (ad rfl)<|l_q rfl (qfa 2 rfl cV rfl rfl mc)<|l_q rfl (qld rfl mg) ?_
  refine mv rfl rfl<|mv rfl rfl<|lc1 rfl rfl rfl (Mem.Load_ok pm g s.stop cap off k s.m hok.bytes (by omega) hcap hk (by omega)) ?_
  refine l_q rfl (aa rfl ga) ?_
  refine l_q rfl (aa rfl ga) ?_
  refine asg rfl rfl<|asg rfl rfl<|lc<|rt ?_
  apply aJ (.inl rfl) ([ae pa s])
  · apply bS rfl
    · exact .tmp rfl
    exact .tmp rfl
  · exact⟨rfl,rfl⟩
  refine bV (x:=⟨pm,g,cap,sb,fb,vs,vc,lm,fl⟩) ⟨hok,hcap,hcap2,hlm,hfl⟩ ?_;dsimp only[arP];(exact en)
def ArS.put (s:ArS) (o k:Nat) (f:Nat→Int):ArS:={s with m:=cm s.m o k f}
theorem ArS.put_ok {s:ArS} (h:s.ok) {o k:Nat} {f:Nat→Int} (hf:∀ i,0≤f i∧f i < 256):(s.put o k f).ok:=⟨h.limit,h.room,h.chain,qD h.bytes hf,h.cls,h.isC,h.deadIn⟩
theorem tW (v:Int):∀ i,0≤bG v i∧bG v i < 256:=fun i=>by unfold bG;omega
theorem Store_ok (pa:Nat) (s:ArS) (off k:Nat) (v:Int) (hv:0≤v∧v < 18446744073709551616) (hk:wid k) (hg:aN s off k) (hne:s.all≠[]):aG Tryz.prog 183 #[.pointer (some ⟨pa,0,none⟩),.int .i64 off,.int .i64 k,.int .u64 v] [ae pa s]
    (fun r L=>r=.int .i64 0∧L= [ae pa (s.put off k (bG v))]):=by
  refine aq FY Tryz.func183 rfl rfl rfl fun Fr w0=>aR ?_
  refine sr<|asg rfl rfl<|lc<|ah<|sr<|mv rfl rfl<|mv rfl rfl<|mv rfl rfl<|lcf rfl rfl rfl (word_ok pa s off k hk hg hne) ?_
  rintro v' L' ⟨rfl,rfl⟩
  refine bF ?_
  refine asg rfl rfl<|lz<|mv rfl rfl<|l_q rfl (qi rfl rfl (aI ·))<|lc<|aA rfl (fun z=>?_) fun z=>?_
  · exact absurd rfl z
  refine dr fun x hx=>?_
  refine gF fun M hM=>?_
  simp only[List.cons_append,List.nil_append] at hM
  subst M
  obtain⟨pm,g,cap,sb,fb,vs,vc,lm,fl⟩:=x
  obtain⟨hok,hcap,hcap2,hlm,hfl⟩:=hx
  dsimp only at hcap hcap2 hlm hfl ⊢
  have hst:=hok.stop_eq
  have hge:=aN.end_le hok hg
  refine al<|nz<|mv rfl rfl<|l_q rfl (ad rfl)<|l_q rfl (qfa 2 rfl cV rfl rfl mc)<|l_q rfl (qld rfl mg) ?_
  refine mv rfl rfl<|mv rfl rfl<|mv rfl rfl<|lcf rfl rfl rfl (Mem.Store_ok pm g s.stop cap off k s.m v hv (by omega) hcap hk (by omega)) ?_
  rintro v' L' ⟨rfl,rfl⟩
  refine bF ?_
  refine asg rfl rfl<|lc<|rt ?_
  apply aJ (.inl rfl) ([ae pa (s.put off k (bG v))])
  · apply cO rfl
    exact .tmp rfl
  · exact⟨rfl,rfl⟩
  refine bV (x:=⟨pm,g,cap,sb,fb,vs,vc,lm,fl⟩) ⟨ArS.put_ok hok (tW v),hcap,hcap2,hlm,hfl⟩ ?_;show Ent _ (arP pa _ _ ++ _);dsimp only[arP,ArS.put];exact fun w h=>h.perm (by first | exact List.Perm.refl _ | exact List.perm_middle (l₁:=[_,_]))
theorem Fill_ok (pa:Nat) (s:ArS) (off k:Nat) (b:Int) (hb:0≤b∧b < 256) (hg:aN s off k) (hne:s.all≠[]):aG Tryz.prog 182 #[.pointer (some ⟨pa,0,none⟩),.int .i64 off,.int .i64 k,.int .u8 b] [ae pa s]
    (fun r L=>r=.int .i64 0∧L= [ae pa (s.put off k (fun _=>b))]):=by
  refine aq FZ Tryz.func182 rfl rfl rfl fun Fr w0=>aR ?_
  refine sr<|asg rfl rfl<|lc<|ah<|sr<|mv rfl rfl<|mv rfl rfl<|mv rfl rfl<|lcf rfl rfl rfl (eT pa s hne off k) ?_
  rintro v' L' ⟨⟨q,rfl,hq⟩,rfl⟩
  refine bF ?_
  refine l_q rfl (cX rfl (bY ·))<|lc<|aA rfl (fun z=>?_) fun z=>?_
  · rw[hq.2 hg] at z;cases z
  refine dr fun x hx=>?_
  refine gF fun M hM=>?_
  simp only[List.cons_append,List.nil_append] at hM
  subst M
  obtain⟨pm,g,cap,sb,fb,vs,vc,lm,fl⟩:=x
  obtain⟨hok,hcap,hcap2,hlm,hfl⟩:=hx
  dsimp only at hcap hcap2 hlm hfl ⊢
  have hst:=hok.stop_eq
  have hge:=aN.end_le hok hg
  refine al<|nz<|mv rfl rfl<|l_q rfl (ad rfl)<|l_q rfl (qfa 2 rfl cV rfl rfl mc)<|l_q rfl (qld rfl mg) ?_
  refine mv rfl rfl<|mv rfl rfl<|mv rfl rfl<|lcf rfl rfl rfl (Mem.Fill_ok pm g s.stop cap off k s.m b hb (by omega) hcap (by omega)) ?_
  rintro v' L' ⟨rfl,rfl⟩
  refine bF ?_
  refine asg rfl rfl<|lc<|rt ?_
  apply aJ (.inl rfl) ([ae pa (s.put off k (fun _=>b))])
  · apply cO rfl
    exact .tmp rfl
  · exact⟨rfl,rfl⟩
  refine bV (x:=⟨pm,g,cap,sb,fb,vs,vc,lm,fl⟩) ⟨ArS.put_ok hok (fun _=>hb),hcap,hcap2,hlm,hfl⟩ ?_;show Ent _ (arP pa _ _ ++ _);dsimp only[arP,ArS.put];exact fun w h=>h.perm (by first | exact List.Perm.refl _ | exact List.perm_middle (l₁:=[_,_]))
theorem Equal_ok (pa:Nat) (s:ArS) (a b k:Nat) (ha:aN s a k) (hb:aN s b k) (hne:s.all≠[]):aG Tryz.prog 216 #[.pointer (some ⟨pa,0,none⟩),.int .i64 a,.int .i64 b,.int .i64 k] [ae pa s]
    (fun r L=>(∃ q:Bool,r=.tuple #[.bool q,.int .i64 0]∧(q=true↔∀ i,i < k→s.m (a+i)=s.m (b+i)))∧L= [ae pa s]):=by
  refine aq Fv Tryz.func216 rfl rfl rfl fun Fr w0=>aR ?_
  refine sr<|asg rfl rfl<|asg rfl rfl<|lc<|ah<|sr<|mv rfl rfl<|mv rfl rfl<|mv rfl rfl<|lcf rfl rfl rfl (eT pa s hne a k) ?_
  rintro v' L' ⟨⟨q,rfl,hq⟩,rfl⟩
  refine bF ?_
  refine l_q rfl (cX rfl (bY ·))<|mv rfl rfl<|bD (t:=15) rfl (fun z=>?_) fun z=>?_
  · rw[hq.2 ha] at z;cases z
  refine au rfl rfl<|mv rfl rfl<|au rfl rfl<|mv rfl rfl<|au rfl rfl<|mv rfl rfl<|au rfl rfl<|lcf rfl rfl rfl (eT pa s hne b k) ?_
  rintro v' L' ⟨⟨q2,rfl,hq2⟩,rfl⟩
  refine bF ?_
  refine au rfl rfl<|l_q rfl (cX rfl (bY ·))<|l_q rfl (aL rfl rfl)<|lc<|aA rfl (fun z2=>?_) fun z2=>?_
  · rw[hq2.2 hb] at z2;cases z2
  refine dr fun x hx=>?_
  refine gF fun M hM=>?_
  simp only[List.cons_append,List.nil_append] at hM
  subst M
  obtain⟨pm,g,cap,sb,fb,vs,vc,lm,fl⟩:=x
  obtain⟨hok,hcap,hcap2,hlm,hfl⟩:=hx
  dsimp only at hcap hcap2 hlm hfl ⊢
  have hst:=hok.stop_eq
  have hge:=aN.end_le hok ha
  have hge2:=aN.end_le hok hb
  refine al<|nz<|mv rfl rfl<|l_q rfl (ad rfl)<|l_q rfl (qfa 2 rfl cV rfl rfl mc)<|l_q rfl (qld rfl mg) ?_
  refine mv rfl rfl<|mv rfl rfl<|mv rfl rfl<|lcf rfl rfl rfl (Mem.Equal_ok pm g s.stop cap a b k s.m (by omega) (by omega) (by omega)) ?_
  rintro v' L' ⟨⟨q3,rfl,hq3⟩,rfl⟩
  refine bF ?_
  refine l_q rfl (aa rfl ga) ?_
  refine l_q rfl (aa rfl ga) ?_
  refine asg rfl rfl<|asg rfl rfl<|lc<|rt ?_
  apply aJ (.inl rfl) ([ae pa s])
  · apply bS rfl
    · exact .tmp rfl
    exact .tmp rfl
  · exact⟨⟨q3,rfl,hq3⟩,rfl⟩
  refine bV (x:=⟨pm,g,cap,sb,fb,vs,vc,lm,fl⟩) ⟨hok,hcap,hcap2,hlm,hfl⟩ ?_;dsimp only[arP];(exact en)
theorem oo {m:Nat→Int} (hm:∀ i,0≤m i∧m i < 256) (o k:Nat):cA (dE m o k)=bt (fun i=>m (o+i)) k:=by
  simp only[cA,dE,bt,List.map_map]
  refine List.map_congr_left fun i _=>?_
  have:=hm (o+i)
  simp only[Function.comp,Value.int.injEq,true_and]
  rw[UInt8.toNat_ofNat']
  omega
end Arena
end Go.Proofs.YthkajgkagnenbaaGreatDoor
