/- The contracts of package arena. -/
import Derived.Test.YthkajgkagnenbaaGreatDoorArenaB
set_option linter.unusedVariables false
set_option linter.unusedSimpArgs false
set_option linter.unusedSectionVars false
set_option maxRecDepth 100000
namespace Go.Proofs.YthkajgkagnenbaaGreatDoor
namespace Arena
open Go.RowKit Go.Proofs Eng Ty Bits Mem Search
theorem Class_ok (n:Int):aK Tryz.prog 155 #[.int .i64 n] [] (fun v L=>v=.int .i64 (aH n)/\L= []):=by
  refine au II Tryz.func155 rfl rfl rfl fun Fr w0=>aZ ?_
  refine sr<|ar O O<|lc<|al<|sr<|mv O O<|ad O (qi O O (bj ·))<|mv O O<|bQ (t:=7) rfl (fun h=>?_) fun h=>?_
  · refine ax O O O O<|ax O O O O<|ad O (aS O O)<|lc<|bk O<|sr<|ar O O<|lc<|rt<|cN O ([]) (.tmp rfl) ?_
    exact⟨by unfold aH;rw[if_pos (.inl h)],rfl⟩
  refine aA O O<|mv O O<|aA O O<|ad O (qi O O (di ·))<|ad O (aS O O)<|lc<|aG O (fun h2=>?_) fun h2=>?_
  · refine sr<|ar O O<|lc<|rt<|cN O ([]) (.tmp rfl) ?_
    exact⟨by unfold aH;rw[if_pos (.inr h2)],rfl⟩
  refine aq<|nz<|ar O O<|lc<|al<|aB ?_
  refine bK (fun e:Nat=>e<=16/\∀ j,j < e->16*(2:Int) ^ j < n) (fun e=>[(0,.int .i64 n),(3,.int .i64 (16*2 ^ e))]) (fun _=>Fr) (fun e=>17-e) 0 ⟨by omega,by omega⟩ ⟨rfl,rfl,trivial⟩ (dS.refl _) ?_
  rintro e ⟨he,hno⟩
  have pe:(2:Int) ^ (e+1)=2*2 ^ e:=by rw[Int.pow_succ];omega
  have p0:(1:Int)<=2 ^ e:=by have:=cr e;have:=Nat.two_pow_pos e;omega
  have p1:(2:Int) ^ e<=65536:=by
    have h1:2 ^ e<=2 ^ 16:=Nat.pow_le_pow_right (by decide) he
    have:=cr e
    omega
  refine al<|sr<|mv O O<|mv O O<|ad O (qi O O (bj ·))<|lc<|aG O (fun q=>?_) fun q=>?_
  · refine aq<|an<|aB<|aD<|mv O O<|ad O (dA O O) ?_
    refine ar O O<|ai<|bz ?_
    apply aU ((e+1))
    · exact⟨by rcases Nat.lt_or_ge e 16 with h16 | h16;omega;(have:e=16:=by omega);subst this;omega,fun j hj=>by by_cases hje:j=e;(subst hje;exact q);exact hno j (by omega)⟩
    · omega
    · exact⟨rfl,congrArg (fun z=>some (Value.int .i64 z)) (by omega),trivial⟩
    exact en
  refine xt O<|an<|al<|sr<|mv O O<|ad O (eT O O) ?_
  refine ad O (dA O O) ?_
  refine ar O O<|lz<|mv O O<|ad O (qi O O (di ·))<|mv O O ?_
  have ht:=xK (n:=n) (e:=e) (by omega) he hno
  refine bQ (t:=21) rfl (fun r=>?_) fun r=>?_
  · refine aA O O<|mv O O<|aA O O<|mv O O<|aA O O<|ad O (qi O O (iB ·))<|ad O (aS O O)<|lc<|aG O (fun s=>?_) fun s=>?_
    · refine sr<|mv O O<|ar O O<|lc<|rt<|cN O ([]) (.tmp rfl) ?_
      exact⟨by unfold aH;rw[if_neg (by omega),ht,if_pos (by omega)],rfl⟩
    refine aq<|nz<|mv O O<|ar O O<|lc<|rt<|cN O ([]) (.tmp rfl) ?_
    exact⟨by unfold aH;rw[if_neg (by omega),ht,if_neg (by omega)],rfl⟩
  refine ax O O O O<|ax O O O O<|ax O O O O<|ad O (aS O O)<|lc<|cQ O<|aq<|nz<|mv O O<|ar O O<|lc<|rt<|cN O ([]) (.tmp rfl) ?_
  exact⟨by unfold aH;rw[if_neg (by omega),ht,if_neg (by omega)],rfl⟩
abbrev FL:=List (Int×Value×List Int)
def fz:FL->Int->Value×List Int
  | [],_=>(.slice none 0 0,[])
  | p::r,k=>if p.1=k then p.2 else fz r k
def jk:FL->Int->Value×List Int->FL
  | [],k,y=>[(k,y)]
  | p::r,k,y=>if p.1=k then(p.1,y)::r else p::jk r k y
def iM:FL->Int->FL
  | [],_=>[]
  | p::r,k=>if p.1=k then r else p::iM r k
def rp (fl:FL):List (Int×Value):=fl.map fun p=>(p.1,p.2.1)
theorem uP (fl:FL) (k k':Int) (y:Value×List Int):fz (jk fl k y) k'=if k'=k then y else fz fl k':=by
  induction fl with
  | nil=>
    simp only[jk,fz]
    by_cases q:k=k'
    · rw[if_pos q,if_pos q.symm]
    rw[if_neg q,if_neg (Ne.symm q)]
  | cons p r ih=>
    simp only[jk]
    by_cases q:p.1=k
    · rw[if_pos q]
      simp only[fz]
      by_cases q2:p.1=k'
      · rw[if_pos q2,if_pos (by omega)]
      rw[if_neg q2,if_neg (by omega),if_neg q2]
    rw[if_neg q]
    simp only[fz]
    by_cases q2:p.1=k'
    · rw[if_pos q2,if_neg (by omega),if_pos q2]
    rw[if_neg q2,ih,if_neg q2]
theorem rm (fl:FL) (k:Int) (y:Value×List Int):rp (jk fl k y)=iE (rp fl) k y.1:=by
  induction fl with
  | nil=>rfl
  | cons p r ih=>
    simp only[jk,rp,List.map_cons,iE]
    by_cases q:p.1=k
    · rw[if_pos q,if_pos q];simp
    rw[if_neg q,if_neg q,List.map_cons]
    exact congrArg _ ih
theorem rn (fl:FL) (k:Int):(jZ (rp fl) k).getD (.slice none 0 0)=(fz fl k).1:=by
  induction fl with
  | nil=>rfl
  | cons p r ih=>
    simp only[rp,List.map_cons,jZ,fz]
    by_cases q:p.1=k
    · rw[if_pos q,if_pos q];rfl
    rw[if_neg q,if_neg q];exact ih
def n1 (fl:FL):List HP:=fl.map fun p=>fy 3 p.2.1 (ints p.2.2)
def eU (fl:FL):HP:=stars (n1 fl)
theorem BT (fl:FL) (k:Int):(n1 fl).Perm (fy 3 (fz fl k).1 (ints (fz fl k).2)::n1 (iM fl k))\/(fz fl k=(.slice none 0 0,[])/\iM fl k=fl):=by
  induction fl with
  | nil=>exact .inr ⟨rfl,rfl⟩
  | cons p r ih=>
    simp only[fz,iM]
    by_cases q:p.1=k
    · rw[if_pos q,if_pos q];exact .inl (List.Perm.refl _)
    rw[if_neg q,if_neg q]
    rcases ih with h | ⟨h1,h2⟩
    · exact .inl ((List.Perm.cons _ h).trans (List.Perm.swap _ _ _))
    exact .inr ⟨h1,by rw[h2]⟩
theorem zk (fl:FL) (k:Int) (y:Value×List Int):(fy 3 y.1 (ints y.2)::n1 (iM fl k)).Perm (n1 (jk fl k y)):=by
  induction fl with
  | nil=>exact List.Perm.refl _
  | cons p r ih=>
    simp only[jk,iM]
    by_cases q:p.1=k
    · rw[if_pos q,if_pos q];exact List.Perm.refl _
    rw[if_neg q,if_neg q]
    exact(List.Perm.swap _ _ _).trans (List.Perm.cons _ ih)
theorem qp {fl:FL} {k:Int} {L:List HP}:dS (eU fl::L) (fy 3 (fz fl k).1 (ints (fz fl k).2)::eU (iM fl k)::L):=fun w h=>by
  have h1:=dC.1 h
  rcases BT fl k with hp | ⟨e1,e2⟩
  · have h2:=h1.perm (hp.append_right L)
    have h3:Sat (stars ((n1 (iM fl k) ++ (fy 3 (fz fl k).1 (ints (fz fl k).2)::L)))) w:=h2.perm (by
      simp only[List.cons_append]
      exact List.perm_middle.symm)
    exact(dC.2 h3:Sat (stars (eU (iM fl k)::fy 3 (fz fl k).1 (ints (fz fl k).2)::L)) w).perm (List.Perm.swap _ _ _)
  rw[e1,e2]
  exact Bd w h
theorem oz {fl:FL} {k:Int} {v:Value} {xs:List Int} {L:List HP}:dS (fy 3 v (ints xs)::eU (iM fl k)::L) (eU (jk fl k (v,xs))::L):=fun w h=>by
  have h1:=(h.perm (List.Perm.swap _ _ _):Sat (stars (eU (iM fl k)::fy 3 v (ints xs)::L)) w)
  have h2:=dC.1 h1
  refine dC.2 (h2.perm ?_)
  refine List.perm_middle.trans ?_
  rw[<- List.cons_append]
  exact(zk fl k (v,xs)).append_right L
def zZ (s:ArS) (lm:List (Int×Value)):Prop:=(∀ p∈s.bl,jZ lm p.1=some (.int .i64 p.2))/\∀ k,(∀ c,(k,c)∉s.bl)->jZ lm k=none
def xz (s:ArS) (fl:FL):Prop:=∀ c,(fz fl c).2=s.frL c
structure Jh where
  pm:Nat
  g:Nat
  cap:Nat
  sb:Nat
  fb:Nat
  vs:Value
  vc:Value
  lm:List (Int×Value)
  fl:FL
@[reducible] def oL (pa:Nat) (s:ArS) (x:Jh):List HP:=
  [pt pa (.cells #[.int .i64 s.limit,.int .i64 s.live,.pointer (some ⟨x.pm,0,none⟩),x.vs,x.vc,.map (some x.sb),.map (some x.fb)] 116 (0,0)),pt x.pm (.cells #[.slice (some ⟨x.g,0,none⟩) s.stop x.cap] 189 (0,0)),aF 5 1 (.slice (some ⟨x.g,0,none⟩) s.stop x.cap) s.stop (cu s.m s.stop),
   aF 3 1 x.vs s.all.length (ints (s.all.map (·.1))),aF 3 1 x.vc s.all.length (ints (s.all.map (·.2))),bG (fun k:Int=>Value.int .i64 k) x.sb x.lm,bG (fun k:Int=>Value.int .i64 k) x.fb (rp x.fl),eU x.fl]
def zD (s:ArS) (x:Jh):Prop:=s.ok/\s.stop<=x.cap/\x.cap<=134217728/\zZ s x.lm/\xz s x.fl
def aj (pa:Nat) (s:ArS):HP:=wS (zD s) (oL pa s)
theorem dJ {c:Cx} {fin:Exit->Act->World->Prop} {ds:List Deferred} {E:Env} {ks:List KI} {pa:Nat} {s:ArS} {R:List HP} {y:Code} (k:∀ x,zD s x->TC c fin ds E (oL pa s x ++ R) y ks):TC c fin ds E (aj pa s::R) y ks:=
  lx (X:={x:Jh // zD s x}) (LL:=fun x=>oL pa s x.1 ++ R) (fun w hs=>let ⟨x,hp,h⟩:=cV.1 hs;⟨⟨x,hp⟩,h⟩) fun x=>k x.1 x.2
theorem cD {pa:Nat} {s:ArS} {x:Jh} {L R:List HP} (hp:zD s x) (he:dS L (oL pa s x ++ R)):dS L ([aj pa s] ++ R):=fun w h=>cV.2 ⟨x,hp,he w h⟩
theorem xA (pa:Nat) (s:ArS):aK Tryz.prog 13 #[.pointer (some ⟨pa,0,none⟩)] [aj pa s] (fun v L=>v=.int .i64 (s.stop:Nat)/\L= [aj pa s]):=by
  refine au Kp Tryz.func13 rfl rfl rfl fun Fr w0=>aZ ?_
  refine dJ fun x hx=>?_
  refine gY fun M hM=>?_
  simp only[List.cons_append,List.nil_append] at hM
  subst M
  refine sr<|ar O O<|lz<|mv O O<|ad O (ae O)<|ad O (aE 2 O dy O O mU)<|ad O (aI O mW) ?_
  refine bF O O O (Gf x.pm x.g s.stop x.cap s.m) ?_
  refine ar O O<|lc<|rt ?_
  apply aR (.inl rfl) ([aj pa s])
  · apply cP O
    exact .tmp rfl
  · exact⟨rfl,rfl⟩
  refine cD hx ?_;(exact en)
theorem DW {s:ArS} {lm:List (Int×Value)} (h:zZ s lm) (hok:s.ok) {i:Nat} (hi:i < s.all.length):∃ zz,(jZ lm s.all[i].1).getD (.int .i64 0)=.int .i64 zz/\(jZ lm s.all[i].1).isSome= !s.dead s.all[i].1/\(s.dead s.all[i].1=false->zz=s.all[i].2)/\(zz=0\/zz=s.all[i].2):=by
  have hm:s.all[i]∈s.all:=List.getElem_mem hi
  cases hd:s.dead s.all[i].1 with
  | false=>
    have:=h.1 _ (cG.2 ⟨hm,hd⟩)
    rw[this]
    exact⟨_,rfl,rfl,fun _=>rfl,.inr rfl⟩
  | true=>
    have:=h.2 s.all[i].1 fun c hc=>by have:=(cG.1 hc).2;dsimp only at this;rw[hd] at this;cases this
    rw[this]
    exact⟨0,rfl,rfl,fun q=>(by cases q),.inl rfl⟩
theorem qn (pa:Nat) (s:ArS) (i:Nat) (hi:i < s.all.length) (off n:Int) (ho:0<=off/\off<=1000000000):aK Tryz.prog 128 #[.pointer (some ⟨pa,0,none⟩),.int .i64 i,.int .i64 off,.int .i64 n] [aj pa s]
    (fun v L=>v=.bool (!s.dead s.all[i].1 && decide (n<=s.all[i].1+s.all[i].2-off))/\L= [aj pa s]):=by
  refine au ES Tryz.func128 rfl rfl rfl fun Fr w0=>aZ ?_
  refine dJ fun x hx=>?_
  refine gY fun M hM=>?_
  simp only[List.cons_append,List.nil_append] at hM
  subst M
  obtain⟨pm,g,cap,sb,fb,vs,vc,lm,fl⟩:=x
  have hst:=hx.1.stop_eq
  have hmem:s.all[i]∈s.all:=List.getElem_mem hi
  obtain⟨hb1,hb2⟩:=ArS.chain_pos hx.1.chain _ hmem
  obtain⟨zz,hz1,hz2,hz3,hz4⟩:=DW hx.2.2.2.1 hx.1 hi
  dsimp only at hz1 hz2
  refine bU (.there (.there (.there .here))) fun _ hvs=>?_
  obtain⟨av,cv,rfl,hav,_,_⟩:=hvs
  obtain⟨gv,rfl⟩:=hav (by omega)
  have hend:=gu hx.1.chain hmem
  dsimp only
  refine sr<|ar O O<|lc<|al<|sr<|mv O O<|ad O (qi O O (bj ·))<|lc<|aG O (fun z=>?_) fun z=>?_
  · omega
  refine aq<|an<|al<|aY mixed ?_
  apply dq 0 O (yq (ah O))
  apply dq 1 O (yq (ae O))
  apply dq 2 O (yq (aE 5 O dy O O ri))
  apply dq 3 O (yq (aI O rk))
  apply dq 4 O (yq (ah O))
  apply dq 5 O (yq (ae O))
  apply dq 6 O (yq (aE 3 O dy O O o9))
  apply dq 7 O (yq (aI O vQ))
  apply dq 8 O (yq (ah O))
  apply dq 9 O (yq (az O O bI aN (by omega)))
  apply dq 10 O
  · apply yq
    apply aT O aX
    · exact tk
    rw[Nat.zero_add,Int.toNat_natCast,ints_at (by simpa using hi),List.getElem_map]
  apply dq 11 O
  · apply yq
    refine QV.to (v':=.tuple #[.int .i64 zz,.bool (!s.dead s.all[i].1)]) (kn ia O O Tryz.underlying113 Tryz.underlying3 sj (by exact tk)) (by rw[hz1,hz2])
  apply dq 12 O (yq (ah O))
  apply dq 13 O (yq (aa O ga))
  apply dq 14 O (yq (aa O ga))
  refine ak [13,0,1,2,3,4,5,6,7,8,9,10,11,12] [14] 15 [(26,_)] gO ⟨rfl,trivial⟩ (by kernel_rfl) (by kernel_rfl) fun Ex=>?_
  refine ar O O<|ai ?_
  refine aQ ⟨ya O O (yq (aa O ga)),trivial⟩ ?_
  refine ak [14] [] 16 [(27,_)] gO ⟨rfl,trivial⟩ (by kernel_rfl) (by kernel_rfl) fun Ex=>?_
  refine ar O O<|ai ?_
  refine aQ trivial ?_
  refine aV (by kernel_rfl) ?_
  refine nz<|mv O O<|mv O O<|bQ (t:=29) rfl (fun q=>?_) fun q=>?_
  · refine aA O O<|mv O O<|aA O O<|mv O O<|aA O O<|ad O (ae O)<|aA O O<|ad O (aE 3 O dy O O o9)<|aA O O<|ad O (aI O vQ) ?_
    refine aA O O<|mv O O<|aA O O<|ad O (az O O bI aN (by omega)) ?_
    refine aA O O ?_
    apply ad O
    · apply aT O aX
      · exact tk
      rw[Nat.zero_add,Int.toNat_natCast,ints_at (by simpa using hi),List.getElem_map]
    refine aA O O<|mv O O<|aA O O<|ad O (bn O O) ?_
    refine aA O O<|mv O O<|aA O O<|ad O (eJ O O) ?_
    refine aA O O<|ad O (qi O O (iB ·))<|ad O (aS O O)<|ar O O<|lc<|rt ?_
    have hdd:s.dead s.all[i].1=false:=by simpa using q
    apply aR (.inl rfl) ([aj pa s])
    · apply cP O
      exact .tmp rfl
    · exact⟨by rw[hz3 hdd,hdd];rfl,rfl⟩
    refine cD hx ?_;dsimp only[oL];(exact en)
  refine ax O O O O<|ax O O O O<|ax O O O O<|ax O O O O<|ax O O O O<|ax O O O O<|ax O O O O<|ax O O O O<|ax O O O O<|ax O O O O<|ax O O O O<|ax O O O O<|ax O O O O<|ad O (aS O O)<|ar O O<|lc<|rt ?_
  have hdd:s.dead s.all[i].1=true:=by simpa using q
  apply aR (.inl rfl) ([aj pa s])
  · apply cP O
    exact .tmp rfl
  · exact⟨by rw[hdd];rfl,rfl⟩
  refine cD hx ?_;dsimp only[oL];(exact en)
theorem BL (pa:Nat) (s:ArS) (off n i:Int) (hi:i < 0):aK Tryz.prog 128 #[.pointer (some ⟨pa,0,none⟩),.int .i64 i,.int .i64 off,.int .i64 n] [aj pa s]
    (fun v L=>v=.bool false/\L= [aj pa s]):=by
  refine au ES Tryz.func128 rfl rfl rfl fun Fr w0=>aZ ?_
  refine sr<|ar O O<|lc<|al<|sr<|mv O O<|ad O (qi O O (bj ·))<|lc<|aG O (fun z=>?_) fun z=>?_
  · exact sr<|ar O O<|lc<|rt<|cN O ([aj pa s]) (.tmp rfl) ⟨rfl,rfl⟩
  omega
def Hd (s:ArS) (i:Nat) (off n:Int):Prop:=∃ h:i < s.all.length,s.dead s.all[i].1=false/\n<=s.all[i].1+s.all[i].2-off
theorem wP {s:ArS} {i:Nat} (hi:i < s.all.length) {off n:Int}:(!s.dead s.all[i].1 && decide (n<=s.all[i].1+s.all[i].2-off))=true↔Hd s i off n:=by
  rw[Bool.and_eq_true,decide_eq_true_eq]
  constructor
  · rintro⟨a,b⟩;exact⟨hi,by simpa using a,b⟩
  rintro⟨_,a,b⟩;exact⟨by rw[a];rfl,b⟩
theorem BP {s:ArS} (hc:ArS.chain 16 s.all) {i:Nat} (hi:i < s.all.length) {off n:Int} (h0:0<=n) (h1:s.all[i].1 < off) (h2:∀ j (hj:j < s.all.length),i < j->off < s.all[j].1):bt s off n↔Hd s i off n:=by
  constructor
  · rintro⟨_,p,hp,p1,p2⟩
    obtain⟨hp,hd⟩:=cG.1 hp
    obtain⟨j,hj,rfl⟩:=List.getElem_of_mem hp
    rcases Nat.lt_trichotomy j i with q | q | q
    · have:=dQ hc j i hj hi q
      omega
    · subst q;exact⟨hi,hd,by omega⟩
    have:=h2 j hj q;omega
  rintro⟨_,a,b⟩
  exact⟨h0,_,cG.2 ⟨List.getElem_mem hi,a⟩,by omega,by omega⟩
theorem DI {s:ArS} (hc:ArS.chain 16 s.all) {i:Nat} (hi:i < s.all.length) {off n:Int} (h0:0<=n) (h1:s.all[i].1=off):bt s off n↔Hd s i off n\/(n=0/\∃ j,i=j+1/\Hd s j off n):=by
  constructor
  · rintro⟨_,p,hp,p1,p2⟩
    obtain⟨hp,hd⟩:=cG.1 hp
    obtain⟨j,hj,rfl⟩:=List.getElem_of_mem hp
    have hpos:=(ArS.chain_pos hc _ hp).2
    rcases Nat.lt_trichotomy j i with q | q | q
    · have h3:=dQ hc j i hj hi q
      refine .inr ⟨by omega,j,?_,hj,hd,by omega⟩
      rcases Nat.lt_or_ge (j+1) i with q2 | q2
      · have h4:=dQ hc j (j+1) hj (by omega) (by omega)
        have h5:=dQ hc (j+1) i (by omega) hi q2
        have h6:=(ArS.chain_pos hc _ (List.getElem_mem (show j+1 < s.all.length by omega))).2
        omega
      omega
    · subst q;exact .inl ⟨hi,hd,by omega⟩
    have:=dQ hc i j hi hj q
    have h6:=(ArS.chain_pos hc _ (List.getElem_mem hi)).2
    omega
  rintro(⟨_,a,b⟩ | ⟨rfl,j,rfl,hj,a,b⟩)
  · exact⟨h0,_,cG.2 ⟨List.getElem_mem hi,a⟩,by omega,by omega⟩
  have h3:=dQ hc j (j+1) hj hi (by omega)
  have h6:=(ArS.chain_pos hc _ (List.getElem_mem hj)).2
  exact⟨h0,_,cG.2 ⟨List.getElem_mem hj,a⟩,by omega,by omega⟩
theorem bt.end_le {s:ArS} (h:s.ok) {off n:Int} (hg:bt s off n):16<=off/\off+n<=(s.stop:Int)/\s.all≠[]:=by
  obtain⟨_,p,hp,p1,p2⟩:=hg
  obtain⟨hp,_⟩:=cG.1 hp
  have a:=ArS.chain_pos h.chain p hp
  have b:=gu h.chain hp
  have c:=h.stop_eq
  exact⟨by omega,by omega,fun e=>by rw[e] at hp;cases hp⟩
theorem fG (pa:Nat) (s:ArS) (hne:s.all≠[]) (off n:Int):aK Tryz.prog 50 #[.pointer (some ⟨pa,0,none⟩),.int .i64 off,.int .i64 n] [aj pa s]
    (fun v L=>(∃ b:Bool,v=.bool b/\(b=true↔bt s off n))/\L= [aj pa s]):=by
  refine au Ke Tryz.func50 rfl rfl rfl fun Fr w0=>aZ ?_
  refine dN (φ:=s.ok) (fun w hw=>by obtain⟨x,hx,_⟩:=cV.1 hw;exact hx.1) fun hok=>?_
  have hst:=hok.stop_eq
  refine sr<|ar O O<|lc<|al<|sr<|mv O O<|ad O (qi O O (bj ·))<|mv O O<|bQ (t:=11) rfl (fun h1=>?_) fun h1=>?_
  · refine ax O O O O<|ax O O O O<|ad O (aS O O)<|mv O O<|ax O O O O<|ax O O O O<|ax O O O O<|ax O O O O<|ad O (aS O O)<|lc<|bk O<|sr<|ar O O<|lc<|rt<|cN O ([aj pa s]) (.tmp rfl) ?_
    exact⟨⟨true && false,rfl,by simp;rintro⟨h0,_⟩;omega⟩,rfl⟩
  refine aA O O<|mv O O<|aA O O<|ad O (qi O O (bj ·))<|ad O (aS O O)<|mv O O<|bQ (t:=15) rfl (fun h2=>?_) fun h2=>?_
  · refine ax O O O O<|ax O O O O<|ax O O O O<|ax O O O O<|ad O (aS O O)<|lc<|bk O<|sr<|ar O O<|lc<|rt<|cN O ([aj pa s]) (.tmp rfl) ?_
    exact⟨⟨false,rfl,by simp;intro hg;have:=bt.end_le hok hg;omega⟩,rfl⟩
  refine aA O O<|mv O O<|aA O O<|mv O O<|aA O O<|bF O O O (xA pa s) ?_
  refine aA O O<|ad O (qi O O (di ·))<|ad O (aS O O)<|lc<|aG O (fun h3=>?_) fun h3=>?_
  · refine sr<|ar O O<|lc<|rt<|cN O ([aj pa s]) (.tmp rfl) ?_
    exact⟨⟨false,rfl,by simp;intro hg;have:=bt.end_le hok hg;omega⟩,rfl⟩
  refine dJ fun x hx=>?_
  refine gY fun M hM=>?_
  simp only[List.cons_append,List.nil_append] at hM
  subst M
  obtain⟨pm,g,cap,sb,fb,vs,vc,lm,fl⟩:=x
  have hpos:0 < s.all.length:=List.length_pos_iff.2 hne
  refine bU (.there (.there (.there .here))) fun _ hvs=>?_
  obtain⟨av,cv,rfl,hav,hcv,hcm⟩:=hvs
  obtain⟨gv,rfl⟩:=hav (by omega)
  dsimp only
  refine aq<|nz<|mv O O<|ad O (ae O)<|ad O (aE 3 O dy O O o9)<|ad O (aI O vQ) ?_
  refine mv O O ?_
  have hsn:=ArS.sum_nonneg hok.chain
  refine cT O O O (zM (s.all.map (·.1)) gv s.all.length cv off (by simp) (by omega) (qC hok.chain)) ?_
  rintro v L' ⟨⟨i,rfl,hpl⟩,rfl⟩
  refine bx ?_
  refine mv O O<|ad O (aa O ga) ?_
  refine ad O (aa O ga) ?_
  refine ar O O<|ar O O<|lc<|al<|sr<|mv O O<|ad O (db O (cy ·))<|lc ?_
  obtain⟨hp1,hp2,hp3⟩:=hpl
  simp only[List.length_map,List.getElem_map] at hp1 hp2 hp3
  have hx0:=wY hok.chain hpos
  refine lx (X:=Unit) (LL:=fun _=>aj pa s::Fr) (fun w hs=>⟨(),cD (x:=⟨pm,g,cap,sb,fb,.slice (some ⟨gv,0,none⟩) s.all.length cv,vc,lm,fl⟩) hx (by dsimp only[oL];(exact en)) w hs⟩) fun _=>?_
  refine aG O (fun e=>?_) fun e=>?_
  · refine aD<|mv O O<|ad O (eJ O O) ?_
    refine ar O O<|lz<|mv O O<|mv O O<|mv O O<|mv O O ?_
    have hi1:1<=i:=by
      rcases Nat.eq_zero_or_pos i with h0 | h0
      · subst h0
        have:=hp3 0 hpos (by omega)
        exact absurd (by rw[List.getElem?_eq_getElem (by simpa using hpos)];simp only[List.getElem_map];congr 1;omega) e
      exact h0
    rw[show(i:Int)-1=((i-1:Nat):Int) by omega]
    have hlt:i-1 < s.all.length:=by omega
    have hge:=hp2 (i-1) hlt (by omega)
    have hup:∀ j (hj:j < s.all.length),i-1 < j->off < s.all[j].1:=fun j hj hij=>by
      have h5:=hp3 j hj (by omega)
      rcases Nat.lt_or_ge i j with h6 | h6
      · have h7:=hp3 i (by omega) (by omega)
        have h8:=qC hok.chain i j (by simp;omega) (by simpa using hj) h6
        simp only[List.getElem_map] at h8
        omega
      have:j=i:=by omega
      subst this
      have h9:s.all[j].1≠off:=fun q=>e (by rw[List.getElem?_eq_getElem (by simpa using hj)];simp only[List.getElem_map];rw[q])
      omega
    have hgi:=BP hok.chain hlt (n:=n) (by omega) hge hup
    have hHd:=wP hlt (off:=off) (n:=n)
    refine bF O O O (qn pa s (i-1) hlt off n ⟨by omega,by omega⟩) ?_
    refine mv O O<|bQ (t:=39) rfl (fun r=>?_) fun r=>?_
    · refine ax O O O O<|ax O O O O<|ax O O O O<|cJ O O O<|ax O O O O<|ax O O O O<|cJ O O O<|cJ O O O<|cJ O O O<|cJ O O O<|cJ O O O<|cJ O O O<|ax O O O O<|ad O (aS O O)<|ar O O<|lc<|rt<|cN O ([aj pa s]) (.tmp rfl) ?_
      exact⟨⟨true,rfl,by simp only[true_iff];exact hgi.2 (hHd.1 r)⟩,rfl⟩
    refine aA O O<|mv O O<|aA O O<|ad O (qi O O (bN ·))<|aA O O<|mv O O ?_
    have hng:¬ bt s off n:=fun hg=>by have:=hHd.2 (hgi.1 hg);rw[r] at this;cases this
    refine bQ (t:=42) rfl (fun t=>?_) fun t=>?_
    · refine aA O O<|mv O O<|aA O O<|ad O (aS O O)<|aA O O<|mv O O<|bQ (t:=45) rfl (fun u=>?_) fun u=>?_
      · exact absurd u e
      refine ax O O O O<|ax O O O O<|ax O O O O<|ax O O O O<|ax O O O O<|ax O O O O<|aA O O<|ad O (aS O O)<|ad O (aS O O)<|ar O O<|lc<|rt<|cN O ([aj pa s]) (.tmp rfl) ?_
      exact⟨⟨false,rfl,by simp only[Bool.false_eq_true,false_iff];exact hng⟩,rfl⟩
    refine ax O O O O<|aA O O<|ad O (aS O O)<|aA O O<|mv O O<|ax O O O O<|ax O O O O<|ax O O O O<|ax O O O O<|ax O O O O<|ax O O O O<|aA O O<|ad O (aS O O)<|ad O (aS O O)<|ar O O<|lc<|rt<|cN O ([aj pa s]) (.tmp rfl) ?_
    exact⟨⟨false,rfl,by simp only[Bool.false_eq_true,false_iff];exact hng⟩,rfl⟩
  refine aq<|nz<|mv O O<|mv O O<|mv O O<|mv O O ?_
  have he:=e
  have hlt:i < s.all.length:=by have:=(List.getElem?_eq_some_iff.1 he).1;simpa using this
  have heq:s.all[i].1=off:=by
    rw[List.getElem?_eq_getElem (by simpa using hlt)] at he
    simpa using he
  have hgi:=DI hok.chain hlt (n:=n) (by omega) heq
  have hHd:=wP hlt (off:=off) (n:=n)
  refine bF O O O (qn pa s i hlt off n ⟨by omega,by omega⟩) ?_
  refine mv O O<|bQ (t:=39) rfl (fun r=>?_) fun r=>?_
  · refine ax O O O O<|ax O O O O<|ax O O O O<|cJ O O O<|ax O O O O<|ax O O O O<|cJ O O O<|cJ O O O<|cJ O O O<|cJ O O O<|cJ O O O<|cJ O O O<|ax O O O O<|ad O (aS O O)<|ar O O<|lc<|rt<|cN O ([aj pa s]) (.tmp rfl) ?_
    exact⟨⟨true,rfl,by simp only[true_iff];exact hgi.2 (.inl (hHd.1 r))⟩,rfl⟩
  refine aA O O<|mv O O<|aA O O<|ad O (qi O O (bN ·))<|aA O O<|mv O O ?_
  have hnr:¬ Hd s i off n:=fun hg=>by have:=hHd.2 hg;rw[r] at this;cases this
  refine bQ (t:=42) rfl (fun t=>?_) fun t=>?_
  · refine aA O O<|mv O O<|aA O O<|ad O (aS O O)<|aA O O<|mv O O<|bQ (t:=45) rfl (fun u=>?_) fun u=>?_
    · rcases Nat.eq_zero_or_pos i with hi0 | hi0
      · skip
        refine aA O O<|mv O O<|aA O O<|mv O O<|aA O O<|ad O (eJ O O) ?_
        refine aA O O<|mv O O<|aA O O<|mv O O<|aA O O<|bF O O O (BL pa s off n _ (by omega)) ?_
        refine aA O O<|ad O (aS O O)<|ad O (aS O O)<|ar O O<|lc<|rt<|cN O ([aj pa s]) (.tmp rfl) ?_
        exact⟨⟨false,rfl,by simp only[Bool.false_eq_true,false_iff];intro hg;rcases hgi.1 hg with q | ⟨_,j,q,_⟩;exact hnr q;omega⟩,rfl⟩
      have hi1:(i:Int)-1=((i-1:Nat):Int):=by omega
      have hlt2:i-1 < s.all.length:=by omega
      have hHd2:=wP hlt2 (off:=off) (n:=n)
      refine aA O O<|mv O O<|aA O O<|mv O O<|aA O O<|ad O (eJ O O) ?_
      refine aA O O<|mv O O<|aA O O<|mv O O<|aA O O ?_
      rw[hi1]
      refine bF O O O (qn pa s (i-1) hlt2 off n ⟨by omega,by omega⟩) ?_
      refine aA O O<|ad O (aS O O)<|ad O (aS O O)<|ar O O<|lc<|rt<|cN O ([aj pa s]) (.tmp rfl) ?_
      exact⟨⟨_,rfl,by rw[hHd2,hgi];constructor;(exact fun q=>.inr ⟨t,i-1,by omega,q⟩);rintro(q | ⟨_,j,q,q2⟩);(exact absurd q hnr);rw[show i-1=j by omega];exact q2⟩,rfl⟩
    exact absurd he u
  refine ax O O O O<|aA O O<|ad O (aS O O)<|aA O O<|mv O O<|ax O O O O<|ax O O O O<|ax O O O O<|ax O O O O<|ax O O O O<|ax O O O O<|aA O O<|ad O (aS O O)<|ad O (aS O O)<|ar O O<|lc<|rt<|cN O ([aj pa s]) (.tmp rfl) ?_
  exact⟨⟨false,rfl,by simp only[Bool.false_eq_true,false_iff];intro hg;rcases hgi.1 hg with q | ⟨q,_⟩;exact hnr q;exact t q⟩,rfl⟩
theorem xH (pa:Nat) (s:ArS) (off:Int) (k:Nat) (hk:wid k) (hg:bt s off k) (hne:s.all≠[]):aK Tryz.prog 168 #[.pointer (some ⟨pa,0,none⟩),.int .i64 off,.int .i64 k] [aj pa s]
    (fun v L=>v=.int .i64 0/\L= [aj pa s]):=by
  refine au EK Tryz.func168 rfl rfl rfl fun Fr w0=>aZ ?_
  refine sr<|ar O O<|lc<|al<|sr<|mv O O<|lc<|aB<|al<|sr<|ad O (qi O O (bN ·))<|ar O O<|lc<|oE (t:=8) rfl (fun h1=>?_) fun h1=>?_
  · refine bk O<|aq<|an<|bk O<|aq<|bz<|an<|al<|sr<|mv O O<|mv O O<|mv O O<|cT O O O (fG pa s hne off k) ?_
    rintro v L' ⟨⟨b,rfl,hb⟩,rfl⟩
    refine bx ?_
    refine ad O (db O (cy ·))<|lc<|aG O (fun z=>?_) fun z=>?_
    · rw[hb.2 hg] at z;cases z
    exact aq<|nz<|ar O O<|lc<|rt<|cN O ([aj pa s]) (.tmp rfl) ⟨rfl,rfl⟩
  refine cQ O<|sr<|ad O (qi O O (bN ·))<|ar O O<|lc<|oE (t:=8) rfl (fun h2=>?_) fun h2=>?_
  · refine bk O<|aq<|an<|bk O<|aq<|bz<|an<|al<|sr<|mv O O<|mv O O<|mv O O<|cT O O O (fG pa s hne off k) ?_
    rintro v L' ⟨⟨b,rfl,hb⟩,rfl⟩
    refine bx ?_
    refine ad O (db O (cy ·))<|lc<|aG O (fun z=>?_) fun z=>?_
    · rw[hb.2 hg] at z;cases z
    exact aq<|nz<|ar O O<|lc<|rt<|cN O ([aj pa s]) (.tmp rfl) ⟨rfl,rfl⟩
  refine cQ O<|sr<|ad O (qi O O (bN ·))<|ar O O<|lc<|oE (t:=8) rfl (fun h4=>?_) fun h4=>?_
  · refine bk O<|aq<|an<|bk O<|aq<|bz<|an<|al<|sr<|mv O O<|mv O O<|mv O O<|cT O O O (fG pa s hne off k) ?_
    rintro v L' ⟨⟨b,rfl,hb⟩,rfl⟩
    refine bx ?_
    refine ad O (db O (cy ·))<|lc<|aG O (fun z=>?_) fun z=>?_
    · rw[hb.2 hg] at z;cases z
    exact aq<|nz<|ar O O<|lc<|rt<|cN O ([aj pa s]) (.tmp rfl) ⟨rfl,rfl⟩
  refine cQ O<|aD<|ad O (qi O O (bN ·))<|ar O O<|lc<|oE (t:=8) rfl (fun h8=>?_) fun h8=>?_
  · refine bk O<|aq<|bz<|an<|al<|sr<|mv O O<|mv O O<|mv O O<|cT O O O (fG pa s hne off k) ?_
    rintro v L' ⟨⟨b,rfl,hb⟩,rfl⟩
    refine bx ?_
    refine ad O (db O (cy ·))<|lc<|aG O (fun z=>?_) fun z=>?_
    · rw[hb.2 hg] at z;cases z
    exact aq<|nz<|ar O O<|lc<|rt<|cN O ([aj pa s]) (.tmp rfl) ⟨rfl,rfl⟩
  unfold wid at hk;omega
theorem Load_ok (pa:Nat) (s:ArS) (off k:Nat) (hk:wid k) (hg:bt s off k) (hne:s.all≠[]):aK Tryz.prog 99 #[.pointer (some ⟨pa,0,none⟩),.int .i64 off,.int .i64 k] [aj pa s]
    (fun v L=>v=.tuple #[.int .u64 (dU s.m off k),.int .i64 0]/\L= [aj pa s]):=by
  refine au G7 Tryz.func99 rfl rfl rfl fun Fr w0=>aZ ?_
  refine sr<|ar O O<|ar O O<|lc<|al<|sr<|mv O O<|mv O O<|mv O O<|bF O O O (xH pa s off k hk hg hne) ?_
  refine ar O O<|lz<|mv O O<|ad O (qi O O (bf ·))<|lc<|aG O (fun z=>?_) fun z=>?_
  · exact absurd rfl z
  refine dJ fun x hx=>?_
  refine gY fun M hM=>?_
  simp only[List.cons_append,List.nil_append] at hM
  subst M
  obtain⟨pm,g,cap,sb,fb,vs,vc,lm,fl⟩:=x
  obtain⟨hok,hcap,hcap2,hlm,hfl⟩:=hx
  dsimp only at hcap hcap2 hlm hfl ⊢
  have hst:=hok.stop_eq
  have hge:=bt.end_le hok hg
  refine aq<|nz<|mv O O<|ad O (ae O)<|ad O (aE 2 O dy O O mU)<|ad O (aI O mW) ?_
  refine mv O O<|mv O O<|bF O O O (Mem.Load_ok pm g s.stop cap off k s.m hok.bytes (by omega) hcap hk (by omega)) ?_
  refine ad O (aa O ga) ?_
  refine ad O (aa O ga) ?_
  refine ar O O<|ar O O<|lc<|rt ?_
  apply aR (.inl rfl) ([aj pa s])
  · apply cF O
    · exact .tmp rfl
    exact .tmp rfl
  · exact⟨rfl,rfl⟩
  refine cD (x:=⟨pm,g,cap,sb,fb,vs,vc,lm,fl⟩) ⟨hok,hcap,hcap2,hlm,hfl⟩ ?_;dsimp only[oL];(exact en)
def ArS.put (s:ArS) (o k:Nat) (f:Nat->Int):ArS:={s with m:=dh s.m o k f}
theorem ArS.put_ok {s:ArS} (h:s.ok) {o k:Nat} {f:Nat->Int} (hf:∀ i,0<=f i/\f i < 256):(s.put o k f).ok:=⟨h.limit,h.room,h.chain,rI h.bytes hf,h.cls,h.isC,h.deadIn⟩
theorem u9 (v:Int):∀ i,0<=ct v i/\ct v i < 256:=fun i=>by unfold ct;omega
theorem Store_ok (pa:Nat) (s:ArS) (off k:Nat) (v:Int) (hv:0<=v/\v < 18446744073709551616) (hk:wid k) (hg:bt s off k) (hne:s.all≠[]):aK Tryz.prog 183 #[.pointer (some ⟨pa,0,none⟩),.int .i64 off,.int .i64 k,.int .u64 v] [aj pa s]
    (fun r L=>r=.int .i64 0/\L= [aj pa (s.put off k (ct v))]):=by
  refine au Im Tryz.func183 rfl rfl rfl fun Fr w0=>aZ ?_
  refine sr<|ar O O<|lc<|al<|sr<|mv O O<|mv O O<|mv O O<|cT O O O (xH pa s off k hk hg hne) ?_
  rintro v' L' ⟨rfl,rfl⟩
  refine bx ?_
  refine ar O O<|lz<|mv O O<|ad O (qi O O (bf ·))<|lc<|aG O (fun z=>?_) fun z=>?_
  · exact absurd rfl z
  refine dJ fun x hx=>?_
  refine gY fun M hM=>?_
  simp only[List.cons_append,List.nil_append] at hM
  subst M
  obtain⟨pm,g,cap,sb,fb,vs,vc,lm,fl⟩:=x
  obtain⟨hok,hcap,hcap2,hlm,hfl⟩:=hx
  dsimp only at hcap hcap2 hlm hfl ⊢
  have hst:=hok.stop_eq
  have hge:=bt.end_le hok hg
  refine aq<|nz<|mv O O<|ad O (ae O)<|ad O (aE 2 O dy O O mU)<|ad O (aI O mW) ?_
  refine mv O O<|mv O O<|mv O O<|cT O O O (Mem.Store_ok pm g s.stop cap off k s.m v hv (by omega) hcap hk (by omega)) ?_
  rintro v' L' ⟨rfl,rfl⟩
  refine bx ?_
  refine ar O O<|lc<|rt ?_
  apply aR (.inl rfl) ([aj pa (s.put off k (ct v))])
  · apply cP O
    exact .tmp rfl
  · exact⟨rfl,rfl⟩
  refine cD (x:=⟨pm,g,cap,sb,fb,vs,vc,lm,fl⟩) ⟨ArS.put_ok hok (u9 v),hcap,hcap2,hlm,hfl⟩ ?_;show dS _ (oL pa _ _ ++ _);dsimp only[oL,ArS.put];exact fun w h=>h.perm (by first | exact List.Perm.refl _ | exact List.perm_middle (l₁:=[_,_]))
theorem Fill_ok (pa:Nat) (s:ArS) (off k:Nat) (b:Int) (hb:0<=b/\b < 256) (hg:bt s off k) (hne:s.all≠[]):aK Tryz.prog 182 #[.pointer (some ⟨pa,0,none⟩),.int .i64 off,.int .i64 k,.int .u8 b] [aj pa s]
    (fun r L=>r=.int .i64 0/\L= [aj pa (s.put off k (fun _=>b))]):=by
  refine au Io Tryz.func182 rfl rfl rfl fun Fr w0=>aZ ?_
  refine sr<|ar O O<|lc<|al<|sr<|mv O O<|mv O O<|mv O O<|cT O O O (fG pa s hne off k) ?_
  rintro v' L' ⟨⟨q,rfl,hq⟩,rfl⟩
  refine bx ?_
  refine ad O (db O (cy ·))<|lc<|aG O (fun z=>?_) fun z=>?_
  · rw[hq.2 hg] at z;cases z
  refine dJ fun x hx=>?_
  refine gY fun M hM=>?_
  simp only[List.cons_append,List.nil_append] at hM
  subst M
  obtain⟨pm,g,cap,sb,fb,vs,vc,lm,fl⟩:=x
  obtain⟨hok,hcap,hcap2,hlm,hfl⟩:=hx
  dsimp only at hcap hcap2 hlm hfl ⊢
  have hst:=hok.stop_eq
  have hge:=bt.end_le hok hg
  refine aq<|nz<|mv O O<|ad O (ae O)<|ad O (aE 2 O dy O O mU)<|ad O (aI O mW) ?_
  refine mv O O<|mv O O<|mv O O<|cT O O O (Mem.Fill_ok pm g s.stop cap off k s.m b hb (by omega) hcap (by omega)) ?_
  rintro v' L' ⟨rfl,rfl⟩
  refine bx ?_
  refine ar O O<|lc<|rt ?_
  apply aR (.inl rfl) ([aj pa (s.put off k (fun _=>b))])
  · apply cP O
    exact .tmp rfl
  · exact⟨rfl,rfl⟩
  refine cD (x:=⟨pm,g,cap,sb,fb,vs,vc,lm,fl⟩) ⟨ArS.put_ok hok (fun _=>hb),hcap,hcap2,hlm,hfl⟩ ?_;show dS _ (oL pa _ _ ++ _);dsimp only[oL,ArS.put];exact fun w h=>h.perm (by first | exact List.Perm.refl _ | exact List.perm_middle (l₁:=[_,_]))
theorem Equal_ok (pa:Nat) (s:ArS) (a b k:Nat) (ha:bt s a k) (hb:bt s b k) (hne:s.all≠[]):aK Tryz.prog 216 #[.pointer (some ⟨pa,0,none⟩),.int .i64 a,.int .i64 b,.int .i64 k] [aj pa s]
    (fun r L=>(∃ q:Bool,r=.tuple #[.bool q,.int .i64 0]/\(q=true↔∀ i,i < k->s.m (a+i)=s.m (b+i)))/\L= [aj pa s]):=by
  refine au HO Tryz.func216 rfl rfl rfl fun Fr w0=>aZ ?_
  refine sr<|ar O O<|ar O O<|lc<|al<|sr<|mv O O<|mv O O<|mv O O<|cT O O O (fG pa s hne a k) ?_
  rintro v' L' ⟨⟨q,rfl,hq⟩,rfl⟩
  refine bx ?_
  refine ad O (db O (cy ·))<|mv O O<|bQ (t:=15) rfl (fun z=>?_) fun z=>?_
  · rw[hq.2 ha] at z;cases z
  refine aA O O<|mv O O<|aA O O<|mv O O<|aA O O<|mv O O<|aA O O<|cT O O O (fG pa s hne b k) ?_
  rintro v' L' ⟨⟨q2,rfl,hq2⟩,rfl⟩
  refine bx ?_
  refine aA O O<|ad O (db O (cy ·))<|ad O (aS O O)<|lc<|aG O (fun z2=>?_) fun z2=>?_
  · rw[hq2.2 hb] at z2;cases z2
  refine dJ fun x hx=>?_
  refine gY fun M hM=>?_
  simp only[List.cons_append,List.nil_append] at hM
  subst M
  obtain⟨pm,g,cap,sb,fb,vs,vc,lm,fl⟩:=x
  obtain⟨hok,hcap,hcap2,hlm,hfl⟩:=hx
  dsimp only at hcap hcap2 hlm hfl ⊢
  have hst:=hok.stop_eq
  have hge:=bt.end_le hok ha
  have hge2:=bt.end_le hok hb
  refine aq<|nz<|mv O O<|ad O (ae O)<|ad O (aE 2 O dy O O mU)<|ad O (aI O mW) ?_
  refine mv O O<|mv O O<|mv O O<|cT O O O (Mem.Equal_ok pm g s.stop cap a b k s.m (by omega) (by omega) (by omega)) ?_
  rintro v' L' ⟨⟨q3,rfl,hq3⟩,rfl⟩
  refine bx ?_
  refine ad O (aa O ga) ?_
  refine ad O (aa O ga) ?_
  refine ar O O<|ar O O<|lc<|rt ?_
  apply aR (.inl rfl) ([aj pa s])
  · apply cF O
    · exact .tmp rfl
    exact .tmp rfl
  · exact⟨⟨q3,rfl,hq3⟩,rfl⟩
  refine cD (x:=⟨pm,g,cap,sb,fb,vs,vc,lm,fl⟩) ⟨hok,hcap,hcap2,hlm,hfl⟩ ?_;dsimp only[oL];(exact en)
theorem pD {m:Nat->Int} (hm:∀ i,0<=m i/\m i < 256) (o k:Nat):eW (mo m o k)=cu (fun i=>m (o+i)) k:=by
  simp only[eW,mo,cu,List.map_map]
  refine List.map_congr_left fun i _=>?_
  have:=hm (o+i)
  simp only[Function.comp,Value.int.injEq,true_and]
  rw[UInt8.toNat_ofNat']
  omega
end Arena
end Go.Proofs.YthkajgkagnenbaaGreatDoor
