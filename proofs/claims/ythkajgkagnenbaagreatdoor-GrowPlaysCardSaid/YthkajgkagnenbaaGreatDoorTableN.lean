import Derived.Test.YthkajgkagnenbaaGreatDoorBenchB
set_option linter.unusedVariables false
set_option linter.unusedSimpArgs false
set_option linter.unusedSectionVars false
set_option maxRecDepth 100000
namespace Go.Proofs.YthkajgkagnenbaaGreatDoor
namespace Table
open Go.RowKit Go.Proofs Eng Ty Bits Mem Arena Layout GroupB Group Probe TableB
theorem sM {n e:Nat} (he:e<=13) (hn:n=2 ^ e):Probe.powB (8*(n:Int)) 8 65536=true:=
 (Probe.powB_iff (8*(n:Int)) 8 3 16 65536 (by decide) (by decide) (by decide)).2 ⟨e+3,by omega,by omega,by rw[hn,Int.pow_add,cr,Int.mul_comm];rfl⟩
theorem CH {n e:Nat} (he:e<=13) (hn:n=2 ^ e):aK Tryz.prog 134 #[.int .i64 (8*(n:Int))] [] (fun v L=>v=.int .i64 (7*(n:Int))/\L= []):=by
 have hn2:n<=8192:=by rw[hn];exact(Nat.pow_le_pow_right (by decide:0 < 2) he:2 ^ e<=2 ^ 13)
 refine au ER Tryz.func134 rfl rfl rfl fun Fr w0=>aZ ?_
 refine sr<|ar O O<|lc<|al<|sr<|mv O O<|bF O O O (Probe.power_ok _ _ _ (by omega) (by omega)) ?_
 refine ad O (db O (cy ·))<|lc<|aG O (fun z=>?_) fun z=>?_
 ·rw[sM he hn] at z;cases z
 refine aq<|nz<|mv O O<|mv O O<|ad O (eT O O) ?_
 refine ad O (eJ O O) ?_
 refine ar O O<|lc<|rt<|cN O ([]) (.tmp rfl) ?_
 exact⟨by congr 1;omega,rfl⟩
def cR (n:Nat) (depth:Int):Tb:=⟨2,0,0,0,7*(n:Int),depth,fun _=>.empty⟩
theorem nA:aH 64=64:=by decide
structure ej (s s':ArS) (c:Int):Prop where
 limit:s'.limit=s.limit
 live:s'.live=s.live+(64+c)
 all:s'.all=((s.take 64).take c).all
 dead:s'.dead=((s.take 64).take c).dead
 bl:∀ p,p∈s'.bl↔p∈s.bl\/p=(((s.at 64:Nat):Int),64)\/p=((((s.take 64).at c:Nat):Int),c)
 m:∀ p∈s.bl,∀ a:Nat,p.1<=a->(a:Int) < p.1+p.2->s'.m a=s.m a
theorem ej.good {s s':ArS} {c:Int} (h:ej s s' c) {o k:Int} (hg:bt s o k):bt s' o k:=by
 obtain⟨h0,p,hp,q⟩:=hg
 exact⟨h0,p,(h.bl p).2 (.inl hp),q⟩
def Words (m:Nat->Int) (off:Nat) (W:Nat->Int):Prop:=∀ j,j < 8->dU m (off+8*j) 8=IntKind.u64.wrap (W j)
theorem Words.set {m:Nat->Int} {off:Nat} {W:Nat->Int} (h:Words m off W) {k:Nat} (hk:k < 8) (v:Int):Words (dh m (off+8*k) 8 (ct (IntKind.u64.wrap v))) off fun j=>if j=k then v else W j:=by
 intro j hj
 by_cases q:j=k
 ·subst q
  rw[eA (m':=ct (IntKind.u64.wrap v)) (o':=0) fun i hi=>by rw[gL (by omega) (by omega)];congr 1;omega]
  rw[jJ]
  show _=IntKind.u64.wrap (if j=j then v else W j)
  rw[if_pos rfl,IntKind.wrap_u64]
  omega
 show _=IntKind.u64.wrap (if j=k then v else W j)
 rw[if_neg q,<- h j hj]
 exact eA fun i hi=>by rw[cC];omega
theorem rG {m:Nat->Int} {o:Nat}:∀ {k:Nat},(∀ i,i < k->m (o+i)=0)->dU m o k=0
 | 0,_=>rfl
 | k+1,h=>by simp only[dU];rw[rG fun i hi=>h i (by omega),h k (by omega)];simp
structure qJ (s2 s:ArS) (go:Nat) (l:Lay) (k:Nat):Prop where
 all:s.all=s2.all
 dead:s.dead=s2.dead
 limit:s.limit=s2.limit
 m:∀ a,(a < go\/go+k*gN l<=a)->s.m a=s2.m a
 g:∀ g,g < k->qO s.m (go+g*gN l) l fun _=>.empty
theorem qJ.bl {s2 s:ArS} {go:Nat} {l:Lay} {k:Nat} (h:qJ s2 s go l k):s.bl=s2.bl:=by unfold ArS.bl;rw[h.all,h.dead]
theorem qJ.next {s2 s:ArS} {go:Nat} {l:Lay} {k:Nat} (h:qJ s2 s go l k) (hN:lQ l):qJ s2 (s.put (go+k*gN l) (gN l) (dZ l fun _=>.empty)) go l (k+1):=by
 have hk:(k+1)*gN l=k*gN l+gN l:=by rw[Nat.add_mul,Nat.one_mul]
 refine⟨h.all,h.dead,h.limit,fun a ha=>by rw[ArS.put_m,cC (by omega)];exact h.m a (by omega),fun g hg=>?_⟩
 by_cases q:g=k
 ·subst q;exact qO.lay _
 exact(h.g g (by omega)).out (by have:=Nat.mul_le_mul_right (gN l) (show g+1<=k by omega);rw[Nat.add_mul] at this;omega)
def fK (s:ArS) (go k:Nat) (c:Int):Prop:=∀ a:Nat,go+k<=a->(a:Int) < (go:Nat)+c->s.m a=0
theorem ye:(64:Int)∈dM:=nA ▸ gq (by decide) (by decide)
section
variable {s sk:ArS} {l:Lay} {n k:Nat} (hs:s.ok) (hfit:s.live+(64+aH ((n*gN l:Nat):Int))<=s.limit) (h1:1<=n*gN l) (hsm:((n*gN l:Nat):Int)<=1048576)
include hs hfit h1 hsm
theorem ng:(s.take 64).ok/\(s.take 64).live=s.live+64/\(s.take 64).limit=s.limit/\aH ((n*gN l:Nat):Int)∈dM/\((n*gN l:Nat):Int)<=aH ((n*gN l:Nat):Int)/\(s.take 64).live+aH ((n*gN l:Nat):Int)<=(s.take 64).limit:=by
 have hcb:=dE (n:=((n*gN l:Nat):Int)) (by omega)
 have h64:=ArS.take_live hs (c:=64)
 have hli:=cX hs (c:=64)
 exact⟨ArS.take_ok hs ye (by omega),h64,hli,gq (by omega) hsm,(hcb.2.2 hsm).1,by omega⟩
theorem qJ.head (h:qJ ((s.take 64).take (aH ((n*gN l:Nat):Int))) sk ((s.take 64).at (aH ((n*gN l:Nat):Int))) l k):bt sk ((s.at 64:Nat):Int) 64:=by
 obtain⟨ok64,_⟩:=ng hs hfit h1 hsm
 obtain⟨h0,p,hp,q⟩:=bt.take ok64 (c:=aH ((n*gN l:Nat):Int)) (bt.new hs (c:=64) (n:=64) (by decide) (by decide))
 exact⟨h0,p,by rw[h.bl];exact hp,q⟩
theorem qJ.good (h:qJ ((s.take 64).take (aH ((n*gN l:Nat):Int))) sk ((s.take 64).at (aH ((n*gN l:Nat):Int))) l k) (hN:lQ l) (hk:k*gN l+gN l<=n*gN l):bt sk (((s.take 64).at (aH ((n*gN l:Nat):Int))+k*gN l:Nat):Int) l.group:=by
 obtain⟨ok64,_,_,hcc,hcb,_⟩:=ng hs hfit h1 hsm
 have hg8:=hN.g_eq
 have:=bt.new ok64 (c:=aH ((n*gN l:Nat):Int)) (n:=((n*gN l:Nat):Int)) (by omega) hcb
 obtain⟨h0,p,hp,q⟩:=this
 have h2:bt sk (((s.take 64).at (aH ((n*gN l:Nat):Int)):Nat):Int) ((n*gN l:Nat):Int):=⟨h0,p,by rw[h.bl];exact hp,q⟩
 rw[<- hN.g]
 exact bt.sub h2 (by omega) (by omega) (by omega)
end
theorem Dx {s s5:ArS} {l:Lay} {n e o g:Nat} {c:Int} {depth:Int} (hl:l.err=0) (he:e<=13) (hn:n=2 ^ e) (hd:0<=depth/\depth<=6) (hs:s.ok) (hfit:s.live+(64+aH ((n*gN l:Nat):Int))<=s.limit) (hsm:((n*gN l:Nat):Int)<=1048576)
  (hc:c=aH ((n*gN l:Nat):Int)) (ho:o=s.at 64) (hg:g=(s.take 64).at c)
  {sk:ArS} (hI:qJ ((s.take 64).take c) sk g l n)
  (h5:s5=(((((sk.put (o+8*0) 8 (ct (IntKind.u64.wrap 2))).put (o+8*4) 8 (ct (IntKind.u64.wrap (8*(n:Int))))).put (o+8*5) 8 (ct (IntKind.u64.wrap (7*(n:Int))))).put (o+8*6) 8 (ct (IntKind.u64.wrap depth))).put (o+8*7) 8 (ct (IntKind.u64.wrap (g:Nat))))):
  cd s5 o g l n e (cR n depth)/\ej s s5 c/\fK s5 g (n*gN l) c:=by
 have hN:=eK hl
 have hn0:0 < n:=by rw[hn];exact Nat.two_pow_pos e
 have hn2:n<=8192:=by rw[hn];exact(Nat.pow_le_pow_right (by decide:0 < 2) he:2 ^ e<=2 ^ 13)
 have hg8:=hN.g_eq
 have hn1:1<=n*gN l:=by have:=Nat.mul_le_mul_right (gN l) hn0;omega
 obtain⟨ok64,hl64,hli64,hcc,hcb,hfit2⟩:=ng hs hfit hn1 hsm
 rw[<- hc] at hcc hcb hfit2
 have hst:=hs.stop_eq
 have hlim:=hs.limit
 have hab1:=oa hs ye (by omega)
 have hab2:=oa ok64 hcc hfit2
 rw[<- ho] at hab1
 rw[<- hg] at hab2
 have hm64:(((o:Nat):Int),(64:Int))∈(s.take 64).bl:=(dP hs).2 (.inr (by rw[ho]))
 have hap:=de ok64 hm64 (c:=c) (by omega)
 rw[<- hg] at hap
 dsimp only at hap
 have hW0:Words sk.m o fun _=>0:=fun j hj=>by
  rw[rG fun i hi=>?_]
  ·rfl
  rw[hI.m _ (by omega),nL ok64 (by omega) hm64 (by dsimp only;omega) (by dsimp only;omega)]
  exact take_zero hs (by decide) (by omega) (by omega)
 have hW:=((((hW0.set (k:=0) (by decide) 2).set (k:=4) (by decide) (8*(n:Int))).set (k:=5) (by decide) (7*(n:Int))).set (k:=6) (by decide) depth).set (k:=7) (by decide) ((g:Nat):Int)
 have hm:s5.m=dh (dh (dh (dh (dh sk.m (o+8*0) 8 (ct (IntKind.u64.wrap 2))) (o+8*4) 8 (ct (IntKind.u64.wrap (8*(n:Int))))) (o+8*5) 8 (ct (IntKind.u64.wrap (7*(n:Int))))) (o+8*6) 8 (ct (IntKind.u64.wrap depth))) (o+8*7) 8 (ct (IntKind.u64.wrap ((g:Nat):Int))):=by rw[h5];rfl
 have hall:s5.all=((s.take 64).take c).all:=by rw[h5];exact hI.all
 have hdd:s5.dead=((s.take 64).take c).dead:=by rw[h5];exact hI.dead
 have hbl:s5.bl=((s.take 64).take c).bl:=by unfold ArS.bl;rw[hall,hdd]
 have hli:s5.limit=s.limit:=by rw[h5];exact(hI.limit.trans (cX ok64)).trans hli64
 have gput:∀ {o k:Int},bt ((s.take 64).take c) o k->bt s5 o k:=fun h=>by
  obtain⟨h0,p,hp,q⟩:=h;exact⟨h0,p,by rw[hbl];exact hp,q⟩
 have hgn:∀ k,k < n->k*gN l+gN l<=n*gN l:=fun k hk=>by have:=Nat.mul_le_mul_right (gN l) (show k+1<=n by omega);rw[Nat.add_mul] at this;omega
 refine⟨⟨hl,he,hn,⟨fun k hk=>?_,fun g' hg'=>?_,fun i _=>trivial⟩,?_,?_,?_,by omega⟩,⟨hli,?_,hall,hdd,fun p=>?_,fun p hp a h1 h2=>?_⟩,fun a h1 h2=>?_⟩
 ·rw[hm,hW k hk]
  have:k=0\/k=1\/k=2\/k=3\/k=4\/k=5\/k=6\/k=7:=by omega
  rcases this with rfl | rfl | rfl | rfl | rfl | rfl | rfl | rfl <;> rfl
 ·rw[hm]
  have:=hgn g' hg'
  exact((((((hI.g g' hg').out (by omega)).out (by omega)).out (by omega)).out (by omega)).out (by omega))
 ·rw[ho];exact gput (bt.take ok64 (bt.new hs (by decide) (by decide)))
 ·rw[hg];exact gput (bt.new ok64 (by omega) hcb)
 ·intro k hk
  have:k=0\/k=1\/k=2\/k=3\/k=4\/k=5\/k=6\/k=7:=by omega
  rcases this with rfl | rfl | rfl | rfl | rfl | rfl | rfl | rfl <;> simp only[fa,cR] <;> omega
 ·have e1:s5.live=ArS.sum s5.bl:=rfl
  rw[e1,hbl]
  have:=ArS.take_live ok64 (c:=c)
  show((s.take 64).take c).live=_
  omega
 ·rw[hbl,dP ok64,dP hs,<- ho,or_assoc]
 ·have hp64:p∈(s.take 64).bl:=(dP hs).2 (.inl hp)
  have a1:=de hs hp (c:=64) (by decide)
  have a2:=de ok64 hp64 (c:=c) (by omega)
  rw[<- ho] at a1
  rw[<- hg] at a2
  rw[hm,cC (by omega),cC (by omega),cC (by omega),cC (by omega),cC (by omega),hI.m _ (by omega),nL ok64 (by omega) hp64 h1 h2,nL hs (by decide) hp h1 h2]
 rw[hm,cC (by omega),cC (by omega),cC (by omega),cC (by omega),cC (by omega),hI.m _ (by omega)]
 exact take_zero ok64 (by omega) (by omega) (by omega)
theorem New_okT (pa n e:Nat) (s:ArS) (l:Lay) (slots depth:Int) (hl:l.err=0) (he:e<=13) (hn:n=2 ^ e) (hslots:slots=8*(n:Int)) (hd:0<=depth/\depth<=6):
  aK Tryz.prog 52 #[.pointer (some ⟨pa,0,none⟩),.agg l.cells,.int .i64 slots,.int .i64 depth] [aj pa s]
   (fun v L=>((1048576 < ((n*gN l:Nat):Int)\/s.limit-s.live < 64+aH ((n*gN l:Nat):Int))/\v=.tuple #[.agg #[.pointer none,.int .i64 0,.int .i64 0,.int .i64 0,.int .i64 0,.int .i64 0,.int .i64 0,.int .i64 0,.int .i64 0,.int .i64 0,.int .i64 0],.int .i64 22]/\L= [aj pa s])\/
    (((n*gN l:Nat):Int)<=1048576/\s.live+(64+aH ((n*gN l:Nat):Int))<=s.limit/\∃ s',v=.tuple #[.agg #[.pointer (some ⟨pa,0,none⟩),.int .i64 l.key,.int .i64 l.elem,.int .i64 l.ka,.int .i64 l.ea,.int .i64 l.cap,.int .i64 l.eo,.int .i64 l.bo,.int .i64 l.slot,.int .i64 l.group,.int .i64 ((s.at 64:Nat):Int)],.int .i64 0]/\L= [aj pa s']/\cd s' (s.at 64) ((s.take 64).at (aH ((n*gN l:Nat):Int))) l n e (cR n depth)/\ej s s' (aH ((n*gN l:Nat):Int))/\fK s' ((s.take 64).at (aH ((n*gN l:Nat):Int))) (n*gN l) (aH ((n*gN l:Nat):Int)))):=by
 subst hslots
 have hN:=eK hl
 have hn0:0 < n:=by rw[hn];exact Nat.two_pow_pos e
 have hn2:n<=8192:=by rw[hn];exact(Nat.pow_le_pow_right (by decide:0 < 2) he:2 ^ e<=2 ^ 13)
 have hp8:=sM he hn
 have hg8:=hN.g_eq
 have hbit:bits .and .i64 (8*(n:Int)) (8*(n:Int)-1)=0:=by
  simp only[Probe.powB,Bool.and_eq_true,decide_eq_true_eq] at hp8
  have:=Probe.pow2_eq (n:=8*(n:Int)) (by omega) (by omega)
  rw[hp8.2] at this
  exact of_decide_eq_true this
 have hnl:1<=n*gN l:=by have:=Nat.mul_le_mul_right (gN l) hn0;omega
 have hgrp:8*(n:Int) / 8*l.group=((n*gN l:Nat):Int):=by rw[Int.natCast_mul,hN.g];congr 1;omega
 refine au FT Tryz.func52 rfl rfl rfl fun Fr w0=>aZ ?_
 refine dN (φ:=s.ok) (fun w hw=>cS hw .here) fun hok0=>?_
 have hst:=hok0.stop_eq
 refine sr<|bw O O fun b5=>ay O cM fun b8=>ar O O<|lc<|al<|sr<|mv O O<|ad O (qi O O (bj ·))<|mv O O<|bQ (t:=17) rfl (fun p1=>?_) fun p1=>?_
 ·omega
 refine aA O O<|mv O O<|aA O O<|ad O (qi O O (di ·))<|ad O (aS O O)<|mv O O<|bQ (t:=21) rfl (fun p2=>?_) fun p2=>?_
 ·omega
 refine aA O O<|mv O O<|aA O O<|mv O O<|aA O O<|ad O (eJ O O) ?_
 refine aA O O<|ad O (fh O O O)<|aA O O<|ad O (qi O O (bf ·))<|ad O (aS O O)<|lc<|aG O (fun p3=>?_) fun p3=>?_
 ·exact absurd hbit p3
 refine aq<|an<|al<|sr<|mv O O<|ad O (qi O O (bj ·))<|mv O O<|bQ (t:=31) rfl (fun p4=>?_) fun p4=>?_
 ·omega
 refine aA O O<|mv O O<|aA O O<|ad O (qi O O (di ·))<|ad O (aS O O)<|lc<|aG O (fun p5=>?_) fun p5=>?_
 ·omega
 refine aq<|nz<|mv O O<|ad O (aO O cZ bH) ?_
 refine mv O O<|bF O O O (Ab l hl _ hp8) ?_
 rw[hgrp]
 refine bR [_,_] rfl rfl bI aN sj rfl rfl rfl rfl (fun b41=>?_)
 refine cT O O O (tC pa s b41 64 ((n*gN l:Nat):Int) (by decide) (by omega)) ?_
 rintro v L' (⟨hb,rfl,rfl⟩ | ⟨_,hs2,hl2,vo,rfl,rfl⟩)
 refine bx ?_
 ·skip
  rw[nA] at hb
  refine mv O O<|ad O (aa O ga) ?_
  refine ad O (aa O ga) ?_
  refine ar O O<|ar O O<|lc<|al<|sr<|mv O O<|ad O (qi O O (bf ·))<|lc<|aG O (fun z=>?_) fun z=>?_
  ·refine sr ?_
   apply ad O
   ·apply bp O qS cM
    exact aP.nil
   refine mv O O<|bZ O O O aM O O ?_
   refine ar O O<|lc<|rt ?_
   apply aR (.inl rfl) ([aj pa s])
   ·apply cF O
    ·apply Rv.agg rfl
     ·exact tk
     exact aJ bA aM O
    exact .tmp rfl
   ·exact .inl ⟨by rcases hb with q | q | q;(exact absurd q (by decide));exact .inl q;exact .inr q,rfl,rfl⟩
   exact en
  exact absurd z (by decide)
 refine bx ?_
 rw[nA] at hl2 ⊢
 refine gM .here fun _ hsh=>?_
 obtain⟨a10,c10,rfl,ha10,_,_⟩:=hsh
 obtain⟨g10,rfl⟩:=ha10 (by decide)
 obtain⟨ok64,hl64,hli64,hcc,hcb,hfit2⟩:=ng hok0 hl2 hnl hs2
 have hab1:=oa hok0 ye (by omega)
 have hab2:=oa ok64 hcc hfit2
 obtain⟨C,hC⟩:∃ C,C=aH ((n*gN l:Nat):Int):=⟨_,rfl⟩
 rw[<- hC] at hcc hcb hfit2 hab2 ⊢
 obtain⟨of,hof⟩:∃ of,of=s.at 64:=⟨_,rfl⟩
 obtain⟨gf,hgf⟩:∃ gf,gf=(s.take 64).at C:=⟨_,rfl⟩
 rw[<- hof] at hab1 ⊢
 rw[<- hgf] at hab2 ⊢
 refine mv O O<|ad O (aa O ga) ?_
 refine ad O (aa O ga) ?_
 refine ar O O<|ar O O<|lc<|al<|sr<|mv O O<|ad O (qi O O (bf ·))<|lc<|aG O (fun z=>?_) fun z=>?_
 ·exact absurd rfl z
 refine aq<|an<|al<|aY mixed ?_
 apply dq 0 O (yq (ah O))
 apply dq 1 O (yq (aO O cZ bH))
 apply dq 2 O (yq (ah O))
 apply dq 3 O
 ·apply yq
  first | exact aW 0 O O bI aN (by omega) | exact az O O bI aN (by omega)
 apply dq 4 O
 ·apply yq
  apply aT O aX
  ·exact tk
  exact rfl
 apply dq 5 O
 ·apply yq
  apply bp O qS cM
  apply aP.one
  ·repeat (first | exact ba.here | apply ba.there)
  ·rfl
  ·exact sa
  apply aP.all
  ·repeat (first | exact ba.here | apply ba.there)
  ·rfl
  ·simp
  ·exact Dj
  apply aP.one
  ·repeat (first | exact ba.here | apply ba.there)
  ·rfl
  ·exact sa
  exact aP.nil
 refine ak [] [5,4,3,2,1,0] 6 [] gO trivial (by kernel_rfl) (by kernel_rfl) fun Ex=>?_
 refine ay O cM fun b12=>ai ?_
 apply aQ
 ·refine⟨?_,?_,?_,?_,?_,?_,trivial⟩
  ·apply ya O O
   apply yq
   apply bp O qS cM
   apply aP.one
   ·repeat (first | exact ba.here | apply ba.there)
   ·rfl
   ·exact sa
   apply aP.all
   ·repeat (first | exact ba.here | apply ba.there)
   ·rfl
   ·simp
   ·exact Dj
   apply aP.one
   ·repeat (first | exact ba.here | apply ba.there)
   ·rfl
   ·exact sa
   exact aP.nil
  ·apply ya O O
   apply yq
   apply aT O aX
   ·exact tk
   exact rfl
  ·apply ya O O
   apply yq
   first | exact aW 0 O O bI aN (by omega) | exact az O O bI aN (by omega)
  ·apply ya O O;exact yq (ah O)
  ·apply ya O O;exact yq (aO O cZ bH)
  apply ya O O;exact yq (ah O)
 refine ak [5,0,1,2,3,4] [] 7 [(12,_),(54,_)] gO ⟨rfl,rfl,trivial⟩ (by kernel_rfl) (by kernel_rfl) fun Ex=>?_
 refine bZ O O O aM O O ?_
 refine ai ?_
 refine aQ trivial ?_
 refine aV (by kernel_rfl) ?_
 refine an<|al<|sr<|mv O O<|ad O (eT O O) ?_
 refine mv O O<|lc<|aB ?_
 rw[show(8*(n:Int)) / 8=((n:Nat):Int) by omega]
 refine bK (fun x:Nat×ArS=>x.1<=n/\qJ ((s.take 64).take C) x.2 gf l x.1) (fun x=>[(0,.pointer (some ⟨pa,0,none⟩)),(2,.int .i64 (8*(n:Int))),(3,.int .i64 depth),(5,.pointer (some ⟨b5,0,none⟩)),(8,.pointer (some ⟨b8,0,none⟩)),(10,.slice (some ⟨g10,0,none⟩) 2 c10),(12,.pointer (some ⟨b12,0,none⟩)),(56,.int .i64 (n:Nat)),(57,.int .i64 x.1)]) (fun x=>pt b12 (.cells #[.pointer (some ⟨pa,0,none⟩),.int .i64 l.key,.int .i64 l.elem,.int .i64 l.ka,.int .i64 l.ea,.int .i64 l.cap,.int .i64 l.eo,.int .i64 l.bo,.int .i64 l.slot,.int .i64 l.group,.int .i64 ((of:Nat):Int)] 39 (0,0))::aF 3 1 (.slice (some ⟨g10,0,none⟩) 2 c10) 2 [.int .i64 ((of:Nat):Int),.int .i64 ((gf:Nat):Int)]::aj pa x.2::pt b5 (.cells #[.int .i64 l.key,.int .i64 l.elem,.int .i64 l.ka,.int .i64 l.ea,.int .i64 l.cap,.int .i64 l.eo,.int .i64 l.bo,.int .i64 l.slot,.int .i64 l.group] 34 (0,0))::pt b8 (.cells #[.pointer none,.int .i64 0,.int .i64 0,.int .i64 0,.int .i64 0,.int .i64 0,.int .i64 0,.int .i64 0,.int .i64 0,.int .i64 0,.int .i64 0] 39 (0,0))::Fr) (fun x=>n-x.1) (0,(s.take 64).take C) ⟨by omega,⟨rfl,rfl,rfl,fun _ _=>rfl,fun _ h=>by omega⟩⟩ ⟨rfl,rfl,rfl,rfl,rfl,rfl,rfl,rfl,rfl,trivial⟩ (by(exact en)) ?_
 rintro⟨k,sk⟩ ⟨hk,hI⟩
 dsimp only at hk hI ⊢
 refine sr<|ad O (qi O O (bj ·))<|lc<|al<|aG O (fun q=>?_) fun q=>?_
 ·have hkn:k < n:=by omega
  have hkm:(k:Int)*l.group=((k*gN l:Nat):Int):=by rw[Int.natCast_mul,hN.g]
  have hkl:k*gN l+gN l<=n*gN l:=by have:=Nat.mul_le_mul_right (gN l) (show k+1<=n by omega);rw[Nat.add_mul] at this;omega
  refine aq<|an<|al<|aB<|sr<|mv O O<|ar O O<|lc<|al<|aY mixed ?_
  apply dq 0 O (yq (ah O))
  apply dq 1 O (yq (aO O cZ bH))
  apply dq 2 O (yq (ah O))
  apply dq 3 O
  ·apply yq
   first | exact aW 1 O O bI aN (by omega) | exact az O O bI aN (by omega)
  apply dq 4 O
  ·apply yq
   apply aT O aX
   ·exact tk
   exact rfl
  apply dq 5 O (yq (ah O))
  apply dq 6 O (yq (aE 8 O cB O O aN))
  apply dq 7 O (yq (aI O aX))
  apply dq 8 O (yq (dA O O))
  apply dq 9 O (yq (bn O O))
  refine ak [0,1,9,4,8,3,5,7,2,6] [] 10 [(60,_),(61,_),(69,_)] gO ⟨rfl,rfl,rfl,trivial⟩ (by kernel_rfl) (by kernel_rfl) fun Ex=>?_
  rw[hkm,show((gf:Nat):Int)+((k*gN l:Nat):Int)=((gf+k*gN l:Nat):Int) by push_cast;rfl]
  refine bF O O O (E3 pa (gf+k*gN l) l) ?_
  refine ai ?_
  refine aQ trivial ?_
  refine ak [] [] 11 [(70,_)] gO ⟨rfl,trivial⟩ (by kernel_rfl) (by kernel_rfl) fun Ex=>?_
  refine bF O O O (Cu pa (gf+k*gN l) sk l hl (by subst hC hof hgf;exact hI.good hok0 hl2 hnl hs2 hN hkl)) ?_
  refine ai ?_
  refine aQ trivial ?_
  refine ak [] [] 12 [(71,_)] gO ⟨rfl,trivial⟩ (by kernel_rfl) (by kernel_rfl) fun Ex=>?_
  refine ar O O<|ai ?_
  refine aQ trivial ?_
  refine aV (by kernel_rfl) ?_
  refine nz<|mv O O<|ad O (qi O O (bf ·))<|lc<|aG O (fun q2=>?_) fun q2=>?_
  ·exact absurd rfl q2
  refine aq<|bz<|an<|aD<|ad O (bn O O) ?_
  refine mv O O<|ai ?_
  apply aU ((k+1,sk.put (gf+k*gN l) (gN l) (dZ l fun _=>.empty)))
  ·exact⟨by dsimp only;omega,hI.next hN⟩
  ·dsimp only;omega
  ·exact⟨O,O,O,O,O,O,O,O,O,trivial⟩
  exact en
 refine xt O<|nz<|ad O (aO O bA aM) ?_
 obtain rfl:k=n:=by omega
 have hg0:bt sk ((of:Nat):Int) 64:=by subst hC hof hgf;exact hI.head hok0 hl2 hnl hs2
 refine cT O O O (gG pa of 0 sk l 0 2 rfl (by decide) hg0) ?_
 rintro v L' rfl
 refine bx ?_
 refine lz<|ad O (aO O bA aM) ?_
 refine mv O O<|cT O O O (gG pa of 4 _ l 32 _ rfl (by decide) (bt.put hg0)) ?_
 rintro v L' rfl
 refine bx ?_
 refine lc<|al<|aY mixed ?_
 apply dq 0 O (yq (aO O bA aM))
 apply dq 1 O (yq (ah O))
 refine ak [1] [0] 2 [(83,_)] gO ⟨rfl,trivial⟩ (by kernel_rfl) (by kernel_rfl) fun Ex=>?_
 refine bF O O O (CH he hn) ?_
 refine ai ?_
 refine aQ ⟨ya O O (yq (aO O bA aM)),trivial⟩ ?_
 refine ak [0] [] 3 [(82,_),(84,_)] gO ⟨rfl,rfl,trivial⟩ (by kernel_rfl) (by kernel_rfl) fun Ex=>?_
 refine cT O O O (gG pa of 5 _ l 40 _ rfl (by decide) (bt.put (bt.put hg0))) ?_
 rintro v L' rfl
 refine bx ?_
 refine ai ?_
 refine aQ trivial ?_
 refine aV (by kernel_rfl) ?_
 refine nz<|ad O (aO O bA aM) ?_
 refine mv O O<|cT O O O (gG pa of 6 _ l 48 _ rfl (by decide) (bt.put (bt.put (bt.put hg0)))) ?_
 rintro v L' rfl
 refine bx ?_
 refine lc<|al<|aY mixed ?_
 apply dq 0 O (yq (aO O bA aM))
 apply dq 1 O (yq (ah O))
 apply dq 2 O
 ·apply yq
  first | exact aW 1 O O bI aN (by omega) | exact az O O bI aN (by omega)
 apply dq 3 O
 ·apply yq
  apply aT O aX
  ·exact tk
  exact rfl
 refine ak [0,3,2,1] [] 4 [(89,_),(92,_)] gO ⟨rfl,rfl,trivial⟩ (by kernel_rfl) (by kernel_rfl) fun Ex=>?_
 refine cT O O O (gG pa of 7 _ l 56 _ rfl (by decide) (bt.put (bt.put (bt.put (bt.put hg0))))) ?_
 rintro v L' rfl
 refine bx ?_
 refine ai ?_
 refine aQ trivial ?_
 refine aV (by kernel_rfl) ?_
 refine nz<|ad O (aO O bA aM) ?_
 refine bZ O O O aM O O ?_
 refine ar O O<|lc<|rt ?_
 have hfin:=Dx hl he hn hd hok0 hl2 hs2 hC hof hgf hI rfl
 apply aR (.inl rfl) ([aj pa (((((sk.put (of+8*0) 8 (ct (IntKind.u64.wrap 2))).put (of+8*4) 8 (ct (IntKind.u64.wrap (8*(k:Int))))).put (of+8*5) 8 (ct (IntKind.u64.wrap (7*(k:Int))))).put (of+8*6) 8 (ct (IntKind.u64.wrap depth))).put (of+8*7) 8 (ct (IntKind.u64.wrap ((gf:Nat):Int))))])
 ·apply cF O
  ·apply Rv.agg rfl
   ·exact tk
   exact aJ bA aM O
  exact .tmp rfl
 ·exact .inr ⟨hs2,by rw[<- hC] at hl2;exact hl2,_,rfl,rfl,hfin.1,hfin.2.1,hfin.2.2⟩
 exact en
theorem New_ok (pa n e:Nat) (s:ArS) (l:Lay) (slots depth:Int) (hl:l.err=0) (he:e<=13) (hn:n=2 ^ e) (hslots:slots=8*(n:Int)) (hd:0<=depth/\depth<=6):
  aK Tryz.prog 52 #[.pointer (some ⟨pa,0,none⟩),.agg l.cells,.int .i64 slots,.int .i64 depth] [aj pa s]
   (fun v L=>((1048576 < ((n*gN l:Nat):Int)\/s.limit-s.live < 64+aH ((n*gN l:Nat):Int))/\v=.tuple #[.agg #[.pointer none,.int .i64 0,.int .i64 0,.int .i64 0,.int .i64 0,.int .i64 0,.int .i64 0,.int .i64 0,.int .i64 0,.int .i64 0,.int .i64 0],.int .i64 22]/\L= [aj pa s])\/
    (((n*gN l:Nat):Int)<=1048576/\s.live+(64+aH ((n*gN l:Nat):Int))<=s.limit/\∃ s',v=.tuple #[.agg #[.pointer (some ⟨pa,0,none⟩),.int .i64 l.key,.int .i64 l.elem,.int .i64 l.ka,.int .i64 l.ea,.int .i64 l.cap,.int .i64 l.eo,.int .i64 l.bo,.int .i64 l.slot,.int .i64 l.group,.int .i64 ((s.at 64:Nat):Int)],.int .i64 0]/\L= [aj pa s']/\cd s' (s.at 64) ((s.take 64).at (aH ((n*gN l:Nat):Int))) l n e (cR n depth)/\ej s s' (aH ((n*gN l:Nat):Int)))):=
 (New_okT pa n e s l slots depth hl he hn hslots hd).mono fun v L h=>h.imp id fun⟨h1,h2,s',h3,h4,h5,h6,_⟩=>⟨h1,h2,s',h3,h4,h5,h6⟩
end Table
end Go.Proofs.YthkajgkagnenbaaGreatDoor
