import Derived.Test.YthkajgkagnenbaaGreatDoorGpA
set_option linter.unusedVariables false
set_option linter.unusedSimpArgs false
set_option linter.unusedSectionVars false
set_option maxRecDepth 100000
set_option maxHeartbeats 900000
namespace Go.Proofs.YthkajgkagnenbaaGreatDoor
namespace Plays
open Go.RowKit Go.Proofs Eng Ty Bits Arena CtrlB Ctrl Layout GroupB TableB TableI Table Bench Cells Refill Oracle Grow Exact
theorem sT {s:ArS} (hs:s.ok) {c:Int} (hc:1<=c) (hfit:s.live+64<=s.limit) {o k:Int} (hg:bt s o k):(o+k<=((s.at 64:Nat):Int)\/((s.at 64:Nat):Int)+64<=o)/\(o+k<=(((s.take 64).at c:Nat):Int)\/(((s.take 64).at c:Nat):Int)+c<=o):=by
 obtain⟨_,p,hp,q1,q2⟩:=hg
 have ok64:=ArS.take_ok hs ye hfit
 have a1:=de hs hp (c:=64) (by decide)
 have a2:=de ok64 ((dP hs).2 (.inl hp)) (c:=c) hc
 omega
theorem F7 {h d:Int} (hh:0<=h/\h < 18446744073709551616) (hd:0<=d/\d<=63):IntKind.i64.wrap (bits .and .u64 (h.fdiv (2 ^ min (63-d).toNat IntKind.u64.bits)) 1)=nC h d:=by
 have e1:min (63-d).toNat IntKind.u64.bits=(63-d).toNat:=Nat.min_eq_left (by show _<=64;omega)
 rw[e1]
 have hp:(0:Int) < 2 ^ (63-d).toNat:=Int.pow_pos (by decide)
 rw[Int.fdiv_eq_ediv_of_nonneg _ (Int.le_of_lt hp)]
 have h1:0<=h / 2 ^ (63-d).toNat:=Int.ediv_nonneg hh.1 (Int.le_of_lt hp)
 have h2:h / 2 ^ (63-d).toNat<=h:=Int.ediv_le_self _ hh.1
 have h3:=qf (h / 2 ^ (63-d).toNat) h1 (by omega) 1 (by decide)
 rw[show((2:Int) ^ 1-1)=1 from rfl,show((2:Int) ^ 1)=2 from rfl] at h3
 rw[h3]
 unfold nC
 exact wrap_i64 (by omega)
theorem CS (h d:Int) (hh:0<=h/\h < 18446744073709551616) (hd:0<=d/\d<=63):aK Tryz.prog 143 #[.int .u64 h,.int .i64 d] [] (fun v L=>v=.int .i64 (nC h d)/\L= []):=by
 have hb:=F7 hh hd
 refine au IP Tryz.func143 rfl rfl rfl fun Fr w0=>aZ ?_
 refine sr<|ar O O<|lc<|al<|sr<|mv O O<|ad O (qi O O (bj ·))<|mv O O<|bQ (t:=7) rfl (fun z1=>?_) fun z1=>?_
 ·omega
 refine aA O O<|mv O O<|aA O O<|ad O (qi O O (di ·))<|ad O (aS O O)<|lc<|aG O (fun z2=>?_) fun z2=>?_
 ·omega
 refine aq<|nz<|mv O O<|mv O O<|ad O (eJ O O) ?_
 apply ad O
 ·apply qi O O;exact fun w=>gA w (by omega)
 refine ad O (fh O O O)<|ad O (km O fv j5) ?_
 refine ar O O<|lc<|rt<|cN O ([]) (.tmp rfl) ?_
 exact⟨by rw[hb],rfl⟩
theorem zL (be bl:Nat) (cs:Array Value):vI Tryz.prog 140 #[.pointer (some ⟨be,0,none⟩),.pointer (some ⟨bl,0,none⟩)] [pt be (.cells #[.int .i64 0] 77 (0,0)),pt bl (.cells cs 39 (0,0))] (fun L=>L= [pt be (.cells #[.int .i64 0] 77 (0,0)),pt bl (.cells cs 39 (0,0))]):=by
 refine rY EP Tryz.func140 rfl rfl rfl fun Fr w0=>aZ ?_
 refine sr<|ad O (aI O iO) ?_
 refine ad O (qi O O (bf ·))<|lc<|aG O (fun z=>?_) fun z=>?_
 ·exact absurd rfl z
 refine aq ?_
 refine BX (.inr rfl) ([pt be (.cells #[.int .i64 0] 77 (0,0)),pt bl (.cells cs 39 (0,0))]) (pP O) rfl ?_
 exact en
theorem zK (c:Int) (hc:c≠0) (pa off go n e:Nat) (s:ArS) (l:Lay) (T:Tb) (hP:cd s off go l n e T) (c1 c2:Int) (h1:(((off:Nat):Int),c1)∈s.bl) (h2:(((go:Nat):Int),c2)∈s.bl) (be bl:Nat):
  vI Tryz.prog 140 #[.pointer (some ⟨be,0,none⟩),.pointer (some ⟨bl,0,none⟩)] [pt be (.cells #[.int .i64 c] 77 (0,0)),pt bl (.cells #[.pointer (some ⟨pa,0,none⟩),.int .i64 l.key,.int .i64 l.elem,.int .i64 l.ka,.int .i64 l.ea,.int .i64 l.cap,.int .i64 l.eo,.int .i64 l.bo,.int .i64 l.slot,.int .i64 l.group,.int .i64 ((off:Nat):Int)] 39 (0,0)),aj pa s] (fun L=>L= [pt be (.cells #[.int .i64 c] 77 (0,0)),pt bl (.cells #[.pointer (some ⟨pa,0,none⟩),.int .i64 l.key,.int .i64 l.elem,.int .i64 l.ka,.int .i64 l.ea,.int .i64 l.cap,.int .i64 l.eo,.int .i64 l.bo,.int .i64 l.slot,.int .i64 l.group,.int .i64 ((off:Nat):Int)] 39 (0,0)),aj pa (s.gives [((off:Nat):Int),((go:Nat):Int)])]):=by
 refine rY EP Tryz.func140 rfl rfl rfl fun Fr w0=>aZ ?_
 refine sr<|ad O (aI O iO) ?_
 refine ad O (qi O O (bf ·))<|lc<|aG O (fun z=>?_) fun z=>?_
 ·refine aD<|ad O (aO O bA aM) ?_
  refine bF O O O (vn pa off go n e s l T hP c1 c2 h1 h2) ?_
  refine ai ?_
  refine BX (.inr rfl) ([pt be (.cells #[.int .i64 c] 77 (0,0)),pt bl (.cells #[.pointer (some ⟨pa,0,none⟩),.int .i64 l.key,.int .i64 l.elem,.int .i64 l.ka,.int .i64 l.ea,.int .i64 l.cap,.int .i64 l.eo,.int .i64 l.bo,.int .i64 l.slot,.int .i64 l.group,.int .i64 ((off:Nat):Int)] 39 (0,0)),aj pa (s.gives [((off:Nat):Int),((go:Nat):Int)])]) (pP O) rfl ?_
  exact en
 exact absurd hc z
structure mC (s s':ArS):Prop where
 limit:s'.limit=s.limit
 bl:∀ p∈s.bl,p∈s'.bl
 m:∀ p∈s.bl,∀ a:Nat,p.1<=a->(a:Int) < p.1+p.2->s'.m a=s.m a
theorem mC.new {s s':ArS} {c:Int} (h:ej s s' c):mC s s':=⟨h.limit,fun p hp=>(h.bl p).2 (.inl hp),h.m⟩
theorem mC.trans {s s1 s2:ArS} (h:mC s s1) (h2:mC s1 s2):mC s s2:=
 ⟨h2.limit.trans h.limit,fun p hp=>h2.bl p (h.bl p hp),fun p hp a q1 q2=>(h2.m p (h.bl p hp) a q1 q2).trans (h.m p hp a q1 q2)⟩
theorem yZ {s s1:ArS} {c:Int} (hs:s.ok) (hs1:s1.ok) (hc:1<=c) (hfit:s.live+64<=s.limit) (h:ej s s1 c) {o g:Nat} (ho:s.at 64=o) (hg:(s.take 64).at c=g):mC s (s1.gives [((o:Nat):Int),((g:Nat):Int)])/\(s1.gives [((o:Nat):Int),((g:Nat):Int)]).live=s.live/\(s1.gives [((o:Nat):Int),((g:Nat):Int)]).ok:=by
 subst ho hg
 have m1:(((s.at 64:Nat):Int),(64:Int))∈s1.bl:=(h.bl _).2 (.inr (.inl rfl))
 have m2:((((s.take 64).at c:Nat):Int),c)∈s1.bl:=(h.bl _).2 (.inr (.inr rfl))
 have ok64:=ArS.take_ok hs ye hfit
 have ap:=de ok64 ((dP hs).2 (.inr rfl)) hc
 dsimp only at ap
 have o1:=nt hs1 m1
 have l1:=ma hs1 m1
 have m3:((((s.take 64).at c:Nat):Int),c)∈(s1.give ((s.at 64:Nat):Int)).bl:=(oX hs1 m1).2 ⟨m2,fun e=>by rw[Prod.mk.injEq] at e;omega⟩
 have o2:=nt o1 m3
 have l2:=ma o1 m3
 have hl:=h.live
 refine⟨⟨(kY _ _).2.trans h.limit,fun p hp=>lJ.2 ⟨(h.bl p).2 (.inl hp),?_⟩,fun p hp a q1 q2=>by rw[(kY _ _).1];exact h.m p hp a q1 q2⟩,by show((s1.give _).give _).live=_;omega,o2⟩
 have hpos:=(ArS.chain_pos hs.chain p (cG.1 hp).1).2
 obtain⟨a1,a2⟩:=sT hs hc hfit (o:=p.1) (k:=p.2) ⟨by omega,p,hp,Int.le_refl _,Int.le_refl _⟩
 simp only[List.mem_cons,List.not_mem_nil,or_false]
 omega
theorem eB {s s':ArS} (h1:s'.all=s.all) (h2:s'.dead=s.dead) (c:Int):s'.at c=s.at c/\(s'.take c).all=(s.take c).all/\(s'.take c).dead=(s.take c).dead:=by
 have hf:s'.frL c=s.frL c:=by unfold ArS.frL;rw[h1,h2]
 have hst:s'.stop=s.stop:=by unfold ArS.stop;rw[h1]
 refine⟨?_,?_,?_⟩
 ·unfold ArS.at;rw[hf,hst]
 ·unfold ArS.take;rw[hf];split <;> simp only[h1,hst]
 unfold ArS.take;rw[hf];split <;> simp only[h2]
structure nG (s s':ArS) (o1 g1 o2 g2 k:Nat):Prop where
 limit:s'.limit=s.limit
 all:s'.all=s.all
 dead:s'.dead=s.dead
 m:∀ a,(a < o1\/o1+64<=a)->(a < g1\/g1+k<=a)->(a < o2\/o2+64<=a)->(a < g2\/g2+k<=a)->s'.m a=s.m a
theorem nG.refl (s:ArS) (o1 g1 o2 g2 k:Nat):nG s s o1 g1 o2 g2 k:=⟨rfl,rfl,rfl,fun _ _ _ _ _=>rfl⟩
theorem nG.left {s s1 s2:ArS} {o1 g1 o2 g2 k:Nat} (h:nG s s1 o1 g1 o2 g2 k) (h2:cb s1 s2 o1 g1 k):nG s s2 o1 g1 o2 g2 k:=⟨h2.limit.trans h.limit,h2.all.trans h.all,h2.dead.trans h.dead,fun a q1 q2 q3 q4=>(h2.m a q1 q2).trans (h.m a q1 q2 q3 q4)⟩
theorem nG.right {s s1 s2:ArS} {o1 g1 o2 g2 k:Nat} (h:nG s s1 o1 g1 o2 g2 k) (h2:cb s1 s2 o2 g2 k):nG s s2 o1 g1 o2 g2 k:=⟨h2.limit.trans h.limit,h2.all.trans h.all,h2.dead.trans h.dead,fun a q1 q2 q3 q4=>(h2.m a q3 q4).trans (h.m a q1 q2 q3 q4)⟩
theorem xh (pa off:Nat) (s:ArS) (l:Lay) (hng:¬ bt s (off:Nat) 8) (hne:s.all≠[]) (hpl:off<=1000000000) (po:Nat) (sd:Int):
  aK Tryz.prog 54 #[.agg #[.pointer (some ⟨pa,0,none⟩),.int .i64 l.key,.int .i64 l.elem,.int .i64 l.ka,.int .i64 l.ea,.int .i64 l.cap,.int .i64 l.eo,.int .i64 l.bo,.int .i64 l.slot,.int .i64 l.group,.int .i64 (off:Nat)],.pointer (some ⟨po,0,none⟩),.int .u64 sd] [aj pa s] (fun v L=>v=.tuple #[.agg #[.pointer none,.int .i64 0,.int .i64 0,.int .i64 0,.int .i64 0,.int .i64 0,.int .i64 0,.int .i64 0,.int .i64 0,.int .i64 0,.int .i64 0],.agg #[.pointer none,.int .i64 0,.int .i64 0,.int .i64 0,.int .i64 0,.int .i64 0,.int .i64 0,.int .i64 0,.int .i64 0,.int .i64 0,.int .i64 0],.int .i64 24]/\L= [aj pa s]):=by
 refine au Hk Tryz.func54 rfl rfl rfl fun Fr w0=>aZ ?_
 refine sr<|bw O O fun b3=>eQ O O O fun b4=>eQ O O O fun b5=>ay O cM fun b6=>ay O cM fun b7=>iu O si O fun b8=>lz<|ad O (aO O bA aM) ?_
 refine bF O O O (fg pa off s l hng hne hpl) ?_
 refine mv O O<|ad O (aa O ga) ?_
 refine ad O (aa O ga) ?_
 refine ay O da fun b9=>bZ O O O cl O O ?_
 refine st O O O fU O ?_
 refine lc<|al<|sr<|ad O (aI O iO) ?_
 refine ad O (qi O O (bf ·))<|lc<|aG O (fun z=>?_) fun z=>?_
 ·refine al<|aY mixed ?_
  apply dq 0 O (yq (aO O bA aM))
  apply dq 1 O (yq (aO O bA aM))
  apply dq 2 O (yq (aI O iO))
  refine ak [0] [2,1] 3 [(6,_),(23,_)] gO ⟨rfl,rfl,trivial⟩ (by kernel_rfl) (by kernel_rfl) fun Ex=>?_
  refine bZ O O O aM O O ?_
  refine ai ?_
  refine aQ ⟨ya O O (yq (aI O iO)),ya O O (yq (aO O bA aM)),trivial⟩ ?_
  refine ak [1] [2] 4 [(7,_),(24,_)] gO ⟨rfl,rfl,trivial⟩ (by kernel_rfl) (by kernel_rfl) fun Ex=>?_
  refine bZ O O O aM O O ?_
  refine ai ?_
  refine aQ ⟨ya O O (yq (aI O iO)),trivial⟩ ?_
  refine ak [2] [] 5 [(8,_),(25,_)] gO ⟨rfl,rfl,trivial⟩ (by kernel_rfl) (by kernel_rfl) fun Ex=>?_
  refine st O O O fU O ?_
  refine ai ?_
  refine aQ trivial ?_
  refine aV (by kernel_rfl) ?_
  refine an<|rt ?_
  apply aR (.inl rfl) ([aj pa s])
  ·apply oG O
   ·apply Rv.agg rfl
    ·exact tk
    exact aJ bA aM O
   ·apply Rv.agg rfl
    ·exact tk
    exact aJ bA aM O
   apply Rv.cellL rfl
   ·exact tk
   ·exact ga
   exact iO
  ·exact⟨rfl,rfl⟩
  exact en
 exact absurd z (by decide)
theorem og (G:HP) (hGT:dR G) (hGO:fR G) (pa off go po bm n e:Nat) (s:ArS) (l:Lay) (T:Tb) (m:List (ByteArray×Value)) (hm:iH m) (sd:Int) (hsd:0<=sd/\sd < 18446744073709551616) (hP:cd s off go l n e T) (hdep:0<=T.depth/\T.depth<=6) (N1 Y1 N2 Y2:Prop) (c1 c2:Int) (hc1:c1≠0) (hc2:c2≠0) (hY1:Y1->T.depth<=5/\((n*gN l:Nat):Int)<=1048576/\s.live+(64+aH ((n*gN l:Nat):Int))<=s.limit) (hY2:Y2->s.live+(64+aH ((n*gN l:Nat):Int))+(64+aH ((n*gN l:Nat):Int))<=s.limit) (o1 g1 o2 g2:Nat) (ho1:s.at 64=o1) (hg1:(s.take 64).at (aH ((n*gN l:Nat):Int))=g1) (ho2:∀ s1,ej s s1 (aH ((n*gN l:Nat):Int))->s1.at 64=o2) (hg2:∀ s1,ej s s1 (aH ((n*gN l:Nat):Int))->(s1.take 64).at (aH ((n*gN l:Nat):Int))=g2)
  (hnew1:aK Tryz.prog 52 #[.pointer (some ⟨pa,0,none⟩),.agg l.cells,.int .i64 (8*(n:Int)),.int .i64 (T.depth+1)] [aj pa s] (fun v L=>(N1/\v=.tuple #[.agg #[.pointer none,.int .i64 0,.int .i64 0,.int .i64 0,.int .i64 0,.int .i64 0,.int .i64 0,.int .i64 0,.int .i64 0,.int .i64 0,.int .i64 0],.int .i64 c1]/\L= [aj pa s])\/(Y1/\∃ s1,v=.tuple #[.agg #[.pointer (some ⟨pa,0,none⟩),.int .i64 l.key,.int .i64 l.elem,.int .i64 l.ka,.int .i64 l.ea,.int .i64 l.cap,.int .i64 l.eo,.int .i64 l.bo,.int .i64 l.slot,.int .i64 l.group,.int .i64 ((o1:Nat):Int)],.int .i64 0]/\L= [aj pa s1]/\cd s1 o1 g1 l n e (cR n (T.depth+1))/\ej s s1 (aH ((n*gN l:Nat):Int))/\fK s1 g1 (n*gN l) (aH ((n*gN l:Nat):Int)))))
  (hnew2:∀ s1,Y1->ej s s1 (aH ((n*gN l:Nat):Int))->s1.ok->aK Tryz.prog 52 #[.pointer (some ⟨pa,0,none⟩),.agg l.cells,.int .i64 (8*(n:Int)),.int .i64 (T.depth+1)] [aj pa s1] (fun v L=>(N2/\v=.tuple #[.agg #[.pointer none,.int .i64 0,.int .i64 0,.int .i64 0,.int .i64 0,.int .i64 0,.int .i64 0,.int .i64 0,.int .i64 0,.int .i64 0,.int .i64 0],.int .i64 c2]/\L= [aj pa s1])\/(Y2/\∃ s2,v=.tuple #[.agg #[.pointer (some ⟨pa,0,none⟩),.int .i64 l.key,.int .i64 l.elem,.int .i64 l.ka,.int .i64 l.ea,.int .i64 l.cap,.int .i64 l.eo,.int .i64 l.bo,.int .i64 l.slot,.int .i64 l.group,.int .i64 ((o2:Nat):Int)],.int .i64 0]/\L= [aj pa s2]/\cd s2 o2 g2 l n e (cR n (T.depth+1))/\ej s1 s2 (aH ((n*gN l:Nat):Int))/\fK s2 g2 (n*gN l) (aH ((n*gN l:Nat):Int))))):
  aK Tryz.prog 54 #[.agg #[.pointer (some ⟨pa,0,none⟩),.int .i64 l.key,.int .i64 l.elem,.int .i64 l.ka,.int .i64 l.ea,.int .i64 l.cap,.int .i64 l.eo,.int .i64 l.bo,.int .i64 l.slot,.int .i64 l.group,.int .i64 (off:Nat)],.pointer (some ⟨po,0,none⟩),.int .u64 sd] [pt po (.cells #[.map (some bm)] 192 (0,0)),bG (fun k:ByteArray=>Value.string k) bm m,G,aj pa s] (fun v L=>(N1/\v=.tuple #[.agg #[.pointer none,.int .i64 0,.int .i64 0,.int .i64 0,.int .i64 0,.int .i64 0,.int .i64 0,.int .i64 0,.int .i64 0,.int .i64 0,.int .i64 0],.agg #[.pointer none,.int .i64 0,.int .i64 0,.int .i64 0,.int .i64 0,.int .i64 0,.int .i64 0,.int .i64 0,.int .i64 0,.int .i64 0,.int .i64 0],.int .i64 c1]/\L= [pt po (.cells #[.map (some bm)] 192 (0,0)),bG (fun k:ByteArray=>Value.string k) bm m,G,aj pa s])\/(N2/\∃ s1,v=.tuple #[.agg #[.pointer none,.int .i64 0,.int .i64 0,.int .i64 0,.int .i64 0,.int .i64 0,.int .i64 0,.int .i64 0,.int .i64 0,.int .i64 0,.int .i64 0],.agg #[.pointer none,.int .i64 0,.int .i64 0,.int .i64 0,.int .i64 0,.int .i64 0,.int .i64 0,.int .i64 0,.int .i64 0,.int .i64 0,.int .i64 0],.int .i64 c2]/\L= [pt po (.cells #[.map (some bm)] 192 (0,0)),bG (fun k:ByteArray=>Value.string k) bm m,G,aj pa (s1.gives [((o1:Nat):Int),((g1:Nat):Int)])]/\ej s s1 (aH ((n*gN l:Nat):Int))/\mC s (s1.gives [((o1:Nat):Int),((g1:Nat):Int)]))\/(Y2/\∃(s1 s2 s':ArS),v=.tuple #[.agg #[.pointer (some ⟨pa,0,none⟩),.int .i64 l.key,.int .i64 l.elem,.int .i64 l.ka,.int .i64 l.ea,.int .i64 l.cap,.int .i64 l.eo,.int .i64 l.bo,.int .i64 l.slot,.int .i64 l.group,.int .i64 ((o1:Nat):Int)],.agg #[.pointer (some ⟨pa,0,none⟩),.int .i64 l.key,.int .i64 l.elem,.int .i64 l.ka,.int .i64 l.ea,.int .i64 l.cap,.int .i64 l.eo,.int .i64 l.bo,.int .i64 l.slot,.int .i64 l.group,.int .i64 ((o2:Nat):Int)],.int .i64 0]/\L= [pt po (.cells #[.map (some bm)] 192 (0,0)),bG (fun k:ByteArray=>Value.string k) bm m,G,aj pa s']/\s1.ok/\s2.ok/\ej s s1 (aH ((n*gN l:Nat):Int))/\cd s1 o1 g1 l n e (cR n (T.depth+1))/\fK s1 g1 (n*gN l) (aH ((n*gN l:Nat):Int))/\ej s1 s2 (aH ((n*gN l:Nat):Int))/\cd s2 o2 g2 l n e (cR n (T.depth+1))/\fK s2 g2 (n*gN l) (aH ((n*gN l:Nat):Int))/\nG s2 s' o1 g1 o2 g2 (n*gN l)/\cd s' o1 g1 l n e (cw n (br m sd) (side (br m sd) T.depth T.cells 0) (T.depth+1) (8*n))/\cd s' o2 g2 l n e (cw n (br m sd) (side (br m sd) T.depth T.cells 1) (T.depth+1) (8*n)))):=by
 have hn8:=hP.n0
 have hLy:=eK hP.hl
 have hkk:=hLy.k
 have hbd:=Lay.bnd hP.hl
 refine au Hk Tryz.func54 rfl rfl rfl fun Fr w0=>aZ ?_
 refine dN (φ:=s.ok) (fun w hw=>cS hw (.there (.there (.there .here)))) fun hok0=>?_
 refine sr<|bw O O fun b3=>eQ O O O fun b4=>eQ O O O fun b5=>ay O cM fun b6=>ay O cM fun b7=>iu O si O fun b8=>lz<|ad O (aO O bA aM) ?_
 refine bF O O O (eS pa off go n e s l T hP) ?_
 refine mv O O<|ad O (aa O ga) ?_
 refine ad O (aa O ga) ?_
 refine ay O da fun b9=>bZ O O O cl O O ?_
 refine st O O O fU O ?_
 refine lc<|al<|sr<|ad O (aI O iO) ?_
 refine ad O (qi O O (bf ·))<|lc<|aG O (fun z=>?_) fun z=>?_
 ·exact absurd rfl z
 refine aq<|an<|al ?_
 apply pB (p:=(fun(y:Nat×ArS×Array Value×Int)=>(N1/\y.2.2.1=#[.pointer none,.int .i64 0,.int .i64 0,.int .i64 0,.int .i64 0,.int .i64 0,.int .i64 0,.int .i64 0,.int .i64 0,.int .i64 0,.int .i64 0]/\c1=y.2.2.2/\s=y.2.1)\/(Y1/\y.2.2.1=#[.pointer (some ⟨pa,0,none⟩),.int .i64 l.key,.int .i64 l.elem,.int .i64 l.ka,.int .i64 l.ea,.int .i64 l.cap,.int .i64 l.eo,.int .i64 l.bo,.int .i64 l.slot,.int .i64 l.group,.int .i64 ((o1:Nat):Int)]/\y.2.2.2=0/\cd y.2.1 o1 g1 l n e (cR n (T.depth+1))/\ej s y.2.1 (aH ((n*gN l:Nat):Int))/\fK y.2.1 g1 (n*gN l) (aH ((n*gN l:Nat):Int))))) (EE:=(fun y=>[(3,.pointer (some ⟨b3,0,none⟩)),(4,.pointer (some ⟨b4,0,none⟩)),(5,.pointer (some ⟨b5,0,none⟩)),(6,.pointer (some ⟨b6,0,none⟩)),(7,.pointer (some ⟨b7,0,none⟩)),(8,.pointer (some ⟨b8,0,none⟩)),(9,.pointer (some ⟨b9,0,none⟩)),(10,.pointer (some ⟨y.1,0,none⟩))])) (LL:=(fun y=>pt y.1 (.cells y.2.2.1 39 (0,0))::aj pa y.2.1::pt b3 (.cells #[.pointer (some ⟨pa,0,none⟩),.int .i64 l.key,.int .i64 l.elem,.int .i64 l.ka,.int .i64 l.ea,.int .i64 l.cap,.int .i64 l.eo,.int .i64 l.bo,.int .i64 l.slot,.int .i64 l.group,.int .i64 (off:Nat)] 39 (0,0))::pt b4 (.cells #[.pointer (some ⟨po,0,none⟩)] 63 (0,0))::pt b5 (.cells #[.int .u64 sd] 27 (0,0))::pt b6 (.cells #[.pointer none,.int .i64 0,.int .i64 0,.int .i64 0,.int .i64 0,.int .i64 0,.int .i64 0,.int .i64 0,.int .i64 0,.int .i64 0,.int .i64 0] 39 (0,0))::pt b7 (.cells #[.pointer none,.int .i64 0,.int .i64 0,.int .i64 0,.int .i64 0,.int .i64 0,.int .i64 0,.int .i64 0,.int .i64 0,.int .i64 0,.int .i64 0] 39 (0,0))::pt b8 (.cells #[.int .i64 y.2.2.2] 77 (0,0))::pt b9 (.cells #[.int .i64 T.used,.int .i64 (8*(n:Int)),.int .i64 T.left,.int .i64 T.depth,.int .i64 T.pins,.int .i64 T.next,.bool (decide (T.kind=4)),.int .i64 (go:Nat)] 147 (0,0))::pt po (.cells #[.map (some bm)] 192 (0,0))::bG (fun k:ByteArray=>Value.string k) bm m::G::Fr))
 refine aY mixed ?_
 apply dq 0 O (yq (aO O bA aM))
 apply dq 2 O (yq (aO O bA aM))
 apply dq 4 O (yq (aE 1 O bP O O aN))
 apply dq 5 O (yq (aI O aX))
 apply dq 6 O (yq (aE 3 O bP O O aN))
 apply dq 7 O (yq (aI O aX))
 apply dq 8 O (yq (bn O O))
 apply dI 1 13
 ·kernel_rfl
 ·refine cA (q1:=[0]) (q2:=[8,7,6,5,4,2]) [(27,_)] gO ⟨O,trivial⟩ (by kernel_rfl) fun Ex=>?_
  refine bF O O O (fJ pa l (off:Nat)) ?_
  refine ai ?_
  refine aQ ⟨ya O O (yq (bn O O)),ya O O (yq (aI O aX)),ya O O (yq (aE 3 O bP O O aN)),ya O O (yq (aI O aX)),ya O O (yq (aE 1 O bP O O aN)),ya O O (yq (aO O bA aM)),trivial⟩ ?_
  apply dI 3 13
  ·kernel_rfl
  ·refine cA (q1:=[2]) (q2:=[8,7,6,5,4]) [(29,_)] gO ⟨O,trivial⟩ (by kernel_rfl) fun Ex=>?_
   refine bF O O O (eE pa l (off:Nat)) ?_
   refine ai ?_
   refine aQ ⟨ya O O (yq (bn O O)),ya O O (yq (aI O aX)),ya O O (yq (aE 3 O bP O O aN)),ya O O (yq (aI O aX)),ya O O (yq (aE 1 O bP O O aN)),trivial⟩ ?_
   apply dI 9 13
   ·kernel_rfl
   ·refine cA (q1:=[5,8,4,7,6]) (q2:=[]) [(28,_),(30,_),(32,_),(35,_)] gO ⟨O,O,O,O,trivial⟩ (by kernel_rfl) fun Ex=>?_
    refine cT O O O (hnew1) ?_
    rintro v L' (⟨hN,rfl,rfl⟩ | ⟨hY,s1,rfl,rfl,hT1,hN1,hZ1⟩)
    refine bx ?_
    ·skip
     refine bx ?_
     refine ai ?_
     refine aQ trivial ?_
     apply dq 10 O (yq (ah O))
     apply dq 11 O (yq (aa O ga))
     apply dq 12 O (yq (aa O ga))
     refine ak [] [12,11,10] 13 [] gO trivial (by kernel_rfl) (by kernel_rfl) fun Ex=>?_
     refine ay O cM fun b10=>ai ?_
     refine aQ ⟨ya O O (yq (aa O ga)),ya O O (yq (aa O ga)),ya O O (yq (ah O)),trivial⟩ ?_
     refine ak [11,10] [12] 14 [(10,_),(37,_)] gO ⟨rfl,rfl,trivial⟩ (by kernel_rfl) (by kernel_rfl) fun Ex=>?_
     refine bZ O O O aM O O ?_
     refine ai ?_
     refine aQ ⟨ya O O (yq (aa O ga)),trivial⟩ ?_
     refine ak [12] [] 15 [(8,_),(38,_)] gO ⟨rfl,rfl,trivial⟩ (by kernel_rfl) (by kernel_rfl) fun Ex=>?_
     refine st O O O fU O ?_
     refine ai ?_
     refine aQ trivial ?_
     refine aV (by kernel_rfl) ?_
     apply cx ((b10,s,#[.pointer none,.int .i64 0,.int .i64 0,.int .i64 0,.int .i64 0,.int .i64 0,.int .i64 0,.int .i64 0,.int .i64 0,.int .i64 0,.int .i64 0],c1))
     ·exact .inl ⟨hN,rfl,rfl,rfl⟩
     ·exact⟨O,O,O,O,O,O,O,O,trivial⟩
     exact en
    refine bx ?_
    refine ai ?_
    refine aQ trivial ?_
    apply dq 10 O (yq (ah O))
    apply dq 11 O (yq (aa O ga))
    apply dq 12 O (yq (aa O ga))
    refine ak [] [12,11,10] 13 [] gO trivial (by kernel_rfl) (by kernel_rfl) fun Ex=>?_
    refine ay O cM fun b10=>ai ?_
    refine aQ ⟨ya O O (yq (aa O ga)),ya O O (yq (aa O ga)),ya O O (yq (ah O)),trivial⟩ ?_
    refine ak [11,10] [12] 14 [(10,_),(37,_)] gO ⟨rfl,rfl,trivial⟩ (by kernel_rfl) (by kernel_rfl) fun Ex=>?_
    refine bZ O O O aM O O ?_
    refine ai ?_
    refine aQ ⟨ya O O (yq (aa O ga)),trivial⟩ ?_
    refine ak [12] [] 15 [(8,_),(38,_)] gO ⟨rfl,rfl,trivial⟩ (by kernel_rfl) (by kernel_rfl) fun Ex=>?_
    refine st O O O fU O ?_
    refine ai ?_
    refine aQ trivial ?_
    refine aV (by kernel_rfl) ?_
    apply cx ((b10,s1,#[.pointer (some ⟨pa,0,none⟩),.int .i64 l.key,.int .i64 l.elem,.int .i64 l.ka,.int .i64 l.ea,.int .i64 l.cap,.int .i64 l.eo,.int .i64 l.bo,.int .i64 l.slot,.int .i64 l.group,.int .i64 ((o1:Nat):Int)],0))
    ·exact .inr ⟨hY,rfl,rfl,hT1,hN1,hZ1⟩
    ·exact⟨O,O,O,O,O,O,O,O,trivial⟩
    exact en
   refine cA (q1:=[]) (q2:=[8,7,6,5,4]) [] gO trivial (by kernel_rfl) fun Ex=>?_
   refine ay O cM fun b10=>ai ?_
   refine aQ ⟨ya O O (yq (bn O O)),ya O O (yq (aI O aX)),ya O O (yq (aE 3 O bP O O aN)),ya O O (yq (aI O aX)),ya O O (yq (aE 1 O bP O O aN)),trivial⟩ ?_
   refine ak [5,8,4,7,6] [] 9 [(28,_),(30,_),(32,_),(35,_)] gO ⟨rfl,rfl,rfl,rfl,trivial⟩ (by kernel_rfl) (by kernel_rfl) fun Ex=>?_
   refine cT O O O (hnew1) ?_
   rintro v L' (⟨hN,rfl,rfl⟩ | ⟨hY,s1,rfl,rfl,hT1,hN1,hZ1⟩)
   refine bx ?_
   ·skip
    refine bx ?_
    refine ai ?_
    refine aQ trivial ?_
    apply dq 10 O (yq (ah O))
    apply dq 11 O (yq (aa O ga))
    apply dq 12 O (yq (aa O ga))
    refine ak [11,10] [12] 14 [(10,_),(37,_)] gO ⟨rfl,rfl,trivial⟩ (by kernel_rfl) (by kernel_rfl) fun Ex=>?_
    refine bZ O O O aM O O ?_
    refine ai ?_
    refine aQ ⟨ya O O (yq (aa O ga)),trivial⟩ ?_
    refine ak [12] [] 15 [(8,_),(38,_)] gO ⟨rfl,rfl,trivial⟩ (by kernel_rfl) (by kernel_rfl) fun Ex=>?_
    refine st O O O fU O ?_
    refine ai ?_
    refine aQ trivial ?_
    refine aV (by kernel_rfl) ?_
    apply cx ((b10,s,#[.pointer none,.int .i64 0,.int .i64 0,.int .i64 0,.int .i64 0,.int .i64 0,.int .i64 0,.int .i64 0,.int .i64 0,.int .i64 0,.int .i64 0],c1))
    ·exact .inl ⟨hN,rfl,rfl,rfl⟩
    ·exact⟨O,O,O,O,O,O,O,O,trivial⟩
    exact en
   refine bx ?_
   refine ai ?_
   refine aQ trivial ?_
   apply dq 10 O (yq (ah O))
   apply dq 11 O (yq (aa O ga))
   apply dq 12 O (yq (aa O ga))
   refine ak [11,10] [12] 14 [(10,_),(37,_)] gO ⟨rfl,rfl,trivial⟩ (by kernel_rfl) (by kernel_rfl) fun Ex=>?_
   refine bZ O O O aM O O ?_
   refine ai ?_
   refine aQ ⟨ya O O (yq (aa O ga)),trivial⟩ ?_
   refine ak [12] [] 15 [(8,_),(38,_)] gO ⟨rfl,rfl,trivial⟩ (by kernel_rfl) (by kernel_rfl) fun Ex=>?_
   refine st O O O fU O ?_
   refine ai ?_
   refine aQ trivial ?_
   refine aV (by kernel_rfl) ?_
   apply cx ((b10,s1,#[.pointer (some ⟨pa,0,none⟩),.int .i64 l.key,.int .i64 l.elem,.int .i64 l.ka,.int .i64 l.ea,.int .i64 l.cap,.int .i64 l.eo,.int .i64 l.bo,.int .i64 l.slot,.int .i64 l.group,.int .i64 ((o1:Nat):Int)],0))
   ·exact .inr ⟨hY,rfl,rfl,hT1,hN1,hZ1⟩
   ·exact⟨O,O,O,O,O,O,O,O,trivial⟩
   exact en
  refine cA (q1:=[]) (q2:=[8,7,6,5,4,2]) [] gO trivial (by kernel_rfl) fun Ex=>?_
  refine ay O cM fun b10=>ai ?_
  refine aQ ⟨ya O O (yq (bn O O)),ya O O (yq (aI O aX)),ya O O (yq (aE 3 O bP O O aN)),ya O O (yq (aI O aX)),ya O O (yq (aE 1 O bP O O aN)),ya O O (yq (aO O bA aM)),trivial⟩ ?_
  refine ak [2] [8,7,6,5,4] 3 [(29,_)] gO ⟨rfl,trivial⟩ (by kernel_rfl) (by kernel_rfl) fun Ex=>?_
  refine bF O O O (eE pa l (off:Nat)) ?_
  refine ai ?_
  refine aQ ⟨ya O O (yq (bn O O)),ya O O (yq (aI O aX)),ya O O (yq (aE 3 O bP O O aN)),ya O O (yq (aI O aX)),ya O O (yq (aE 1 O bP O O aN)),trivial⟩ ?_
  refine ak [5,8,4,7,6] [] 9 [(28,_),(30,_),(32,_),(35,_)] gO ⟨rfl,rfl,rfl,rfl,trivial⟩ (by kernel_rfl) (by kernel_rfl) fun Ex=>?_
  refine cT O O O (hnew1) ?_
  rintro v L' (⟨hN,rfl,rfl⟩ | ⟨hY,s1,rfl,rfl,hT1,hN1,hZ1⟩)
  refine bx ?_
  ·skip
   refine bx ?_
   refine ai ?_
   refine aQ trivial ?_
   apply dq 10 O (yq (ah O))
   apply dq 11 O (yq (aa O ga))
   apply dq 12 O (yq (aa O ga))
   refine ak [11,10] [12] 14 [(10,_),(37,_)] gO ⟨rfl,rfl,trivial⟩ (by kernel_rfl) (by kernel_rfl) fun Ex=>?_
   refine bZ O O O aM O O ?_
   refine ai ?_
   refine aQ ⟨ya O O (yq (aa O ga)),trivial⟩ ?_
   refine ak [12] [] 15 [(8,_),(38,_)] gO ⟨rfl,rfl,trivial⟩ (by kernel_rfl) (by kernel_rfl) fun Ex=>?_
   refine st O O O fU O ?_
   refine ai ?_
   refine aQ trivial ?_
   refine aV (by kernel_rfl) ?_
   apply cx ((b10,s,#[.pointer none,.int .i64 0,.int .i64 0,.int .i64 0,.int .i64 0,.int .i64 0,.int .i64 0,.int .i64 0,.int .i64 0,.int .i64 0,.int .i64 0],c1))
   ·exact .inl ⟨hN,rfl,rfl,rfl⟩
   ·exact⟨O,O,O,O,O,O,O,O,trivial⟩
   exact en
  refine bx ?_
  refine ai ?_
  refine aQ trivial ?_
  apply dq 10 O (yq (ah O))
  apply dq 11 O (yq (aa O ga))
  apply dq 12 O (yq (aa O ga))
  refine ak [11,10] [12] 14 [(10,_),(37,_)] gO ⟨rfl,rfl,trivial⟩ (by kernel_rfl) (by kernel_rfl) fun Ex=>?_
  refine bZ O O O aM O O ?_
  refine ai ?_
  refine aQ ⟨ya O O (yq (aa O ga)),trivial⟩ ?_
  refine ak [12] [] 15 [(8,_),(38,_)] gO ⟨rfl,rfl,trivial⟩ (by kernel_rfl) (by kernel_rfl) fun Ex=>?_
  refine st O O O fU O ?_
  refine ai ?_
  refine aQ trivial ?_
  refine aV (by kernel_rfl) ?_
  apply cx ((b10,s1,#[.pointer (some ⟨pa,0,none⟩),.int .i64 l.key,.int .i64 l.elem,.int .i64 l.ka,.int .i64 l.ea,.int .i64 l.cap,.int .i64 l.eo,.int .i64 l.bo,.int .i64 l.slot,.int .i64 l.group,.int .i64 ((o1:Nat):Int)],0))
  ·exact .inr ⟨hY,rfl,rfl,hT1,hN1,hZ1⟩
  ·exact⟨O,O,O,O,O,O,O,O,trivial⟩
  exact en
 ·refine cA (q1:=[]) (q2:=[8,7,6,5,4,2,0]) [] gO trivial (by kernel_rfl) fun Ex=>?_
  refine ay O cM fun b10=>ai ?_
  refine aQ ⟨ya O O (yq (bn O O)),ya O O (yq (aI O aX)),ya O O (yq (aE 3 O bP O O aN)),ya O O (yq (aI O aX)),ya O O (yq (aE 1 O bP O O aN)),ya O O (yq (aO O bA aM)),ya O O (yq (aO O bA aM)),trivial⟩ ?_
  refine ak [0] [8,7,6,5,4,2] 1 [(27,_)] gO ⟨rfl,trivial⟩ (by kernel_rfl) (by kernel_rfl) fun Ex=>?_
  refine bF O O O (fJ pa l (off:Nat)) ?_
  refine ai ?_
  refine aQ ⟨ya O O (yq (bn O O)),ya O O (yq (aI O aX)),ya O O (yq (aE 3 O bP O O aN)),ya O O (yq (aI O aX)),ya O O (yq (aE 1 O bP O O aN)),ya O O (yq (aO O bA aM)),trivial⟩ ?_
  refine ak [2] [8,7,6,5,4] 3 [(29,_)] gO ⟨rfl,trivial⟩ (by kernel_rfl) (by kernel_rfl) fun Ex=>?_
  refine bF O O O (eE pa l (off:Nat)) ?_
  refine ai ?_
  refine aQ ⟨ya O O (yq (bn O O)),ya O O (yq (aI O aX)),ya O O (yq (aE 3 O bP O O aN)),ya O O (yq (aI O aX)),ya O O (yq (aE 1 O bP O O aN)),trivial⟩ ?_
  refine ak [5,8,4,7,6] [] 9 [(28,_),(30,_),(32,_),(35,_)] gO ⟨rfl,rfl,rfl,rfl,trivial⟩ (by kernel_rfl) (by kernel_rfl) fun Ex=>?_
  refine cT O O O (hnew1) ?_
  rintro v L' (⟨hN,rfl,rfl⟩ | ⟨hY,s1,rfl,rfl,hT1,hN1,hZ1⟩)
  refine bx ?_
  ·skip
   refine bx ?_
   refine ai ?_
   refine aQ trivial ?_
   apply dq 10 O (yq (ah O))
   apply dq 11 O (yq (aa O ga))
   apply dq 12 O (yq (aa O ga))
   refine ak [11,10] [12] 14 [(10,_),(37,_)] gO ⟨rfl,rfl,trivial⟩ (by kernel_rfl) (by kernel_rfl) fun Ex=>?_
   refine bZ O O O aM O O ?_
   refine ai ?_
   refine aQ ⟨ya O O (yq (aa O ga)),trivial⟩ ?_
   refine ak [12] [] 15 [(8,_),(38,_)] gO ⟨rfl,rfl,trivial⟩ (by kernel_rfl) (by kernel_rfl) fun Ex=>?_
   refine st O O O fU O ?_
   refine ai ?_
   refine aQ trivial ?_
   refine aV (by kernel_rfl) ?_
   apply cx ((b10,s,#[.pointer none,.int .i64 0,.int .i64 0,.int .i64 0,.int .i64 0,.int .i64 0,.int .i64 0,.int .i64 0,.int .i64 0,.int .i64 0,.int .i64 0],c1))
   ·exact .inl ⟨hN,rfl,rfl,rfl⟩
   ·exact⟨O,O,O,O,O,O,O,O,trivial⟩
   exact en
  refine bx ?_
  refine ai ?_
  refine aQ trivial ?_
  apply dq 10 O (yq (ah O))
  apply dq 11 O (yq (aa O ga))
  apply dq 12 O (yq (aa O ga))
  refine ak [11,10] [12] 14 [(10,_),(37,_)] gO ⟨rfl,rfl,trivial⟩ (by kernel_rfl) (by kernel_rfl) fun Ex=>?_
  refine bZ O O O aM O O ?_
  refine ai ?_
  refine aQ ⟨ya O O (yq (aa O ga)),trivial⟩ ?_
  refine ak [12] [] 15 [(8,_),(38,_)] gO ⟨rfl,rfl,trivial⟩ (by kernel_rfl) (by kernel_rfl) fun Ex=>?_
  refine st O O O fU O ?_
  refine ai ?_
  refine aQ trivial ?_
  refine aV (by kernel_rfl) ?_
  apply cx ((b10,s1,#[.pointer (some ⟨pa,0,none⟩),.int .i64 l.key,.int .i64 l.elem,.int .i64 l.ka,.int .i64 l.ea,.int .i64 l.cap,.int .i64 l.eo,.int .i64 l.bo,.int .i64 l.slot,.int .i64 l.group,.int .i64 ((o1:Nat):Int)],0))
  ·exact .inr ⟨hY,rfl,rfl,hT1,hN1,hZ1⟩
  ·exact⟨O,O,O,O,O,O,O,O,trivial⟩
  exact en
 rintro⟨b10,s1,cs1,e1⟩ hh
 try dsimp only
 refine oJ ?_
 refine an<|al<|sr<|ad O (aI O iO) ?_
 refine ad O (qi O O (bf ·))<|lc ?_
 dsimp only at hh
 rcases hh with⟨hN,rfl,rfl,rfl⟩ | ⟨hY,rfl,rfl,hT1,hN1,hZ1⟩
 ·skip
  refine aG O (fun z2=>?_) fun z2=>?_
  ·refine al<|aY mixed ?_
   apply dq 0 O (yq (aO O bA aM))
   apply dq 1 O (yq (aO O bA aM))
   apply dq 2 O (yq (aI O iO))
   refine ak [0] [2,1] 3 [(6,_),(41,_)] gO ⟨rfl,rfl,trivial⟩ (by kernel_rfl) (by kernel_rfl) fun Ex=>?_
   refine bZ O O O aM O O ?_
   refine ai ?_
   refine aQ ⟨ya O O (yq (aI O iO)),ya O O (yq (aO O bA aM)),trivial⟩ ?_
   refine ak [1] [2] 4 [(7,_),(42,_)] gO ⟨rfl,rfl,trivial⟩ (by kernel_rfl) (by kernel_rfl) fun Ex=>?_
   refine bZ O O O aM O O ?_
   refine ai ?_
   refine aQ ⟨ya O O (yq (aI O iO)),trivial⟩ ?_
   refine ak [2] [] 5 [(8,_),(43,_)] gO ⟨rfl,rfl,trivial⟩ (by kernel_rfl) (by kernel_rfl) fun Ex=>?_
   refine st O O O fU O ?_
   refine ai ?_
   refine aQ trivial ?_
   refine aV (by kernel_rfl) ?_
   refine an<|rt ?_
   apply aR (.inl rfl) ([pt po (.cells #[.map (some bm)] 192 (0,0)),bG (fun k:ByteArray=>Value.string k) bm m,G,aj pa s])
   ·apply oG O
    ·apply Rv.agg rfl
     ·exact tk
     exact aJ bA aM O
    ·apply Rv.agg rfl
     ·exact tk
     exact aJ bA aM O
    apply Rv.cellL rfl
    ·exact tk
    ·exact ga
    exact iO
   ·exact .inl ⟨hN,rfl,rfl⟩
   exact en
  exact absurd hc1 z2
 obtain⟨hd5,hsm,hfit⟩:=hY1 hY
 have hcb2:=(dE (n:=((n*gN l:Nat):Int)) (by have:=hLy.g_eq;have:=Nat.mul_le_mul_right (gN l) hn8.1;omega)).2.2 hsm
 refine aG O (fun z2=>?_) fun z2=>?_
 ·exact absurd rfl z2
 refine dN (φ:=s1.ok) (fun w hw=>cS (pa:=pa) hw tk) fun hok1=>?_
 have hl1:=hN1.live
 have hli1:=hN1.limit
 have hP1:=cd.newS hP hok0 hN1
 refine aq<|nz<|ad O (ji O O) ?_
 refine Dv O O O O ?_
 refine lc<|al ?_
 apply pB (p:=(fun(y:Nat×ArS×Array Value×Int)=>(N2/\y.2.2.1=#[.pointer none,.int .i64 0,.int .i64 0,.int .i64 0,.int .i64 0,.int .i64 0,.int .i64 0,.int .i64 0,.int .i64 0,.int .i64 0,.int .i64 0]/\c2=y.2.2.2/\s1=y.2.1)\/(Y2/\y.2.2.1=#[.pointer (some ⟨pa,0,none⟩),.int .i64 l.key,.int .i64 l.elem,.int .i64 l.ka,.int .i64 l.ea,.int .i64 l.cap,.int .i64 l.eo,.int .i64 l.bo,.int .i64 l.slot,.int .i64 l.group,.int .i64 ((o2:Nat):Int)]/\y.2.2.2=0/\cd y.2.1 o2 g2 l n e (cR n (T.depth+1))/\ej s1 y.2.1 (aH ((n*gN l:Nat):Int))/\fK y.2.1 g2 (n*gN l) (aH ((n*gN l:Nat):Int))))) (EE:=(fun y=>[(3,.pointer (some ⟨b3,0,none⟩)),(4,.pointer (some ⟨b4,0,none⟩)),(5,.pointer (some ⟨b5,0,none⟩)),(6,.pointer (some ⟨b6,0,none⟩)),(7,.pointer (some ⟨b7,0,none⟩)),(8,.pointer (some ⟨b8,0,none⟩)),(9,.pointer (some ⟨b9,0,none⟩)),(10,.pointer (some ⟨b10,0,none⟩)),(11,.pointer (some ⟨y.1,0,none⟩))])) (LL:=(fun y=>pt y.1 (.cells y.2.2.1 39 (0,0))::aj pa y.2.1::pt b10 (.cells #[.pointer (some ⟨pa,0,none⟩),.int .i64 l.key,.int .i64 l.elem,.int .i64 l.ka,.int .i64 l.ea,.int .i64 l.cap,.int .i64 l.eo,.int .i64 l.bo,.int .i64 l.slot,.int .i64 l.group,.int .i64 ((o1:Nat):Int)] 39 (0,0))::pt b3 (.cells #[.pointer (some ⟨pa,0,none⟩),.int .i64 l.key,.int .i64 l.elem,.int .i64 l.ka,.int .i64 l.ea,.int .i64 l.cap,.int .i64 l.eo,.int .i64 l.bo,.int .i64 l.slot,.int .i64 l.group,.int .i64 (off:Nat)] 39 (0,0))::pt b4 (.cells #[.pointer (some ⟨po,0,none⟩)] 63 (0,0))::pt b5 (.cells #[.int .u64 sd] 27 (0,0))::pt b6 (.cells #[.pointer none,.int .i64 0,.int .i64 0,.int .i64 0,.int .i64 0,.int .i64 0,.int .i64 0,.int .i64 0,.int .i64 0,.int .i64 0,.int .i64 0] 39 (0,0))::pt b7 (.cells #[.pointer none,.int .i64 0,.int .i64 0,.int .i64 0,.int .i64 0,.int .i64 0,.int .i64 0,.int .i64 0,.int .i64 0,.int .i64 0,.int .i64 0] 39 (0,0))::pt b8 (.cells #[.int .i64 y.2.2.2] 77 (0,0))::pt b9 (.cells #[.int .i64 T.used,.int .i64 (8*(n:Int)),.int .i64 T.left,.int .i64 T.depth,.int .i64 T.pins,.int .i64 T.next,.bool (decide (T.kind=4)),.int .i64 (go:Nat)] 147 (0,0))::pt po (.cells #[.map (some bm)] 192 (0,0))::bG (fun k:ByteArray=>Value.string k) bm m::G::Fr))
 refine aY mixed ?_
 apply dq 0 O (yq (aO O bA aM))
 apply dq 2 O (yq (aO O bA aM))
 apply dq 4 O (yq (aE 1 O bP O O aN))
 apply dq 5 O (yq (aI O aX))
 apply dq 6 O (yq (aE 3 O bP O O aN))
 apply dq 7 O (yq (aI O aX))
 apply dq 8 O (yq (bn O O))
 apply dI 1 13
 ·kernel_rfl
 ·refine cA (q1:=[0]) (q2:=[8,7,6,5,4,2]) [(46,_)] gO ⟨O,trivial⟩ (by kernel_rfl) fun Ex=>?_
  refine bF O O O (fJ pa l (off:Nat)) ?_
  refine ai ?_
  refine aQ ⟨ya O O (yq (bn O O)),ya O O (yq (aI O aX)),ya O O (yq (aE 3 O bP O O aN)),ya O O (yq (aI O aX)),ya O O (yq (aE 1 O bP O O aN)),ya O O (yq (aO O bA aM)),trivial⟩ ?_
  apply dI 3 13
  ·kernel_rfl
  ·refine cA (q1:=[2]) (q2:=[8,7,6,5,4]) [(48,_)] gO ⟨O,trivial⟩ (by kernel_rfl) fun Ex=>?_
   refine bF O O O (eE pa l (off:Nat)) ?_
   refine ai ?_
   refine aQ ⟨ya O O (yq (bn O O)),ya O O (yq (aI O aX)),ya O O (yq (aE 3 O bP O O aN)),ya O O (yq (aI O aX)),ya O O (yq (aE 1 O bP O O aN)),trivial⟩ ?_
   apply dI 9 13
   ·kernel_rfl
   ·refine cA (q1:=[5,8,4,7,6]) (q2:=[]) [(47,_),(49,_),(51,_),(54,_)] gO ⟨O,O,O,O,trivial⟩ (by kernel_rfl) fun Ex=>?_
    refine cT O O O (hnew2 s1 hY hN1 hok1) ?_
    rintro v L' (⟨hN',rfl,rfl⟩ | ⟨hY',s2,rfl,rfl,hT2,hN2,hZ2⟩)
    refine bx ?_
    ·skip
     refine bx ?_
     refine ai ?_
     refine aQ trivial ?_
     apply dq 10 O (yq (ah O))
     apply dq 11 O (yq (aa O ga))
     apply dq 12 O (yq (aa O ga))
     refine ak [] [12,11,10] 13 [] gO trivial (by kernel_rfl) (by kernel_rfl) fun Ex=>?_
     refine ay O cM fun b11=>ai ?_
     refine aQ ⟨ya O O (yq (aa O ga)),ya O O (yq (aa O ga)),ya O O (yq (ah O)),trivial⟩ ?_
     refine ak [11,10] [12] 14 [(11,_),(56,_)] gO ⟨rfl,rfl,trivial⟩ (by kernel_rfl) (by kernel_rfl) fun Ex=>?_
     refine bZ O O O aM O O ?_
     refine ai ?_
     refine aQ ⟨ya O O (yq (aa O ga)),trivial⟩ ?_
     refine ak [12] [] 15 [(8,_),(57,_)] gO ⟨rfl,rfl,trivial⟩ (by kernel_rfl) (by kernel_rfl) fun Ex=>?_
     refine st O O O fU O ?_
     refine ai ?_
     refine aQ trivial ?_
     refine aV (by kernel_rfl) ?_
     apply cx ((b11,s1,#[.pointer none,.int .i64 0,.int .i64 0,.int .i64 0,.int .i64 0,.int .i64 0,.int .i64 0,.int .i64 0,.int .i64 0,.int .i64 0,.int .i64 0],c2))
     ·exact .inl ⟨hN',rfl,rfl,rfl⟩
     ·exact⟨O,O,O,O,O,O,O,O,O,trivial⟩
     exact en
    refine bx ?_
    refine ai ?_
    refine aQ trivial ?_
    apply dq 10 O (yq (ah O))
    apply dq 11 O (yq (aa O ga))
    apply dq 12 O (yq (aa O ga))
    refine ak [] [12,11,10] 13 [] gO trivial (by kernel_rfl) (by kernel_rfl) fun Ex=>?_
    refine ay O cM fun b11=>ai ?_
    refine aQ ⟨ya O O (yq (aa O ga)),ya O O (yq (aa O ga)),ya O O (yq (ah O)),trivial⟩ ?_
    refine ak [11,10] [12] 14 [(11,_),(56,_)] gO ⟨rfl,rfl,trivial⟩ (by kernel_rfl) (by kernel_rfl) fun Ex=>?_
    refine bZ O O O aM O O ?_
    refine ai ?_
    refine aQ ⟨ya O O (yq (aa O ga)),trivial⟩ ?_
    refine ak [12] [] 15 [(8,_),(57,_)] gO ⟨rfl,rfl,trivial⟩ (by kernel_rfl) (by kernel_rfl) fun Ex=>?_
    refine st O O O fU O ?_
    refine ai ?_
    refine aQ trivial ?_
    refine aV (by kernel_rfl) ?_
    apply cx ((b11,s2,#[.pointer (some ⟨pa,0,none⟩),.int .i64 l.key,.int .i64 l.elem,.int .i64 l.ka,.int .i64 l.ea,.int .i64 l.cap,.int .i64 l.eo,.int .i64 l.bo,.int .i64 l.slot,.int .i64 l.group,.int .i64 ((o2:Nat):Int)],0))
    ·exact .inr ⟨hY',rfl,rfl,hT2,hN2,hZ2⟩
    ·exact⟨O,O,O,O,O,O,O,O,O,trivial⟩
    exact en
   refine cA (q1:=[]) (q2:=[8,7,6,5,4]) [] gO trivial (by kernel_rfl) fun Ex=>?_
   refine ay O cM fun b11=>ai ?_
   refine aQ ⟨ya O O (yq (bn O O)),ya O O (yq (aI O aX)),ya O O (yq (aE 3 O bP O O aN)),ya O O (yq (aI O aX)),ya O O (yq (aE 1 O bP O O aN)),trivial⟩ ?_
   refine ak [5,8,4,7,6] [] 9 [(47,_),(49,_),(51,_),(54,_)] gO ⟨rfl,rfl,rfl,rfl,trivial⟩ (by kernel_rfl) (by kernel_rfl) fun Ex=>?_
   refine cT O O O (hnew2 s1 hY hN1 hok1) ?_
   rintro v L' (⟨hN',rfl,rfl⟩ | ⟨hY',s2,rfl,rfl,hT2,hN2,hZ2⟩)
   refine bx ?_
   ·skip
    refine bx ?_
    refine ai ?_
    refine aQ trivial ?_
    apply dq 10 O (yq (ah O))
    apply dq 11 O (yq (aa O ga))
    apply dq 12 O (yq (aa O ga))
    refine ak [11,10] [12] 14 [(11,_),(56,_)] gO ⟨rfl,rfl,trivial⟩ (by kernel_rfl) (by kernel_rfl) fun Ex=>?_
    refine bZ O O O aM O O ?_
    refine ai ?_
    refine aQ ⟨ya O O (yq (aa O ga)),trivial⟩ ?_
    refine ak [12] [] 15 [(8,_),(57,_)] gO ⟨rfl,rfl,trivial⟩ (by kernel_rfl) (by kernel_rfl) fun Ex=>?_
    refine st O O O fU O ?_
    refine ai ?_
    refine aQ trivial ?_
    refine aV (by kernel_rfl) ?_
    apply cx ((b11,s1,#[.pointer none,.int .i64 0,.int .i64 0,.int .i64 0,.int .i64 0,.int .i64 0,.int .i64 0,.int .i64 0,.int .i64 0,.int .i64 0,.int .i64 0],c2))
    ·exact .inl ⟨hN',rfl,rfl,rfl⟩
    ·exact⟨O,O,O,O,O,O,O,O,O,trivial⟩
    exact en
   refine bx ?_
   refine ai ?_
   refine aQ trivial ?_
   apply dq 10 O (yq (ah O))
   apply dq 11 O (yq (aa O ga))
   apply dq 12 O (yq (aa O ga))
   refine ak [11,10] [12] 14 [(11,_),(56,_)] gO ⟨rfl,rfl,trivial⟩ (by kernel_rfl) (by kernel_rfl) fun Ex=>?_
   refine bZ O O O aM O O ?_
   refine ai ?_
   refine aQ ⟨ya O O (yq (aa O ga)),trivial⟩ ?_
   refine ak [12] [] 15 [(8,_),(57,_)] gO ⟨rfl,rfl,trivial⟩ (by kernel_rfl) (by kernel_rfl) fun Ex=>?_
   refine st O O O fU O ?_
   refine ai ?_
   refine aQ trivial ?_
   refine aV (by kernel_rfl) ?_
   apply cx ((b11,s2,#[.pointer (some ⟨pa,0,none⟩),.int .i64 l.key,.int .i64 l.elem,.int .i64 l.ka,.int .i64 l.ea,.int .i64 l.cap,.int .i64 l.eo,.int .i64 l.bo,.int .i64 l.slot,.int .i64 l.group,.int .i64 ((o2:Nat):Int)],0))
   ·exact .inr ⟨hY',rfl,rfl,hT2,hN2,hZ2⟩
   ·exact⟨O,O,O,O,O,O,O,O,O,trivial⟩
   exact en
  refine cA (q1:=[]) (q2:=[8,7,6,5,4,2]) [] gO trivial (by kernel_rfl) fun Ex=>?_
  refine ay O cM fun b11=>ai ?_
  refine aQ ⟨ya O O (yq (bn O O)),ya O O (yq (aI O aX)),ya O O (yq (aE 3 O bP O O aN)),ya O O (yq (aI O aX)),ya O O (yq (aE 1 O bP O O aN)),ya O O (yq (aO O bA aM)),trivial⟩ ?_
  refine ak [2] [8,7,6,5,4] 3 [(48,_)] gO ⟨rfl,trivial⟩ (by kernel_rfl) (by kernel_rfl) fun Ex=>?_
  refine bF O O O (eE pa l (off:Nat)) ?_
  refine ai ?_
  refine aQ ⟨ya O O (yq (bn O O)),ya O O (yq (aI O aX)),ya O O (yq (aE 3 O bP O O aN)),ya O O (yq (aI O aX)),ya O O (yq (aE 1 O bP O O aN)),trivial⟩ ?_
  refine ak [5,8,4,7,6] [] 9 [(47,_),(49,_),(51,_),(54,_)] gO ⟨rfl,rfl,rfl,rfl,trivial⟩ (by kernel_rfl) (by kernel_rfl) fun Ex=>?_
  refine cT O O O (hnew2 s1 hY hN1 hok1) ?_
  rintro v L' (⟨hN',rfl,rfl⟩ | ⟨hY',s2,rfl,rfl,hT2,hN2,hZ2⟩)
  refine bx ?_
  ·skip
   refine bx ?_
   refine ai ?_
   refine aQ trivial ?_
   apply dq 10 O (yq (ah O))
   apply dq 11 O (yq (aa O ga))
   apply dq 12 O (yq (aa O ga))
   refine ak [11,10] [12] 14 [(11,_),(56,_)] gO ⟨rfl,rfl,trivial⟩ (by kernel_rfl) (by kernel_rfl) fun Ex=>?_
   refine bZ O O O aM O O ?_
   refine ai ?_
   refine aQ ⟨ya O O (yq (aa O ga)),trivial⟩ ?_
   refine ak [12] [] 15 [(8,_),(57,_)] gO ⟨rfl,rfl,trivial⟩ (by kernel_rfl) (by kernel_rfl) fun Ex=>?_
   refine st O O O fU O ?_
   refine ai ?_
   refine aQ trivial ?_
   refine aV (by kernel_rfl) ?_
   apply cx ((b11,s1,#[.pointer none,.int .i64 0,.int .i64 0,.int .i64 0,.int .i64 0,.int .i64 0,.int .i64 0,.int .i64 0,.int .i64 0,.int .i64 0,.int .i64 0],c2))
   ·exact .inl ⟨hN',rfl,rfl,rfl⟩
   ·exact⟨O,O,O,O,O,O,O,O,O,trivial⟩
   exact en
  refine bx ?_
  refine ai ?_
  refine aQ trivial ?_
  apply dq 10 O (yq (ah O))
  apply dq 11 O (yq (aa O ga))
  apply dq 12 O (yq (aa O ga))
  refine ak [11,10] [12] 14 [(11,_),(56,_)] gO ⟨rfl,rfl,trivial⟩ (by kernel_rfl) (by kernel_rfl) fun Ex=>?_
  refine bZ O O O aM O O ?_
  refine ai ?_
  refine aQ ⟨ya O O (yq (aa O ga)),trivial⟩ ?_
  refine ak [12] [] 15 [(8,_),(57,_)] gO ⟨rfl,rfl,trivial⟩ (by kernel_rfl) (by kernel_rfl) fun Ex=>?_
  refine st O O O fU O ?_
  refine ai ?_
  refine aQ trivial ?_
  refine aV (by kernel_rfl) ?_
  apply cx ((b11,s2,#[.pointer (some ⟨pa,0,none⟩),.int .i64 l.key,.int .i64 l.elem,.int .i64 l.ka,.int .i64 l.ea,.int .i64 l.cap,.int .i64 l.eo,.int .i64 l.bo,.int .i64 l.slot,.int .i64 l.group,.int .i64 ((o2:Nat):Int)],0))
  ·exact .inr ⟨hY',rfl,rfl,hT2,hN2,hZ2⟩
  ·exact⟨O,O,O,O,O,O,O,O,O,trivial⟩
  exact en
 ·refine cA (q1:=[]) (q2:=[8,7,6,5,4,2,0]) [] gO trivial (by kernel_rfl) fun Ex=>?_
  refine ay O cM fun b11=>ai ?_
  refine aQ ⟨ya O O (yq (bn O O)),ya O O (yq (aI O aX)),ya O O (yq (aE 3 O bP O O aN)),ya O O (yq (aI O aX)),ya O O (yq (aE 1 O bP O O aN)),ya O O (yq (aO O bA aM)),ya O O (yq (aO O bA aM)),trivial⟩ ?_
  refine ak [0] [8,7,6,5,4,2] 1 [(46,_)] gO ⟨rfl,trivial⟩ (by kernel_rfl) (by kernel_rfl) fun Ex=>?_
  refine bF O O O (fJ pa l (off:Nat)) ?_
  refine ai ?_
  refine aQ ⟨ya O O (yq (bn O O)),ya O O (yq (aI O aX)),ya O O (yq (aE 3 O bP O O aN)),ya O O (yq (aI O aX)),ya O O (yq (aE 1 O bP O O aN)),ya O O (yq (aO O bA aM)),trivial⟩ ?_
  refine ak [2] [8,7,6,5,4] 3 [(48,_)] gO ⟨rfl,trivial⟩ (by kernel_rfl) (by kernel_rfl) fun Ex=>?_
  refine bF O O O (eE pa l (off:Nat)) ?_
  refine ai ?_
  refine aQ ⟨ya O O (yq (bn O O)),ya O O (yq (aI O aX)),ya O O (yq (aE 3 O bP O O aN)),ya O O (yq (aI O aX)),ya O O (yq (aE 1 O bP O O aN)),trivial⟩ ?_
  refine ak [5,8,4,7,6] [] 9 [(47,_),(49,_),(51,_),(54,_)] gO ⟨rfl,rfl,rfl,rfl,trivial⟩ (by kernel_rfl) (by kernel_rfl) fun Ex=>?_
  refine cT O O O (hnew2 s1 hY hN1 hok1) ?_
  rintro v L' (⟨hN',rfl,rfl⟩ | ⟨hY',s2,rfl,rfl,hT2,hN2,hZ2⟩)
  refine bx ?_
  ·skip
   refine bx ?_
   refine ai ?_
   refine aQ trivial ?_
   apply dq 10 O (yq (ah O))
   apply dq 11 O (yq (aa O ga))
   apply dq 12 O (yq (aa O ga))
   refine ak [11,10] [12] 14 [(11,_),(56,_)] gO ⟨rfl,rfl,trivial⟩ (by kernel_rfl) (by kernel_rfl) fun Ex=>?_
   refine bZ O O O aM O O ?_
   refine ai ?_
   refine aQ ⟨ya O O (yq (aa O ga)),trivial⟩ ?_
   refine ak [12] [] 15 [(8,_),(57,_)] gO ⟨rfl,rfl,trivial⟩ (by kernel_rfl) (by kernel_rfl) fun Ex=>?_
   refine st O O O fU O ?_
   refine ai ?_
   refine aQ trivial ?_
   refine aV (by kernel_rfl) ?_
   apply cx ((b11,s1,#[.pointer none,.int .i64 0,.int .i64 0,.int .i64 0,.int .i64 0,.int .i64 0,.int .i64 0,.int .i64 0,.int .i64 0,.int .i64 0,.int .i64 0],c2))
   ·exact .inl ⟨hN',rfl,rfl,rfl⟩
   ·exact⟨O,O,O,O,O,O,O,O,O,trivial⟩
   exact en
  refine bx ?_
  refine ai ?_
  refine aQ trivial ?_
  apply dq 10 O (yq (ah O))
  apply dq 11 O (yq (aa O ga))
  apply dq 12 O (yq (aa O ga))
  refine ak [11,10] [12] 14 [(11,_),(56,_)] gO ⟨rfl,rfl,trivial⟩ (by kernel_rfl) (by kernel_rfl) fun Ex=>?_
  refine bZ O O O aM O O ?_
  refine ai ?_
  refine aQ ⟨ya O O (yq (aa O ga)),trivial⟩ ?_
  refine ak [12] [] 15 [(8,_),(57,_)] gO ⟨rfl,rfl,trivial⟩ (by kernel_rfl) (by kernel_rfl) fun Ex=>?_
  refine st O O O fU O ?_
  refine ai ?_
  refine aQ trivial ?_
  refine aV (by kernel_rfl) ?_
  apply cx ((b11,s2,#[.pointer (some ⟨pa,0,none⟩),.int .i64 l.key,.int .i64 l.elem,.int .i64 l.ka,.int .i64 l.ea,.int .i64 l.cap,.int .i64 l.eo,.int .i64 l.bo,.int .i64 l.slot,.int .i64 l.group,.int .i64 ((o2:Nat):Int)],0))
  ·exact .inr ⟨hY',rfl,rfl,hT2,hN2,hZ2⟩
  ·exact⟨O,O,O,O,O,O,O,O,O,trivial⟩
  exact en
 rintro⟨b11,s2,cs2,e2⟩ hh
 try dsimp only
 refine oJ ?_
 refine an<|al<|sr<|ad O (aI O iO) ?_
 refine ad O (qi O O (bf ·))<|lc ?_
 dsimp only at hh
 rcases hh with⟨hN',rfl,rfl,rfl⟩ | ⟨hY',rfl,rfl,hT2,hN2,hZ2⟩
 ·skip
  obtain⟨hK,_,_⟩:=yZ hok0 hok1 hcb2.2 (by omega) hN1 ho1 hg1
  refine aG O (fun z3=>?_) fun z3=>?_
  ·refine al<|aY mixed ?_
   apply dq 0 O (yq (aO O bA aM))
   apply dq 1 O (yq (aO O bA aM))
   apply dq 2 O (yq (aI O iO))
   refine ak [0] [2,1] 3 [(6,_),(60,_)] gO ⟨rfl,rfl,trivial⟩ (by kernel_rfl) (by kernel_rfl) fun Ex=>?_
   refine bZ O O O aM O O ?_
   refine ai ?_
   refine aQ ⟨ya O O (yq (aI O iO)),ya O O (yq (aO O bA aM)),trivial⟩ ?_
   refine ak [1] [2] 4 [(7,_),(61,_)] gO ⟨rfl,rfl,trivial⟩ (by kernel_rfl) (by kernel_rfl) fun Ex=>?_
   refine bZ O O O aM O O ?_
   refine ai ?_
   refine aQ ⟨ya O O (yq (aI O iO)),trivial⟩ ?_
   refine ak [2] [] 5 [(8,_),(62,_)] gO ⟨rfl,rfl,trivial⟩ (by kernel_rfl) (by kernel_rfl) fun Ex=>?_
   refine st O O O fU O ?_
   refine ai ?_
   refine aQ trivial ?_
   refine aV (by kernel_rfl) ?_
   refine an<|rt ?_
   apply BW (.inl rfl) [] (hargs:=rfl) (hc:=zK c2 hc2 pa o1 g1 n e s1 l _ hT1 64 _ (by rw[<- ho1];exact(hN1.bl _).2 (.inr (.inl rfl))) (by rw[<- hg1];exact(hN1.bl _).2 (.inr (.inr rfl))) b8 b10)
   case hm=>repeat (first | with_reducible exact gQ.nil | apply gQ.cons | with_reducible exact Take.here | apply Take.there)
   case hp=>exact pk
   rintro _ rfl
   simp only[List.cons_append,List.nil_append]
   refine⟨_,[pt po (.cells #[.map (some bm)] 192 (0,0)),bG (fun k:ByteArray=>Value.string k) bm m,G,aj pa (s1.gives [((o1:Nat):Int),((g1:Nat):Int)])],?_,.inr (.inl ⟨hN',s1,rfl,rfl,hN1,hK⟩),?_⟩
   ·apply oG O
    ·apply Rv.agg rfl
     ·exact tk
     exact aJ bA aM O
    ·apply Rv.agg rfl
     ·exact tk
     exact aJ bA aM O
    apply Rv.cellL rfl
    ·exact tk
    ·exact ga
    exact iO
   exact en
  exact absurd hc2 z3
 have hfit2:=hY2 hY'
 have ho2:=ho2 s1 hN1
 have hg2:=hg2 s1 hN1
 refine aG O (fun z3=>?_) fun z3=>?_
 ·exact absurd rfl z3
 refine dN (φ:=s2.ok) (fun w hw=>cS (pa:=pa) hw tk) fun hok2=>?_
 have hT1':=cd.newS hT1 hok1 hN2
 have hO2:=cd.newS hP1 hok1 hN2
 obtain⟨q1,q2⟩:=sT hok1 hcb2.2 (by omega) hT1.gh
 obtain⟨q3,q4⟩:=sT hok1 hcb2.2 (by omega) hT1.gg
 rw[ho2] at q1 q3
 rw[hg2] at q2 q4
 refine aq<|nz<|ad O (aO O bA aM) ?_
 refine ad O (aO O bA aM) ?_
 apply ad O
 ·apply A7 O Tryz.underlying231 aM Eg
  (apply aP.all;exact ba.here;rfl;simp;exact Dj;apply aP.all;exact ba.there ba.here;rfl;simp;exact Dj;exact aP.nil)
 refine ay O Eg fun b12=>bZ O O O Gz O O ?_
 refine lc<|al<|sr<|ad O (aO O bA aM) ?_
 refine cT O O O (od pa off l) ?_
 rintro v L' ⟨bc,rfl,rfl⟩
 refine bx ?_
 refine lc<|aB ?_
 apply pA (p:=(fun k (x:ArS×Tb×Tb)=>cd x.1 o1 g1 l n e x.2.1/\cd x.1 o2 g2 l n e x.2.2/\fu n x.2.1/\fu n x.2.2/\nG s2 x.1 o1 g1 o2 g2 (n*gN l)/\(∀ i,dX isFull T.cells i=k->x.2.1=cw n (br m sd) (side (br m sd) T.depth T.cells 0) (T.depth+1) i)/\(∀ i,dX isFull T.cells i=k->x.2.2=cw n (br m sd) (side (br m sd) T.depth T.cells 1) (T.depth+1) i))) (J:=(fun _ x=>[pt b4 (.cells #[.pointer (some ⟨po,0,none⟩)] 63 (0,0)),pt b5 (.cells #[.int .u64 sd] 27 (0,0)),pt b6 (.cells #[.pointer none,.int .i64 0,.int .i64 0,.int .i64 0,.int .i64 0,.int .i64 0,.int .i64 0,.int .i64 0,.int .i64 0,.int .i64 0,.int .i64 0] 39 (0,0)),pt b7 (.cells #[.pointer none,.int .i64 0,.int .i64 0,.int .i64 0,.int .i64 0,.int .i64 0,.int .i64 0,.int .i64 0,.int .i64 0,.int .i64 0,.int .i64 0] 39 (0,0)),pt b8 (.cells #[.int .i64 0] 77 (0,0)),pt b9 (.cells #[.int .i64 T.used,.int .i64 (8*(n:Int)),.int .i64 T.left,.int .i64 T.depth,.int .i64 T.pins,.int .i64 T.next,.bool (decide (T.kind=4)),.int .i64 (go:Nat)] 147 (0,0)),pt b10 (.cells #[.pointer (some ⟨pa,0,none⟩),.int .i64 l.key,.int .i64 l.elem,.int .i64 l.ka,.int .i64 l.ea,.int .i64 l.cap,.int .i64 l.eo,.int .i64 l.bo,.int .i64 l.slot,.int .i64 l.group,.int .i64 ((o1:Nat):Int)] 39 (0,0)),pt b11 (.cells #[.pointer (some ⟨pa,0,none⟩),.int .i64 l.key,.int .i64 l.elem,.int .i64 l.ka,.int .i64 l.ea,.int .i64 l.cap,.int .i64 l.eo,.int .i64 l.bo,.int .i64 l.slot,.int .i64 l.group,.int .i64 ((o2:Nat):Int)] 39 (0,0)),pt b12 (.cells #[.pointer (some ⟨pa,0,none⟩),.int .i64 l.key,.int .i64 l.elem,.int .i64 l.ka,.int .i64 l.ea,.int .i64 l.cap,.int .i64 l.eo,.int .i64 l.bo,.int .i64 l.slot,.int .i64 l.group,.int .i64 ((o1:Nat):Int),.pointer (some ⟨pa,0,none⟩),.int .i64 l.key,.int .i64 l.elem,.int .i64 l.ka,.int .i64 l.ea,.int .i64 l.cap,.int .i64 l.eo,.int .i64 l.bo,.int .i64 l.slot,.int .i64 l.group,.int .i64 ((o2:Nat):Int)] 231 (0,0)),pt po (.cells #[.map (some bm)] 192 (0,0)),bG (fun k:ByteArray=>Value.string k) bm m,G,aj pa x.1])) (q:=(fun _ (y:Code×Unit)=>False)) (Jx:=(fun _ _=>[])) (x0:=(s2,cR n (T.depth+1),cR n (T.depth+1))) (hc:=oe pa off go n e bc s2 l T hO2) (hr:=rfl) (hg:=rfl)
 ·exact pk
 ·exact⟨hT1',hT2,fu.new n _,fu.new n _,nG.refl _ _ _ _ _ _,fun i hi=>mL kh i hi,fun i hi=>mL kh i hi⟩
 ·(try dsimp only);(try simp only[Int.natCast_zero,Nat.sub_zero]);exact pk
 ·(try dsimp only);(try simp only[Int.natCast_zero,Nat.sub_zero]);exact pk
 ·rfl
 ·exact mN
 ·rintro l' rc Fr' w1 k x ⟨s3,U1,U2⟩ hrd hpn hx ⟨hA1,hA2,hR1,hR2,hB2,hF1,hF2⟩
  have hkl:=(List.getElem?_eq_some_iff.1 hx).1
  rw[fY] at hkl
  obtain⟨i1,hi8,hfi,hck,rfl⟩:=n8 hx
  dsimp only at hA1 hA2 hR1 hR2 hB2 hF1 hF2 ⊢
  have hok1':=hP.hT.okc i1 hi8
  obtain⟨t1,hct⟩:=kZ hfi
  rw[hct] at hok1'
  obtain⟨_,_,hks,hes,hb0,hb1⟩:=hok1'
  have hhb:=ib hm sd (T.cells i1).keyS
  rcases qG (br m sd (T.cells i1).keyS) T.depth with hb | hb
  ·skip
   have hpr:=wv (T:=U1) (h:=br m sd (T.cells i1).keyS) (key:=(T.cells i1).keyS) hn8.1 (fun g hg=>iS hP.hn hg) (T.cells i1).elemS (T.cells i1).birthI
   have hsf:isFull (side (br m sd) T.depth T.cells 0 i1)=true:=by rw[lV hfi hb];exact hfi
   have hsn:isFull (side (br m sd) T.depth T.cells 1 i1)=false:=by rw[oS (b:=1) (by omega)];rfl
   have hnx:∀ i,dX isFull T.cells i=k+1->(eD n U1 (br m sd (T.cells i1).keyS) (T.cells i1).keyS (T.cells i1).elemS (T.cells i1).birthI).2=cw n (br m sd) (side (br m sd) T.depth T.cells 0) (T.depth+1) i:=fun i he=>by
    rw[<- ku kh hfi hck i he,mf hsf,lV hfi hb,<- hF1 i1 hck]
   have hny:∀ i,dX isFull T.cells i=k+1->U2=cw n (br m sd) (side (br m sd) T.depth T.cells 1) (T.depth+1) i:=fun i he=>by
    rw[<- ku kh hfi hck i he,js hsn,<- hF2 i1 hck]
   refine aZ ?_
   refine aD<|ay O dF fun b14=>bZ O O O bV O O ?_
   refine ai ?_
   apply kV
   ·exact tk
   ·assumption
   refine aB<|sr<|ad O (aI O ij) ?_
   refine ad O (aI O fV) ?_
   refine ad O (aE 2 O cq O O fA)<|ad O (aI O fS) ?_
   refine bF O O O (mj G hGO po bm m hm sd hsd (T.cells i1).keyS (by omega)) ?_
   refine ar O O<|lc<|aY mixed ?_
   apply dq 0 O (yq (ah O))
   apply dq 1 O (yq (aE 3 O bP O O aN))
   apply dq 2 O (yq (aI O aX))
   apply dq 6 O (yq (ah O))
   apply dq 7 O (yq (aE 2 O cq O O fA))
   apply dq 8 O (yq (aI O fS))
   apply dq 9 O (yq (aE 3 O cq O O fA))
   apply dq 10 O (yq (aI O fS))
   apply dq 11 O (yq (aE 4 O cq O O aN))
   apply dq 12 O (yq (aI O aX))
   refine ak [0,2,1] [12,11,10,9,8,7,6] 3 [(75,_),(77,_)] gO ⟨rfl,rfl,trivial⟩ (by kernel_rfl) (by kernel_rfl) fun Ex=>?_
   refine bF O O O (CS _ T.depth hhb ⟨by omega,by omega⟩) ?_
   rw[hb]
   refine ai ?_
   refine aQ ⟨ya O O (yq (aI O aX)),ya O O (yq (aE 4 O cq O O aN)),ya O O (yq (aI O fS)),ya O O (yq (aE 3 O cq O O fA)),ya O O (yq (aI O fS)),ya O O (yq (aE 2 O cq O O fA)),ya O O (yq (ah O)),trivial⟩ ?_
   apply dq 4 O
   ·apply yq
    refine QV.to (v':=.pointer (some ⟨b12,0,none⟩)) (bM O O Tryz.underlying231 aM (by omega)) rfl
   apply dq 5 O (yq (aO O bA aM))
   refine ak [5,6,8,10,12,4,7,9,11] [] 13 [(80,_),(81,_),(83,_),(85,_),(87,_)] gO ⟨rfl,rfl,rfl,rfl,rfl,trivial⟩ (by kernel_rfl) (by kernel_rfl) fun Ex=>?_
   refine cT O O O (oi G hGT pa o1 g1 n e s3 l U1 hA1 _ hhb (T.cells i1).keyS (T.cells i1).elemS hks hes (T.cells i1).birthI ⟨hb0,hb1⟩ (hR1.bnd hn8.2).1 (hR1.bnd hn8.2).2) ?_
   rintro v L' ⟨s4,rfl,rfl,hA3,hSB⟩
   refine bx ?_
   refine ai ?_
   refine aQ trivial ?_
   refine aV (by kernel_rfl) ?_
   refine bz ?_
   apply kS (by assumption) (by assumption) ((s4,(eD n U1 (br m sd (T.cells i1).keyS) (T.cells i1).keyS (T.cells i1).elemS (T.cells i1).birthI).2,U2)) (⟨hA3,cd.same hA2 hSB (by omega) (by omega) (by omega) (by omega),hR1.put hpr,hR2,hB2.left hSB,hnx,hny⟩)
   exact en
  have hpr:=wv (T:=U2) (h:=br m sd (T.cells i1).keyS) (key:=(T.cells i1).keyS) hn8.1 (fun g hg=>iS hP.hn hg) (T.cells i1).elemS (T.cells i1).birthI
  have hsf:isFull (side (br m sd) T.depth T.cells 1 i1)=true:=by rw[lV hfi hb];exact hfi
  have hsn:isFull (side (br m sd) T.depth T.cells 0 i1)=false:=by rw[oS (b:=0) (by omega)];rfl
  have hnx:∀ i,dX isFull T.cells i=k+1->(eD n U2 (br m sd (T.cells i1).keyS) (T.cells i1).keyS (T.cells i1).elemS (T.cells i1).birthI).2=cw n (br m sd) (side (br m sd) T.depth T.cells 1) (T.depth+1) i:=fun i he=>by
   rw[<- ku kh hfi hck i he,mf hsf,lV hfi hb,<- hF2 i1 hck]
  have hny:∀ i,dX isFull T.cells i=k+1->U1=cw n (br m sd) (side (br m sd) T.depth T.cells 0) (T.depth+1) i:=fun i he=>by
   rw[<- ku kh hfi hck i he,js hsn,<- hF1 i1 hck]
  refine aZ ?_
  refine aD<|ay O dF fun b14=>bZ O O O bV O O ?_
  refine ai ?_
  apply kV
  ·exact tk
  ·assumption
  refine aB<|sr<|ad O (aI O ij) ?_
  refine ad O (aI O fV) ?_
  refine ad O (aE 2 O cq O O fA)<|ad O (aI O fS) ?_
  refine bF O O O (mj G hGO po bm m hm sd hsd (T.cells i1).keyS (by omega)) ?_
  refine ar O O<|lc<|aY mixed ?_
  apply dq 0 O (yq (ah O))
  apply dq 1 O (yq (aE 3 O bP O O aN))
  apply dq 2 O (yq (aI O aX))
  apply dq 6 O (yq (ah O))
  apply dq 7 O (yq (aE 2 O cq O O fA))
  apply dq 8 O (yq (aI O fS))
  apply dq 9 O (yq (aE 3 O cq O O fA))
  apply dq 10 O (yq (aI O fS))
  apply dq 11 O (yq (aE 4 O cq O O aN))
  apply dq 12 O (yq (aI O aX))
  refine ak [0,2,1] [12,11,10,9,8,7,6] 3 [(75,_),(77,_)] gO ⟨rfl,rfl,trivial⟩ (by kernel_rfl) (by kernel_rfl) fun Ex=>?_
  refine bF O O O (CS _ T.depth hhb ⟨by omega,by omega⟩) ?_
  rw[hb]
  refine ai ?_
  refine aQ ⟨ya O O (yq (aI O aX)),ya O O (yq (aE 4 O cq O O aN)),ya O O (yq (aI O fS)),ya O O (yq (aE 3 O cq O O fA)),ya O O (yq (aI O fS)),ya O O (yq (aE 2 O cq O O fA)),ya O O (yq (ah O)),trivial⟩ ?_
  apply dq 4 O
  ·apply yq
   refine QV.to (v':=.pointer (some ⟨b12,11,none⟩)) (bM O O Tryz.underlying231 aM (by omega)) rfl
  apply dq 5 O (yq (aO O bA aM))
  refine ak [5,6,8,10,12,4,7,9,11] [] 13 [(80,_),(81,_),(83,_),(85,_),(87,_)] gO ⟨rfl,rfl,rfl,rfl,rfl,trivial⟩ (by kernel_rfl) (by kernel_rfl) fun Ex=>?_
  refine cT O O O (oi G hGT pa o2 g2 n e s3 l U2 hA2 _ hhb (T.cells i1).keyS (T.cells i1).elemS hks hes (T.cells i1).birthI ⟨hb0,hb1⟩ (hR2.bnd hn8.2).1 (hR2.bnd hn8.2).2) ?_
  rintro v L' ⟨s4,rfl,rfl,hA3,hSB⟩
  refine bx ?_
  refine ai ?_
  refine aQ trivial ?_
  refine aV (by kernel_rfl) ?_
  refine bz ?_
  apply kS (by assumption) (by assumption) ((s4,U1,(eD n U2 (br m sd (T.cells i1).keyS) (T.cells i1).keyS (T.cells i1).elemS (T.cells i1).birthI).2)) (⟨cd.same hA1 hSB (by omega) (by omega) (by omega) (by omega),hA3,hR1,hR2.put hpr,hB2.right hSB,hny,hnx⟩)
  exact en
 ·rintro b1' ⟨s3,U1,U2⟩ ⟨hA1,hA2,hR1,hR2,hB2,hF1,hF2⟩
  rw[fY] at hF1 hF2
  dsimp only at hA1 hA2 hR1 hR2 hB2 hF1 hF2 ⊢
  rw[hF1 (8*n) rfl] at hA1
  rw[hF2 (8*n) rfl] at hA2
  refine oJ ?_
  refine bz<|an<|al<|aY mixed ?_
  apply dq 0 O (yq (aO O bA aM))
  apply dq 1 O (yq (aO O bA aM))
  refine ak [0] [1] 2 [(6,_),(89,_)] gO ⟨rfl,rfl,trivial⟩ (by kernel_rfl) (by kernel_rfl) fun Ex=>?_
  refine bZ O O O aM O O ?_
  refine ai ?_
  refine aQ ⟨ya O O (yq (aO O bA aM)),trivial⟩ ?_
  refine ak [1] [] 3 [(7,_),(90,_)] gO ⟨rfl,rfl,trivial⟩ (by kernel_rfl) (by kernel_rfl) fun Ex=>?_
  refine bZ O O O aM O O ?_
  refine ai ?_
  refine aQ trivial ?_
  refine ak [] [] 4 [(8,_)] gO ⟨rfl,trivial⟩ (by kernel_rfl) (by kernel_rfl) fun Ex=>?_
  refine st O O O fU O ?_
  refine ai ?_
  refine aQ trivial ?_
  refine aV (by kernel_rfl) ?_
  refine an<|rt ?_
  apply BW (.inl rfl) [b1'] (hargs:=rfl) (hc:=zL b8 b10 #[.pointer (some ⟨pa,0,none⟩),.int .i64 l.key,.int .i64 l.elem,.int .i64 l.ka,.int .i64 l.ea,.int .i64 l.cap,.int .i64 l.eo,.int .i64 l.bo,.int .i64 l.slot,.int .i64 l.group,.int .i64 ((o1:Nat):Int)])
  case hm=>repeat (first | with_reducible exact gQ.nil | apply gQ.cons | with_reducible exact Take.here | apply Take.there)
  case hp=>exact pk
  rintro _ rfl
  simp only[List.cons_append,List.nil_append]
  refine⟨_,[pt po (.cells #[.map (some bm)] 192 (0,0)),bG (fun k:ByteArray=>Value.string k) bm m,G,aj pa s3],?_,.inr (.inr ⟨hY',s1,s2,s3,rfl,rfl,hok1,hok2,hN1,hT1,hZ1,hN2,hT2,hZ2,hB2,hA1,hA2⟩),?_⟩
  ·apply oG O
   ·apply Rv.agg rfl
    ·exact tk
    exact aJ bA aM O
   ·apply Rv.agg rfl
    ·exact tk
    exact aJ bA aM O
   apply Rv.cellL rfl
   ·exact tk
   ·exact ga
   exact iO
  exact en
 rintro b1' k ⟨jc,y⟩ hk hq
 exact hq.elim
theorem zJ (G:HP) (hGT:dR G) (hGO:fR G) (pa off go po bm n e:Nat) (s:ArS) (l:Lay) (T:Tb) (m:List (ByteArray×Value)) (hm:iH m) (sd:Int) (hsd:0<=sd/\sd < 18446744073709551616) (hP:cd s off go l n e T) (hdep:0<=T.depth/\T.depth<=6) (c1:Int) (hc:c1≠0) (hnew:aK Tryz.prog 52 #[.pointer (some ⟨pa,0,none⟩),.agg l.cells,.int .i64 (8*(n:Int)),.int .i64 (T.depth+1)] [aj pa s] (fun v L=>v=.tuple #[.agg #[.pointer none,.int .i64 0,.int .i64 0,.int .i64 0,.int .i64 0,.int .i64 0,.int .i64 0,.int .i64 0,.int .i64 0,.int .i64 0,.int .i64 0],.int .i64 c1]/\L= [aj pa s])):aK Tryz.prog 54 #[.agg #[.pointer (some ⟨pa,0,none⟩),.int .i64 l.key,.int .i64 l.elem,.int .i64 l.ka,.int .i64 l.ea,.int .i64 l.cap,.int .i64 l.eo,.int .i64 l.bo,.int .i64 l.slot,.int .i64 l.group,.int .i64 (off:Nat)],.pointer (some ⟨po,0,none⟩),.int .u64 sd] [pt po (.cells #[.map (some bm)] 192 (0,0)),bG (fun k:ByteArray=>Value.string k) bm m,G,aj pa s] (fun v L=>v=.tuple #[.agg #[.pointer none,.int .i64 0,.int .i64 0,.int .i64 0,.int .i64 0,.int .i64 0,.int .i64 0,.int .i64 0,.int .i64 0,.int .i64 0,.int .i64 0],.agg #[.pointer none,.int .i64 0,.int .i64 0,.int .i64 0,.int .i64 0,.int .i64 0,.int .i64 0,.int .i64 0,.int .i64 0,.int .i64 0,.int .i64 0],.int .i64 c1]/\L= [pt po (.cells #[.map (some bm)] 192 (0,0)),bG (fun k:ByteArray=>Value.string k) bm m,G,aj pa s]):=by
 by_cases hx:∃ o2 g2,(∀ s1,ej s s1 (aH ((n*gN l:Nat):Int))->s1.at 64=o2)/\(∀ s1,ej s s1 (aH ((n*gN l:Nat):Int))->(s1.take 64).at (aH ((n*gN l:Nat):Int))=g2)
 ·obtain⟨o2,g2,h1,h2⟩:=hx
  exact(og G hGT hGO pa off go po bm n e s l T m hm sd hsd hP hdep True False False False c1 1 hc (by decide) (fun h=>h.elim) (fun h=>h.elim) _ _ o2 g2 rfl rfl h1 h2 (hnew.mono fun v L h=>.inl ⟨trivial,h⟩) (fun s1 h=>h.elim)).mono fun v L h=>by
   rcases h with⟨_,h⟩ | ⟨h,_⟩ | ⟨h,_⟩
   ·exact h
   ·exact h.elim
   exact h.elim
 exact absurd ⟨_,_,fun s1 h=>((eB h.all h.dead 64).1),fun s1 h=>(eB (eB h.all h.dead 64).2.1 (eB h.all h.dead 64).2.2 _).1⟩ hx
theorem zI (G:HP) (hGT:dR G) (hGO:fR G) (pa off go po bm n e:Nat) (s:ArS) (l:Lay) (T:Tb) (m:List (ByteArray×Value)) (hm:iH m) (sd:Int) (hsd:0<=sd/\sd < 18446744073709551616) (hP:cd s off go l n e T) (hdep:0<=T.depth/\T.depth<=6) (hd5:T.depth<=5) (c2:Int) (hc:c2≠0) (hsm:((n*gN l:Nat):Int)<=1048576) (hfit:s.live+(64+aH ((n*gN l:Nat):Int))<=s.limit) (o1 g1:Nat) (ho1:s.at 64=o1) (hg1:(s.take 64).at (aH ((n*gN l:Nat):Int))=g1)
  (hnew:∀ s1,ej s s1 (aH ((n*gN l:Nat):Int))->s1.ok->aK Tryz.prog 52 #[.pointer (some ⟨pa,0,none⟩),.agg l.cells,.int .i64 (8*(n:Int)),.int .i64 (T.depth+1)] [aj pa s1] (fun v L=>v=.tuple #[.agg #[.pointer none,.int .i64 0,.int .i64 0,.int .i64 0,.int .i64 0,.int .i64 0,.int .i64 0,.int .i64 0,.int .i64 0,.int .i64 0,.int .i64 0],.int .i64 c2]/\L= [aj pa s1])):aK Tryz.prog 54 #[.agg #[.pointer (some ⟨pa,0,none⟩),.int .i64 l.key,.int .i64 l.elem,.int .i64 l.ka,.int .i64 l.ea,.int .i64 l.cap,.int .i64 l.eo,.int .i64 l.bo,.int .i64 l.slot,.int .i64 l.group,.int .i64 (off:Nat)],.pointer (some ⟨po,0,none⟩),.int .u64 sd] [pt po (.cells #[.map (some bm)] 192 (0,0)),bG (fun k:ByteArray=>Value.string k) bm m,G,aj pa s] (fun v L=>∃ s1,v=.tuple #[.agg #[.pointer none,.int .i64 0,.int .i64 0,.int .i64 0,.int .i64 0,.int .i64 0,.int .i64 0,.int .i64 0,.int .i64 0,.int .i64 0,.int .i64 0],.agg #[.pointer none,.int .i64 0,.int .i64 0,.int .i64 0,.int .i64 0,.int .i64 0,.int .i64 0,.int .i64 0,.int .i64 0,.int .i64 0,.int .i64 0],.int .i64 c2]/\L= [pt po (.cells #[.map (some bm)] 192 (0,0)),bG (fun k:ByteArray=>Value.string k) bm m,G,aj pa (s1.gives [((o1:Nat):Int),((g1:Nat):Int)])]/\ej s s1 (aH ((n*gN l:Nat):Int))/\mC s (s1.gives [((o1:Nat):Int),((g1:Nat):Int)])):=
 (og G hGT hGO pa off go po bm n e s l T m hm sd hsd hP hdep False True True False 1 c2 (by decide) hc (fun _=>⟨hd5,hsm,hfit⟩) (fun h=>h.elim) o1 g1 _ _ ho1 hg1 (fun s1 h=>((eB h.all h.dead 64).1)) (fun s1 h=>(eB (eB h.all h.dead 64).2.1 (eB h.all h.dead 64).2.2 _).1) ((l5 pa n e s l _ (T.depth+1) hP.hl hP.he hP.hn rfl ⟨by omega,by omega⟩ hsm hfit o1 g1 ho1 hg1).mono fun v L h=>.inr ⟨trivial,h⟩) (fun s1 _ h1 h2=>(hnew s1 h1 h2).mono fun v L h=>.inl ⟨trivial,h⟩)).mono fun v L h=>by
  rcases h with⟨h,_⟩ | ⟨_,h⟩ | ⟨h,_⟩
  ·exact h.elim
  ·exact h
  exact h.elim
theorem sf (G:HP) (hGT:dR G) (hGO:fR G) (pa off go po bm n e:Nat) (s:ArS) (l:Lay) (T:Tb) (m:List (ByteArray×Value)) (hm:iH m) (sd:Int) (hsd:0<=sd/\sd < 18446744073709551616) (hP:cd s off go l n e T) (hdep:0<=T.depth/\T.depth<=6) (hd5:T.depth<=5) (hsm:((n*gN l:Nat):Int)<=1048576) (hfit:s.live+(64+aH ((n*gN l:Nat):Int))+(64+aH ((n*gN l:Nat):Int))<=s.limit) (o1 g1:Nat) (ho1:s.at 64=o1) (hg1:(s.take 64).at (aH ((n*gN l:Nat):Int))=g1) (o2 g2:Nat) (ho2':((s.take 64).take (aH ((n*gN l:Nat):Int))).at 64=o2) (hg2':(((s.take 64).take (aH ((n*gN l:Nat):Int))).take 64).at (aH ((n*gN l:Nat):Int))=g2):aK Tryz.prog 54 #[.agg #[.pointer (some ⟨pa,0,none⟩),.int .i64 l.key,.int .i64 l.elem,.int .i64 l.ka,.int .i64 l.ea,.int .i64 l.cap,.int .i64 l.eo,.int .i64 l.bo,.int .i64 l.slot,.int .i64 l.group,.int .i64 (off:Nat)],.pointer (some ⟨po,0,none⟩),.int .u64 sd] [pt po (.cells #[.map (some bm)] 192 (0,0)),bG (fun k:ByteArray=>Value.string k) bm m,G,aj pa s] (fun v L=>∃(s1 s2 s':ArS),v=.tuple #[.agg #[.pointer (some ⟨pa,0,none⟩),.int .i64 l.key,.int .i64 l.elem,.int .i64 l.ka,.int .i64 l.ea,.int .i64 l.cap,.int .i64 l.eo,.int .i64 l.bo,.int .i64 l.slot,.int .i64 l.group,.int .i64 ((o1:Nat):Int)],.agg #[.pointer (some ⟨pa,0,none⟩),.int .i64 l.key,.int .i64 l.elem,.int .i64 l.ka,.int .i64 l.ea,.int .i64 l.cap,.int .i64 l.eo,.int .i64 l.bo,.int .i64 l.slot,.int .i64 l.group,.int .i64 ((o2:Nat):Int)],.int .i64 0]/\L= [pt po (.cells #[.map (some bm)] 192 (0,0)),bG (fun k:ByteArray=>Value.string k) bm m,G,aj pa s']/\s1.ok/\s2.ok/\ej s s1 (aH ((n*gN l:Nat):Int))/\cd s1 o1 g1 l n e (cR n (T.depth+1))/\fK s1 g1 (n*gN l) (aH ((n*gN l:Nat):Int))/\ej s1 s2 (aH ((n*gN l:Nat):Int))/\cd s2 o2 g2 l n e (cR n (T.depth+1))/\fK s2 g2 (n*gN l) (aH ((n*gN l:Nat):Int))/\nG s2 s' o1 g1 o2 g2 (n*gN l)/\cd s' o1 g1 l n e (cw n (br m sd) (side (br m sd) T.depth T.cells 0) (T.depth+1) (8*n))/\cd s' o2 g2 l n e (cw n (br m sd) (side (br m sd) T.depth T.cells 1) (T.depth+1) (8*n))):=by
 have hcb2:=(dE (n:=((n*gN l:Nat):Int)) (by have:=(eK hP.hl).g_eq;have:=Nat.mul_le_mul_right (gN l) hP.n0.1;omega)).1
 have h1:∀ s1,ej s s1 (aH ((n*gN l:Nat):Int))->s1.at 64=o2:=fun s1 h=>((eB h.all h.dead 64).1).trans ho2'
 have h2:∀ s1,ej s s1 (aH ((n*gN l:Nat):Int))->(s1.take 64).at (aH ((n*gN l:Nat):Int))=g2:=fun s1 h=>(eB (eB h.all h.dead 64).2.1 (eB h.all h.dead 64).2.2 _).1.trans hg2'
 exact(og G hGT hGO pa off go po bm n e s l T m hm sd hsd hP hdep False True False True 1 1 (by decide) (by decide) (fun _=>⟨hd5,hsm,by omega⟩) (fun _=>hfit) o1 g1 o2 g2 ho1 hg1 h1 h2 ((l5 pa n e s l _ (T.depth+1) hP.hl hP.he hP.hn rfl ⟨by omega,by omega⟩ hsm (by omega) o1 g1 ho1 hg1).mono fun v L h=>.inr ⟨trivial,h⟩) (fun s1 _ hn hk=>(l5 pa n e s1 l _ (T.depth+1) hP.hl hP.he hP.hn rfl ⟨by omega,by omega⟩ hsm (by have:=hn.live;have:=hn.limit;omega) o2 g2 (h1 s1 hn) (h2 s1 hn)).mono fun v L h=>.inr ⟨trivial,h⟩)).mono fun v L h=>by
  rcases h with⟨h,_⟩ | ⟨h,_⟩ | ⟨_,h⟩
  ·exact h.elim
  ·exact h.elim
  exact h
end Plays
end Go.Proofs.YthkajgkagnenbaaGreatDoor
