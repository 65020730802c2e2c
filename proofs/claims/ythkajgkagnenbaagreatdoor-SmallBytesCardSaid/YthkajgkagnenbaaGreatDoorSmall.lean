import Derived.Test.YthkajgkagnenbaaGreatDoorTable
set_option linter.unusedVariables false
set_option linter.unusedSimpArgs false
set_option linter.unusedSectionVars false
namespace Go.Proofs.YthkajgkagnenbaaGreatDoor
section
set_option maxRecDepth 100000
namespace Table
open Go.RowKit Go.Proofs Eng Ty Bits Mem Search Arena CtrlB Ctrl Layout GroupB Group Probe TableB TableI
structure eO (s:ArS) (off go:Nat) (l:Lay) (n e:Nat) (T:Tb):Prop where
 hl:l.err=0
 he:e≤13
 hn:n=2 ^ e
 hT:TAt s.m off go l n T
 gh:aN s off 64
 gg:aN s go ((n*gN l:Nat):Int)
 hr:HOk T n go
 dj:off+64≤go∨go+n*gN l≤off
theorem eO.n0 {s:ArS} {off go:Nat} {l:Lay} {n e:Nat} {T:Tb} (h:eO s off go l n e T):0 < n∧n≤8192:=by
 have h1:=h.hn;have h2:=Nat.two_pow_pos e
 have h3:2 ^ e≤2 ^ 13:=Nat.pow_le_pow_right (by decide) h.he
 omega
structure de (s s':ArS) (off go k:Nat):Prop where
 all:s'.all=s.all
 dead:s'.dead=s.dead
 limit:s'.limit=s.limit
 m:∀ a,(a < off∨off+64≤a)→(a < go∨go+k≤a)→s'.m a=s.m a
theorem de.refl (s:ArS) (off go k:Nat):de s s off go k:=⟨rfl,rfl,rfl,fun _ _ _=>rfl⟩
theorem de.bl {s s':ArS} {off go k:Nat} (h:de s s' off go k):s'.bl=s.bl:=by unfold ArS.bl;rw[h.all,h.dead]
theorem de.live {s s':ArS} {off go k:Nat} (h:de s s' off go k):s'.live=s.live:=by unfold ArS.live;rw[h.bl]
theorem de.trans {s s1 s2:ArS} {off go k:Nat} (h:de s s1 off go k) (h2:de s1 s2 off go k):de s s2 off go k:=
 ⟨h2.all.trans h.all,h2.dead.trans h.dead,h2.limit.trans h.limit,fun a h3 h4=>(h2.m a h3 h4).trans (h.m a h3 h4)⟩
theorem eO.grpAt {s:ArS} {off go:Nat} {l:Lay} {n e:Nat} {T:Tb} (h:eO s off go l n e T) {g:Nat} (hg:g < n):
  aN s ((go+g*gN l:Nat):Int) l.group∧GAt s.m (go+g*gN l) l (cD T.cells g)∧(∀ i,i < 8→(cD T.cells g i).ok l)∧g*gN l+gN l≤n*gN l:=by
 have hN:=eL h.hl
 have hin:g*gN l+gN l≤n*gN l:=by have:=Nat.mul_le_mul_right (gN l) (show g+1≤n by omega);rw[Nat.add_mul] at this;omega
 exact⟨by rw[← hN.g];exact aN.sub h.gg (by omega) (by omega) (by omega),h.hT.body g hg,fun i hi=>h.hT.okc _ (by omega),hin⟩
theorem eO.cell {s:ArS} {off go:Nat} {l:Lay} {n e:Nat} {T:Tb} (h:eO s off go l n e T) {g i:Nat} (hg:g < n) (hi:i < 8) {c:Cell} (hc:c.ok l):
  eO (s.put (go+g*gN l) (gN l) (c7 l (bT (cD T.cells g) i c))) off go l n e {T with cells:=bT T.cells (8*g+i) c}∧
   de s (s.put (go+g*gN l) (gN l) (c7 l (bT (cD T.cells g) i c))) off go (n*gN l):=by
 obtain⟨h1,h2,h3,h4⟩:=h.grpAt hg
 refine⟨⟨h.hl,h.he,h.hn,?_,h.gh,h.gg,h.hr,h.dj⟩,⟨rfl,rfl,rfl,fun a _ h6=>by rw[ArS.put_m,bO (by omega)]⟩⟩
 refine TAt.grp h.hT h.dj hg (T':={T with cells:=bT T.cells (8*g+i) c}) (fun j hj=>?_) (fun k _=>?_) (fun j=>?_) (eL h.hl)
 ·unfold bT;split;exact hc;exact h3 j hj
 ·unfold dT;rfl
 show bT T.cells (8*g+i) c j=_
 by_cases q:j / 8=g
 ·rw[if_pos q]
  by_cases q2:j=8*g+i
  ·rw[q2,fv,show(8*g+i) % 8=i by omega,fv]
  rw[gj _ q2,gj _ (by omega)]
  show T.cells j=T.cells (8*g+j % 8)
  congr 1;omega
 rw[if_neg q,gj _ (by omega)]
theorem eO.word {s:ArS} {off go:Nat} {l:Lay} {n e:Nat} {T T':Tb} (h:eO s off go l n e T) {k:Nat} (hk:k < 8) {v:Int} (hb:-9223372036854775808≤v∧v≤9223372036854775807) (hv:dT T' n go k=v) (ho:∀ j,j < 8→j≠k→dT T' n go j=dT T n go j) (hc:T'.cells=T.cells):
  eO (s.put (off+8*k) 8 (bG (IntKind.u64.wrap v))) off go l n e T'∧de s (s.put (off+8*k) 8 (bG (IntKind.u64.wrap v))) off go (n*gN l):=by
 refine⟨⟨h.hl,h.he,h.hn,TAt.set h.hT h.dj hk hv ho hc,h.gh,h.gg,fun j hj=>?_,h.dj⟩,⟨rfl,rfl,rfl,fun a h6 _=>by rw[ArS.put_m,bO (by omega)]⟩⟩
 by_cases q:j=k
 ·rw[q,hv];exact hb
 rw[ho j hj q];exact h.hr j hj
theorem rN {T T':Tb} {n go k:Nat} (h0:k=0∨T'.kind=T.kind) (h1:k=1∨T'.pins=T.pins) (h2:k=2∨T'.next=T.next) (h3:k=3∨T'.used=T.used) (h5:k=5∨T'.left=T.left) (h6:k=6∨T'.depth=T.depth):
  ∀ j,j < 8→j≠k→dT T' n go j=dT T n go j:=by
 intro j hj hne
 have:j=0∨j=1∨j=2∨j=3∨j=4∨j=5∨j=6∨j=7:=by omega
 rcases this with rfl | rfl | rfl | rfl | rfl | rfl | rfl | rfl
 ·exact h0.resolve_left (Ne.symm hne)
 ·exact h1.resolve_left (Ne.symm hne)
 ·exact h2.resolve_left (Ne.symm hne)
 ·exact h3.resolve_left (Ne.symm hne)
 ·rfl
 ·exact h5.resolve_left (Ne.symm hne)
 ·exact h6.resolve_left (Ne.symm hne)
 rfl
def Dy (c:Cell) (e:ByteArray):Cell:=match c with
 | .full t k _ b=>.full t k e b
 | c=>c
def eR (n:Nat) (T:Tb) (h:Int) (key elem:ByteArray) (birth:Int):Int×Tb:=
 if 0≤(br (h / 128) n T.cells (h % 128) key).slot then
  (1,{T with cells:=bT T.cells (br (h / 128) n T.cells (h % 128) key).slot.toNat (Dy (T.cells (br (h / 128) n T.cells (h % 128) key).slot.toNat) elem)})
 else if(br (h / 128) n T.cells (h % 128) key).vac < 0∨((br (h / 128) n T.cells (h % 128) key).emp=true∧T.left=0) then(3,T)
 else(2,{T with used:=T.used+1,left:=if(br (h / 128) n T.cells (h % 128) key).emp then T.left-1 else T.left,cells:=bT T.cells (br (h / 128) n T.cells (h % 128) key).vac.toNat (.full (h % 128) key elem birth)})
theorem ke {home:Int} {n:Nat} (hn:0 < n) {cells:Nat→Cell} {tag:Int} {key:ByteArray} (h:0≤(br home n cells tag key).slot):
  ∃ g i,g < n∧i < 8∧(br home n cells tag key).slot=((8*g+i:Nat):Int)∧∃ e b,cells (8*g+i)=.full tag key e b:=by
 rcases jD home n cells tag key with⟨k,_,_,hh,e⟩ | ⟨k,_,_,_,_,e⟩ | ⟨_,e⟩
 ·rw[e]
  obtain⟨e',b',hc⟩:=hit_cell (g5 hh)
  exact⟨gk home n k,dW home n cells tag key k,oR hn,hh,by simp,e',b',hc⟩
 ·rw[e] at h;simp at h
 rw[e] at h;simp at h
theorem uH {home:Int} {n:Nat} (hn:0 < n) {cells:Nat→Cell} {tag:Int} {key:ByteArray} (h:0≤(br home n cells tag key).vac):
  ∃ g i,g < n∧i < 8∧(br home n cells tag key).vac=((8*g+i:Nat):Int)∧isFull (cells (8*g+i))=false∧(br home n cells tag key).emp=ed (cells (8*g+i)):=by
 have hkey:∀ k,0≤dL home n cells k→∃ g i,g < n∧i < 8∧dL home n cells k=((8*g+i:Nat):Int)∧isFull (cells (8*g+i))=false∧eG home n cells k=ed (cells (8*g+i)):=fun k hk=>by
  obtain⟨j,_,h1,_,h2,h3⟩:=uz (home:=home) (n:=n) (cells:=cells) (k:=k) (by omega)
  refine⟨gk home n j,cM home n cells j,oR hn,h1,by rw[h2];simp,rk.1 (g5 h1),?_⟩
  rw[h3]
  show fY _ _=ed (cD cells (gk home n j) (cM home n cells j))
  unfold fY ed
  cases cD cells (gk home n j) (cM home n cells j) <;> rfl
 rcases jD home n cells tag key with⟨k,_,_,_,e⟩ | ⟨k,_,_,_,_,e⟩ | ⟨_,e⟩
 ·rw[e] at h ⊢;exact hkey k h
 ·rw[e] at h ⊢;exact hkey (k+1) h
 rw[e] at h ⊢;exact hkey n h
theorem uP {off go n e:Nat} {s:ArS} {l:Lay} {T:Tb} (hP:eO s off go l n e T) (h:Int) (key elem:ByteArray) (birth:Int):
  (∃ g i e0 b0,g < n∧i < 8∧(br (h / 128) n T.cells (h % 128) key).slot=((8*g+i:Nat):Int)∧T.cells (8*g+i)=.full (h % 128) key e0 b0∧eR n T h key elem birth=(1,{T with cells:=bT T.cells (8*g+i) (.full (h % 128) key elem b0)}))∨
  ((br (h / 128) n T.cells (h % 128) key).slot < 0∧((br (h / 128) n T.cells (h % 128) key).vac < 0∨((br (h / 128) n T.cells (h % 128) key).emp=true∧T.left=0))∧eR n T h key elem birth=(3,T))∨
  (∃ g i,g < n∧i < 8∧(br (h / 128) n T.cells (h % 128) key).slot < 0∧(br (h / 128) n T.cells (h % 128) key).vac=((8*g+i:Nat):Int)∧isFull (T.cells (8*g+i))=false∧(br (h / 128) n T.cells (h % 128) key).emp=ed (T.cells (8*g+i))∧¬ (ed (T.cells (8*g+i))=true∧T.left=0)∧
   eR n T h key elem birth=(2,{T with used:=T.used+1,left:=if ed (T.cells (8*g+i)) then T.left-1 else T.left,cells:=bT T.cells (8*g+i) (.full (h % 128) key elem birth)})):=by
 have hn:=hP.n0
 by_cases h1:0≤(br (h / 128) n T.cells (h % 128) key).slot
 ·obtain⟨g,i,hg,hi,h2,e0,b0,h3⟩:=ke hn.1 h1
  refine .inl ⟨g,i,e0,b0,hg,hi,h2,h3,?_⟩
  unfold eR
  rw[if_pos h1,h2,Int.toNat_natCast,h3];rfl
 by_cases h4:(br (h / 128) n T.cells (h % 128) key).vac < 0∨((br (h / 128) n T.cells (h % 128) key).emp=true∧T.left=0)
 ·exact .inr (.inl ⟨by omega,h4,by unfold eR;rw[if_neg h1,if_pos h4]⟩)
 obtain⟨g,i,hg,hi,h2,h3,h5⟩:=uH (home:=h / 128) (cells:=T.cells) (tag:=h % 128) (key:=key) hn.1 (by omega)
 refine .inr (.inr ⟨g,i,hg,hi,by omega,h2,h3,h5,fun hq=>h4 (.inr (by rw[h5];exact hq)),?_⟩)
 unfold eR
 rw[if_neg h1,if_neg h4,h2,Int.toNat_natCast,h5]
end Table
end
section
set_option maxRecDepth 100000
namespace Group
open Go.RowKit Go.Proofs Eng Ty Bits Mem Search Arena CtrlB Ctrl Layout GroupB Probe TableB Table
theorem A9 (G:HP) (hGT:dz G) (pa off:Nat) (s:ArS) (l:Lay) (cs:Nat→Cell) (hl:l.err=0) (hg:aN s off l.group) (hG:GAt s.m off l cs) (hok:∀ i,i < 8→(cs i).ok l) (t:Nat) (ht:t < 128) (key:ByteArray) (hk:key.size=kN l):
  aG Tryz.prog 219 #[.agg #[.pointer (some ⟨pa,0,none⟩),.int .i64 l.key,.int .i64 l.elem,.int .i64 l.ka,.int .i64 l.ea,.int .i64 l.cap,.int .i64 l.eo,.int .i64 l.bo,.int .i64 l.slot,.int .i64 l.group,.int .i64 off],.int .i64 t,.string key] [G,ae pa s] (fun v L=>v=.tuple #[.int .i64 (bA (fh cs t key):Nat),.int .i64 0]∧L= [G,ae pa s]):=by
 have hN:=eL hl
 have hn8:=hN.g_eq;have hns:=hN.s_eq
 have h1:=hN.g;have h2:=hN.k;have h3:=hN.e;have h4:=hN.eo;have h5:=hN.bo;have h6:=hN.s
 have h7:=hN.eo1;have h8:=hN.bo1
 have hks:(key.size:Int)=l.key:=by rw[hk];exact hN.k
 have hg8:aN s off 8:=aN.sub hg (by omega) (by omega) (by omega)
 refine aq C2 Tryz.func219 rfl rfl rfl fun Fr w0=>aR ?_
 refine cI (φ:=s.ok) (fun w hw=>bQ hw (.there .here)) fun hok0=>?_
 have hge:=aN.end_le hok0 hg
 have hst0:=hok0.stop_eq
 have hit:∀ i,i < 8→8+i*sN l+(sN l-1) < gN l:=fun i hi=>kS hN hi (r:=sN l-1) (by omega)
 have hpl:∀(i:Nat) (x:Int),i < 8→eJ l i x=8+((i*sN l:Nat):Int)+x:=fun i x hi=>by unfold eJ;rw[if_neg (by omega),Int.natCast_mul,h6]
 refine sr<|aP rfl rfl fun b3=>fL rfl rfl rfl fun b5=>dN rfl yZ3 rfl fun b6=>dN rfl mU rfl fun b7=>lc<|ah<|aS mixed ?_
 apply dq 0 rfl
 ·exact yq (ai rfl)
 apply dq 1 rfl
 ·exact yq (qi rfl rfl (aU ·))
 apply dq 2 rfl
 ·exact yq (ai rfl)
 apply dq 7 rfl
 ·exact yq (qld rfl yA9)
 apply dq 8 rfl
 ·exact yq (qls rfl yU9)
 apply dq 9 rfl
 ·exact yq (qfa 1 rfl bp rfl rfl aX)
 apply dq 10 rfl
 ·exact yq (qfa 0 rfl bK rfl rfl yS3)
 apply dq 11 rfl
 ·exact yq (qld rfl yA3)
 apply dq 12 rfl
 ·exact yq (qi rfl rfl (aI ·))
 apply dq 14 rfl
 ·exact yq (aK rfl df cT)
 refine jW (t:=16) rfl (fun p1=>?_) fun p1=>?_
 ·omega
 apply dq 3 rfl
 ·exact bE rfl rfl (ai rfl)
 apply dq 4 rfl
 ·exact bE rfl rfl (qi rfl rfl (cU ·))
 apply dq 5 rfl
 ·exact yq (aL rfl rfl)
 refine an [5,2,4,1,3,0] [14,12,11,10,9,8,7] 6 [(19,_)] gO ⟨rfl,trivial⟩ (by kernel_rfl) (by kernel_rfl) fun Ex=>?_
 refine lc1 rfl rfl rfl (gS _ _ (by simp;omega)) ?_
 refine aj ?_
 apply n_d
 ·refine⟨?_,?_,?_,?_,?_,?_,?_,trivial⟩
  ·apply ya rfl rfl;exact yq (aK rfl df cT)
  ·apply ya rfl rfl;exact yq (qi rfl rfl (aI ·))
  ·apply ya rfl rfl;exact yq (qld rfl yA3)
  ·apply ya rfl rfl;exact yq (qfa 0 rfl bK rfl rfl yS3)
  ·apply ya rfl rfl;exact yq (qfa 1 rfl bp rfl rfl aX)
  ·apply ya rfl rfl;exact yq (qls rfl yU9)
  apply ya rfl rfl;exact yq (qld rfl yA9)
 refine an [12,8,11,7,10,9] [14] 13 [(26,_)] gO ⟨rfl,trivial⟩ (by kernel_rfl) (by kernel_rfl) fun Ex=>?_
 refine lc1 rfl rfl rfl (gS _ _ (by simp;omega)) ?_
 refine aj ?_
 apply n_d
 ·refine⟨?_,trivial⟩
  apply ya rfl rfl;exact yq (aK rfl df cT)
 refine an [14] [] 15 [(28,_)] gO ⟨rfl,trivial⟩ (by kernel_rfl) (by kernel_rfl) fun Ex=>?_
 refine lc1 rfl rfl rfl (fg pa off s l hl hg) ?_
 refine aj ?_
 apply n_d
 ·exact trivial
 refine an [] [] 16 [(20,_),(27,_),(29,_)] gO ⟨rfl,rfl,rfl,trivial⟩ (by kernel_rfl) (by kernel_rfl) fun Ex=>?_
 refine aW [_,_,_] rfl rfl lx jT mU rfl rfl rfl rfl (fun b30=>?_)
 refine aj ?_
 apply n_d
 ·exact trivial
 refine an [] [] 17 [(30,_)] gO ⟨rfl,trivial⟩ (by kernel_rfl) (by kernel_rfl) fun Ex=>?_
 refine lc1 rfl rfl rfl (la b30 0 0 0) ?_
 refine aj ?_
 apply n_d
 ·exact trivial
 refine an [] [] 18 [(31,_)] gO ⟨rfl,trivial⟩ (by kernel_rfl) (by kernel_rfl) fun Ex=>?_
 refine asg rfl rfl<|aj ?_
 apply n_d
 ·exact trivial
 refine bd (by kernel_rfl) ?_
 refine ak<|ah<|sr<|mv rfl rfl<|l_q rfl (qi rfl rfl (aI ·))<|lc<|aA rfl (fun z=>?_) fun z=>?_
 ·exact absurd rfl z
 refine al<|nz<|l_q rfl (qfa 0 rfl bp rfl rfl dt)<|l_q rfl (qld rfl du) ?_
 refine l_q rfl (qfa 10 rfl bp rfl rfl yS3)<|l_q rfl (qld rfl yA3) ?_
 refine lc1 rfl rfl rfl (gE pa s _ _ off 8 rfl rfl (by unfold wid;omega) hg8) ?_
 rw[fW hG hN hok]
 refine mv rfl rfl<|l_q rfl (aa rfl ga) ?_
 refine l_q rfl (aa rfl ga) ?_
 refine asg rfl rfl<|asg rfl rfl<|lc<|ah<|sr<|mv rfl rfl<|mv rfl rfl<|lc1 rfl rfl rfl (uk _ (kv hok) t ht) ?_
 refine lcf rfl rfl rfl (Bg _) ?_
 rintro v L' ⟨b46,rfl,rfl⟩
 refine bF ?_
 refine lc<|ax ?_
 have hsel:∀ j (hj:j < (bz (sS cs t)).length),(bz (sS cs t))[j] < 8∧sS cs t (bz (sS cs t))[j]=true:=fun j hj=>dn.1 (List.getElem_mem hj)
 apply vR (p:=(fun i (_:Unit)=>∀ j (hj:j < (bz (sS cs t)).length),j < i→(cs (bz (sS cs t))[j]).keyS≠key)) (J:=(fun i _=>[pt b3 (.cells #[.pointer (some ⟨pa,0,none⟩),.int .i64 l.key,.int .i64 l.elem,.int .i64 l.ka,.int .i64 l.ea,.int .i64 l.cap,.int .i64 l.eo,.int .i64 l.bo,.int .i64 l.slot,.int .i64 l.group,.int .i64 (off:Nat)] 182 (0,0)),pt b5 (.cells #[.string key] 9 (0,0)),pt b6 (.cells #[.int .i64 0] 3 (0,0)),pt b7 (.cells #[.int .i64 0] 77 (0,0)),ae pa s])) (q:=(fun i (y:Code×Nat)=>y.1=.ret∧bA (fh cs t key)=y.2)) (Jx:=(fun i y=>[pt b6 (.cells #[.int .i64 (y.2:Nat)] 3 (0,0)),pt b7 (.cells #[.int .i64 0] 77 (0,0)),ae pa s])) (x0:=()) (hc:=Bh G hGT b46 _) (hr:=rfl) (hg:=rfl)
 ·exact pk
 ·(intro j hj;omega)
 ·(try dsimp only);(try simp only[Int.natCast_zero,Nat.sub_zero]);exact pk
 ·rfl
 ·(intro x hx;simp only[hX,List.mem_map] at hx;obtain⟨_,_,rfl⟩:=hx;rfl)
 ·intro ll rc Fr' w1 i x jj hrd hpn hx hj
  obtain⟨hi2,rfl⟩:=ot hx
  obtain⟨ix,hix⟩:∃ ix,ix=(bz fun i=>ctF cs i == t)[i]'hi2:=⟨_,rfl⟩
  rw[← hix]
  have hs8:ix < 8:=by rw[hix];exact(hsel i hi2).1
  have hst:sS cs t ix=true:=by rw[hix];exact(hsel i hi2).2
  have hix2:(bz (sS cs t))[i]'hi2=ix:=hix.symm
  obtain⟨k0,e0,bb,hc⟩:=(mm hok ht hs8).1 hst
  have hi3:=hit _ hs8
  have hkk:dE s.m (off+(8+ix*sN l)) (kN l)=k0:=by
   have hcok:=hok _ hs8
   rw[hc] at hcok
   obtain⟨_,_,hk0,_⟩:=hcok
   rw[← hk0]
   refine rq hok0.bytes fun j hj=>?_
   rw[← tT hN (t:=t) (e:=e0) (b:=bb) hk0 hj,← hc,← hG.slot hN hs8 (by omega)]
   congr 1;omega
  refine aR ?_
  refine aB<|asg rfl rfl<|aj ?_
  apply mA
  ·exact tk
  ·assumption
  refine ax<|ah<|aS mixed ?_
  apply dq 0 rfl
  ·exact yq (qfa 0 rfl bp rfl rfl dt)
  apply dq 1 rfl
  ·exact yq (qld rfl du)
  apply dq 2 rfl
  ·exact yq (qfa 10 rfl bp rfl rfl yS3)
  apply dq 3 rfl
  ·exact yq (qld rfl yA3)
  apply dq 4 rfl
  ·exact yq (qfa 1 rfl bp rfl rfl aX)
  apply dq 5 rfl
  ·exact yq (aK rfl cu aX)
  apply dq 6 rfl
  ·exact yq (ai rfl)
  apply dq 9 rfl
  ·exact yq (qfa 1 rfl bp rfl rfl aX)
  apply dq 10 rfl
  ·exact yq (qfa 0 rfl bK rfl rfl yS3)
  apply dq 11 rfl
  ·exact yq (qld rfl yA3)
  refine an [5,6,4] [11,10,9,3,2,1,0] 7 [(54,_),(55,_)] gO ⟨rfl,rfl,trivial⟩ (by kernel_rfl) (by kernel_rfl) fun Ex=>?_
  refine lc1 rfl rfl rfl (mT l hl _) ?_
  rw[hpl _ _ hs8]
  refine aj ?_
  apply n_d
  ·refine⟨?_,?_,?_,?_,?_,?_,?_,trivial⟩
   ·apply ya rfl rfl;exact yq (qld rfl yA3)
   ·apply ya rfl rfl;exact yq (qfa 0 rfl bK rfl rfl yS3)
   ·apply ya rfl rfl;exact yq (qfa 1 rfl bp rfl rfl aX)
   ·apply ya rfl rfl;exact yq (qld rfl yA3)
   ·apply ya rfl rfl;exact yq (qfa 10 rfl bp rfl rfl yS3)
   ·apply ya rfl rfl;exact yq (qld rfl du)
   apply ya rfl rfl;exact yq (qfa 0 rfl bp rfl rfl dt)
  apply dq 8 rfl
  ·exact yq (ba rfl rfl)
  refine an [1,8,11,0,3,10,2,9] [] 12 [(50,_),(57,_),(60,_)] gO ⟨rfl,rfl,rfl,trivial⟩ (by kernel_rfl) (by kernel_rfl) fun Ex=>?_
  refine lc1 rfl rfl rfl (pB pa s _ l.key (off+(8+ix*sN l)) (kN l) (by omega) (by omega) (aN.sub hg (by omega) (by omega) (by omega))) ?_
  rw[hkk]
  refine aj ?_
  apply n_d
  ·exact trivial
  apply dq 13 rfl
  ·exact yq (ai rfl)
  apply dq 14 rfl
  ·exact yq (aa rfl ga)
  apply dq 15 rfl
  ·exact yq (aa rfl ga)
  refine an [14,13] [15] 16 [(62,_)] gO ⟨rfl,trivial⟩ (by kernel_rfl) (by kernel_rfl) fun Ex=>?_
  refine asg rfl rfl<|aj ?_
  apply n_d
  ·refine⟨?_,trivial⟩
   apply ya rfl rfl;exact yq (aa rfl ga)
  refine an [15] [] 17 [(63,_)] gO ⟨rfl,trivial⟩ (by kernel_rfl) (by kernel_rfl) fun Ex=>?_
  refine asg rfl rfl<|aj ?_
  apply n_d
  ·exact trivial
  refine bd (by kernel_rfl) ?_
  refine nz<|mv rfl rfl<|l_q rfl (qld rfl yA9) ?_
  refine l_q rfl (qs rfl rfl (l8 ·))<|lc<|aA rfl (fun q=>?_) fun q=>?_
  ·refine sr<|mv rfl rfl<|st rfl rfl rfl yS3 rfl ?_
   refine st rfl rfl rfl jT rfl ?_
   refine lc<|rt ?_
   apply lV (.inl ⟨rfl,rfl⟩) (ix) (⟨rfl,by rw[Ab hok ht hi2 hj (by rw[hix2,hc];exact q),hix2]⟩)
   exact en
  refine al<|aV ?_
  apply lU (by assumption) (by assumption) (()) (fun j hj' hji=>by by_cases e1:j=i;(subst e1;exact fun e2=>q ((by rw[← e2,show(bz (sS cs t))[j]=ix from hix2,hc];rfl)));exact hj j hj' (by omega))
  exact en
 ·intro b jj hj
  rw[oq] at hj
  have hnh:=tJ hok ht (key:=key) (fun j hj'=>hj j hj' hj')
  refine nQ ?_
  refine aV<|nz<|st rfl rfl rfl yS3 rfl ?_
  refine st rfl rfl rfl jT rfl ?_
  refine lc<|rt ?_
  rw[hnh]
  apply kG (.inl rfl) [b] ([G,ae pa s])
  ·repeat (first | with_reducible exact eX.nil | apply eX.cons | with_reducible exact Take.here | apply Take.there)
  ·apply bS rfl
   ·apply Rv.cellL rfl
    ·exact tk
    ·exact ga
    exact yA3
   apply Rv.cellL rfl
   ·exact tk
   ·exact ga
   exact pH
  ·exact⟨rfl,rfl⟩
  exact en
 rintro b k ⟨jc,yy⟩ hk2 ⟨rfl,hy⟩
 refine aR ?_
 refine rt ?_
 rw[hy]
 apply kG (.inl rfl) [b] ([G,ae pa s])
 ·repeat (first | with_reducible exact eX.nil | apply eX.cons | with_reducible exact Take.here | apply Take.there)
 ·apply bS rfl
  ·apply Rv.cellL rfl
   ·exact tk
   ·exact ga
   exact yA3
  apply Rv.cellL rfl
  ·exact tk
  ·exact ga
  exact pH
 ·exact⟨rfl,rfl⟩
 exact en
end Group
end
section
set_option maxRecDepth 100000
namespace Small
open Go.RowKit Go.Proofs Eng Ty Bits Mem Search Arena CtrlB Ctrl Layout GroupB Group TableB Table
structure Sm where
 kind:Int
 pins:Int
 next:Int
 used:Int
 cells:Nat→Cell
def smV (S:Sm):Nat→Int
 | 0=>S.kind
 | 1=>S.pins
 | 2=>S.next
 | 3=>S.used
 | _=>0
structure SmP (s:ArS) (off:Nat) (l:Lay) (S:Sm):Prop where
 hl:l.err=0
 gh:aN s off (32+l.group)
 head:∀ k,k < 4→cZ s.m (off+8*k) 8=IntKind.u64.wrap (smV S k)
 hr:∀ k,k < 4→-9223372036854775808≤smV S k∧smV S k≤9223372036854775807
 body:GAt s.m (off+32) l S.cells
 okc:∀ i,i < 8→(S.cells i).ok l
def sl4 (S:Sm) (k:Nat):List Value:=(List.range 4).map fun j=>if j < k then .int .i64 (smV S j) else .int .i64 0
theorem BN (S:Sm) (k:Nat) (hk:k < 4):(sl4 S k).set k (.int .i64 (smV S k))=sl4 S (k+1):=by
 apply List.ext_getElem?
 intro i
 rw[List.getElem?_set]
 simp only[sl4,List.length_map,List.length_range,List.getElem?_map]
 by_cases h:i < 4
 ·rw[List.getElem?_range h]
  by_cases q:k=i
  ·subst q;simp[h]
  rw[if_neg q]
  simp only[Option.map_some,Option.some.injEq]
  by_cases q2:i < k
  ·rw[if_pos q2,if_pos (by omega)]
  rw[if_neg q2,if_neg (by omega)]
 rw[List.getElem?_eq_none (by simpa using h)]
 simp;intro e;omega
theorem BO (S:Sm) (k:Nat):(sl4 S k).length=4:=by simp[sl4]
section
variable (pa off:Nat) (s:ArS) (l:Lay) (S:Sm) (hP:SmP s off l S)
include hP
theorem fm:aG Tryz.prog 121 #[.agg #[.pointer (some ⟨pa,0,none⟩),.int .i64 l.key,.int .i64 l.elem,.int .i64 l.ka,.int .i64 l.ea,.int .i64 l.cap,.int .i64 l.eo,.int .i64 l.bo,.int .i64 l.slot,.int .i64 l.group,.int .i64 (off:Nat)]] [ae pa s] (fun v L=>v=.tuple #[.agg #[.int .i64 S.used,.int .i64 S.pins,.int .i64 S.next,.bool (decide (S.kind=3))],.int .i64 0]∧L= [ae pa s]):=by
 have hbd:=Lay.bnd hP.hl
 have hh:=hP.head
 have hr:=hP.hr
 have hg:=hP.gh
 refine aq Da Tryz.func121 rfl rfl rfl fun Fr w0=>aR ?_
 refine cI (φ:=s.ok) (fun w hw=>bQ hw .here) fun hok0=>?_
 have hge:=aN.end_le hok0 hg
 have hst0:=hok0.stop_eq
 refine sr<|aP rfl rfl fun b1=>az rfl cE fun b2=>asg rfl rfl<|lz<|az rfl CJ fun b4=>lc<|ah<|sr<|mv rfl rfl<|lc<|ax ?_
 refine bw (fun k:Nat=>k≤4) (fun k=>[(1,.pointer (some ⟨b1,0,none⟩)),(2,.pointer (some ⟨b2,0,none⟩)),(4,.pointer (some ⟨b4,0,none⟩)),(8,.int .i64 k)]) (fun k=>pt b4 (.cells (sl4 S k).toArray 258 (0,0))::pt b1 (.cells #[.pointer (some ⟨pa,0,none⟩),.int .i64 l.key,.int .i64 l.elem,.int .i64 l.ka,.int .i64 l.ea,.int .i64 l.cap,.int .i64 l.eo,.int .i64 l.bo,.int .i64 l.slot,.int .i64 l.group,.int .i64 (off:Nat)] 70 (0,0))::pt b2 (.cells #[.int .i64 0,.int .i64 0,.int .i64 0,.bool false] 211 (0,0))::ae pa s::Fr) (fun k=>4-k) 0 (by omega) ⟨rfl,rfl,rfl,rfl,trivial⟩ (by rw[show sl4 S 0= [.int .i64 0,.int .i64 0,.int .i64 0,.int .i64 0] from rfl];(exact en)) ?_
 intro k hk8
 refine sr<|l_q rfl (qi rfl rfl (aU ·))<|lc<|ah<|aA rfl (fun h=>?_) fun h=>?_
 ·have hk:k < 4:=by omega
  refine al<|ak<|ah<|ax<|sr<|mv rfl rfl<|asg rfl rfl<|lz<|l_q rfl (qfa 0 rfl gP rfl rfl dt)<|l_q rfl (qld rfl du) ?_
  refine l_q rfl (qfa 10 rfl gP rfl rfl yS3)<|l_q rfl (qld rfl yA3) ?_
  refine mv rfl rfl<|l_q rfl (dF rfl rfl) ?_
  refine l_q rfl (ba rfl rfl) ?_
  refine lc1 rfl rfl rfl (gE pa s _ 8 (off+8*k) 8 (by omega) rfl (by unfold wid;omega) (aN.sub (off':=(off:Int)+8*(k:Int)) hg (by omega) (by omega) (by omega))) ?_
  refine mv rfl rfl<|l_q rfl (aa rfl ga) ?_
  refine l_q rfl (aa rfl ga) ?_
  refine asg rfl rfl<|asg rfl rfl<|lc<|ah<|sr<|mv rfl rfl<|l_q rfl (qi rfl rfl (aI ·))<|lc<|aA rfl (fun z=>?_) fun z=>?_
  ·exact absurd rfl z
  refine al<|ak<|aB<|mv rfl rfl<|mv rfl rfl<|l_q rfl (qcv rfl fF yU3) ?_
  refine l_q rfl (bk rfl rfl sA yS3 (by omega)) ?_
  apply iI rfl rfl rfl yS3 rfl
  ·exact tk
  ·rw[Nat.zero_add,Int.toNat_natCast,Nat.mul_one];exact Nat.ble_eq_true_of_le (by simp[BO];omega)
  ·rw[Nat.zero_add,Int.toNat_natCast,Nat.mul_one,hh k hk,pX (hr k hk),List.setIfInBounds_toArray,BN S k hk]
  refine aj<|aV<|ak<|aB<|l_q rfl (ba rfl rfl) ?_
  refine mv rfl rfl<|aj ?_
  apply aO ((k+1))
  ·exact(show k+1≤4 by omega)
  ·omega
  ·exact⟨rfl,rfl,rfl,rfl,trivial⟩
  exact en
 obtain rfl:k=4:=by omega
 refine fw (L':=pt b4 (.cells #[.int .i64 S.kind,.int .i64 S.pins,.int .i64 S.next,.int .i64 S.used] 258 (0,0))::pt b2 (.cells #[.int .i64 0,.int .i64 0,.int .i64 0,.bool false] 211 (0,0))::ae pa s::Fr) ?_ ?_
 ·rw[show sl4 S 4= [.int .i64 S.kind,.int .i64 S.pins,.int .i64 S.next,.int .i64 S.used] from rfl]
  (exact en)
 refine xt rfl<|nz<|l_q rfl (bk rfl rfl sA yS3 (by omega)) ?_
 refine l_q rfl (qld rfl yA3) ?_
 refine l_q rfl (bk rfl rfl sA yS3 (by omega)) ?_
 refine l_q rfl (qld rfl yA3) ?_
 refine l_q rfl (bk rfl rfl sA yS3 (by omega)) ?_
 refine l_q rfl (qld rfl yA3) ?_
 refine l_q rfl (bk rfl rfl sA yS3 (by omega)) ?_
 refine l_q rfl (qld rfl yA3) ?_
 refine l_q rfl (qi rfl rfl (aZ ·)) ?_
 apply l_q rfl
 ·apply aQ rfl vL cE
  apply aF.one
  ·repeat (first | exact aH.here | apply aH.there)
  ·rfl
  ·exact sa
  apply aF.one
  ·repeat (first | exact aH.here | apply aH.there)
  ·rfl
  ·exact sa
  apply aF.one
  ·repeat (first | exact aH.here | apply aH.there)
  ·rfl
  ·exact sa
  apply aF.one
  ·repeat (first | exact aH.here | apply aH.there)
  ·rfl
  ·exact sa
  exact aF.nil
 refine sta rfl rfl rfl bP rfl rfl ?_
 refine asg rfl rfl<|lc<|rt ?_
 apply aJ (.inl rfl) ([ae pa s])
 ·apply bS rfl
  ·apply Rv.agg rfl
   ·exact tk
   exact aD fR bP rfl
  exact .tmp rfl
 ·exact⟨rfl,rfl⟩
 exact en
omit hP in
theorem kR (hg:aN s off (32+l.group)) (hgr:0≤l.group) (k:Nat) (at_:Int) (v:Int) (hat:at_=((8*k:Nat):Int)) (hk:k < 4):
  aG Tryz.prog 171 #[.agg #[.pointer (some ⟨pa,0,none⟩),.int .i64 l.key,.int .i64 l.elem,.int .i64 l.ka,.int .i64 l.ea,.int .i64 l.cap,.int .i64 l.eo,.int .i64 l.bo,.int .i64 l.slot,.int .i64 l.group,.int .i64 (off:Nat)],.int .i64 at_,.int .i64 v] [ae pa s] (fun r L=>L= [ae pa (s.put (off+8*k) 8 (bG (IntKind.u64.wrap v)))]):=by
 subst hat
 refine aq F9 Tryz.func171 rfl rfl rfl fun Fr w0=>aR ?_
 refine cI (φ:=s.ok) (fun w hw=>bQ hw .here) fun hok0=>?_
 have hge:=aN.end_le hok0 hg
 have hst0:=hok0.stop_eq
 have hw:∀ x,0≤IntKind.u64.wrap x∧IntKind.u64.wrap x < 18446744073709551616:=fun x=>by rw[IntKind.wrap_u64];omega
 have hc:∀ w,(convert 3 27 (.int .i64 v)).run Tryz.prog w=.ok (.int .u64 (IntKind.u64.wrap v)) w:=fun w=>Aw w Tryz.underlying3 Tryz.underlying27
 refine sr<|aP rfl rfl fun b3=>lr<|l_q rfl (qfa 0 rfl gP rfl rfl dt)<|l_q rfl (qld rfl du) ?_
 refine l_q rfl (qfa 10 rfl gP rfl rfl yS3)<|l_q rfl (qld rfl yA3) ?_
 refine mv rfl rfl<|l_q rfl (ba rfl rfl) ?_
 refine mv rfl rfl<|l_q rfl (uO rfl hc) ?_
 refine lcf rfl rfl rfl (lh pa s _ 8 (off+8*k) 8 (IntKind.u64.wrap v) (by omega) rfl (hw v) (by unfold wid;omega) (aN.sub (off':=(off:Int)+((8*k:Nat):Int)) hg (by omega) (by omega) (by omega))) ?_
 rintro v' L' ⟨rfl,rfl⟩
 refine bF ?_
 refine aj ?_
 apply aJ (.inr rfl) ([ae pa (s.put (off+8*k) 8 (bG (IntKind.u64.wrap v)))])
 ·exact pM rfl
 ·exact rfl
 exact en
theorem eP (hok0:s.ok):aG Tryz.prog 170 #[.agg #[.pointer (some ⟨pa,0,none⟩),.int .i64 l.key,.int .i64 l.elem,.int .i64 l.ka,.int .i64 l.ea,.int .i64 l.cap,.int .i64 l.eo,.int .i64 l.bo,.int .i64 l.slot,.int .i64 l.group,.int .i64 (off:Nat)]] [] (fun v L=>v=.agg #[.pointer (some ⟨pa,0,none⟩),.int .i64 l.key,.int .i64 l.elem,.int .i64 l.ka,.int .i64 l.ea,.int .i64 l.cap,.int .i64 l.eo,.int .i64 l.bo,.int .i64 l.slot,.int .i64 l.group,.int .i64 ((off+32:Nat):Int)]∧L= []):=by
 have hbd:=Lay.bnd hP.hl
 have hge:=aN.end_le hok0 hP.gh
 have hst0:=hok0.stop_eq
 refine aq C4 Tryz.func170 rfl rfl rfl fun Fr w0=>aR ?_
 refine sr<|aP rfl rfl fun b1=>az rfl pR fun b2=>lz<|l_q rfl (qfa 0 rfl gP rfl rfl dt)<|l_q rfl (qld rfl du) ?_
 refine l_q rfl (qfa 1 rfl gP rfl rfl aX)<|l_q rfl (aK rfl cu aX) ?_
 refine l_q rfl (qfa 10 rfl gP rfl rfl yS3)<|l_q rfl (qld rfl yA3) ?_
 refine l_q rfl (ba rfl rfl) ?_
 rw[show((off:Nat):Int)+32=((off+32:Nat):Int) by omega]
 refine lc1 rfl rfl rfl (At_ok pa _ l) ?_
 refine sta rfl rfl rfl cT rfl rfl ?_
 refine lc<|rt ?_
 apply aJ (.inl rfl) ([])
 ·apply cO rfl
  apply Rv.agg rfl
  ·exact tk
  exact aD df cT rfl
 ·exact⟨rfl,rfl⟩
 exact en
end
end Small
end
end Go.Proofs.YthkajgkagnenbaaGreatDoor
