import Derived.Test.YthkajgkagnenbaaGreatDoorTableC
set_option linter.unusedVariables false
set_option linter.unusedSimpArgs false
set_option linter.unusedSectionVars false
set_option maxRecDepth 100000
namespace Go.Proofs.YthkajgkagnenbaaGreatDoor
section
namespace Group
open Go.RowKit Go.Proofs Eng Ty Mem Arena CtrlB Ctrl Layout GroupB TableB Table
def lN (f:jT):jT:=fun i=>if f i=254 then 128 else f i
theorem xI (f:jT) (k:Nat):wd f*k=wd fun i=>f i*k:=by unfold wd;rw[sQ];rfl
theorem Dh (s:Nat->Bool):fL s / 128=((wd fun i=>if s i then 1 else 0:Nat):Int):=by
 have h:wd (oF s)=(wd fun i=>if s i then 1 else 0)*128:=by
  rw[xI]
  exact gE fun i _=>by unfold oF;cases s i <;> rfl
 unfold fL
 rw[h]
 omega
theorem uF {f:jT} (hf:okB f):okB (lN f):=fun i hi=>by unfold lN;split;decide;exact hf i hi
theorem wX {f:jT} (hf:okB f):bits .xor .u64 (wI f) (IntKind.u64.wrap (fL (fun i=>f i == 254) / 128*126))=wI (lN f):=by
 have o1:okB fun i=>(if(f i == 254)=true then 1 else 0)*126:=fun i _=>by dsimp only;split <;> decide
 rw[Dh,show((wd fun i=>if(f i == 254)=true then 1 else 0:Nat):Int)*126=(((wd fun i=>if(f i == 254)=true then 1 else 0)*126:Nat):Int) by simp,xI,CtrlB.wrap_small (iK o1)]
 rw[Aq hf o1]
 congr 1
 refine gE fun i hi=>?_
 unfold lN
 by_cases q:f i=254
 ·rw[if_pos q,q];rfl
 rw[if_neg q,show(f i == 254)=false by simpa using q];simp
theorem CQ (f:jT) (hf:okB f):aK Tryz.prog 236 #[.int .u64 (wI f)] [] (fun v L=>v=.int .u64 (wI (lN f))/\L= []):=by
 have hc:=wX hf
 refine au Hy Tryz.func236 rfl rfl rfl fun Fr w0=>aZ ?_
 refine sr<|ar O O<|lz<|mv O O<|ad O (fh O O O)<|bF O O O (mQ _ _ (oO hf (c:=254) (by decide))) ?_
 refine ad O (nP 0 O mR O fV O ga) ?_
 apply ad O
 ·apply qi O O;first | exact fun w=>fp (m:=128) w (by decide) (by decide) (by omega) | exact fun w=>gA w (by decide)
 refine ar O O<|lz<|mv O O<|mv O O<|ad O (dA O O) ?_
 refine ad O (fh O O O)<|ar O O<|lc<|rt<|cN O ([]) (.tmp rfl) ?_
 exact⟨by rw[show(2:Int) ^ min (Int.toNat 7) IntKind.u64.bits=128 from rfl,Int.fdiv_eq_ediv_of_nonneg _ (by decide),hc],rfl⟩
def jl (cs:Nat->Cell):Nat->Cell:=fun i=>if TableI.isDel (cs i)=true then .empty else cs i
theorem rB {l:Lay} {cs:Nat->Cell} (h:∀ i,i < 8->(cs i).ok l):∀ i,i < 8->(jl cs i).ok l:=fun i hi=>by unfold jl;split;trivial;exact h i hi
theorem B7 {l:Lay} {cs:Nat->Cell} (h:∀ i,i < 8->(cs i).ok l) {i:Nat} (hi:i < 8):lN (ny cs) i=ny (jl cs) i:=by
 have:=h i hi
 unfold lN ny jl
 cases hc:cs i with
 | empty=>simp[TableI.isDel,Cell.ctrl]
 | deleted=>simp[TableI.isDel,Cell.ctrl]
 | full t k e b=>
  rw[hc] at this
  have h1:(Cell.full t k e b).ctrl=t:=rfl
  have h2:=this.1
  have h3:=this.2.1
  rw[if_neg (by rw[h1];omega)]
  simp[TableI.isDel]
theorem yT {off:Nat} {s:ArS} {l:Lay} {cs:Nat->Cell} (hl:l.err=0) (hG:qO s.m off l cs) (hok:∀ i,i < 8->(cs i).ok l):s.put off 8 (ct (wI (lN (ny cs))))=s.put off (gN l) (dZ l (jl cs)):=by
 have hN:=eK hl
 have hg:=hN.g_eq
 unfold ArS.put
 congr 1
 funext a
 by_cases h1:off<=a/\a < off+8
 ·rw[gL h1.1 h1.2,gL h1.1 (by omega),oY (uF (ld hok)) (by omega),kv _ (by omega),B7 hok (by omega),ig (rB hok) (by omega)]
 rw[cC (by omega)]
 by_cases h2:off<=a/\a < off+gN l
 ·rw[gL h2.1 h2.2]
  have:=hG (a-off) (by omega)
  rw[show off+(a-off)=a by omega] at this
  rw[this]
  unfold dZ
  rw[if_neg (by omega),if_neg (by omega)]
  unfold jl
  split
  ·next q=>cases hc:cs ((a-off-8) / sN l) <;> rw[hc] at q <;> first | rfl | cases q
  rfl
 rw[cC (by omega)]
theorem qv {α:Type} {p q r:α->Bool} (h:∀ x,p x=(q x || r x)) (hd:∀ x,q x=true->r x=false):∀ L:List α,(L.filter p).length=(L.filter q).length+(L.filter r).length
 | []=>rfl
 | x::L=>by
  have ih:=qv h hd L
  rw[List.filter_cons,List.filter_cons,List.filter_cons,h x]
  cases e1:q x with
  | true=>rw[hd x e1];simp;omega
  | false=>cases e2:r x <;> simp <;> omega
def oK (cs:Nat->Cell):Nat:=(bE fun i=>TableI.isDel (cs i)).length
theorem C2 (cs:Nat->Cell):(bE (iD cs)).length=(bE (eh cs)).length+oK cs:=qv (fun i=>by show iD cs i=(eh cs i || TableI.isDel (cs i));unfold iD eh;cases cs i <;> rfl) (fun i hi=>by show TableI.isDel (cs i)=false;unfold eh at hi;cases hc:cs i <;> rw[hc] at hi <;> first | rfl | cases hi) _
theorem Prune_ok (pa off:Nat) (s:ArS) (l:Lay) (cs:Nat->Cell) (hl:l.err=0) (hg:bt s off l.group) (hG:qO s.m off l cs) (hok:∀ i,i < 8->(cs i).ok l):
  aK Tryz.prog 206 #[.agg #[.pointer (some ⟨pa,0,none⟩),.int .i64 l.key,.int .i64 l.elem,.int .i64 l.ka,.int .i64 l.ea,.int .i64 l.cap,.int .i64 l.eo,.int .i64 l.bo,.int .i64 l.slot,.int .i64 l.group,.int .i64 (off:Nat)]] [aj pa s] (fun v L=>v=.tuple #[.int .i64 (oK cs:Nat),.int .i64 0]/\L= [aj pa (s.put off (gN l) (dZ l (jl cs)))]):=by
 have hN:=eK hl
 have hn8:=hN.g_eq
 have hng:=hN.g
 have hg8:bt s off 8:=bt.sub hg (by omega) (by omega) (by omega)
 have hv:=C2 cs
 have hv8:(bE (iD cs)).length<=8:=by unfold bE;exact Nat.le_trans (List.length_filter_le _ _) (by simp)
 have hf:=ld hok
 refine au HX Tryz.func206 rfl rfl rfl fun Fr w0=>aZ ?_
 refine sr<|bw O O fun b1=>ar O O<|ar O O<|lc<|al<|sr<|ad O (aO O eG dO) ?_
 refine bF O O O (jb pa off s l hl hg) ?_
 refine ar O O<|lz<|mv O O<|ad O (qi O O (bf ·))<|lc<|aG O (fun z=>?_) fun z=>?_
 ·exact absurd rfl z
 refine aq<|nz<|ad O (aE 0 O bJ O O eu)<|ad O (aI O ew) ?_
 refine ad O (aE 10 O bJ O O aN)<|ad O (aI O aX) ?_
 refine bF O O O (jz pa s _ _ off 8 rfl rfl (by unfold wid;omega) hg8) ?_
 rw[hJ hG hN hok]
 refine mv O O<|ad O (aa O ga) ?_
 refine ad O (aa O ga) ?_
 refine ar O O<|ar O O<|lz<|mv O O<|bF O O O (sh hok) ?_
 refine bF O O O (nF (iD cs)) ?_
 refine mv O O<|bF O O O (ie hok) ?_
 refine bF O O O (nF (eh cs)) ?_
 refine ad O (eJ O O) ?_
 refine ar O O<|lc<|al<|aY mixed ?_
 apply dq 0 O (yq (ah O))
 apply dq 1 O (yq (aE 0 O bJ O O eu))
 apply dq 2 O (yq (aI O ew))
 apply dq 3 O (yq (aE 10 O bJ O O aN))
 apply dq 4 O (yq (aI O aX))
 apply dq 5 O (yq (ah O))
 refine ak [5] [4,3,2,1,0] 6 [(33,_)] gO ⟨rfl,trivial⟩ (by kernel_rfl) (by kernel_rfl) fun Ex=>?_
 refine bF O O O (CQ (ny cs) hf) ?_
 refine ai ?_
 refine aQ ⟨ya O O (yq (aI O aX)),ya O O (yq (aE 10 O bJ O O aN)),ya O O (yq (aI O ew)),ya O O (yq (aE 0 O bJ O O eu)),ya O O (yq (ah O)),trivial⟩ ?_
 refine ak [2,4,1,3] [0] 7 [(30,_),(32,_),(34,_)] gO ⟨rfl,rfl,rfl,trivial⟩ (by kernel_rfl) (by kernel_rfl) fun Ex=>?_
 refine bF O O O (mi pa s _ _ off 8 _ rfl rfl (vS (uF hf)) (by unfold wid;omega) hg8) ?_
 rw[yT hl hG hok]
 refine ai ?_
 refine aQ ⟨ya O O (yq (ah O)),trivial⟩ ?_
 refine ak [0] [] 8 [(28,_)] gO ⟨rfl,trivial⟩ (by kernel_rfl) (by kernel_rfl) fun Ex=>?_
 refine ar O O<|ai ?_
 refine aQ trivial ?_
 refine ak [] [] 9 [(35,_)] gO ⟨rfl,trivial⟩ (by kernel_rfl) (by kernel_rfl) fun Ex=>?_
 refine ar O O<|ai ?_
 refine aQ trivial ?_
 refine aV (by kernel_rfl) ?_
 refine an<|rt<|ft O ([aj pa (s.put off (gN l) (dZ l (jl cs)))]) (.tmp rfl) (.tmp rfl) ?_
 exact⟨by rw[show(((bE (iD cs)).length:Nat):Int)-(((bE (eh cs)).length:Nat):Int)=((oK cs:Nat):Int) by omega],rfl⟩
end Group
end
section
namespace Table
open Go.RowKit Go.Proofs Eng Ty Arena CtrlB Ctrl Layout GroupB TableB TableI
theorem cd.grp {s:ArS} {off go:Nat} {l:Lay} {n e:Nat} {T:Tb} (h:cd s off go l n e T) {g:Nat} (hg:g < n) {cs:Nat->Cell} (hc:∀ i,i < 8->(cs i).ok l):
  cd (s.put (go+g*gN l) (gN l) (dZ l cs)) off go l n e {T with cells:=fun j=>if j / 8=g then cs (j % 8) else T.cells j}/\cb s (s.put (go+g*gN l) (gN l) (dZ l cs)) off go (n*gN l):=by
 obtain⟨h1,h2,h3,h4⟩:=h.grpAt hg
 refine⟨⟨h.hl,h.he,h.hn,?_,h.gh,h.gg,h.hr,h.dj⟩,⟨rfl,rfl,rfl,fun a _ h6=>by rw[ArS.put_m,cC (by omega)]⟩⟩
 exact Cq.grp h.hT h.dj hg (T':={T with cells:=fun j=>if j / 8=g then cs (j % 8) else T.cells j}) hc (fun k _=>by unfold fa;rfl) (fun j=>rfl) (eK h.hl)
theorem qB (p:Cell->Bool) (cells:Nat->Cell) (a:Nat):∀ d,dX p cells (a+d)=dX p cells a+((List.range d).filter fun r=>p (cells (a+r))).length
 | 0=>by simp
 | d+1=>by
  rw[<- Nat.add_assoc,cI,qB p cells a d,List.range_succ,List.filter_append,List.length_append,List.filter_cons]
  split <;> simp[*] <;> omega
theorem zr (cells:Nat->Cell) (i:Nat):dX dz cells (8*(i+1))=dX dz cells (8*i)+(bE (eh (ck cells i))).length:=by
 rw[show 8*(i+1)=8*i+8 by omega,qB]
 congr 2
theorem rZ (cells:Nat->Cell):∀ N,dX isFull cells N+dX isDel cells N+dX dz cells N=N
 | 0=>rfl
 | N+1=>by
  have ih:=rZ cells N
  rw[cI,cI,cI]
  cases cells N <;> simp[isFull,isDel,dz] <;> omega
section
variable (G:HP) (hG:dR G) (pa off go n e:Nat) (s:ArS) (l:Lay) (T:Tb) (hP:cd s off go l n e T)
include hP
theorem zH (k:Nat) (hk:k < n):aK Tryz.prog 96 #[.agg #[.pointer (some ⟨pa,0,none⟩),.int .i64 l.key,.int .i64 l.elem,.int .i64 l.ka,.int .i64 l.ea,.int .i64 l.cap,.int .i64 l.eo,.int .i64 l.bo,.int .i64 l.slot,.int .i64 l.group,.int .i64 (off:Nat)],.int .i64 (k:Nat)] [aj pa s] (fun v L=>v=.tuple #[.agg #[.pointer (some ⟨pa,0,none⟩),.int .i64 l.key,.int .i64 l.elem,.int .i64 l.ka,.int .i64 l.ea,.int .i64 l.cap,.int .i64 l.eo,.int .i64 l.bo,.int .i64 l.slot,.int .i64 l.group,.int .i64 ((go+k*gN l:Nat):Int)],.int .i64 0]/\L= [aj pa s]):=by
 have hn8:=hP.n0
 obtain⟨h1,_,_,_⟩:=hP.grpAt hk
 refine au JO Tryz.func96 rfl rfl rfl fun Fr w0=>aZ ?_
 refine dN (φ:=s.ok) (fun w hw=>cS hw .here) fun hok0=>?_
 have hge:=bt.end_le hok0 h1
 have hst0:=hok0.stop_eq
 have hbd:=Lay.bnd hP.hl
 refine sr<|bw O O fun b2=>ay O o6 fun b4=>ar O O<|lz<|ad O (aO O bA aM) ?_
 refine bF O O O (eS pa off go n e s l T hP) ?_
 refine mv O O<|ad O (aa O ga) ?_
 refine ad O (aa O ga) ?_
 refine ay O da fun b6=>bZ O O O cl O O ?_
 refine ar O O<|lc<|al<|sr<|mv O O<|ad O (qi O O (bf ·))<|lc<|aG O (fun z=>?_) fun z=>?_
 ·exact absurd rfl z
 refine aq<|an<|al<|sr<|mv O O<|ad O (qi O O (bj ·))<|mv O O<|bQ (t:=19) rfl (fun z1=>?_) fun z1=>?_
 ·omega
 refine aA O O<|mv O O<|aA O O<|ad O (aE 1 O bP O O aN)<|aA O O<|ad O (aI O aX) ?_
 refine aA O O<|ad O (eT O O) ?_
 refine aA O O<|ad O (qi O O (iC ·))<|ad O (aS O O)<|lc<|aG O (fun z2=>?_) fun z2=>?_
 ·omega
 refine aq<|nz<|ad O (aO O bA aM) ?_
 refine ad O (aO O eY cl) ?_
 refine mv O O<|bF O O O (nq pa off go k n l hP.hl T _ rfl (by omega)) ?_
 refine bZ O O O dO O O ?_
 refine ar O O<|lc<|rt ?_
 apply aR (.inl rfl) ([aj pa s])
 ·apply cF O
  ·apply Rv.agg rfl
   ·exact tk
   exact aJ eG dO O
  exact .tmp rfl
 ·exact⟨rfl,rfl⟩
 exact en
end
end Table
end
section
namespace Table
open Go.RowKit Go.Proofs Eng Ty Mem Arena CtrlB Ctrl Layout GroupB Group Probe TableB TableI
section
variable (G:HP) (hG:dR G) (pa off go n e:Nat) (s:ArS) (l:Lay) (T:Tb) (hP:cd s off go l n e T)
include hP
section
variable (h:Int) (key:ByteArray) (hk:(key.size:Int)≠l.key)
include hk
theorem pG:aK Tryz.prog 135 #[.agg #[.pointer (some ⟨pa,0,none⟩),.int .i64 l.key,.int .i64 l.elem,.int .i64 l.ka,.int .i64 l.ea,.int .i64 l.cap,.int .i64 l.eo,.int .i64 l.bo,.int .i64 l.slot,.int .i64 l.group,.int .i64 (off:Nat)],.int .u64 h,.string key] [aj pa s] (fun v L=>v=.tuple #[.agg #[.int .i64 T.used,.int .i64 (8*(n:Int)),.int .i64 T.left,.int .i64 T.depth,.int .i64 T.pins,.int .i64 T.next,.bool (decide (T.kind=4)),.int .i64 (go:Nat)],.agg #[.int .i64 0,.int .i64 0,.bool false,.int .i64 0],.int .i64 61]/\L= [aj pa s]):=by
 refine au B3 Tryz.func135 rfl rfl rfl fun Fr w0=>aZ ?_
 refine sr<|bw O O fun b3=>eQ O O O fun b4=>eQ O O O fun b5=>ay O da fun b6=>ay O ja fun b7=>iu O si O fun b8=>lc<|sA<|sr<|ad O (aO O bA aM) ?_
 refine bF O O O (eS pa off go n e s l T hP) ?_
 refine mv O O<|ad O (aa O ga) ?_
 refine ad O (aa O ga) ?_
 refine ay O da fun b9=>bZ O O O cl O O ?_
 refine ar O O<|lc<|al<|sr<|mv O O<|ad O (qi O O (bf ·))<|lc<|aG O (fun z=>?_) fun z=>?_
 ·exact absurd rfl z
 refine aq<|an<|al<|sr<|ad O (aI O fS) ?_
 refine ad O (m9 O lg)<|ad O (aE 1 O kE O O bH)<|ad O (aE 0 O cB O O aN)<|ad O (aI O aX) ?_
 refine ad O (qi O O (bf ·))<|lc<|aG O (fun y=>?_) fun y=>?_
 ·refine sr<|ad O (aO O eY cl) ?_
  apply ad O
  ·apply bp O An ja
   exact aP.nil
  refine bZ O O O cl O O ?_
  refine bZ O O O fN O O ?_
  refine st O O O fU O ?_
  refine lc<|rt ?_
  apply aR (.inl rfl) ([aj pa s])
  ·apply oG O
   ·apply Rv.agg rfl
    ·exact tk
    exact aJ eY cl O
   ·apply Rv.agg rfl
    ·exact tk
    exact aJ oo fN O
   apply Rv.cellL rfl
   ·exact tk
   ·exact ga
   exact iO
  ·exact⟨rfl,rfl⟩
  exact en
 exact absurd (by omega) hk
theorem D9 (elem:ByteArray) (birth:Int):aK Tryz.prog 53 #[.agg #[.pointer (some ⟨pa,0,none⟩),.int .i64 l.key,.int .i64 l.elem,.int .i64 l.ka,.int .i64 l.ea,.int .i64 l.cap,.int .i64 l.eo,.int .i64 l.bo,.int .i64 l.slot,.int .i64 l.group,.int .i64 (off:Nat)],.int .u64 h,.string key,.string elem,.int .i64 birth] [aj pa s] (fun v L=>v=.tuple #[.int .i64 0,.int .i64 61]/\L= [aj pa s]):=by
 refine au B1 Tryz.func53 rfl rfl rfl fun Fr w0=>aZ ?_
 refine sr<|bw O O fun b5=>ar O O<|ar O O<|lz<|ad O (aO O bA aM) ?_
 refine mv O O<|mv O O<|bF O O O (pG pa off go n e s l T hP h key hk) ?_
 refine mv O O<|ad O (aa O ga) ?_
 refine ad O (aa O ga) ?_
 refine ad O (aa O ga) ?_
 refine ay O da fun b12=>ay O ja fun b13=>bZ O O O cl O O ?_
 refine bZ O O O fN O O ?_
 refine ar O O<|lc<|al<|aB<|sr<|mv O O<|ad O (qi O O (bf ·))<|ar O O<|lc<|aG O (fun z=>?_) fun z=>?_
 ·exact sr<|mv O O<|ar O O<|ar O O<|lc<|rt<|ft O ([aj pa s]) (.tmp rfl) (.tmp rfl) ⟨rfl,rfl⟩
 exact absurd z (by decide)
theorem xB:aK Tryz.prog 82 #[.agg #[.pointer (some ⟨pa,0,none⟩),.int .i64 l.key,.int .i64 l.elem,.int .i64 l.ka,.int .i64 l.ea,.int .i64 l.cap,.int .i64 l.eo,.int .i64 l.bo,.int .i64 l.slot,.int .i64 l.group,.int .i64 (off:Nat)],.int .u64 h,.string key] [aj pa s] (fun v L=>v=.tuple #[.bool false,.int .i64 61]/\L= [aj pa s]):=by
 refine au FQ Tryz.func82 rfl rfl rfl fun Fr w0=>aZ ?_
 refine sr<|bw O O fun b3=>ar O O<|ar O O<|lz<|ad O (aO O bA aM) ?_
 refine mv O O<|mv O O<|bF O O O (pG pa off go n e s l T hP h key hk) ?_
 refine mv O O<|ad O (aa O ga) ?_
 refine ad O (aa O ga) ?_
 refine ad O (aa O ga) ?_
 refine ay O da fun b8=>ay O ja fun b9=>bZ O O O cl O O ?_
 refine bZ O O O fN O O ?_
 refine ar O O<|lc<|al<|sr<|mv O O<|ad O (qi O O (bf ·))<|mv O O<|bQ (t:=25) rfl (fun z=>?_) fun z=>?_
 ·exact ax O O O O<|ax O O O O<|ax O O O O<|ad O (aS O O)<|lc<|bk O<|sr<|mv O O<|ar O O<|ar O O<|lc<|rt<|ft O ([aj pa s]) (.tmp rfl) (.tmp rfl) ⟨rfl,rfl⟩
 exact absurd z (by decide)
end
theorem CR (k:Int) (hk:k < 0\/8*(n:Int)<=k):aK Tryz.prog 56 #[.agg #[.pointer (some ⟨pa,0,none⟩),.int .i64 l.key,.int .i64 l.elem,.int .i64 l.ka,.int .i64 l.ea,.int .i64 l.cap,.int .i64 l.eo,.int .i64 l.bo,.int .i64 l.slot,.int .i64 l.group,.int .i64 (off:Nat)],.int .i64 k] [aj pa s] (fun v L=>v=.tuple #[.agg #[.int .i64 0,.int .i64 0,.string ⟨#[]⟩,.string ⟨#[]⟩,.int .i64 0],.int .i64 60]/\L= [aj pa s]):=by
 have hn8:=hP.n0
 refine au FR Tryz.func56 rfl rfl rfl fun Fr w0=>aZ ?_
 refine sr<|bw O O fun b2=>ay O dF fun b4=>ar O O<|lz<|ad O (aO O bA aM) ?_
 refine bF O O O (eS pa off go n e s l T hP) ?_
 refine mv O O<|ad O (aa O ga) ?_
 refine ad O (aa O ga) ?_
 refine ay O da fun b6=>bZ O O O cl O O ?_
 refine ar O O<|lc<|al<|sr<|mv O O<|ad O (qi O O (bf ·))<|lc<|aG O (fun z=>?_) fun z=>?_
 ·exact absurd rfl z
 refine aq<|an<|al<|sr<|mv O O<|ad O (qi O O (bj ·))<|mv O O<|bQ (t:=19) rfl (fun y1=>?_) fun y1=>?_
 ·refine ax O O O O<|ax O O O O<|ax O O O O<|ax O O O O<|ad O (aS O O)<|lc<|bk O<|sr ?_
  apply ad O
  ·apply bp O j9 dF
   exact aP.nil
  refine bZ O O O bV O O ?_
  refine ar O O<|lc<|rt ?_
  apply aR (.inl rfl) ([aj pa s])
  ·apply cF O
   ·apply Rv.agg rfl
    ·exact tk
    exact aJ fj bV O
   exact .tmp rfl
  ·exact⟨rfl,rfl⟩
  exact en
 refine aA O O<|mv O O<|aA O O<|ad O (aE 1 O bP O O aN)<|aA O O<|ad O (aI O aX) ?_
 refine aA O O<|ad O (qi O O (iC ·))<|ad O (aS O O)<|lc<|aG O (fun y2=>?_) fun y2=>?_
 ·refine sr ?_
  apply ad O
  ·apply bp O j9 dF
   exact aP.nil
  refine bZ O O O bV O O ?_
  refine ar O O<|lc<|rt ?_
  apply aR (.inl rfl) ([aj pa s])
  ·apply cF O
   ·apply Rv.agg rfl
    ·exact tk
    exact aJ fj bV O
   exact .tmp rfl
  ·exact⟨rfl,rfl⟩
  exact en
 omega
theorem oC (v:Int) (hv:-9223372036854775808<=v/\v<=9223372036854775807) (hl:0<=T.left/\T.left<=1099511627776):
  aK Tryz.prog 84 #[.agg #[.pointer (some ⟨pa,0,none⟩),.int .i64 l.key,.int .i64 l.elem,.int .i64 l.ka,.int .i64 l.ea,.int .i64 l.cap,.int .i64 l.eo,.int .i64 l.bo,.int .i64 l.slot,.int .i64 l.group,.int .i64 (off:Nat)],.int .i64 v] [aj pa s] (fun r L=>
   ((v < -T.left\/7*(n:Int)-((dX isFull T.cells (8*n):Nat):Int)-((dX isDel T.cells (8*n):Nat):Int)-T.left < v)/\r=.int .i64 82/\L= [aj pa s])\/
   (-T.left<=v/\v<=7*(n:Int)-((dX isFull T.cells (8*n):Nat):Int)-((dX isDel T.cells (8*n):Nat):Int)-T.left/\∃ s',r=.int .i64 0/\L= [aj pa s']/\cd s' off go l n e {T with left:=T.left+v}/\cb s s' off go (n*gN l))):=by
 have hn8:=hP.n0
 have h3:=rZ T.cells (8*n)
 have hneg:IntKind.i64.wrap (0-T.left)= -T.left:=by rw[wrap_i64 (by omega)];omega
 refine au He Tryz.func84 rfl rfl rfl fun Fr w0=>aZ ?_
 refine dN (φ:=s.ok) (fun w hw=>cS hw .here) fun hok0=>?_
 have hst0:=hok0.stop_eq
 refine sr<|bw O O fun b2=>ar O O<|lz<|ad O (aO O bA aM) ?_
 refine bF O O O (eS pa off go n e s l T hP) ?_
 refine mv O O<|ad O (aa O ga) ?_
 refine ad O (aa O ga) ?_
 refine ay O da fun b5=>bZ O O O cl O O ?_
 refine ar O O<|lc<|al<|sr<|mv O O<|ad O (qi O O (bf ·))<|lc<|aG O (fun z=>?_) fun z=>?_
 ·exact absurd rfl z
 refine aq<|nz<|ar O O<|lc<|al<|sr<|ad O (aE 1 O bP O O aN)<|ad O (aI O aX) ?_
 refine ad O (eT O O) ?_
 refine mv O O<|lc<|aB ?_
 rw[show(8*(n:Int)) / 8=((n:Nat):Int) by omega]
 refine bK (fun i:Nat=>i<=n) (fun i=>[(1,.int .i64 v),(2,.pointer (some ⟨b2,0,none⟩)),(5,.pointer (some ⟨b5,0,none⟩)),(7,.int .i64 (8*(i:Int)-((dX dz T.cells (8*i):Nat):Int))),(21,.int .i64 (n:Nat)),(22,.int .i64 (i:Nat))]) (fun _=>pt b5 (.cells #[.int .i64 T.used,.int .i64 (8*(n:Int)),.int .i64 T.left,.int .i64 T.depth,.int .i64 T.pins,.int .i64 T.next,.bool (decide (T.kind=4)),.int .i64 (go:Nat)] 147 (0,0))::pt b2 (.cells #[.pointer (some ⟨pa,0,none⟩),.int .i64 l.key,.int .i64 l.elem,.int .i64 l.ka,.int .i64 l.ea,.int .i64 l.cap,.int .i64 l.eo,.int .i64 l.bo,.int .i64 l.slot,.int .i64 l.group,.int .i64 (off:Nat)] 39 (0,0))::aj pa s::Fr) (fun i=>n-i) 0 (Nat.zero_le _) ⟨rfl,rfl,rfl,rfl,rfl,rfl,trivial⟩ (by(exact en)) ?_
 intro i hi
 refine sr<|ad O (qi O O (bj ·))<|lc<|al<|aG O (fun q=>?_) fun q=>?_
 ·skip
  obtain⟨g1,g2,g3,g4⟩:=hP.grpAt (g:=i) (by omega)
  have hge:=bt.end_le hok0 g1
  have hbd:=Lay.bnd hP.hl
  have hes:=zr T.cells i
  have hc1:=lM dz T.cells (8*i)
  have hs8:(bE (eh (ck T.cells i))).length<=8:=by unfold bE;exact Nat.le_trans (List.length_filter_le _ _) (by simp)
  refine aq<|an<|al<|aB<|sr<|mv O O<|ar O O<|lz<|ad O (aO O bA aM) ?_
  refine ad O (aO O eY cl) ?_
  refine mv O O<|bF O O O (nq pa off go i n l hP.hl T _ rfl (by omega)) ?_
  refine bF O O O (tr pa (go+i*gN l) s l (ck T.cells i) hP.hl g1 g2 g3) ?_
  refine mv O O<|ad O (aa O ga) ?_
  refine ad O (aa O ga) ?_
  refine ar O O<|ar O O<|lc<|al<|sr<|mv O O<|ad O (qi O O (bf ·))<|lc<|aG O (fun y=>?_) fun y=>?_
  ·exact absurd rfl y
  refine aq<|an<|aD<|mv O O<|mv O O<|bF O O O (ie g3) ?_
  refine bF O O O (nF (eh (ck T.cells i))) ?_
  refine ad O (eJ O O) ?_
  refine ad O (bn O O) ?_
  refine ar O O<|ai<|bz<|an<|aD<|ad O (bn O O) ?_
  refine mv O O<|ai ?_
  apply aU ((i+1))
  ·exact by omega
  ·omega
  ·exact⟨rfl,rfl,rfl,congrArg (fun z=>some (Value.int .i64 z)) (by rw[hes];push_cast;omega),rfl,rfl,trivial⟩
  exact en
 obtain rfl:i=n:=by omega
 have hc1:=lM dz T.cells (8*i)
 refine xt O<|an<|al<|al<|aY mixed ?_
 apply dq 0 O (yq (ah O))
 apply dq 1 O (yq (aE 2 O bP O O aN))
 apply dq 2 O (yq (aI O aX))
 apply dq 3 O (yq (db O (tT ·)))
 apply dq 4 O (yq (qi O O (bj ·)))
 apply dq 5 O (yq (ah O))
 rw[hneg]
 refine n6 (t:=48) rfl (fun p1=>?_) fun p1=>?_
 ·apply dq 6 O (bW O O O (by intro k;simp))
  apply dq 7 O (bW O O O (by intro k;simp))
  apply dq 8 O (bW O O O (by intro k;simp))
  apply dq 10 O (bW O O O (by intro k;simp))
  apply dq 12 O (bW O O O (by intro k;simp))
  apply dq 13 O (bW O O O (by intro k;simp))
  refine ak [8,5,7,4,0,3,2,1] [13,12,10,6] 9 [(51,_),(48,_)] gO ⟨rfl,rfl,trivial⟩ (by kernel_rfl) (by kernel_rfl) fun Ex=>?_
  refine ax O O O O<|ai ?_
  refine aQ ⟨ya O O (bW O O O (by intro k;simp)),ya O O (bW O O O (by intro k;simp)),ya O O (bW O O O (by intro k;simp)),ya O O (bW O O O (by intro k;simp)),trivial⟩ ?_
  apply dq 11 O (bW O O O (by intro k;simp))
  apply dq 14 O (bW O O O (by intro k;simp))
  apply dq 15 O (bW O O O (by intro k;simp))
  apply dq 16 O (yq (aS O O))
  refine aV (by kernel_rfl) ?_
  exact an<|bk O<|sr<|ar O O<|lc<|rt<|cN O ([aj pa s]) (.tmp rfl) (.inl ⟨.inl p1,rfl,rfl⟩)
 apply dq 6 O (bD O O (ah O))
 apply dq 7 O (bD O O (aE 1 O bP O O aN))
 apply dq 8 O (bD O O (aI O aX))
 apply dq 10 O (bD O O (ah O))
 apply dq 12 O (bD O O (aE 2 O bP O O aN))
 apply dq 13 O (bD O O (aI O aX))
 refine ak [8,5,7,4,0,3,2,1] [13,12,10,6] 9 [(51,_),(48,_)] gO ⟨rfl,rfl,trivial⟩ (by kernel_rfl) (by kernel_rfl) fun Ex=>?_
 refine aA O O<|bF O O O (CH hP.he hP.hn) ?_
 refine ai ?_
 refine aQ ⟨ya O O (bD O O (aI O aX)),ya O O (bD O O (aE 2 O bP O O aN)),ya O O (bD O O (ah O)),ya O O (bD O O (ah O)),trivial⟩ ?_
 apply dq 11 O (bD O O (eJ O O))
 apply dq 14 O (bD O O (eJ O O))
 apply dq 15 O (bD O O (qi O O (di ·)))
 apply dq 16 O (yq (aS O O))
 refine aV (by kernel_rfl) ?_
 refine an<|aG O (fun p2=>?_) fun p2=>?_
 ·refine sr<|ar O O<|lc<|rt<|cN O ([aj pa s]) (.tmp rfl) ?_
  exact .inl ⟨.inr (by omega),rfl,rfl⟩
 have hw:=hP.word (T':={T with left:=T.left+v}) (k:=5) (v:=T.left+v) (by decide) (by omega) rfl (iR (.inr rfl) (.inr rfl) (.inr rfl) (.inr rfl) (.inl rfl) (.inr rfl)) rfl
 refine aq<|nz<|ad O (aO O bA aM) ?_
 refine ad O (aE 2 O bP O O aN)<|ad O (aI O aX) ?_
 refine mv O O<|ad O (bn O O) ?_
 refine cT O O O (gG pa off 5 s l 40 (T.left+v) rfl (by decide) hP.gh) ?_
 rintro r2 L' rfl
 refine bx ?_
 refine lz<|ar O O<|lc<|rt<|cN O ([aj pa (s.put (off+8*5) 8 (ct (IntKind.u64.wrap (T.left+v))))]) (.tmp rfl) ?_
 exact .inr ⟨by omega,by omega,_,rfl,rfl,hw.1,hw.2⟩
include hG
theorem CC (h:Int) (hh:0<=h/\h < 18446744073709551616) (key:ByteArray) (hk:key.size=kN l) (elem:ByteArray) (he:(elem.size:Int)≠l.elem) (birth:Int):
  aK Tryz.prog 53 #[.agg #[.pointer (some ⟨pa,0,none⟩),.int .i64 l.key,.int .i64 l.elem,.int .i64 l.ka,.int .i64 l.ea,.int .i64 l.cap,.int .i64 l.eo,.int .i64 l.bo,.int .i64 l.slot,.int .i64 l.group,.int .i64 (off:Nat)],.int .u64 h,.string key,.string elem,.int .i64 birth] [G,aj pa s] (fun v L=>v=.tuple #[.int .i64 0,.int .i64 62]/\L= [G,aj pa s]):=by
 refine au B1 Tryz.func53 rfl rfl rfl fun Fr w0=>aZ ?_
 refine sr<|bw O O fun b5=>ar O O<|ar O O<|lz<|ad O (aO O bA aM) ?_
 refine mv O O<|mv O O<|bF O O O (kQ G hG pa off go n e s l T hP h hh key hk) ?_
 refine mv O O<|ad O (aa O ga) ?_
 refine ad O (aa O ga) ?_
 refine ad O (aa O ga) ?_
 refine ay O da fun b12=>ay O ja fun b13=>bZ O O O cl O O ?_
 refine bZ O O O fN O O ?_
 refine ar O O<|lc<|al<|aB<|sr<|mv O O<|ad O (qi O O (bf ·))<|ar O O<|lc<|aG O (fun z=>?_) fun z=>?_
 ·exact absurd rfl z
 refine sr<|mv O O<|ad O (m9 O lg)<|ad O (aE 1 O kE O O bH)<|ad O (aE 1 O cB O O aN)<|ad O (aI O aX) ?_
 refine ad O (qi O O (bf ·))<|ar O O<|lc<|aG O (fun y=>?_) fun y=>?_
 ·exact sr<|ar O O<|ar O O<|lc<|rt<|ft O ([G,aj pa s]) (.tmp rfl) (.tmp rfl) ⟨rfl,rfl⟩
 exact absurd (by omega) he
theorem zS (h:Int) (hh:0<=h/\h < 18446744073709551616) (key:ByteArray) (hk:key.size=kN l) (elem:ByteArray) (he:elem.size=eN l) (birth:Int) (hb:birth < 0):
  aK Tryz.prog 53 #[.agg #[.pointer (some ⟨pa,0,none⟩),.int .i64 l.key,.int .i64 l.elem,.int .i64 l.ka,.int .i64 l.ea,.int .i64 l.cap,.int .i64 l.eo,.int .i64 l.bo,.int .i64 l.slot,.int .i64 l.group,.int .i64 (off:Nat)],.int .u64 h,.string key,.string elem,.int .i64 birth] [G,aj pa s] (fun v L=>v=.tuple #[.int .i64 0,.int .i64 64]/\L= [G,aj pa s]):=by
 have hN:=eK hP.hl
 have hes:(elem.size:Int)=l.elem:=by rw[he];exact hN.e
 refine au B1 Tryz.func53 rfl rfl rfl fun Fr w0=>aZ ?_
 refine sr<|bw O O fun b5=>ar O O<|ar O O<|lz<|ad O (aO O bA aM) ?_
 refine mv O O<|mv O O<|bF O O O (kQ G hG pa off go n e s l T hP h hh key hk) ?_
 refine mv O O<|ad O (aa O ga) ?_
 refine ad O (aa O ga) ?_
 refine ad O (aa O ga) ?_
 refine ay O da fun b12=>ay O ja fun b13=>bZ O O O cl O O ?_
 refine bZ O O O fN O O ?_
 refine ar O O<|lc<|al<|aB<|sr<|mv O O<|ad O (qi O O (bf ·))<|ar O O<|lc<|aG O (fun z=>?_) fun z=>?_
 ·exact absurd rfl z
 refine sr<|mv O O<|ad O (m9 O lg)<|ad O (aE 1 O kE O O bH)<|ad O (aE 1 O cB O O aN)<|ad O (aI O aX) ?_
 refine ad O (qi O O (bf ·))<|ar O O<|lc<|aG O (fun y=>?_) fun y=>?_
 ·exact absurd hes y
 refine sr<|mv O O<|ad O (qi O O (bj ·))<|ar O O<|lc<|aG O (fun x=>?_) fun x=>?_
 ·exact sr<|ar O O<|ar O O<|lc<|rt<|ft O ([G,aj pa s]) (.tmp rfl) (.tmp rfl) ⟨rfl,rfl⟩
 omega
end
theorem zW (pa:Nat) (vl:Array Value) (slots depth:Int) (hs:-9223372036854775808<=slots/\slots<=9223372036854775807) (hb:Probe.powB slots 8 65536=false):
  aK Tryz.prog 52 #[.pointer (some ⟨pa,0,none⟩),.agg vl,.int .i64 slots,.int .i64 depth] [] (fun v L=>v=.tuple #[.agg #[.pointer none,.int .i64 0,.int .i64 0,.int .i64 0,.int .i64 0,.int .i64 0,.int .i64 0,.int .i64 0,.int .i64 0,.int .i64 0,.int .i64 0],.int .i64 80]/\L= []):=by
 refine au FT Tryz.func52 rfl rfl rfl fun Fr w0=>aZ ?_
 refine sr<|bw O O fun b5=>ay O cM fun b8=>ar O O<|lc<|al<|sr<|mv O O<|ad O (qi O O (bj ·))<|mv O O<|bQ (t:=17) rfl (fun p1=>?_) fun p1=>?_
 ·refine ax O O O O<|ax O O O O<|ad O (aS O O)<|mv O O<|ax O O O O<|ax O O O O<|ax O O O O<|ax O O O O<|ax O O O O<|ad O (aS O O)<|lc<|bk O<|sr ?_
  apply ad O
  ·apply bp O qS cM
   exact aP.nil
  refine bZ O O O aM O O ?_
  refine ar O O<|lc<|rt ?_
  apply aR (.inl rfl) ([])
  ·apply cF O
   ·apply Rv.agg rfl
    ·exact tk
    exact aJ bA aM O
   exact .tmp rfl
  ·exact⟨rfl,rfl⟩
  exact en
 refine aA O O<|mv O O<|aA O O<|ad O (qi O O (di ·))<|ad O (aS O O)<|mv O O<|bQ (t:=21) rfl (fun p2=>?_) fun p2=>?_
 ·refine ax O O O O<|ax O O O O<|ax O O O O<|ax O O O O<|ax O O O O<|ad O (aS O O)<|lc<|bk O<|sr ?_
  apply ad O
  ·apply bp O qS cM
   exact aP.nil
  refine bZ O O O aM O O ?_
  refine ar O O<|lc<|rt ?_
  apply aR (.inl rfl) ([])
  ·apply cF O
   ·apply Rv.agg rfl
    ·exact tk
    exact aJ bA aM O
   exact .tmp rfl
  ·exact⟨rfl,rfl⟩
  exact en
 refine aA O O<|mv O O<|aA O O<|mv O O<|aA O O<|ad O (eJ O O) ?_
 refine aA O O<|ad O (fh O O O)<|aA O O<|ad O (qi O O (bf ·))<|ad O (aS O O)<|lc<|aG O (fun p3=>?_) fun p3=>?_
 ·refine sr ?_
  apply ad O
  ·apply bp O qS cM
   exact aP.nil
  refine bZ O O O aM O O ?_
  refine ar O O<|lc<|rt ?_
  apply aR (.inl rfl) ([])
  ·apply cF O
   ·apply Rv.agg rfl
    ·exact tk
    exact aJ bA aM O
   exact .tmp rfl
  ·exact⟨rfl,rfl⟩
  exact en
 exfalso
 have e3:=Probe.pow2_eq (n:=slots) (by omega) (by omega)
 rw[show Probe.powB slots 8 65536=true by
  unfold Probe.powB
  rw[<- e3]
  simp
  omega] at hb
 cases hb
theorem zX (pa:Nat) (vl:Array Value) (slots depth:Int) (hp:Probe.powB slots 8 65536=true) (hd:depth < 0\/6 < depth):
  aK Tryz.prog 52 #[.pointer (some ⟨pa,0,none⟩),.agg vl,.int .i64 slots,.int .i64 depth] [] (fun v L=>v=.tuple #[.agg #[.pointer none,.int .i64 0,.int .i64 0,.int .i64 0,.int .i64 0,.int .i64 0,.int .i64 0,.int .i64 0,.int .i64 0,.int .i64 0,.int .i64 0],.int .i64 81]/\L= []):=by
 have hp8:=hp
 simp only[Probe.powB,Bool.and_eq_true,decide_eq_true_eq] at hp8
 have hbit:bits .and .i64 slots (slots-1)=0:=by
  have:=Probe.pow2_eq (n:=slots) (by omega) (by omega)
  rw[hp8.2] at this
  exact of_decide_eq_true this
 refine au FT Tryz.func52 rfl rfl rfl fun Fr w0=>aZ ?_
 refine sr<|bw O O fun b5=>ay O cM fun b8=>ar O O<|lc<|al<|sr<|mv O O<|ad O (qi O O (bj ·))<|mv O O<|bQ (t:=17) rfl (fun p1=>?_) fun p1=>?_
 ·omega
 refine aA O O<|mv O O<|aA O O<|ad O (qi O O (di ·))<|ad O (aS O O)<|mv O O<|bQ (t:=21) rfl (fun p2=>?_) fun p2=>?_
 ·omega
 refine aA O O<|mv O O<|aA O O<|mv O O<|aA O O<|ad O (eJ O O) ?_
 refine aA O O<|ad O (fh O O O)<|aA O O<|ad O (qi O O (bf ·))<|ad O (aS O O)<|lc<|aG O (fun p3=>?_) fun p3=>?_
 ·omega
 refine aq<|an<|al<|sr<|mv O O<|ad O (qi O O (bj ·))<|mv O O<|bQ (t:=31) rfl (fun d1=>?_) fun d1=>?_
 ·refine ax O O O O<|ax O O O O<|ad O (aS O O)<|lc<|bk O<|sr ?_
  apply ad O
  ·apply bp O qS cM
   exact aP.nil
  refine bZ O O O aM O O ?_
  refine ar O O<|lc<|rt ?_
  apply aR (.inl rfl) ([])
  ·apply cF O
   ·apply Rv.agg rfl
    ·exact tk
    exact aJ bA aM O
   exact .tmp rfl
  ·exact⟨rfl,rfl⟩
  exact en
 refine aA O O<|mv O O<|aA O O<|ad O (qi O O (di ·))<|ad O (aS O O)<|lc<|aG O (fun d2=>?_) fun d2=>?_
 ·refine sr ?_
  apply ad O
  ·apply bp O qS cM
   exact aP.nil
  refine bZ O O O aM O O ?_
  refine ar O O<|lc<|rt ?_
  apply aR (.inl rfl) ([])
  ·apply cF O
   ·apply Rv.agg rfl
    ·exact tk
    exact aJ bA aM O
   exact .tmp rfl
  ·exact⟨rfl,rfl⟩
  exact en
 omega
end Table
end
section
namespace Grow
open Go.RowKit Go.Proofs GroupB TableB TableI Bench
def xT (n:Nat) (H:ByteArray->Int) (cells:Nat->Cell) (p g:Nat):Prop:=isFull (cells p)=true/\∃ j,j < n/\gk (H (cells p).keyS / 128) n j=p / 8/\∃ i,i < j/\gk (H (cells p).keyS / 128) n i=g
def Dr (n:Nat) (H:ByteArray->Int) (cells:Nat->Cell) (g:Nat):Prop:=∃ p,p < 8*n/\xT n H cells p g
def df (cells:Nat->Cell) (b:Nat->Bool) (p:Nat):Cell:=if isDel (cells p)=true/\b (p / 8)=false then .empty else cells p
section
variable {cells:Nat->Cell} {b:Nat->Bool} {p:Nat}
theorem pW:isFull (df cells b p)=isFull (cells p):=by
 unfold df
 split
 ·next h=>cases hc:cells p <;> rw[hc] at h <;> first | rfl | cases h.1
 rfl
theorem pV (h:b (p / 8)=true):df cells b p=cells p:=by unfold df;rw[if_neg (by rw[h];simp)]
end
def kp (b:Nat->Bool) (n:Nat) (home:Int) (k:Nat) (g:Nat):Bool:=b g || (List.range k).any fun i=>gk home n i == g
theorem nV {b:Nat->Bool} {n:Nat} {home:Int} {k g:Nat}:kp b n home k g=true↔b g=true\/∃ i,i < k/\gk home n i=g:=by
 unfold kp
 rw[Bool.or_eq_true,List.any_eq_true]
 constructor
 ·rintro(h | ⟨i,h1,h2⟩)
  ·exact .inl h
  exact .inr ⟨i,List.mem_range.1 h1,by simpa using h2⟩
 rintro(h | ⟨i,h1,h2⟩)
 ·exact .inl h
 exact .inr ⟨i,List.mem_range.2 h1,by simpa using h2⟩
def PB (n:Nat) (H:ByteArray->Int) (cells:Nat->Cell) (b:Nat->Bool) (j:Nat):Prop:=∀ g,b g=true↔∃ p,p < j/\xT n H cells p g
theorem PB.new {n:Nat} {H:ByteArray->Int} {cells:Nat->Cell}:PB n H cells (fun _=>false) 0:=fun g=>⟨fun h=>(by cases h),fun⟨p,hp,_⟩=>(by omega)⟩
theorem PB.to {n:Nat} {H:ByteArray->Int} {cells:Nat->Cell} {b:Nat->Bool} {j k:Nat} (h:PB n H cells b j) (hjk:j<=k) (hno:∀ i,j<=i->i < k->isFull (cells i)=false):PB n H cells b k:=fun g=>by
 rw[h g]
 constructor
 ·rintro⟨p,h1,h2⟩;exact⟨p,by omega,h2⟩
 rintro⟨p,h1,h2⟩
 refine⟨p,?_,h2⟩
 rcases Nat.lt_or_ge p j with q | q
 ·exact q
 have:=hno p q h1;rw[h2.1] at this;cases this
theorem PB.mark {n e:Nat} (hn:n=2 ^ e) {H:ByteArray->Int} {cells:Nat->Cell} {b:Nat->Bool} {p k:Nat} (h:PB n H cells b p) (hf:isFull (cells p)=true) (hk:k < n) (hg:gk (H (cells p).keyS / 128) n k=p / 8):PB n H cells (kp b n (H (cells p).keyS / 128) k) (p+1):=fun g=>by
 rw[nV,h g]
 constructor
 ·rintro(⟨q,h1,h2⟩ | ⟨i,h1,h2⟩)
  ·exact⟨q,by omega,h2⟩
  exact⟨p,by omega,hf,k,hk,hg,i,h1,h2⟩
 rintro⟨q,h1,h2⟩
 by_cases e1:q=p
 ·subst e1
  obtain⟨_,j,hj,hgj,i,hi,hgi⟩:=h2
  have:=FK hn hj hk (hgj.trans hg.symm)
  subst this
  exact .inr ⟨i,hi,hgi⟩
 exact .inl ⟨q,by omega,h2⟩
theorem PB.all {n:Nat} {H:ByteArray->Int} {cells:Nat->Cell} {b:Nat->Bool} (h:PB n H cells b (8*n)) {g:Nat} (hp:Dr n H cells g):b g=true:=(h g).2 hp
end Grow
end
end Go.Proofs.YthkajgkagnenbaaGreatDoor
