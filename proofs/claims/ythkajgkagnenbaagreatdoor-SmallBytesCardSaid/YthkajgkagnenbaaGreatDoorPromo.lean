import Derived.Test.YthkajgkagnenbaaGreatDoorSmallX
set_option linter.unusedVariables false
set_option linter.unusedSimpArgs false
set_option linter.unusedSectionVars false
namespace Go.Proofs.YthkajgkagnenbaaGreatDoor
section
set_option maxRecDepth 100000
namespace Oracle
open Go.RowKit Go.Proofs Eng Ty Bits Mem CtrlB Ctrl
def lI (G:HP):Prop:=ct G ⟨0,0,none⟩ (.int .u64 13234230157428861123)∧ct G ⟨0,1,none⟩ (.int .u64 11329751410908088055)
def Ho (seed:Int) (n:Nat):Int:=bits .xor .u64 seed (IntKind.u64.wrap (13234230157428861123*(1+(n:Int))))
def EU (h b:Int):Int:=IntKind.u64.wrap (bits .xor .u64 h b*11329751410908088055)
def mixS (h b:Int):Int:=bits .xor .u64 (EU h b) ((EU h b).fdiv (2 ^ min (Int.toNat 31) IntKind.u64.bits))
def im (seed:Int) (key:ByteArray):Nat→Int
 | 0=>Ho seed key.size
 | i+1=>mixS (im seed key i) (if h:i < key.size then IntKind.u64.wrap ((key[i]'h).toNat:Int) else 0)
def xw (h:Int):Int:=bits .xor .u64 h (h.fdiv (2 ^ min (Int.toNat 29) IntKind.u64.bits))
def Hn (h:Int):Int:=bits .xor .u64 (IntKind.u64.wrap (xw h*13234230157428861123)) ((IntKind.u64.wrap (xw h*13234230157428861123)).fdiv (2 ^ min (Int.toNat 32) IntKind.u64.bits))
def xv (seed:Int) (key:ByteArray):Int:=Hn (im seed key key.size)
theorem D7 (G:HP) (hO:lI G) (seed:Int) (hs:0≤seed∧seed < 18446744073709551616) (key:ByteArray) (hk:key.size≤140737488351232):
  aG Tryz.prog 201 #[.int .u64 seed,.string key] [G] (fun v L=>v=.int .u64 (xv seed key)∧L= [G]):=by
 refine aq FF Tryz.func201 rfl rfl rfl fun Fr w0=>aR ?_
 refine sr<|asg rfl rfl<|lz<|mv rfl rfl<|l_q rfl (bk rfl rfl yw oc (by omega)) ?_
 refine l_q rfl (bI (A:=G) rfl j4 tk hO.1) ?_
 refine mv rfl rfl<|l_q rfl (qls rfl yU9)<|l_q rfl (ba rfl rfl) ?_
 refine l_q rfl (qcv rfl yU3 fF) ?_
 refine l_q rfl (dF rfl rfl) ?_
 refine l_q rfl (gn rfl rfl rfl)<|asg rfl rfl<|lc<|ah<|sr<|asg rfl rfl<|lc<|ax ?_
 refine bw (fun i:Nat=>i≤key.size) (fun i=>[(1,.string key),(5,.int .u64 (im seed key i)),(6,.int .i64 (i:Nat))]) (fun _=>G::Fr) (fun i=>key.size-i) 0 (Nat.zero_le _) ⟨rfl,rfl,rfl,trivial⟩ (by(exact en)) ?_
 intro i hi
 refine ah<|sr<|mv rfl rfl<|mv rfl rfl<|l_q rfl (qls rfl yU9)<|l_q rfl (qi rfl rfl (aU ·))<|lc<|aA rfl (fun h=>?_) fun h=>?_
 ·refine al<|ak<|ah<|ax<|ah<|aS mixed ?_
  apply dq 0 rfl
  ·exact yq (ai rfl)
  apply dq 1 rfl
  ·exact yq (ai rfl)
  apply dq 2 rfl
  ·exact yq (ai rfl)
  apply dq 3 rfl
  ·exact yq (tg rfl rfl yU9 (by omega))
  apply dq 4 rfl
  ·exact yq (qcv rfl yU5 fF)
  apply dq 5 rfl
  ·exact yq (gn rfl rfl rfl)
  apply dq 6 rfl
  ·exact yq (bk rfl rfl yw oc (by omega))
  apply dq 7 rfl
  ·exact yq (bI (A:=G) rfl j4 tk hO.2)
  apply dq 8 rfl
  ·exact yq (dF rfl rfl)
  refine an [8,0,1,2,3,4,5,6,7] [] 9 [(30,_)] gO ⟨rfl,trivial⟩ (by kernel_rfl) (by kernel_rfl) fun Ex=>?_
  refine asg rfl rfl<|aj ?_
  apply n_d
  ·exact trivial
  refine bd (by kernel_rfl) ?_
  refine ak<|aB<|mv rfl rfl<|mv rfl rfl ?_
  apply l_q rfl
  ·apply qi rfl rfl;first | exact fun w=>jN (m:=2147483648) w (by decide) (by decide) (by omega) | exact fun w=>jR w (by decide)
  refine l_q rfl (gn rfl rfl rfl)<|asg rfl rfl<|aj<|aV<|ak<|aB<|mv rfl rfl<|l_q rfl (ba rfl rfl) ?_
  refine asg rfl rfl<|aj ?_
  have hst:im seed key (i+1)=mixS (im seed key i) (IntKind.u64.wrap ((key[i]'(by omega)).toNat:Int)):=by simp only[im];rw[dif_pos]
  apply aO ((i+1))
  ·exact by omega
  ·omega
  ·exact⟨rfl,by rw[hst];rfl,rfl,trivial⟩
  exact en
 refine xt rfl<|nz<|mv rfl rfl<|mv rfl rfl ?_
 apply l_q rfl
 ·apply qi rfl rfl;first | exact fun w=>jN (m:=536870912) w (by decide) (by decide) (by omega) | exact fun w=>jR w (by decide)
 refine l_q rfl (gn rfl rfl rfl)<|asg rfl rfl<|lz<|mv rfl rfl<|l_q rfl (bk rfl rfl yw oc (by omega)) ?_
 refine l_q rfl (bI (A:=G) rfl j4 tk hO.1) ?_
 refine l_q rfl (dF rfl rfl) ?_
 refine asg rfl rfl<|lz<|mv rfl rfl<|mv rfl rfl ?_
 apply l_q rfl
 ·apply qi rfl rfl;first | exact fun w=>jN (m:=4294967296) w (by decide) (by decide) (by omega) | exact fun w=>jR w (by decide)
 refine l_q rfl (gn rfl rfl rfl)<|asg rfl rfl<|lc<|rt ?_
 obtain rfl:i=key.size:=by omega
 exact fr1 rfl ([G]) (.tmp rfl) ⟨rfl,rfl⟩
def sj (m:List (ByteArray×Value)):Prop:=∀ k v,lkK m k=some v→∃ x,v=.int .u64 x∧0≤x∧x < 18446744073709551616
def bU (m:List (ByteArray×Value)) (seed:Int) (key:ByteArray):Int:=match lkK m key with | some (.int _ x)=>x | _=>xv seed key
theorem CE (G:HP) (hO:lI G) (po bm:Nat) (m:List (ByteArray×Value)) (hm:sj m) (seed:Int) (hs:0≤seed∧seed < 18446744073709551616) (key:ByteArray) (hk:key.size≤140737488351232):
  aG Tryz.prog 142 #[.pointer (some ⟨po,0,none⟩),.int .u64 seed,.string key] [pt po (.cells #[.map (some bm)] 192 (0,0)),cy (fun k:ByteArray=>Value.string k) bm m,G]
   (fun v L=>v=.int .u64 (bU m seed key)∧L= [pt po (.cells #[.map (some bm)] 192 (0,0)),cy (fun k:ByteArray=>Value.string k) bm m,G]):=by
 refine aq Gs Tryz.func142 rfl rfl rfl fun Fr w0=>aR ?_
 refine sr<|asg rfl rfl<|lc<|ah<|sr<|mv rfl rfl<|l_q rfl (ad rfl)<|l_q rfl (qfa 0 rfl yx rfl rfl yA)<|l_q rfl (qld rfl yI) ?_
 refine mv rfl rfl ?_
 apply l_q rfl
 ·apply kY u2 rfl rfl vJ yU9 Ed
  exact tk
 refine mv rfl rfl<|l_q rfl (aa rfl ga) ?_
 refine l_q rfl (aa rfl ga) ?_
 refine asg rfl rfl<|asg rfl rfl<|lz<|mv rfl rfl<|lc<|aA rfl (fun h=>?_) fun h=>?_
 ·refine sr<|mv rfl rfl<|asg rfl rfl<|lc<|rt ?_
  obtain⟨v,hv⟩:=Option.isSome_iff_exists.1 h
  obtain⟨x,rfl,_⟩:=hm _ _ hv
  refine fr1 rfl ([pt po (.cells #[.map (some bm)] 192 (0,0)),cy (fun k:ByteArray=>Value.string k) bm m,G]) (.tmp rfl) ?_
  exact⟨by unfold bU;rw[hv];rfl,rfl⟩
 refine al<|nz<|mv rfl rfl<|mv rfl rfl ?_
 have hv:lkK m key=none:=by simpa using h
 refine lc1 rfl rfl rfl (D7 G hO seed hs key hk) ?_
 refine asg rfl rfl<|lc<|rt<|fr1 rfl ([pt po (.cells #[.map (some bm)] 192 (0,0)),cy (fun k:ByteArray=>Value.string k) bm m,G]) (.tmp rfl) ?_
 exact⟨by unfold bU;rw[hv],rfl⟩
theorem nU (a b:Int):0≤bits .xor .u64 a b∧bits .xor .u64 a b < 18446744073709551616:=by
 unfold bits
 simp only[IntKind.wrap_u64]
 omega
theorem tB (seed:Int) (key:ByteArray):0≤xv seed key∧xv seed key < 18446744073709551616:=nU _ _
theorem qG {m:List (ByteArray×Value)} (hm:sj m) (seed:Int) (key:ByteArray):0≤bU m seed key∧bU m seed key < 18446744073709551616:=by
 unfold bU
 split
 ·next k x h=>
  obtain⟨y,e,h1,h2⟩:=hm _ _ h
  cases e;exact⟨h1,h2⟩
 exact tB _ _
end Oracle
end
section
set_option maxRecDepth 100000
namespace Small
open Go.RowKit Go.Proofs Eng Ty Bits Mem Search Arena CtrlB Ctrl Layout GroupB Group TableB TableI Table Cells Refill Oracle Bench Exact
def ca (hash:ByteArray→Int) (cs:Nat→Cell):Nat→Tb
 | 0=>jJ 2 0
 | i+1=>match cs i with
  | .full _ k e b=>(eR 2 (ca hash cs i) (hash k) k e b).2
  | _=>ca hash cs i
theorem lY {hash:ByteArray→Int} {cs:Nat→Cell} {i:Nat} (h:isFull (cs i)=true):ca hash cs (i+1)=(eR 2 (ca hash cs i) (hash (cs i).keyS) (cs i).keyS (cs i).elemS (cs i).birthI).2:=by
 cases hc:cs i with
 | full t k e b=>simp only[ca,hc];rfl
 | empty=>rw[hc] at h;cases h
 | deleted=>rw[hc] at h;cases h
theorem lW {hash:ByteArray→Int} {cs:Nat→Cell} {i:Nat} (h:isFull (cs i)=false):ca hash cs (i+1)=ca hash cs i:=by
 cases hc:cs i with
 | full t k e b=>rw[hc] at h;cases h
 | empty=>simp only[ca,hc]
 | deleted=>simp only[ca,hc]
theorem lX {hash:ByteArray→Int} {cs:Nat→Cell} {i:Nat}:∀ {j:Nat},i≤j→cnt isFull cs i=cnt isFull cs j→ca hash cs j=ca hash cs i
 | 0,h,_=>by(obtain rfl:i=0:=(by omega));rfl
 | j+1,h,he=>by
  rcases Nat.lt_or_ge j i with q | q
  ·obtain rfl:i=j+1:=by omega
   rfl
  have hm:=mL (p:=isFull) (cs:=cs) q
  rw[fk] at he
  cases hf:isFull (cs j) with
  | true=>rw[hf] at he;simp at he;omega
  | false=>rw[hf] at he;rw[lW hf];exact lX q (by simpa using he)
theorem lu.but {s s1 s':ArS} (hs:s.ok) {c:Int} {k:Nat} (hN:lu s s1 c) (hS:de s1 s' (s.at 64) ((s.take 64).at c) k) (hc:1≤c) (hk:(k:Int)≤c) (hfit:s.live+64≤s.limit):lu s s' c:=by
 have ok64:=ArS.take_ok hs c64 hfit
 refine⟨hS.limit.trans hN.limit,hS.live.trans hN.live,hS.all.trans hN.all,hS.dead.trans hN.dead,fun p=>by rw[hS.bl];exact hN.bl p,fun p hp a h1 h2=>?_⟩
 have a1:=dO hs hp (c:=64) (by decide)
 have a2:=dO ok64 ((ef hs).2 (.inl hp)) hc
 rw[hS.m a (by omega) (by omega)]
 exact hN.m p hp a h1 h2
theorem iy.but {s1 s':ArS} {o g k:Nat} {c:Int} (hz:iy s1 g k c) (hS:de s1 s' o g k) (ha:(o:Int)+64≤g∨(g:Int)+c≤o):iy s' g k c:=fun a h1 h2=>by
 rw[hS.m a (by omega) (by omega)]
 exact hz a h1 h2
theorem nK (G:HP) (hGT:dz G) (hGO:lI G) (pa po bm off:Nat) (s:ArS) (l:Lay) (S:Sm) (m:List (ByteArray×Value)) (hm:sj m) (sd:Int) (hsd:0≤sd∧sd < 18446744073709551616) (hP:SmP s off l S):
  aG Tryz.prog 103 #[.agg #[.pointer (some ⟨pa,0,none⟩),.int .i64 l.key,.int .i64 l.elem,.int .i64 l.ka,.int .i64 l.ea,.int .i64 l.cap,.int .i64 l.eo,.int .i64 l.bo,.int .i64 l.slot,.int .i64 l.group,.int .i64 (off:Nat)],.pointer (some ⟨po,0,none⟩),.int .u64 sd] [pt po (.cells #[.map (some bm)] 192 (0,0)),cy (fun k:ByteArray=>Value.string k) bm m,G,ae pa s]
   (fun v L=>(s.limit-s.live < 64+aC ((2*gN l:Nat):Int)∧v=.tuple #[.agg #[.pointer none,.int .i64 0,.int .i64 0,.int .i64 0,.int .i64 0,.int .i64 0,.int .i64 0,.int .i64 0,.int .i64 0,.int .i64 0,.int .i64 0],.int .i64 22]∧L= [pt po (.cells #[.map (some bm)] 192 (0,0)),cy (fun k:ByteArray=>Value.string k) bm m,G,ae pa s])∨
    (s.live+(64+aC ((2*gN l:Nat):Int))≤s.limit∧∃ s',v=.tuple #[.agg #[.pointer (some ⟨pa,0,none⟩),.int .i64 l.key,.int .i64 l.elem,.int .i64 l.ka,.int .i64 l.ea,.int .i64 l.cap,.int .i64 l.eo,.int .i64 l.bo,.int .i64 l.slot,.int .i64 l.group,.int .i64 ((s.at 64:Nat):Int)],.int .i64 0]∧L= [pt po (.cells #[.map (some bm)] 192 (0,0)),cy (fun k:ByteArray=>Value.string k) bm m,G,ae pa s']∧eO s' (s.at 64) ((s.take 64).at (aC ((2*gN l:Nat):Int))) l 2 1 (ca (bU m sd) S.cells 8)∧jX 2 (ca (bU m sd) S.cells 8)∧lu s s' (aC ((2*gN l:Nat):Int))∧iy s' ((s.take 64).at (aC ((2*gN l:Nat):Int))) (2*gN l) (aC ((2*gN l:Nat):Int)))):=by
 have hbd:=Lay.bnd hP.hl
 have hN:=hP.hN
 have hg:=hN.g
 have hkk:=hN.k
 refine aq Df Tryz.func103 rfl rfl rfl fun Fr w0=>aR ?_
 refine cI (φ:=s.ok) (fun w hw=>bQ hw (.there (.there (.there .here)))) fun hok0=>?_
 have hg8:=hN.g_eq
 have hgb:((2*gN l:Nat):Int)≤1048576:=by have:=hN.k1;have:=hN.e1;have:=hN.eo1;have:=hN.bo1;have:=hN.s_eq;omega
 refine sr<|aP rfl rfl fun b3=>fL rfl rfl rfl fun b4=>fL rfl rfl rfl fun b5=>az rfl lL fun b6=>dN rfl mU rfl fun b7=>lc<|ah<|sr<|l_q rfl (aK rfl cd bM) ?_
 refine lc1 rfl rfl rfl (fm pa off s l S hP) ?_
 refine mv rfl rfl<|l_q rfl (aa rfl ga) ?_
 refine l_q rfl (aa rfl ga) ?_
 refine az rfl cE fun b8=>sta rfl rfl rfl bP rfl rfl ?_
 refine asg rfl rfl<|lz<|mv rfl rfl<|l_q rfl (qi rfl rfl (aI ·))<|lc<|aA rfl (fun z=>?_) fun z=>?_
 ·exact absurd rfl z
 refine al<|nz<|l_q rfl (qfa 0 rfl gP rfl rfl dt)<|l_q rfl (qld rfl du) ?_
 refine l_q rfl (qfa 1 rfl gP rfl rfl aX)<|l_q rfl (aK rfl cu aX) ?_
 refine lcf rfl rfl rfl (wP pa 2 1 s l 16 0 hP.hl (by decide) rfl rfl (by decide)) ?_
 rintro v L' (⟨hb,rfl,rfl⟩ | ⟨hsm,hfit,s1,rfl,rfl,hT,hNs,hZ⟩)
 refine bF ?_
 ·skip
  refine bF ?_
  refine mv rfl rfl<|l_q rfl (aa rfl ga) ?_
  refine l_q rfl (aa rfl ga) ?_
  refine az rfl lL fun b10=>sta rfl rfl rfl er rfl rfl ?_
  refine asg rfl rfl<|lc<|ah<|sr<|mv rfl rfl<|l_q rfl (qi rfl rfl (aI ·))<|lc<|aA rfl (fun y=>?_) fun y=>?_
  ·refine sr ?_
   apply l_q rfl
   ·apply aQ rfl yB lL
    exact aF.nil
   refine mv rfl rfl<|sta rfl rfl rfl er rfl rfl ?_
   refine st rfl rfl rfl jT rfl ?_
   refine lc<|rt ?_
   apply aJ (.inl rfl) ([pt po (.cells #[.map (some bm)] 192 (0,0)),cy (fun k:ByteArray=>Value.string k) bm m,G,ae pa s])
   ·apply bS rfl
    ·apply Rv.agg rfl
     ·exact tk
     exact aD gm er rfl
    apply Rv.cellL rfl
    ·exact tk
    ·exact ga
    exact pH
   ·exact .inl ⟨by omega,rfl,rfl⟩
   exact en
  omega
 refine bF ?_
 refine mv rfl rfl<|l_q rfl (aa rfl ga) ?_
 refine l_q rfl (aa rfl ga) ?_
 refine az rfl lL fun b10=>sta rfl rfl rfl er rfl rfl ?_
 refine asg rfl rfl<|lc<|ah<|sr<|mv rfl rfl<|l_q rfl (qi rfl rfl (aI ·))<|lc<|aA rfl (fun y=>?_) fun y=>?_
 ·exact absurd rfl y
 refine al<|ak<|ah<|sr<|l_q rfl (aK rfl cd bM) ?_
 refine lcf rfl rfl rfl (nv pa off l) ?_
 rintro v L' ⟨bc,rfl,rfl⟩
 refine bF ?_
 refine lc<|ax ?_
 obtain⟨C,hC⟩:∃ C,C=aC ((2*gN l:Nat):Int):=⟨_,rfl⟩
 have hCb:=(cF (n:=((2*gN l:Nat):Int)) (by omega)).2.2 hgb
 rw[← hC] at hCb hfit hT hNs hZ ⊢
 obtain⟨o1,ho1⟩:∃ o1,o1=s.at 64:=⟨_,rfl⟩
 obtain⟨g1,hg1⟩:∃ g1,g1=(s.take 64).at C:=⟨_,rfl⟩
 have ok64:=ArS.take_ok hok0 c64 (by omega)
 have hap:=dO ok64 ((ef hok0).2 (.inr rfl)) (c:=C) (by omega)
 rw[← ho1,← hg1] at hT hap ⊢
 rw[← hg1] at hZ
 dsimp only at hap
 apply oj (p:=(fun k (x:ArS×Tb)=>eO x.1 o1 g1 l 2 1 x.2∧jX 2 x.2∧de s1 x.1 o1 g1 (2*gN l)∧∀ i,i≤8→cnt isFull S.cells i=k→x.2=ca (bU m sd) S.cells i)) (J:=(fun _ x=>[pt b4 (.cells #[.pointer (some ⟨po,0,none⟩)] 63 (0,0)),pt b5 (.cells #[.int .u64 sd] 27 (0,0)),pt b6 (.cells #[.pointer none,.int .i64 0,.int .i64 0,.int .i64 0,.int .i64 0,.int .i64 0,.int .i64 0,.int .i64 0,.int .i64 0,.int .i64 0,.int .i64 0] 39 (0,0)),pt b7 (.cells #[.int .i64 0] 77 (0,0)),pt b10 (.cells #[.pointer (some ⟨pa,0,none⟩),.int .i64 l.key,.int .i64 l.elem,.int .i64 l.ka,.int .i64 l.ea,.int .i64 l.cap,.int .i64 l.eo,.int .i64 l.bo,.int .i64 l.slot,.int .i64 l.group,.int .i64 ((o1:Nat):Int)] 39 (0,0)),pt po (.cells #[.map (some bm)] 192 (0,0)),cy (fun k:ByteArray=>Value.string k) bm m,G,ae pa x.1])) (q:=(fun _ (y:Code×Unit)=>False)) (Jx:=(fun _ _=>[])) (x0:=(s1,jJ 2 0)) (hc:=qU pa off bc s1 l S (hP.newS hok0 hNs)) (hr:=rfl) (hg:=rfl)
 ·exact pk
 ·exact⟨hT,jX.new 2 0,de.refl _ _ _ _,fun i _ hi=>(lX (Nat.zero_le i) (by rw[hi];rfl)).symm⟩
 ·(try dsimp only);(try simp only[Int.natCast_zero,Nat.sub_zero]);exact pk
 ·(try dsimp only);(try simp only[Int.natCast_zero,Nat.sub_zero]);exact pk
 ·rfl
 ·exact o7
 ·rintro l' rc Fr' w1 k x ⟨s2,U⟩ hrd hpn hx ⟨hT2,hR2,hS2,hU2⟩
  have hkl:=(List.getElem?_eq_some_iff.1 hx).1
  rw[gi] at hkl
  obtain⟨i1,hi8,hfi,hck,rfl⟩:=qR hx
  dsimp only at hT2 hR2 hS2 hU2 ⊢
  obtain⟨hu1,hu2⟩:=hR2.bnd (by decide)
  have hok1:=hP.okc i1 hi8
  obtain⟨t1,hc1⟩:=wx hfi
  rw[hc1] at hok1
  obtain⟨_,_,hks,hes,hb0,hb1⟩:=hok1
  have hhb:=qG hm sd (S.cells i1).keyS
  have hpr:=EP (T:=U) (h:=bU m sd (S.cells i1).keyS) (key:=(S.cells i1).keyS) (by decide:0 < 2) (fun g hg=>wu hT2.hn hg) (S.cells i1).elemS (S.cells i1).birthI
  have hnx:∀ i,i≤8→cnt isFull S.cells i=k+1→(eR 2 U (bU m sd (S.cells i1).keyS) (S.cells i1).keyS (S.cells i1).elemS (S.cells i1).birthI).2=ca (bU m sd) S.cells i:=fun i hi he=>by
   have hc2:cnt isFull S.cells (i1+1)=k+1:=by rw[fk,hfi,hck];rfl
   have hlt:i1+1≤i:=by
    rcases Nat.lt_or_ge i1 i with q | q
    ·exact q
    have:=mL (p:=isFull) (cs:=S.cells) q;omega
   rw[lX hlt (by rw[hc2,he]),lY hfi,← hU2 i1 (by omega) hck]
  refine aR ?_
  refine aB<|az rfl cK fun b13=>sta rfl rfl rfl bx rfl rfl ?_
  refine aj ?_
  apply mA
  ·exact tk
  ·assumption
  refine ax<|ah<|aS mixed ?_
  apply dq 0 rfl
  ·exact yq (aK rfl gm er)
  apply dq 1 rfl
  ·exact yq (qld rfl yH)
  apply dq 2 rfl
  ·exact yq (qld rfl j4)
  apply dq 3 rfl
  ·exact yq (qfa 2 rfl cQ rfl rfl yS9)
  apply dq 4 rfl
  ·exact yq (qld rfl yA9)
  apply dq 6 rfl
  ·exact yq (qfa 2 rfl cQ rfl rfl yS9)
  apply dq 7 rfl
  ·exact yq (qld rfl yA9)
  apply dq 8 rfl
  ·exact yq (qfa 3 rfl cQ rfl rfl yS9)
  apply dq 9 rfl
  ·exact yq (qld rfl yA9)
  apply dq 10 rfl
  ·exact yq (qfa 4 rfl cQ rfl rfl yS3)
  apply dq 11 rfl
  ·exact yq (qld rfl yA3)
  refine an [1,2,4,3] [11,10,9,8,7,6,0] 5 [(43,_),(44,_),(46,_)] gO ⟨rfl,rfl,rfl,trivial⟩ (by kernel_rfl) (by kernel_rfl) fun Ex=>?_
  refine lc1 rfl rfl rfl (CE G hGO po bm m hm sd hsd (S.cells i1).keyS (by omega)) ?_
  refine aj ?_
  apply n_d
  ·refine⟨?_,?_,?_,?_,?_,?_,?_,trivial⟩
   ·apply ya rfl rfl;exact yq (qld rfl yA3)
   ·apply ya rfl rfl;exact yq (qfa 4 rfl cQ rfl rfl yS3)
   ·apply ya rfl rfl;exact yq (qld rfl yA9)
   ·apply ya rfl rfl;exact yq (qfa 3 rfl cQ rfl rfl yS9)
   ·apply ya rfl rfl;exact yq (qld rfl yA9)
   ·apply ya rfl rfl;exact yq (qfa 2 rfl cQ rfl rfl yS9)
   apply ya rfl rfl;exact yq (aK rfl gm er)
  refine an [0,7,9,11,6,8,10] [] 12 [(42,_),(47,_),(49,_),(51,_),(53,_)] gO ⟨rfl,rfl,rfl,rfl,rfl,trivial⟩ (by kernel_rfl) (by kernel_rfl) fun Ex=>?_
  refine lcf rfl rfl rfl (D5 G hGT pa o1 g1 2 1 s2 l U hT2 _ hhb (S.cells i1).keyS (S.cells i1).elemS hks hes (S.cells i1).birthI ⟨hb0,hb1⟩ hu1 hu2) ?_
  rintro v L' ⟨s3,rfl,rfl,hT3,hS3⟩
  refine bF ?_
  refine aj ?_
  apply n_d
  ·exact trivial
  apply dq 13 rfl
  ·exact yq (ai rfl)
  apply dq 14 rfl
  ·exact yq (aa rfl ga)
  apply dq 15 rfl
  ·exact yq (aa rfl ga)
  refine an [14,13] [15] 16 [(55,_)] gO ⟨rfl,trivial⟩ (by kernel_rfl) (by kernel_rfl) fun Ex=>?_
  refine asg rfl rfl<|aj ?_
  apply n_d
  ·refine⟨?_,trivial⟩
   apply ya rfl rfl;exact yq (aa rfl ga)
  refine an [15] [] 17 [(56,_)] gO ⟨rfl,trivial⟩ (by kernel_rfl) (by kernel_rfl) fun Ex=>?_
  refine asg rfl rfl<|aj ?_
  apply n_d
  ·exact trivial
  refine bd (by kernel_rfl) ?_
  refine nz<|mv rfl rfl<|l_q rfl (qi rfl rfl (aI ·))<|lc<|aA rfl (fun y3=>?_) fun y3=>?_
  ·exact absurd rfl y3
  refine al<|aV ?_
  apply lU (by assumption) (by assumption) ((s3,(eR 2 U (bU m sd (S.cells i1).keyS) (S.cells i1).keyS (S.cells i1).elemS (S.cells i1).birthI).2)) (⟨hT3,hR2.put hpr,hS2.trans hS3,hnx⟩)
  exact en
 ·rintro b1' ⟨s2,U⟩ ⟨hT2,hR2,hS2,hU2⟩
  rw[gi] at hU2
  dsimp only at hT2 hR2 hS2 hU2 ⊢
  have hU:=hU2 8 (Nat.le_refl _) rfl
  rw[hU] at hT2 hR2
  refine nQ ?_
  refine aV<|nz<|l_q rfl (aK rfl gm er) ?_
  refine sta rfl rfl rfl er rfl rfl ?_
  refine st rfl rfl rfl jT rfl ?_
  refine lc<|rt ?_
  apply kG (.inl rfl) [b1'] ([pt po (.cells #[.map (some bm)] 192 (0,0)),cy (fun k:ByteArray=>Value.string k) bm m,G,ae pa s2])
  ·repeat (first | with_reducible exact eX.nil | apply eX.cons | with_reducible exact Take.here | apply Take.there)
  ·apply bS rfl
   ·apply Rv.agg rfl
    ·exact tk
    exact aD gm er rfl
   apply Rv.cellL rfl
   ·exact tk
   ·exact ga
   exact pH
  ·exact .inr ⟨hfit,s2,rfl,rfl,hT2,hR2,lu.but hok0 hNs (by rw[← ho1,← hg1];exact hS2) (by omega) (by omega) (by omega),iy.but hZ hS2 (by omega)⟩
  exact en
 rintro b1' k ⟨jc,y⟩ hk hq
 exact hq.elim
end Small
end
end Go.Proofs.YthkajgkagnenbaaGreatDoor
