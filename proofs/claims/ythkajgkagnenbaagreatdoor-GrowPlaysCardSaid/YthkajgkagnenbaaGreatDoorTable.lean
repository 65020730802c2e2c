/- The contracts of package table: one table of groups. -/
import Derived.Test.YthkajgkagnenbaaGreatDoorGroup
set_option linter.unusedVariables false
set_option linter.unusedSimpArgs false
set_option linter.unusedSectionVars false
set_option maxRecDepth 100000
namespace Go.Proofs.YthkajgkagnenbaaGreatDoor
namespace Table
open Go.RowKit Go.Proofs Eng Ty Bits Mem Arena CtrlB Ctrl Layout GroupB Group Probe TableB TableI
def Kw (T:Tb) (n go:Nat):Prop:=∀ k,k < 8->-9223372036854775808<=fa T n go k/\fa T n go k<=9223372036854775807
theorem yv {v:Int} (h:-9223372036854775808<=v/\v<=9223372036854775807):IntKind.i64.wrap (IntKind.u64.wrap v)=v:=by
 rw[IntKind.wrap_u64,IntKind.wrap_i64];omega
def wl (T:Tb) (n go k:Nat):List Value:=(List.range 8).map fun j=>if j < k then .int .i64 (fa T n go j) else .int .i64 0
theorem Fb (T:Tb) (n go k:Nat) (hk:k < 8):(wl T n go k).set k (.int .i64 (fa T n go k))=wl T n go (k+1):=by
 apply List.ext_getElem?
 intro i
 rw[List.getElem?_set]
 simp only[wl,List.length_map,List.length_range,List.getElem?_map]
 by_cases h:i < 8
 ·rw[List.getElem?_range h]
  by_cases q:k=i
  ·subst q;simp[h]
  rw[if_neg q]
  simp only[Option.map_some,Option.some.injEq]
  by_cases q2:i < k
  ·rw[if_pos q2,if_pos (by omega)]
  rw[if_neg q2,if_neg (by omega)]
 rw[List.getElem?_eq_none (by simpa using h)]
 simp;intro e;omega
theorem Fc (T:Tb) (n go k:Nat):(wl T n go k).length=8:=by simp[wl]
theorem yj (pa off go n:Nat) (s:ArS) (l:Lay) (T:Tb) (hg:bt s off 64) (hh:∀ k,k < 8->dU s.m (off+8*k) 8=IntKind.u64.wrap (fa T n go k)) (hr:Kw T n go):
  aK Tryz.prog 65 #[.agg #[.pointer (some ⟨pa,0,none⟩),.int .i64 l.key,.int .i64 l.elem,.int .i64 l.ka,.int .i64 l.ea,.int .i64 l.cap,.int .i64 l.eo,.int .i64 l.bo,.int .i64 l.slot,.int .i64 l.group,.int .i64 (off:Nat)]] [aj pa s] (fun v L=>v=.tuple #[.agg #[.int .i64 T.used,.int .i64 (8*(n:Int)),.int .i64 T.left,.int .i64 T.depth,.int .i64 T.pins,.int .i64 T.next,.bool (decide (T.kind=4)),.int .i64 (go:Nat)],.int .i64 0]/\L= [aj pa s]):=by
 refine au Hf Tryz.func65 rfl rfl rfl fun Fr w0=>aZ ?_
 refine dN (φ:=s.ok) (fun w hw=>cS hw .here) fun hok0=>?_
 have hge:=bt.end_le hok0 hg
 have hst0:=hok0.stop_eq
 refine sr<|bw O O fun b1=>ay O da fun b2=>ar O O<|lz<|ay O Ef fun b4=>lc<|al<|sr<|mv O O<|lc<|aB ?_
 refine bK (fun k:Nat=>k<=8) (fun k=>[(1,.pointer (some ⟨b1,0,none⟩)),(2,.pointer (some ⟨b2,0,none⟩)),(4,.pointer (some ⟨b4,0,none⟩)),(8,.int .i64 k)]) (fun k=>pt b4 (.cells (wl T n go k).toArray 243 (0,0))::pt b1 (.cells #[.pointer (some ⟨pa,0,none⟩),.int .i64 l.key,.int .i64 l.elem,.int .i64 l.ka,.int .i64 l.ea,.int .i64 l.cap,.int .i64 l.eo,.int .i64 l.bo,.int .i64 l.slot,.int .i64 l.group,.int .i64 (off:Nat)] 39 (0,0))::pt b2 (.cells #[.int .i64 0,.int .i64 0,.int .i64 0,.int .i64 0,.int .i64 0,.int .i64 0,.bool false,.int .i64 0] 147 (0,0))::aj pa s::Fr) (fun k=>8-k) 0 (by omega) ⟨rfl,rfl,rfl,rfl,trivial⟩ (by first | exact dS.refl _ | (rw[show wl T n go 0= [.int .i64 0,.int .i64 0,.int .i64 0,.int .i64 0,.int .i64 0,.int .i64 0,.int .i64 0,.int .i64 0] from rfl];(exact en))) ?_
 intro k hk8
 refine sr<|ad O (qi O O (bj ·))<|lc<|al<|aG O (fun h=>?_) fun h=>?_
 ·have hk:k < 8:=by omega
  refine aq<|an<|al<|aB<|sr<|mv O O<|ar O O<|lz<|ad O (aE 0 O kE O O eu)<|ad O (aI O ew) ?_
  refine ad O (aE 10 O kE O O aN)<|ad O (aI O aX) ?_
  refine mv O O<|ad O (dA O O) ?_
  refine ad O (bn O O) ?_
  refine bF O O O (jz pa s _ 8 (off+8*k) 8 (by omega) rfl (by unfold wid;omega) (bt.sub (off':=(off:Int)+8*(k:Int)) hg (by omega) (by omega) (by omega))) ?_
  refine mv O O<|ad O (aa O ga) ?_
  refine ad O (aa O ga) ?_
  refine ar O O<|ar O O<|lc<|al<|sr<|mv O O<|ad O (qi O O (bf ·))<|lc<|aG O (fun z=>?_) fun z=>?_
  ·exact absurd rfl z
  refine aq<|an<|aD<|mv O O<|mv O O<|ad O (km O fv j5) ?_
  refine ad O (bM O O mS aN (by omega)) ?_
  apply kU O O O aN O
  ·exact tk
  ·rw[Nat.zero_add,Int.toNat_natCast,Nat.mul_one];exact Nat.ble_eq_true_of_le (by simp[Fc];omega)
  ·rw[Nat.zero_add,Int.toNat_natCast,Nat.mul_one,hh k hk,yv (hr k hk),List.setIfInBounds_toArray,Fb T n go k hk]
  refine ai<|bz<|an<|aD<|ad O (bn O O) ?_
  refine mv O O<|ai ?_
  apply aU ((k+1))
  ·exact(show k+1<=8 by omega)
  ·omega
  ·exact⟨O,O,O,O,trivial⟩
  exact en
 obtain rfl:k=8:=by omega
 refine il (L':=pt b4 (.cells #[.int .i64 T.kind,.int .i64 T.pins,.int .i64 T.next,.int .i64 T.used,.int .i64 (8*(n:Int)),.int .i64 T.left,.int .i64 T.depth,.int .i64 (go:Nat)] 243 (0,0))::pt b2 (.cells #[.int .i64 0,.int .i64 0,.int .i64 0,.int .i64 0,.int .i64 0,.int .i64 0,.bool false,.int .i64 0] 147 (0,0))::aj pa s::Fr) ?_ ?_
 ·rw[show wl T n go 8= [.int .i64 T.kind,.int .i64 T.pins,.int .i64 T.next,.int .i64 T.used,.int .i64 (8*(n:Int)),.int .i64 T.left,.int .i64 T.depth,.int .i64 ((go:Nat):Int)] from rfl]
  (exact en)
 refine xt O<|nz<|ad O (bM O O mS aN (by omega)) ?_
 refine ad O (aI O aX) ?_
 refine ad O (bM O O mS aN (by omega)) ?_
 refine ad O (aI O aX) ?_
 refine ad O (bM O O mS aN (by omega)) ?_
 refine ad O (aI O aX) ?_
 refine ad O (bM O O mS aN (by omega)) ?_
 refine ad O (aI O aX) ?_
 refine ad O (bM O O mS aN (by omega)) ?_
 refine ad O (aI O aX) ?_
 refine ad O (bM O O mS aN (by omega)) ?_
 refine ad O (aI O aX) ?_
 refine ad O (bM O O mS aN (by omega)) ?_
 refine ad O (aI O aX) ?_
 refine ad O (qi O O (bN ·))<|ad O (bM O O mS aN (by omega)) ?_
 refine ad O (aI O aX) ?_
 apply ad O
 ·apply bp O tI da
  apply aP.one
  ·repeat (first | exact ba.here | apply ba.there)
  ·rfl
  ·exact sa
  apply aP.one
  ·repeat (first | exact ba.here | apply ba.there)
  ·rfl
  ·exact sa
  apply aP.one
  ·repeat (first | exact ba.here | apply ba.there)
  ·rfl
  ·exact sa
  apply aP.one
  ·repeat (first | exact ba.here | apply ba.there)
  ·rfl
  ·exact sa
  apply aP.one
  ·repeat (first | exact ba.here | apply ba.there)
  ·rfl
  ·exact sa
  apply aP.one
  ·repeat (first | exact ba.here | apply ba.there)
  ·rfl
  ·exact sa
  apply aP.one
  ·repeat (first | exact ba.here | apply ba.there)
  ·rfl
  ·exact sa
  apply aP.one
  ·repeat (first | exact ba.here | apply ba.there)
  ·rfl
  ·exact sa
  exact aP.nil
 refine bZ O O O cl O O ?_
 refine ar O O<|lc<|rt ?_
 apply aR (.inl rfl) ([aj pa s])
 ·apply cF O
  ·apply Rv.agg rfl
   ·exact tk
   exact aJ eY cl O
  exact .tmp rfl
 ·exact⟨rfl,rfl⟩
 exact en
theorem nq (pa off go g n:Nat) (l:Lay) (hl:l.err=0) (T:Tb) (i:Int) (hi:i=(g:Nat)) (hb:go+g*gN l<=1000000000):
  aK Tryz.prog 136 #[.agg #[.pointer (some ⟨pa,0,none⟩),.int .i64 l.key,.int .i64 l.elem,.int .i64 l.ka,.int .i64 l.ea,.int .i64 l.cap,.int .i64 l.eo,.int .i64 l.bo,.int .i64 l.slot,.int .i64 l.group,.int .i64 (off:Nat)],.agg #[.int .i64 T.used,.int .i64 (8*(n:Int)),.int .i64 T.left,.int .i64 T.depth,.int .i64 T.pins,.int .i64 T.next,.bool (decide (T.kind=4)),.int .i64 (go:Nat)],.int .i64 i] [] (fun v L=>v=.agg #[.pointer (some ⟨pa,0,none⟩),.int .i64 l.key,.int .i64 l.elem,.int .i64 l.ka,.int .i64 l.ea,.int .i64 l.cap,.int .i64 l.eo,.int .i64 l.bo,.int .i64 l.slot,.int .i64 l.group,.int .i64 ((go+g*gN l:Nat):Int)]/\L= []):=by
 have hN:=eK hl
 have hng:=hN.g
 have hm:i*l.group=((g*gN l:Nat):Int):=by rw[hi,Int.natCast_mul,hng]
 refine au IW Tryz.func136 rfl rfl rfl fun Fr w0=>aZ ?_
 refine sr<|bw O O fun b3=>bw O O fun b4=>ay O o6 fun b6=>lz<|ad O (aE 0 O kE O O eu)<|ad O (aI O ew) ?_
 refine ad O (aE 1 O kE O O bH)<|ad O (aO O cZ bH) ?_
 refine ad O (aE 7 O bP O O aN)<|ad O (aI O aX) ?_
 refine mv O O<|ad O (aE 1 O kE O O bH)<|ad O (aE 8 O cB O O aN)<|ad O (aI O aX) ?_
 refine ad O (dA O O) ?_
 refine ad O (bn O O) ?_
 rw[hm,<- Int.natCast_add]
 refine bF O O O (E3 pa (go+g*gN l) l) ?_
 refine bZ O O O dO O O ?_
 refine lc<|rt ?_
 apply aR (.inl rfl) ([])
 ·apply cP O
  apply Rv.agg rfl
  ·exact tk
  exact aJ eG dO O
 ·exact⟨rfl,rfl⟩
 exact en
theorem gG (pa off k:Nat) (s:ArS) (l:Lay) (at_:Int) (v:Int) (hat:at_=((8*k:Nat):Int)) (hk:k < 8) (hg:bt s off 64):
  aK Tryz.prog 133 #[.agg #[.pointer (some ⟨pa,0,none⟩),.int .i64 l.key,.int .i64 l.elem,.int .i64 l.ka,.int .i64 l.ea,.int .i64 l.cap,.int .i64 l.eo,.int .i64 l.bo,.int .i64 l.slot,.int .i64 l.group,.int .i64 (off:Nat)],.int .i64 at_,.int .i64 v] [aj pa s] (fun r L=>L= [aj pa (s.put (off+8*k) 8 (ct (IntKind.u64.wrap v)))]):=by
 subst hat
 refine au IX Tryz.func133 rfl rfl rfl fun Fr w0=>aZ ?_
 refine dN (φ:=s.ok) (fun w hw=>cS hw .here) fun hok0=>?_
 have hge:=bt.end_le hok0 hg
 have hst0:=hok0.stop_eq
 have hw:∀ x,0<=IntKind.u64.wrap x/\IntKind.u64.wrap x < 18446744073709551616:=fun x=>by rw[IntKind.wrap_u64];omega
 have hc:∀ w,(convert 3 27 (.int .i64 v)).run Tryz.prog w=.ok (.int .u64 (IntKind.u64.wrap v)) w:=fun w=>EV w Tryz.underlying3 Tryz.underlying27
 refine sr<|bw O O fun b3=>lr<|ad O (aE 0 O kE O O eu)<|ad O (aI O ew) ?_
 refine ad O (aE 10 O kE O O aN)<|ad O (aI O aX) ?_
 refine mv O O<|ad O (bn O O) ?_
 refine mv O O<|ad O (A6 O hc) ?_
 refine cT O O O (mi pa s _ 8 (off+8*k) 8 (IntKind.u64.wrap v) (by omega) rfl (hw v) (by unfold wid;omega) (bt.sub (off':=(off:Int)+((8*k:Nat):Int)) hg (by omega) (by omega) (by omega))) ?_
 rintro v' L' ⟨rfl,rfl⟩
 refine bx ?_
 refine ai ?_
 apply aR (.inr rfl) ([aj pa (s.put (off+8*k) 8 (ct (IntKind.u64.wrap v)))])
 ·exact pP O
 ·exact rfl
 exact en
def sS (cs:Nat->Cell) (t:Nat):Nat->Bool:=fun i=>ny cs i == t
section
variable {l:Lay} {cs:Nat->Cell} (hok:∀ i,i < 8->(cs i).ok l)
include hok
theorem pF {t:Nat} (ht:t < 128) {i:Nat} (hi:i < 8):sS cs t i=true↔∃ k e b,cs i=.full (t:Int) k e b:=by
 have h1:=ig hok hi
 unfold sS
 rw[beq_iff_eq]
 cases hc:cs i with
 | empty=>rw[hc] at h1;simp only[Cell.ctrl] at h1;constructor;omega;rintro⟨_,_,_,q⟩;cases q
 | deleted=>rw[hc] at h1;simp only[Cell.ctrl] at h1;constructor;omega;rintro⟨_,_,_,q⟩;cases q
 | full t' k e b=>
  rw[hc] at h1;simp only[Cell.ctrl] at h1
  constructor
  ·intro q;exact⟨k,e,b,by congr 1;omega⟩
  rintro⟨_,_,_,q⟩;cases q;omega
theorem FV {i:Nat} (hi:i < 8):(ny cs i == 128)=eh cs i:=by
 have h1:=ig hok hi
 have h2:=hok i hi
 rw[Bool.eq_iff_iff,beq_iff_eq]
 unfold eh
 cases hc:cs i with
 | empty=>rw[hc] at h1;simp only[Cell.ctrl] at h1;simp;omega
 | deleted=>rw[hc] at h1;simp only[Cell.ctrl] at h1;simp;omega
 | full t' k e b=>rw[hc] at h1 h2;simp only[Cell.ctrl] at h1;obtain⟨h3,h4,_⟩:=h2;simp;omega
theorem Fg {i:Nat} (hi:i < 8):(ny cs i == 128 || ny cs i == 254)=iD cs i:=by
 have h1:=ig hok hi
 have h2:=hok i hi
 rw[Bool.eq_iff_iff,Bool.or_eq_true,beq_iff_eq,beq_iff_eq]
 unfold iD
 cases hc:cs i with
 | empty=>rw[hc] at h1;simp only[Cell.ctrl] at h1;simp;omega
 | deleted=>rw[hc] at h1;simp only[Cell.ctrl] at h1;simp;omega
 | full t' k e b=>rw[hc] at h1 h2;simp only[Cell.ctrl] at h1;obtain⟨h3,h4,_⟩:=h2;simp;omega
theorem ie:aK Tryz.prog 161 #[.int .u64 (wI (ny cs))] [] (fun v L=>v=jx (eh cs)/\L= []):=
 (mA (ny cs) (ld hok)).mono fun v L ⟨h1,h2⟩=>⟨by rw[h1];unfold jx;rw[je fun i hi=>FV hok hi],h2⟩
theorem sh:aK Tryz.prog 174 #[.int .u64 (wI (ny cs))] [] (fun v L=>v=jx (iD cs)/\L= []):=
 (qK (ny cs) (ld hok)).mono fun v L ⟨h1,h2⟩=>⟨by rw[h1];unfold jx;rw[je fun i hi=>Fg hok hi],h2⟩
theorem BM {t:Nat} (ht:t < 128) {key:ByteArray} (h:∀ j (hj:j < (bE (sS cs t)).length),(cs (bE (sS cs t))[j]).keyS≠key):cm (mq cs t key)=8:=by
 rw[iy]
 intro i hi
 cases q:mq cs t key i with
 | false=>rfl
 | true=>
  exfalso
  obtain⟨e,b,hc⟩:=qo q
  have hm:i∈bE (sS cs t):=dB.2 ⟨hi,(pF hok ht hi).2 ⟨_,_,_,hc⟩⟩
  obtain⟨j,hj,e2⟩:=List.getElem_of_mem hm
  exact h j hj (by rw[e2,hc];rfl)
theorem FI {t:Nat} (ht:t < 128) {key:ByteArray} {j:Nat} (hj:j < (bE (sS cs t)).length) (hno:∀ j' (hj':j' < (bE (sS cs t)).length),j' < j->(cs (bE (sS cs t))[j']).keyS≠key) (hk:(cs (bE (sS cs t))[j]).keyS=key):
  cm (mq cs t key)=(bE (sS cs t))[j]:=by
 have hm:=dB.1 (List.getElem_mem hj)
 obtain⟨k,e,b,hc⟩:=(pF hok ht hm.1).1 hm.2
 refine n3 hm.1 (FH (e:=e) (b:=b) ?_) fun i hi=>?_
 ·rw[hc] at hk ⊢;simp only[Cell.keyS] at hk;rw[hk]
 cases q:mq cs t key i with
 | false=>rfl
 | true=>
  exfalso
  obtain⟨e,b,hc⟩:=qo q
  have hi8:i < 8:=by omega
  have hm2:i∈bE (sS cs t):=dB.2 ⟨hi8,(pF hok ht hi8).2 ⟨_,_,_,hc⟩⟩
  obtain⟨j',hj',e2⟩:=List.getElem_of_mem hm2
  refine hno j' hj' ?_ (by rw[e2,hc];rfl)
  rcases Nat.lt_trichotomy j' j with q2 | q2 | q2
  ·exact q2
  ·subst q2;omega
  have hp:(bE (sS cs t)).Pairwise (· < ·):=(List.pairwise_lt_range (n:=8)).filter _
  have:=List.pairwise_iff_getElem.1 hp j j' hj hj' q2
  omega
end
theorem vZ {s:Nat->Bool} {j:Nat} {x:List Value} (h:(jW s)[j]?=some x):∃ hj:j < (bE s).length,x= [.int .i64 (((bE s)[j]:Nat):Int)]:=by
 simp only[jW,List.getElem?_map,Option.map_eq_some_iff] at h
 obtain⟨a,h1,h2⟩:=h
 obtain⟨hj,e⟩:=List.getElem?_eq_some_iff.1 h1
 exact⟨hj,by rw[<- h2,e]⟩
theorem vY (s:Nat->Bool):(jW s).length=(bE s).length:=by simp[jW]
theorem ED {n e:Nat} (he:e<=13) (hn:n=2 ^ e):grp (n:Int)=n:=by
 have:Probe.powB (n:Int) 1 8192=true:=(pf _).2 ⟨e,he,by rw[hn,cr]⟩
 have:=(oV this).1
 omega
theorem yn (home:Int) {n e:Nat} (he:e<=13) (hn:n=2 ^ e):
  aK Tryz.prog 186 #[.int .u64 home,.int .i64 (n:Nat)] [] (fun v L=>∃ bh bg,v=.func (.func 224) #[] #[.pointer (some ⟨bh,0,none⟩),.pointer (some ⟨bg,0,none⟩)]/\
   L= [pt bh (.cells #[.int .u64 home] 27 (0,0)),pt bg (.cells #[.int .i64 (n:Nat)] 3 (0,0))]):=
 (CF home n).mono fun v L ⟨bh,bg,h1,h2⟩=>⟨bh,bg,h1,by rw[h2,ED he hn]⟩
theorem rD (bh bg:Nat) (home:Int) (hh:0<=home/\home < 18446744073709551616) {n e:Nat} (he:e<=13) (hn:n=2 ^ e):
  j4 Tryz.prog 224 #[.pointer (some ⟨bh,0,none⟩),.pointer (some ⟨bg,0,none⟩)] [pt bh (.cells #[.int .u64 home] 27 (0,0)),pt bg (.cells #[.int .i64 (n:Nat)] 3 (0,0))]
   (Ah home n) [pt bh (.cells #[.int .u64 home] 27 (0,0)),pt bg (.cells #[.int .i64 (n:Nat)] 3 (0,0))]:=by
 have:=Bf bh bg home hh n
 rw[ED he hn] at this
 exact this
theorem tu (h:Int) (hh:0<=h/\h < 18446744073709551616) (t:Nat) (ht:h % 128=(t:Nat)):aK Tryz.prog 139 #[.int .u64 h] [] (fun v L=>v=.int .i64 (t:Nat)/\L= []):=
 (Gb h hh).mono fun v L ⟨h1,h2⟩=>⟨by rw[h1,ht],h2⟩
set_option maxHeartbeats 1000000 in
theorem yF (G:HP) (hG:dR G) (pa off go n e:Nat) (s:ArS) (l:Lay) (T:Tb) (hl:l.err=0) (he:e<=13) (hn:n=2 ^ e) (hT:Cq s.m off go l n T) (hgh:bt s off 64) (hgg:bt s go ((n*gN l:Nat):Int)) (hr:Kw T n go)
  (h:Int) (hh:0<=h/\h < 18446744073709551616) (key:ByteArray) (hk:key.size=kN l):
  aK Tryz.prog 135 #[.agg #[.pointer (some ⟨pa,0,none⟩),.int .i64 l.key,.int .i64 l.elem,.int .i64 l.ka,.int .i64 l.ea,.int .i64 l.cap,.int .i64 l.eo,.int .i64 l.bo,.int .i64 l.slot,.int .i64 l.group,.int .i64 (off:Nat)],.int .u64 h,.string key] [G,aj pa s]
   (fun v L=>v=.tuple #[.agg #[.int .i64 T.used,.int .i64 (8*(n:Int)),.int .i64 T.left,.int .i64 T.depth,.int .i64 T.pins,.int .i64 T.next,.bool (decide (T.kind=4)),.int .i64 (go:Nat)],.agg #[.int .i64 (bB (h / 128) n T.cells (h % 128) key).slot,.int .i64 (bB (h / 128) n T.cells (h % 128) key).vac,.bool (bB (h / 128) n T.cells (h % 128) key).emp,.int .i64 (bB (h / 128) n T.cells (h % 128) key).probes],.int .i64 0]/\L= [G,aj pa s]):=by
 have hN:=eK hl
 have hks:(key.size:Int)=l.key:=by rw[hk];exact hN.k
 have hn0:0 < n:=by rw[hn];exact Nat.two_pow_pos e
 have hn8:n<=8192:=by rw[hn];exact(Nat.pow_le_pow_right (by decide:0 < 2) he:2 ^ e<=2 ^ 13)
 obtain⟨t,htt,ht128⟩:∃ t:Nat,h % 128=(t:Nat)/\t < 128:=⟨(h % 128).toNat,by omega,by omega⟩
 rw[htt]
 refine au B3 Tryz.func135 rfl rfl rfl fun Fr w0=>aZ ?_
 refine dN (φ:=s.ok) (fun w hw=>cS hw (.there .here)) fun hok0=>?_
 have hge:=bt.end_le hok0 hgh
 have hge2:=bt.end_le hok0 hgg
 have hst0:=hok0.stop_eq
 refine sr<|bw O O fun b3=>eQ O O O fun b4=>eQ O O O fun b5=>ay O da fun b6=>ay O ja fun b7=>iu O si O fun b8=>lc<|sA<|sr<|ad O (aO O bA aM) ?_
 refine bF O O O (yj pa off go n s l T hgh hT.head hr) ?_
 refine mv O O<|ad O (aa O ga) ?_
 refine ad O (aa O ga) ?_
 refine ay O da fun b9=>bZ O O O cl O O ?_
 refine ar O O<|lc<|al<|sr<|mv O O<|ad O (qi O O (bf ·))<|lc<|aG O (fun z=>?_) fun z=>?_
 ·exact absurd rfl z
 refine aq<|an<|al<|sr<|ad O (aI O fS) ?_
 refine ad O (m9 O lg)<|ad O (aE 1 O kE O O bH)<|ad O (aE 0 O cB O O aN)<|ad O (aI O aX) ?_
 refine ad O (qi O O (bf ·))<|lc<|aG O (fun y=>?_) fun y=>?_
 ·omega
 refine aq<|nz ?_
 apply ad O
 ·apply bp O An ja
  apply aP.one
  ·repeat (first | exact ba.here | apply ba.there)
  ·rfl
  ·exact sa
  apply aP.one
  ·repeat (first | exact ba.here | apply ba.there)
  ·rfl
  ·exact sa
  exact aP.nil
 refine ay O ja fun b11=>bZ O O O fN O O ?_
 refine lc<|al<|C9<|an<|al<|al<|aY mixed ?_
 apply dq 0 O (yq (aI O fV))
 apply dq 2 O (yq (aE 1 O bP O O aN))
 apply dq 3 O (yq (aI O aX))
 apply dq 4 O (yq (eT O O))
 refine ak [0] [4,3,2] 1 [(39,_)] gO ⟨rfl,trivial⟩ (by kernel_rfl) (by kernel_rfl) fun Ex=>?_
 refine bF O O O (yr h hh) ?_
 refine ai ?_
 refine aQ ⟨ya O O (yq (eT O O)),ya O O (yq (aI O aX)),ya O O (yq (aE 1 O bP O O aN)),trivial⟩ ?_
 refine ak [4,3,2] [] 5 [(40,_),(43,_)] gO ⟨rfl,rfl,trivial⟩ (by kernel_rfl) (by kernel_rfl) fun Ex=>?_
 rw[show(8*(n:Int)) / 8=((n:Nat):Int) by omega]
 refine cT O O O (yn (h / 128) he hn) ?_
 rintro v L' ⟨bh,bg,rfl,rfl⟩
 refine bx ?_
 refine ai ?_
 refine aQ trivial ?_
 refine aV (by kernel_rfl) ?_
 refine an<|aB ?_
 rw[show pt b11 (.cells #[.int .i64 (-1),.int .i64 (-1),.bool false,.int .i64 0] 224 (0,0))=pt b11 (.cells #[.int .i64 (-1),.int .i64 (ez (h / 128) n T.cells 0),.bool (fw (h / 128) n T.cells 0),.int .i64 ((0:Nat):Int)] 224 (0,0)) from rfl]
 apply C8 (p:=(fun k (_:Unit)=>∀ j,j < k->eC (h / 128) n T.cells t key j=false)) (J:=(fun k _=>[pt b11 (.cells #[.int .i64 (-1),.int .i64 (ez (h / 128) n T.cells k),.bool (fw (h / 128) n T.cells k),.int .i64 ((k:Nat):Int)] 224 (0,0)),pt b3 (.cells #[.pointer (some ⟨pa,0,none⟩),.int .i64 l.key,.int .i64 l.elem,.int .i64 l.ka,.int .i64 l.ea,.int .i64 l.cap,.int .i64 l.eo,.int .i64 l.bo,.int .i64 l.slot,.int .i64 l.group,.int .i64 (off:Nat)] 39 (0,0)),pt b9 (.cells #[.int .i64 T.used,.int .i64 (8*(n:Int)),.int .i64 T.left,.int .i64 T.depth,.int .i64 T.pins,.int .i64 T.next,.bool (decide (T.kind=4)),.int .i64 (go:Nat)] 147 (0,0)),pt b5 (.cells #[.string key] 9 (0,0)),pt b4 (.cells #[.int .u64 h] 27 (0,0)),G,aj pa s])) (q:=(fun k (y:Code×KF)=>y.1=.exit 0/\bB (h / 128) n T.cells t key=y.2)) (Jx:=(fun k y=>[pt b11 (.cells #[.int .i64 y.2.slot,.int .i64 y.2.vac,.bool y.2.emp,.int .i64 y.2.probes] 224 (0,0)),pt b9 (.cells #[.int .i64 T.used,.int .i64 (8*(n:Int)),.int .i64 T.left,.int .i64 T.depth,.int .i64 T.pins,.int .i64 T.next,.bool (decide (T.kind=4)),.int .i64 (go:Nat)] 147 (0,0)),G,aj pa s])) (x0:=()) (hc:=rD _ _ (h / 128) ⟨by omega,by omega⟩ he hn) (hr:=rfl) (hg:=rfl)
 ·exact pk
 ·(intro j hj;omega)
 ·(try dsimp only);(try simp only[Int.natCast_zero,Nat.sub_zero]);exact pk
 ·rfl
 ·(intro x hx;simp only[Ah,List.mem_map] at hx;obtain⟨_,_,rfl⟩:=hx;rfl)
 ·intro ll rc Fr' w1 k x jj hrd hpn hx hj
  obtain⟨hk',rfl⟩:=xJ hx
  rw[<- l9 hn0]
  have hgk:=nr (home:=h / 128) (k:=k) hn0
  have hgin:gk (h / 128) n k*gN l+gN l<=n*gN l:=by have:=Nat.mul_le_mul_right (gN l) (show gk (h / 128) n k+1<=n by omega);rw[Nat.add_mul] at this;omega
  have hgood:bt s ((go+gk (h / 128) n k*gN l:Nat):Int) l.group:=by rw[<- hN.g];exact bt.sub hgg (by omega) (by omega) (by omega)
  have hG':=hT.body _ hgk
  have hok':∀ i,i < 8->(ck T.cells (gk (h / 128) n k) i).ok l:=fun i hi=>hT.okc _ (by omega)
  refine aZ ?_
  refine aD<|iu O sj O fun b12=>st O O O aN O ?_
  refine ai ?_
  apply kV
  ·exact tk
  ·assumption
  refine aB<|sr<|ad O (aO O bA aM) ?_
  refine ad O (aO O eY cl) ?_
  refine ad O (aI O aX) ?_
  refine bF O O O (nq pa off go (gk (h / 128) n k) n l hl T _ rfl (by omega)) ?_
  refine ay O o6 fun b13=>bZ O O O dO O O ?_
  refine lz<|ad O (aO O eG dO) ?_
  refine bF O O O (tr pa (go+gk (h / 128) n k*gN l) s l (ck T.cells (gk (h / 128) n k)) hl hgood hG' hok') ?_
  refine mv O O<|ad O (aa O ga) ?_
  refine ad O (aa O ga) ?_
  refine ar O O<|ar O O<|lc<|al<|sr<|mv O O<|ad O (qi O O (bf ·))<|lc<|aG O (fun z2=>?_) fun z2=>?_
  ·exact absurd rfl z2
  refine aq<|nz<|ad O (aE 3 O eF O O aN)<|ad O (aI O aX) ?_
  refine ad O (bn O O) ?_
  refine ad O (aE 3 O eF O O aN)<|st O O O aN O ?_
  refine lc<|al<|sr<|mv O O<|ad O (aI O fV) ?_
  refine bF O O O (tu h hh t htt) ?_
  refine bF O O O (CI _ (ld hok') t ht128) ?_
  refine cT O O O (Gi _) ?_
  rintro v L' ⟨b68,rfl,rfl⟩
  refine bx ?_
  refine lc<|aB ?_
  have hsel:∀ j (hj:j < (bE (sS (ck T.cells (gk (h / 128) n k)) t)).length),(bE (sS (ck T.cells (gk (h / 128) n k)) t))[j] < 8:=fun j hj=>(dB.1 (List.getElem_mem hj)).1
  apply tV (p:=(fun i (_:Unit)=>∀ j (hj:j < (bE (sS (ck T.cells (gk (h / 128) n k)) t)).length),j < i->(ck T.cells (gk (h / 128) n k) (bE (sS (ck T.cells (gk (h / 128) n k)) t))[j]).keyS≠key)) (J:=(fun i _=>[pt b13 (.cells #[.pointer (some ⟨pa,0,none⟩),.int .i64 l.key,.int .i64 l.elem,.int .i64 l.ka,.int .i64 l.ea,.int .i64 l.cap,.int .i64 l.eo,.int .i64 l.bo,.int .i64 l.slot,.int .i64 l.group,.int .i64 ((go+gk (h / 128) n k*gN l:Nat):Int)] 182 (0,0)),pt b12 (.cells #[.int .i64 ((gk (h / 128) n k:Nat):Int)] 3 (0,0)),pt b5 (.cells #[.string key] 9 (0,0)),pt b11 (.cells #[.int .i64 (-1),.int .i64 (ez (h / 128) n T.cells k),.bool (fw (h / 128) n T.cells k),.int .i64 (((k:Nat):Int)+1)] 224 (0,0)),aj pa s])) (q:=(fun i (y:Code×Unit)=>y.1=.exit 0/\eR (h / 128) n T.cells t key k < 8)) (Jx:=(fun i y=>[pt b11 (.cells #[.int .i64 (8*((gk (h / 128) n k:Nat):Int)+((eR (h / 128) n T.cells t key k:Nat):Int)),.int .i64 (ez (h / 128) n T.cells k),.bool (fw (h / 128) n T.cells k),.int .i64 (((k:Nat):Int)+1)] 224 (0,0)),aj pa s])) (x0:=()) (hc:=Gj G hG b68 _) (hr:=rfl) (hg:=rfl)
  ·exact tk
  ·exact pk
  ·(intro j hj;omega)
  ·(try dsimp only);(try simp only[Int.natCast_zero,Nat.sub_zero]);exact pk
  ·rfl
  ·(intro x hx;simp only[jW,List.mem_map] at hx;obtain⟨_,_,rfl⟩:=hx;rfl)
  ·intro ll2 rc2 Fr2 w2 i x2 jj2 hrd2 hpn2 hx2 hj2
   obtain⟨hi2,rfl⟩:=vZ hx2
   have hs8:=hsel i hi2
   refine aZ ?_
   refine aD<|ar O O<|ai ?_
   apply kV
   ·exact tk
   ·assumption
   refine aB<|sr<|ad O (aO O eG dO) ?_
   refine mv O O<|bF O O O (tB pa (go+gk (h / 128) n k*gN l) s l (ck T.cells (gk (h / 128) n k)) hl hgood hG' hok' _ hs8) ?_
   refine mv O O<|ad O (aa O ga) ?_
   refine ad O (aa O ga) ?_
   refine ay O dF fun b17=>bZ O O O bV O O ?_
   refine ar O O<|lz<|ad O (aE 2 O cq O O fA)<|ad O (aI O fS) ?_
   refine ad O (aI O fS) ?_
   refine ad O (qs O O (lO ·))<|lc<|aG O (fun q=>?_) fun q=>?_
   ·have hfi:eR (h / 128) n T.cells t key k=(bE (sS (ck T.cells (gk (h / 128) n k)) t))[i]:=FI hok' ht128 hi2 hj2 q
    rw[show(bE fun i=>ny (ck T.cells (gk (h / 128) n k)) i == t)[i]=eR (h / 128) n T.cells t key k from hfi.symm]
    refine sr<|ad O (aI O aX) ?_
    refine ad O (dA O O) ?_
    refine mv O O<|ad O (bn O O) ?_
    refine ad O (aE 0 O eF O O aN)<|st O O O aN O ?_
    refine lc<|xe O ?_
    apply nO (.inr ⟨_,rfl,rfl⟩) (()) (⟨rfl,by rw[hfi];exact hs8⟩)
    exact en
   refine aq<|bz ?_
   apply kS (by assumption) (by assumption) (()) (fun j hj' hji=>by by_cases e1:j=i;(subst e1;exact q);exact hj2 j hj' (by omega))
   exact en
  ·intro jj2 hj2
   rw[vY] at hj2
   have hnh:¬ eR (h / 128) n T.cells t key k < 8:=by have:=BM hok' ht128 (key:=key) (fun j hj=>hj2 j hj hj);unfold eR;omega
   refine oJ ?_
   refine bz<|an<|al<|sr<|mv O O<|bF O O O (sh hok') ?_
   refine bF O O O (lR G hG (iD (ck T.cells (gk (h / 128) n k)))) ?_
   refine ar O O<|lz<|mv O O<|ad O (qi O O (bj ·))<|mv O O<|bQ (t:=90) rfl (fun p1=>?_) fun p1=>?_
   ·refine aA O O<|ad O (aE 1 O eF O O aN)<|aA O O<|ad O (aI O aX) ?_
    refine aA O O<|ad O (qi O O (bj ·))<|ad O (aS O O)<|lc<|aG O (fun p2=>?_) fun p2=>?_
    ·refine sr<|ad O (aI O aX) ?_
     refine ad O (dA O O) ?_
     refine mv O O<|ad O (bn O O) ?_
     refine ad O (aE 1 O eF O O aN)<|st O O O aN O ?_
     refine lr<|mv O O ?_
     have hvt:=Aw (home:=h / 128) (n:=n) (cells:=T.cells) (k:=k) p2 (by unfold dm;omega)
     have hva:ez (h / 128) n T.cells (k+1)=8*((gk (h / 128) n k:Nat):Int)+((cm (iD (ck T.cells (gk (h / 128) n k))):Nat):Int):=hvt.1
     have hvb:fw (h / 128) n T.cells (k+1)=eh (ck T.cells (gk (h / 128) n k)) (cm (iD (ck T.cells (gk (h / 128) n k)))):=hvt.2
     refine bF O O O (ie hok') ?_
     refine mv O O<|bF O O O (CK (eh (ck T.cells (gk (h / 128) n k))) (cm (iD (ck T.cells (gk (h / 128) n k)))) (by omega)) ?_
     refine ad O (aE 2 O eF O O j6)<|st O O O j6 O ?_
     refine lz<|mv O O<|bF O O O (ie hok') ?_
     refine bF O O O (lR G hG (eh (ck T.cells (gk (h / 128) n k)))) ?_
     refine ad O (qi O O (bj ·))<|lc ?_
     rw[<- hva,<- hvb]
     refine aG O (fun em=>?_) fun em=>?_
     ·refine xe O ?_
      apply nO (.inr ⟨_,rfl,rfl⟩) (⟨-1,ez (h / 128) n T.cells (k+1),fw (h / 128) n T.cells (k+1),(k:Int)+1⟩) (⟨rfl,jf hk' hj hnh (by unfold fo;omega)⟩)
      exact en
     refine aq<|bz ?_
     apply kS (by assumption) (by assumption) (()) (fun i hi=>by by_cases q:i=k;(subst q;unfold eC;simp[hnh];show 8<=cm _;omega);exact hj i (by omega))
     exact en
    refine aq<|nz<|mv O O ?_
    obtain⟨hva,hvb⟩:=tR (home:=h / 128) (n:=n) (cells:=T.cells) (k:=k) (.inl p2)
    refine bF O O O (ie hok') ?_
    refine bF O O O (lR G hG (eh (ck T.cells (gk (h / 128) n k)))) ?_
    refine ad O (qi O O (bj ·))<|lc ?_
    rw[<- hva,<- hvb]
    refine aG O (fun em=>?_) fun em=>?_
    ·refine xe O ?_
     apply nO (.inr ⟨_,rfl,rfl⟩) (⟨-1,ez (h / 128) n T.cells (k+1),fw (h / 128) n T.cells (k+1),(k:Int)+1⟩) (⟨rfl,jf hk' hj hnh (by unfold fo;omega)⟩)
     exact en
    refine aq<|bz ?_
    apply kS (by assumption) (by assumption) (()) (fun i hi=>by by_cases q:i=k;(subst q;unfold eC;simp[hnh];show 8<=cm _;omega);exact hj i (by omega))
    exact en
   refine ax O O O O<|ax O O O O<|ax O O O O<|ad O (aS O O)<|lc<|cQ O<|aq<|nz<|mv O O ?_
   obtain⟨hva,hvb⟩:=tR (home:=h / 128) (n:=n) (cells:=T.cells) (k:=k) (.inr (by unfold dm;omega))
   refine bF O O O (ie hok') ?_
   refine bF O O O (lR G hG (eh (ck T.cells (gk (h / 128) n k)))) ?_
   refine ad O (qi O O (bj ·))<|lc ?_
   rw[<- hva,<- hvb]
   refine aG O (fun em=>?_) fun em=>?_
   ·refine xe O ?_
    apply nO (.inr ⟨_,rfl,rfl⟩) (⟨-1,ez (h / 128) n T.cells (k+1),fw (h / 128) n T.cells (k+1),(k:Int)+1⟩) (⟨rfl,jf hk' hj hnh (by unfold fo;omega)⟩)
    exact en
   refine aq<|bz ?_
   apply kS (by assumption) (by assumption) (()) (fun i hi=>by by_cases q:i=k;(subst q;unfold eC;simp[hnh];show 8<=cm _;omega);exact hj i (by omega))
   exact en
  rintro i ⟨jc,yy⟩ hi2 ⟨rfl,hhit⟩
  refine aZ ?_
  refine xe O ?_
  apply nO (.inr ⟨_,rfl,rfl⟩) (⟨8*((gk (h / 128) n k:Nat):Int)+((eR (h / 128) n T.cells t key k:Nat):Int),ez (h / 128) n T.cells k,fw (h / 128) n T.cells k,(k:Int)+1⟩) (⟨rfl,mF hk' hj hhit⟩)
  exact en
 ·intro b jj hj
  rw[kK] at hj ⊢
  have hsr:=ly (home:=h / 128) (n:=n) (cells:=T.cells) (tag:=t) (key:=key) hj
  refine oJ ?_
  refine bz<|an<|al<|aY mixed ?_
  apply dq 0 O (yq (aO O eY cl))
  apply dq 1 O (yq (aO O oo fN))
  refine ak [0] [1] 2 [(6,_),(109,_)] gO ⟨rfl,rfl,trivial⟩ (by kernel_rfl) (by kernel_rfl) fun Ex=>?_
  refine bZ O O O cl O O ?_
  refine ai ?_
  refine aQ ⟨ya O O (yq (aO O oo fN)),trivial⟩ ?_
  refine ak [1] [] 3 [(7,_),(110,_)] gO ⟨rfl,rfl,trivial⟩ (by kernel_rfl) (by kernel_rfl) fun Ex=>?_
  refine bZ O O O fN O O ?_
  refine ai ?_
  refine aQ trivial ?_
  refine ak [] [] 4 [(8,_)] gO ⟨rfl,trivial⟩ (by kernel_rfl) (by kernel_rfl) fun Ex=>?_
  refine st O O O fU O ?_
  refine ai ?_
  refine aQ trivial ?_
  refine aV (by kernel_rfl) ?_
  refine an<|rt ?_
  rw[hsr]
  apply s6 (.inl rfl) [b] ([G,aj pa s])
  ·repeat (first | with_reducible exact gQ.nil | apply gQ.cons | with_reducible exact Take.here | apply Take.there)
  ·apply oG O
   ·apply Rv.agg rfl
    ·exact tk
    exact aJ eY cl O
   ·apply Rv.agg rfl
    ·exact tk
    exact aJ oo fN O
   apply Rv.cellL rfl
   ·exact tk
   ·exact ga
   exact iO
  ·exact⟨rfl,rfl⟩
  exact en
 rintro b k ⟨jc,F⟩ hk2 ⟨rfl,hsr⟩
 refine aZ ?_
 refine xt O<|an<|al<|aY mixed ?_
 apply dq 0 O (yq (aO O eY cl))
 apply dq 1 O (yq (aO O oo fN))
 refine ak [0] [1] 2 [(6,_),(109,_)] gO ⟨rfl,rfl,trivial⟩ (by kernel_rfl) (by kernel_rfl) fun Ex=>?_
 refine bZ O O O cl O O ?_
 refine ai ?_
 refine aQ ⟨ya O O (yq (aO O oo fN)),trivial⟩ ?_
 refine ak [1] [] 3 [(7,_),(110,_)] gO ⟨rfl,rfl,trivial⟩ (by kernel_rfl) (by kernel_rfl) fun Ex=>?_
 refine bZ O O O fN O O ?_
 refine ai ?_
 refine aQ trivial ?_
 refine ak [] [] 4 [(8,_)] gO ⟨rfl,trivial⟩ (by kernel_rfl) (by kernel_rfl) fun Ex=>?_
 refine st O O O fU O ?_
 refine ai ?_
 refine aQ trivial ?_
 refine aV (by kernel_rfl) ?_
 refine an<|rt ?_
 rw[hsr]
 apply s6 (.inl rfl) [b] ([G,aj pa s])
 ·repeat (first | with_reducible exact gQ.nil | apply gQ.cons | with_reducible exact Take.here | apply Take.there)
 ·apply oG O
  ·apply Rv.agg rfl
   ·exact tk
   exact aJ eY cl O
  ·apply Rv.agg rfl
   ·exact tk
   exact aJ oo fN O
  apply Rv.cellL rfl
  ·exact tk
  ·exact ga
  exact iO
 ·exact⟨rfl,rfl⟩
 exact en
end Table
end Go.Proofs.YthkajgkagnenbaaGreatDoor
