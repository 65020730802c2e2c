import Derived.Test.YthkajgkagnenbaaGreatDoorRef04B
import Derived.Test.YthkajgkagnenbaaGreatDoorSmallP
set_option linter.unusedVariables false
set_option linter.unusedSimpArgs false
set_option linter.unusedSectionVars false
namespace Go.Proofs.YthkajgkagnenbaaGreatDoor
section
set_option maxRecDepth 100000
namespace Cells
open Go.RowKit Go.Proofs Eng Bits GroupB Group TableB TableI
def bI (c:Cell):List Value:=[.int .i64 c.kind,.int .i64 c.tagI,.string c.keyS,.string c.elemS,.int .i64 c.birthI]
theorem lt8 {j:Nat} (h:j < 8):j=0∨j=1∨j=2∨j=3∨j=4∨j=5∨j=6∨j=7:=by omega
abbrev ni (cs:Nat→Cell):List Value:=[.int .i64 (cs 0).kind,.int .i64 (cs 0).tagI,.string (cs 0).keyS,.string (cs 0).elemS,.int .i64 (cs 0).birthI,
 .int .i64 (cs 1).kind,.int .i64 (cs 1).tagI,.string (cs 1).keyS,.string (cs 1).elemS,.int .i64 (cs 1).birthI,
 .int .i64 (cs 2).kind,.int .i64 (cs 2).tagI,.string (cs 2).keyS,.string (cs 2).elemS,.int .i64 (cs 2).birthI,
 .int .i64 (cs 3).kind,.int .i64 (cs 3).tagI,.string (cs 3).keyS,.string (cs 3).elemS,.int .i64 (cs 3).birthI,
 .int .i64 (cs 4).kind,.int .i64 (cs 4).tagI,.string (cs 4).keyS,.string (cs 4).elemS,.int .i64 (cs 4).birthI,
 .int .i64 (cs 5).kind,.int .i64 (cs 5).tagI,.string (cs 5).keyS,.string (cs 5).elemS,.int .i64 (cs 5).birthI,
 .int .i64 (cs 6).kind,.int .i64 (cs 6).tagI,.string (cs 6).keyS,.string (cs 6).elemS,.int .i64 (cs 6).birthI,
 .int .i64 (cs 7).kind,.int .i64 (cs 7).tagI,.string (cs 7).keyS,.string (cs 7).elemS,.int .i64 (cs 7).birthI]
theorem xX {cs:Nat→Cell} {i:Int} {j:Nat} (hi:i=(j:Nat)) (hj:j < 8):(ni cs).toArray.extract (i.toNat*5) (i.toNat*5+5)=#[.int .i64 (cs j).kind,.int .i64 (cs j).tagI,.string (cs j).keyS,.string (cs j).elemS,.int .i64 (cs j).birthI]:=by
 subst hi
 rw[Int.toNat_natCast]
 rcases lt8 hj with rfl | rfl | rfl | rfl | rfl | rfl | rfl | rfl <;> rfl
theorem Av {cs:Nat→Cell} {i:Int} {j:Nat} (hi:i=(j:Nat)) (hj:j < 8) (c:Cell):setCells (ni cs).toArray (0+i.toNat*5) (bI c)=(ni (bU cs j c)).toArray:=by
 subst hi
 rw[Int.toNat_natCast]
 rcases lt8 hj with rfl | rfl | rfl | rfl | rfl | rfl | rfl | rfl <;> simp only[setCells,bI,ni,List.setIfInBounds_toArray,List.set,bU,Nat.zero_add,Nat.zero_mul,Nat.add_zero,Nat.reduceMul,Nat.reduceAdd,Nat.reduceEqDiff,if_true,if_false,↓reduceIte]
theorem Cg {cs:Nat→Cell} {i:Int} {j n:Nat} (hi:i=(j:Nat)) (hj:j < 8) (hn:n≤5):Nat.ble (0+i.toNat*5+n) (ni cs).toArray.size=true:=Nat.ble_eq_true_of_le (by
 subst hi;rw[Int.toNat_natCast];show _≤40;omega)
theorem qB {c:Cell}:c.kind=2↔isFull c=true:=by cases c <;> simp[Cell.kind,isFull]
def tJ (cs:Nat→Cell) (j:Nat):Nat→Cell:=fun i=>if i < j then cs i else .empty
theorem xE (cs:Nat→Cell) (j:Nat):bU (tJ cs j) j (cs j)=tJ cs (j+1):=by
 funext i
 unfold bU tJ
 by_cases q:i=j
 ·subst q;simp
 by_cases r:i < j
 ·simp[q,r,show i < j+1 by omega]
 simp[q,r,show ¬ i < j+1 by omega]
theorem Aw (cs:Nat→Cell):(ni (tJ cs 8)).toArray.extract 0 (0+40)=(ni cs).toArray:=by
 have e:ni (tJ cs 8)=ni cs:=by simp[tJ]
 rw[e]
 exact Array.extract_size
def iV (cs:Nat→Cell) (N:Nat):List (List Value):=((List.range N).filter fun i=>isFull (cs i)).map fun i=>[.int .i64 (i:Nat),.agg #[.int .i64 (cs i).kind,.int .i64 (cs i).tagI,.string (cs i).keyS,.string (cs i).elemS,.int .i64 (cs i).birthI]]
theorem oT (p:Nat→Bool):∀ {N i:Nat},i < N→p i=true→((List.range N).filter p)[(List.range i).countP p]?=some i
 | 0,i,h,_=>by omega
 | N+1,i,h,hp=>by
  rw[List.range_succ,List.filter_append]
  by_cases q:i=N
  ·subst q
   rw[List.countP_eq_length_filter,List.getElem?_append_right (Nat.le_refl _),Nat.sub_self]
   simp[hp]
  have ih:=oT p (N:=N) (i:=i) (by omega) hp
  rw[List.getElem?_append_left (List.getElem?_eq_some_iff.1 ih).1]
  exact ih
theorem fZ (cs:Nat→Cell) (N:Nat):(iV cs N).length=cnt isFull cs N:=by
 unfold iV cnt
 rw[List.length_map,List.countP_eq_length_filter]
theorem u9 {cs:Nat→Cell} {N i:Nat} (hi:i < N) (h:isFull (cs i)=true):(iV cs N)[cnt isFull cs i]?=some [.int .i64 (i:Nat),.agg #[.int .i64 (cs i).kind,.int .i64 (cs i).tagI,.string (cs i).keyS,.string (cs i).elemS,.int .i64 (cs i).birthI]]:=by
 unfold iV cnt
 rw[List.getElem?_map,oT (fun i=>isFull (cs i)) hi h];rfl
theorem o5 {cs:Nat→Cell} {N:Nat}:∀ x∈iV cs N,x.length=2:=fun x hx=>by
 unfold iV at hx
 obtain⟨i,_,rfl⟩:=List.mem_map.1 hx
 rfl
theorem qO {cs:Nat→Cell} {N k:Nat} {x:List Value} (h:(iV cs N)[k]?=some x):∃ i,i < N∧isFull (cs i)=true∧cnt isFull cs i=k∧x= [.int .i64 (i:Nat),.agg #[.int .i64 (cs i).kind,.int .i64 (cs i).tagI,.string (cs i).keyS,.string (cs i).elemS,.int .i64 (cs i).birthI]]:=by
 have hk:=(List.getElem?_eq_some_iff.1 h).1
 unfold iV at h
 rw[List.getElem?_map,Option.map_eq_some_iff] at h
 obtain⟨i,hi,rfl⟩:=h
 have hm:=List.mem_of_getElem? hi
 rw[List.mem_filter,List.mem_range] at hm
 refine⟨i,hm.1,hm.2,?_,rfl⟩
 have h2:=oT (fun i=>isFull (cs i)) hm.1 hm.2
 have hk2:k < ((List.range N).filter fun i=>isFull (cs i)).length:=(List.getElem?_eq_some_iff.1 hi).1
 have hnd:((List.range N).filter fun i=>isFull (cs i)).Nodup:=List.Nodup.sublist List.filter_sublist List.nodup_range
 exact(List.getElem?_inj (List.getElem?_eq_some_iff.1 h2).1 hnd).1 (h2.trans hi.symm)
theorem mD {p:Cell→Bool} {cs:Nat→Cell} {i j:Nat} (h:i≤j):cnt p cs i≤cnt p cs j:=by
 induction j with
 | zero=>rw[Nat.le_zero.1 h];exact Nat.le_refl _
 | succ j ih=>
  by_cases q:i=j+1
  ·rw[q];exact Nat.le_refl _
  have:=ih (by omega)
  rw[ff];omega
end Cells
end
section
set_option maxRecDepth 100000
namespace Table
open Go.RowKit Go.Proofs Eng Ty Bits Mem Search Arena CtrlB Ctrl Layout GroupB Group Probe TableB TableI
section
variable (G:HP) (hG:dx G) (pa off go n e:Nat) (s:ArS) (l:Lay) (T:Tb) (hP:eK s off go l n e T)
include hP
theorem nc {g:Nat} (hok:s.ok) (hg:g < n) (i:Int) (hi:i=(g:Nat)):aG Tryz.prog 136 #[.agg #[.pointer (some ⟨pa,0,none⟩),.int .i64 l.key,.int .i64 l.elem,.int .i64 l.ka,.int .i64 l.ea,.int .i64 l.cap,.int .i64 l.eo,.int .i64 l.bo,.int .i64 l.slot,.int .i64 l.group,.int .i64 (off:Nat)],.agg #[.int .i64 T.used,.int .i64 (8*(n:Int)),.int .i64 T.left,.int .i64 T.depth,.int .i64 T.pins,.int .i64 T.next,.bool (decide (T.kind=4)),.int .i64 (go:Nat)],.int .i64 i] [] (fun v L=>v=.agg #[.pointer (some ⟨pa,0,none⟩),.int .i64 l.key,.int .i64 l.elem,.int .i64 l.ka,.int .i64 l.ea,.int .i64 l.cap,.int .i64 l.eo,.int .i64 l.bo,.int .i64 l.slot,.int .i64 l.group,.int .i64 ((go+g*gN l:Nat):Int)]∧L= []):=by
 refine tI pa off go g n l hP.hl T i hi ?_
 have h1:=aN.end_le hok hP.gg
 have h2:=hok.stop_eq
 obtain⟨_,_,_,h3⟩:=hP.grpAt hg
 omega
include hG
theorem uD (h:Int) (hh:0≤h∧h < 18446744073709551616) (key:ByteArray) (hk:key.size=kN l):
  aG Tryz.prog 135 #[.agg #[.pointer (some ⟨pa,0,none⟩),.int .i64 l.key,.int .i64 l.elem,.int .i64 l.ka,.int .i64 l.ea,.int .i64 l.cap,.int .i64 l.eo,.int .i64 l.bo,.int .i64 l.slot,.int .i64 l.group,.int .i64 (off:Nat)],.int .u64 h,.string key] [G,ae pa s]
   (fun v L=>v=.tuple #[.agg #[.int .i64 T.used,.int .i64 (8*(n:Int)),.int .i64 T.left,.int .i64 T.depth,.int .i64 T.pins,.int .i64 T.next,.bool (decide (T.kind=4)),.int .i64 (go:Nat)],.agg #[.int .i64 (bt (h / 128) n T.cells (h % 128) key).slot,.int .i64 (bt (h / 128) n T.cells (h % 128) key).vac,.bool (bt (h / 128) n T.cells (h % 128) key).emp,.int .i64 (bt (h / 128) n T.cells (h % 128) key).probes],.int .i64 0]∧L= [G,ae pa s]):=
 wW G hG pa off go n e s l T hP.hl hP.he hP.hn hP.hT hP.gh hP.gg hP.hr h hh key hk
theorem DX (h:Int) (hh:0≤h∧h < 18446744073709551616) (key elem:ByteArray) (hk:key.size=kN l) (he:elem.size=eN l) (birth:Int) (hb:0≤birth∧birth < 9223372036854775808) (hu:0≤T.used∧T.used≤1099511627776) (hlf:0≤T.left∧T.left≤1099511627776):
  aG Tryz.prog 53 #[.agg #[.pointer (some ⟨pa,0,none⟩),.int .i64 l.key,.int .i64 l.elem,.int .i64 l.ka,.int .i64 l.ea,.int .i64 l.cap,.int .i64 l.eo,.int .i64 l.bo,.int .i64 l.slot,.int .i64 l.group,.int .i64 (off:Nat)],.int .u64 h,.string key,.string elem,.int .i64 birth] [G,ae pa s]
   (fun v L=>∃ s',v=.tuple #[.int .i64 (eO n T h key elem birth).1,.int .i64 0]∧L= [G,ae pa s']∧eK s' off go l n e (eO n T h key elem birth).2∧da s s' off go (n*gN l)):=by
 have hn:=hP.n0
 have hN:=eP hP.hl
 have hes:(elem.size:Int)=l.elem:=by rw[he];exact hN.e
 refine aq Ht Tryz.func53 rfl rfl rfl fun Fr w0=>aR ?_
 refine cH (φ:=s.ok) (fun w hw=>bR hw (.there .here)) fun hok0=>?_
 refine sr<|aP rfl rfl fun b5=>asg rfl rfl<|asg rfl rfl<|lz<|l_q rfl (aK rfl gl ei) ?_
 refine mv rfl rfl<|mv rfl rfl<|lc1 rfl rfl rfl (uD G hG pa off go n e s l T hP h hh key hk) ?_
 refine mv rfl rfl<|l_q rfl (aa rfl ga) ?_
 refine l_q rfl (aa rfl ga) ?_
 refine l_q rfl (aa rfl ga) ?_
 refine az rfl sj fun b12=>az rfl vC fun b13=>sta rfl rfl rfl iD rfl rfl ?_
 refine sta rfl rfl rfl lj rfl rfl ?_
 refine asg rfl rfl<|lc<|ah<|ay<|sr<|mv rfl rfl<|l_q rfl (qi rfl rfl (aI ·))<|asg rfl rfl<|lc<|aA rfl (fun z=>?_) fun z=>?_
 ·exact absurd rfl z
 refine sr<|mv rfl rfl<|l_q rfl (qls rfl yU9)<|l_q rfl (qfa 1 rfl pD rfl rfl aZ)<|l_q rfl (qfa 1 rfl bJ rfl rfl yS3)<|l_q rfl (qld rfl yA3) ?_
 refine l_q rfl (qi rfl rfl (aI ·))<|asg rfl rfl<|lc<|aA rfl (fun y=>?_) fun y=>?_
 ·omega
 refine sr<|mv rfl rfl<|l_q rfl (qi rfl rfl (aS ·))<|asg rfl rfl<|lc<|aA rfl (fun x=>?_) fun x=>?_
 ·omega
 refine sr<|l_q rfl (qfa 0 rfl eu rfl rfl yS3)<|l_q rfl (qld rfl yA3) ?_
 refine l_q rfl (qi rfl rfl (gL ·))<|asg rfl rfl<|lc ?_
 rcases uK hP h key elem birth with⟨g,i,e0,b0,hg,hi,hs,hc,hp⟩ | ⟨hs,hv,hp⟩ | ⟨g,i,hg,hi,hs,hv,hnf,hem,hno,hp⟩
 ·rw[hp,hs]
  obtain⟨hgood,hG',hok',hin⟩:=hP.grpAt hg
  have hcok:=hok' i hi
  have hcg:cy T.cells g i=.full (h % 128) key e0 b0:=hc
  rw[hcg] at hcok
  refine aA rfl (fun q=>?_) fun q=>?_
  ·refine ah<|aT mixed ?_
   apply dq 0 rfl
   ·exact yq (aK rfl gl ei)
   apply dq 1 rfl
   ·exact yq (aK rfl l5 iD)
   apply dq 2 rfl
   ·exact yq (qfa 0 rfl eu rfl rfl yS3)
   apply dq 3 rfl
   ·exact yq (qld rfl yA3)
   apply dq 4 rfl
   ·exact yq (gH rfl rfl)
   apply dq 6 rfl
   ·exact yq (qfa 0 rfl eu rfl rfl yS3)
   apply dq 7 rfl
   ·exact yq (qld rfl yA3)
   apply dq 8 rfl
   ·exact yq (iR rfl rfl)
   apply dq 9 rfl
   ·exact yq (ai rfl)
   refine an [0,1,4,3,2] [9,8,7,6] 5 [(42,_),(43,_),(46,_)] gO ⟨rfl,rfl,rfl,trivial⟩ (by kernel_rfl) (by kernel_rfl) fun Ex=>?_
   refine lc1 rfl rfl rfl (nc pa off go n e s l T hP hok0 hg _ (by omega)) ?_
   refine aj ?_
   apply n_d
   ·refine⟨?_,?_,?_,?_,trivial⟩
    ·apply ya rfl rfl;exact yq (ai rfl)
    ·apply ya rfl rfl;exact yq (iR rfl rfl)
    ·apply ya rfl rfl;exact yq (qld rfl yA3)
    apply ya rfl rfl;exact yq (qfa 0 rfl eu rfl rfl yS3)
   refine an [8,9,7,6] [] 10 [(47,_),(50,_),(51,_)] gO ⟨rfl,rfl,rfl,trivial⟩ (by kernel_rfl) (by kernel_rfl) fun Ex=>?_
   rw[show((8*g+i:Nat):Int) % 8=((i:Nat):Int) by omega]
   refine lc1 rfl rfl rfl (ph pa (go+g*gN l) s l (cy T.cells g) hP.hl hgood hG' hok' i (h % 128) key e0 elem b0 hi hcg he) ?_
   refine aj ?_
   apply n_d
   ·exact trivial
   refine an [] [] 11 [] gO trivial (by kernel_rfl) (by kernel_rfl) fun Ex=>?_
   refine asg rfl rfl<|aj ?_
   apply n_d
   ·exact trivial
   refine an [] [] 12 [(52,_)] gO ⟨rfl,trivial⟩ (by kernel_rfl) (by kernel_rfl) fun Ex=>?_
   refine asg rfl rfl<|aj ?_
   apply n_d
   ·exact trivial
   refine bj (by kernel_rfl) ?_
   refine ak<|rt ?_
   have hw:=hP.cell hg hi (c:=.full (h % 128) key elem b0) (by obtain⟨c1,c2,c3,c4,c5⟩:=hcok;exact⟨c1,c2,c3,he,c5⟩)
   exact fr2 rfl ([G,ae pa (s.put (go+g*gN l) (gN l) (df l (bU (cy T.cells g) i (.full (h % 128) key elem b0))))]) (.tmp rfl) (.tmp rfl) ⟨_,rfl,rfl,hw⟩
  omega
 ·rw[hp]
  refine aA rfl (fun q=>?_) fun q=>?_
  ·omega
  refine sr<|l_q rfl (qfa 1 rfl eu rfl rfl yS3)<|l_q rfl (qld rfl yA3) ?_
  refine l_q rfl (qi rfl rfl (aS ·))<|mv rfl rfl<|bE (t:=57) rfl (fun v1=>?_) fun v1=>?_
  ·exact ar rfl rfl rfl rfl<|ar rfl rfl rfl rfl<|ar rfl rfl rfl rfl<|cf rfl rfl rfl<|cf rfl rfl rfl<|cf rfl rfl rfl<|ar rfl rfl rfl rfl<|l_q rfl (aL rfl rfl)<|asg rfl rfl<|lc<|aX rfl<|sr<|asg rfl rfl<|asg rfl rfl<|lc<|rt<|fr2 rfl ([G,ae pa s]) (.tmp rfl) (.tmp rfl) ⟨s,rfl,rfl,hP,da.refl _ _ _ _⟩
  refine au rfl rfl<|l_q rfl (qfa 2 rfl eu rfl rfl yS4)<|au rfl rfl<|l_q rfl (qld rfl yA4) ?_
  refine au rfl rfl<|mv rfl rfl ?_
  have hv2:=hv.resolve_left v1
  refine bE (t:=60) rfl (fun v2=>?_) fun v2=>?_
  ·refine au rfl rfl<|l_q rfl (qfa 2 rfl nt rfl rfl yS3)<|au rfl rfl<|l_q rfl (qld rfl yA3) ?_
   refine au rfl rfl<|l_q rfl (qi rfl rfl (aW ·))<|au rfl rfl<|l_q rfl (aL rfl rfl)<|l_q rfl (aL rfl rfl)<|asg rfl rfl<|lc<|aA rfl (fun v3=>?_) fun v3=>?_
   ·exact sr<|asg rfl rfl<|asg rfl rfl<|lc<|rt<|fr2 rfl ([G,ae pa s]) (.tmp rfl) (.tmp rfl) ⟨s,rfl,rfl,hP,da.refl _ _ _ _⟩
   exact absurd hv2.2 v3
  rw[hv2.1] at v2;cases v2
 rw[hp]
 obtain⟨hgood,hG',hok',hin⟩:=hP.grpAt hg
 obtain⟨t,htt,ht128⟩:∃ t:Nat,h % 128=(t:Nat)∧t < 128:=⟨(h % 128).toNat,by omega,by omega⟩
 have hcell:(Cell.full (h % 128) key elem birth).ok l:=⟨by omega,by omega,hk,he,hb.1,hb.2⟩
 have hw:=hP.cell hg hi hcell
 rw[hv,hem]
 refine aA rfl (fun q=>?_) fun q=>?_
 ·omega
 refine sr<|l_q rfl (qfa 1 rfl eu rfl rfl yS3)<|l_q rfl (qld rfl yA3) ?_
 refine l_q rfl (qi rfl rfl (aS ·))<|mv rfl rfl<|bE (t:=57) rfl (fun v1=>?_) fun v1=>?_
 ·omega
 refine au rfl rfl<|l_q rfl (qfa 2 rfl eu rfl rfl yS4)<|au rfl rfl<|l_q rfl (qld rfl yA4) ?_
 refine au rfl rfl<|mv rfl rfl<|bE (t:=60) rfl (fun v2=>?_) fun v2=>?_
 ·refine au rfl rfl<|l_q rfl (qfa 2 rfl nt rfl rfl yS3)<|au rfl rfl<|l_q rfl (qld rfl yA3) ?_
  refine au rfl rfl<|l_q rfl (qi rfl rfl (aW ·))<|au rfl rfl<|l_q rfl (aL rfl rfl)<|l_q rfl (aL rfl rfl)<|asg rfl rfl<|lc<|aA rfl (fun v3=>?_) fun v3=>?_
  ·exact absurd ⟨v2,v3⟩ hno
  have w1:=hw.1.word (T':={T with used:=T.used+1,cells:=bU T.cells (8*g+i) (.full (h % 128) key elem birth)}) (k:=3) (v:=T.used+1) (by decide) (by omega) rfl (rI (.inr rfl) (.inr rfl) (.inr rfl) (.inl rfl) (.inr rfl) (.inr rfl)) rfl
  have w2:=w1.1.word (T':={T with used:=T.used+1,left:=T.left-1,cells:=bU T.cells (8*g+i) (.full (h % 128) key elem birth)}) (k:=5) (v:=T.left-1) (by decide) (by omega) rfl (rI (.inr rfl) (.inr rfl) (.inr rfl) (.inr rfl) (.inl rfl) (.inr rfl)) rfl
  refine al<|aV<|ak<|ah<|ah<|aT mixed ?_
  apply dq 0 rfl
  ·exact yq (aK rfl gl ei)
  apply dq 1 rfl
  ·exact yq (aK rfl l5 iD)
  apply dq 2 rfl
  ·exact yq (qfa 1 rfl eu rfl rfl yS3)
  apply dq 3 rfl
  ·exact yq (qld rfl yA3)
  apply dq 4 rfl
  ·exact yq (gH rfl rfl)
  apply dq 6 rfl
  ·exact yq (qfa 1 rfl eu rfl rfl yS3)
  apply dq 7 rfl
  ·exact yq (qld rfl yA3)
  apply dq 8 rfl
  ·exact yq (iR rfl rfl)
  apply dq 9 rfl
  ·exact yq (ai rfl)
  apply dq 11 rfl
  ·exact yq (ai rfl)
  apply dq 12 rfl
  ·exact yq (ai rfl)
  apply dq 13 rfl
  ·exact yq (ai rfl)
  refine an [0,1,4,3,2] [13,12,11,9,8,7,6] 5 [(66,_),(67,_),(70,_)] gO ⟨rfl,rfl,rfl,trivial⟩ (by kernel_rfl) (by kernel_rfl) fun Ex=>?_
  refine lc1 rfl rfl rfl (nc pa off go n e s l T hP hok0 hg _ (by omega)) ?_
  refine aj ?_
  apply n_d
  ·refine⟨?_,?_,?_,?_,?_,?_,?_,trivial⟩
   ·apply ya rfl rfl;exact yq (ai rfl)
   ·apply ya rfl rfl;exact yq (ai rfl)
   ·apply ya rfl rfl;exact yq (ai rfl)
   ·apply ya rfl rfl;exact yq (ai rfl)
   ·apply ya rfl rfl;exact yq (iR rfl rfl)
   ·apply ya rfl rfl;exact yq (qld rfl yA3)
   apply ya rfl rfl;exact yq (qfa 1 rfl eu rfl rfl yS3)
  refine an [9] [13,12,11,8,7,6] 10 [(75,_)] gO ⟨rfl,trivial⟩ (by kernel_rfl) (by kernel_rfl) fun Ex=>?_
  refine lc1 rfl rfl rfl (r6 h hh t htt) ?_
  refine aj ?_
  apply n_d
  ·refine⟨?_,?_,?_,?_,?_,?_,trivial⟩
   ·apply ya rfl rfl;exact yq (ai rfl)
   ·apply ya rfl rfl;exact yq (ai rfl)
   ·apply ya rfl rfl;exact yq (ai rfl)
   ·apply ya rfl rfl;exact yq (iR rfl rfl)
   ·apply ya rfl rfl;exact yq (qld rfl yA3)
   apply ya rfl rfl;exact yq (qfa 1 rfl eu rfl rfl yS3)
  refine an [8,11,12,13,7,6] [] 14 [(71,_),(74,_),(76,_),(77,_),(78,_),(79,_)] gO ⟨rfl,rfl,rfl,rfl,rfl,rfl,trivial⟩ (by kernel_rfl) (by kernel_rfl) fun Ex=>?_
  rw[show((8*g+i:Nat):Int) % 8=((i:Nat):Int) by omega]
  refine lc1 rfl rfl rfl (Fill_ok pa (go+g*gN l) s l (cy T.cells g) hP.hl hgood hG' hok' i t key elem birth hi ht128 hk he hb) ?_
  rw[← htt]
  refine aj ?_
  apply n_d
  ·exact trivial
  refine an [] [] 15 [(80,_)] gO ⟨rfl,trivial⟩ (by kernel_rfl) (by kernel_rfl) fun Ex=>?_
  refine asg rfl rfl<|aj ?_
  apply n_d
  ·exact trivial
  refine bj (by kernel_rfl) ?_
  refine nz<|mv rfl rfl<|l_q rfl (qi rfl rfl (aI ·))<|lc<|aA rfl (fun v5=>?_) fun v5=>?_
  ·exact absurd rfl v5
  refine al<|nz<|l_q rfl (aK rfl gl ei) ?_
  refine l_q rfl (qfa 0 rfl nt rfl rfl yS3)<|l_q rfl (qld rfl yA3) ?_
  refine l_q rfl (ba rfl rfl) ?_
  refine lcf rfl rfl rfl (j7 pa off 3 _ l 24 _ rfl (by decide) hw.1.gh) ?_
  rintro v L' rfl
  refine bF ?_
  refine lc<|ah<|sr<|l_q rfl (qfa 2 rfl eu rfl rfl yS4)<|l_q rfl (qld rfl yA4) ?_
  refine lc<|aA rfl (fun v4=>?_) fun v4=>?_
  ·refine aB<|l_q rfl (aK rfl gl ei) ?_
   refine l_q rfl (qfa 2 rfl nt rfl rfl yS3)<|l_q rfl (qld rfl yA3) ?_
   refine l_q rfl (e9 rfl rfl) ?_
   refine lcf rfl rfl rfl (j7 pa off 5 _ l 40 _ rfl (by decide) w1.1.gh) ?_
   rintro v L' rfl
   refine bF ?_
   refine lz<|asg rfl rfl<|asg rfl rfl<|lc<|rt<|fr2 rfl ([G,ae pa (((s.put (go+g*gN l) (gN l) (df l (bU (cy T.cells g) i (.full (h % 128) key elem birth)))).put (off+8*3) 8 (bG (IntKind.u64.wrap (T.used+1)))).put (off+8*5) 8 (bG (IntKind.u64.wrap (T.left-1))))]) (.tmp rfl) (.tmp rfl) ?_
   exact⟨_,rfl,rfl,by rw[v2];exact w2.1,(hw.2.trans w1.2).trans w2.2⟩
  rw[v2] at v4;cases v4
 refine ar rfl rfl rfl rfl<|ar rfl rfl rfl rfl<|ar rfl rfl rfl rfl<|au rfl rfl<|l_q rfl (aL rfl rfl)<|l_q rfl (aL rfl rfl)<|asg rfl rfl<|lc<|bQ rfl<|al<|aV<|ak<|ah<|ah<|aT mixed ?_
 apply dq 0 rfl
 ·exact yq (aK rfl gl ei)
 apply dq 1 rfl
 ·exact yq (aK rfl l5 iD)
 apply dq 2 rfl
 ·exact yq (qfa 1 rfl eu rfl rfl yS3)
 apply dq 3 rfl
 ·exact yq (qld rfl yA3)
 apply dq 4 rfl
 ·exact yq (gH rfl rfl)
 apply dq 6 rfl
 ·exact yq (qfa 1 rfl eu rfl rfl yS3)
 apply dq 7 rfl
 ·exact yq (qld rfl yA3)
 apply dq 8 rfl
 ·exact yq (iR rfl rfl)
 apply dq 9 rfl
 ·exact yq (ai rfl)
 apply dq 11 rfl
 ·exact yq (ai rfl)
 apply dq 12 rfl
 ·exact yq (ai rfl)
 apply dq 13 rfl
 ·exact yq (ai rfl)
 refine an [0,1,4,3,2] [13,12,11,9,8,7,6] 5 [(66,_),(67,_),(70,_)] gO ⟨rfl,rfl,rfl,trivial⟩ (by kernel_rfl) (by kernel_rfl) fun Ex=>?_
 have w1:=hw.1.word (T':={T with used:=T.used+1,cells:=bU T.cells (8*g+i) (.full (h % 128) key elem birth)}) (k:=3) (v:=T.used+1) (by decide) (by omega) rfl (rI (.inr rfl) (.inr rfl) (.inr rfl) (.inl rfl) (.inr rfl) (.inr rfl)) rfl
 refine lc1 rfl rfl rfl (nc pa off go n e s l T hP hok0 hg _ (by omega)) ?_
 refine aj ?_
 apply n_d
 ·refine⟨?_,?_,?_,?_,?_,?_,?_,trivial⟩
  ·apply ya rfl rfl;exact yq (ai rfl)
  ·apply ya rfl rfl;exact yq (ai rfl)
  ·apply ya rfl rfl;exact yq (ai rfl)
  ·apply ya rfl rfl;exact yq (ai rfl)
  ·apply ya rfl rfl;exact yq (iR rfl rfl)
  ·apply ya rfl rfl;exact yq (qld rfl yA3)
  apply ya rfl rfl;exact yq (qfa 1 rfl eu rfl rfl yS3)
 refine an [9] [13,12,11,8,7,6] 10 [(75,_)] gO ⟨rfl,trivial⟩ (by kernel_rfl) (by kernel_rfl) fun Ex=>?_
 refine lc1 rfl rfl rfl (r6 h hh t htt) ?_
 refine aj ?_
 apply n_d
 ·refine⟨?_,?_,?_,?_,?_,?_,trivial⟩
  ·apply ya rfl rfl;exact yq (ai rfl)
  ·apply ya rfl rfl;exact yq (ai rfl)
  ·apply ya rfl rfl;exact yq (ai rfl)
  ·apply ya rfl rfl;exact yq (iR rfl rfl)
  ·apply ya rfl rfl;exact yq (qld rfl yA3)
  apply ya rfl rfl;exact yq (qfa 1 rfl eu rfl rfl yS3)
 refine an [8,11,12,13,7,6] [] 14 [(71,_),(74,_),(76,_),(77,_),(78,_),(79,_)] gO ⟨rfl,rfl,rfl,rfl,rfl,rfl,trivial⟩ (by kernel_rfl) (by kernel_rfl) fun Ex=>?_
 rw[show((8*g+i:Nat):Int) % 8=((i:Nat):Int) by omega]
 refine lc1 rfl rfl rfl (Fill_ok pa (go+g*gN l) s l (cy T.cells g) hP.hl hgood hG' hok' i t key elem birth hi ht128 hk he hb) ?_
 rw[← htt]
 refine aj ?_
 apply n_d
 ·exact trivial
 refine an [] [] 15 [(80,_)] gO ⟨rfl,trivial⟩ (by kernel_rfl) (by kernel_rfl) fun Ex=>?_
 refine asg rfl rfl<|aj ?_
 apply n_d
 ·exact trivial
 refine bj (by kernel_rfl) ?_
 refine nz<|mv rfl rfl<|l_q rfl (qi rfl rfl (aI ·))<|lc<|aA rfl (fun v5=>?_) fun v5=>?_
 ·exact absurd rfl v5
 refine al<|nz<|l_q rfl (aK rfl gl ei) ?_
 refine l_q rfl (qfa 0 rfl nt rfl rfl yS3)<|l_q rfl (qld rfl yA3) ?_
 refine l_q rfl (ba rfl rfl) ?_
 refine lcf rfl rfl rfl (j7 pa off 3 _ l 24 _ rfl (by decide) hw.1.gh) ?_
 rintro v L' rfl
 refine bF ?_
 refine lc<|ah<|sr<|l_q rfl (qfa 2 rfl eu rfl rfl yS4)<|l_q rfl (qld rfl yA4) ?_
 refine lc<|aA rfl (fun v4=>?_) fun v4=>?_
 ·rw[v2] at v4;cases v4
 refine al<|nz<|asg rfl rfl<|asg rfl rfl<|lc<|rt<|fr2 rfl ([G,ae pa ((s.put (go+g*gN l) (gN l) (df l (bU (cy T.cells g) i (.full (h % 128) key elem birth)))).put (off+8*3) 8 (bG (IntKind.u64.wrap (T.used+1))))]) (.tmp rfl) (.tmp rfl) ?_
 exact⟨_,rfl,rfl,by rw[v2];exact w1.1,hw.2.trans w1.2⟩
end
end Table
end
section
set_option maxRecDepth 100000
namespace Table
open Go.RowKit Go.Proofs Eng Ty Bits Mem Search Arena CtrlB Ctrl Layout GroupB Group Probe TableB TableI Cells
def bx (cs:Nat→Cell) (i:Nat):List Cell:=(List.range i).map cs
theorem fj (cs:Nat→Cell) (i:Nat):(bx cs i).length=i:=by simp[bx]
theorem fk {cs:Nat→Cell} {i j:Nat} (h:j < i):(bx cs i)[j]?=some (cs j):=by simp[bx,h]
theorem kE (c:Cell):(bI c).length=5:=rfl
end Table
end
section
set_option maxRecDepth 100000
namespace Small
open Go.RowKit Go.Proofs Eng Ty Bits Mem Search Arena CtrlB Ctrl Layout GroupB Group TableB TableI Table Cells
theorem nm (pa off:Nat) (l:Lay):aG Tryz.prog 172 #[.agg #[.pointer (some ⟨pa,0,none⟩),.int .i64 l.key,.int .i64 l.elem,.int .i64 l.ka,.int .i64 l.ea,.int .i64 l.cap,.int .i64 l.eo,.int .i64 l.bo,.int .i64 l.slot,.int .i64 l.group,.int .i64 (off:Nat)]] [] (fun v L=>∃ bc,v=.func (.func 218) #[] #[.pointer (some ⟨bc,0,none⟩)]∧L= [pt bc (.cells #[.pointer (some ⟨pa,0,none⟩),.int .i64 l.key,.int .i64 l.elem,.int .i64 l.ka,.int .i64 l.ea,.int .i64 l.cap,.int .i64 l.eo,.int .i64 l.bo,.int .i64 l.slot,.int .i64 l.group,.int .i64 (off:Nat)] 70 (0,0))]):=by
 refine aq F0 Tryz.func172 rfl rfl rfl fun Fr w0=>aR ?_
 exact sr<|aP rfl rfl fun b1=>asg rfl rfl<|lz<|l_q rfl (jD rfl rfl)<|asg rfl rfl<|lc<|rt<|fr1 rfl ([pt b1 (.cells #[.pointer (some ⟨pa,0,none⟩),.int .i64 l.key,.int .i64 l.elem,.int .i64 l.ka,.int .i64 l.ea,.int .i64 l.cap,.int .i64 l.eo,.int .i64 l.bo,.int .i64 l.slot,.int .i64 l.group,.int .i64 (off:Nat)] 70 (0,0))]) (.tmp rfl) ⟨b1,rfl,rfl⟩
theorem vq (pa off bc:Nat) (s:ArS) (l:Lay) (S:Sm) (hP:SmP s off l S):nE Tryz.prog 218 #[.pointer (some ⟨bc,0,none⟩)] [pt bc (.cells #[.pointer (some ⟨pa,0,none⟩),.int .i64 l.key,.int .i64 l.elem,.int .i64 l.ka,.int .i64 l.ea,.int .i64 l.cap,.int .i64 l.eo,.int .i64 l.bo,.int .i64 l.slot,.int .i64 l.group,.int .i64 (off:Nat)] 70 (0,0))] [ae pa s] (iV S.cells 8) [pt bc (.cells #[.pointer (some ⟨pa,0,none⟩),.int .i64 l.key,.int .i64 l.elem,.int .i64 l.ka,.int .i64 l.ea,.int .i64 l.cap,.int .i64 l.eo,.int .i64 l.bo,.int .i64 l.slot,.int .i64 l.group,.int .i64 (off:Nat)] 70 (0,0))] [pt bc (.cells #[.pointer (some ⟨pa,0,none⟩),.int .i64 l.key,.int .i64 l.elem,.int .i64 l.ka,.int .i64 l.ea,.int .i64 l.cap,.int .i64 l.eo,.int .i64 l.bo,.int .i64 l.slot,.int .i64 l.group,.int .i64 (off:Nat)] 70 (0,0))]:=by
 refine⟨wu,fun l' B S' C hC hY=>?_⟩
 show aG _ _ #[.func (.yield l') #[] #[],.pointer (some ⟨bc,0,none⟩)] _ _
 refine aq wu Tryz.func218 rfl rfl rfl fun Fr w0=>aR ?_
 refine sr<|az rfl Cz fun b3=>lc<|ah<|sr<|mv rfl rfl<|lc<|ay ?_
 refine bw (fun i:Nat=>i≤8) (fun i=>[(0,.func (.yield l') #[] #[]),(1,.pointer (some ⟨bc,0,none⟩)),(3,.pointer (some ⟨b3,0,none⟩)),(9,.int .i64 (i:Nat))]) (fun i=>pt b3 (.cells (ni (tJ S.cells i)).toArray 284 (0,0))::pt bc (.cells #[.pointer (some ⟨pa,0,none⟩),.int .i64 l.key,.int .i64 l.elem,.int .i64 l.ka,.int .i64 l.ea,.int .i64 l.cap,.int .i64 l.eo,.int .i64 l.bo,.int .i64 l.slot,.int .i64 l.group,.int .i64 (off:Nat)] 70 (0,0))::ae pa s::(C ++ Fr)) (fun i=>8-i) 0 (by decide) ⟨rfl,rfl,rfl,rfl,trivial⟩ (by(exact en)) ?_
 intro i hi
 refine sr<|l_q rfl (qi rfl rfl (aS ·))<|lc<|ah<|aA rfl (fun h=>?_) fun h=>?_
 ·have hi8:i < 8:=by omega
  refine al<|ak<|ah<|ay<|sr<|mv rfl rfl<|asg rfl rfl<|lz<|l_q rfl (aK rfl cd bM) ?_
  refine mv rfl rfl<|lc1 rfl rfl rfl (tY pa off s l S hP i hi8) ?_
  refine mv rfl rfl<|l_q rfl (aa rfl ga) ?_
  refine l_q rfl (aa rfl ga) ?_
  refine az rfl cJ fun b5=>sta rfl rfl rfl bu rfl rfl ?_
  refine asg rfl rfl<|lc<|ah<|sr<|mv rfl rfl<|l_q rfl (qi rfl rfl (aI ·))<|lc<|aA rfl (fun z=>?_) fun z=>?_
  ·exact absurd rfl z
  refine al<|ak<|aB<|mv rfl rfl<|l_q rfl (aK rfl de bu) ?_
  refine l_q rfl (bk rfl rfl Ee bu (by omega)) ?_
  apply oF rfl rfl rfl bu rfl rfl
  ·exact tk
  ·exact Cg rfl hi8 (Nat.le_refl _)
  ·exact(Av rfl hi8 (S.cells i)).trans (by rw[xE])
  refine aj<|aV<|ak<|aB<|l_q rfl (ba rfl rfl) ?_
  refine mv rfl rfl<|aj ?_
  apply aO ((i+1))
  ·exact(show i+1≤8 by omega)
  ·omega
  ·exact⟨rfl,rfl,rfl,rfl,trivial⟩
  exact en
 obtain rfl:i=8:=by omega
 refine xt rfl<|nz<|l_q rfl (qn rfl Ew Ef tk rfl (Aw S.cells)) ?_
 refine mv rfl rfl<|lc<|ay ?_
 refine yU (E':=[(0,.func (.yield l') #[] #[]),(1,.pointer (some ⟨bc,0,none⟩)),(24,.agg (ni S.cells).toArray),(25,.int .i64 0)]) (L':=B 0::pt bc (.cells #[.pointer (some ⟨pa,0,none⟩),.int .i64 l.key,.int .i64 l.elem,.int .i64 l.ka,.int .i64 l.ea,.int .i64 l.cap,.int .i64 l.eo,.int .i64 l.bo,.int .i64 l.slot,.int .i64 l.group,.int .i64 (off:Nat)] 70 (0,0))::Fr) ⟨rfl,rfl,rfl,rfl,trivial⟩ (fun w hw=>?_) ?_
 ·exact hC _ _ (hw.tail.perm (by simpa using List.perm_append_comm_assoc [pt bc (.cells #[.pointer (some ⟨pa,0,none⟩),.int .i64 l.key,.int .i64 l.elem,.int .i64 l.ka,.int .i64 l.ea,.int .i64 l.cap,.int .i64 l.eo,.int .i64 l.bo,.int .i64 l.slot,.int .i64 l.group,.int .i64 (off:Nat)] 70 (0,0))] (ae pa s::C) Fr))
 refine bw (fun i:Nat=>i≤8) (fun i=>[(0,.func (.yield l') #[] #[]),(24,.agg (ni S.cells).toArray),(25,.int .i64 (i:Nat))]) (fun i=>B (cnt isFull S.cells i)::pt bc (.cells #[.pointer (some ⟨pa,0,none⟩),.int .i64 l.key,.int .i64 l.elem,.int .i64 l.ka,.int .i64 l.ea,.int .i64 l.cap,.int .i64 l.eo,.int .i64 l.bo,.int .i64 l.slot,.int .i64 l.group,.int .i64 (off:Nat)] 70 (0,0))::Fr) (fun i=>8-i) 0 (by decide) ⟨rfl,rfl,rfl,trivial⟩ (Ent.refl _) ?_
 intro i hi
 have hcs:=ff isFull S.cells i
 refine sr<|l_q rfl (qi rfl rfl (aS ·))<|lc<|ah<|aA rfl (fun h=>?_) fun h=>?_
 ·skip
  have hi8:i < 8:=by omega
  refine al<|ak<|ah<|ay<|sr<|mv rfl rfl<|l_q rfl (uI rfl rfl Tryz.underlying284 de bu (by omega) (xX rfl hi8)) ?_
  refine az rfl cJ fun b8=>asg rfl rfl<|sta rfl rfl rfl bu rfl rfl ?_
  refine lz<|l_q rfl (qfa 0 rfl cO rfl rfl yS3)<|l_q rfl (qld rfl yA3) ?_
  refine l_q rfl (qi rfl rfl (aW ·))<|mv rfl rfl<|bE (t:=32) rfl (fun x=>?_) fun x=>?_
  ·refine au rfl rfl<|mv rfl rfl<|au rfl rfl<|mv rfl rfl<|au rfl rfl<|l_q rfl (aK rfl de bu) ?_
   refine au rfl rfl ?_
   have hf:=qB.1 x
   apply rF rfl rfl rfl ((hY _ _ (u9 hi8 hf)))
   ·exact pk
   ·exact pk
   rintro b L' (⟨rfl,rfl⟩ | ⟨rfl,rfl⟩)
   ·refine bF ?_
    refine au rfl rfl<|l_q rfl (cW rfl (ca ·))<|l_q rfl (aL rfl rfl)<|lc<|bQ rfl<|al<|aV<|ak<|aB<|l_q rfl (ba rfl rfl) ?_
    refine mv rfl rfl<|aj ?_
    rw[hf,if_pos rfl] at hcs
    rw[← hcs]
    apply aO ((i+1))
    ·exact(show i+1≤8 by omega)
    ·omega
    ·exact⟨rfl,rfl,rfl,trivial⟩
    exact en
   refine bF ?_
   refine au rfl rfl<|l_q rfl (cW rfl (ca ·))<|l_q rfl (aL rfl rfl)<|lc<|aX rfl<|rt ?_
   apply aJ (.inl rfl) (_)
   ·exact pK rfl
   ·exact .inr ⟨cnt isFull S.cells i,by rw[fZ];have:=mD (p:=isFull) (cs:=S.cells) (show i+1≤8 by omega);rw[hcs,hf,if_pos rfl] at this;omega,rfl⟩
   exact en
  refine ar rfl rfl rfl rfl<|ar rfl rfl rfl rfl<|ar rfl rfl rfl rfl<|ar rfl rfl rfl rfl<|ar rfl rfl rfl rfl<|l_q rfl (aL rfl rfl)<|lc<|bQ rfl<|al<|aV<|ak<|aB<|l_q rfl (ba rfl rfl) ?_
  refine mv rfl rfl<|aj ?_
  have hf:¬ isFull (S.cells i)=true:=fun e=>x (qB.2 e)
  rw[if_neg hf] at hcs
  rw[show cnt isFull S.cells i=cnt isFull S.cells (i+1) by omega]
  apply aO ((i+1))
  ·exact(show i+1≤8 by omega)
  ·omega
  ·exact⟨rfl,rfl,rfl,trivial⟩
  exact en
 obtain rfl:i=8:=by omega
 refine xt rfl ?_
 apply aJ (.inr rfl) (_)
 ·exact pK rfl
 ·exact .inl (by rw[fZ])
 exact en
theorem qR (pa off bc:Nat) (s:ArS) (l:Lay) (S:Sm) (hP:SmP s off l S):nE Tryz.prog 218 #[.pointer (some ⟨bc,0,none⟩)] [pt bc (.cells #[.pointer (some ⟨pa,0,none⟩),.int .i64 l.key,.int .i64 l.elem,.int .i64 l.ka,.int .i64 l.ea,.int .i64 l.cap,.int .i64 l.eo,.int .i64 l.bo,.int .i64 l.slot,.int .i64 l.group,.int .i64 (off:Nat)] 70 (0,0))] [ae pa s] (iV S.cells 8) [pt bc (.cells #[.pointer (some ⟨pa,0,none⟩),.int .i64 l.key,.int .i64 l.elem,.int .i64 l.ka,.int .i64 l.ea,.int .i64 l.cap,.int .i64 l.eo,.int .i64 l.bo,.int .i64 l.slot,.int .i64 l.group,.int .i64 (off:Nat)] 70 (0,0))]:=(vq pa off bc s l S hP).plain
end Small
end
end Go.Proofs.YthkajgkagnenbaaGreatDoor
