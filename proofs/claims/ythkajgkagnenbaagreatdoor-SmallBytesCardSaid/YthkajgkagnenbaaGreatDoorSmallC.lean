import Derived.Test.YthkajgkagnenbaaGreatDoorRef04B
import Derived.Test.YthkajgkagnenbaaGreatDoorSmallP
set_option linter.unusedVariables false
set_option linter.unusedSimpArgs false
set_option linter.unusedSectionVars false
namespace Go.Proofs.YthkajgkagnenbaaGreatDoor
section
set_option maxRecDepth 100000
namespace Cells
open Go.RowKit Go.Proofs Eng Bits GroupB Group TableB TableI
def bH (c:Cell):List Value:=[.int .i64 c.kind,.int .i64 c.tagI,.string c.keyS,.string c.elemS,.int .i64 c.birthI]
theorem lt8 {j:Nat} (h:j < 8):j=0∨j=1∨j=2∨j=3∨j=4∨j=5∨j=6∨j=7:=by omega
abbrev nr (cs:Nat→Cell):List Value:=[.int .i64 (cs 0).kind,.int .i64 (cs 0).tagI,.string (cs 0).keyS,.string (cs 0).elemS,.int .i64 (cs 0).birthI,
 .int .i64 (cs 1).kind,.int .i64 (cs 1).tagI,.string (cs 1).keyS,.string (cs 1).elemS,.int .i64 (cs 1).birthI,
 .int .i64 (cs 2).kind,.int .i64 (cs 2).tagI,.string (cs 2).keyS,.string (cs 2).elemS,.int .i64 (cs 2).birthI,
 .int .i64 (cs 3).kind,.int .i64 (cs 3).tagI,.string (cs 3).keyS,.string (cs 3).elemS,.int .i64 (cs 3).birthI,
 .int .i64 (cs 4).kind,.int .i64 (cs 4).tagI,.string (cs 4).keyS,.string (cs 4).elemS,.int .i64 (cs 4).birthI,
 .int .i64 (cs 5).kind,.int .i64 (cs 5).tagI,.string (cs 5).keyS,.string (cs 5).elemS,.int .i64 (cs 5).birthI,
 .int .i64 (cs 6).kind,.int .i64 (cs 6).tagI,.string (cs 6).keyS,.string (cs 6).elemS,.int .i64 (cs 6).birthI,
 .int .i64 (cs 7).kind,.int .i64 (cs 7).tagI,.string (cs 7).keyS,.string (cs 7).elemS,.int .i64 (cs 7).birthI]
theorem x7 {cs:Nat→Cell} {i:Int} {j:Nat} (hi:i=(j:Nat)) (hj:j < 8):(nr cs).toArray.extract (i.toNat*5) (i.toNat*5+5)=#[.int .i64 (cs j).kind,.int .i64 (cs j).tagI,.string (cs j).keyS,.string (cs j).elemS,.int .i64 (cs j).birthI]:=by
 subst hi
 rw[Int.toNat_natCast]
 rcases lt8 hj with rfl | rfl | rfl | rfl | rfl | rfl | rfl | rfl <;> rfl
theorem AD {cs:Nat→Cell} {i:Int} {j:Nat} (hi:i=(j:Nat)) (hj:j < 8) (c:Cell):setCells (nr cs).toArray (0+i.toNat*5) (bH c)=(nr (bT cs j c)).toArray:=by
 subst hi
 rw[Int.toNat_natCast]
 rcases lt8 hj with rfl | rfl | rfl | rfl | rfl | rfl | rfl | rfl <;> simp only[setCells,bH,nr,List.setIfInBounds_toArray,List.set,bT,Nat.zero_add,Nat.zero_mul,Nat.add_zero,Nat.reduceMul,Nat.reduceAdd,Nat.reduceEqDiff,if_true,if_false,↓reduceIte]
theorem Cq {cs:Nat→Cell} {i:Int} {j n:Nat} (hi:i=(j:Nat)) (hj:j < 8) (hn:n≤5):Nat.ble (0+i.toNat*5+n) (nr cs).toArray.size=true:=Nat.ble_eq_true_of_le (by
 subst hi;rw[Int.toNat_natCast];show _≤40;omega)
theorem qE {c:Cell}:c.kind=2↔isFull c=true:=by cases c <;> simp[Cell.kind,isFull]
def tO (cs:Nat→Cell) (j:Nat):Nat→Cell:=fun i=>if i < j then cs i else .empty
theorem xK (cs:Nat→Cell) (j:Nat):bT (tO cs j) j (cs j)=tO cs (j+1):=by
 funext i
 unfold bT tO
 by_cases q:i=j
 ·subst q;simp
 by_cases r:i < j
 ·simp[q,r,show i < j+1 by omega]
 simp[q,r,show ¬ i < j+1 by omega]
theorem AE (cs:Nat→Cell):(nr (tO cs 8)).toArray.extract 0 (0+40)=(nr cs).toArray:=by
 have e:nr (tO cs 8)=nr cs:=by simp[tO]
 rw[e]
 exact Array.extract_size
def iX (cs:Nat→Cell) (N:Nat):List (List Value):=((List.range N).filter fun i=>isFull (cs i)).map fun i=>[.int .i64 (i:Nat),.agg #[.int .i64 (cs i).kind,.int .i64 (cs i).tagI,.string (cs i).keyS,.string (cs i).elemS,.int .i64 (cs i).birthI]]
theorem oW (p:Nat→Bool):∀ {N i:Nat},i < N→p i=true→((List.range N).filter p)[(List.range i).countP p]?=some i
 | 0,i,h,_=>by omega
 | N+1,i,h,hp=>by
  rw[List.range_succ,List.filter_append]
  by_cases q:i=N
  ·subst q
   rw[List.countP_eq_length_filter,List.getElem?_append_right (Nat.le_refl _),Nat.sub_self]
   simp[hp]
  have ih:=oW p (N:=N) (i:=i) (by omega) hp
  rw[List.getElem?_append_left (List.getElem?_eq_some_iff.1 ih).1]
  exact ih
theorem gi (cs:Nat→Cell) (N:Nat):(iX cs N).length=cnt isFull cs N:=by
 unfold iX cnt
 rw[List.length_map,List.countP_eq_length_filter]
theorem vh {cs:Nat→Cell} {N i:Nat} (hi:i < N) (h:isFull (cs i)=true):(iX cs N)[cnt isFull cs i]?=some [.int .i64 (i:Nat),.agg #[.int .i64 (cs i).kind,.int .i64 (cs i).tagI,.string (cs i).keyS,.string (cs i).elemS,.int .i64 (cs i).birthI]]:=by
 unfold iX cnt
 rw[List.getElem?_map,oW (fun i=>isFull (cs i)) hi h];rfl
theorem o7 {cs:Nat→Cell} {N:Nat}:∀ x∈iX cs N,x.length=2:=fun x hx=>by
 unfold iX at hx
 obtain⟨i,_,rfl⟩:=List.mem_map.1 hx
 rfl
theorem qR {cs:Nat→Cell} {N k:Nat} {x:List Value} (h:(iX cs N)[k]?=some x):∃ i,i < N∧isFull (cs i)=true∧cnt isFull cs i=k∧x= [.int .i64 (i:Nat),.agg #[.int .i64 (cs i).kind,.int .i64 (cs i).tagI,.string (cs i).keyS,.string (cs i).elemS,.int .i64 (cs i).birthI]]:=by
 have hk:=(List.getElem?_eq_some_iff.1 h).1
 unfold iX at h
 rw[List.getElem?_map,Option.map_eq_some_iff] at h
 obtain⟨i,hi,rfl⟩:=h
 have hm:=List.mem_of_getElem? hi
 rw[List.mem_filter,List.mem_range] at hm
 refine⟨i,hm.1,hm.2,?_,rfl⟩
 have h2:=oW (fun i=>isFull (cs i)) hm.1 hm.2
 have hk2:k < ((List.range N).filter fun i=>isFull (cs i)).length:=(List.getElem?_eq_some_iff.1 hi).1
 have hnd:((List.range N).filter fun i=>isFull (cs i)).Nodup:=List.Nodup.sublist List.filter_sublist List.nodup_range
 exact(List.getElem?_inj (List.getElem?_eq_some_iff.1 h2).1 hnd).1 (h2.trans hi.symm)
theorem mL {p:Cell→Bool} {cs:Nat→Cell} {i j:Nat} (h:i≤j):cnt p cs i≤cnt p cs j:=by
 induction j with
 | zero=>rw[Nat.le_zero.1 h];exact Nat.le_refl _
 | succ j ih=>
  by_cases q:i=j+1
  ·rw[q];exact Nat.le_refl _
  have:=ih (by omega)
  rw[fk];omega
end Cells
end
section
set_option maxRecDepth 100000
namespace Table
open Go.RowKit Go.Proofs Eng Ty Bits Mem Search Arena CtrlB Ctrl Layout GroupB Group Probe TableB TableI
section
variable (G:HP) (hG:dz G) (pa off go n e:Nat) (s:ArS) (l:Lay) (T:Tb) (hP:eO s off go l n e T)
include hP
theorem nk {g:Nat} (hok:s.ok) (hg:g < n) (i:Int) (hi:i=(g:Nat)):aG Tryz.prog 136 #[.agg #[.pointer (some ⟨pa,0,none⟩),.int .i64 l.key,.int .i64 l.elem,.int .i64 l.ka,.int .i64 l.ea,.int .i64 l.cap,.int .i64 l.eo,.int .i64 l.bo,.int .i64 l.slot,.int .i64 l.group,.int .i64 (off:Nat)],.agg #[.int .i64 T.used,.int .i64 (8*(n:Int)),.int .i64 T.left,.int .i64 T.depth,.int .i64 T.pins,.int .i64 T.next,.bool (decide (T.kind=4)),.int .i64 (go:Nat)],.int .i64 i] [] (fun v L=>v=.agg #[.pointer (some ⟨pa,0,none⟩),.int .i64 l.key,.int .i64 l.elem,.int .i64 l.ka,.int .i64 l.ea,.int .i64 l.cap,.int .i64 l.eo,.int .i64 l.bo,.int .i64 l.slot,.int .i64 l.group,.int .i64 ((go+g*gN l:Nat):Int)]∧L= []):=by
 refine tN pa off go g n l hP.hl T i hi ?_
 have h1:=aN.end_le hok hP.gg
 have h2:=hok.stop_eq
 obtain⟨_,_,_,h3⟩:=hP.grpAt hg
 omega
include hG
theorem uI (h:Int) (hh:0≤h∧h < 18446744073709551616) (key:ByteArray) (hk:key.size=kN l):
  aG Tryz.prog 135 #[.agg #[.pointer (some ⟨pa,0,none⟩),.int .i64 l.key,.int .i64 l.elem,.int .i64 l.ka,.int .i64 l.ea,.int .i64 l.cap,.int .i64 l.eo,.int .i64 l.bo,.int .i64 l.slot,.int .i64 l.group,.int .i64 (off:Nat)],.int .u64 h,.string key] [G,ae pa s]
   (fun v L=>v=.tuple #[.agg #[.int .i64 T.used,.int .i64 (8*(n:Int)),.int .i64 T.left,.int .i64 T.depth,.int .i64 T.pins,.int .i64 T.next,.bool (decide (T.kind=4)),.int .i64 (go:Nat)],.agg #[.int .i64 (br (h / 128) n T.cells (h % 128) key).slot,.int .i64 (br (h / 128) n T.cells (h % 128) key).vac,.bool (br (h / 128) n T.cells (h % 128) key).emp,.int .i64 (br (h / 128) n T.cells (h % 128) key).probes],.int .i64 0]∧L= [G,ae pa s]):=
 xa G hG pa off go n e s l T hP.hl hP.he hP.hn hP.hT hP.gh hP.gg hP.hr h hh key hk
theorem D5 (h:Int) (hh:0≤h∧h < 18446744073709551616) (key elem:ByteArray) (hk:key.size=kN l) (he:elem.size=eN l) (birth:Int) (hb:0≤birth∧birth < 9223372036854775808) (hu:0≤T.used∧T.used≤1099511627776) (hlf:0≤T.left∧T.left≤1099511627776):
  aG Tryz.prog 53 #[.agg #[.pointer (some ⟨pa,0,none⟩),.int .i64 l.key,.int .i64 l.elem,.int .i64 l.ka,.int .i64 l.ea,.int .i64 l.cap,.int .i64 l.eo,.int .i64 l.bo,.int .i64 l.slot,.int .i64 l.group,.int .i64 (off:Nat)],.int .u64 h,.string key,.string elem,.int .i64 birth] [G,ae pa s]
   (fun v L=>∃ s',v=.tuple #[.int .i64 (eR n T h key elem birth).1,.int .i64 0]∧L= [G,ae pa s']∧eO s' off go l n e (eR n T h key elem birth).2∧de s s' off go (n*gN l)):=by
 have hn:=hP.n0
 have hN:=eL hP.hl
 have hes:(elem.size:Int)=l.elem:=by rw[he];exact hN.e
 refine aq HC Tryz.func53 rfl rfl rfl fun Fr w0=>aR ?_
 refine cI (φ:=s.ok) (fun w hw=>bQ hw (.there .here)) fun hok0=>?_
 refine sr<|aP rfl rfl fun b5=>asg rfl rfl<|asg rfl rfl<|lz<|l_q rfl (aK rfl gm er) ?_
 refine mv rfl rfl<|mv rfl rfl<|lc1 rfl rfl rfl (uI G hG pa off go n e s l T hP h hh key hk) ?_
 refine mv rfl rfl<|l_q rfl (aa rfl ga) ?_
 refine l_q rfl (aa rfl ga) ?_
 refine l_q rfl (aa rfl ga) ?_
 refine az rfl sy fun b12=>az rfl vG fun b13=>sta rfl rfl rfl iE rfl rfl ?_
 refine sta rfl rfl rfl lA rfl rfl ?_
 refine asg rfl rfl<|lc<|ah<|ax<|sr<|mv rfl rfl<|l_q rfl (qi rfl rfl (aI ·))<|asg rfl rfl<|lc<|aA rfl (fun z=>?_) fun z=>?_
 ·exact absurd rfl z
 refine sr<|mv rfl rfl<|l_q rfl (qls rfl yU9)<|l_q rfl (qfa 1 rfl pG rfl rfl aX)<|l_q rfl (qfa 1 rfl bK rfl rfl yS3)<|l_q rfl (qld rfl yA3) ?_
 refine l_q rfl (qi rfl rfl (aI ·))<|asg rfl rfl<|lc<|aA rfl (fun y=>?_) fun y=>?_
 ·omega
 refine sr<|mv rfl rfl<|l_q rfl (qi rfl rfl (aU ·))<|asg rfl rfl<|lc<|aA rfl (fun x=>?_) fun x=>?_
 ·omega
 refine sr<|l_q rfl (qfa 0 rfl eB rfl rfl yS3)<|l_q rfl (qld rfl yA3) ?_
 refine l_q rfl (qi rfl rfl (gM ·))<|asg rfl rfl<|lc ?_
 rcases uP hP h key elem birth with⟨g,i,e0,b0,hg,hi,hs,hc,hp⟩ | ⟨hs,hv,hp⟩ | ⟨g,i,hg,hi,hs,hv,hnf,hem,hno,hp⟩
 ·rw[hp,hs]
  obtain⟨hgood,hG',hok',hin⟩:=hP.grpAt hg
  have hcok:=hok' i hi
  have hcg:cD T.cells g i=.full (h % 128) key e0 b0:=hc
  rw[hcg] at hcok
  refine aA rfl (fun q=>?_) fun q=>?_
  ·refine ah<|aS mixed ?_
   apply dq 0 rfl
   ·exact yq (aK rfl gm er)
   apply dq 1 rfl
   ·exact yq (aK rfl me iE)
   apply dq 2 rfl
   ·exact yq (qfa 0 rfl eB rfl rfl yS3)
   apply dq 3 rfl
   ·exact yq (qld rfl yA3)
   apply dq 4 rfl
   ·exact yq (gI rfl rfl)
   apply dq 6 rfl
   ·exact yq (qfa 0 rfl eB rfl rfl yS3)
   apply dq 7 rfl
   ·exact yq (qld rfl yA3)
   apply dq 8 rfl
   ·exact yq (iT rfl rfl)
   apply dq 9 rfl
   ·exact yq (ai rfl)
   refine an [0,1,4,3,2] [9,8,7,6] 5 [(42,_),(43,_),(46,_)] gO ⟨rfl,rfl,rfl,trivial⟩ (by kernel_rfl) (by kernel_rfl) fun Ex=>?_
   refine lc1 rfl rfl rfl (nk pa off go n e s l T hP hok0 hg _ (by omega)) ?_
   refine aj ?_
   apply n_d
   ·refine⟨?_,?_,?_,?_,trivial⟩
    ·apply ya rfl rfl;exact yq (ai rfl)
    ·apply ya rfl rfl;exact yq (iT rfl rfl)
    ·apply ya rfl rfl;exact yq (qld rfl yA3)
    apply ya rfl rfl;exact yq (qfa 0 rfl eB rfl rfl yS3)
   refine an [8,9,7,6] [] 10 [(47,_),(50,_),(51,_)] gO ⟨rfl,rfl,rfl,trivial⟩ (by kernel_rfl) (by kernel_rfl) fun Ex=>?_
   rw[show((8*g+i:Nat):Int) % 8=((i:Nat):Int) by omega]
   refine lc1 rfl rfl rfl (pz pa (go+g*gN l) s l (cD T.cells g) hP.hl hgood hG' hok' i (h % 128) key e0 elem b0 hi hcg he) ?_
   refine aj ?_
   apply n_d
   ·exact trivial
   refine an [] [] 11 [] gO trivial (by kernel_rfl) (by kernel_rfl) fun Ex=>?_
   refine asg rfl rfl<|aj ?_
   apply n_d
   ·exact trivial
   refine an [] [] 12 [(52,_)] gO ⟨rfl,trivial⟩ (by kernel_rfl) (by kernel_rfl) fun Ex=>?_
   refine asg rfl rfl<|aj ?_
   apply n_d
   ·exact trivial
   refine bd (by kernel_rfl) ?_
   refine ak<|rt ?_
   have hw:=hP.cell hg hi (c:=.full (h % 128) key elem b0) (by obtain⟨c1,c2,c3,c4,c5⟩:=hcok;exact⟨c1,c2,c3,he,c5⟩)
   exact fr2 rfl ([G,ae pa (s.put (go+g*gN l) (gN l) (c7 l (bT (cD T.cells g) i (.full (h % 128) key elem b0))))]) (.tmp rfl) (.tmp rfl) ⟨_,rfl,rfl,hw⟩
  omega
 ·rw[hp]
  refine aA rfl (fun q=>?_) fun q=>?_
  ·omega
  refine sr<|l_q rfl (qfa 1 rfl eB rfl rfl yS3)<|l_q rfl (qld rfl yA3) ?_
  refine l_q rfl (qi rfl rfl (aU ·))<|mv rfl rfl<|bD (t:=57) rfl (fun v1=>?_) fun v1=>?_
  ·exact ar rfl rfl rfl rfl<|ar rfl rfl rfl rfl<|ar rfl rfl rfl rfl<|cg rfl rfl rfl<|cg rfl rfl rfl<|cg rfl rfl rfl<|ar rfl rfl rfl rfl<|l_q rfl (aL rfl rfl)<|asg rfl rfl<|lc<|aY rfl<|sr<|asg rfl rfl<|asg rfl rfl<|lc<|rt<|fr2 rfl ([G,ae pa s]) (.tmp rfl) (.tmp rfl) ⟨s,rfl,rfl,hP,de.refl _ _ _ _⟩
  refine au rfl rfl<|l_q rfl (qfa 2 rfl eB rfl rfl yS4)<|au rfl rfl<|l_q rfl (qld rfl yA4) ?_
  refine au rfl rfl<|mv rfl rfl ?_
  have hv2:=hv.resolve_left v1
  refine bD (t:=60) rfl (fun v2=>?_) fun v2=>?_
  ·refine au rfl rfl<|l_q rfl (qfa 2 rfl nB rfl rfl yS3)<|au rfl rfl<|l_q rfl (qld rfl yA3) ?_
   refine au rfl rfl<|l_q rfl (qi rfl rfl (aZ ·))<|au rfl rfl<|l_q rfl (aL rfl rfl)<|l_q rfl (aL rfl rfl)<|asg rfl rfl<|lc<|aA rfl (fun v3=>?_) fun v3=>?_
   ·exact sr<|asg rfl rfl<|asg rfl rfl<|lc<|rt<|fr2 rfl ([G,ae pa s]) (.tmp rfl) (.tmp rfl) ⟨s,rfl,rfl,hP,de.refl _ _ _ _⟩
   exact absurd hv2.2 v3
  rw[hv2.1] at v2;cases v2
 rw[hp]
 obtain⟨hgood,hG',hok',hin⟩:=hP.grpAt hg
 obtain⟨t,htt,ht128⟩:∃ t:Nat,h % 128=(t:Nat)∧t < 128:=⟨(h % 128).toNat,by omega,by omega⟩
 have hcell:(Cell.full (h % 128) key elem birth).ok l:=⟨by omega,by omega,hk,he,hb.1,hb.2⟩
 have hw:=hP.cell hg hi hcell
 rw[hv,hem]
 refine aA rfl (fun q=>?_) fun q=>?_
 ·omega
 refine sr<|l_q rfl (qfa 1 rfl eB rfl rfl yS3)<|l_q rfl (qld rfl yA3) ?_
 refine l_q rfl (qi rfl rfl (aU ·))<|mv rfl rfl<|bD (t:=57) rfl (fun v1=>?_) fun v1=>?_
 ·omega
 refine au rfl rfl<|l_q rfl (qfa 2 rfl eB rfl rfl yS4)<|au rfl rfl<|l_q rfl (qld rfl yA4) ?_
 refine au rfl rfl<|mv rfl rfl<|bD (t:=60) rfl (fun v2=>?_) fun v2=>?_
 ·refine au rfl rfl<|l_q rfl (qfa 2 rfl nB rfl rfl yS3)<|au rfl rfl<|l_q rfl (qld rfl yA3) ?_
  refine au rfl rfl<|l_q rfl (qi rfl rfl (aZ ·))<|au rfl rfl<|l_q rfl (aL rfl rfl)<|l_q rfl (aL rfl rfl)<|asg rfl rfl<|lc<|aA rfl (fun v3=>?_) fun v3=>?_
  ·exact absurd ⟨v2,v3⟩ hno
  have w1:=hw.1.word (T':={T with used:=T.used+1,cells:=bT T.cells (8*g+i) (.full (h % 128) key elem birth)}) (k:=3) (v:=T.used+1) (by decide) (by omega) rfl (rN (.inr rfl) (.inr rfl) (.inr rfl) (.inl rfl) (.inr rfl) (.inr rfl)) rfl
  have w2:=w1.1.word (T':={T with used:=T.used+1,left:=T.left-1,cells:=bT T.cells (8*g+i) (.full (h % 128) key elem birth)}) (k:=5) (v:=T.left-1) (by decide) (by omega) rfl (rN (.inr rfl) (.inr rfl) (.inr rfl) (.inr rfl) (.inl rfl) (.inr rfl)) rfl
  refine al<|aV<|ak<|ah<|ah<|aS mixed ?_
  apply dq 0 rfl
  ·exact yq (aK rfl gm er)
  apply dq 1 rfl
  ·exact yq (aK rfl me iE)
  apply dq 2 rfl
  ·exact yq (qfa 1 rfl eB rfl rfl yS3)
  apply dq 3 rfl
  ·exact yq (qld rfl yA3)
  apply dq 4 rfl
  ·exact yq (gI rfl rfl)
  apply dq 6 rfl
  ·exact yq (qfa 1 rfl eB rfl rfl yS3)
  apply dq 7 rfl
  ·exact yq (qld rfl yA3)
  apply dq 8 rfl
  ·exact yq (iT rfl rfl)
  apply dq 9 rfl
  ·exact yq (ai rfl)
  apply dq 11 rfl
  ·exact yq (ai rfl)
  apply dq 12 rfl
  ·exact yq (ai rfl)
  apply dq 13 rfl
  ·exact yq (ai rfl)
  refine an [0,1,4,3,2] [13,12,11,9,8,7,6] 5 [(66,_),(67,_),(70,_)] gO ⟨rfl,rfl,rfl,trivial⟩ (by kernel_rfl) (by kernel_rfl) fun Ex=>?_
  refine lc1 rfl rfl rfl (nk pa off go n e s l T hP hok0 hg _ (by omega)) ?_
  refine aj ?_
  apply n_d
  ·refine⟨?_,?_,?_,?_,?_,?_,?_,trivial⟩
   ·apply ya rfl rfl;exact yq (ai rfl)
   ·apply ya rfl rfl;exact yq (ai rfl)
   ·apply ya rfl rfl;exact yq (ai rfl)
   ·apply ya rfl rfl;exact yq (ai rfl)
   ·apply ya rfl rfl;exact yq (iT rfl rfl)
   ·apply ya rfl rfl;exact yq (qld rfl yA3)
   apply ya rfl rfl;exact yq (qfa 1 rfl eB rfl rfl yS3)
  refine an [9] [13,12,11,8,7,6] 10 [(75,_)] gO ⟨rfl,trivial⟩ (by kernel_rfl) (by kernel_rfl) fun Ex=>?_
  refine lc1 rfl rfl rfl (sg h hh t htt) ?_
  refine aj ?_
  apply n_d
  ·refine⟨?_,?_,?_,?_,?_,?_,trivial⟩
   ·apply ya rfl rfl;exact yq (ai rfl)
   ·apply ya rfl rfl;exact yq (ai rfl)
   ·apply ya rfl rfl;exact yq (ai rfl)
   ·apply ya rfl rfl;exact yq (iT rfl rfl)
   ·apply ya rfl rfl;exact yq (qld rfl yA3)
   apply ya rfl rfl;exact yq (qfa 1 rfl eB rfl rfl yS3)
  refine an [8,11,12,13,7,6] [] 14 [(71,_),(74,_),(76,_),(77,_),(78,_),(79,_)] gO ⟨rfl,rfl,rfl,rfl,rfl,rfl,trivial⟩ (by kernel_rfl) (by kernel_rfl) fun Ex=>?_
  rw[show((8*g+i:Nat):Int) % 8=((i:Nat):Int) by omega]
  refine lc1 rfl rfl rfl (Fill_ok pa (go+g*gN l) s l (cD T.cells g) hP.hl hgood hG' hok' i t key elem birth hi ht128 hk he hb) ?_
  rw[← htt]
  refine aj ?_
  apply n_d
  ·exact trivial
  refine an [] [] 15 [(80,_)] gO ⟨rfl,trivial⟩ (by kernel_rfl) (by kernel_rfl) fun Ex=>?_
  refine asg rfl rfl<|aj ?_
  apply n_d
  ·exact trivial
  refine bd (by kernel_rfl) ?_
  refine nz<|mv rfl rfl<|l_q rfl (qi rfl rfl (aI ·))<|lc<|aA rfl (fun v5=>?_) fun v5=>?_
  ·exact absurd rfl v5
  refine al<|nz<|l_q rfl (aK rfl gm er) ?_
  refine l_q rfl (qfa 0 rfl nB rfl rfl yS3)<|l_q rfl (qld rfl yA3) ?_
  refine l_q rfl (ba rfl rfl) ?_
  refine lcf rfl rfl rfl (j9 pa off 3 _ l 24 _ rfl (by decide) hw.1.gh) ?_
  rintro v L' rfl
  refine bF ?_
  refine lc<|ah<|sr<|l_q rfl (qfa 2 rfl eB rfl rfl yS4)<|l_q rfl (qld rfl yA4) ?_
  refine lc<|aA rfl (fun v4=>?_) fun v4=>?_
  ·refine aB<|l_q rfl (aK rfl gm er) ?_
   refine l_q rfl (qfa 2 rfl nB rfl rfl yS3)<|l_q rfl (qld rfl yA3) ?_
   refine l_q rfl (e9 rfl rfl) ?_
   refine lcf rfl rfl rfl (j9 pa off 5 _ l 40 _ rfl (by decide) w1.1.gh) ?_
   rintro v L' rfl
   refine bF ?_
   refine lz<|asg rfl rfl<|asg rfl rfl<|lc<|rt<|fr2 rfl ([G,ae pa (((s.put (go+g*gN l) (gN l) (c7 l (bT (cD T.cells g) i (.full (h % 128) key elem birth)))).put (off+8*3) 8 (bG (IntKind.u64.wrap (T.used+1)))).put (off+8*5) 8 (bG (IntKind.u64.wrap (T.left-1))))]) (.tmp rfl) (.tmp rfl) ?_
   exact⟨_,rfl,rfl,by rw[v2];exact w2.1,(hw.2.trans w1.2).trans w2.2⟩
  rw[v2] at v4;cases v4
 refine ar rfl rfl rfl rfl<|ar rfl rfl rfl rfl<|ar rfl rfl rfl rfl<|au rfl rfl<|l_q rfl (aL rfl rfl)<|l_q rfl (aL rfl rfl)<|asg rfl rfl<|lc<|bR rfl<|al<|aV<|ak<|ah<|ah<|aS mixed ?_
 apply dq 0 rfl
 ·exact yq (aK rfl gm er)
 apply dq 1 rfl
 ·exact yq (aK rfl me iE)
 apply dq 2 rfl
 ·exact yq (qfa 1 rfl eB rfl rfl yS3)
 apply dq 3 rfl
 ·exact yq (qld rfl yA3)
 apply dq 4 rfl
 ·exact yq (gI rfl rfl)
 apply dq 6 rfl
 ·exact yq (qfa 1 rfl eB rfl rfl yS3)
 apply dq 7 rfl
 ·exact yq (qld rfl yA3)
 apply dq 8 rfl
 ·exact yq (iT rfl rfl)
 apply dq 9 rfl
 ·exact yq (ai rfl)
 apply dq 11 rfl
 ·exact yq (ai rfl)
 apply dq 12 rfl
 ·exact yq (ai rfl)
 apply dq 13 rfl
 ·exact yq (ai rfl)
 refine an [0,1,4,3,2] [13,12,11,9,8,7,6] 5 [(66,_),(67,_),(70,_)] gO ⟨rfl,rfl,rfl,trivial⟩ (by kernel_rfl) (by kernel_rfl) fun Ex=>?_
 have w1:=hw.1.word (T':={T with used:=T.used+1,cells:=bT T.cells (8*g+i) (.full (h % 128) key elem birth)}) (k:=3) (v:=T.used+1) (by decide) (by omega) rfl (rN (.inr rfl) (.inr rfl) (.inr rfl) (.inl rfl) (.inr rfl) (.inr rfl)) rfl
 refine lc1 rfl rfl rfl (nk pa off go n e s l T hP hok0 hg _ (by omega)) ?_
 refine aj ?_
 apply n_d
 ·refine⟨?_,?_,?_,?_,?_,?_,?_,trivial⟩
  ·apply ya rfl rfl;exact yq (ai rfl)
  ·apply ya rfl rfl;exact yq (ai rfl)
  ·apply ya rfl rfl;exact yq (ai rfl)
  ·apply ya rfl rfl;exact yq (ai rfl)
  ·apply ya rfl rfl;exact yq (iT rfl rfl)
  ·apply ya rfl rfl;exact yq (qld rfl yA3)
  apply ya rfl rfl;exact yq (qfa 1 rfl eB rfl rfl yS3)
 refine an [9] [13,12,11,8,7,6] 10 [(75,_)] gO ⟨rfl,trivial⟩ (by kernel_rfl) (by kernel_rfl) fun Ex=>?_
 refine lc1 rfl rfl rfl (sg h hh t htt) ?_
 refine aj ?_
 apply n_d
 ·refine⟨?_,?_,?_,?_,?_,?_,trivial⟩
  ·apply ya rfl rfl;exact yq (ai rfl)
  ·apply ya rfl rfl;exact yq (ai rfl)
  ·apply ya rfl rfl;exact yq (ai rfl)
  ·apply ya rfl rfl;exact yq (iT rfl rfl)
  ·apply ya rfl rfl;exact yq (qld rfl yA3)
  apply ya rfl rfl;exact yq (qfa 1 rfl eB rfl rfl yS3)
 refine an [8,11,12,13,7,6] [] 14 [(71,_),(74,_),(76,_),(77,_),(78,_),(79,_)] gO ⟨rfl,rfl,rfl,rfl,rfl,rfl,trivial⟩ (by kernel_rfl) (by kernel_rfl) fun Ex=>?_
 rw[show((8*g+i:Nat):Int) % 8=((i:Nat):Int) by omega]
 refine lc1 rfl rfl rfl (Fill_ok pa (go+g*gN l) s l (cD T.cells g) hP.hl hgood hG' hok' i t key elem birth hi ht128 hk he hb) ?_
 rw[← htt]
 refine aj ?_
 apply n_d
 ·exact trivial
 refine an [] [] 15 [(80,_)] gO ⟨rfl,trivial⟩ (by kernel_rfl) (by kernel_rfl) fun Ex=>?_
 refine asg rfl rfl<|aj ?_
 apply n_d
 ·exact trivial
 refine bd (by kernel_rfl) ?_
 refine nz<|mv rfl rfl<|l_q rfl (qi rfl rfl (aI ·))<|lc<|aA rfl (fun v5=>?_) fun v5=>?_
 ·exact absurd rfl v5
 refine al<|nz<|l_q rfl (aK rfl gm er) ?_
 refine l_q rfl (qfa 0 rfl nB rfl rfl yS3)<|l_q rfl (qld rfl yA3) ?_
 refine l_q rfl (ba rfl rfl) ?_
 refine lcf rfl rfl rfl (j9 pa off 3 _ l 24 _ rfl (by decide) hw.1.gh) ?_
 rintro v L' rfl
 refine bF ?_
 refine lc<|ah<|sr<|l_q rfl (qfa 2 rfl eB rfl rfl yS4)<|l_q rfl (qld rfl yA4) ?_
 refine lc<|aA rfl (fun v4=>?_) fun v4=>?_
 ·rw[v2] at v4;cases v4
 refine al<|nz<|asg rfl rfl<|asg rfl rfl<|lc<|rt<|fr2 rfl ([G,ae pa ((s.put (go+g*gN l) (gN l) (c7 l (bT (cD T.cells g) i (.full (h % 128) key elem birth)))).put (off+8*3) 8 (bG (IntKind.u64.wrap (T.used+1))))]) (.tmp rfl) (.tmp rfl) ?_
 exact⟨_,rfl,rfl,by rw[v2];exact w1.1,hw.2.trans w1.2⟩
end
end Table
end
section
set_option maxRecDepth 100000
namespace Table
open Go.RowKit Go.Proofs Eng Ty Bits Mem Search Arena CtrlB Ctrl Layout GroupB Group Probe TableB TableI Cells
def bu (cs:Nat→Cell) (i:Nat):List Cell:=(List.range i).map cs
theorem fp (cs:Nat→Cell) (i:Nat):(bu cs i).length=i:=by simp[bu]
theorem fq {cs:Nat→Cell} {i j:Nat} (h:j < i):(bu cs i)[j]?=some (cs j):=by simp[bu,h]
theorem kJ (c:Cell):(bH c).length=5:=rfl
end Table
end
section
set_option maxRecDepth 100000
namespace Small
open Go.RowKit Go.Proofs Eng Ty Bits Mem Search Arena CtrlB Ctrl Layout GroupB Group TableB TableI Table Cells
theorem nv (pa off:Nat) (l:Lay):aG Tryz.prog 172 #[.agg #[.pointer (some ⟨pa,0,none⟩),.int .i64 l.key,.int .i64 l.elem,.int .i64 l.ka,.int .i64 l.ea,.int .i64 l.cap,.int .i64 l.eo,.int .i64 l.bo,.int .i64 l.slot,.int .i64 l.group,.int .i64 (off:Nat)]] [] (fun v L=>∃ bc,v=.func (.func 218) #[] #[.pointer (some ⟨bc,0,none⟩)]∧L= [pt bc (.cells #[.pointer (some ⟨pa,0,none⟩),.int .i64 l.key,.int .i64 l.elem,.int .i64 l.ka,.int .i64 l.ea,.int .i64 l.cap,.int .i64 l.eo,.int .i64 l.bo,.int .i64 l.slot,.int .i64 l.group,.int .i64 (off:Nat)] 70 (0,0))]):=by
 refine aq F8 Tryz.func172 rfl rfl rfl fun Fr w0=>aR ?_
 exact sr<|aP rfl rfl fun b1=>asg rfl rfl<|lz<|l_q rfl (jF rfl rfl)<|asg rfl rfl<|lc<|rt<|fr1 rfl ([pt b1 (.cells #[.pointer (some ⟨pa,0,none⟩),.int .i64 l.key,.int .i64 l.elem,.int .i64 l.ka,.int .i64 l.ea,.int .i64 l.cap,.int .i64 l.eo,.int .i64 l.bo,.int .i64 l.slot,.int .i64 l.group,.int .i64 (off:Nat)] 70 (0,0))]) (.tmp rfl) ⟨b1,rfl,rfl⟩
theorem vv (pa off bc:Nat) (s:ArS) (l:Lay) (S:Sm) (hP:SmP s off l S):nL Tryz.prog 218 #[.pointer (some ⟨bc,0,none⟩)] [pt bc (.cells #[.pointer (some ⟨pa,0,none⟩),.int .i64 l.key,.int .i64 l.elem,.int .i64 l.ka,.int .i64 l.ea,.int .i64 l.cap,.int .i64 l.eo,.int .i64 l.bo,.int .i64 l.slot,.int .i64 l.group,.int .i64 (off:Nat)] 70 (0,0))] [ae pa s] (iX S.cells 8) [pt bc (.cells #[.pointer (some ⟨pa,0,none⟩),.int .i64 l.key,.int .i64 l.elem,.int .i64 l.ka,.int .i64 l.ea,.int .i64 l.cap,.int .i64 l.eo,.int .i64 l.bo,.int .i64 l.slot,.int .i64 l.group,.int .i64 (off:Nat)] 70 (0,0))] [pt bc (.cells #[.pointer (some ⟨pa,0,none⟩),.int .i64 l.key,.int .i64 l.elem,.int .i64 l.ka,.int .i64 l.ea,.int .i64 l.cap,.int .i64 l.eo,.int .i64 l.bo,.int .i64 l.slot,.int .i64 l.group,.int .i64 (off:Nat)] 70 (0,0))]:=by
 refine⟨wC,fun l' B S' C hC hY=>?_⟩
 show aG _ _ #[.func (.yield l') #[] #[],.pointer (some ⟨bc,0,none⟩)] _ _
 refine aq wC Tryz.func218 rfl rfl rfl fun Fr w0=>aR ?_
 refine sr<|az rfl CI fun b3=>lc<|ah<|sr<|mv rfl rfl<|lc<|ax ?_
 refine bw (fun i:Nat=>i≤8) (fun i=>[(0,.func (.yield l') #[] #[]),(1,.pointer (some ⟨bc,0,none⟩)),(3,.pointer (some ⟨b3,0,none⟩)),(9,.int .i64 (i:Nat))]) (fun i=>pt b3 (.cells (nr (tO S.cells i)).toArray 284 (0,0))::pt bc (.cells #[.pointer (some ⟨pa,0,none⟩),.int .i64 l.key,.int .i64 l.elem,.int .i64 l.ka,.int .i64 l.ea,.int .i64 l.cap,.int .i64 l.eo,.int .i64 l.bo,.int .i64 l.slot,.int .i64 l.group,.int .i64 (off:Nat)] 70 (0,0))::ae pa s::(C ++ Fr)) (fun i=>8-i) 0 (by decide) ⟨rfl,rfl,rfl,rfl,trivial⟩ (by(exact en)) ?_
 intro i hi
 refine sr<|l_q rfl (qi rfl rfl (aU ·))<|lc<|ah<|aA rfl (fun h=>?_) fun h=>?_
 ·have hi8:i < 8:=by omega
  refine al<|ak<|ah<|ax<|sr<|mv rfl rfl<|asg rfl rfl<|lz<|l_q rfl (aK rfl cd bM) ?_
  refine mv rfl rfl<|lc1 rfl rfl rfl (ud pa off s l S hP i hi8) ?_
  refine mv rfl rfl<|l_q rfl (aa rfl ga) ?_
  refine l_q rfl (aa rfl ga) ?_
  refine az rfl cK fun b5=>sta rfl rfl rfl bx rfl rfl ?_
  refine asg rfl rfl<|lc<|ah<|sr<|mv rfl rfl<|l_q rfl (qi rfl rfl (aI ·))<|lc<|aA rfl (fun z=>?_) fun z=>?_
  ·exact absurd rfl z
  refine al<|ak<|aB<|mv rfl rfl<|l_q rfl (aK rfl dh bx) ?_
  refine l_q rfl (bk rfl rfl Em bx (by omega)) ?_
  apply oK rfl rfl rfl bx rfl rfl
  ·exact tk
  ·exact Cq rfl hi8 (Nat.le_refl _)
  ·exact(AD rfl hi8 (S.cells i)).trans (by rw[xK])
  refine aj<|aV<|ak<|aB<|l_q rfl (ba rfl rfl) ?_
  refine mv rfl rfl<|aj ?_
  apply aO ((i+1))
  ·exact(show i+1≤8 by omega)
  ·omega
  ·exact⟨rfl,rfl,rfl,rfl,trivial⟩
  exact en
 obtain rfl:i=8:=by omega
 refine xt rfl<|nz<|l_q rfl (qp rfl EG En tk rfl (AE S.cells)) ?_
 refine mv rfl rfl<|lc<|ax ?_
 refine yZ (E':=[(0,.func (.yield l') #[] #[]),(1,.pointer (some ⟨bc,0,none⟩)),(24,.agg (nr S.cells).toArray),(25,.int .i64 0)]) (L':=B 0::pt bc (.cells #[.pointer (some ⟨pa,0,none⟩),.int .i64 l.key,.int .i64 l.elem,.int .i64 l.ka,.int .i64 l.ea,.int .i64 l.cap,.int .i64 l.eo,.int .i64 l.bo,.int .i64 l.slot,.int .i64 l.group,.int .i64 (off:Nat)] 70 (0,0))::Fr) ⟨rfl,rfl,rfl,rfl,trivial⟩ (fun w hw=>?_) ?_
 ·exact hC _ _ (hw.tail.perm (by simpa using List.perm_append_comm_assoc [pt bc (.cells #[.pointer (some ⟨pa,0,none⟩),.int .i64 l.key,.int .i64 l.elem,.int .i64 l.ka,.int .i64 l.ea,.int .i64 l.cap,.int .i64 l.eo,.int .i64 l.bo,.int .i64 l.slot,.int .i64 l.group,.int .i64 (off:Nat)] 70 (0,0))] (ae pa s::C) Fr))
 refine bw (fun i:Nat=>i≤8) (fun i=>[(0,.func (.yield l') #[] #[]),(24,.agg (nr S.cells).toArray),(25,.int .i64 (i:Nat))]) (fun i=>B (cnt isFull S.cells i)::pt bc (.cells #[.pointer (some ⟨pa,0,none⟩),.int .i64 l.key,.int .i64 l.elem,.int .i64 l.ka,.int .i64 l.ea,.int .i64 l.cap,.int .i64 l.eo,.int .i64 l.bo,.int .i64 l.slot,.int .i64 l.group,.int .i64 (off:Nat)] 70 (0,0))::Fr) (fun i=>8-i) 0 (by decide) ⟨rfl,rfl,rfl,trivial⟩ (Ent.refl _) ?_
 intro i hi
 have hcs:=fk isFull S.cells i
 refine sr<|l_q rfl (qi rfl rfl (aU ·))<|lc<|ah<|aA rfl (fun h=>?_) fun h=>?_
 ·skip
  have hi8:i < 8:=by omega
  refine al<|ak<|ah<|ax<|sr<|mv rfl rfl<|l_q rfl (uN rfl rfl Tryz.underlying284 dh bx (by omega) (x7 rfl hi8)) ?_
  refine az rfl cK fun b8=>asg rfl rfl<|sta rfl rfl rfl bx rfl rfl ?_
  refine lz<|l_q rfl (qfa 0 rfl cQ rfl rfl yS3)<|l_q rfl (qld rfl yA3) ?_
  refine l_q rfl (qi rfl rfl (aZ ·))<|mv rfl rfl<|bD (t:=32) rfl (fun x=>?_) fun x=>?_
  ·refine au rfl rfl<|mv rfl rfl<|au rfl rfl<|mv rfl rfl<|au rfl rfl<|l_q rfl (aK rfl dh bx) ?_
   refine au rfl rfl ?_
   have hf:=qE.1 x
   apply rK rfl rfl rfl ((hY _ _ (vh hi8 hf)))
   ·exact pk
   ·exact pk
   rintro b L' (⟨rfl,rfl⟩ | ⟨rfl,rfl⟩)
   ·refine bF ?_
    refine au rfl rfl<|l_q rfl (cX rfl (bY ·))<|l_q rfl (aL rfl rfl)<|lc<|bR rfl<|al<|aV<|ak<|aB<|l_q rfl (ba rfl rfl) ?_
    refine mv rfl rfl<|aj ?_
    rw[hf,if_pos rfl] at hcs
    rw[← hcs]
    apply aO ((i+1))
    ·exact(show i+1≤8 by omega)
    ·omega
    ·exact⟨rfl,rfl,rfl,trivial⟩
    exact en
   refine bF ?_
   refine au rfl rfl<|l_q rfl (cX rfl (bY ·))<|l_q rfl (aL rfl rfl)<|lc<|aY rfl<|rt ?_
   apply aJ (.inl rfl) (_)
   ·exact pM rfl
   ·exact .inr ⟨cnt isFull S.cells i,by rw[gi];have:=mL (p:=isFull) (cs:=S.cells) (show i+1≤8 by omega);rw[hcs,hf,if_pos rfl] at this;omega,rfl⟩
   exact en
  refine ar rfl rfl rfl rfl<|ar rfl rfl rfl rfl<|ar rfl rfl rfl rfl<|ar rfl rfl rfl rfl<|ar rfl rfl rfl rfl<|l_q rfl (aL rfl rfl)<|lc<|bR rfl<|al<|aV<|ak<|aB<|l_q rfl (ba rfl rfl) ?_
  refine mv rfl rfl<|aj ?_
  have hf:¬ isFull (S.cells i)=true:=fun e=>x (qE.2 e)
  rw[if_neg hf] at hcs
  rw[show cnt isFull S.cells i=cnt isFull S.cells (i+1) by omega]
  apply aO ((i+1))
  ·exact(show i+1≤8 by omega)
  ·omega
  ·exact⟨rfl,rfl,rfl,trivial⟩
  exact en
 obtain rfl:i=8:=by omega
 refine xt rfl ?_
 apply aJ (.inr rfl) (_)
 ·exact pM rfl
 ·exact .inl (by rw[gi])
 exact en
theorem qU (pa off bc:Nat) (s:ArS) (l:Lay) (S:Sm) (hP:SmP s off l S):nL Tryz.prog 218 #[.pointer (some ⟨bc,0,none⟩)] [pt bc (.cells #[.pointer (some ⟨pa,0,none⟩),.int .i64 l.key,.int .i64 l.elem,.int .i64 l.ka,.int .i64 l.ea,.int .i64 l.cap,.int .i64 l.eo,.int .i64 l.bo,.int .i64 l.slot,.int .i64 l.group,.int .i64 (off:Nat)] 70 (0,0))] [ae pa s] (iX S.cells 8) [pt bc (.cells #[.pointer (some ⟨pa,0,none⟩),.int .i64 l.key,.int .i64 l.elem,.int .i64 l.ka,.int .i64 l.ea,.int .i64 l.cap,.int .i64 l.eo,.int .i64 l.bo,.int .i64 l.slot,.int .i64 l.group,.int .i64 (off:Nat)] 70 (0,0))]:=(vv pa off bc s l S hP).plain
end Small
end
end Go.Proofs.YthkajgkagnenbaaGreatDoor
