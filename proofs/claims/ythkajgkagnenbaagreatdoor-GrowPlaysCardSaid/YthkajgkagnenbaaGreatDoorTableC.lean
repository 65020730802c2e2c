import Derived.Test.YthkajgkagnenbaaGreatDoorTableN
import Derived.Test.YthkajgkagnenbaaGreatDoorTableD
import Derived.Test.YthkajgkagnenbaaGreatDoorRef04H
import Derived.KernelRfl
set_option linter.unusedVariables false
set_option linter.unusedSimpArgs false
set_option linter.unusedSectionVars false
set_option maxRecDepth 100000
namespace Go.Proofs.YthkajgkagnenbaaGreatDoor
section
namespace Cells
open Go.RowKit Go.Proofs GroupB TableI
def cj (c:Cell):List Value:=[.int .i64 c.kind,.int .i64 c.tagI,.string c.keyS,.string c.elemS,.int .i64 c.birthI]
theorem nZ {c:Cell}:c.kind=2↔isFull c=true:=by cases c <;> simp[Cell.kind,isFull]
def j0 (cs:Nat->Cell) (N:Nat):List (List Value):=((List.range N).filter fun i=>isFull (cs i)).map fun i=>[.int .i64 (i:Nat),.agg #[.int .i64 (cs i).kind,.int .i64 (cs i).tagI,.string (cs i).keyS,.string (cs i).elemS,.int .i64 (cs i).birthI]]
theorem qw (p:Nat->Bool):∀ {N i:Nat},i < N->p i=true->((List.range N).filter p)[(List.range i).countP p]?=some i
 | 0,i,h,_=>by omega
 | N+1,i,h,hp=>by
  rw[List.range_succ,List.filter_append]
  by_cases q:i=N
  ·subst q
   rw[List.countP_eq_length_filter,List.getElem?_append_right (Nat.le_refl _),Nat.sub_self]
   simp[hp]
  have ih:=qw p (N:=N) (i:=i) (by omega) hp
  rw[List.getElem?_append_left (List.getElem?_eq_some_iff.1 ih).1]
  exact ih
theorem fY (cs:Nat->Cell) (N:Nat):(j0 cs N).length=dX isFull cs N:=by
 unfold j0 dX
 rw[List.length_map,List.countP_eq_length_filter]
theorem wZ {cs:Nat->Cell} {N i:Nat} (hi:i < N) (h:isFull (cs i)=true):(j0 cs N)[dX isFull cs i]?=some [.int .i64 (i:Nat),.agg #[.int .i64 (cs i).kind,.int .i64 (cs i).tagI,.string (cs i).keyS,.string (cs i).elemS,.int .i64 (cs i).birthI]]:=by
 unfold j0 dX
 rw[List.getElem?_map,qw (fun i=>isFull (cs i)) hi h];rfl
theorem mN {cs:Nat->Cell} {N:Nat}:∀ x∈j0 cs N,x.length=2:=fun x hx=>by
 unfold j0 at hx
 obtain⟨i,_,rfl⟩:=List.mem_map.1 hx
 rfl
theorem n8 {cs:Nat->Cell} {N k:Nat} {x:List Value} (h:(j0 cs N)[k]?=some x):∃ i,i < N/\isFull (cs i)=true/\dX isFull cs i=k/\x= [.int .i64 (i:Nat),.agg #[.int .i64 (cs i).kind,.int .i64 (cs i).tagI,.string (cs i).keyS,.string (cs i).elemS,.int .i64 (cs i).birthI]]:=by
 have hk:=(List.getElem?_eq_some_iff.1 h).1
 unfold j0 at h
 rw[List.getElem?_map,Option.map_eq_some_iff] at h
 obtain⟨i,hi,rfl⟩:=h
 have hm:=List.mem_of_getElem? hi
 rw[List.mem_filter,List.mem_range] at hm
 refine⟨i,hm.1,hm.2,?_,rfl⟩
 have h2:=qw (fun i=>isFull (cs i)) hm.1 hm.2
 have hk2:k < ((List.range N).filter fun i=>isFull (cs i)).length:=(List.getElem?_eq_some_iff.1 hi).1
 have hnd:((List.range N).filter fun i=>isFull (cs i)).Nodup:=List.Nodup.sublist List.filter_sublist List.nodup_range
 exact(List.getElem?_inj (List.getElem?_eq_some_iff.1 h2).1 hnd).1 (h2.trans hi.symm)
theorem lL {p:Cell->Bool} {cs:Nat->Cell} {i j:Nat} (h:i<=j):dX p cs i<=dX p cs j:=by
 induction j with
 | zero=>rw[Nat.le_zero.1 h];exact Nat.le_refl _
 | succ j ih=>
  by_cases q:i=j+1
  ·rw[q];exact Nat.le_refl _
  have:=ih (by omega)
  rw[cI];omega
end Cells
end
section
namespace Refill
open Go.RowKit Go.Proofs Layout GroupB TableB TableI Table Bench Arena
theorem kZ {c:Cell} (h:isFull c=true):∃ t,c=.full t c.keyS c.elemS c.birthI:=by cases c <;> first | exact⟨_,rfl⟩ | cases h
structure RF (H:ByteArray->Int) (cs:Nat->Cell) (N n:Nat) (U:Tb) (lives:List q8) (k:Nat):Prop where
 bi:BI n H (fun _=>True) U lives k
 is:∀ i,i < N->isFull (cs i)=true->dX isFull cs i < k->∃ v,lives[dX isFull cs i]?=some v/\v.key=(cs i).keyS/\v.elem=(cs i).elemS/\v.birth=(cs i).birthI
 len:lives.length=k
section
variable {H:ByteArray->Int} {cs:Nat->Cell} {N n k:Nat} {U U':Tb} {lives:List q8} {out:Int}
end
theorem ej.keeps {s s':ArS} {c:Int} (h:ej s s' c) (hok:s.ok) {o k:Int} (hg:bt s o k) {a:Nat} (h1:o<=(a:Int)) (h2:(a:Int) < o+k):s'.m a=s.m a:=by
 obtain⟨_,p,hp,q1,q2⟩:=hg
 exact h.m p hp a (by omega) (by omega)
theorem cd.moved {s s':ArS} {off go:Nat} {l:Lay} {n e:Nat} {T:Tb} (h:cd s off go l n e T) (hg:∀ o k,bt s o k->bt s' o k) (hm:∀ a,off<=a->a < off+64->s'.m a=s.m a) (hm2:∀ a,go<=a->a < go+n*gN l->s'.m a=s.m a):cd s' off go l n e T:=by
 refine⟨h.hl,h.he,h.hn,⟨fun k hk=>?_,fun g hg' j hj=>?_,h.hT.okc⟩,hg _ _ h.gh,hg _ _ h.gg,h.hr,h.dj⟩
 ·rw[<- h.hT.head k hk]
  exact eA fun i hi=>hm _ (by omega) (by omega)
 have hmul:g*gN l+gN l<=n*gN l:=by rw[<- Nat.succ_mul];exact Nat.mul_le_mul_right _ hg'
 rw[hm2 _ (by omega) (by omega)]
 exact h.hT.body g hg' j hj
theorem cd.newS {s s':ArS} {off go:Nat} {l:Lay} {n e:Nat} {T:Tb} (h:cd s off go l n e T) (hok:s.ok) {c:Int} (hN:ej s s' c):cd s' off go l n e T:=
 cd.moved h (fun o k=>hN.good) (fun a h1 h2=>ej.keeps hN hok h.gh (by omega) (by omega)) (fun a h1 h2=>ej.keeps hN hok h.gg (by omega) (by omega))
theorem cd.same {s s':ArS} {off go:Nat} {l:Lay} {n e:Nat} {T:Tb} (h:cd s off go l n e T) {o2 g2 k2:Nat} (hS:cb s s' o2 g2 k2) (h1:off+64<=o2\/o2+64<=off) (h2:off+64<=g2\/g2+k2<=off) (h3:go+n*gN l<=o2\/o2+64<=go) (h4:go+n*gN l<=g2\/g2+k2<=go):cd s' off go l n e T:=
 cd.moved h (fun o k=>hS.good) (fun a q1 q2=>hS.m a (by omega) (by omega)) (fun a q1 q2=>hS.m a (by omega) (by omega))
structure mB (T T':Tb):Prop where
 pins:T'.pins=T.pins
 next:T'.next=T.next
 kind:T'.kind=T.kind
 depth:T'.depth=T.depth
theorem mB.refl (T:Tb):mB T T:=⟨rfl,rfl,rfl,rfl⟩
theorem mB.trans {a b c:Tb} (h:mB a b) (k:mB b c):mB a c:=⟨k.pins.trans h.pins,k.next.trans h.next,k.kind.trans h.kind,k.depth.trans h.depth⟩
theorem rJ {n:Nat} {T T':Tb} {h:Int} {key elem:ByteArray} {birth out:Int} (h:zT n T h key elem birth (out,T')):mB T T':=by
 cases h <;> exact⟨rfl,rfl,rfl,rfl⟩
end Refill
end
section
namespace RefT
open Go.RowKit Go.Proofs CtrlB GroupB Probe TableB TableI
section
variable {home:Int} {n:Nat} {cells:Nat->Cell} {tag:Int} {key:ByteArray} {k:Nat}
def dT (home:Int) (n:Nat) (cells:Nat->Cell):Nat:=match (List.range n).find? (fun k=>decide (fo home n cells k < 8)) with | some j=>j+1 | none=>n
theorem tP (hk:k < n) (he:fo home n cells k < 8) (hno:∀ j,j < k->¬ fo home n cells j < 8):dT home n cells=k+1:=by
 unfold dT
 rw[k6 (k:=k) hk (by simpa using he) fun j hj=>by simpa using hno j hj]
theorem rl (hno:∀ j,j < n->¬ fo home n cells j < 8):dT home n cells=n:=by
 unfold dT
 have:(List.range n).find? (fun k=>decide (fo home n cells k < 8))=none:=by
  rw[List.find?_range_eq_none]
  intro j hj;simpa using hno j hj
 rw[this]
theorem mD (home:Int) (n:Nat) (cells:Nat->Cell):(∃ k,k < n/\fo home n cells k < 8/\(∀ j,j < k->¬ fo home n cells j < 8)/\dT home n cells=k+1)\/((∀ j,j < n->¬ fo home n cells j < 8)/\dT home n cells=n):=by
 cases e:(List.range n).find? (fun k=>decide (fo home n cells k < 8)) with
 | none=>
  rw[List.find?_range_eq_none] at e
  have hno:∀ j,j < n->¬ fo home n cells j < 8:=fun j hj=>by simpa using e j hj
  exact .inr ⟨hno,rl hno⟩
 | some k=>
  rw[List.find?_range_eq_some] at e
  obtain⟨h1,h2,h3⟩:=e
  have hk:k < n:=by simpa using h2
  have he:fo home n cells k < 8:=by simpa using h1
  have hno:∀ j,j < k->¬ fo home n cells j < 8:=fun j hj=>by simpa using h3 j hj
  exact .inl ⟨k,hk,he,hno,tP hk he hno⟩
theorem su (home:Int) (n:Nat) (cells:Nat->Cell):dT home n cells<=n:=by
 rcases mD home n cells with⟨k,h1,_,_,h2⟩ | ⟨_,h2⟩ <;> omega
theorem CX {j:Nat} (h:j+1 < dT home n cells):¬ fo home n cells j < 8:=by
 rcases mD home n cells with⟨k,h1,_,h3,h2⟩ | ⟨h3,h2⟩
 ·exact h3 j (by omega)
 exact h3 j (by omega)
def jF (home:Int) (n k:Nat):List Int:=(List.range k).map fun j=>((gk home n j:Nat):Int)
theorem pd {j:Nat} (h:j < k):(jF home n k)[j]?=some ((gk home n j:Nat):Int):=by simp[jF,h]
theorem yz (home:Int) (n k:Nat):jF home n (k+1)=jF home n k ++ [((gk home n k:Nat):Int)]:=by simp[jF,List.range_succ]
theorem u1 (hk:k < dT home n cells) (hh:eR home n cells tag key k < 8) (hno:∀ j,j < k->¬ eR home n cells tag key j < 8):
  bB home n cells tag key=⟨8*((gk home n k:Nat):Int)+((eR home n cells tag key k:Nat):Int),ez home n cells k,fw home n cells k,(k:Int)+1⟩:=by
 have hle:=su home n cells
 refine mF (by omega) (fun j hj=>?_) hh
 unfold eC
 rw[decide_eq_false (hno j hj),decide_eq_false (CX (by omega))]
 rfl
theorem x8 (hno:∀ k,k < dT home n cells->¬ eR home n cells tag key k < 8):
  bB home n cells tag key=⟨-1,ez home n cells (dT home n cells),fw home n cells (dT home n cells),(dT home n cells:Nat)⟩:=by
 rcases mD home n cells with⟨k,h1,h2,h3,h4⟩ | ⟨h3,h4⟩
 ·rw[jf h1 (fun j hj=>?_) (hno k (by omega)) h2,h4]
  ·simp
  unfold eC
  rw[decide_eq_false (hno j (by omega)),decide_eq_false (h3 j hj)]
  rfl
 rw[ly (fun j hj=>?_),h4]
 unfold eC
 rw[decide_eq_false (hno j (by omega)),decide_eq_false (h3 j hj)]
 rfl
theorem BV (h:(bB home n cells tag key).slot < 0):bB home n cells tag key=⟨-1,ez home n cells (dT home n cells),fw home n cells (dT home n cells),(dT home n cells:Nat)⟩:=by
 refine x8 fun k hk hh=>?_
 obtain⟨k0,h0,h1⟩:∃ k0,(k0 < dT home n cells/\eR home n cells tag key k0 < 8)/\∀ j,j < k0->¬ eR home n cells tag key j < 8:=by
  induction k using Nat.strongRecOn with
  | _ k ih=>
   by_cases q:∃ j,j < k/\eR home n cells tag key j < 8
   ·obtain⟨j,hj,hh2⟩:=q
    exact ih j hj (by omega) hh2
   exact⟨k,⟨hk,hh⟩,fun j hj hh2=>q ⟨j,hj,hh2⟩⟩
 rw[u1 h0.1 h0.2 h1] at h
 dsimp only at h
 omega
theorem C0 {w:Nat} (hk:k < w) (h:dm home n cells k < 8) (hno:∀ j,j < k->¬ dm home n cells j < 8):ez home n cells w=8*((gk home n k:Nat):Int)+((dm home n cells k:Nat):Int)/\fw home n cells w=eh (ck cells (gk home n k)) (dm home n cells k):=by
 have:vT home n cells w=some k:=by
  unfold vT
  exact k6 hk (by simpa using h) fun j hj=>by simpa using hno j hj
 unfold ez fw
 rw[this];exact⟨rfl,rfl⟩
theorem vac_no {w:Nat} (hno:∀ j,j < w->¬ dm home n cells j < 8):ez home n cells w= -1:=by
 have:vT home n cells w=none:=by
  unfold vT
  rw[List.find?_range_eq_none]
  intro j hj;simpa using hno j hj
 unfold ez
 rw[this]
theorem DK (home:Int) (hn:0 < n) (hh:0<=home):((gk home n 0:Nat):Int)=home % (n:Int):=by
 unfold gk ord
 have:=Int.emod_nonneg home (show(n:Int)≠0 by omega)
 simp only[Nat.zero_mul,Nat.zero_div,Int.natCast_zero,Int.add_zero]
 omega
theorem DL (home:Int) (hn:0 < n) (k:Nat):((gk home n (k+1):Nat):Int)=(((gk home n k:Nat):Int)+((k+1:Nat):Int)) % (n:Int):=by
 have e1:((gk home n k:Nat):Int)=ord home n k:=Int.toNat_of_nonneg (Int.emod_nonneg _ (by omega))
 have e2:((gk home n (k+1):Nat):Int)=ord home n (k+1):=Int.toNat_of_nonneg (Int.emod_nonneg _ (by omega))
 rw[e1,e2]
 unfold ord
 rw[tU,Int.emod_add_emod]
 congr 1
 omega
end
theorem pg {cs:Nat->Cell} {i:Nat}:iD cs i= !isFull (cs i):=by
 unfold iD isFull
 cases cs i <;> rfl
theorem qA {cs:Nat->Cell} {i:Nat}:eh cs i=dz (cs i):=by
 unfold eh dz
 cases cs i <;> rfl
theorem kX {c:Cell}:c.kind=0↔dz c=true:=by cases c <;> simp[Cell.kind,dz]
theorem np {cs:Nat->Cell} {tag:Int} {key:ByteArray} {i:Nat}:mq cs tag key i=true↔(cs i).kind=2/\(cs i).tagI=tag/\(cs i).keyS=key:=by
 unfold mq
 cases cs i <;> simp[Cell.kind,Cell.tagI,Cell.keyS]
theorem mK {s:Nat->Bool} (h:∀ i,i < 8->s i=false):¬ cm s < 8:=by rw[iy.2 h];decide
def nK (cells:Nat->Cell) (i:Nat):Nat:=dX (fun c=>!dz c) cells i
theorem AG (cells:Nat->Cell) (N:Nat):nK cells N=dX isFull cells N+dX isDel cells N:=by
 induction N with
 | zero=>rfl
 | succ N ih=>
  unfold nK at ih ⊢
  rw[cI,cI,cI,ih]
  cases cells N <;> simp[dz,isFull,isDel] <;> omega
end RefT
end
section
namespace Table
open Go.RowKit Go.Proofs Eng Ty Arena Layout GroupB Group TableB TableI Cells
def bO (cs:Nat->Cell) (i:Nat):List Cell:=(List.range i).map cs
theorem jr (cs:Nat->Cell) (i:Nat):(bO cs i).length=i:=by simp[bO]
theorem eV {cs:Nat->Cell} {i j:Nat} (h:j < i):(bO cs i)[j]?=some (cs j):=by simp[bO,h]
theorem u0 (cs:Nat->Cell) (i:Nat):rowOf cj (bO cs i) ++ cj (cs i)=rowOf cj (bO cs (i+1)):=by
 unfold bO;rw[List.range_succ,List.map_append,eO];simp[rowOf]
theorem mO (c:Cell):(cj c).length=5:=rfl
theorem od (pa off:Nat) (l:Lay):aK Tryz.prog 141 #[.agg #[.pointer (some ⟨pa,0,none⟩),.int .i64 l.key,.int .i64 l.elem,.int .i64 l.ka,.int .i64 l.ea,.int .i64 l.cap,.int .i64 l.eo,.int .i64 l.bo,.int .i64 l.slot,.int .i64 l.group,.int .i64 (off:Nat)]] [] (fun v L=>∃ bc,v=.func (.func 200) #[] #[.pointer (some ⟨bc,0,none⟩)]/\L= [pt bc (.cells #[.pointer (some ⟨pa,0,none⟩),.int .i64 l.key,.int .i64 l.elem,.int .i64 l.ka,.int .i64 l.ea,.int .i64 l.cap,.int .i64 l.eo,.int .i64 l.bo,.int .i64 l.slot,.int .i64 l.group,.int .i64 (off:Nat)] 39 (0,0))]):=by
 refine au IS Tryz.func141 rfl rfl rfl fun Fr w0=>aZ ?_
 exact sr<|bw O O fun b1=>ar O O<|lz<|ad O (ji O O)<|ar O O<|lc<|rt<|cN O ([pt b1 (.cells #[.pointer (some ⟨pa,0,none⟩),.int .i64 l.key,.int .i64 l.elem,.int .i64 l.ka,.int .i64 l.ea,.int .i64 l.cap,.int .i64 l.eo,.int .i64 l.bo,.int .i64 l.slot,.int .i64 l.group,.int .i64 (off:Nat)] 39 (0,0))]) (.tmp rfl) ⟨b1,rfl,rfl⟩
theorem xg (pa off go n e bc:Nat) (s:ArS) (l:Lay) (T:Tb) (hP:cd s off go l n e T):qM Tryz.prog 200 #[.pointer (some ⟨bc,0,none⟩)] [pt bc (.cells #[.pointer (some ⟨pa,0,none⟩),.int .i64 l.key,.int .i64 l.elem,.int .i64 l.ka,.int .i64 l.ea,.int .i64 l.cap,.int .i64 l.eo,.int .i64 l.bo,.int .i64 l.slot,.int .i64 l.group,.int .i64 (off:Nat)] 39 (0,0))] [aj pa s] (j0 T.cells (8*n)) [pt bc (.cells #[.pointer (some ⟨pa,0,none⟩),.int .i64 l.key,.int .i64 l.elem,.int .i64 l.ka,.int .i64 l.ea,.int .i64 l.cap,.int .i64 l.eo,.int .i64 l.bo,.int .i64 l.slot,.int .i64 l.group,.int .i64 (off:Nat)] 39 (0,0))] [pt bc (.cells #[.pointer (some ⟨pa,0,none⟩),.int .i64 l.key,.int .i64 l.elem,.int .i64 l.ka,.int .i64 l.ea,.int .i64 l.cap,.int .i64 l.eo,.int .i64 l.bo,.int .i64 l.slot,.int .i64 l.group,.int .i64 (off:Nat)] 39 (0,0))]:=by
 have hn8:=hP.n0
 refine⟨EJ,fun l' B S' C hC hY=>?_⟩
 show aK _ _ #[.func (.yield l') #[] #[],.pointer (some ⟨bc,0,none⟩)] _ _
 refine au EJ Tryz.func200 rfl rfl rfl fun Fr w0=>aZ ?_
 refine dN (φ:=s.ok) (fun w hw=>cS hw (.there .here)) fun hok0=>?_
 refine sr<|ad O (aO O bA aM) ?_
 refine bF O O O (eS pa off go n e s l T hP) ?_
 refine mv O O<|ad O (aa O ga) ?_
 refine ad O (aa O ga) ?_
 refine ay O da fun b3=>bZ O O O cl O O ?_
 refine ar O O<|lc<|al<|sr<|mv O O<|ad O (qi O O (bf ·))<|lc<|aG O (fun z0=>?_) fun z0=>?_
 ·exact absurd rfl z0
 refine aq<|nz<|ad O (aE 1 O bP O O aN)<|ad O (aI O aX) ?_
 refine sR (sz:=5) (rowOf cj (bO T.cells 0)) rfl rfl rfl rfl Tryz.underlying43 xF (by omega) (by omega) fun b20=>?_
 refine ar O O<|lc<|al<|sr<|ad O (aE 1 O bP O O aN)<|ad O (aI O aX) ?_
 refine mv O O<|lc<|aB ?_
 rw[show(8*(n:Int)).toNat=8*n by omega]
 refine bK (fun x:Nat×Value=>x.1<=8*n) (fun x=>[(0,.func (.yield l') #[] #[]),(1,.pointer (some ⟨bc,0,none⟩)),(3,.pointer (some ⟨b3,0,none⟩)),(5,x.2),(22,.int .i64 (8*(n:Int))),(23,.int .i64 (x.1:Nat))]) (fun x=>aF 142 5 x.2 x.1 (rowOf cj (bO T.cells x.1))::pt b3 (.cells #[.int .i64 T.used,.int .i64 (8*(n:Int)),.int .i64 T.left,.int .i64 T.depth,.int .i64 T.pins,.int .i64 T.next,.bool (decide (T.kind=4)),.int .i64 (go:Nat)] 147 (0,0))::pt bc (.cells #[.pointer (some ⟨pa,0,none⟩),.int .i64 l.key,.int .i64 l.elem,.int .i64 l.ka,.int .i64 l.ea,.int .i64 l.cap,.int .i64 l.eo,.int .i64 l.bo,.int .i64 l.slot,.int .i64 l.group,.int .i64 (off:Nat)] 39 (0,0))::aj pa s::(C ++ Fr)) (fun x=>8*n-x.1) (0,.slice (some ⟨b20,0,none⟩) 0 (8*n)) (Nat.zero_le _) ⟨rfl,rfl,rfl,rfl,rfl,rfl,trivial⟩ (by(exact en)) ?_
 rintro⟨i,vc⟩ hi
 dsimp only at hi ⊢
 refine sr<|ad O (qi O O (bj ·))<|lc<|al<|aG O (fun h=>?_) fun h=>?_
 ·skip
  have hi8:i < 8*n:=by omega
  obtain⟨hgood,hG',hok',hin⟩:=hP.grpAt (g:=i / 8) (by omega)
  refine aq<|an<|al<|aB<|sr<|mv O O<|ar O O<|lz<|ad O (aO O bA aM) ?_
  refine ad O (aO O eY cl) ?_
  refine mv O O<|ad O (eT O O) ?_
  refine bF O O O (iY pa off go n e s l T hP hok0 (g:=i / 8) (by omega) _ (by omega)) ?_
  refine mv O O<|ad O (iQ O O) ?_
  rw[show((i:Nat):Int) % 8=((i % 8:Nat):Int) by omega]
  refine bF O O O (tB pa (go+i / 8*gN l) s l (ck T.cells (i / 8)) hP.hl hgood hG' hok' (i % 8) (by omega)) ?_
  rw[show ck T.cells (i / 8) (i % 8)=T.cells i by show T.cells (8*(i / 8)+i % 8)=_;congr 1;omega]
  refine mv O O<|ad O (aa O ga) ?_
  refine ad O (aa O ga) ?_
  refine ay O dF fun b7=>bZ O O O bV O O ?_
  refine ar O O<|lc<|al<|sr<|mv O O<|ad O (qi O O (bf ·))<|lc<|aG O (fun z=>?_) fun z=>?_
  ·exact absurd rfl z
  refine aq<|an<|aD<|mv O O<|ad O (aO O fj bV) ?_
  refine fD (us:=[_]) rfl rfl ef bV dF rfl rfl rfl rfl rfl (fun b41=>?_)
  apply e9 (sz:=5) rfl rfl rfl ef xF rfl rfl
  ·exact tk
  ·exact tk
  ·rfl
  ·rfl
  ·simp only[maxLen];omega
  ·omega
  intro v42
  refine gM (v:=v42) tk fun _ hs42=>?_
  obtain⟨a42,cap42,rfl,hs42,_,_⟩:=hs42
  refine ar O O<|ai<|bz<|an<|aD<|ad O (bn O O) ?_
  refine mv O O<|ai ?_
  rw[show rowOf cj (bO T.cells i) ++ ([Value.agg #[.int .i64 (T.cells i).kind,.int .i64 (T.cells i).tagI,.string (T.cells i).keyS,.string (T.cells i).elemS,.int .i64 (T.cells i).birthI]].flatMap fun x=>x.cells.toList).toArray.toList=rowOf cj (bO T.cells (i+1)) from(by rw[<- u0];rfl)]
  apply aU ((i+1,.slice a42 (i+1) cap42))
  ·exact(show i+1<=8*n by omega)
  ·dsimp only;omega
  ·exact⟨O,O,O,O,O,O,trivial⟩
  exact en
 obtain rfl:i=8*n:=by omega
 refine bU (v:=vc) (n:=8*n) tk fun _ hsh=>?_
 obtain⟨a0,cap,rfl,hsh,_,_⟩:=hsh
 obtain⟨g,rfl⟩:=hsh (by omega)
 refine xt O<|nz<|mv O O<|ad O (ql O ef)<|mv O O<|lc<|aB ?_
 refine AJ (E':=[(0,.func (.yield l') #[] #[]),(44,.slice (some ⟨g,0,none⟩) (8*n) cap),(45,.int .i64 ((8*n:Nat):Int)),(46,.int .i64 0)]) (L':=B 0::aF 142 5 (.slice (some ⟨g,0,none⟩) (8*n) cap) (8*n) (rowOf cj (bO T.cells (8*n)))::pt bc (.cells #[.pointer (some ⟨pa,0,none⟩),.int .i64 l.key,.int .i64 l.elem,.int .i64 l.ka,.int .i64 l.ea,.int .i64 l.cap,.int .i64 l.eo,.int .i64 l.bo,.int .i64 l.slot,.int .i64 l.group,.int .i64 (off:Nat)] 39 (0,0))::Fr) ⟨rfl,rfl,rfl,rfl,trivial⟩ (fun w hw=>?_) ?_
 ·have h1:Sat (stars (aF 142 5 (.slice (some ⟨g,0,none⟩) (8*n) cap) (8*n) (rowOf cj (bO T.cells (8*n)))::pt bc (.cells #[.pointer (some ⟨pa,0,none⟩),.int .i64 l.key,.int .i64 l.elem,.int .i64 l.ka,.int .i64 l.ea,.int .i64 l.cap,.int .i64 l.eo,.int .i64 l.bo,.int .i64 l.slot,.int .i64 l.group,.int .i64 (off:Nat)] 39 (0,0))::aj pa s::(C ++ Fr))) w:=(show dS _ _ by(exact en)) w hw
  exact hC _ _ (h1.perm (List.perm_append_comm_assoc [aF 142 5 (.slice (some ⟨g,0,none⟩) (8*n) cap) (8*n) (rowOf cj (bO T.cells (8*n))),pt bc (.cells #[.pointer (some ⟨pa,0,none⟩),.int .i64 l.key,.int .i64 l.elem,.int .i64 l.ka,.int .i64 l.ea,.int .i64 l.cap,.int .i64 l.eo,.int .i64 l.bo,.int .i64 l.slot,.int .i64 l.group,.int .i64 (off:Nat)] 39 (0,0))] (aj pa s::C) Fr))
 refine bK (fun i:Nat=>i<=8*n) (fun i=>[(0,.func (.yield l') #[] #[]),(44,.slice (some ⟨g,0,none⟩) (8*n) cap),(45,.int .i64 ((8*n:Nat):Int)),(46,.int .i64 (i:Nat))]) (fun i=>B (dX isFull T.cells i)::aF 142 5 (.slice (some ⟨g,0,none⟩) (8*n) cap) (8*n) (rowOf cj (bO T.cells (8*n)))::pt bc (.cells #[.pointer (some ⟨pa,0,none⟩),.int .i64 l.key,.int .i64 l.elem,.int .i64 l.ka,.int .i64 l.ea,.int .i64 l.cap,.int .i64 l.eo,.int .i64 l.bo,.int .i64 l.slot,.int .i64 l.group,.int .i64 (off:Nat)] 39 (0,0))::Fr) (fun i=>8*n-i) 0 (Nat.zero_le _) ⟨rfl,rfl,rfl,rfl,trivial⟩ (dS.refl _) ?_
 intro i hi
 have hcs:=cI isFull T.cells i
 refine sr<|ad O (qi O O (bj ·))<|lc<|al<|aG O (fun h2=>?_) fun h2=>?_
 ·skip
  have hi8:i < 8*n:=by omega
  have hcell:∀ j x,[Value.int .i64 (T.cells i).kind,.int .i64 (T.cells i).tagI,.string (T.cells i).keyS,.string (T.cells i).elemS,.int .i64 (T.cells i).birthI][j]?=some x->dt (aF 142 5 (.slice (some ⟨g,0,none⟩) (8*n) cap) (8*n) (rowOf cj (bO T.cells (8*n)))) ((⟨g,0+(i:Int).toNat*5,none⟩:Addr).add j) x:=fun j x hx=>by
   have hj:j < 5:=by rcases Nat.lt_or_ge j 5 with q | q;exact q;rw[List.getElem?_eq_none (by simpa using q)] at hx;cases hx
   rw[dr,Nat.zero_add,Int.toNat_natCast]
   exact nb (by rw[er mO (bO T.cells (8*n)) i j (T.cells i) (eV hi8) hj];exact hx)
  refine aq<|an<|al<|aB<|sr<|mv O O<|ad O (aL O O ef bV (by omega)) ?_
  apply ad O
  ·apply cg (A:=aF 142 5 (.slice (some ⟨g,0,none⟩) (8*n) cap) (8*n) (rowOf cj (bO T.cells (8*n)))) (us:=[.int .i64 (T.cells i).kind,.int .i64 (T.cells i).tagI,.string (T.cells i).keyS,.string (T.cells i).elemS,.int .i64 (T.cells i).birthI]) rfl fj bV rfl
   ·exact tk
   exact hcell
  refine ay O dF fun b10=>ar O O<|bZ O O O bV O O ?_
  refine lz<|ad O (aE 0 O cq O O aN)<|ad O (aI O aX) ?_
  refine ad O (qi O O (bN ·))<|mv O O<|bQ (t:=54) rfl (fun x=>?_) fun x=>?_
  ·refine aA O O<|mv O O<|aA O O<|mv O O<|aA O O<|ad O (aO O fj bV) ?_
   refine aA O O ?_
   have hf:=nZ.1 x
   apply sX O O O ((hY _ _ (wZ hi8 hf)))
   ·exact pk
   ·exact pk
   rintro b L' (⟨rfl,rfl⟩ | ⟨rfl,rfl⟩)
   ·refine bx ?_
    refine aA O O<|ad O (db O (cy ·))<|ad O (aS O O)<|lc<|cQ O<|aq<|bz<|an<|aD<|ad O (bn O O) ?_
    refine mv O O<|ai ?_
    rw[hf,if_pos rfl] at hcs
    rw[<- hcs]
    apply aU ((i+1))
    ·exact(show i+1<=8*n by omega)
    ·omega
    ·exact⟨O,O,O,O,trivial⟩
    exact en
   refine bx ?_
   refine aA O O<|ad O (db O (cy ·))<|ad O (aS O O)<|lc<|bk O<|rt ?_
   apply aR (.inl rfl) (_)
   ·exact pP O
   ·exact .inr ⟨dX isFull T.cells i,by rw[fY];have:=lL (p:=isFull) (cs:=T.cells) (show i+1<=8*n by omega);rw[hcs,hf,if_pos rfl] at this;omega,rfl⟩
   exact en
  refine ax O O O O<|ax O O O O<|ax O O O O<|ax O O O O<|ax O O O O<|ad O (aS O O)<|lc<|cQ O<|aq<|bz<|an<|aD<|ad O (bn O O) ?_
  refine mv O O<|ai ?_
  have hf:¬ isFull (T.cells i)=true:=fun e=>x (nZ.2 e)
  rw[if_neg hf] at hcs
  rw[show dX isFull T.cells i=dX isFull T.cells (i+1) by omega]
  apply aU ((i+1))
  ·exact(show i+1<=8*n by omega)
  ·omega
  ·exact⟨O,O,O,O,trivial⟩
  exact en
 obtain rfl:i=8*n:=by omega
 refine xt O ?_
 apply aR (.inr rfl) (_)
 ·exact pP O
 ·exact .inl (by rw[fY])
 exact en
theorem oe (pa off go n e bc:Nat) (s:ArS) (l:Lay) (T:Tb) (hP:cd s off go l n e T):qM Tryz.prog 200 #[.pointer (some ⟨bc,0,none⟩)] [pt bc (.cells #[.pointer (some ⟨pa,0,none⟩),.int .i64 l.key,.int .i64 l.elem,.int .i64 l.ka,.int .i64 l.ea,.int .i64 l.cap,.int .i64 l.eo,.int .i64 l.bo,.int .i64 l.slot,.int .i64 l.group,.int .i64 (off:Nat)] 39 (0,0))] [aj pa s] (j0 T.cells (8*n)) [pt bc (.cells #[.pointer (some ⟨pa,0,none⟩),.int .i64 l.key,.int .i64 l.elem,.int .i64 l.ka,.int .i64 l.ea,.int .i64 l.cap,.int .i64 l.eo,.int .i64 l.bo,.int .i64 l.slot,.int .i64 l.group,.int .i64 (off:Nat)] 39 (0,0))]:=(xg pa off go n e bc s l T hP).plain
end Table
end
section
namespace Grow
open Go.RowKit Go.Proofs Eng Ty Layout
def DD:ByteArray:=⟨#[48,49,50,51,52,53,54,55,56,57,97,98,99,100,101,102,103,104,105,106,107,108,109,110,111,112,113,114,115,116,117,118,119,120,121,122,65,66,67,68,69,70,71,72,73,74,75,76,77,78,79,80,81,82,83,84,85,86,87,88,89,90]⟩
def letter (i:Nat):ByteArray:=DD.extract i (i+1)
def BH (key:ByteArray):Prop:=∃ i,i < 62/\key=letter i
def birthI (n:Int):Int:=if n < 0 then -(n+1) else n
theorem D3 (pa:Nat) (l:Lay) (off:Int):aK Tryz.prog 72 #[.agg #[.pointer (some ⟨pa,0,none⟩),.int .i64 l.key,.int .i64 l.elem,.int .i64 l.ka,.int .i64 l.ea,.int .i64 l.cap,.int .i64 l.eo,.int .i64 l.bo,.int .i64 l.slot,.int .i64 l.group,.int .i64 off]] [] (fun v L=>v=.int .i64 off/\L= []):=by
 refine au JZ Tryz.func72 rfl rfl rfl fun Fr w0=>aZ ?_
 refine sr<|bw O O fun b1=>ar O O<|lz<|ad O (aE 10 O kE O O aN)<|ad O (aI O aX) ?_
 exact ar O O<|lc<|rt<|cN O ([]) (.tmp rfl) ⟨rfl,rfl⟩
theorem fJ (pa:Nat) (l:Lay) (off:Int):aK Tryz.prog 55 #[.agg #[.pointer (some ⟨pa,0,none⟩),.int .i64 l.key,.int .i64 l.elem,.int .i64 l.ka,.int .i64 l.ea,.int .i64 l.cap,.int .i64 l.eo,.int .i64 l.bo,.int .i64 l.slot,.int .i64 l.group,.int .i64 off]] [] (fun v L=>v=.pointer (some ⟨pa,0,none⟩)/\L= []):=by
 refine au Kc Tryz.func55 rfl rfl rfl fun Fr w0=>aZ ?_
 refine sr<|bw O O fun b1=>ar O O<|lz<|ad O (aE 0 O kE O O eu)<|ad O (aI O ew) ?_
 exact ar O O<|lc<|rt<|cN O ([]) (.tmp rfl) ⟨rfl,rfl⟩
theorem eE (pa:Nat) (l:Lay) (off:Int):aK Tryz.prog 94 #[.agg #[.pointer (some ⟨pa,0,none⟩),.int .i64 l.key,.int .i64 l.elem,.int .i64 l.ka,.int .i64 l.ea,.int .i64 l.cap,.int .i64 l.eo,.int .i64 l.bo,.int .i64 l.slot,.int .i64 l.group,.int .i64 off]] [] (fun v L=>v=.agg l.cells/\L= []):=by
 refine au JP Tryz.func94 rfl rfl rfl fun Fr w0=>aZ ?_
 refine sr<|bw O O fun b1=>ay O gB fun b2=>lz<|ad O (aE 1 O kE O O bH)<|ad O (aO O cZ bH) ?_
 refine bZ O O O bH O O ?_
 refine lc<|rt ?_
 apply aR (.inl rfl) ([])
 ·apply cP O
  apply Rv.agg rfl
  ·exact tk
  exact aJ cZ bH O
 ·exact⟨rfl,rfl⟩
 exact en
end Grow
end
section
namespace Grow
open Go.RowKit Go.Proofs Eng Arena Layout GroupB TableB TableI Table Refill Ref03
def JJ:Lay:=⟨1,1,1,1,64⟩
structure LT (n:Nat) (H:ByteArray->Int) (T:Tb):Prop where
 dX:Jf n T
 key:Je n H T.cells
 let':∀ p,p < 8*n->isFull (T.cells p)=true->BH (T.cells p).keyS
section
variable {n:Nat} {H:ByteArray->Int} {T T':Tb} {key elem:ByteArray} {birth out:Int}
end
def Fj (t:Int×Int×Bool):List Value:=[.int .i64 t.1,.int .i64 t.2.1,.bool t.2.2]
def C7 (t:Int×Int×Bool):Prop:=(-9223372036854775808<=t.1/\t.1<=9223372036854775807)/\(-9223372036854775808<=t.2.1/\t.2.1<=9223372036854775807)
def D2 (A:HP) (v:Value) (ts:List (Int×Int×Bool)):Prop:=∃ a cap,v=.slice a ts.length cap/\(0 < ts.length->∃ b o,a=some ⟨b,o,none⟩/\∀(i:Nat) t,ts[i]?=some t->∀(j:Nat) x,(Fj t)[j]?=some x->dt A ⟨b,o+i*3+j,none⟩ x)
structure Kv (A:HP) (seed size depth:Int) (vh vs:Value) (hs:List Int) (ts:List (Int×Int×Bool)):Prop where
 seed:0<=seed/\seed < 18446744073709551616
 size:-9223372036854775808<=size/\size<=9223372036854775807
 depth:-9223372036854775808<=depth/\depth<=9223372036854775807
 hash:xy .u64 A vh hs
 hashWf:∀ x∈hs,0<=x/\x < 18446744073709551616
 step:D2 A vs ts
 stepWf:∀ t∈ts,C7 t
 hlen:hs.length<=9223372036854775807
 slen:ts.length<=9223372036854775807
structure WP (s:ArS) (off go n e:Nat) (H:ByteArray->Int) (T:Tb):Prop where
 tab:cd s off go JJ n e T
 lt:LT n H T
 hd:(((off:Nat):Int),(64:Int))∈s.bl
 blk:(((go:Nat):Int),aH ((n*gN JJ:Nat):Int))∈s.bl
end Grow
end
section
namespace Grow
open Go.RowKit Go.Proofs GroupB TableB TableI Table Bench Cells
def nC (h d:Int):Int:=h / 2 ^ (63-d).toNat % 2
theorem qG (h d:Int):nC h d=0\/nC h d=1:=by
 unfold nC
 omega
def side (H:ByteArray->Int) (d:Int) (cs:Nat->Cell) (b:Int) (i:Nat):Cell:=if isFull (cs i)=true/\nC (H (cs i).keyS) d=b then cs i else .empty
section
variable {H:ByteArray->Int} {d d0 b:Int} {cs:Nat->Cell} {n N i j:Nat} {U:Tb} {lives:List q8}
theorem ru (h:isFull (side H d cs b i)=true):isFull (cs i)=true/\nC (H (cs i).keyS) d=b/\side H d cs b i=cs i:=by
 unfold side at h ⊢
 split at h
 ·next q=>exact⟨q.1,q.2,by rw[if_pos q]⟩
 cases h
theorem lV (h1:isFull (cs i)=true) (h2:nC (H (cs i).keyS) d=b):side H d cs b i=cs i:=if_pos ⟨h1,h2⟩
theorem oS (h2:nC (H (cs i).keyS) d≠b):side H d cs b i=.empty:=if_neg fun q=>h2 q.2
theorem tf {p:Cell->Bool} (hjk:j<=N) (h:dX p cs N=dX p cs j) (h1:j<=i) (h2:i < N):p (cs i)=false:=by
 cases q:p (cs i) with
 | false=>rfl
 | true=>
  have a:=cI p cs i
  rw[if_pos q] at a
  have b1:=lL (p:=p) (cs:=cs) (show j<=i from h1)
  have b2:=lL (p:=p) (cs:=cs) (show i+1<=N from h2)
  omega
def cw (n:Nat) (H:ByteArray->Int) (cs:Nat->Cell) (d0:Int):Nat->Tb
 | 0=>cR n d0
 | i+1=>if isFull (cs i)=true then(eD n (cw n H cs d0 i) (H (cs i).keyS) (cs i).keyS (cs i).elemS (cs i).birthI).2 else cw n H cs d0 i
theorem zq (h:∀ i,j<=i->i < N->isFull (cs i)=false):j<=N->cw n H cs d0 N=cw n H cs d0 j:=by
 intro hj
 induction N with
 | zero=>exact(by have h0:j=0:=(by omega);subst h0;rfl)
 | succ N ih=>
  by_cases e:j=N+1
  ·rw[e]
  show(if isFull (cs N)=true then _ else _)=_
  rw[h N (by omega) (by omega),if_neg (by simp)]
  exact ih (fun i h1 h2=>h i h1 (by omega)) (by omega)
theorem r5 {p:Cell->Bool} (h:dX p cs j=dX p cs i) (hf:p (cs i)=true):j<=i:=by
 rcases Nat.lt_or_ge i j with q | q
 ·have a:=cI p cs i
  rw[if_pos hf] at a
  have:=lL (p:=p) (cs:=cs) (show i+1<=j from q)
  omega
 exact q
end
end Grow
end
end Go.Proofs.YthkajgkagnenbaaGreatDoor
