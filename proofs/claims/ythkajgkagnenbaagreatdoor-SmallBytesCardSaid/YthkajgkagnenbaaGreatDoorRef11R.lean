import Derived.Test.YthkajgkagnenbaaGreatDoorPromo
import Derived.Test.YthkajgkagnenbaaGreatDoorExactT
set_option linter.unusedVariables false
set_option linter.unusedSimpArgs false
set_option linter.unusedSectionVars false
set_option maxRecDepth 100000
namespace Go.Proofs.YthkajgkagnenbaaGreatDoor
namespace Small
open Go.RowKit Go.Proofs Eng Ty Bits Mem Search Arena CtrlB Layout GroupB Group TableB TableI Table Cells Refill RefA RefT
theorem kind2 {c:Cell}:c.kind=2↔isFull c=true:=by cases c <;> simp[Cell.kind,isFull]
structure SR where
 p:Nat
 off:Nat
 S:Sm
 dead:Bool
 over:Bool
structure SRng (S:Sm):Prop where
 used:S.used=((cnt isFull S.cells 8:Nat):Int)
 pins:0≤S.pins∧S.pins≤4611686018427387904
 kind:S.kind=1∨S.kind=3
section
variable (l:Lay) (x:SR)
def ktX (tag:Int) (key:ByteArray):Int:=if x.dead then 24 else ktE l tag key
def dX (tag:Int) (key:ByteArray):Int×Int:=if ktX l x tag key≠0 then(0,ktX l x tag key) else(atI x.S tag.toNat key,0)
def eV (tag:Int) (key:ByteArray):Cell×Int:=if ktX l x tag key≠0 then(.empty,ktX l x tag key) else(nR x.S tag.toNat key,0)
def gD (tag:Int) (key:ByteArray):Bool×Int×Sm:=if ktX l x tag key≠0 then(false,ktX l x tag key,x.S) else((jV x.S tag.toNat key).1,0,(jV x.S tag.toNat key).2)
def peX (tag:Int) (key elem:ByteArray) (birth:Int):Int:=if x.dead then 24 else kr l tag key elem birth
def gp (tag:Int) (key elem:ByteArray) (birth:Int):Int×Int×Sm:=if peX l x tag key elem birth≠0 then(0,peX l x tag key elem birth,x.S) else((iC x.S tag.toNat key elem birth).1,0,(iC x.S tag.toNat key elem birth).2)
def dR (k:Int):Cell×Int:=if x.dead then(.empty,24) else if k < 0∨8≤k then(.empty,60) else(x.S.cells k.toNat,0)
def gK (v:Int):Int×Int×Sm:=if x.dead then(0,24,x.S) else if v < -x.S.pins∨4611686018427387904-x.S.pins < v then(0,83,x.S) else(x.S.pins+v,0,{x.S with pins:=x.S.pins+v})
def lD (v:Int):Int×Sm:=if x.dead then(24,x.S) else(0,{x.S with next:=v,kind:=3})
def iU (v:Int):Int×Sm:=if x.dead then(24,x.S) else(0,{x.S with next:=v})
end
@[reducible] def rsP (pr:Nat) (l:Lay) (x:SR) (v:Value):List HP:=[pt x.p (.cells #[.pointer (some ⟨pr,0,none⟩),.int .i64 l.key,.int .i64 l.elem,.int .i64 l.ka,.int .i64 l.ea,.int .i64 l.cap,.int .i64 l.eo,.int .i64 l.bo,.int .i64 l.slot,.int .i64 l.group,.int .i64 (x.off:Nat),.int .i64 x.S.used,.int .i64 x.S.pins,.int .i64 x.S.next,.bool (decide (x.S.kind=3)),.bool x.dead,v] 75 (0,0)),aE 142 5 v 8 (rowOf bH (bu x.S.cells 8))]
def rsH (pr:Nat) (l:Lay) (x:SR):HP:=exP (fun _:Value=>True) (rsP pr l x)
theorem dM {c:Cx} {fin:Exit→Act→World→Prop} {ds:List Deferred} {E:Env} {ks:List KI} {pr:Nat} {l:Lay} {x:SR} {L M:List HP} {y:Code} (ht:Take (rsH pr l x) L M) (k:∀ v,TC c fin ds E (pt x.p (.cells #[.pointer (some ⟨pr,0,none⟩),.int .i64 l.key,.int .i64 l.elem,.int .i64 l.ka,.int .i64 l.ea,.int .i64 l.cap,.int .i64 l.eo,.int .i64 l.bo,.int .i64 l.slot,.int .i64 l.group,.int .i64 (x.off:Nat),.int .i64 x.S.used,.int .i64 x.S.pins,.int .i64 x.S.next,.bool (decide (x.S.kind=3)),.bool x.dead,v] 75 (0,0))::aE 142 5 v 8 (rowOf bH (bu x.S.cells 8))::M) y ks):TC c fin ds E L y ks:=
 jy (X:=Value) (LL:=fun v=>rsP pr l x v ++ M) (fun w hs=>let ⟨v,_,h⟩:=bZ.1 (hs.take ht);⟨v,h⟩) k
theorem km {c:Cx} {fin:Exit→Act→World→Prop} {ds:List Deferred} {E:Env} {ks:List KI} {pr:Nat} {l:Lay} {x:SR} {L M:List HP} {ops:Array Oper} {y:List Oper} (ht:Take (rsH pr l x) L M) (k:∀ v,TL c fin ds E (pt x.p (.cells #[.pointer (some ⟨pr,0,none⟩),.int .i64 l.key,.int .i64 l.elem,.int .i64 l.ka,.int .i64 l.ea,.int .i64 l.cap,.int .i64 l.eo,.int .i64 l.bo,.int .i64 l.slot,.int .i64 l.group,.int .i64 (x.off:Nat),.int .i64 x.S.used,.int .i64 x.S.pins,.int .i64 x.S.next,.bool (decide (x.S.kind=3)),.bool x.dead,v] 75 (0,0))::aE 142 5 v 8 (rowOf bH (bu x.S.cells 8))::M) ops y ks):TL c fin ds E L ops y ks:=
 rL (X:=Value) (LL:=fun v=>rsP pr l x v ++ M) (fun w hs=>let ⟨v,_,h⟩:=bZ.1 (hs.take ht);⟨v,h⟩) k
theorem bB {pr:Nat} {l:Lay} {x:SR} (v:Value) {L R:List HP} (he:Ent L (pt x.p (.cells #[.pointer (some ⟨pr,0,none⟩),.int .i64 l.key,.int .i64 l.elem,.int .i64 l.ka,.int .i64 l.ea,.int .i64 l.cap,.int .i64 l.eo,.int .i64 l.bo,.int .i64 l.slot,.int .i64 l.group,.int .i64 (x.off:Nat),.int .i64 x.S.used,.int .i64 x.S.pins,.int .i64 x.S.next,.bool (decide (x.S.kind=3)),.bool x.dead,v] 75 (0,0))::aE 142 5 v 8 (rowOf bH (bu x.S.cells 8))::R)):Ent L (rsH pr l x::R):=fun w h=>bZ.2 ⟨v,trivial,he w h⟩
theorem kg {x:SR} {g0 cap k:Nat} (hk:k < 8) (o:Nat) (ho:o=k*5):∀ j v,[.int .i64 (x.S.cells k).kind,.int .i64 (x.S.cells k).tagI,.string (x.S.cells k).keyS,.string (x.S.cells k).elemS,.int .i64 (x.S.cells k).birthI][j]?=some v→ct (aE 142 5 (.slice (some ⟨g0,0,none⟩) 8 cap) 8 (rowOf bH (bu x.S.cells 8))) ((⟨g0,o,none⟩:Addr).add j) v:=fun j v hv=>by
 have hj:j < 5:=by rcases Nat.lt_or_ge j 5 with q | q;exact q;rw[List.getElem?_eq_none (by simpa using q)] at hv;cases hv
 rw[cz,ho]
 exact ji (by rw[RefT.cells_row x.S.cells hk j hj];exact hv)
section
variable (pr:Nat) (l:Lay) (x:SR)
theorem ov (tag:Int) (key elem:ByteArray) (birth:Int):aG Tryz.prog 176 #[.pointer (some ⟨x.p,0,none⟩),.int .i64 tag,.string key,.string elem,.int .i64 birth] [rsH pr l x] (fun v L=>v=.int .i64 (peX l x tag key elem birth)∧L= [rsH pr l x]):=by
 refine aq F5 Tryz.func176 rfl rfl rfl fun Fr w0=>aR ?_
 refine dM .here fun vc=>?_
 refine cw (.there .here) fun _ hvc=>?_
 obtain⟨a0,cap,rfl,ha,_,_⟩:=hvc
 obtain⟨g0,rfl⟩:=ha (by decide)
 refine sr<|asg rfl rfl<|lc<|ah<|ax<|sr<|mv rfl rfl<|l_q rfl (ad rfl)<|l_q rfl (qfa 15 rfl cL rfl rfl yS4)<|l_q rfl (qld rfl yA4) ?_
 refine asg rfl rfl<|lc<|aA rfl (fun z1=>?_) fun z1=>?_
 ·refine sr<|asg rfl rfl<|lc<|rt ?_
  apply aJ (.inl rfl) ([rsH pr l x])
  ·apply cO rfl
   exact .tmp rfl
  ·exact⟨by unfold peX kr;simp[*],rfl⟩
  refine bB (.slice (some ⟨g0,0,none⟩) 8 cap) ?_;(exact en)
 refine sr<|mv rfl rfl<|l_q rfl (qls rfl yU9)<|mv rfl rfl<|l_q rfl (ad rfl)<|l_q rfl (qfa 1 rfl cL rfl rfl aX)<|l_q rfl (qfa 0 rfl bK rfl rfl yS3)<|l_q rfl (qld rfl yA3) ?_
 refine l_q rfl (qi rfl rfl (aI ·))<|asg rfl rfl<|lc<|aA rfl (fun z2=>?_) fun z2=>?_
 ·refine sr<|asg rfl rfl<|lc<|rt ?_
  apply aJ (.inl rfl) ([rsH pr l x])
  ·apply cO rfl
   exact .tmp rfl
  ·exact⟨by unfold peX kr;simp[*],rfl⟩
  refine bB (.slice (some ⟨g0,0,none⟩) 8 cap) ?_;(exact en)
 refine sr<|mv rfl rfl<|l_q rfl (qls rfl yU9)<|mv rfl rfl<|l_q rfl (ad rfl)<|l_q rfl (qfa 1 rfl cL rfl rfl aX)<|l_q rfl (qfa 1 rfl bK rfl rfl yS3)<|l_q rfl (qld rfl yA3) ?_
 refine l_q rfl (qi rfl rfl (aI ·))<|asg rfl rfl<|lc<|aA rfl (fun z3=>?_) fun z3=>?_
 ·refine sr<|asg rfl rfl<|lc<|rt ?_
  apply aJ (.inl rfl) ([rsH pr l x])
  ·apply cO rfl
   exact .tmp rfl
  ·exact⟨by unfold peX kr;simp[*],rfl⟩
  refine bB (.slice (some ⟨g0,0,none⟩) 8 cap) ?_;(exact en)
 refine sr<|mv rfl rfl<|l_q rfl (qi rfl rfl (aU ·))<|mv rfl rfl<|bD (t:=37) rfl (fun z4=>?_) fun z4=>?_
 ·refine ar rfl rfl rfl rfl<|ar rfl rfl rfl rfl<|l_q rfl (aL rfl rfl)<|asg rfl rfl<|lc<|aY rfl<|sr<|asg rfl rfl<|lc<|rt ?_
  apply aJ (.inl rfl) ([rsH pr l x])
  ·apply cO rfl
   exact .tmp rfl
  ·exact⟨by unfold peX kr;simp[*],rfl⟩
  refine bB (.slice (some ⟨g0,0,none⟩) 8 cap) ?_;(exact en)
 refine au rfl rfl<|mv rfl rfl<|au rfl rfl<|l_q rfl (qi rfl rfl (cU ·))<|l_q rfl (aL rfl rfl)<|asg rfl rfl<|lc<|aA rfl (fun z5=>?_) fun z5=>?_
 ·refine sr<|asg rfl rfl<|lc<|rt ?_
  apply aJ (.inl rfl) ([rsH pr l x])
  ·apply cO rfl
   exact .tmp rfl
  ·exact⟨by unfold peX kr;simp[*],rfl⟩
  refine bB (.slice (some ⟨g0,0,none⟩) 8 cap) ?_;(exact en)
 refine sr<|mv rfl rfl<|l_q rfl (qi rfl rfl (aU ·))<|asg rfl rfl<|lc<|aA rfl (fun z6=>?_) fun z6=>?_
 ·refine sr<|asg rfl rfl<|lc<|rt ?_
  apply aJ (.inl rfl) ([rsH pr l x])
  ·apply cO rfl
   exact .tmp rfl
  ·exact⟨by unfold peX kr;simp[*],rfl⟩
  refine bB (.slice (some ⟨g0,0,none⟩) 8 cap) ?_;(exact en)
 refine al<|aV<|nz<|asg rfl rfl<|lc<|rt ?_
 apply aJ (.inl rfl) ([rsH pr l x])
 ·apply cO rfl
  exact .tmp rfl
 ·exact⟨by unfold peX kr;simp[*],rfl⟩
 refine bB (.slice (some ⟨g0,0,none⟩) 8 cap) ?_;(exact en)
theorem qh (tag:Int) (key:ByteArray):aG Tryz.prog 177 #[.pointer (some ⟨x.p,0,none⟩),.int .i64 tag,.string key] [rsH pr l x] (fun v L=>v=.int .i64 (if bA (fh x.S.cells tag key)=8 then -1 else(bA (fh x.S.cells tag key):Nat))∧L= [rsH pr l x]):=by
 refine aq F4 Tryz.func177 rfl rfl rfl fun Fr w0=>aR ?_
 refine dM .here fun vc=>?_
 refine cw (.there .here) fun _ hvc=>?_
 obtain⟨a0,cap,rfl,ha,_,_⟩:=hvc
 obtain⟨g0,rfl⟩:=ha (by decide)
 refine sr<|asg rfl rfl<|lc<|ah<|sr<|asg rfl rfl<|lc<|ax ?_
 refine bw (fun i:Nat=>i≤8∧∀ j,j < i→fh x.S.cells tag key j=false) (fun i=>[(0,.pointer (some ⟨x.p,0,none⟩)),(1,.int .i64 tag),(2,.string key),(7,.int .i64 (i:Nat))]) (fun _=>pt x.p (.cells #[.pointer (some ⟨pr,0,none⟩),.int .i64 l.key,.int .i64 l.elem,.int .i64 l.ka,.int .i64 l.ea,.int .i64 l.cap,.int .i64 l.eo,.int .i64 l.bo,.int .i64 l.slot,.int .i64 l.group,.int .i64 (x.off:Nat),.int .i64 x.S.used,.int .i64 x.S.pins,.int .i64 x.S.next,.bool (decide (x.S.kind=3)),.bool x.dead,(.slice (some ⟨g0,0,none⟩) 8 cap)] 75 (0,0))::aE 142 5 (.slice (some ⟨g0,0,none⟩) 8 cap) 8 (rowOf bH (bu x.S.cells 8))::Fr) (fun i=>8-i) 0 ⟨Nat.zero_le _,fun j h=>by omega⟩ ⟨rfl,rfl,rfl,rfl,trivial⟩ (by(exact en)) ?_
 rintro i ⟨hi,hno⟩
 refine ah<|sr<|mv rfl rfl<|l_q rfl (qi rfl rfl (aU ·))<|lc<|aA rfl (fun h1=>?_) fun h1=>?_
 ·skip
  have hi8:i < 8:=by omega
  refine al<|ak<|ah<|ax<|sr<|mv rfl rfl<|l_q rfl (ad rfl)<|l_q rfl (qfa 16 rfl cL rfl rfl gQ)<|l_q rfl (qld rfl gR) ?_
  refine mv rfl rfl<|l_q rfl (aT rfl rfl g9 bx (by omega)) ?_
  apply l_q rfl
  ·apply eu (A:=aE 142 5 (.slice (some ⟨g0,0,none⟩) 8 cap) 8 (rowOf bH (bu x.S.cells 8))) (us:=[.int .i64 (x.S.cells i).kind,.int .i64 (x.S.cells i).tagI,.string (x.S.cells i).keyS,.string (x.S.cells i).elemS,.int .i64 (x.S.cells i).birthI]) rfl dh bx rfl
   ·exact tk
   exact kg hi8 _ (by omega)
  refine az rfl cK fun b8=>sta rfl rfl rfl bx rfl rfl ?_
  refine lz<|l_q rfl (qfa 0 rfl cQ rfl rfl yS3)<|l_q rfl (qld rfl yA3) ?_
  refine l_q rfl (qi rfl rfl (aZ ·))<|mv rfl rfl<|bD (t:=23) rfl (fun z1=>?_) fun z1=>?_
  ·refine au rfl rfl<|l_q rfl (qfa 1 rfl cQ rfl rfl yS3)<|au rfl rfl<|l_q rfl (qld rfl yA3) ?_
   refine au rfl rfl<|mv rfl rfl<|au rfl rfl<|l_q rfl (qi rfl rfl (aZ ·))<|l_q rfl (aL rfl rfl)<|mv rfl rfl<|bD (t:=29) rfl (fun z2=>?_) fun z2=>?_
   ·refine au rfl rfl<|l_q rfl (qfa 2 rfl cQ rfl rfl yS9)<|au rfl rfl<|l_q rfl (qld rfl yA9) ?_
    refine au rfl rfl<|mv rfl rfl<|au rfl rfl<|l_q rfl (qs rfl rfl (l8 ·))<|l_q rfl (aL rfl rfl)<|lc<|aA rfl (fun z3=>?_) fun z3=>?_
    ·skip
     have hfe:bA (fh x.S.cells tag key)=i:=jm hi8 (gB.2 ⟨z1,z2,z3⟩) hno
     refine sr<|mv rfl rfl<|asg rfl rfl<|lc<|rt ?_
     apply aJ (.inl rfl) ([rsH pr l x])
     ·apply cO rfl
      exact .tmp rfl
     ·exact⟨by rw[hfe,if_neg (by omega)],rfl⟩
     refine bB (.slice (some ⟨g0,0,none⟩) 8 cap) ?_;(exact en)
    refine al<|aV<|ak<|aB<|mv rfl rfl<|l_q rfl (ba rfl rfl) ?_
    refine asg rfl rfl<|aj ?_
    apply aO ((i+1))
    ·exact⟨by omega,fun j hj=>by rcases Nat.lt_or_ge j i with q2 | q2;exact hno j q2;(obtain rfl:j=i:=by omega);cases hs:fh x.S.cells tag key j with | false=>rfl | true=>(obtain⟨a1,a2,a3⟩:=gB.1 hs;first | exact absurd a1 z1 | exact absurd a2 z2 | exact absurd a3 z3)⟩
    ·omega
    ·exact⟨rfl,rfl,rfl,rfl,trivial⟩
    exact en
   refine ar rfl rfl rfl rfl<|ar rfl rfl rfl rfl<|ar rfl rfl rfl rfl<|ar rfl rfl rfl rfl<|l_q rfl (aL rfl rfl)<|lc<|bR rfl<|al<|aV<|ak<|aB<|mv rfl rfl<|l_q rfl (ba rfl rfl) ?_
   refine asg rfl rfl<|aj ?_
   apply aO ((i+1))
   ·exact⟨by omega,fun j hj=>by rcases Nat.lt_or_ge j i with q2 | q2;exact hno j q2;(obtain rfl:j=i:=by omega);cases hs:fh x.S.cells tag key j with | false=>rfl | true=>(obtain⟨a1,a2,a3⟩:=gB.1 hs;first | exact absurd a1 z1 | exact absurd a2 z2 | exact absurd a3 z3)⟩
   ·omega
   ·exact⟨rfl,rfl,rfl,rfl,trivial⟩
   exact en
  refine ar rfl rfl rfl rfl<|ar rfl rfl rfl rfl<|ar rfl rfl rfl rfl<|ar rfl rfl rfl rfl<|l_q rfl (aL rfl rfl)<|mv rfl rfl<|ar rfl rfl rfl rfl<|ar rfl rfl rfl rfl<|ar rfl rfl rfl rfl<|ar rfl rfl rfl rfl<|l_q rfl (aL rfl rfl)<|lc<|bR rfl<|al<|aV<|ak<|aB<|mv rfl rfl<|l_q rfl (ba rfl rfl) ?_
  refine asg rfl rfl<|aj ?_
  apply aO ((i+1))
  ·exact⟨by omega,fun j hj=>by rcases Nat.lt_or_ge j i with q2 | q2;exact hno j q2;(obtain rfl:j=i:=by omega);cases hs:fh x.S.cells tag key j with | false=>rfl | true=>(obtain⟨a1,a2,a3⟩:=gB.1 hs;first | exact absurd a1 z1 | exact absurd a2 z2 | exact absurd a3 z3)⟩
  ·omega
  ·exact⟨rfl,rfl,rfl,rfl,trivial⟩
  exact en
 obtain rfl:i=8:=by omega
 have hf8:bA (fh x.S.cells tag key)=8:=by have:=dK (fh x.S.cells tag key);have:=ir hno;omega
 refine xt rfl<|nz<|asg rfl rfl<|lc<|rt ?_
 apply aJ (.inl rfl) ([rsH pr l x])
 ·apply cO rfl
  exact .tmp rfl
 ·exact⟨by rw[if_pos hf8],rfl⟩
 refine bB (.slice (some ⟨g0,0,none⟩) 8 cap) ?_;(exact en)
theorem ER (hl:l.err=0) (tag:Int) (key:ByteArray):peX l x tag key (eU (eN l)) 0=ktX l x tag key:=by
 have:=(eL hl).e
 unfold peX ktX kr ktE
 rw[fo,if_neg (show ¬ ((eN l:Nat):Int)≠l.elem by omega),if_neg (show ¬ (0:Int) < 0 by decide)]
theorem vj (n:Nat):cA (eU n)=List.replicate n (.int .u8 0):=by simp[cA,eU]
theorem rM {tag:Int} {key:ByteArray} (h:¬ ktX l x tag key≠0):x.dead=false∧(key.size:Int)=l.key∧0≤tag∧tag≤127:=by
 unfold ktX ktE at h
 cases hd:x.dead with
 | true=>rw[hd] at h;simp at h
 | false=>
  rw[hd] at h
  by_cases h1:(key.size:Int)≠l.key
  ·rw[if_pos h1] at h;simp at h
  by_cases h2:tag < 0∨127 < tag
  ·rw[if_neg h1,if_pos h2] at h;simp at h
  exact⟨rfl,by omega,by omega,by omega⟩
theorem xf {e:TypeId} {g n cap:Nat} {v:Value} {L M:List HP} (ht:Take (aE e 1 (.slice (some ⟨g,0,none⟩) n cap) n (List.replicate n v)) L M):Reads L ⟨g,0,none⟩ (List.replicate n v):=by
 have:=m6 (o:=0) (k:=n) ht
 simpa using this
theorem nw (hl:l.err=0) (tag:Int) (key:ByteArray):aG Tryz.prog 118 #[.pointer (some ⟨x.p,0,none⟩),.int .i64 tag,.string key] [rsH pr l x] (fun v L=>v=.tuple #[.int .i64 (dX l x tag key).1,.int .i64 (dX l x tag key).2]∧L= [rsH pr l x]):=by
 have hbd:=Lay.bnd hl
 have hel:l.elem.toNat=eN l:=rfl
 refine aq GJ Tryz.func118 rfl rfl rfl fun Fr w0=>aR ?_
 refine dM .here fun vc=>?_
 refine sr<|asg rfl rfl<|asg rfl rfl<|lz<|mv rfl rfl<|mv rfl rfl<|mv rfl rfl<|mv rfl rfl<|l_q rfl (ad rfl)<|l_q rfl (qfa 1 rfl cL rfl rfl aX)<|l_q rfl (qfa 1 rfl bK rfl rfl yS3)<|l_q rfl (qld rfl yA3) ?_
 apply da rfl rfl rfl ck yI5 rfl (by omega) (by omega)
 intro b17
 apply l_q rfl
 ·apply eI (eU (eN l)) rfl Tryz.underlying117 Tryz.underlying5 Tryz.underlying9
  ·rw[fo];exact hel
  rw[vj,← hel];exact xf (by exact tk)
 refine wk (L':=rsH pr l x::Fr) (bB vc (by(exact en))) ?_
 refine lc1 rfl rfl rfl (ov pr l x tag key (eU (eN l)) 0) ?_
 rw[ER l x hl]
 refine asg rfl rfl<|lc<|ah<|sr<|mv rfl rfl<|l_q rfl (qi rfl rfl (aI ·))<|lc<|aA rfl (fun z=>?_) fun z=>?_
 ·refine sr<|mv rfl rfl<|asg rfl rfl<|asg rfl rfl<|lc<|rt<|fr2 rfl ([rsH pr l x]) (.tmp rfl) (.tmp rfl) ?_
  exact⟨by unfold dX;rw[if_pos z],rfl⟩
 obtain⟨a1,a2,a3,a4⟩:=rM l x z
 have hq:((tag.toNat:Nat):Int)=tag:=by omega
 refine al<|nz<|mv rfl rfl<|mv rfl rfl<|mv rfl rfl<|lc1 rfl rfl rfl (qh pr l x tag key) ?_
 refine asg rfl rfl<|asg rfl rfl<|lc<|rt<|fr2 rfl ([rsH pr l x]) (.tmp rfl) (.tmp rfl) ?_
 exact⟨by unfold dX;rw[if_neg z];unfold atI atS;rw[hq],rfl⟩
theorem wH {tag:Int} {key:ByteArray} (h:¬ ktX l x tag key≠0) (h2:¬ atI x.S tag.toNat key < 0):atS x.S tag.toNat key < 8∧atI x.S tag.toNat key=((atS x.S tag.toNat key:Nat):Int):=by
 have h8:=dK (fh x.S.cells (tag.toNat:Nat) key)
 unfold atI at h2 ⊢
 by_cases q:atS x.S tag.toNat key=8
 ·rw[if_pos q] at h2;omega
 rw[if_neg q]
 unfold atS at q ⊢
 omega
theorem AY (hl:l.err=0) (tag:Int) (key:ByteArray):aG Tryz.prog 120 #[.pointer (some ⟨x.p,0,none⟩),.int .i64 tag,.string key] [rsH pr l x] (fun v L=>v=.tuple #[.agg #[.int .i64 (eV l x tag key).1.kind,.int .i64 (eV l x tag key).1.tagI,.string (eV l x tag key).1.keyS,.string (eV l x tag key).1.elemS,.int .i64 (eV l x tag key).1.birthI],.int .i64 (eV l x tag key).2]∧L= [rsH pr l x]):=by
 refine aq GI Tryz.func120 rfl rfl rfl fun Fr w0=>aR ?_
 refine sr<|az rfl cK fun b6=>asg rfl rfl<|lz<|mv rfl rfl<|mv rfl rfl<|mv rfl rfl<|lc1 rfl rfl rfl (nw pr l x hl tag key) ?_
 by_cases hz:ktX l x tag key≠0
 ·have hg:eV l x tag key=(.empty,ktX l x tag key):=by unfold eV;rw[if_pos hz]
  have hf:dX l x tag key=(0,ktX l x tag key):=by unfold dX;rw[if_pos hz]
  rw[hg,hf]
  refine mv rfl rfl<|l_q rfl (aa rfl ga) ?_
  refine l_q rfl (aa rfl ga) ?_
  refine asg rfl rfl<|asg rfl rfl<|lc<|ah<|sr<|mv rfl rfl<|l_q rfl (qi rfl rfl (aI ·))<|mv rfl rfl<|bD (t:=19) rfl (fun z1=>?_) fun z1=>?_
  ·refine ar rfl rfl rfl rfl<|ar rfl rfl rfl rfl<|l_q rfl (aL rfl rfl)<|lc<|aY rfl<|sr ?_
   apply l_q rfl
   ·apply aQ rfl gl cK
    exact aF.nil
   refine mv rfl rfl<|sta rfl rfl rfl bx rfl rfl ?_
   refine asg rfl rfl<|lc<|rt ?_
   apply aJ (.inl rfl) ([rsH pr l x])
   ·apply bS rfl
    ·apply Rv.agg rfl
     ·exact tk
     exact aD dh bx rfl
    exact .tmp rfl
   ·exact⟨rfl,rfl⟩
   exact en
  exact absurd hz z1
 have hg:eV l x tag key=(nR x.S tag.toNat key,0):=by unfold eV;rw[if_neg hz]
 have hf:dX l x tag key=(atI x.S tag.toNat key,0):=by unfold dX;rw[if_neg hz]
 rw[hg,hf]
 refine mv rfl rfl<|l_q rfl (aa rfl ga) ?_
 refine l_q rfl (aa rfl ga) ?_
 refine asg rfl rfl<|asg rfl rfl<|lc<|ah<|sr<|mv rfl rfl<|l_q rfl (qi rfl rfl (aI ·))<|mv rfl rfl<|bD (t:=19) rfl (fun z1=>?_) fun z1=>?_
 ·exact absurd rfl z1
 refine au rfl rfl<|mv rfl rfl<|au rfl rfl<|l_q rfl (qi rfl rfl (aU ·))<|l_q rfl (aL rfl rfl)<|lc<|aA rfl (fun z2=>?_) fun z2=>?_
 ·skip
  have hno:¬ atS x.S tag.toNat key < 8:=fun h=>by rw[AB h] at z2;omega
  refine sr ?_
  apply l_q rfl
  ·apply aQ rfl gl cK
   exact aF.nil
  refine mv rfl rfl<|sta rfl rfl rfl bx rfl rfl ?_
  refine asg rfl rfl<|lc<|rt ?_
  apply aJ (.inl rfl) ([rsH pr l x])
  ·apply bS rfl
   ·apply Rv.agg rfl
    ·exact tk
    exact aD dh bx rfl
   exact .tmp rfl
  ·exact⟨by unfold nR;rw[if_neg hno];rfl,rfl⟩
  exact en
 obtain⟨hk8,hki⟩:=wH l x hz z2
 rw[hki]
 refine dM .here fun vc=>?_
 refine cw (.there .here) fun _ hvc=>?_
 obtain⟨a0,cap,rfl,ha,_,_⟩:=hvc
 obtain⟨g0,rfl⟩:=ha (by decide)
 refine al<|nz<|mv rfl rfl<|l_q rfl (ad rfl)<|l_q rfl (qfa 16 rfl cL rfl rfl gQ)<|l_q rfl (qld rfl gR) ?_
 refine mv rfl rfl<|l_q rfl (aT rfl rfl g9 bx (by omega)) ?_
 apply l_q rfl
 ·apply eu (A:=aE 142 5 (.slice (some ⟨g0,0,none⟩) 8 cap) 8 (rowOf bH (bu x.S.cells 8))) (us:=[.int .i64 (x.S.cells (atS x.S tag.toNat key)).kind,.int .i64 (x.S.cells (atS x.S tag.toNat key)).tagI,.string (x.S.cells (atS x.S tag.toNat key)).keyS,.string (x.S.cells (atS x.S tag.toNat key)).elemS,.int .i64 (x.S.cells (atS x.S tag.toNat key)).birthI]) rfl dh bx rfl
  ·exact tk
  exact kg hk8 _ (by omega)
 refine sta rfl rfl rfl bx rfl rfl ?_
 refine asg rfl rfl<|lc<|rt ?_
 apply aJ (.inl rfl) ([rsH pr l x])
 ·apply bS rfl
  ·apply Rv.agg rfl
   ·exact tk
   exact aD dh bx rfl
  exact .tmp rfl
 ·exact⟨by unfold nR;rw[if_pos hk8],rfl⟩
 refine bB (.slice (some ⟨g0,0,none⟩) 8 cap) ?_;(exact en)
theorem yj (k:Int):aG Tryz.prog 124 #[.pointer (some ⟨x.p,0,none⟩),.int .i64 k] [rsH pr l x] (fun v L=>v=.tuple #[.agg #[.int .i64 (dR x k).1.kind,.int .i64 (dR x k).1.tagI,.string (dR x k).1.keyS,.string (dR x k).1.elemS,.int .i64 (dR x k).1.birthI],.int .i64 (dR x k).2]∧L= [rsH pr l x]):=by
 refine aq GG Tryz.func124 rfl rfl rfl fun Fr w0=>aR ?_
 refine dM .here fun vc=>?_
 refine cw (.there .here) fun _ hvc=>?_
 obtain⟨a0,cap,rfl,ha,_,_⟩:=hvc
 obtain⟨g0,rfl⟩:=ha (by decide)
 refine sr<|az rfl cK fun b4=>asg rfl rfl<|lc<|ah<|sr<|mv rfl rfl<|l_q rfl (ad rfl)<|l_q rfl (qfa 15 rfl cL rfl rfl yS4)<|l_q rfl (qld rfl yA4) ?_
 refine lc<|aA rfl (fun z=>?_) fun z=>?_
 ·skip
  have hc:dR x k=(.empty,24):=by unfold dR;rw[if_pos z]
  rw[hc]
  refine sr ?_
  apply l_q rfl
  ·apply aQ rfl gl cK
   exact aF.nil
  refine sta rfl rfl rfl bx rfl rfl ?_
  refine asg rfl rfl<|lc<|rt ?_
  apply aJ (.inl rfl) ([rsH pr l x])
  ·apply bS rfl
   ·apply Rv.agg rfl
    ·exact tk
    exact aD dh bx rfl
   exact .tmp rfl
  ·exact⟨rfl,rfl⟩
  refine bB (.slice (some ⟨g0,0,none⟩) 8 cap) ?_;(exact en)
 refine al<|ak<|ah<|sr<|mv rfl rfl<|l_q rfl (qi rfl rfl (aU ·))<|mv rfl rfl<|bD (t:=13) rfl (fun z1=>?_) fun z1=>?_
 ·skip
  have hc:dR x k=(.empty,60):=by unfold dR;rw[if_neg (by simp[z]),if_pos (.inl z1)]
  rw[hc]
  refine ar rfl rfl rfl rfl<|ar rfl rfl rfl rfl<|l_q rfl (aL rfl rfl)<|lc<|aY rfl<|sr ?_
  apply l_q rfl
  ·apply aQ rfl gl cK
   exact aF.nil
  refine sta rfl rfl rfl bx rfl rfl ?_
  refine asg rfl rfl<|lc<|rt ?_
  apply aJ (.inl rfl) ([rsH pr l x])
  ·apply bS rfl
   ·apply Rv.agg rfl
    ·exact tk
    exact aD dh bx rfl
   exact .tmp rfl
  ·exact⟨rfl,rfl⟩
  refine bB (.slice (some ⟨g0,0,none⟩) 8 cap) ?_;(exact en)
 refine au rfl rfl<|mv rfl rfl<|au rfl rfl<|l_q rfl (qi rfl rfl (cU ·))<|l_q rfl (aL rfl rfl)<|lc<|aA rfl (fun z2=>?_) fun z2=>?_
 ·skip
  have hc:dR x k=(.empty,60):=by unfold dR;rw[if_neg (by simp[z]),if_pos (.inr (by omega))]
  rw[hc]
  refine sr ?_
  apply l_q rfl
  ·apply aQ rfl gl cK
   exact aF.nil
  refine sta rfl rfl rfl bx rfl rfl ?_
  refine asg rfl rfl<|lc<|rt ?_
  apply aJ (.inl rfl) ([rsH pr l x])
  ·apply bS rfl
   ·apply Rv.agg rfl
    ·exact tk
    exact aD dh bx rfl
   exact .tmp rfl
  ·exact⟨rfl,rfl⟩
  refine bB (.slice (some ⟨g0,0,none⟩) 8 cap) ?_;(exact en)
 obtain⟨j,rfl⟩:=Int.eq_ofNat_of_zero_le (show 0≤k by omega)
 have hc:dR x ((j:Nat):Int)=(x.S.cells j,0):=by unfold dR;rw[if_neg (by simp[z]),if_neg (by omega),Int.toNat_natCast]
 rw[hc]
 refine al<|nz<|mv rfl rfl<|l_q rfl (ad rfl)<|l_q rfl (qfa 16 rfl cL rfl rfl gQ)<|l_q rfl (qld rfl gR) ?_
 refine mv rfl rfl<|l_q rfl (aT rfl rfl g9 bx (by omega)) ?_
 apply l_q rfl
 ·apply eu (A:=aE 142 5 (.slice (some ⟨g0,0,none⟩) 8 cap) 8 (rowOf bH (bu x.S.cells 8))) (us:=[.int .i64 (x.S.cells j).kind,.int .i64 (x.S.cells j).tagI,.string (x.S.cells j).keyS,.string (x.S.cells j).elemS,.int .i64 (x.S.cells j).birthI]) rfl dh bx rfl
  ·exact tk
  exact kg (k:=j) (by omega) _ (by omega)
 refine sta rfl rfl rfl bx rfl rfl ?_
 refine asg rfl rfl<|lc<|rt ?_
 apply aJ (.inl rfl) ([rsH pr l x])
 ·apply bS rfl
  ·apply Rv.agg rfl
   ·exact tk
   exact aD dh bx rfl
  exact .tmp rfl
 ·exact⟨rfl,rfl⟩
 refine bB (.slice (some ⟨g0,0,none⟩) 8 cap) ?_;(exact en)
section
variable (hr:SRng x.S)
include hr
theorem rl:0≤x.S.used∧x.S.used≤8:=by
 have:=hr.used;have:=rY isFull x.S.cells 8;omega
theorem ui (hl:l.err=0) (tag:Int) (key:ByteArray):aG Tryz.prog 108 #[.pointer (some ⟨x.p,0,none⟩),.int .i64 tag,.string key] [rsH pr l x] (fun v L=>v=.tuple #[.bool (gD l x tag key).1,.int .i64 (gD l x tag key).2.1]∧L= [rsH pr l {x with S:=(gD l x tag key).2.2}]):=by
 have hu:=rl x hr
 refine aq GO Tryz.func108 rfl rfl rfl fun Fr w0=>aR ?_
 refine sr<|asg rfl rfl<|asg rfl rfl<|lz<|mv rfl rfl<|mv rfl rfl<|mv rfl rfl<|lc1 rfl rfl rfl (nw pr l x hl tag key) ?_
 by_cases hz:ktX l x tag key≠0
 ·have hg:gD l x tag key=(false,ktX l x tag key,x.S):=by unfold gD;rw[if_pos hz]
  have hf:dX l x tag key=(0,ktX l x tag key):=by unfold dX;rw[if_pos hz]
  rw[hg,hf]
  refine mv rfl rfl<|l_q rfl (aa rfl ga) ?_
  refine l_q rfl (aa rfl ga) ?_
  refine asg rfl rfl<|asg rfl rfl<|lc<|ah<|sr<|mv rfl rfl<|l_q rfl (qi rfl rfl (aI ·))<|mv rfl rfl<|bD (t:=19) rfl (fun z1=>?_) fun z1=>?_
  ·exact ar rfl rfl rfl rfl<|ar rfl rfl rfl rfl<|l_q rfl (aL rfl rfl)<|lc<|aY rfl<|sr<|mv rfl rfl<|asg rfl rfl<|asg rfl rfl<|lc<|rt<|fr2 rfl ([rsH pr l x]) (.tmp rfl) (.tmp rfl) ⟨rfl,rfl⟩
  exact absurd hz z1
 have hg:gD l x tag key=((jV x.S tag.toNat key).1,0,(jV x.S tag.toNat key).2):=by unfold gD;rw[if_neg hz]
 have hf:dX l x tag key=(atI x.S tag.toNat key,0):=by unfold dX;rw[if_neg hz]
 rw[hg,hf]
 refine mv rfl rfl<|l_q rfl (aa rfl ga) ?_
 refine l_q rfl (aa rfl ga) ?_
 refine asg rfl rfl<|asg rfl rfl<|lc<|ah<|sr<|mv rfl rfl<|l_q rfl (qi rfl rfl (aI ·))<|mv rfl rfl<|bD (t:=19) rfl (fun z1=>?_) fun z1=>?_
 ·exact absurd rfl z1
 refine au rfl rfl<|mv rfl rfl<|au rfl rfl<|l_q rfl (qi rfl rfl (aU ·))<|l_q rfl (aL rfl rfl)<|lc<|aA rfl (fun z2=>?_) fun z2=>?_
 ·skip
  have hno:¬ atS x.S tag.toNat key < 8:=fun h=>by rw[AB h] at z2;omega
  have hd:jV x.S tag.toNat key=(false,x.S):=by unfold jV;rw[if_neg hno]
  rw[hd]
  exact sr<|mv rfl rfl<|asg rfl rfl<|asg rfl rfl<|lc<|rt<|fr2 rfl ([rsH pr l x]) (.tmp rfl) (.tmp rfl) ⟨rfl,rfl⟩
 obtain⟨hk8,hki⟩:=wH l x hz z2
 have hd:jV x.S tag.toNat key=(true,{x.S with used:=x.S.used-1,cells:=bT x.S.cells (atS x.S tag.toNat key) .empty}):=by unfold jV;rw[if_pos hk8]
 rw[hki,hd]
 refine dM .here fun vc=>?_
 refine cw (.there .here) fun _ hvc=>?_
 obtain⟨a0,cap,rfl,ha,_,_⟩:=hvc
 obtain⟨g0,rfl⟩:=ha (by decide)
 have hlay:lay (rowOf bH (bu x.S.cells 8)) (0+((atS x.S tag.toNat key:Nat):Int).toNat*5) (bH .empty)=rowOf bH (bu (bT x.S.cells (atS x.S tag.toNat key) .empty) 8):=by
  rw[Nat.zero_add,Int.toNat_natCast,m5 kJ (by rw[fp];exact hk8),iu _ hk8]
 refine al<|nz<|mv rfl rfl<|l_q rfl (ad rfl)<|l_q rfl (qfa 16 rfl cL rfl rfl gQ)<|l_q rfl (qld rfl gR) ?_
 refine mv rfl rfl ?_
 apply l_q rfl
 ·apply aQ rfl gl cK
  exact aF.nil
 refine l_q rfl (aT rfl rfl g9 bx (by omega)) ?_
 refine iH (us:=bH .empty) rfl rfl rfl bx rfl rfl tk (by omega) hlay ?_
 refine lz<|mv rfl rfl<|l_q rfl (ad rfl)<|l_q rfl (qfa 11 rfl cL rfl rfl yS3)<|l_q rfl (qld rfl yA3) ?_
 refine l_q rfl (e9 rfl rfl) ?_
 refine l_q rfl (ad rfl)<|l_q rfl (qfa 11 rfl cL rfl rfl yS3)<|st rfl rfl rfl yS3 rfl ?_
 refine lz<|asg rfl rfl<|asg rfl rfl<|lc<|rt ?_
 apply aJ (.inl rfl) ([rsH pr l {x with S:={x.S with used:=x.S.used-1,cells:=bT x.S.cells (atS x.S tag.toNat key) .empty}}])
 ·apply bS rfl
  ·exact .tmp rfl
  exact .tmp rfl
 ·exact⟨rfl,rfl⟩
 refine bB (.slice (some ⟨g0,0,none⟩) 8 cap) ?_;(exact en)
theorem AW (hl:l.err=0) (tag:Int) (key elem:ByteArray) (birth:Int):aG Tryz.prog 106 #[.pointer (some ⟨x.p,0,none⟩),.int .i64 tag,.string key,.string elem,.int .i64 birth] [rsH pr l x] (fun v L=>v=.tuple #[.int .i64 (gp l x tag key elem birth).1,.int .i64 (gp l x tag key elem birth).2.1]∧L= [rsH pr l {x with S:=(gp l x tag key elem birth).2.2}]):=by
 have hu:=rl x hr
 refine aq GP Tryz.func106 rfl rfl rfl fun Fr w0=>aR ?_
 refine sr<|asg rfl rfl<|asg rfl rfl<|lz<|mv rfl rfl<|mv rfl rfl<|mv rfl rfl<|mv rfl rfl<|mv rfl rfl<|lc1 rfl rfl rfl (ov pr l x tag key elem birth) ?_
 refine asg rfl rfl<|lc<|ah<|sr<|mv rfl rfl<|l_q rfl (qi rfl rfl (aI ·))<|lc<|aA rfl (fun z=>?_) fun z=>?_
 ·skip
  have hp:gp l x tag key elem birth=(0,peX l x tag key elem birth,x.S):=by unfold gp;rw[if_pos z]
  rw[hp]
  exact sr<|mv rfl rfl<|asg rfl rfl<|asg rfl rfl<|lc<|rt<|fr2 rfl ([rsH pr l x]) (.tmp rfl) (.tmp rfl) ⟨rfl,rfl⟩
 have hp:gp l x tag key elem birth=((iC x.S tag.toNat key elem birth).1,0,(iC x.S tag.toNat key elem birth).2):=by unfold gp;rw[if_neg z]
 have htag:0≤tag:=by
  unfold peX kr at z
  rcases Int.lt_or_le tag 0 with q | q
  ·exfalso;apply z
   cases x.dead with
   | true=>simp
   | false=>
    by_cases h1:(key.size:Int)≠l.key
    ·simp[h1]
    by_cases h2:(elem.size:Int)≠l.elem
    ·rw[if_neg (by simp),if_neg h1,if_pos h2];decide
    rw[if_neg (by simp),if_neg h1,if_neg h2,if_pos (.inl q)];decide
  exact q
 have hq:((tag.toNat:Nat):Int)=tag:=by omega
 have hat:bA (fh x.S.cells tag key)=atS x.S tag.toNat key:=by unfold atS;rw[hq]
 rw[hp]
 refine al<|nz<|mv rfl rfl<|mv rfl rfl<|mv rfl rfl<|lc1 rfl rfl rfl (qh pr l x tag key) ?_
 rw[hat]
 refine km .here fun vc=>?_
 refine db (.there .here) fun _ hvc=>?_
 obtain⟨a0,cap,rfl,ha,_,_⟩:=hvc
 obtain⟨g0,rfl⟩:=ha (by decide)
 have h8:=dK (fh x.S.cells (tag.toNat:Nat) key)
 rcases Nat.lt_or_ge (atS x.S tag.toNat key) 8 with hk8 | hk8
 ·rw[if_neg (show ¬ atS x.S tag.toNat key=8 by omega)]
  obtain⟨e0,b0,hcf⟩:=se hk8
  have hput:iC x.S tag.toNat key elem birth=(1,{x.S with cells:=bT x.S.cells (atS x.S tag.toNat key) (.full (tag.toNat:Nat) key elem b0)}):=by unfold iC;rw[if_pos hk8,hcf];rfl
  have hset:(rowOf bH (bu x.S.cells 8)).set (0+((atS x.S tag.toNat key:Nat):Int).toNat*5+3) (.string elem)=rowOf bH (bu (bT x.S.cells (atS x.S tag.toNat key) (.full (tag.toNat:Nat) key elem b0)) 8):=by
   rw[Nat.zero_add,Int.toNat_natCast,fU kJ (by decide) (bu x.S.cells 8) (atS x.S tag.toNat key) (x.S.cells (atS x.S tag.toNat key)) (fq hk8) (a':=.full (tag.toNat:Nat) key elem b0) (by rw[hcf];rfl),iu _ hk8]
  rw[hput]
  refine asg rfl rfl<|lc<|ah<|sr<|mv rfl rfl<|l_q rfl (qi rfl rfl (gM ·))<|lc<|aA rfl (fun z3=>?_) fun z3=>?_
  ·refine sr<|mv rfl rfl<|l_q rfl (ad rfl)<|l_q rfl (qfa 16 rfl cL rfl rfl gQ)<|l_q rfl (qld rfl gR) ?_
   refine mv rfl rfl<|mv rfl rfl<|l_q rfl (aT rfl rfl g9 bx (by omega)) ?_
   refine l_q rfl (qfa 3 rfl cQ rfl rfl yS9) ?_
   refine dp rfl rfl rfl yS9 rfl tk (by omega) hset ?_
   refine lz<|asg rfl rfl<|asg rfl rfl<|lc<|rt ?_
   apply aJ (.inl rfl) ([rsH pr l {x with S:={x.S with cells:=bT x.S.cells (atS x.S tag.toNat key) (.full (tag.toNat:Nat) key elem b0)}}])
   ·apply bS rfl
    ·exact .tmp rfl
    exact .tmp rfl
   ·exact⟨rfl,rfl⟩
   refine bB (.slice (some ⟨g0,0,none⟩) 8 cap) ?_;(exact en)
  omega
 have hk9:atS x.S tag.toNat key=8:=by unfold atS at hk8 ⊢;omega
 rw[if_pos hk9]
 refine asg rfl rfl<|lc<|ah<|sr<|mv rfl rfl<|l_q rfl (qi rfl rfl (gM ·))<|lc<|aA rfl (fun z3=>?_) fun z3=>?_
 ·omega
 refine al<|ak<|ah<|sr<|asg rfl rfl<|lc<|ax ?_
 refine bw (fun i:Nat=>i≤8∧∀ j,j < i→eD x.S.cells j=false) (fun i=>[(0,.pointer (some ⟨x.p,0,none⟩)),(1,.int .i64 tag),(2,.string key),(3,.string elem),(4,.int .i64 birth),(14,.int .i64 (i:Nat))]) (fun _=>pt x.p (.cells #[.pointer (some ⟨pr,0,none⟩),.int .i64 l.key,.int .i64 l.elem,.int .i64 l.ka,.int .i64 l.ea,.int .i64 l.cap,.int .i64 l.eo,.int .i64 l.bo,.int .i64 l.slot,.int .i64 l.group,.int .i64 (x.off:Nat),.int .i64 x.S.used,.int .i64 x.S.pins,.int .i64 x.S.next,.bool (decide (x.S.kind=3)),.bool x.dead,(.slice (some ⟨g0,0,none⟩) 8 cap)] 75 (0,0))::aE 142 5 (.slice (some ⟨g0,0,none⟩) 8 cap) 8 (rowOf bH (bu x.S.cells 8))::Fr) (fun i=>8-i) 0 ⟨Nat.zero_le _,fun j h=>by omega⟩ ⟨rfl,rfl,rfl,rfl,rfl,rfl,trivial⟩ (by(exact en)) ?_
 rintro i ⟨hi,hno⟩
 refine ah<|sr<|mv rfl rfl<|l_q rfl (qi rfl rfl (aU ·))<|lc<|aA rfl (fun h1=>?_) fun h1=>?_
 ·skip
  have hi8:i < 8:=by omega
  have hkind:(rowOf bH (bu x.S.cells 8))[0+((i:Nat):Int).toNat*5+0]?=some (.int .i64 (x.S.cells i).kind):=by
   rw[Nat.zero_add,Int.toNat_natCast,RefT.cells_row x.S.cells hi8 0 (by decide)];rfl
  have hlay:lay (rowOf bH (bu x.S.cells 8)) (0+((i:Nat):Int).toNat*5) (bH (.full tag key elem birth))=rowOf bH (bu (bT x.S.cells i (.full tag key elem birth)) 8):=by
   rw[Nat.zero_add,Int.toNat_natCast,m5 kJ (by rw[fp];exact hi8),iu _ hi8]
  refine al<|ak<|ah<|ax<|sr<|mv rfl rfl<|l_q rfl (ad rfl)<|l_q rfl (qfa 16 rfl cL rfl rfl gQ)<|l_q rfl (qld rfl gR) ?_
  refine mv rfl rfl<|l_q rfl (aT rfl rfl g9 bx (by omega)) ?_
  refine l_q rfl (qfa 0 rfl cQ rfl rfl yS3) ?_
  apply l_q rfl
  ·apply bf rfl yA3
   ·exact tk
   exact hkind
  refine l_q rfl (qi rfl rfl (aI ·))<|lc<|aA rfl (fun q=>?_) fun q=>?_
  ·skip
   have hnf:isFull (x.S.cells i)=false:=by
    cases hf:isFull (x.S.cells i) with
    | true=>exact absurd (kind2.2 hf) q
    | false=>rfl
   have hfv:bA (eD x.S.cells)=i:=jm hi8 (by rw[ja,hnf];rfl) hno
   have hput:iC x.S tag.toNat key elem birth=(2,{x.S with used:=x.S.used+1,cells:=bT x.S.cells i (.full tag key elem birth)}):=by
    unfold iC;rw[if_neg (by omega),hfv,if_neg (by omega),hq]
   rw[hput]
   refine sr<|mv rfl rfl<|l_q rfl (ad rfl)<|l_q rfl (qfa 16 rfl cL rfl rfl gQ)<|l_q rfl (qld rfl gR) ?_
   refine mv rfl rfl<|mv rfl rfl<|mv rfl rfl<|mv rfl rfl<|mv rfl rfl ?_
   apply l_q rfl
   ·apply aQ rfl gl cK
    apply aF.one
    ·repeat (first | exact aH.here | apply aH.there)
    ·rfl
    ·exact sa
    apply aF.one
    ·repeat (first | exact aH.here | apply aH.there)
    ·rfl
    ·exact sa
    apply aF.one
    ·repeat (first | exact aH.here | apply aH.there)
    ·rfl
    ·exact sa
    apply aF.one
    ·repeat (first | exact aH.here | apply aH.there)
    ·rfl
    ·exact sa
    apply aF.one
    ·repeat (first | exact aH.here | apply aH.there)
    ·rfl
    ·exact sa
    exact aF.nil
   refine l_q rfl (aT rfl rfl g9 bx (by omega)) ?_
   refine iH (us:=bH (.full tag key elem birth)) rfl rfl rfl bx rfl rfl tk (by omega) hlay ?_
   refine lz<|mv rfl rfl<|l_q rfl (ad rfl)<|l_q rfl (qfa 11 rfl cL rfl rfl yS3)<|l_q rfl (qld rfl yA3) ?_
   refine l_q rfl (ba rfl rfl) ?_
   refine l_q rfl (ad rfl)<|l_q rfl (qfa 11 rfl cL rfl rfl yS3)<|st rfl rfl rfl yS3 rfl ?_
   refine lz<|asg rfl rfl<|asg rfl rfl<|lc<|rt ?_
   apply aJ (.inl rfl) ([rsH pr l {x with S:={x.S with used:=x.S.used+1,cells:=bT x.S.cells i (.full tag key elem birth)}}])
   ·apply bS rfl
    ·exact .tmp rfl
    exact .tmp rfl
   ·exact⟨rfl,rfl⟩
   refine bB (.slice (some ⟨g0,0,none⟩) 8 cap) ?_;(exact en)
  have hfull:isFull (x.S.cells i)=true:=kind2.1 (by omega)
  refine al<|aV<|ak<|aB<|mv rfl rfl<|l_q rfl (ba rfl rfl) ?_
  refine asg rfl rfl<|aj ?_
  apply aO ((i+1))
  ·exact⟨by omega,fun j hj=>by rcases Nat.lt_or_ge j i with q2 | q2;exact hno j q2;(obtain rfl:j=i:=by omega);rw[ja,hfull];rfl⟩
  ·omega
  ·exact⟨rfl,rfl,rfl,rfl,rfl,rfl,trivial⟩
  exact en
 obtain rfl:i=8:=by omega
 have hf8:bA (eD x.S.cells)=8:=by have:=dK (eD x.S.cells);have:=ir hno;omega
 have hput:iC x.S tag.toNat key elem birth=(3,x.S):=by unfold iC;rw[if_neg (by omega),if_pos hf8]
 rw[hput]
 refine xt rfl<|nz<|asg rfl rfl<|asg rfl rfl<|lc<|rt ?_
 apply aJ (.inl rfl) ([rsH pr l x])
 ·apply bS rfl
  ·exact .tmp rfl
  exact .tmp rfl
 ·exact⟨rfl,rfl⟩
 refine bB (.slice (some ⟨g0,0,none⟩) 8 cap) ?_;(exact en)
theorem yh:aG Tryz.prog 122 #[.pointer (some ⟨x.p,0,none⟩)] [rsH pr l x] (fun v L=>v=.tuple #[.agg (if x.dead then #[.int .i64 0,.int .i64 0,.int .i64 0,.bool false] else #[.int .i64 x.S.used,.int .i64 x.S.pins,.int .i64 x.S.next,.bool (decide (x.S.kind=3))]),.int .i64 (if x.dead then 24 else 0)]∧L= [rsH pr l x]):=by
 refine aq GH Tryz.func122 rfl rfl rfl fun Fr w0=>aR ?_
 refine dM .here fun vc=>?_
 refine sr<|az rfl cE fun b2=>asg rfl rfl<|lc<|ah<|sr<|mv rfl rfl<|l_q rfl (ad rfl)<|l_q rfl (qfa 15 rfl cL rfl rfl yS4)<|l_q rfl (qld rfl yA4) ?_
 refine lc<|aA rfl (fun z=>?_) fun z=>?_
 ·refine sr ?_
  apply l_q rfl
  ·apply aQ rfl vL cE
   exact aF.nil
  refine sta rfl rfl rfl bP rfl rfl ?_
  refine asg rfl rfl<|lc<|rt ?_
  apply aJ (.inl rfl) ([rsH pr l x])
  ·apply bS rfl
   ·apply Rv.agg rfl
    ·exact tk
    exact aD fR bP rfl
   exact .tmp rfl
  ·exact⟨by rw[if_pos z,if_pos z],rfl⟩
  refine bB vc ?_;(exact en)
 refine al<|ak<|ah<|aS mixed ?_
 apply dq 0 rfl
 ·exact yq (ai rfl)
 apply dq 1 rfl
 ·exact yq (ad rfl)
 apply dq 2 rfl
 ·exact yq (qfa 11 rfl cL rfl rfl yS3)
 apply dq 3 rfl
 ·exact yq (qld rfl yA3)
 apply dq 4 rfl
 ·exact yq (ai rfl)
 apply dq 5 rfl
 ·exact yq (ad rfl)
 apply dq 6 rfl
 ·exact yq (qfa 12 rfl cL rfl rfl yS3)
 apply dq 7 rfl
 ·exact yq (qld rfl yA3)
 apply dq 8 rfl
 ·exact yq (ai rfl)
 apply dq 9 rfl
 ·exact yq (ad rfl)
 apply dq 10 rfl
 ·exact yq (qfa 13 rfl cL rfl rfl yS3)
 apply dq 11 rfl
 ·exact yq (qld rfl yA3)
 apply dq 12 rfl
 ·exact yq (ai rfl)
 apply dq 13 rfl
 ·exact yq (ad rfl)
 apply dq 14 rfl
 ·exact yq (qfa 14 rfl cL rfl rfl yS4)
 apply dq 15 rfl
 ·exact yq (qld rfl yA4)
 apply dq 16 rfl
 ·apply yq
  apply aQ rfl vL cE
  apply aF.one
  ·repeat (first | exact aH.here | apply aH.there)
  ·rfl
  ·exact sa
  apply aF.one
  ·repeat (first | exact aH.here | apply aH.there)
  ·rfl
  ·exact sa
  apply aF.one
  ·repeat (first | exact aH.here | apply aH.there)
  ·rfl
  ·exact sa
  apply aF.one
  ·repeat (first | exact aH.here | apply aH.there)
  ·rfl
  ·exact sa
  exact aF.nil
 refine an [16,0,1,2,3,4,5,6,7,8,9,10,11,12,13,14,15] [] 17 [(2,_),(25,_)] gO ⟨rfl,rfl,trivial⟩ (by kernel_rfl) (by kernel_rfl) fun Ex=>?_
 refine sta rfl rfl rfl bP rfl rfl ?_
 refine aj ?_
 apply n_d
 ·exact trivial
 refine an [] [] 18 [] gO trivial (by kernel_rfl) (by kernel_rfl) fun Ex=>?_
 refine asg rfl rfl<|aj ?_
 apply n_d
 ·exact trivial
 refine bd (by kernel_rfl) ?_
 refine ak<|rt ?_
 apply aJ (.inl rfl) ([rsH pr l x])
 ·apply bS rfl
  ·apply Rv.agg rfl
   ·exact tk
   exact aD fR bP rfl
  exact .tmp rfl
 ·exact⟨by rw[if_neg (by simp[z]),if_neg (by simp[z])],rfl⟩
 refine bB vc ?_;(exact en)
theorem yi (v:Int):aG Tryz.prog 114 #[.pointer (some ⟨x.p,0,none⟩),.int .i64 v] [rsH pr l x] (fun r L=>r=.int .i64 (iU x v).1∧L= [rsH pr l {x with S:=(iU x v).2}]):=by
 refine aq GL Tryz.func114 rfl rfl rfl fun Fr w0=>aR ?_
 refine dM .here fun vc=>?_
 refine sr<|asg rfl rfl<|lc<|ah<|sr<|mv rfl rfl<|l_q rfl (ad rfl)<|l_q rfl (qfa 15 rfl cL rfl rfl yS4)<|l_q rfl (qld rfl yA4) ?_
 refine lc<|aA rfl (fun z=>?_) fun z=>?_
 ·skip
  rw[show iU x v=(24,x.S) by unfold iU;rw[if_pos z]]
  refine sr<|asg rfl rfl<|lc<|rt ?_
  apply aJ (.inl rfl) ([rsH pr l x])
  ·apply cO rfl
   exact .tmp rfl
  ·exact⟨rfl,rfl⟩
  refine bB vc ?_;(exact en)
 rw[show iU x v=(0,{x.S with next:=v}) by unfold iU;rw[if_neg (by simp[z])]]
 refine al<|nz<|mv rfl rfl<|mv rfl rfl<|l_q rfl (ad rfl)<|l_q rfl (qfa 13 rfl cL rfl rfl yS3)<|st rfl rfl rfl yS3 rfl ?_
 refine lz<|asg rfl rfl<|lc<|rt ?_
 apply aJ (.inl rfl) ([rsH pr l {x with S:={x.S with next:=v}}])
 ·apply cO rfl
  exact .tmp rfl
 ·exact⟨rfl,rfl⟩
 refine bB vc ?_;(exact en)
theorem ug (v:Int):aG Tryz.prog 112 #[.pointer (some ⟨x.p,0,none⟩),.int .i64 v] [rsH pr l x] (fun r L=>r=.int .i64 (lD x v).1∧L= [rsH pr l {x with S:=(lD x v).2}]):=by
 refine aq GM Tryz.func112 rfl rfl rfl fun Fr w0=>aR ?_
 refine dM .here fun vc=>?_
 refine sr<|asg rfl rfl<|lc<|ah<|sr<|mv rfl rfl<|l_q rfl (ad rfl)<|l_q rfl (qfa 15 rfl cL rfl rfl yS4)<|l_q rfl (qld rfl yA4) ?_
 refine lc<|aA rfl (fun z=>?_) fun z=>?_
 ·skip
  rw[show lD x v=(24,x.S) by unfold lD;rw[if_pos z]]
  refine sr<|asg rfl rfl<|lc<|rt ?_
  apply aJ (.inl rfl) ([rsH pr l x])
  ·apply cO rfl
   exact .tmp rfl
  ·exact⟨rfl,rfl⟩
  refine bB vc ?_;(exact en)
 rw[show lD x v=(0,{x.S with next:=v,kind:=3}) by unfold lD;rw[if_neg (by simp[z])]]
 refine al<|nz<|mv rfl rfl<|l_q rfl (ad rfl)<|l_q rfl (qfa 14 rfl cL rfl rfl yS4)<|st rfl rfl rfl yS4 rfl ?_
 refine lz<|mv rfl rfl<|mv rfl rfl<|l_q rfl (ad rfl)<|l_q rfl (qfa 13 rfl cL rfl rfl yS3)<|st rfl rfl rfl yS3 rfl ?_
 refine lz<|asg rfl rfl<|lc<|rt ?_
 apply aJ (.inl rfl) ([rsH pr l {x with S:={x.S with next:=v,kind:=3}}])
 ·apply cO rfl
  exact .tmp rfl
 ·exact⟨rfl,rfl⟩
 refine bB vc ?_;(exact en)
theorem AX (v:Int) (hv:-9223372036854775808≤v∧v≤9223372036854775807):aG Tryz.prog 110 #[.pointer (some ⟨x.p,0,none⟩),.int .i64 v] [rsH pr l x] (fun r L=>r=.tuple #[.int .i64 (gK x v).1,.int .i64 (gK x v).2.1]∧L= [rsH pr l {x with S:=(gK x v).2.2}]):=by
 have hp:=hr.pins
 have hneg:IntKind.i64.wrap (0-x.S.pins)= -x.S.pins:=by rw[wrap_i64 (by omega)];omega
 refine aq GN Tryz.func110 rfl rfl rfl fun Fr w0=>aR ?_
 refine dM .here fun vc=>?_
 refine sr<|asg rfl rfl<|asg rfl rfl<|lc<|ah<|sr<|mv rfl rfl<|l_q rfl (ad rfl)<|l_q rfl (qfa 15 rfl cL rfl rfl yS4)<|l_q rfl (qld rfl yA4) ?_
 refine lc<|aA rfl (fun z=>?_) fun z=>?_
 ·skip
  rw[show gK x v=(0,24,x.S) by unfold gK;rw[if_pos z]]
  refine sr<|asg rfl rfl<|asg rfl rfl<|lc<|rt ?_
  apply aJ (.inl rfl) ([rsH pr l x])
  ·apply bS rfl
   ·exact .tmp rfl
   exact .tmp rfl
  ·exact⟨rfl,rfl⟩
  refine bB vc ?_;(exact en)
 refine al<|ak<|ah<|sr<|mv rfl rfl<|mv rfl rfl<|l_q rfl (ad rfl)<|l_q rfl (qfa 12 rfl cL rfl rfl yS3)<|l_q rfl (qld rfl yA3) ?_
 refine l_q rfl (cX rfl (yS ·))<|l_q rfl (qi rfl rfl (aU ·))<|mv rfl rfl<|bD (t:=17) rfl (fun p1=>?_) fun p1=>?_
 ·skip
  rw[show gK x v=(0,83,x.S) by unfold gK;rw[if_neg (by simp[z]),if_pos (.inl (by rw[← hneg];exact p1))]]
  refine ar rfl rfl rfl rfl<|ar rfl rfl rfl rfl<|ar rfl rfl rfl rfl<|ar rfl rfl rfl rfl<|ar rfl rfl rfl rfl<|ar rfl rfl rfl rfl<|ar rfl rfl rfl rfl<|l_q rfl (aL rfl rfl)<|lc<|aY rfl<|sr<|asg rfl rfl<|asg rfl rfl<|lc<|rt ?_
  apply aJ (.inl rfl) ([rsH pr l x])
  ·apply bS rfl
   ·exact .tmp rfl
   exact .tmp rfl
  ·exact⟨rfl,rfl⟩
  refine bB vc ?_;(exact en)
 refine au rfl rfl<|mv rfl rfl<|au rfl rfl<|mv rfl rfl<|au rfl rfl<|l_q rfl (ad rfl)<|au rfl rfl<|l_q rfl (qfa 12 rfl cL rfl rfl yS3)<|au rfl rfl<|l_q rfl (qld rfl yA3) ?_
 refine au rfl rfl<|l_q rfl (e9 rfl rfl) ?_
 refine au rfl rfl<|l_q rfl (qi rfl rfl (cU ·))<|l_q rfl (aL rfl rfl)<|lc<|aA rfl (fun p2=>?_) fun p2=>?_
 ·skip
  rw[show gK x v=(0,83,x.S) by unfold gK;rw[if_neg (by simp[z]),if_pos (.inr (by omega))]]
  refine sr<|asg rfl rfl<|asg rfl rfl<|lc<|rt ?_
  apply aJ (.inl rfl) ([rsH pr l x])
  ·apply bS rfl
   ·exact .tmp rfl
   exact .tmp rfl
  ·exact⟨rfl,rfl⟩
  refine bB vc ?_;(exact en)
 rw[hneg] at p1
 rw[show gK x v=(x.S.pins+v,0,{x.S with pins:=x.S.pins+v}) by unfold gK;rw[if_neg (by simp[z]),if_neg (by omega)]]
 refine al<|nz<|mv rfl rfl<|mv rfl rfl<|l_q rfl (ad rfl)<|l_q rfl (qfa 12 rfl cL rfl rfl yS3)<|l_q rfl (qld rfl yA3) ?_
 refine mv rfl rfl<|l_q rfl (ba rfl rfl) ?_
 refine l_q rfl (ad rfl)<|l_q rfl (qfa 12 rfl cL rfl rfl yS3)<|st rfl rfl rfl yS3 rfl ?_
 refine lz<|mv rfl rfl<|l_q rfl (ad rfl)<|l_q rfl (qfa 12 rfl cL rfl rfl yS3)<|l_q rfl (qld rfl yA3) ?_
 refine asg rfl rfl<|asg rfl rfl<|lc<|rt ?_
 apply aJ (.inl rfl) ([rsH pr l {x with S:={x.S with pins:=x.S.pins+v}}])
 ·apply bS rfl
  ·exact .tmp rfl
  exact .tmp rfl
 ·exact⟨rfl,rfl⟩
 refine bB vc ?_;(exact en)
end
end
end Small
end Go.Proofs.YthkajgkagnenbaaGreatDoor
