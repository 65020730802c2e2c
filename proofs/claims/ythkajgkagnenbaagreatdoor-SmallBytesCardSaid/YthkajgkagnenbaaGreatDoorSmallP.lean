import Derived.Test.YthkajgkagnenbaaGreatDoorSmall
set_option linter.unusedVariables false
set_option linter.unusedSimpArgs false
set_option linter.unusedSectionVars false
namespace Go.Proofs.YthkajgkagnenbaaGreatDoor
section
set_option maxRecDepth 100000
namespace Small
open Go.RowKit Go.Proofs Eng Ty Bits Mem Search Arena CtrlB Ctrl Layout GroupB Group TableB Table
structure dZ (s s':ArS) (o k:Nat):Prop where
 all:s'.all=s.all
 dead:s'.dead=s.dead
 limit:s'.limit=s.limit
 m:∀ a,(a < o∨o+k≤a)→s'.m a=s.m a
theorem dZ.refl (s:ArS) (o k:Nat):dZ s s o k:=⟨rfl,rfl,rfl,fun _ _=>rfl⟩
theorem dZ.trans {a b c:ArS} {o n:Nat} (h:dZ a b o n) (k:dZ b c o n):dZ a c o n:=⟨k.all.trans h.all,k.dead.trans h.dead,k.limit.trans h.limit,fun x hx=>(k.m x hx).trans (h.m x hx)⟩
theorem dZ.put {s:ArS} {o k o1 k1:Nat} {f:Nat→Int} (h1:o≤o1) (h2:o1+k1≤o+k):dZ s (s.put o1 k1 f) o k:=⟨rfl,rfl,rfl,fun a ha=>by rw[ArS.put_m,bO (by omega)]⟩
theorem dZ.bl {s s':ArS} {o k:Nat} (h:dZ s s' o k):s'.bl=s.bl:=by unfold ArS.bl;rw[h.all,h.dead]
theorem dZ.live {s s':ArS} {o k:Nat} (h:dZ s s' o k):s'.live=s.live:=by unfold ArS.live;rw[h.bl]
theorem SmP.hN {s:ArS} {off:Nat} {l:Lay} {S:Sm} (h:SmP s off l S):gW l:=eL h.hl
theorem SmP.grp {s:ArS} {off:Nat} {l:Lay} {S:Sm} (h:SmP s off l S):aN s ((off+32:Nat):Int) l.group:=by
 have:=Lay.bnd h.hl
 exact aN.sub h.gh (by omega) (by omega) (by omega)
theorem SmP.word {s:ArS} {off:Nat} {l:Lay} {S S':Sm} (h:SmP s off l S) {k:Nat} (hk:k < 4) {v:Int} (hb:-9223372036854775808≤v∧v≤9223372036854775807) (hv:smV S' k=v) (ho:∀ j,j < 4→j≠k→smV S' j=smV S j) (hc:S'.cells=S.cells):
  SmP (s.put (off+8*k) 8 (bG (IntKind.u64.wrap v))) off l S':=by
 refine⟨h.hl,h.gh,fun j hj=>?_,fun j hj=>?_,?_,by rw[hc];exact h.okc⟩
 ·rw[ArS.put_m]
  by_cases q:j=k
  ·subst q
   rw[cJ (m':=bG (IntKind.u64.wrap v)) (o':=0) fun i hi=>by rw[gJ (by omega) (by omega)];congr 1;omega]
   rw[fA,hv,IntKind.wrap_u64]
   omega
  rw[ho j hj q,← h.head j hj]
  exact cJ fun i hi=>by rw[bO];omega
 ·by_cases q:j=k
  ·rw[q,hv];exact hb
  rw[ho j hj q];exact h.hr j hj
 rw[ArS.put_m,hc]
 exact GAt.out h.body (by omega)
theorem SmP.cell {s:ArS} {off:Nat} {l:Lay} {S:Sm} (h:SmP s off l S) {i:Nat} (hi:i < 8) {c:Cell} (hc:c.ok l):
  SmP (s.put (off+32) (gN l) (c7 l (bT S.cells i c))) off l {S with cells:=bT S.cells i c}:=by
 refine⟨h.hl,h.gh,fun j hj=>?_,h.hr,?_,fun j hj=>?_⟩
 ·show cZ _ _ _=IntKind.u64.wrap (smV S j)
  rw[ArS.put_m,← h.head j hj]
  exact cJ fun i hi=>by rw[bO];omega
 ·rw[ArS.put_m]
  exact GAt.lay _
 show(bT S.cells i c j).ok l
 unfold bT;split
 ·exact hc
 exact h.okc j hj
section
variable (G:HP) (hGT:dz G) (pa off:Nat) (s:ArS) (l:Lay) (S:Sm) (hP:SmP s off l S) (t:Nat) (ht:t < 128) (key:ByteArray) (hk:key.size=kN l)
include hP
theorem ud (i:Nat) (hi:i < 8):aG Tryz.prog 123 #[.agg #[.pointer (some ⟨pa,0,none⟩),.int .i64 l.key,.int .i64 l.elem,.int .i64 l.ka,.int .i64 l.ea,.int .i64 l.cap,.int .i64 l.eo,.int .i64 l.bo,.int .i64 l.slot,.int .i64 l.group,.int .i64 (off:Nat)],.int .i64 i] [ae pa s] (fun v L=>v=.tuple #[.agg #[.int .i64 (S.cells i).kind,.int .i64 (S.cells i).tagI,.string (S.cells i).keyS,.string (S.cells i).elemS,.int .i64 (S.cells i).birthI],.int .i64 0]∧L= [ae pa s]):=by
 have hG:=hP.grp
 refine aq Ao Tryz.func123 rfl rfl rfl fun Fr w0=>aR ?_
 refine cI (φ:=s.ok) (fun w hw=>bQ hw .here) fun hok0=>?_
 refine sr<|aP rfl rfl fun b2=>az rfl cK fun b4=>asg rfl rfl<|lc<|ah<|sr<|l_q rfl (aK rfl cd bM) ?_
 refine lc1 rfl rfl rfl (fm pa off s l S hP) ?_
 refine mv rfl rfl<|l_q rfl (aa rfl ga) ?_
 refine l_q rfl (aa rfl ga) ?_
 refine az rfl cE fun b6=>sta rfl rfl rfl bP rfl rfl ?_
 refine asg rfl rfl<|lz<|mv rfl rfl<|l_q rfl (qi rfl rfl (aI ·))<|lc<|aA rfl (fun z=>?_) fun z=>?_
 ·exact absurd rfl z
 refine al<|nz<|l_q rfl (aK rfl cd bM) ?_
 refine lc1 rfl rfl rfl (eP pa off s l S hP hok0) ?_
 refine mv rfl rfl<|lc1 rfl rfl rfl (sv pa (off+32) s l S.cells hP.hl hG hP.body hP.okc i hi) ?_
 refine l_q rfl (aa rfl ga) ?_
 refine l_q rfl (aa rfl ga) ?_
 refine sta rfl rfl rfl bx rfl rfl ?_
 refine asg rfl rfl<|lc<|rt ?_
 apply aJ (.inl rfl) ([ae pa s])
 ·apply bS rfl
  ·apply Rv.agg rfl
   ·exact tk
   exact aD dh bx rfl
  exact .tmp rfl
 ·exact⟨rfl,rfl⟩
 exact en
include hGT ht hk
def atS (S:Sm) (t:Nat) (key:ByteArray):Nat:=bA (fh S.cells t key)
def atI (S:Sm) (t:Nat) (key:ByteArray):Int:=if atS S t key=8 then -1 else(atS S t key:Nat)
theorem j8:aG Tryz.prog 173 #[.agg #[.pointer (some ⟨pa,0,none⟩),.int .i64 l.key,.int .i64 l.elem,.int .i64 l.ka,.int .i64 l.ea,.int .i64 l.cap,.int .i64 l.eo,.int .i64 l.bo,.int .i64 l.slot,.int .i64 l.group,.int .i64 (off:Nat)],.int .i64 t,.string key] [G,ae pa s]
  (fun v L=>v=.tuple #[.agg #[.int .i64 S.used,.int .i64 S.pins,.int .i64 S.next,.bool (decide (S.kind=3))],.int .i64 (atI S t key),.int .i64 0]∧L= [G,ae pa s]):=by
 have hG:=hP.grp
 have hks:(key.size:Int)=l.key:=by rw[hk];exact hP.hN.k
 have h8:=dK (fh S.cells t key)
 refine aq wD Tryz.func173 rfl rfl rfl fun Fr w0=>aR ?_
 refine cI (φ:=s.ok) (fun w hw=>bQ hw (.there .here)) fun hok0=>?_
 refine sr<|aP rfl rfl fun b3=>az rfl cE fun b6=>asg rfl rfl<|asg rfl rfl<|lz<|l_q rfl (aK rfl cd bM) ?_
 refine lc1 rfl rfl rfl (fm pa off s l S hP) ?_
 refine mv rfl rfl<|l_q rfl (aa rfl ga) ?_
 refine l_q rfl (aa rfl ga) ?_
 refine az rfl cE fun b9=>sta rfl rfl rfl bP rfl rfl ?_
 refine asg rfl rfl<|lc<|ah<|sr<|mv rfl rfl<|l_q rfl (qi rfl rfl (aI ·))<|lc<|aA rfl (fun z=>?_) fun z=>?_
 ·exact absurd rfl z
 refine al<|ak<|ah<|sr<|mv rfl rfl<|l_q rfl (qls rfl yU9)<|l_q rfl (qfa 1 rfl gP rfl rfl aX)<|l_q rfl (qfa 0 rfl bK rfl rfl yS3)<|l_q rfl (qld rfl yA3) ?_
 refine l_q rfl (qi rfl rfl (aI ·))<|lc<|aA rfl (fun y=>?_) fun y=>?_
 ·omega
 refine al<|nz<|l_q rfl (aK rfl cd bM) ?_
 refine lc1 rfl rfl rfl (eP pa off s l S hP hok0) ?_
 refine mv rfl rfl<|mv rfl rfl<|lc1 rfl rfl rfl (A9 G hGT pa (off+32) s l S.cells hP.hl hG hP.body hP.okc t ht key hk) ?_
 refine mv rfl rfl<|l_q rfl (aa rfl ga) ?_
 refine l_q rfl (aa rfl ga) ?_
 refine asg rfl rfl<|asg rfl rfl<|lc<|ah<|sr<|mv rfl rfl<|l_q rfl (qi rfl rfl (aZ ·))<|lc<|aA rfl (fun x=>?_) fun x=>?_
 ·refine aB<|asg rfl rfl<|lz<|l_q rfl (aK rfl fR bP) ?_
  refine mv rfl rfl<|mv rfl rfl<|sta rfl rfl rfl bP rfl rfl ?_
  refine asg rfl rfl<|asg rfl rfl<|lc<|rt ?_
  apply aJ (.inl rfl) ([G,ae pa s])
  ·apply lT rfl
   ·apply Rv.agg rfl
    ·exact tk
    exact aD fR bP rfl
   ·exact .tmp rfl
   exact .tmp rfl
  ·refine⟨?_,rfl⟩;unfold atI atS;rw[if_pos (by omega)]
  exact en
 refine al<|nz<|l_q rfl (aK rfl fR bP) ?_
 refine mv rfl rfl<|mv rfl rfl<|sta rfl rfl rfl bP rfl rfl ?_
 refine asg rfl rfl<|asg rfl rfl<|lc<|rt ?_
 apply aJ (.inl rfl) ([G,ae pa s])
 ·apply lT rfl
  ·apply Rv.agg rfl
   ·exact tk
   exact aD fR bP rfl
  ·exact .tmp rfl
  exact .tmp rfl
 ·refine⟨?_,rfl⟩;unfold atI atS;rw[if_neg (by omega)]
 exact en
theorem AV:aG Tryz.prog 117 #[.agg #[.pointer (some ⟨pa,0,none⟩),.int .i64 l.key,.int .i64 l.elem,.int .i64 l.ka,.int .i64 l.ea,.int .i64 l.cap,.int .i64 l.eo,.int .i64 l.bo,.int .i64 l.slot,.int .i64 l.group,.int .i64 (off:Nat)],.int .i64 t,.string key] [G,ae pa s]
  (fun v L=>v=.tuple #[.int .i64 (atI S t key),.int .i64 0]∧L= [G,ae pa s]):=by
 refine aq Aq Tryz.func117 rfl rfl rfl fun Fr w0=>aR ?_
 refine sr<|aP rfl rfl fun b3=>asg rfl rfl<|asg rfl rfl<|lz<|l_q rfl (aK rfl cd bM) ?_
 refine mv rfl rfl<|mv rfl rfl<|lc1 rfl rfl rfl (j8 G hGT pa off s l S hP t ht key hk) ?_
 refine mv rfl rfl<|l_q rfl (aa rfl ga) ?_
 refine l_q rfl (aa rfl ga) ?_
 refine l_q rfl (aa rfl ga) ?_
 refine az rfl cE fun b8=>sta rfl rfl rfl bP rfl rfl ?_
 exact asg rfl rfl<|asg rfl rfl<|lz<|mv rfl rfl<|mv rfl rfl<|asg rfl rfl<|asg rfl rfl<|lc<|rt<|fr2 rfl ([G,ae pa s]) (.tmp rfl) (.tmp rfl) ⟨rfl,rfl⟩
end
end Small
end
section
set_option maxRecDepth 100000
namespace Small
open Go.RowKit Go.Proofs Eng Ty Bits Mem Search Arena CtrlB Ctrl Layout GroupB Group TableB Table
def Dz (c:Cell) (e:ByteArray):Cell:=match c with
 | .full t k _ b=>.full t k e b
 | c=>c
def iC (S:Sm) (t:Nat) (key elem:ByteArray) (birth:Int):Int×Sm:=
 if atS S t key < 8 then(1,{S with cells:=bT S.cells (atS S t key) (Dz (S.cells (atS S t key)) elem)})
 else if bA (eD S.cells)=8 then(3,S)
 else(2,{S with used:=S.used+1,cells:=bT S.cells (bA (eD S.cells)) (.full t key elem birth)})
def jV (S:Sm) (t:Nat) (key:ByteArray):Bool×Sm:=
 if atS S t key < 8 then(true,{S with used:=S.used-1,cells:=bT S.cells (atS S t key) .empty}) else(false,S)
def nR (S:Sm) (t:Nat) (key:ByteArray):Cell:=if atS S t key < 8 then S.cells (atS S t key) else .empty
theorem se {S:Sm} {t:Nat} {key:ByteArray} (h:atS S t key < 8):∃ e b,S.cells (atS S t key)=.full (t:Int) key e b:=by
 unfold atS at h ⊢
 obtain⟨e,b,hc⟩:=TableI.hit_cell (g5 h)
 exact⟨e,b,hc⟩
theorem AB {S:Sm} {t:Nat} {key:ByteArray} (h:atS S t key < 8):atI S t key=(atS S t key:Nat):=by unfold atI;rw[if_neg (by omega)]
theorem AA {S:Sm} {t:Nat} {key:ByteArray} (h:¬ atS S t key < 8):atI S t key= -1:=by
 have:atS S t key≤8:=dK _
 unfold atI;rw[if_pos (by omega)]
section
variable (G:HP) (hGT:dz G) (pa off:Nat) (s:ArS) (l:Lay) (S:Sm) (hP:SmP s off l S) (t:Nat) (ht:t < 128) (key:ByteArray) (hk:key.size=kN l)
include hP hGT ht hk
theorem Cw:aG Tryz.prog 119 #[.agg #[.pointer (some ⟨pa,0,none⟩),.int .i64 l.key,.int .i64 l.elem,.int .i64 l.ka,.int .i64 l.ea,.int .i64 l.cap,.int .i64 l.eo,.int .i64 l.bo,.int .i64 l.slot,.int .i64 l.group,.int .i64 (off:Nat)],.int .i64 t,.string key] [G,ae pa s]
  (fun v L=>v=.tuple #[.agg #[.int .i64 (nR S t key).kind,.int .i64 (nR S t key).tagI,.string (nR S t key).keyS,.string (nR S t key).elemS,.int .i64 (nR S t key).birthI],.int .i64 0]∧L= [G,ae pa s]):=by
 have hG:=hP.grp
 refine aq Ap Tryz.func119 rfl rfl rfl fun Fr w0=>aR ?_
 refine cI (φ:=s.ok) (fun w hw=>bQ hw (.there .here)) fun hok0=>?_
 refine sr<|aP rfl rfl fun b3=>az rfl cK fun b6=>asg rfl rfl<|lz<|l_q rfl (aK rfl cd bM) ?_
 refine mv rfl rfl<|mv rfl rfl<|lc1 rfl rfl rfl (j8 G hGT pa off s l S hP t ht key hk) ?_
 rcases Nat.lt_or_ge (atS S t key) 8 with h8 | h8
 ·rw[AB h8]
  refine mv rfl rfl<|l_q rfl (aa rfl ga) ?_
  refine l_q rfl (aa rfl ga) ?_
  refine l_q rfl (aa rfl ga) ?_
  refine az rfl cE fun b8=>sta rfl rfl rfl bP rfl rfl ?_
  refine asg rfl rfl<|asg rfl rfl<|lc<|ah<|sr<|mv rfl rfl<|l_q rfl (qi rfl rfl (aI ·))<|mv rfl rfl<|bD (t:=21) rfl (fun p1=>?_) fun p1=>?_
  ·exact absurd rfl p1
  refine au rfl rfl<|mv rfl rfl<|au rfl rfl<|l_q rfl (qi rfl rfl (aU ·))<|l_q rfl (aL rfl rfl)<|lc<|aA rfl (fun p2=>?_) fun p2=>?_
  ·omega
  refine al<|nz<|l_q rfl (aK rfl cd bM) ?_
  refine lc1 rfl rfl rfl (eP pa off s l S hP hok0) ?_
  refine mv rfl rfl<|lc1 rfl rfl rfl (sv pa (off+32) s l S.cells hP.hl hG hP.body hP.okc (atS S t key) h8) ?_
  refine l_q rfl (aa rfl ga) ?_
  refine l_q rfl (aa rfl ga) ?_
  refine sta rfl rfl rfl bx rfl rfl ?_
  refine asg rfl rfl<|lc<|rt ?_
  apply aJ (.inl rfl) ([G,ae pa s])
  ·apply bS rfl
   ·apply Rv.agg rfl
    ·exact tk
    exact aD dh bx rfl
   exact .tmp rfl
  ·exact⟨by unfold nR;rw[if_pos h8],rfl⟩
  exact en
 rw[AA (by omega)]
 refine mv rfl rfl<|l_q rfl (aa rfl ga) ?_
 refine l_q rfl (aa rfl ga) ?_
 refine l_q rfl (aa rfl ga) ?_
 refine az rfl cE fun b8=>sta rfl rfl rfl bP rfl rfl ?_
 refine asg rfl rfl<|asg rfl rfl<|lc<|ah<|sr<|mv rfl rfl<|l_q rfl (qi rfl rfl (aI ·))<|mv rfl rfl<|bD (t:=21) rfl (fun p1=>?_) fun p1=>?_
 ·exact absurd rfl p1
 refine au rfl rfl<|mv rfl rfl<|au rfl rfl<|l_q rfl (qi rfl rfl (aU ·))<|l_q rfl (aL rfl rfl)<|lc<|aA rfl (fun p2=>?_) fun p2=>?_
 ·refine sr ?_
  apply l_q rfl
  ·apply aQ rfl gl cK
   exact aF.nil
  refine mv rfl rfl<|sta rfl rfl rfl bx rfl rfl ?_
  refine asg rfl rfl<|lc<|rt ?_
  apply aJ (.inl rfl) ([G,ae pa s])
  ·apply bS rfl
   ·apply Rv.agg rfl
    ·exact tk
    exact aD dh bx rfl
   exact .tmp rfl
  ·exact⟨by unfold nR;rw[if_neg (by omega)];rfl,rfl⟩
  exact en
 omega
theorem vu (hu:0≤S.used∧S.used≤1099511627776):aG Tryz.prog 107 #[.agg #[.pointer (some ⟨pa,0,none⟩),.int .i64 l.key,.int .i64 l.elem,.int .i64 l.ka,.int .i64 l.ea,.int .i64 l.cap,.int .i64 l.eo,.int .i64 l.bo,.int .i64 l.slot,.int .i64 l.group,.int .i64 (off:Nat)],.int .i64 t,.string key] [G,ae pa s]
  (fun v L=>∃ s',v=.tuple #[.bool (jV S t key).1,.int .i64 0]∧L= [G,ae pa s']∧SmP s' off l (jV S t key).2∧dZ s s' off (32+gN l)):=by
 have hG:=hP.grp
 have hbd:=Lay.bnd hP.hl
 refine aq Ar Tryz.func107 rfl rfl rfl fun Fr w0=>aR ?_
 refine cI (φ:=s.ok) (fun w hw=>bQ hw (.there .here)) fun hok0=>?_
 refine sr<|aP rfl rfl fun b3=>asg rfl rfl<|asg rfl rfl<|lz<|l_q rfl (aK rfl cd bM) ?_
 refine mv rfl rfl<|mv rfl rfl<|lc1 rfl rfl rfl (j8 G hGT pa off s l S hP t ht key hk) ?_
 rcases Nat.lt_or_ge (atS S t key) 8 with h8 | h8
 ·rw[AB h8,show jV S t key=(true,{S with used:=S.used-1,cells:=bT S.cells (atS S t key) .empty}) from by unfold jV;rw[if_pos h8]]
  have hw:=hP.cell (c:=.empty) h8 trivial
  have w1:=hw.word (S':={S with used:=S.used-1,cells:=bT S.cells (atS S t key) .empty}) (k:=3) (v:=S.used-1) (by decide) (by omega) rfl (fun j hj hne=>by
   have:j=0∨j=1∨j=2:=by omega
   rcases this with rfl | rfl | rfl <;> rfl) rfl
  refine mv rfl rfl<|l_q rfl (aa rfl ga) ?_
  refine l_q rfl (aa rfl ga) ?_
  refine l_q rfl (aa rfl ga) ?_
  refine az rfl cE fun b8=>sta rfl rfl rfl bP rfl rfl ?_
  refine asg rfl rfl<|asg rfl rfl<|lc<|ah<|sr<|mv rfl rfl<|l_q rfl (qi rfl rfl (aI ·))<|mv rfl rfl<|bD (t:=22) rfl (fun p1=>?_) fun p1=>?_
  ·exact absurd rfl p1
  refine au rfl rfl<|mv rfl rfl<|au rfl rfl<|l_q rfl (qi rfl rfl (aU ·))<|l_q rfl (aL rfl rfl)<|lc<|aA rfl (fun p2=>?_) fun p2=>?_
  ·omega
  refine al<|ak<|ah<|sr<|l_q rfl (aK rfl cd bM) ?_
  refine lc1 rfl rfl rfl (eP pa off s l S hP hok0) ?_
  refine mv rfl rfl<|lc1 rfl rfl rfl (Bc pa (off+32) s l S.cells hP.hl hG hP.body hP.okc (atS S t key) false h8) ?_
  simp only[Bool.false_eq_true,↓reduceIte]
  refine asg rfl rfl<|lz<|mv rfl rfl<|l_q rfl (qi rfl rfl (aI ·))<|lc<|aA rfl (fun p3=>?_) fun p3=>?_
  ·exact absurd rfl p3
  refine al<|nz<|l_q rfl (aK rfl cd bM) ?_
  refine l_q rfl (qfa 0 rfl nA rfl rfl yS3)<|l_q rfl (qld rfl yA3) ?_
  refine l_q rfl (e9 rfl rfl) ?_
  refine lcf rfl rfl rfl (kR pa off _ l hw.gh (by omega) 3 24 _ rfl (by decide)) ?_
  rintro v L' rfl
  refine bF ?_
  refine lz<|asg rfl rfl<|asg rfl rfl<|lc<|rt<|fr2 rfl ([G,ae pa ((s.put (off+32) (gN l) (c7 l (bT S.cells (atS S t key) .empty))).put (off+8*3) 8 (bG (IntKind.u64.wrap (S.used-1))))]) (.tmp rfl) (.tmp rfl) ?_
  exact⟨_,rfl,rfl,w1,(dZ.put (by omega) (by omega)).trans (dZ.put (by omega) (by omega))⟩
 rw[AA (by omega),show jV S t key=(false,S) from by unfold jV;rw[if_neg (by omega)]]
 refine mv rfl rfl<|l_q rfl (aa rfl ga) ?_
 refine l_q rfl (aa rfl ga) ?_
 refine l_q rfl (aa rfl ga) ?_
 refine az rfl cE fun b8=>sta rfl rfl rfl bP rfl rfl ?_
 refine asg rfl rfl<|asg rfl rfl<|lc<|ah<|sr<|mv rfl rfl<|l_q rfl (qi rfl rfl (aI ·))<|mv rfl rfl<|bD (t:=22) rfl (fun p1=>?_) fun p1=>?_
 ·exact absurd rfl p1
 refine au rfl rfl<|mv rfl rfl<|au rfl rfl<|l_q rfl (qi rfl rfl (aU ·))<|l_q rfl (aL rfl rfl)<|lc<|aA rfl (fun p2=>?_) fun p2=>?_
 ·exact sr<|mv rfl rfl<|asg rfl rfl<|asg rfl rfl<|lc<|rt<|fr2 rfl ([G,ae pa s]) (.tmp rfl) (.tmp rfl) ⟨s,rfl,rfl,hP,dZ.refl _ _ _⟩
 omega
theorem Cu (elem:ByteArray) (he:elem.size=eN l) (birth:Int) (hb:0≤birth∧birth < 9223372036854775808) (hu:0≤S.used∧S.used≤1099511627776):
  aG Tryz.prog 105 #[.agg #[.pointer (some ⟨pa,0,none⟩),.int .i64 l.key,.int .i64 l.elem,.int .i64 l.ka,.int .i64 l.ea,.int .i64 l.cap,.int .i64 l.eo,.int .i64 l.bo,.int .i64 l.slot,.int .i64 l.group,.int .i64 (off:Nat)],.int .i64 t,.string key,.string elem,.int .i64 birth] [G,ae pa s]
  (fun v L=>∃ s',v=.tuple #[.int .i64 (iC S t key elem birth).1,.int .i64 0]∧L= [G,ae pa s']∧SmP s' off l (iC S t key elem birth).2∧dZ s s' off (32+gN l)):=by
 have hG:=hP.grp
 have hbd:=Lay.bnd hP.hl
 have hes:(elem.size:Int)=l.elem:=by rw[he];exact hP.hN.e
 refine aq tU Tryz.func105 rfl rfl rfl fun Fr w0=>aR ?_
 refine cI (φ:=s.ok) (fun w hw=>bQ hw (.there .here)) fun hok0=>?_
 refine sr<|aP rfl rfl fun b5=>asg rfl rfl<|asg rfl rfl<|lz<|l_q rfl (aK rfl cd bM) ?_
 refine mv rfl rfl<|mv rfl rfl<|lc1 rfl rfl rfl (j8 G hGT pa off s l S hP t ht key hk) ?_
 rcases Nat.lt_or_ge (atS S t key) 8 with h8 | h8
 ·obtain⟨e0,b0,hc⟩:=se h8
  rw[AB h8,show iC S t key elem birth=(1,{S with cells:=bT S.cells (atS S t key) (.full (t:Int) key elem b0)}) from by unfold iC;rw[if_pos h8,hc];rfl]
  have hco:=hP.okc _ h8
  rw[hc] at hco
  have hw:=hP.cell (c:=.full (t:Int) key elem b0) h8 (by obtain⟨c1,c2,c3,c4,c5⟩:=hco;exact⟨c1,c2,c3,he,c5⟩)
  refine mv rfl rfl<|l_q rfl (aa rfl ga) ?_
  refine l_q rfl (aa rfl ga) ?_
  refine l_q rfl (aa rfl ga) ?_
  refine az rfl cE fun b12=>sta rfl rfl rfl bP rfl rfl ?_
  refine asg rfl rfl<|asg rfl rfl<|lc<|ah<|ax<|sr<|mv rfl rfl<|l_q rfl (qi rfl rfl (aI ·))<|mv rfl rfl<|bD (t:=28) rfl (fun p1=>?_) fun p1=>?_
  ·exact absurd rfl p1
  refine ar rfl rfl rfl rfl<|ar rfl rfl rfl rfl<|l_q rfl (aL rfl rfl)<|asg rfl rfl<|lc<|bR rfl<|sr<|mv rfl rfl<|l_q rfl (qls rfl yU9)<|l_q rfl (qfa 1 rfl gP rfl rfl aX)<|l_q rfl (qfa 1 rfl bK rfl rfl yS3)<|l_q rfl (qld rfl yA3) ?_
  refine l_q rfl (qi rfl rfl (aI ·))<|asg rfl rfl<|lc<|aA rfl (fun p2=>?_) fun p2=>?_
  ·omega
  refine sr<|mv rfl rfl<|l_q rfl (qi rfl rfl (aI ·))<|asg rfl rfl<|lc<|aA rfl (fun p3=>?_) fun p3=>?_
  ·exact absurd rfl p3
  refine sr<|mv rfl rfl<|l_q rfl (qi rfl rfl (aU ·))<|asg rfl rfl<|lc<|aA rfl (fun p4=>?_) fun p4=>?_
  ·omega
  refine sr<|mv rfl rfl<|l_q rfl (qi rfl rfl (gM ·))<|asg rfl rfl<|lc<|aA rfl (fun p5=>?_) fun p5=>?_
  ·refine sr<|l_q rfl (aK rfl cd bM) ?_
   refine lc1 rfl rfl rfl (eP pa off s l S hP hok0) ?_
   refine mv rfl rfl<|mv rfl rfl<|lc1 rfl rfl rfl (pz pa (off+32) s l S.cells hP.hl hG hP.body hP.okc (atS S t key) t key e0 elem b0 h8 hc he) ?_
   refine asg rfl rfl<|asg rfl rfl<|lc<|rt<|fr2 rfl ([G,ae pa (s.put (off+32) (gN l) (c7 l (bT S.cells (atS S t key) (.full (t:Int) key elem b0))))]) (.tmp rfl) (.tmp rfl) ?_
   exact⟨_,rfl,rfl,hw,dZ.put (by omega) (by omega)⟩
  omega
 rw[AA (by omega)]
 have hfv:=dK (eD S.cells)
 have hcell:(Cell.full (t:Int) key elem birth).ok l:=⟨by omega,by omega,hk,he,hb.1,hb.2⟩
 refine mv rfl rfl<|l_q rfl (aa rfl ga) ?_
 refine l_q rfl (aa rfl ga) ?_
 refine l_q rfl (aa rfl ga) ?_
 refine az rfl cE fun b12=>sta rfl rfl rfl bP rfl rfl ?_
 refine asg rfl rfl<|asg rfl rfl<|lc<|ah<|ax<|sr<|mv rfl rfl<|l_q rfl (qi rfl rfl (aI ·))<|mv rfl rfl<|bD (t:=28) rfl (fun p1=>?_) fun p1=>?_
 ·exact absurd rfl p1
 refine ar rfl rfl rfl rfl<|ar rfl rfl rfl rfl<|l_q rfl (aL rfl rfl)<|asg rfl rfl<|lc<|bR rfl<|sr<|mv rfl rfl<|l_q rfl (qls rfl yU9)<|l_q rfl (qfa 1 rfl gP rfl rfl aX)<|l_q rfl (qfa 1 rfl bK rfl rfl yS3)<|l_q rfl (qld rfl yA3) ?_
 refine l_q rfl (qi rfl rfl (aI ·))<|asg rfl rfl<|lc<|aA rfl (fun p2=>?_) fun p2=>?_
 ·omega
 refine sr<|mv rfl rfl<|l_q rfl (qi rfl rfl (aI ·))<|asg rfl rfl<|lc<|aA rfl (fun p3=>?_) fun p3=>?_
 ·exact absurd rfl p3
 refine sr<|mv rfl rfl<|l_q rfl (qi rfl rfl (aU ·))<|asg rfl rfl<|lc<|aA rfl (fun p4=>?_) fun p4=>?_
 ·omega
 refine sr<|mv rfl rfl<|l_q rfl (qi rfl rfl (gM ·))<|asg rfl rfl<|lc<|aA rfl (fun p5=>?_) fun p5=>?_
 ·omega
 refine al<|aV<|nz<|l_q rfl (aK rfl cd bM) ?_
 refine lc1 rfl rfl rfl (eP pa off s l S hP hok0) ?_
 refine lc1 rfl rfl rfl (wM pa (off+32) s l S.cells hP.hl hG hP.body hP.okc) ?_
 refine mv rfl rfl<|l_q rfl (aa rfl ga) ?_
 refine l_q rfl (aa rfl ga) ?_
 refine asg rfl rfl<|asg rfl rfl<|lc<|ah<|sr<|mv rfl rfl<|l_q rfl (qi rfl rfl (aI ·))<|lc<|aA rfl (fun p6=>?_) fun p6=>?_
 ·exact absurd rfl p6
 refine al<|nz<|mv rfl rfl<|lc1 rfl rfl rfl (ra hP.okc) ?_
 refine lc1 rfl rfl rfl (ju G hGT (eD S.cells)) ?_
 refine asg rfl rfl<|lc<|ah<|sr<|mv rfl rfl<|l_q rfl (qi rfl rfl (aZ ·))<|lc<|aA rfl (fun p7=>?_) fun p7=>?_
 ·refine sr<|asg rfl rfl<|asg rfl rfl<|lc<|rt<|fr2 rfl ([G,ae pa s]) (.tmp rfl) (.tmp rfl) ?_
  have hp:iC S t key elem birth=(3,S):=(by unfold iC;rw[if_neg (by omega),if_pos (by omega)]);rw[hp];exact⟨s,rfl,rfl,hP,dZ.refl _ _ _⟩
 refine al<|ak<|ah<|sr<|l_q rfl (aK rfl cd bM) ?_
 have hw:=hP.cell (i:=bA (eD S.cells)) (by omega) hcell
 have w1:=hw.word (S':={S with used:=S.used+1,cells:=bT S.cells (bA (eD S.cells)) (.full (t:Int) key elem birth)}) (k:=3) (v:=S.used+1) (by decide) (by omega) rfl (fun j hj hne=>by
  have:j=0∨j=1∨j=2:=by omega
  rcases this with rfl | rfl | rfl <;> rfl) rfl
 refine lc1 rfl rfl rfl (eP pa off s l S hP hok0) ?_
 refine mv rfl rfl<|mv rfl rfl<|mv rfl rfl<|mv rfl rfl<|mv rfl rfl<|lc1 rfl rfl rfl (Fill_ok pa (off+32) s l S.cells hP.hl hG hP.body hP.okc (bA (eD S.cells)) t key elem birth (by omega) ht hk he hb) ?_
 refine asg rfl rfl<|lz<|mv rfl rfl<|l_q rfl (qi rfl rfl (aI ·))<|lc<|aA rfl (fun p8=>?_) fun p8=>?_
 ·exact absurd rfl p8
 refine al<|nz<|l_q rfl (aK rfl cd bM) ?_
 refine l_q rfl (qfa 0 rfl nA rfl rfl yS3)<|l_q rfl (qld rfl yA3) ?_
 refine l_q rfl (ba rfl rfl) ?_
 refine lcf rfl rfl rfl (kR pa off _ l hw.gh (by omega) 3 24 _ rfl (by decide)) ?_
 rintro v L' rfl
 refine bF ?_
 refine lz<|asg rfl rfl<|asg rfl rfl<|lc<|rt<|fr2 rfl ([G,ae pa ((s.put (off+32) (gN l) (c7 l (bT S.cells (bA (eD S.cells)) (.full (t:Int) key elem birth)))).put (off+8*3) 8 (bG (IntKind.u64.wrap (S.used+1))))]) (.tmp rfl) (.tmp rfl) ?_
 have hp:iC S t key elem birth=(2,{S with used:=S.used+1,cells:=bT S.cells (bA (eD S.cells)) (.full (t:Int) key elem birth)}):=(by unfold iC;rw[if_neg (by omega),if_neg (by omega)]);rw[hp];exact⟨_,rfl,rfl,w1,(dZ.put (by omega) (by omega)).trans (dZ.put (by omega) (by omega))⟩
end
end Small
end
section
set_option maxRecDepth 100000
namespace Small
open Go.RowKit Go.Proofs Eng Ty Bits Mem Search Arena CtrlB Ctrl Layout GroupB Group TableB Table
def newS:Sm:=⟨1,0,0,0,fun _=>.empty⟩
theorem uZ {m:Nat→Int} {o:Nat} (h:∀ i,i < 8→m (o+i)=0):cZ m o 8=0:=by
 rw[cJ (m':=bG 0) (o':=0) fun i hi=>by rw[h i hi];simp[bG],fA];rfl
theorem BL (pa:Nat) (l:Lay) (off:Int):aG Tryz.prog 43 #[.pointer (some ⟨pa,0,none⟩),.agg l.cells,.int .i64 off] [] (fun v L=>v=.agg #[.pointer (some ⟨pa,0,none⟩),.int .i64 l.key,.int .i64 l.elem,.int .i64 l.ka,.int .i64 l.ea,.int .i64 l.cap,.int .i64 l.eo,.int .i64 l.bo,.int .i64 l.slot,.int .i64 l.group,.int .i64 off]∧L= []):=by
 refine aq E5 Tryz.func43 rfl rfl rfl fun Fr w0=>aR ?_
 refine sr<|aP rfl rfl fun b4=>az rfl n9 fun b6=>lz<|mv rfl rfl<|l_q rfl (aK rfl cu aX) ?_
 refine mv rfl rfl ?_
 apply l_q rfl
 ·apply aQ rfl Dj n9
  apply aF.one
  ·repeat (first | exact aH.here | apply aH.there)
  ·rfl
  ·exact sa
  apply aF.all
  ·repeat (first | exact aH.here | apply aH.there)
  ·rfl
  ·simp
  ·exact sal
  apply aF.one
  ·repeat (first | exact aH.here | apply aH.there)
  ·rfl
  ·exact sa
  exact aF.nil
 refine sta rfl rfl rfl bM rfl rfl ?_
 refine lc<|rt ?_
 apply aJ (.inl rfl) ([])
 ·apply cO rfl
  apply Rv.agg rfl
  ·exact tk
  exact aD cd bM rfl
 ·exact⟨rfl,rfl⟩
 exact en
theorem uE (pa off:Nat) (l:Lay) (hb:off≤1000000000):aG Tryz.prog 170 #[.agg #[.pointer (some ⟨pa,0,none⟩),.int .i64 l.key,.int .i64 l.elem,.int .i64 l.ka,.int .i64 l.ea,.int .i64 l.cap,.int .i64 l.eo,.int .i64 l.bo,.int .i64 l.slot,.int .i64 l.group,.int .i64 (off:Nat)]] [] (fun v L=>v=.agg #[.pointer (some ⟨pa,0,none⟩),.int .i64 l.key,.int .i64 l.elem,.int .i64 l.ka,.int .i64 l.ea,.int .i64 l.cap,.int .i64 l.eo,.int .i64 l.bo,.int .i64 l.slot,.int .i64 l.group,.int .i64 ((off+32:Nat):Int)]∧L= []):=by
 refine aq C4 Tryz.func170 rfl rfl rfl fun Fr w0=>aR ?_
 refine sr<|aP rfl rfl fun b1=>az rfl pR fun b2=>lz<|l_q rfl (qfa 0 rfl gP rfl rfl dt)<|l_q rfl (qld rfl du) ?_
 refine l_q rfl (qfa 1 rfl gP rfl rfl aX)<|l_q rfl (aK rfl cu aX) ?_
 refine l_q rfl (qfa 10 rfl gP rfl rfl yS3)<|l_q rfl (qld rfl yA3) ?_
 refine l_q rfl (ba rfl rfl) ?_
 rw[show((off:Nat):Int)+32=((off+32:Nat):Int) by omega]
 refine lc1 rfl rfl rfl (Group.At_ok pa _ l) ?_
 refine sta rfl rfl rfl cT rfl rfl ?_
 refine lc<|rt ?_
 apply aJ (.inl rfl) ([])
 ·apply cO rfl
  apply Rv.agg rfl
  ·exact tk
  exact aD df cT rfl
 ·exact⟨rfl,rfl⟩
 exact en
theorem BG {s:ArS} {l:Lay} (hs:s.ok) (hl:l.err=0) (hn:32+l.group≤aC (32+l.group)):SmP ((s.take (aC (32+l.group))).put (s.at (aC (32+l.group))+32) (gN l) (c7 l fun _=>.empty)) (s.at (aC (32+l.group))) l ⟨0,0,0,0,fun _=>.empty⟩:=by
 have hbd:=Lay.bnd hl
 refine⟨hl,aN.put (aN.new hs (by omega) hn),fun k hk=>?_,fun k hk=>?_,?_,fun i _=>trivial⟩
 ·have e0:smV ⟨0,0,0,0,fun _=>.empty⟩ k=0:=by
   have:k=0∨k=1∨k=2∨k=3:=by omega
   rcases this with rfl | rfl | rfl | rfl <;> rfl
  rw[e0,uZ fun i hi=>by
   rw[ArS.put_m,bO (by omega)]
   exact take_zero hs (by omega) (by omega) (by omega)]
  rfl
 ·have:k=0∨k=1∨k=2∨k=3:=by omega
  rcases this with rfl | rfl | rfl | rfl <;> simp[smV]
 rw[ArS.put_m];exact GAt.lay _
structure CC (s s':ArS) (c:Int):Prop where
 limit:s'.limit=s.limit
 live:s'.live=s.live+c
 all:s'.all=(s.take c).all
 dead:s'.dead=(s.take c).dead
 bl:∀ p,p∈s'.bl↔p∈s.bl∨p=(((s.at c:Nat):Int),c)
 m:∀ p∈s.bl,∀ a:Nat,p.1≤a→(a:Int) < p.1+p.2→s'.m a=s.m a
theorem zF {s:ArS} (hs:s.ok) {l:Lay} (hl:l.err=0) {C:Int} {of:Nat} {E F:Nat→Int} (hc:1≤C) (h:32+l.group≤C) (ho:of=s.at C):CC s (((s.take C).put (of+32) (gN l) E).put (of+8*0) 8 F) C:=by
 subst ho
 have hgN:=(eL hl).g
 have hbd:=Lay.bnd hl
 refine⟨cW hs,ArS.take_live hs,rfl,rfl,fun p=>ef hs,fun p hp a h1 h2=>?_⟩
 have hap:=dO hs hp (c:=C) hc
 rw[ArS.put_m,ArS.put_m,bO (by omega),bO (by omega)]
 exact jb hs hc hp h1 h2
theorem ub (pa:Nat) (s:ArS) (l:Lay) (hl:l.err=0):
  aG Tryz.prog 100 #[.pointer (some ⟨pa,0,none⟩),.agg l.cells] [ae pa s]
   (fun v L=>(s.limit-s.live < aC (32+l.group)∧v=.tuple #[.agg #[.pointer none,.int .i64 0,.int .i64 0,.int .i64 0,.int .i64 0,.int .i64 0,.int .i64 0,.int .i64 0,.int .i64 0,.int .i64 0,.int .i64 0],.int .i64 22]∧L= [ae pa s])∨
    (s.live+aC (32+l.group)≤s.limit∧∃ s',v=.tuple #[.agg #[.pointer (some ⟨pa,0,none⟩),.int .i64 l.key,.int .i64 l.elem,.int .i64 l.ka,.int .i64 l.ea,.int .i64 l.cap,.int .i64 l.eo,.int .i64 l.bo,.int .i64 l.slot,.int .i64 l.group,.int .i64 ((s.at (aC (32+l.group)):Nat):Int)],.int .i64 0]∧L= [ae pa s']∧SmP s' (s.at (aC (32+l.group))) l newS∧CC s s' (aC (32+l.group))∧∀ a:Nat,s.at (aC (32+l.group))+(32+gN l)≤a→(a:Int) < ((s.at (aC (32+l.group)):Nat):Int)+aC (32+l.group)→s'.m a=0)):=by
 have hbd:=Lay.bnd hl
 have hcb:=cF (n:=32+l.group) (by omega)
 have hcb2:=hcb.2.2 (by omega)
 have hcc:aC (32+l.group)∈dx:=fZ (by omega) (by omega)
 refine aq GU Tryz.func100 rfl rfl rfl fun Fr w0=>aR ?_
 refine cI (φ:=s.ok) (fun w hw=>bQ hw .here) fun hok0=>?_
 have hP0:=BG (s:=s) hok0 hl hcb2.1
 have hP1:=hP0.word (S':=newS) (k:=0) (v:=1) (by decide) (by omega) rfl (fun j hj hne=>by
  have:j=1∨j=2∨j=3:=by omega
  rcases this with rfl | rfl | rfl <;> rfl) rfl
 have hst:=hok0.stop_eq
 refine sr<|aP rfl rfl fun b3=>az rfl n9 fun b4=>asg rfl rfl<|lz<|mv rfl rfl<|l_q rfl (qfa 8 rfl bK rfl rfl yS3)<|l_q rfl (qld rfl yA3) ?_
 refine l_q rfl (ba rfl rfl) ?_
 refine lcf rfl rfl rfl (uu pa s (32+l.group) (by omega)) ?_
 rintro v L' (⟨hb,rfl,rfl⟩ | ⟨_,hfit,rfl,rfl⟩)
 refine bF ?_
 ·skip
  refine bF ?_
  refine mv rfl rfl<|l_q rfl (aa rfl ga) ?_
  refine l_q rfl (aa rfl ga) ?_
  refine asg rfl rfl<|asg rfl rfl<|lc<|ah<|sr<|mv rfl rfl<|l_q rfl (qi rfl rfl (aI ·))<|lc<|aA rfl (fun p1=>?_) fun p1=>?_
  ·refine sr ?_
   apply l_q rfl
   ·apply aQ rfl Dj n9
    exact aF.nil
   refine mv rfl rfl<|sta rfl rfl rfl bM rfl rfl ?_
   refine asg rfl rfl<|lc<|rt ?_
   apply aJ (.inl rfl) ([ae pa s])
   ·apply bS rfl
    ·apply Rv.agg rfl
     ·exact tk
     exact aD cd bM rfl
    exact .tmp rfl
   ·exact .inl ⟨by omega,rfl,rfl⟩
   exact en
  omega
 refine bF ?_
 refine mv rfl rfl<|l_q rfl (aa rfl ga) ?_
 refine l_q rfl (aa rfl ga) ?_
 refine asg rfl rfl<|asg rfl rfl<|lc<|ah<|sr<|mv rfl rfl<|l_q rfl (qi rfl rfl (aI ·))<|lc<|aA rfl (fun p1=>?_) fun p1=>?_
 ·exact absurd rfl p1
 refine al<|nz<|mv rfl rfl<|l_q rfl (aK rfl cu aX) ?_
 refine mv rfl rfl ?_
 have hab:=iY hok0 hcc hfit
 obtain⟨C,hC⟩:∃ C,C=aC (32+l.group):=⟨_,rfl⟩
 rw[← hC] at hab hfit hcb2 hP0 hP1 hcc ⊢
 obtain⟨of,hof⟩:∃ of,of=s.at C:=⟨_,rfl⟩
 rw[← hof] at hab hP0 hP1 ⊢
 have hst9:of≤1000000000:=by omega
 have hg1:aN (s.take C) ((of+32:Nat):Int) l.group:=aN.sub (aN.new hok0 (c:=C) (n:=32+l.group) (by omega) hcb2.1) (by omega) (by omega) (by omega)
 refine lc1 rfl rfl rfl (BL pa l _) ?_
 refine az rfl n9 fun b8=>sta rfl rfl rfl bM rfl rfl ?_
 refine lc<|ah<|sr<|l_q rfl (aK rfl cd bM) ?_
 refine lc1 rfl rfl rfl (uE pa of l hst9) ?_
 refine lc1 rfl rfl rfl (uf pa (of+32) (s.take C) l hl hg1) ?_
 refine asg rfl rfl<|lz<|mv rfl rfl<|l_q rfl (qi rfl rfl (aI ·))<|lc<|aA rfl (fun p2=>?_) fun p2=>?_
 ·exact absurd rfl p2
 refine al<|nz<|l_q rfl (aK rfl cd bM) ?_
 refine lcf rfl rfl rfl (kR pa of _ l hP0.gh (by omega) 0 0 1 rfl (by decide)) ?_
 rintro v L' rfl
 refine bF ?_
 refine lz<|l_q rfl (aK rfl cd bM) ?_
 refine sta rfl rfl rfl bM rfl rfl ?_
 refine asg rfl rfl<|lc<|rt ?_
 apply aJ (.inl rfl) ([ae pa (((s.take C).put (of+32) (gN l) (c7 l fun _=>.empty)).put (of+8*0) 8 (bG (IntKind.u64.wrap 1)))])
 ·apply bS rfl
  ·apply Rv.agg rfl
   ·exact tk
   exact aD cd bM rfl
  exact .tmp rfl
 ·exact .inr ⟨by omega,_,rfl,rfl,hP1,zF hok0 hl hcb2.2 hcb2.1 hof,fun a q1 q2=>by rw[ArS.put_m,ArS.put_m,bO (by omega),bO (by omega)];exact take_zero hok0 (by omega) (by omega) (by omega)⟩
 exact en
end Small
end
end Go.Proofs.YthkajgkagnenbaaGreatDoor
