/- One step of larderlaw11's laws over scripts: promotes. -/
import Derived.Test.YthkajgkagnenbaaGreatDoorExact11T
set_option linter.unusedVariables false
set_option linter.unusedSimpArgs false
set_option linter.unusedSectionVars false
set_option maxRecDepth 100000
namespace Go.Proofs.YthkajgkagnenbaaGreatDoor
namespace Exact11
open Go.RowKit Go.Proofs Eng Ty Bits Mem Search Arena CtrlB Ctrl Layout GroupB Group TableB TableI Table Cells Refill Small RefA RefT
open BytesP Oracle Ref04
open Exact (PR cx mq m3 mo ou pn jX)
theorem qm {pr:Nat} {l:Lay} {ps:List SR} {k:Nat} {x:SR} {L M1 M2:List HP} (hx:ps[k]?=some x) (h1:Take (rsH pr l x) L M1) (h2:Take (cf pr l (ps.eraseIdx k)) M1 M2):Ent L (cf pr l ps::M2):=fun w h=>by
 have ha:Sat (stars (rsH pr l x::M1)) w:=h.take h1
 have hb:Sat (stars (cf pr l (ps.eraseIdx k)::rsH pr l x::M2)) w:=ha.take (.there h2)
 have h3:=hb.perm (List.Perm.swap _ _ _)
 have h4:=kW (x:=x) (ps:=ps) (k:=k) (List.getElem?_eq_some_iff.1 hx).1 w h3
 rw[kU hx] at h4
 exact h4
theorem xd {pr:Nat} {l:Lay} {ts:List PR} {x:PR} {L M1 M2:List HP} (h1:Take (rtH pr l x) L M1) (h2:Take (cx pr l ts) M1 M2):Ent L (cx pr l (ts ++ [x])::M2):=fun w h=>by
 have ha:Sat (stars (rtH pr l x::M1)) w:=h.take h1
 have hb:Sat (stars (cx pr l ts::rtH pr l x::M2)) w:=ha.take (.there h2)
 exact mo w (hb.perm (List.Perm.swap _ _ _))
theorem sX {pr:Nat} {l:Lay} {ts:List PR} {i:Nat} {t:PR} (h:ts[i]?=some t):ct (cx pr l ts) ⟨t.p,10,none⟩ (.int .i64 (t.off:Nat)):=fun w hw=>by
 have h':Sat (stars [cx pr l ts]) w:=by
  obtain⟨f,hf,k⟩:=hw
  exact⟨f,hf,f,Part.none,k,rfl,Part.disj_none _,(Part.join_none _).symm⟩
 obtain⟨v,_,h3⟩:=bZ.1 (mq h w h')
 have hb:=h3.block (b:=t.p) (o:=.cells #[.pointer (some ⟨pr,0,none⟩),.int .i64 l.key,.int .i64 l.elem,.int .i64 l.ka,.int .i64 l.ea,.int .i64 l.cap,.int .i64 l.eo,.int .i64 l.bo,.int .i64 l.slot,.int .i64 l.group,.int .i64 (t.off:Nat),.int .i64 (t.go:Nat),.int .i64 t.T.used,.int .i64 t.T.left,.int .i64 t.T.depth,.int .i64 t.T.pins,.int .i64 t.T.next,.bool (decide (t.T.kind=4)),.bool t.dead,v] 45 (0,0)) .here
 simp only[World.cell?,hb]
 rfl
theorem rp {c:Cx} {fin:Exit→Act→World→Prop} {ds:List Deferred} {E:Env} {ks:List KI} {pr:Nat} {l:Lay} {ps:List SR} {k:Nat} {x:SR} {L M1 M2:List HP} {y:Code} (hx:ps[k]?=some x) (h1:Take (rsH pr l x) L M1) (h2:Take (cf pr l (ps.eraseIdx k)) M1 M2) (h:TC c fin ds E (cf pr l ps::M2) y ks):TC c fin ds E L y ks:=fw (qm hx h1 h2) h
theorem mB {c:Cx} {fin:Exit→Act→World→Prop} {ds:List Deferred} {E:Env} {ks:List KI} {pr:Nat} {l:Lay} {ps:List SR} {k:Nat} {x:SR} {L M1 M2:List HP} {y:Exit} (hx:ps[k]?=some x) (h1:Take (rsH pr l x) L M1) (h2:Take (cf pr l (ps.eraseIdx k)) M1 M2) (h:TN c fin ds E (cf pr l ps::M2) y ks):TN c fin ds E L y ks:=lF (qm hx h1 h2) h
theorem wj {c:Cx} {fin:Exit→Act→World→Prop} {ds:List Deferred} {E:Env} {ks:List KI} {pr:Nat} {l:Lay} {ts:List PR} {x:PR} {L M1 M2:List HP} {ops:Array Oper} {y:List Oper} (h1:Take (rtH pr l x) L M1) (h2:Take (cx pr l ts) M1 M2) (h:TL c fin ds E (cx pr l (ts ++ [x])::M2) ops y ks):TL c fin ds E L ops y ks:=wk (xd h1 h2) h
def iJ (ps:List SR) (ts:List PR):Nat:=ps.length+eW ps+ts.length
theorem zu (G:HP) (hGT:dz G) (hGO:lI G) (pa pr po bq bm:Nat) (os:List (ByteArray×Int)) (hg:kE os) (hw:∀ o∈os,0≤o.2∧o.2 < 18446744073709551616) (s:ArS) (hs:s.ok) (l:Lay) (hl:l.err=0) (x:SR) (hO:l9 s l x) (hd:x.dead=false) (sd:Int) (hsd:0≤sd∧sd < 18446744073709551616) (hb:s.live+(64+aC ((2*gN l:Nat):Int))≤s.limit) (o1 g1:Nat) (ho1:s.at 64=o1) (hg1:(s.take 64).at (aC ((2*gN l:Nat):Int))=g1):
  aG Tryz.prog 103 #[.agg #[.pointer (some ⟨pa,0,none⟩),.int .i64 l.key,.int .i64 l.elem,.int .i64 l.ka,.int .i64 l.ea,.int .i64 l.cap,.int .i64 l.eo,.int .i64 l.bo,.int .i64 l.slot,.int .i64 l.group,.int .i64 (x.off:Nat)],.pointer (some ⟨po,0,none⟩),.int .u64 sd] [pt po (.cells #[.map (some bm)] 192 (0,0)),cy (fun k:ByteArray=>Value.string k) bm (bN os),G,ae pa s]
   (fun v L=>∃ s',v=.tuple #[.agg #[.pointer (some ⟨pa,0,none⟩),.int .i64 l.key,.int .i64 l.elem,.int .i64 l.ka,.int .i64 l.ea,.int .i64 l.cap,.int .i64 l.eo,.int .i64 l.bo,.int .i64 l.slot,.int .i64 l.group,.int .i64 ((o1:Nat):Int)],.int .i64 0]∧L= [pt po (.cells #[.map (some bm)] 192 (0,0)),cy (fun k:ByteArray=>Value.string k) bm (bN os),G,ae pa s']∧eO s' o1 g1 l 2 1 (ca (bU (bN os) sd) x.S.cells 8)∧jX 2 (ca (bU (bN os) sd) x.S.cells 8)∧lu s s' (aC ((2*gN l:Nat):Int))∧iy s' g1 (2*gN l) (aC ((2*gN l:Nat):Int)))∧
  aG Tryz.prog 104 #[.pointer (some ⟨x.p,0,none⟩),.pointer (some ⟨bq,0,none⟩),.int .u64 sd] [rsH pr l x,roH bq os,bj pr s] (fun v L=>∃ p,v=.tuple #[.pointer (some ⟨p,0,none⟩),.int .i64 0]∧L= [rtH pr l (⟨p,o1,g1,2,1,ca (bU (bN os) sd) x.S.cells 8,false,false⟩:PR),rsH pr l x,roH bq os,bj pr ((s.take 64).take (aC ((2*gN l:Nat):Int)))]):=by
 subst ho1 hg1
 have hP:=(hO.live hd).1
 refine⟨(nK G hGT hGO pa po bm x.off s l x.S (bN os) (rI hw) sd hsd hP).mono fun v L h=>?_,(jO pr bq os hg hw s hs l hl x (fun _=>hP.okc) sd hsd _ rfl).mono fun v L h=>?_⟩
 ·rcases h with⟨h1,_⟩ | ⟨_,h⟩
  ·omega
  exact h
 rcases h with⟨h1,_⟩ | ⟨_,h1,_⟩ | ⟨_,_,h⟩
 ·rw[hd] at h1;cases h1
 ·omega
 exact h
theorem BT (G:HP) (hGT:dz G) (hGO:lI G) (pa pr po bq bm:Nat) (os:List (ByteArray×Int)) (hg:kE os) (hw:∀ o∈os,0≤o.2∧o.2 < 18446744073709551616) (s:ArS) (hs:s.ok) (l:Lay) (hl:l.err=0) (x:SR) (hO:l9 s l x) (hov:x.over=false) (sd:Int) (hsd:0≤sd∧sd < 18446744073709551616) (hb:x.dead=false→s.limit-s.live < 64+aC ((2*gN l:Nat):Int)):
  ∃ c:Int,c≠0∧aG Tryz.prog 103 #[.agg #[.pointer (some ⟨pa,0,none⟩),.int .i64 l.key,.int .i64 l.elem,.int .i64 l.ka,.int .i64 l.ea,.int .i64 l.cap,.int .i64 l.eo,.int .i64 l.bo,.int .i64 l.slot,.int .i64 l.group,.int .i64 (x.off:Nat)],.pointer (some ⟨po,0,none⟩),.int .u64 sd] [pt po (.cells #[.map (some bm)] 192 (0,0)),cy (fun k:ByteArray=>Value.string k) bm (bN os),G,ae pa s] (fun v L=>v=.tuple #[.agg #[.pointer none,.int .i64 0,.int .i64 0,.int .i64 0,.int .i64 0,.int .i64 0,.int .i64 0,.int .i64 0,.int .i64 0,.int .i64 0,.int .i64 0],.int .i64 c]∧L= [pt po (.cells #[.map (some bm)] 192 (0,0)),cy (fun k:ByteArray=>Value.string k) bm (bN os),G,ae pa s])∧
  aG Tryz.prog 104 #[.pointer (some ⟨x.p,0,none⟩),.pointer (some ⟨bq,0,none⟩),.int .u64 sd] [rsH pr l x,roH bq os,bj pr s] (fun v L=>v=.tuple #[.pointer none,.int .i64 c]∧L= [rsH pr l x,roH bq os,bj pr s]):=by
 cases hd:x.dead with
 | true=>
  obtain⟨hng,hne⟩:=hO.not hs hd hov
  refine⟨24,by decide,?_,(jO pr bq os hg hw s hs l hl x (fun q=>by rw[hd] at q;cases q) sd hsd _ rfl).mono fun v L h=>?_⟩
  ·exact(aG.beside (aG.beside (aG.beside (pP pa x.off s l hng hne hO.place po sd) G) (cy (fun k:ByteArray=>Value.string k) bm (bN os))) (pt po (.cells #[.map (some bm)] 192 (0,0)))).mono fun v L ⟨L0,e,L1,e1,L2,e2,h1,h2⟩=>⟨h1,by rw[e,e1,e2,h2]⟩
  rcases h with⟨_,h1,h2⟩ | ⟨h1,_⟩ | ⟨h1,_⟩
  ·exact⟨h1,h2⟩
  ·rw[hd] at h1;cases h1
  rw[hd] at h1;cases h1
 | false=>
  have hb:=hb hd
  have hP:=(hO.live hd).1
  refine⟨22,by decide,(nK G hGT hGO pa po bm x.off s l x.S (bN os) (rI hw) sd hsd hP).mono fun v L h=>?_,(jO pr bq os hg hw s hs l hl x (fun _=>hP.okc) sd hsd _ rfl).mono fun v L h=>?_⟩
  ·rcases h with⟨_,h1,h2⟩ | ⟨h1,_⟩
   ·exact⟨h1,h2⟩
   omega
  rcases h with⟨h1,_⟩ | ⟨_,_,h1,h2⟩ | ⟨_,h1,_⟩
  ·rw[hd] at h1;cases h1
  ·exact⟨h1,h2⟩
  omega
section
variable (G:HP) (hGT:dz G) (hGO:lI G) (pb pa po pr bq bm:Nat) (os:List (ByteArray×Int)) (hg:kE os) (hw:∀ o∈os,0≤o.2∧o.2 < 18446744073709551616) (l:Lay) (hl:l.err=0)
include hGT hGO hg hw hl
theorem rr (s:ArS) (hs:s.ok) (ps:List SR) (ts:List PR) (vP vT:Value) (hlen:ps.length≤980000000000) (hlt:ts.length≤8000000000000) (hA:fe s l ps ts) (k:Nat) (x:SR) (hx:ps[k]?=some x) (hov:x.over=false) (sd:Int) (hsd:0≤sd∧sd < 18446744073709551616):
  aG Tryz.prog 44 #[.pointer (some ⟨pb,0,none⟩),.agg #[.pointer (some ⟨pa,0,none⟩),.int .i64 l.key,.int .i64 l.elem,.int .i64 l.ka,.int .i64 l.ea,.int .i64 l.cap,.int .i64 l.eo,.int .i64 l.bo,.int .i64 l.slot,.int .i64 l.group,.int .i64 (x.off:Nat),.pointer (some ⟨x.p,0,none⟩),.bool x.over],.int .u64 sd] [pt po (.cells #[.map (some bm)] 192 (0,0)),cy (fun k:ByteArray=>Value.string k) bm (bN os),G,roH bq os,pt pb (.cells #[.pointer (some ⟨pa,0,none⟩),.pointer (some ⟨po,0,none⟩),.pointer (some ⟨pr,0,none⟩),.pointer (some ⟨bq,0,none⟩),.int .i64 l.key,.int .i64 l.elem,.int .i64 l.ka,.int .i64 l.ea,.int .i64 l.cap,.int .i64 l.eo,.int .i64 l.bo,.int .i64 l.slot,.int .i64 l.group,vP,vT] 68 (0,0)),aE 73 13 vP ps.length (rowOf (bJ pa l) ps),cf pr l ps,aE 40 1 vT ts.length (dv ts),cx pr l ts,bj pr s,ae pa s] (fun v L=>∃ s' ps' ts' vP' vT',v=.bool true∧L= [pt po (.cells #[.map (some bm)] 192 (0,0)),cy (fun k:ByteArray=>Value.string k) bm (bN os),G,roH bq os,pt pb (.cells #[.pointer (some ⟨pa,0,none⟩),.pointer (some ⟨po,0,none⟩),.pointer (some ⟨pr,0,none⟩),.pointer (some ⟨bq,0,none⟩),.int .i64 l.key,.int .i64 l.elem,.int .i64 l.ka,.int .i64 l.ea,.int .i64 l.cap,.int .i64 l.eo,.int .i64 l.bo,.int .i64 l.slot,.int .i64 l.group,vP',vT'] 68 (0,0)),aE 73 13 vP' ps'.length (rowOf (bJ pa l) ps'),cf pr l ps',aE 40 1 vT' ts'.length (dv ts'),cx pr l ts',bj pr s',ae pa s']∧fe s' l ps' ts'∧iJ ps' ts'≤iJ ps ts+1):=by
 have hO:=hA.at hx
 have hbd:=Lay.bnd hl
 have hgN:=(eL hl).g
 have hCb:=(cF (n:=((2*gN l:Nat):Int)) (by omega)).2.2 (by omega)
 refine aq HL Tryz.func44 rfl rfl rfl fun Fr w0=>aR ?_
 refine fw (L':=rsH pr l x::cf pr l (ps.eraseIdx k)::pt po (.cells #[.map (some bm)] 192 (0,0))::cy (fun k:ByteArray=>Value.string k) bm (bN os)::G::roH bq os::pt pb (.cells #[.pointer (some ⟨pa,0,none⟩),.pointer (some ⟨po,0,none⟩),.pointer (some ⟨pr,0,none⟩),.pointer (some ⟨bq,0,none⟩),.int .i64 l.key,.int .i64 l.elem,.int .i64 l.ka,.int .i64 l.ea,.int .i64 l.cap,.int .i64 l.eo,.int .i64 l.bo,.int .i64 l.slot,.int .i64 l.group,vP,vT] 68 (0,0))::aE 73 13 vP ps.length (rowOf (bJ pa l) ps)::aE 40 1 vT ts.length (dv ts)::cx pr l ts::bj pr s::ae pa s::Fr) (fun w h=>mr hx w ((show Ent _ (cf pr l ps::_) by(exact en)) w h)) ?_
 by_cases hb:x.dead=false→s.limit-s.live < 64+aC ((2*gN l:Nat):Int)
 ·obtain⟨c,hc,hp,hr⟩:=BT G hGT hGO pa pr po bq bm os hg hw s hs l hl x hO hov sd hsd hb
  refine sr<|aP rfl rfl fun b4=>asg rfl rfl<|lc<|ah<|aS mixed ?_
  apply dq 0 rfl
  ·exact yq (qfa 0 rfl c9 rfl rfl bM)
  apply dq 1 rfl
  ·exact yq (aK rfl cd bM)
  apply dq 2 rfl
  ·exact yq (ai rfl)
  apply dq 3 rfl
  ·exact yq (ad rfl)
  apply dq 4 rfl
  ·exact yq (qfa 1 rfl di rfl rfl Bo)
  apply dq 5 rfl
  ·exact yq (qld rfl yH)
  apply dq 6 rfl
  ·exact yq (ai rfl)
  apply iW 7 11
  ·kernel_rfl
  ·apply fj (q1:=[1,5,6,0,4,3,2]) (q2:=[]) [(13,_),(17,_),(18,_)]
   ·exact gO
   ·exact⟨rfl,rfl,rfl,trivial⟩
   ·kernel_rfl
   intro Ex
   refine lc1 rfl rfl rfl (hp) ?_
   refine aj ?_
   apply n_d
   ·exact trivial
   apply dq 8 rfl
   ·exact yq (ai rfl)
   apply dq 9 rfl
   ·exact yq (aa rfl ga)
   apply dq 10 rfl
   ·exact yq (aa rfl ga)
   refine an [] [10,9,8] 11 [] gO trivial (by kernel_rfl) (by kernel_rfl) fun Ex=>?_
   refine az rfl lL fun b7=>aj ?_
   apply n_d
   ·refine⟨?_,?_,?_,trivial⟩
    ·apply ya rfl rfl;exact yq (aa rfl ga)
    ·apply ya rfl rfl;exact yq (aa rfl ga)
    apply ya rfl rfl;exact yq (ai rfl)
   refine an [9,8] [10] 12 [(7,_),(20,_)] gO ⟨rfl,rfl,trivial⟩ (by kernel_rfl) (by kernel_rfl) fun Ex=>?_
   refine sta rfl rfl rfl er rfl rfl ?_
   refine aj ?_
   apply n_d
   ·refine⟨?_,trivial⟩
    apply ya rfl rfl;exact yq (aa rfl ga)
   refine an [10] [] 13 [(21,_)] gO ⟨rfl,trivial⟩ (by kernel_rfl) (by kernel_rfl) fun Ex=>?_
   refine asg rfl rfl<|aj ?_
   apply n_d
   ·exact trivial
   refine bd (by kernel_rfl) ?_
   refine ak<|ah<|aS mixed ?_
   apply dq 0 rfl
   ·exact yq (qfa 11 rfl c9 rfl rfl eZ)
   apply dq 1 rfl
   ·exact yq (qld rfl ee)
   apply dq 2 rfl
   ·exact yq (ai rfl)
   apply dq 3 rfl
   ·exact yq (ad rfl)
   apply dq 4 rfl
   ·exact yq (qfa 3 rfl di rfl rfl Bn)
   apply dq 5 rfl
   ·exact yq (qld rfl Bq)
   apply dq 6 rfl
   ·exact yq (ai rfl)
   refine an [1,5,6,0,4,3,2] [] 7 [(24,_),(28,_),(29,_)] gO ⟨rfl,rfl,rfl,trivial⟩ (by kernel_rfl) (by kernel_rfl) fun Ex=>?_
   refine lc1 rfl rfl rfl (hr) ?_
   refine aj ?_
   apply n_d
   ·exact trivial
   apply dq 8 rfl
   ·exact yq (ai rfl)
   apply dq 9 rfl
   ·exact yq (aa rfl ga)
   apply dq 10 rfl
   ·exact yq (aa rfl ga)
   refine an [9,8] [10] 11 [(31,_)] gO ⟨rfl,trivial⟩ (by kernel_rfl) (by kernel_rfl) fun Ex=>?_
   refine asg rfl rfl<|aj ?_
   apply n_d
   ·refine⟨?_,trivial⟩
    apply ya rfl rfl;exact yq (aa rfl ga)
   refine an [10] [] 12 [(32,_)] gO ⟨rfl,trivial⟩ (by kernel_rfl) (by kernel_rfl) fun Ex=>?_
   refine asg rfl rfl<|aj ?_
   apply n_d
   ·exact trivial
   refine bd (by kernel_rfl) ?_
   refine ak<|ah<|sr<|mv rfl rfl<|lc1 rfl rfl rfl (bW _) ?_
   refine mv rfl rfl<|l_q rfl (qi rfl rfl (aI ·))<|lc<|aA rfl (fun z1=>?_) fun z1=>?_
   ·exact absurd rfl z1
   refine al<|ak<|ah<|sr<|mv rfl rfl<|l_q rfl (qi rfl rfl (aI ·))<|lc<|aA rfl (fun z2=>?_) fun z2=>?_
   ·skip
    refine sr<|asg rfl rfl<|lc<|rt ?_
    refine mB hx tk tk ?_
    refine fr1 rfl ([pt po (.cells #[.map (some bm)] 192 (0,0)),cy (fun k:ByteArray=>Value.string k) bm (bN os),G,roH bq os,pt pb (.cells #[.pointer (some ⟨pa,0,none⟩),.pointer (some ⟨po,0,none⟩),.pointer (some ⟨pr,0,none⟩),.pointer (some ⟨bq,0,none⟩),.int .i64 l.key,.int .i64 l.elem,.int .i64 l.ka,.int .i64 l.ea,.int .i64 l.cap,.int .i64 l.eo,.int .i64 l.bo,.int .i64 l.slot,.int .i64 l.group,vP,vT] 68 (0,0)),aE 73 13 vP ps.length (rowOf (bJ pa l) ps),cf pr l ps,aE 40 1 vT ts.length (dv ts),cx pr l ts,bj pr s,ae pa s]) (.tmp rfl) ?_
    exact⟨s,ps,ts,vP,vT,rfl,rfl,hA,by omega⟩
   exact absurd hc z2
  apply fj (q1:=[]) (q2:=[6,5,4,3,2,1,0]) []
  ·exact gO
  ·exact trivial
  ·kernel_rfl
  intro Ex
  refine az rfl lL fun b7=>aj ?_
  apply n_d
  ·refine⟨?_,?_,?_,?_,?_,?_,?_,trivial⟩
   ·apply ya rfl rfl;exact yq (ai rfl)
   ·apply ya rfl rfl;exact yq (qld rfl yH)
   ·apply ya rfl rfl;exact yq (qfa 1 rfl di rfl rfl Bo)
   ·apply ya rfl rfl;exact yq (ad rfl)
   ·apply ya rfl rfl;exact yq (ai rfl)
   ·apply ya rfl rfl;exact yq (aK rfl cd bM)
   apply ya rfl rfl;exact yq (qfa 0 rfl c9 rfl rfl bM)
  refine an [1,5,6,0,4,3,2] [] 7 [(13,_),(17,_),(18,_)] gO ⟨rfl,rfl,rfl,trivial⟩ (by kernel_rfl) (by kernel_rfl) fun Ex=>?_
  refine lc1 rfl rfl rfl (hp) ?_
  refine aj ?_
  apply n_d
  ·exact trivial
  apply dq 8 rfl
  ·exact yq (ai rfl)
  apply dq 9 rfl
  ·exact yq (aa rfl ga)
  apply dq 10 rfl
  ·exact yq (aa rfl ga)
  refine an [9,8] [10] 12 [(7,_),(20,_)] gO ⟨rfl,rfl,trivial⟩ (by kernel_rfl) (by kernel_rfl) fun Ex=>?_
  refine sta rfl rfl rfl er rfl rfl ?_
  refine aj ?_
  apply n_d
  ·refine⟨?_,trivial⟩
   apply ya rfl rfl;exact yq (aa rfl ga)
  refine an [10] [] 13 [(21,_)] gO ⟨rfl,trivial⟩ (by kernel_rfl) (by kernel_rfl) fun Ex=>?_
  refine asg rfl rfl<|aj ?_
  apply n_d
  ·exact trivial
  refine bd (by kernel_rfl) ?_
  refine ak<|ah<|aS mixed ?_
  apply dq 0 rfl
  ·exact yq (qfa 11 rfl c9 rfl rfl eZ)
  apply dq 1 rfl
  ·exact yq (qld rfl ee)
  apply dq 2 rfl
  ·exact yq (ai rfl)
  apply dq 3 rfl
  ·exact yq (ad rfl)
  apply dq 4 rfl
  ·exact yq (qfa 3 rfl di rfl rfl Bn)
  apply dq 5 rfl
  ·exact yq (qld rfl Bq)
  apply dq 6 rfl
  ·exact yq (ai rfl)
  refine an [1,5,6,0,4,3,2] [] 7 [(24,_),(28,_),(29,_)] gO ⟨rfl,rfl,rfl,trivial⟩ (by kernel_rfl) (by kernel_rfl) fun Ex=>?_
  refine lc1 rfl rfl rfl (hr) ?_
  refine aj ?_
  apply n_d
  ·exact trivial
  apply dq 8 rfl
  ·exact yq (ai rfl)
  apply dq 9 rfl
  ·exact yq (aa rfl ga)
  apply dq 10 rfl
  ·exact yq (aa rfl ga)
  refine an [9,8] [10] 11 [(31,_)] gO ⟨rfl,trivial⟩ (by kernel_rfl) (by kernel_rfl) fun Ex=>?_
  refine asg rfl rfl<|aj ?_
  apply n_d
  ·refine⟨?_,trivial⟩
   apply ya rfl rfl;exact yq (aa rfl ga)
  refine an [10] [] 12 [(32,_)] gO ⟨rfl,trivial⟩ (by kernel_rfl) (by kernel_rfl) fun Ex=>?_
  refine asg rfl rfl<|aj ?_
  apply n_d
  ·exact trivial
  refine bd (by kernel_rfl) ?_
  refine ak<|ah<|sr<|mv rfl rfl<|lc1 rfl rfl rfl (bW _) ?_
  refine mv rfl rfl<|l_q rfl (qi rfl rfl (aI ·))<|lc<|aA rfl (fun z1=>?_) fun z1=>?_
  ·exact absurd rfl z1
  refine al<|ak<|ah<|sr<|mv rfl rfl<|l_q rfl (qi rfl rfl (aI ·))<|lc<|aA rfl (fun z2=>?_) fun z2=>?_
  ·skip
   refine sr<|asg rfl rfl<|lc<|rt ?_
   refine mB hx tk tk ?_
   refine fr1 rfl ([pt po (.cells #[.map (some bm)] 192 (0,0)),cy (fun k:ByteArray=>Value.string k) bm (bN os),G,roH bq os,pt pb (.cells #[.pointer (some ⟨pa,0,none⟩),.pointer (some ⟨po,0,none⟩),.pointer (some ⟨pr,0,none⟩),.pointer (some ⟨bq,0,none⟩),.int .i64 l.key,.int .i64 l.elem,.int .i64 l.ka,.int .i64 l.ea,.int .i64 l.cap,.int .i64 l.eo,.int .i64 l.bo,.int .i64 l.slot,.int .i64 l.group,vP,vT] 68 (0,0)),aE 73 13 vP ps.length (rowOf (bJ pa l) ps),cf pr l ps,aE 40 1 vT ts.length (dv ts),cx pr l ts,bj pr s,ae pa s]) (.tmp rfl) ?_
   exact⟨s,ps,ts,vP,vT,rfl,rfl,hA,by omega⟩
  exact absurd hc z2
 obtain⟨hd,hb⟩:x.dead=false∧s.live+(64+aC ((2*gN l:Nat):Int))≤s.limit:=by
  cases hd:x.dead with
  | true=>exact absurd (fun q=>by rw[hd] at q;cases q) hb
  | false=>exact⟨rfl,by by_cases q:s.limit-s.live < 64+aC ((2*gN l:Nat):Int);exact absurd (fun _=>q) hb;omega⟩
 obtain⟨o1,ho1⟩:∃ o1,s.at 64=o1:=⟨_,rfl⟩
 obtain⟨g1,hg1⟩:∃ g1,(s.take 64).at (aC ((2*gN l:Nat):Int))=g1:=⟨_,rfl⟩
 obtain⟨hp,hr⟩:=zu G hGT hGO pa pr po bq bm os hg hw s hs l hl x hO hd sd hsd hb o1 g1 ho1 hg1
 refine sr<|aP rfl rfl fun b4=>asg rfl rfl<|lc<|ah<|aS mixed ?_
 apply dq 0 rfl
 ·exact yq (qfa 0 rfl c9 rfl rfl bM)
 apply dq 1 rfl
 ·exact yq (aK rfl cd bM)
 apply dq 2 rfl
 ·exact yq (ai rfl)
 apply dq 3 rfl
 ·exact yq (ad rfl)
 apply dq 4 rfl
 ·exact yq (qfa 1 rfl di rfl rfl Bo)
 apply dq 5 rfl
 ·exact yq (qld rfl yH)
 apply dq 6 rfl
 ·exact yq (ai rfl)
 apply iW 7 11
 ·kernel_rfl
 ·apply fj (q1:=[1,5,6,0,4,3,2]) (q2:=[]) [(13,_),(17,_),(18,_)]
  ·exact gO
  ·exact⟨rfl,rfl,rfl,trivial⟩
  ·kernel_rfl
  intro Ex
  refine lcf rfl rfl rfl (hp) ?_
  rintro v L' ⟨s',rfl,rfl,hT,hTR,hN,hZ⟩
  refine bF ?_
  refine aj ?_
  apply n_d
  ·exact trivial
  apply dq 8 rfl
  ·exact yq (ai rfl)
  apply dq 9 rfl
  ·exact yq (aa rfl ga)
  apply dq 10 rfl
  ·exact yq (aa rfl ga)
  refine an [] [10,9,8] 11 [] gO trivial (by kernel_rfl) (by kernel_rfl) fun Ex=>?_
  refine az rfl lL fun b7=>aj ?_
  apply n_d
  ·refine⟨?_,?_,?_,trivial⟩
   ·apply ya rfl rfl;exact yq (aa rfl ga)
   ·apply ya rfl rfl;exact yq (aa rfl ga)
   apply ya rfl rfl;exact yq (ai rfl)
  refine an [9,8] [10] 12 [(7,_),(20,_)] gO ⟨rfl,rfl,trivial⟩ (by kernel_rfl) (by kernel_rfl) fun Ex=>?_
  refine sta rfl rfl rfl er rfl rfl ?_
  refine aj ?_
  apply n_d
  ·refine⟨?_,trivial⟩
   apply ya rfl rfl;exact yq (aa rfl ga)
  refine an [10] [] 13 [(21,_)] gO ⟨rfl,trivial⟩ (by kernel_rfl) (by kernel_rfl) fun Ex=>?_
  refine asg rfl rfl<|aj ?_
  apply n_d
  ·exact trivial
  refine bd (by kernel_rfl) ?_
  refine ak<|ah<|aS mixed ?_
  apply dq 0 rfl
  ·exact yq (qfa 11 rfl c9 rfl rfl eZ)
  apply dq 1 rfl
  ·exact yq (qld rfl ee)
  apply dq 2 rfl
  ·exact yq (ai rfl)
  apply dq 3 rfl
  ·exact yq (ad rfl)
  apply dq 4 rfl
  ·exact yq (qfa 3 rfl di rfl rfl Bn)
  apply dq 5 rfl
  ·exact yq (qld rfl Bq)
  apply dq 6 rfl
  ·exact yq (ai rfl)
  refine an [1,5,6,0,4,3,2] [] 7 [(24,_),(28,_),(29,_)] gO ⟨rfl,rfl,rfl,trivial⟩ (by kernel_rfl) (by kernel_rfl) fun Ex=>?_
  refine lcf rfl rfl rfl (hr) ?_
  rintro v L' ⟨p,rfl,rfl⟩
  refine bF ?_
  refine aj ?_
  apply n_d
  ·exact trivial
  apply dq 8 rfl
  ·exact yq (ai rfl)
  apply dq 9 rfl
  ·exact yq (aa rfl ga)
  apply dq 10 rfl
  ·exact yq (aa rfl ga)
  refine an [9,8] [10] 11 [(31,_)] gO ⟨rfl,trivial⟩ (by kernel_rfl) (by kernel_rfl) fun Ex=>?_
  refine asg rfl rfl<|aj ?_
  apply n_d
  ·refine⟨?_,trivial⟩
   apply ya rfl rfl;exact yq (aa rfl ga)
  refine an [10] [] 12 [(32,_)] gO ⟨rfl,trivial⟩ (by kernel_rfl) (by kernel_rfl) fun Ex=>?_
  refine asg rfl rfl<|aj ?_
  apply n_d
  ·exact trivial
  refine bd (by kernel_rfl) ?_
  refine ak<|ah<|sr<|mv rfl rfl<|lc1 rfl rfl rfl (bW _) ?_
  refine mv rfl rfl<|l_q rfl (qi rfl rfl (aI ·))<|lc<|aA rfl (fun z1=>?_) fun z1=>?_
  ·exact absurd rfl z1
  refine al<|ak<|ah<|sr<|mv rfl rfl<|l_q rfl (qi rfl rfl (aI ·))<|lc<|aA rfl (fun z2=>?_) fun z2=>?_
  ·exact absurd rfl z2
  refine cI (φ:=s'.ok) (fun w hw=>bQ (pa:=pa) hw tk) fun hs'=>?_
  refine rp hx tk tk ?_
  have hat:=iY hs c64 (by omega)
  have hx1:Exact.One s' l (⟨p,o1,g1,2,1,ca (bU (bN os) sd) x.S.cells 8,false,false⟩:PR):=⟨(show 1≤13 by decide),(show 2=2 ^ 1 by decide),hTR,fun _=>⟨hT,(hN.bl _).2 (.inr (.inl (by rw[ho1]))),(hN.bl _).2 (.inr (.inr (by rw[hg1]))),(show((2*gN l:Nat):Int)≤1048576 by omega)⟩,fun q=>(by cases q),(show o1≤1000000000 by omega),fun _=>hZ⟩
  have hA':=hA.pushT hs hCb.2 (by omega) hN hx1 rfl ho1.symm hg1.symm
  have ok64:=ArS.take_ok hs c64 (by omega)
  have hra:bj pr s'=bj pr ((s.take 64).take (aC ((2*gN l:Nat):Int))):=jg (hN.limit.trans ((cW ok64).trans (cW hs)).symm) hN.all hN.dead
  rw[← hra]
  have hl1:(ts ++ [(⟨p,o1,g1,2,1,ca (bU (bN os) sd) x.S.cells 8,false,false⟩:PR)]).length=ts.length+1:=by simp
  have hrow:dv ts ++ #[Value.pointer (some ⟨p,0,none⟩)].toList=dv (ts ++ [(⟨p,o1,g1,2,1,ca (bU (bN os) sd) x.S.cells 8,false,false⟩:PR)]):=by rw[sL]
  have hTb:=fun v:Value=>lQ pb pa po pr bq l hl s' hs' (ts ++ [(⟨p,o1,g1,2,1,ca (bU (bN os) sd) x.S.cells 8,false,false⟩:PR)]) vP v (by omega) hA'.tab
  simp only[hl1] at hTb
  have hcp:ct (cx pr l (ts ++ [(⟨p,o1,g1,2,1,ca (bU (bN os) sd) x.S.cells 8,false,false⟩:PR)])) ⟨p,10,none⟩ (.int .i64 (o1:Nat)):=sX (i:=ts.length) (t:=(⟨p,o1,g1,2,1,ca (bU (bN os) sd) x.S.cells 8,false,false⟩:PR)) (by simp)
  refine al<|nz<|mv rfl rfl<|lcf rfl rfl rfl (j6 pb pa po pr bq l ps vP vT (by omega)) ?_
  rintro v L' rfl
  refine bF ?_
  refine wj (x:=(⟨p,o1,g1,2,1,ca (bU (bN os) sd) x.S.cells 8,false,false⟩:PR)) tk tk ?_
  refine lz<|mv rfl rfl<|mv rfl rfl<|l_q rfl (ad rfl)<|l_q rfl (qfa 14 rfl di rfl rfl uw)<|l_q rfl (qld rfl Dk) ?_
  refine mv rfl rfl ?_
  refine aW [_] rfl rfl Bj Di Ec rfl rfl rfl rfl (fun b47=>?_)
  apply dV (sz:=1) rfl rfl rfl Tryz.underlying66 EB rfl rfl
  ·exact tk
  ·exact tk
  ·rfl
  ·rfl
  ·simp only[maxLen];omega
  ·omega
  intro v48
  refine db (v:=v48) tk fun _ hs48=>?_
  obtain⟨a48,cap48,rfl,_,_,_⟩:=hs48
  refine l_q rfl (ad rfl)<|l_q rfl (qfa 14 rfl di rfl rfl uw)<|st rfl rfl rfl uw rfl ?_
  refine lc<|ah<|aS mixed ?_
  apply dq 0 rfl
  ·exact yq (aK rfl gm er)
  apply dq 2 rfl
  ·exact yq (ai rfl)
  apply dq 3 rfl
  ·exact yq (ad rfl)
  apply dq 4 rfl
  ·exact yq (qfa 10 rfl ep rfl rfl yS3)
  apply dq 5 rfl
  ·apply yq
   apply bI (A:=cx pr l (ts ++ [(⟨p,o1,g1,2,1,ca (bU (bN os) sd) x.S.cells 8,false,false⟩:PR)])) rfl yA3
   ·exact tk
   exact hcp
  refine an [0] [5,4,3,2] 1 [(51,_)] gO ⟨rfl,trivial⟩ (by kernel_rfl) (by kernel_rfl) fun Ex=>?_
  rw[hrow]
  refine lc1 rfl rfl rfl (pn pa l (o1:Nat)) ?_
  refine aj ?_
  apply n_d
  ·refine⟨?_,?_,?_,?_,trivial⟩
   ·apply ya rfl rfl
    apply yq
    apply bI (A:=cx pr l (ts ++ [(⟨p,o1,g1,2,1,ca (bU (bN os) sd) x.S.cells 8,false,false⟩:PR)])) rfl yA3
    ·exact tk
    exact hcp
   ·apply ya rfl rfl;exact yq (qfa 10 rfl ep rfl rfl yS3)
   ·apply ya rfl rfl;exact yq (ad rfl)
   apply ya rfl rfl;exact yq (ai rfl)
  apply dq 6 rfl
  ·exact yq (qi rfl rfl (aZ ·))
  apply dq 7 rfl
  ·exact yq (ai rfl)
  refine jW (t:=58) rfl (fun z3=>?_) fun z3=>?_
  ·apply dq 8 rfl
   ·exact bE rfl rfl (ai rfl)
   refine an [8,7,6,5,4,3,2] [] 9 [(59,_),(58,_)] gO ⟨rfl,rfl,trivial⟩ (by kernel_rfl) (by kernel_rfl) fun Ex=>?_
   refine au rfl rfl<|lc1 rfl rfl rfl (hTb (.slice a48 (ts.length+1) cap48)) ?_
   refine aj ?_
   apply n_d
   ·exact trivial
   apply dq 10 rfl
   ·exact yq (aL rfl rfl)
   refine an [10] [] 11 [(61,_)] gO ⟨rfl,trivial⟩ (by kernel_rfl) (by kernel_rfl) fun Ex=>?_
   refine asg rfl rfl<|aj ?_
   apply n_d
   ·exact trivial
   refine bd (by kernel_rfl) ?_
   refine ak<|rt ?_
   rw[← kj pr l ps]
   refine fr1 rfl ([pt po (.cells #[.map (some bm)] 192 (0,0)),cy (fun k:ByteArray=>Value.string k) bm (bN os),G,roH bq os,pt pb (.cells #[.pointer (some ⟨pa,0,none⟩),.pointer (some ⟨po,0,none⟩),.pointer (some ⟨pr,0,none⟩),.pointer (some ⟨bq,0,none⟩),.int .i64 l.key,.int .i64 l.elem,.int .i64 l.ka,.int .i64 l.ea,.int .i64 l.cap,.int .i64 l.eo,.int .i64 l.bo,.int .i64 l.slot,.int .i64 l.group,vP,(.slice a48 (ts.length+1) cap48)] 68 (0,0)),aE 73 13 vP ps.length (rowOf (bJ pa l) (ps.map cj)),cf pr l (ps.map cj),aE 40 1 (.slice a48 (ts.length+1) cap48) (ts.length+1) (dv (ts ++ [(⟨p,o1,g1,2,1,ca (bU (bN os) sd) x.S.cells 8,false,false⟩:PR)])),cx pr l (ts ++ [(⟨p,o1,g1,2,1,ca (bU (bN os) sd) x.S.cells 8,false,false⟩:PR)]),bj pr s',ae pa s']) (.tmp rfl) ?_
   exact⟨s',ps.map cj,ts ++ [(⟨p,o1,g1,2,1,ca (bU (bN os) sd) x.S.cells 8,false,false⟩:PR)],vP,(.slice a48 (ts.length+1) cap48),rfl,by rw[hl1,List.length_map],hA',by unfold iJ;rw[iv,List.length_map,hl1];omega⟩
  exact absurd rfl z3
 apply fj (q1:=[]) (q2:=[6,5,4,3,2,1,0]) []
 ·exact gO
 ·exact trivial
 ·kernel_rfl
 intro Ex
 refine az rfl lL fun b7=>aj ?_
 apply n_d
 ·refine⟨?_,?_,?_,?_,?_,?_,?_,trivial⟩
  ·apply ya rfl rfl;exact yq (ai rfl)
  ·apply ya rfl rfl;exact yq (qld rfl yH)
  ·apply ya rfl rfl;exact yq (qfa 1 rfl di rfl rfl Bo)
  ·apply ya rfl rfl;exact yq (ad rfl)
  ·apply ya rfl rfl;exact yq (ai rfl)
  ·apply ya rfl rfl;exact yq (aK rfl cd bM)
  apply ya rfl rfl;exact yq (qfa 0 rfl c9 rfl rfl bM)
 refine an [1,5,6,0,4,3,2] [] 7 [(13,_),(17,_),(18,_)] gO ⟨rfl,rfl,rfl,trivial⟩ (by kernel_rfl) (by kernel_rfl) fun Ex=>?_
 refine lcf rfl rfl rfl (hp) ?_
 rintro v L' ⟨s',rfl,rfl,hT,hTR,hN,hZ⟩
 refine bF ?_
 refine aj ?_
 apply n_d
 ·exact trivial
 apply dq 8 rfl
 ·exact yq (ai rfl)
 apply dq 9 rfl
 ·exact yq (aa rfl ga)
 apply dq 10 rfl
 ·exact yq (aa rfl ga)
 refine an [9,8] [10] 12 [(7,_),(20,_)] gO ⟨rfl,rfl,trivial⟩ (by kernel_rfl) (by kernel_rfl) fun Ex=>?_
 refine sta rfl rfl rfl er rfl rfl ?_
 refine aj ?_
 apply n_d
 ·refine⟨?_,trivial⟩
  apply ya rfl rfl;exact yq (aa rfl ga)
 refine an [10] [] 13 [(21,_)] gO ⟨rfl,trivial⟩ (by kernel_rfl) (by kernel_rfl) fun Ex=>?_
 refine asg rfl rfl<|aj ?_
 apply n_d
 ·exact trivial
 refine bd (by kernel_rfl) ?_
 refine ak<|ah<|aS mixed ?_
 apply dq 0 rfl
 ·exact yq (qfa 11 rfl c9 rfl rfl eZ)
 apply dq 1 rfl
 ·exact yq (qld rfl ee)
 apply dq 2 rfl
 ·exact yq (ai rfl)
 apply dq 3 rfl
 ·exact yq (ad rfl)
 apply dq 4 rfl
 ·exact yq (qfa 3 rfl di rfl rfl Bn)
 apply dq 5 rfl
 ·exact yq (qld rfl Bq)
 apply dq 6 rfl
 ·exact yq (ai rfl)
 refine an [1,5,6,0,4,3,2] [] 7 [(24,_),(28,_),(29,_)] gO ⟨rfl,rfl,rfl,trivial⟩ (by kernel_rfl) (by kernel_rfl) fun Ex=>?_
 refine lcf rfl rfl rfl (hr) ?_
 rintro v L' ⟨p,rfl,rfl⟩
 refine bF ?_
 refine aj ?_
 apply n_d
 ·exact trivial
 apply dq 8 rfl
 ·exact yq (ai rfl)
 apply dq 9 rfl
 ·exact yq (aa rfl ga)
 apply dq 10 rfl
 ·exact yq (aa rfl ga)
 refine an [9,8] [10] 11 [(31,_)] gO ⟨rfl,trivial⟩ (by kernel_rfl) (by kernel_rfl) fun Ex=>?_
 refine asg rfl rfl<|aj ?_
 apply n_d
 ·refine⟨?_,trivial⟩
  apply ya rfl rfl;exact yq (aa rfl ga)
 refine an [10] [] 12 [(32,_)] gO ⟨rfl,trivial⟩ (by kernel_rfl) (by kernel_rfl) fun Ex=>?_
 refine asg rfl rfl<|aj ?_
 apply n_d
 ·exact trivial
 refine bd (by kernel_rfl) ?_
 refine ak<|ah<|sr<|mv rfl rfl<|lc1 rfl rfl rfl (bW _) ?_
 refine mv rfl rfl<|l_q rfl (qi rfl rfl (aI ·))<|lc<|aA rfl (fun z1=>?_) fun z1=>?_
 ·exact absurd rfl z1
 refine al<|ak<|ah<|sr<|mv rfl rfl<|l_q rfl (qi rfl rfl (aI ·))<|lc<|aA rfl (fun z2=>?_) fun z2=>?_
 ·exact absurd rfl z2
 refine cI (φ:=s'.ok) (fun w hw=>bQ (pa:=pa) hw tk) fun hs'=>?_
 refine rp hx tk tk ?_
 have hat:=iY hs c64 (by omega)
 have hx1:Exact.One s' l (⟨p,o1,g1,2,1,ca (bU (bN os) sd) x.S.cells 8,false,false⟩:PR):=⟨(show 1≤13 by decide),(show 2=2 ^ 1 by decide),hTR,fun _=>⟨hT,(hN.bl _).2 (.inr (.inl (by rw[ho1]))),(hN.bl _).2 (.inr (.inr (by rw[hg1]))),(show((2*gN l:Nat):Int)≤1048576 by omega)⟩,fun q=>(by cases q),(show o1≤1000000000 by omega),fun _=>hZ⟩
 have hA':=hA.pushT hs hCb.2 (by omega) hN hx1 rfl ho1.symm hg1.symm
 have ok64:=ArS.take_ok hs c64 (by omega)
 have hra:bj pr s'=bj pr ((s.take 64).take (aC ((2*gN l:Nat):Int))):=jg (hN.limit.trans ((cW ok64).trans (cW hs)).symm) hN.all hN.dead
 rw[← hra]
 have hl1:(ts ++ [(⟨p,o1,g1,2,1,ca (bU (bN os) sd) x.S.cells 8,false,false⟩:PR)]).length=ts.length+1:=by simp
 have hrow:dv ts ++ #[Value.pointer (some ⟨p,0,none⟩)].toList=dv (ts ++ [(⟨p,o1,g1,2,1,ca (bU (bN os) sd) x.S.cells 8,false,false⟩:PR)]):=by rw[sL]
 have hTb:=fun v:Value=>lQ pb pa po pr bq l hl s' hs' (ts ++ [(⟨p,o1,g1,2,1,ca (bU (bN os) sd) x.S.cells 8,false,false⟩:PR)]) vP v (by omega) hA'.tab
 simp only[hl1] at hTb
 have hcp:ct (cx pr l (ts ++ [(⟨p,o1,g1,2,1,ca (bU (bN os) sd) x.S.cells 8,false,false⟩:PR)])) ⟨p,10,none⟩ (.int .i64 (o1:Nat)):=sX (i:=ts.length) (t:=(⟨p,o1,g1,2,1,ca (bU (bN os) sd) x.S.cells 8,false,false⟩:PR)) (by simp)
 refine al<|nz<|mv rfl rfl<|lcf rfl rfl rfl (j6 pb pa po pr bq l ps vP vT (by omega)) ?_
 rintro v L' rfl
 refine bF ?_
 refine wj (x:=(⟨p,o1,g1,2,1,ca (bU (bN os) sd) x.S.cells 8,false,false⟩:PR)) tk tk ?_
 refine lz<|mv rfl rfl<|mv rfl rfl<|l_q rfl (ad rfl)<|l_q rfl (qfa 14 rfl di rfl rfl uw)<|l_q rfl (qld rfl Dk) ?_
 refine mv rfl rfl ?_
 refine aW [_] rfl rfl Bj Di Ec rfl rfl rfl rfl (fun b47=>?_)
 apply dV (sz:=1) rfl rfl rfl Tryz.underlying66 EB rfl rfl
 ·exact tk
 ·exact tk
 ·rfl
 ·rfl
 ·simp only[maxLen];omega
 ·omega
 intro v48
 refine db (v:=v48) tk fun _ hs48=>?_
 obtain⟨a48,cap48,rfl,_,_,_⟩:=hs48
 refine l_q rfl (ad rfl)<|l_q rfl (qfa 14 rfl di rfl rfl uw)<|st rfl rfl rfl uw rfl ?_
 refine lc<|ah<|aS mixed ?_
 apply dq 0 rfl
 ·exact yq (aK rfl gm er)
 apply dq 2 rfl
 ·exact yq (ai rfl)
 apply dq 3 rfl
 ·exact yq (ad rfl)
 apply dq 4 rfl
 ·exact yq (qfa 10 rfl ep rfl rfl yS3)
 apply dq 5 rfl
 ·apply yq
  apply bI (A:=cx pr l (ts ++ [(⟨p,o1,g1,2,1,ca (bU (bN os) sd) x.S.cells 8,false,false⟩:PR)])) rfl yA3
  ·exact tk
  exact hcp
 refine an [0] [5,4,3,2] 1 [(51,_)] gO ⟨rfl,trivial⟩ (by kernel_rfl) (by kernel_rfl) fun Ex=>?_
 rw[hrow]
 refine lc1 rfl rfl rfl (pn pa l (o1:Nat)) ?_
 refine aj ?_
 apply n_d
 ·refine⟨?_,?_,?_,?_,trivial⟩
  ·apply ya rfl rfl
   apply yq
   apply bI (A:=cx pr l (ts ++ [(⟨p,o1,g1,2,1,ca (bU (bN os) sd) x.S.cells 8,false,false⟩:PR)])) rfl yA3
   ·exact tk
   exact hcp
  ·apply ya rfl rfl;exact yq (qfa 10 rfl ep rfl rfl yS3)
  ·apply ya rfl rfl;exact yq (ad rfl)
  apply ya rfl rfl;exact yq (ai rfl)
 apply dq 6 rfl
 ·exact yq (qi rfl rfl (aZ ·))
 apply dq 7 rfl
 ·exact yq (ai rfl)
 refine jW (t:=58) rfl (fun z3=>?_) fun z3=>?_
 ·apply dq 8 rfl
  ·exact bE rfl rfl (ai rfl)
  refine an [8,7,6,5,4,3,2] [] 9 [(59,_),(58,_)] gO ⟨rfl,rfl,trivial⟩ (by kernel_rfl) (by kernel_rfl) fun Ex=>?_
  refine au rfl rfl<|lc1 rfl rfl rfl (hTb (.slice a48 (ts.length+1) cap48)) ?_
  refine aj ?_
  apply n_d
  ·exact trivial
  apply dq 10 rfl
  ·exact yq (aL rfl rfl)
  refine an [10] [] 11 [(61,_)] gO ⟨rfl,trivial⟩ (by kernel_rfl) (by kernel_rfl) fun Ex=>?_
  refine asg rfl rfl<|aj ?_
  apply n_d
  ·exact trivial
  refine bd (by kernel_rfl) ?_
  refine ak<|rt ?_
  rw[← kj pr l ps]
  refine fr1 rfl ([pt po (.cells #[.map (some bm)] 192 (0,0)),cy (fun k:ByteArray=>Value.string k) bm (bN os),G,roH bq os,pt pb (.cells #[.pointer (some ⟨pa,0,none⟩),.pointer (some ⟨po,0,none⟩),.pointer (some ⟨pr,0,none⟩),.pointer (some ⟨bq,0,none⟩),.int .i64 l.key,.int .i64 l.elem,.int .i64 l.ka,.int .i64 l.ea,.int .i64 l.cap,.int .i64 l.eo,.int .i64 l.bo,.int .i64 l.slot,.int .i64 l.group,vP,(.slice a48 (ts.length+1) cap48)] 68 (0,0)),aE 73 13 vP ps.length (rowOf (bJ pa l) (ps.map cj)),cf pr l (ps.map cj),aE 40 1 (.slice a48 (ts.length+1) cap48) (ts.length+1) (dv (ts ++ [(⟨p,o1,g1,2,1,ca (bU (bN os) sd) x.S.cells 8,false,false⟩:PR)])),cx pr l (ts ++ [(⟨p,o1,g1,2,1,ca (bU (bN os) sd) x.S.cells 8,false,false⟩:PR)]),bj pr s',ae pa s']) (.tmp rfl) ?_
  exact⟨s',ps.map cj,ts ++ [(⟨p,o1,g1,2,1,ca (bU (bN os) sd) x.S.cells 8,false,false⟩:PR)],vP,(.slice a48 (ts.length+1) cap48),rfl,by rw[hl1,List.length_map],hA',by unfold iJ;rw[iv,List.length_map,hl1];omega⟩
 exact absurd rfl z3
end
end Exact11
end Go.Proofs.YthkajgkagnenbaaGreatDoor
