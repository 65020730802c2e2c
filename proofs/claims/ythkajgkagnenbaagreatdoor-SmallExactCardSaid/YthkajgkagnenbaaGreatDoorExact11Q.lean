/- One step of larderlaw11's laws over scripts: promotes. -/
import Derived.Test.YthkajgkagnenbaaGreatDoorExact11T
set_option linter.unusedVariables false
set_option linter.unusedSimpArgs false
set_option linter.unusedSectionVars false
set_option maxRecDepth 100000
namespace Go.Proofs.YthkajgkagnenbaaGreatDoor
namespace Exact11
open Go.RowKit Go.Proofs Eng Ty Bits Mem Search Arena CtrlB Ctrl Layout GroupB Group TableB TableI Table Cells Refill Small RefA RefT
open BytesP Oracle Ref04
open Exact (PR cA mg mU mf oj pf jV)
theorem qj {pr:Nat} {l:Lay} {ps:List SR} {k:Nat} {x:SR} {L M1 M2:List HP} (hx:ps[k]?=some x) (h1:Take (rsH pr l x) L M1) (h2:Take (ck pr l (ps.eraseIdx k)) M1 M2):Ent L (ck pr l ps::M2):=fun w h=>by
 have ha:Sat (stars (rsH pr l x::M1)) w:=h.take h1
 have hb:Sat (stars (ck pr l (ps.eraseIdx k)::rsH pr l x::M2)) w:=ha.take (.there h2)
 have h3:=hb.perm (List.Perm.swap _ _ _)
 have h4:=kS (x:=x) (ps:=ps) (k:=k) (List.getElem?_eq_some_iff.1 hx).1 w h3
 rw[kQ hx] at h4
 exact h4
theorem wZ {pr:Nat} {l:Lay} {ts:List PR} {x:PR} {L M1 M2:List HP} (h1:Take (rtH pr l x) L M1) (h2:Take (cA pr l ts) M1 M2):Ent L (cA pr l (ts ++ [x])::M2):=fun w h=>by
 have ha:Sat (stars (rtH pr l x::M1)) w:=h.take h1
 have hb:Sat (stars (cA pr l ts::rtH pr l x::M2)) w:=ha.take (.there h2)
 exact mf w (hb.perm (List.Perm.swap _ _ _))
theorem sQ {pr:Nat} {l:Lay} {ts:List PR} {i:Nat} {t:PR} (h:ts[i]?=some t):cr (cA pr l ts) ⟨t.p,10,none⟩ (.int .i64 (t.off:Nat)):=fun w hw=>by
 have h':Sat (stars [cA pr l ts]) w:=by
  obtain⟨f,hf,k⟩:=hw
  exact⟨f,hf,f,Part.none,k,rfl,Part.disj_none _,(Part.join_none _).symm⟩
 obtain⟨v,_,h3⟩:=bX.1 (mg h w h')
 have hb:=h3.block (b:=t.p) (o:=.cells #[.pointer (some ⟨pr,0,none⟩),.int .i64 l.key,.int .i64 l.elem,.int .i64 l.ka,.int .i64 l.ea,.int .i64 l.cap,.int .i64 l.eo,.int .i64 l.bo,.int .i64 l.slot,.int .i64 l.group,.int .i64 (t.off:Nat),.int .i64 (t.go:Nat),.int .i64 t.T.used,.int .i64 t.T.left,.int .i64 t.T.depth,.int .i64 t.T.pins,.int .i64 t.T.next,.bool (decide (t.T.kind=4)),.bool t.dead,v] 45 (0,0)) .here
 simp only[World.cell?,hb]
 rfl
theorem ri {c:Cx} {fin:Exit→Act→World→Prop} {ds:List Deferred} {E:Env} {ks:List KI} {pr:Nat} {l:Lay} {ps:List SR} {k:Nat} {x:SR} {L M1 M2:List HP} {y:Code} (hx:ps[k]?=some x) (h1:Take (rsH pr l x) L M1) (h2:Take (ck pr l (ps.eraseIdx k)) M1 M2) (h:TC c fin ds E (ck pr l ps::M2) y ks):TC c fin ds E L y ks:=fG (qj hx h1 h2) h
theorem rA {c:Cx} {fin:Exit→Act→World→Prop} {ds:List Deferred} {E:Env} {ks:List KI} {pr:Nat} {l:Lay} {ps:List SR} {k:Nat} {x:SR} {L M1 M2:List HP} {y:Exit} (hx:ps[k]?=some x) (h1:Take (rsH pr l x) L M1) (h2:Take (ck pr l (ps.eraseIdx k)) M1 M2) (h:TN c fin ds E (ck pr l ps::M2) y ks):TN c fin ds E L y ks:=ly (qj hx h1 h2) h
theorem wb {c:Cx} {fin:Exit→Act→World→Prop} {ds:List Deferred} {E:Env} {ks:List KI} {pr:Nat} {l:Lay} {ts:List PR} {x:PR} {L M1 M2:List HP} {ops:Array Oper} {y:List Oper} (h1:Take (rtH pr l x) L M1) (h2:Take (cA pr l ts) M1 M2) (h:TL c fin ds E (cA pr l (ts ++ [x])::M2) ops y ks):TL c fin ds E L ops y ks:=zM (wZ h1 h2) h
def jg (ps:List SR) (ts:List PR):Nat:=ps.length+fx ps+ts.length
theorem zk (G:HP) (hGT:dx G) (hGO:lC G) (pa pr po bq bm:Nat) (os:List (ByteArray×Int)) (hg:kB os) (hw:∀ o∈os,0≤o.2∧o.2 < 18446744073709551616) (s:ArS) (hs:s.ok) (l:Lay) (hl:l.err=0) (x:SR) (hO:mK s l x) (hd:x.dead=false) (sd:Int) (hsd:0≤sd∧sd < 18446744073709551616) (hb:s.live+(64+aC ((2*gN l:Nat):Int))≤s.limit) (o1 g1:Nat) (ho1:s.at 64=o1) (hg1:(s.take 64).at (aC ((2*gN l:Nat):Int))=g1):
  aG Tryz.prog 103 #[.agg #[.pointer (some ⟨pa,0,none⟩),.int .i64 l.key,.int .i64 l.elem,.int .i64 l.ka,.int .i64 l.ea,.int .i64 l.cap,.int .i64 l.eo,.int .i64 l.bo,.int .i64 l.slot,.int .i64 l.group,.int .i64 (x.off:Nat)],.pointer (some ⟨po,0,none⟩),.int .u64 sd] [pt po (.cells #[.map (some bm)] 192 (0,0)),cB (fun k:ByteArray=>Value.string k) bm (bO os),G,ae pa s]
   (fun v L=>∃ s',v=.tuple #[.agg #[.pointer (some ⟨pa,0,none⟩),.int .i64 l.key,.int .i64 l.elem,.int .i64 l.ka,.int .i64 l.ea,.int .i64 l.cap,.int .i64 l.eo,.int .i64 l.bo,.int .i64 l.slot,.int .i64 l.group,.int .i64 ((o1:Nat):Int)],.int .i64 0]∧L= [pt po (.cells #[.map (some bm)] 192 (0,0)),cB (fun k:ByteArray=>Value.string k) bm (bO os),G,ae pa s']∧eK s' o1 g1 l 2 1 (bY (bV (bO os) sd) x.S.cells 8)∧jV 2 (bY (bV (bO os) sd) x.S.cells 8)∧lf s s' (aC ((2*gN l:Nat):Int))∧iP s' g1 (2*gN l) (aC ((2*gN l:Nat):Int)))∧
  aG Tryz.prog 104 #[.pointer (some ⟨x.p,0,none⟩),.pointer (some ⟨bq,0,none⟩),.int .u64 sd] [rsH pr l x,roH bq os,bd pr s] (fun v L=>∃ p,v=.tuple #[.pointer (some ⟨p,0,none⟩),.int .i64 0]∧L= [rtH pr l (⟨p,o1,g1,2,1,bY (bV (bO os) sd) x.S.cells 8,false,false⟩:PR),rsH pr l x,roH bq os,bd pr ((s.take 64).take (aC ((2*gN l:Nat):Int)))]):=by
 subst ho1 hg1
 have hP:=(hO.live hd).1
 refine⟨(nD G hGT hGO pa po bm x.off s l x.S (bO os) (rD hw) sd hsd hP).mono fun v L h=>?_,(jN pr bq os hg hw s hs l hl x (fun _=>hP.okc) sd hsd _ rfl).mono fun v L h=>?_⟩
 ·rcases h with⟨h1,_⟩ | ⟨_,h⟩
  ·omega
  exact h
 rcases h with⟨h1,_⟩ | ⟨_,h1,_⟩ | ⟨_,_,h⟩
 ·rw[hd] at h1;cases h1
 ·omega
 exact h
theorem BH (G:HP) (hGT:dx G) (hGO:lC G) (pa pr po bq bm:Nat) (os:List (ByteArray×Int)) (hg:kB os) (hw:∀ o∈os,0≤o.2∧o.2 < 18446744073709551616) (s:ArS) (hs:s.ok) (l:Lay) (hl:l.err=0) (x:SR) (hO:mK s l x) (hov:x.over=false) (sd:Int) (hsd:0≤sd∧sd < 18446744073709551616) (hb:x.dead=false→s.limit-s.live < 64+aC ((2*gN l:Nat):Int)):
  ∃ c:Int,c≠0∧aG Tryz.prog 103 #[.agg #[.pointer (some ⟨pa,0,none⟩),.int .i64 l.key,.int .i64 l.elem,.int .i64 l.ka,.int .i64 l.ea,.int .i64 l.cap,.int .i64 l.eo,.int .i64 l.bo,.int .i64 l.slot,.int .i64 l.group,.int .i64 (x.off:Nat)],.pointer (some ⟨po,0,none⟩),.int .u64 sd] [pt po (.cells #[.map (some bm)] 192 (0,0)),cB (fun k:ByteArray=>Value.string k) bm (bO os),G,ae pa s] (fun v L=>v=.tuple #[.agg #[.pointer none,.int .i64 0,.int .i64 0,.int .i64 0,.int .i64 0,.int .i64 0,.int .i64 0,.int .i64 0,.int .i64 0,.int .i64 0,.int .i64 0],.int .i64 c]∧L= [pt po (.cells #[.map (some bm)] 192 (0,0)),cB (fun k:ByteArray=>Value.string k) bm (bO os),G,ae pa s])∧
  aG Tryz.prog 104 #[.pointer (some ⟨x.p,0,none⟩),.pointer (some ⟨bq,0,none⟩),.int .u64 sd] [rsH pr l x,roH bq os,bd pr s] (fun v L=>v=.tuple #[.pointer none,.int .i64 c]∧L= [rsH pr l x,roH bq os,bd pr s]):=by
 cases hd:x.dead with
 | true=>
  obtain⟨hng,hne⟩:=hO.not hs hd hov
  refine⟨24,by decide,?_,(jN pr bq os hg hw s hs l hl x (fun q=>by rw[hd] at q;cases q) sd hsd _ rfl).mono fun v L h=>?_⟩
  ·exact(aG.beside (aG.beside (aG.beside (pN pa x.off s l hng hne hO.place po sd) G) (cB (fun k:ByteArray=>Value.string k) bm (bO os))) (pt po (.cells #[.map (some bm)] 192 (0,0)))).mono fun v L ⟨L0,e,L1,e1,L2,e2,h1,h2⟩=>⟨h1,by rw[e,e1,e2,h2]⟩
  rcases h with⟨_,h1,h2⟩ | ⟨h1,_⟩ | ⟨h1,_⟩
  ·exact⟨h1,h2⟩
  ·rw[hd] at h1;cases h1
  rw[hd] at h1;cases h1
 | false=>
  have hb:=hb hd
  have hP:=(hO.live hd).1
  refine⟨22,by decide,(nD G hGT hGO pa po bm x.off s l x.S (bO os) (rD hw) sd hsd hP).mono fun v L h=>?_,(jN pr bq os hg hw s hs l hl x (fun _=>hP.okc) sd hsd _ rfl).mono fun v L h=>?_⟩
  ·rcases h with⟨_,h1,h2⟩ | ⟨h1,_⟩
   ·exact⟨h1,h2⟩
   omega
  rcases h with⟨h1,_⟩ | ⟨_,_,h1,h2⟩ | ⟨_,h1,_⟩
  ·rw[hd] at h1;cases h1
  ·exact⟨h1,h2⟩
  omega
section
variable (G:HP) (hGT:dx G) (hGO:lC G) (pb pa po pr bq bm:Nat) (os:List (ByteArray×Int)) (hg:kB os) (hw:∀ o∈os,0≤o.2∧o.2 < 18446744073709551616) (l:Lay) (hl:l.err=0)
include hGT hGO hg hw hl
theorem rk (s:ArS) (hs:s.ok) (ps:List SR) (ts:List PR) (vP vT:Value) (hlen:ps.length≤980000000000) (hlt:ts.length≤8000000000000) (hA:eX s l ps ts) (k:Nat) (x:SR) (hx:ps[k]?=some x) (hov:x.over=false) (sd:Int) (hsd:0≤sd∧sd < 18446744073709551616):
  aG Tryz.prog 44 #[.pointer (some ⟨pb,0,none⟩),.agg #[.pointer (some ⟨pa,0,none⟩),.int .i64 l.key,.int .i64 l.elem,.int .i64 l.ka,.int .i64 l.ea,.int .i64 l.cap,.int .i64 l.eo,.int .i64 l.bo,.int .i64 l.slot,.int .i64 l.group,.int .i64 (x.off:Nat),.pointer (some ⟨x.p,0,none⟩),.bool x.over],.int .u64 sd] [pt po (.cells #[.map (some bm)] 192 (0,0)),cB (fun k:ByteArray=>Value.string k) bm (bO os),G,roH bq os,pt pb (.cells #[.pointer (some ⟨pa,0,none⟩),.pointer (some ⟨po,0,none⟩),.pointer (some ⟨pr,0,none⟩),.pointer (some ⟨bq,0,none⟩),.int .i64 l.key,.int .i64 l.elem,.int .i64 l.ka,.int .i64 l.ea,.int .i64 l.cap,.int .i64 l.eo,.int .i64 l.bo,.int .i64 l.slot,.int .i64 l.group,vP,vT] 68 (0,0)),aE 73 13 vP ps.length (rowOf (bK pa l) ps),ck pr l ps,aE 40 1 vT ts.length (dA ts),cA pr l ts,bd pr s,ae pa s] (fun v L=>∃ s' ps' ts' vP' vT',v=.bool true∧L= [pt po (.cells #[.map (some bm)] 192 (0,0)),cB (fun k:ByteArray=>Value.string k) bm (bO os),G,roH bq os,pt pb (.cells #[.pointer (some ⟨pa,0,none⟩),.pointer (some ⟨po,0,none⟩),.pointer (some ⟨pr,0,none⟩),.pointer (some ⟨bq,0,none⟩),.int .i64 l.key,.int .i64 l.elem,.int .i64 l.ka,.int .i64 l.ea,.int .i64 l.cap,.int .i64 l.eo,.int .i64 l.bo,.int .i64 l.slot,.int .i64 l.group,vP',vT'] 68 (0,0)),aE 73 13 vP' ps'.length (rowOf (bK pa l) ps'),ck pr l ps',aE 40 1 vT' ts'.length (dA ts'),cA pr l ts',bd pr s',ae pa s']∧eX s' l ps' ts'∧jg ps' ts'≤jg ps ts+1):=by
 have hO:=hA.at hx
 have hbd:=Lay.bnd hl
 have hgN:=(eP hl).g
 have hCb:=(cC (n:=((2*gN l:Nat):Int)) (by omega)).2.2 (by omega)
 refine aq HD Tryz.func44 rfl rfl rfl fun Fr w0=>aR ?_
 refine fG (L':=rsH pr l x::ck pr l (ps.eraseIdx k)::pt po (.cells #[.map (some bm)] 192 (0,0))::cB (fun k:ByteArray=>Value.string k) bm (bO os)::G::roH bq os::pt pb (.cells #[.pointer (some ⟨pa,0,none⟩),.pointer (some ⟨po,0,none⟩),.pointer (some ⟨pr,0,none⟩),.pointer (some ⟨bq,0,none⟩),.int .i64 l.key,.int .i64 l.elem,.int .i64 l.ka,.int .i64 l.ea,.int .i64 l.cap,.int .i64 l.eo,.int .i64 l.bo,.int .i64 l.slot,.int .i64 l.group,vP,vT] 68 (0,0))::aE 73 13 vP ps.length (rowOf (bK pa l) ps)::aE 40 1 vT ts.length (dA ts)::cA pr l ts::bd pr s::ae pa s::Fr) (fun w h=>oq hx w ((show Ent _ (ck pr l ps::_) by(exact en)) w h)) ?_
 by_cases hb:x.dead=false→s.limit-s.live < 64+aC ((2*gN l:Nat):Int)
 ·obtain⟨c,hc,hp,hr⟩:=BH G hGT hGO pa pr po bq bm os hg hw s hs l hl x hO hov sd hsd hb
  refine sr<|aP rfl rfl fun b4=>asg rfl rfl<|lc<|ah<|aT mixed ?_
  apply dq 0 rfl
  ·exact yq (qfa 0 rfl di rfl rfl bM)
  apply dq 1 rfl
  ·exact yq (aK rfl cd bM)
  apply dq 2 rfl
  ·exact yq (ai rfl)
  apply dq 3 rfl
  ·exact yq (ad rfl)
  apply dq 4 rfl
  ·exact yq (qfa 1 rfl cZ rfl rfl Be)
  apply dq 5 rfl
  ·exact yq (qld rfl yC)
  apply dq 6 rfl
  ·exact yq (ai rfl)
  apply iU 7 11
  ·kernel_rfl
  ·apply fe (q1:=[1,5,6,0,4,3,2]) (q2:=[]) [(13,_),(17,_),(18,_)]
   ·exact gO
   ·exact⟨rfl,rfl,rfl,trivial⟩
   ·kernel_rfl
   intro Ex
   refine lc1 rfl rfl rfl (hp) ?_
   refine aj ?_
   apply n_d
   ·exact trivial
   apply dq 8 rfl
   ·exact yq (ai rfl)
   apply dq 9 rfl
   ·exact yq (aa rfl ga)
   apply dq 10 rfl
   ·exact yq (aa rfl ga)
   refine an [] [10,9,8] 11 [] gO trivial (by kernel_rfl) (by kernel_rfl) fun Ex=>?_
   refine az rfl lE fun b7=>aj ?_
   apply n_d
   ·refine⟨?_,?_,?_,trivial⟩
    ·apply ya rfl rfl;exact yq (aa rfl ga)
    ·apply ya rfl rfl;exact yq (aa rfl ga)
    apply ya rfl rfl;exact yq (ai rfl)
   refine an [9,8] [10] 12 [(7,_),(20,_)] gO ⟨rfl,rfl,trivial⟩ (by kernel_rfl) (by kernel_rfl) fun Ex=>?_
   refine sta rfl rfl rfl ei rfl rfl ?_
   refine aj ?_
   apply n_d
   ·refine⟨?_,trivial⟩
    apply ya rfl rfl;exact yq (aa rfl ga)
   refine an [10] [] 13 [(21,_)] gO ⟨rfl,trivial⟩ (by kernel_rfl) (by kernel_rfl) fun Ex=>?_
   refine asg rfl rfl<|aj ?_
   apply n_d
   ·exact trivial
   refine bj (by kernel_rfl) ?_
   refine ak<|ah<|aT mixed ?_
   apply dq 0 rfl
   ·exact yq (qfa 11 rfl di rfl rfl fC)
   apply dq 1 rfl
   ·exact yq (qld rfl ez)
   apply dq 2 rfl
   ·exact yq (ai rfl)
   apply dq 3 rfl
   ·exact yq (ad rfl)
   apply dq 4 rfl
   ·exact yq (qfa 3 rfl cZ rfl rfl Bd)
   apply dq 5 rfl
   ·exact yq (qld rfl Bh)
   apply dq 6 rfl
   ·exact yq (ai rfl)
   refine an [1,5,6,0,4,3,2] [] 7 [(24,_),(28,_),(29,_)] gO ⟨rfl,rfl,rfl,trivial⟩ (by kernel_rfl) (by kernel_rfl) fun Ex=>?_
   refine lc1 rfl rfl rfl (hr) ?_
   refine aj ?_
   apply n_d
   ·exact trivial
   apply dq 8 rfl
   ·exact yq (ai rfl)
   apply dq 9 rfl
   ·exact yq (aa rfl ga)
   apply dq 10 rfl
   ·exact yq (aa rfl ga)
   refine an [9,8] [10] 11 [(31,_)] gO ⟨rfl,trivial⟩ (by kernel_rfl) (by kernel_rfl) fun Ex=>?_
   refine asg rfl rfl<|aj ?_
   apply n_d
   ·refine⟨?_,trivial⟩
    apply ya rfl rfl;exact yq (aa rfl ga)
   refine an [10] [] 12 [(32,_)] gO ⟨rfl,trivial⟩ (by kernel_rfl) (by kernel_rfl) fun Ex=>?_
   refine asg rfl rfl<|aj ?_
   apply n_d
   ·exact trivial
   refine bj (by kernel_rfl) ?_
   refine ak<|ah<|sr<|mv rfl rfl<|lc1 rfl rfl rfl (bZ _) ?_
   refine mv rfl rfl<|l_q rfl (qi rfl rfl (aI ·))<|lc<|aA rfl (fun z1=>?_) fun z1=>?_
   ·exact absurd rfl z1
   refine al<|ak<|ah<|sr<|mv rfl rfl<|l_q rfl (qi rfl rfl (aI ·))<|lc<|aA rfl (fun z2=>?_) fun z2=>?_
   ·skip
    refine sr<|asg rfl rfl<|lc<|rt ?_
    refine rA hx tk tk ?_
    refine fr1 rfl ([pt po (.cells #[.map (some bm)] 192 (0,0)),cB (fun k:ByteArray=>Value.string k) bm (bO os),G,roH bq os,pt pb (.cells #[.pointer (some ⟨pa,0,none⟩),.pointer (some ⟨po,0,none⟩),.pointer (some ⟨pr,0,none⟩),.pointer (some ⟨bq,0,none⟩),.int .i64 l.key,.int .i64 l.elem,.int .i64 l.ka,.int .i64 l.ea,.int .i64 l.cap,.int .i64 l.eo,.int .i64 l.bo,.int .i64 l.slot,.int .i64 l.group,vP,vT] 68 (0,0)),aE 73 13 vP ps.length (rowOf (bK pa l) ps),ck pr l ps,aE 40 1 vT ts.length (dA ts),cA pr l ts,bd pr s,ae pa s]) (.tmp rfl) ?_
    exact⟨s,ps,ts,vP,vT,rfl,rfl,hA,by omega⟩
   exact absurd hc z2
  apply fe (q1:=[]) (q2:=[6,5,4,3,2,1,0]) []
  ·exact gO
  ·exact trivial
  ·kernel_rfl
  intro Ex
  refine az rfl lE fun b7=>aj ?_
  apply n_d
  ·refine⟨?_,?_,?_,?_,?_,?_,?_,trivial⟩
   ·apply ya rfl rfl;exact yq (ai rfl)
   ·apply ya rfl rfl;exact yq (qld rfl yC)
   ·apply ya rfl rfl;exact yq (qfa 1 rfl cZ rfl rfl Be)
   ·apply ya rfl rfl;exact yq (ad rfl)
   ·apply ya rfl rfl;exact yq (ai rfl)
   ·apply ya rfl rfl;exact yq (aK rfl cd bM)
   apply ya rfl rfl;exact yq (qfa 0 rfl di rfl rfl bM)
  refine an [1,5,6,0,4,3,2] [] 7 [(13,_),(17,_),(18,_)] gO ⟨rfl,rfl,rfl,trivial⟩ (by kernel_rfl) (by kernel_rfl) fun Ex=>?_
  refine lc1 rfl rfl rfl (hp) ?_
  refine aj ?_
  apply n_d
  ·exact trivial
  apply dq 8 rfl
  ·exact yq (ai rfl)
  apply dq 9 rfl
  ·exact yq (aa rfl ga)
  apply dq 10 rfl
  ·exact yq (aa rfl ga)
  refine an [9,8] [10] 12 [(7,_),(20,_)] gO ⟨rfl,rfl,trivial⟩ (by kernel_rfl) (by kernel_rfl) fun Ex=>?_
  refine sta rfl rfl rfl ei rfl rfl ?_
  refine aj ?_
  apply n_d
  ·refine⟨?_,trivial⟩
   apply ya rfl rfl;exact yq (aa rfl ga)
  refine an [10] [] 13 [(21,_)] gO ⟨rfl,trivial⟩ (by kernel_rfl) (by kernel_rfl) fun Ex=>?_
  refine asg rfl rfl<|aj ?_
  apply n_d
  ·exact trivial
  refine bj (by kernel_rfl) ?_
  refine ak<|ah<|aT mixed ?_
  apply dq 0 rfl
  ·exact yq (qfa 11 rfl di rfl rfl fC)
  apply dq 1 rfl
  ·exact yq (qld rfl ez)
  apply dq 2 rfl
  ·exact yq (ai rfl)
  apply dq 3 rfl
  ·exact yq (ad rfl)
  apply dq 4 rfl
  ·exact yq (qfa 3 rfl cZ rfl rfl Bd)
  apply dq 5 rfl
  ·exact yq (qld rfl Bh)
  apply dq 6 rfl
  ·exact yq (ai rfl)
  refine an [1,5,6,0,4,3,2] [] 7 [(24,_),(28,_),(29,_)] gO ⟨rfl,rfl,rfl,trivial⟩ (by kernel_rfl) (by kernel_rfl) fun Ex=>?_
  refine lc1 rfl rfl rfl (hr) ?_
  refine aj ?_
  apply n_d
  ·exact trivial
  apply dq 8 rfl
  ·exact yq (ai rfl)
  apply dq 9 rfl
  ·exact yq (aa rfl ga)
  apply dq 10 rfl
  ·exact yq (aa rfl ga)
  refine an [9,8] [10] 11 [(31,_)] gO ⟨rfl,trivial⟩ (by kernel_rfl) (by kernel_rfl) fun Ex=>?_
  refine asg rfl rfl<|aj ?_
  apply n_d
  ·refine⟨?_,trivial⟩
   apply ya rfl rfl;exact yq (aa rfl ga)
  refine an [10] [] 12 [(32,_)] gO ⟨rfl,trivial⟩ (by kernel_rfl) (by kernel_rfl) fun Ex=>?_
  refine asg rfl rfl<|aj ?_
  apply n_d
  ·exact trivial
  refine bj (by kernel_rfl) ?_
  refine ak<|ah<|sr<|mv rfl rfl<|lc1 rfl rfl rfl (bZ _) ?_
  refine mv rfl rfl<|l_q rfl (qi rfl rfl (aI ·))<|lc<|aA rfl (fun z1=>?_) fun z1=>?_
  ·exact absurd rfl z1
  refine al<|ak<|ah<|sr<|mv rfl rfl<|l_q rfl (qi rfl rfl (aI ·))<|lc<|aA rfl (fun z2=>?_) fun z2=>?_
  ·skip
   refine sr<|asg rfl rfl<|lc<|rt ?_
   refine rA hx tk tk ?_
   refine fr1 rfl ([pt po (.cells #[.map (some bm)] 192 (0,0)),cB (fun k:ByteArray=>Value.string k) bm (bO os),G,roH bq os,pt pb (.cells #[.pointer (some ⟨pa,0,none⟩),.pointer (some ⟨po,0,none⟩),.pointer (some ⟨pr,0,none⟩),.pointer (some ⟨bq,0,none⟩),.int .i64 l.key,.int .i64 l.elem,.int .i64 l.ka,.int .i64 l.ea,.int .i64 l.cap,.int .i64 l.eo,.int .i64 l.bo,.int .i64 l.slot,.int .i64 l.group,vP,vT] 68 (0,0)),aE 73 13 vP ps.length (rowOf (bK pa l) ps),ck pr l ps,aE 40 1 vT ts.length (dA ts),cA pr l ts,bd pr s,ae pa s]) (.tmp rfl) ?_
   exact⟨s,ps,ts,vP,vT,rfl,rfl,hA,by omega⟩
  exact absurd hc z2
 obtain⟨hd,hb⟩:x.dead=false∧s.live+(64+aC ((2*gN l:Nat):Int))≤s.limit:=by
  cases hd:x.dead with
  | true=>exact absurd (fun q=>by rw[hd] at q;cases q) hb
  | false=>exact⟨rfl,by by_cases q:s.limit-s.live < 64+aC ((2*gN l:Nat):Int);exact absurd (fun _=>q) hb;omega⟩
 obtain⟨o1,ho1⟩:∃ o1,s.at 64=o1:=⟨_,rfl⟩
 obtain⟨g1,hg1⟩:∃ g1,(s.take 64).at (aC ((2*gN l:Nat):Int))=g1:=⟨_,rfl⟩
 obtain⟨hp,hr⟩:=zk G hGT hGO pa pr po bq bm os hg hw s hs l hl x hO hd sd hsd hb o1 g1 ho1 hg1
 refine sr<|aP rfl rfl fun b4=>asg rfl rfl<|lc<|ah<|aT mixed ?_
 apply dq 0 rfl
 ·exact yq (qfa 0 rfl di rfl rfl bM)
 apply dq 1 rfl
 ·exact yq (aK rfl cd bM)
 apply dq 2 rfl
 ·exact yq (ai rfl)
 apply dq 3 rfl
 ·exact yq (ad rfl)
 apply dq 4 rfl
 ·exact yq (qfa 1 rfl cZ rfl rfl Be)
 apply dq 5 rfl
 ·exact yq (qld rfl yC)
 apply dq 6 rfl
 ·exact yq (ai rfl)
 apply iU 7 11
 ·kernel_rfl
 ·apply fe (q1:=[1,5,6,0,4,3,2]) (q2:=[]) [(13,_),(17,_),(18,_)]
  ·exact gO
  ·exact⟨rfl,rfl,rfl,trivial⟩
  ·kernel_rfl
  intro Ex
  refine lcf rfl rfl rfl (hp) ?_
  rintro v L' ⟨s',rfl,rfl,hT,hTR,hN,hZ⟩
  refine bF ?_
  refine aj ?_
  apply n_d
  ·exact trivial
  apply dq 8 rfl
  ·exact yq (ai rfl)
  apply dq 9 rfl
  ·exact yq (aa rfl ga)
  apply dq 10 rfl
  ·exact yq (aa rfl ga)
  refine an [] [10,9,8] 11 [] gO trivial (by kernel_rfl) (by kernel_rfl) fun Ex=>?_
  refine az rfl lE fun b7=>aj ?_
  apply n_d
  ·refine⟨?_,?_,?_,trivial⟩
   ·apply ya rfl rfl;exact yq (aa rfl ga)
   ·apply ya rfl rfl;exact yq (aa rfl ga)
   apply ya rfl rfl;exact yq (ai rfl)
  refine an [9,8] [10] 12 [(7,_),(20,_)] gO ⟨rfl,rfl,trivial⟩ (by kernel_rfl) (by kernel_rfl) fun Ex=>?_
  refine sta rfl rfl rfl ei rfl rfl ?_
  refine aj ?_
  apply n_d
  ·refine⟨?_,trivial⟩
   apply ya rfl rfl;exact yq (aa rfl ga)
  refine an [10] [] 13 [(21,_)] gO ⟨rfl,trivial⟩ (by kernel_rfl) (by kernel_rfl) fun Ex=>?_
  refine asg rfl rfl<|aj ?_
  apply n_d
  ·exact trivial
  refine bj (by kernel_rfl) ?_
  refine ak<|ah<|aT mixed ?_
  apply dq 0 rfl
  ·exact yq (qfa 11 rfl di rfl rfl fC)
  apply dq 1 rfl
  ·exact yq (qld rfl ez)
  apply dq 2 rfl
  ·exact yq (ai rfl)
  apply dq 3 rfl
  ·exact yq (ad rfl)
  apply dq 4 rfl
  ·exact yq (qfa 3 rfl cZ rfl rfl Bd)
  apply dq 5 rfl
  ·exact yq (qld rfl Bh)
  apply dq 6 rfl
  ·exact yq (ai rfl)
  refine an [1,5,6,0,4,3,2] [] 7 [(24,_),(28,_),(29,_)] gO ⟨rfl,rfl,rfl,trivial⟩ (by kernel_rfl) (by kernel_rfl) fun Ex=>?_
  refine lcf rfl rfl rfl (hr) ?_
  rintro v L' ⟨p,rfl,rfl⟩
  refine bF ?_
  refine aj ?_
  apply n_d
  ·exact trivial
  apply dq 8 rfl
  ·exact yq (ai rfl)
  apply dq 9 rfl
  ·exact yq (aa rfl ga)
  apply dq 10 rfl
  ·exact yq (aa rfl ga)
  refine an [9,8] [10] 11 [(31,_)] gO ⟨rfl,trivial⟩ (by kernel_rfl) (by kernel_rfl) fun Ex=>?_
  refine asg rfl rfl<|aj ?_
  apply n_d
  ·refine⟨?_,trivial⟩
   apply ya rfl rfl;exact yq (aa rfl ga)
  refine an [10] [] 12 [(32,_)] gO ⟨rfl,trivial⟩ (by kernel_rfl) (by kernel_rfl) fun Ex=>?_
  refine asg rfl rfl<|aj ?_
  apply n_d
  ·exact trivial
  refine bj (by kernel_rfl) ?_
  refine ak<|ah<|sr<|mv rfl rfl<|lc1 rfl rfl rfl (bZ _) ?_
  refine mv rfl rfl<|l_q rfl (qi rfl rfl (aI ·))<|lc<|aA rfl (fun z1=>?_) fun z1=>?_
  ·exact absurd rfl z1
  refine al<|ak<|ah<|sr<|mv rfl rfl<|l_q rfl (qi rfl rfl (aI ·))<|lc<|aA rfl (fun z2=>?_) fun z2=>?_
  ·exact absurd rfl z2
  refine cH (φ:=s'.ok) (fun w hw=>bR (pa:=pa) hw tk) fun hs'=>?_
  refine ri hx tk tk ?_
  have hat:=iW hs c64 (by omega)
  have hx1:Exact.One s' l (⟨p,o1,g1,2,1,bY (bV (bO os) sd) x.S.cells 8,false,false⟩:PR):=⟨(show 1≤13 by decide),(show 2=2 ^ 1 by decide),hTR,fun _=>⟨hT,(hN.bl _).2 (.inr (.inl (by rw[ho1]))),(hN.bl _).2 (.inr (.inr (by rw[hg1]))),(show((2*gN l:Nat):Int)≤1048576 by omega)⟩,fun q=>(by cases q),(show o1≤1000000000 by omega),fun _=>hZ⟩
  have hA':=hA.pushT hs hCb.2 (by omega) hN hx1 rfl ho1.symm hg1.symm
  have ok64:=ArS.take_ok hs c64 (by omega)
  have hra:bd pr s'=bd pr ((s.take 64).take (aC ((2*gN l:Nat):Int))):=je (hN.limit.trans ((cU ok64).trans (cU hs)).symm) hN.all hN.dead
  rw[← hra]
  have hl1:(ts ++ [(⟨p,o1,g1,2,1,bY (bV (bO os) sd) x.S.cells 8,false,false⟩:PR)]).length=ts.length+1:=by simp
  have hrow:dA ts ++ #[Value.pointer (some ⟨p,0,none⟩)].toList=dA (ts ++ [(⟨p,o1,g1,2,1,bY (bV (bO os) sd) x.S.cells 8,false,false⟩:PR)]):=by rw[sD]
  have hTb:=fun v:Value=>lJ pb pa po pr bq l hl s' hs' (ts ++ [(⟨p,o1,g1,2,1,bY (bV (bO os) sd) x.S.cells 8,false,false⟩:PR)]) vP v (by omega) hA'.tab
  simp only[hl1] at hTb
  have hcp:cr (cA pr l (ts ++ [(⟨p,o1,g1,2,1,bY (bV (bO os) sd) x.S.cells 8,false,false⟩:PR)])) ⟨p,10,none⟩ (.int .i64 (o1:Nat)):=sQ (i:=ts.length) (t:=(⟨p,o1,g1,2,1,bY (bV (bO os) sd) x.S.cells 8,false,false⟩:PR)) (by simp)
  refine al<|nz<|mv rfl rfl<|lcf rfl rfl rfl (j4 pb pa po pr bq l ps vP vT (by omega)) ?_
  rintro v L' rfl
  refine bF ?_
  refine wb (x:=(⟨p,o1,g1,2,1,bY (bV (bO os) sd) x.S.cells 8,false,false⟩:PR)) tk tk ?_
  refine lz<|mv rfl rfl<|mv rfl rfl<|l_q rfl (ad rfl)<|l_q rfl (qfa 14 rfl cZ rfl rfl uq)<|l_q rfl (qld rfl Db) ?_
  refine mv rfl rfl ?_
  refine aY [_] rfl rfl Ba C9 D4 rfl rfl rfl rfl (fun b47=>?_)
  apply dT (sz:=1) rfl rfl rfl Tryz.underlying66 Es rfl rfl
  ·exact tk
  ·exact tk
  ·rfl
  ·rfl
  ·simp only[maxLen];omega
  ·omega
  intro v48
  refine du (v:=v48) tk fun _ hs48=>?_
  obtain⟨a48,cap48,rfl,_,_,_⟩:=hs48
  refine l_q rfl (ad rfl)<|l_q rfl (qfa 14 rfl cZ rfl rfl uq)<|st rfl rfl rfl uq rfl ?_
  refine lc<|ah<|aT mixed ?_
  apply dq 0 rfl
  ·exact yq (aK rfl gl ei)
  apply dq 2 rfl
  ·exact yq (ai rfl)
  apply dq 3 rfl
  ·exact yq (ad rfl)
  apply dq 4 rfl
  ·exact yq (qfa 10 rfl eh rfl rfl yS3)
  apply dq 5 rfl
  ·apply yq
   apply bH (A:=cA pr l (ts ++ [(⟨p,o1,g1,2,1,bY (bV (bO os) sd) x.S.cells 8,false,false⟩:PR)])) rfl yA3
   ·exact tk
   exact hcp
  refine an [0] [5,4,3,2] 1 [(51,_)] gO ⟨rfl,trivial⟩ (by kernel_rfl) (by kernel_rfl) fun Ex=>?_
  rw[hrow]
  refine lc1 rfl rfl rfl (pf pa l (o1:Nat)) ?_
  refine aj ?_
  apply n_d
  ·refine⟨?_,?_,?_,?_,trivial⟩
   ·apply ya rfl rfl
    apply yq
    apply bH (A:=cA pr l (ts ++ [(⟨p,o1,g1,2,1,bY (bV (bO os) sd) x.S.cells 8,false,false⟩:PR)])) rfl yA3
    ·exact tk
    exact hcp
   ·apply ya rfl rfl;exact yq (qfa 10 rfl eh rfl rfl yS3)
   ·apply ya rfl rfl;exact yq (ad rfl)
   apply ya rfl rfl;exact yq (ai rfl)
  apply dq 6 rfl
  ·exact yq (qi rfl rfl (aW ·))
  apply dq 7 rfl
  ·exact yq (ai rfl)
  refine jq (t:=58) rfl (fun z3=>?_) fun z3=>?_
  ·apply dq 8 rfl
   ·exact br rfl rfl (ai rfl)
   refine an [8,7,6,5,4,3,2] [] 9 [(59,_),(58,_)] gO ⟨rfl,rfl,trivial⟩ (by kernel_rfl) (by kernel_rfl) fun Ex=>?_
   refine au rfl rfl<|lc1 rfl rfl rfl (hTb (.slice a48 (ts.length+1) cap48)) ?_
   refine aj ?_
   apply n_d
   ·exact trivial
   apply dq 10 rfl
   ·exact yq (aL rfl rfl)
   refine an [10] [] 11 [(61,_)] gO ⟨rfl,trivial⟩ (by kernel_rfl) (by kernel_rfl) fun Ex=>?_
   refine asg rfl rfl<|aj ?_
   apply n_d
   ·exact trivial
   refine bj (by kernel_rfl) ?_
   refine ak<|rt ?_
   rw[← kh pr l ps]
   refine fr1 rfl ([pt po (.cells #[.map (some bm)] 192 (0,0)),cB (fun k:ByteArray=>Value.string k) bm (bO os),G,roH bq os,pt pb (.cells #[.pointer (some ⟨pa,0,none⟩),.pointer (some ⟨po,0,none⟩),.pointer (some ⟨pr,0,none⟩),.pointer (some ⟨bq,0,none⟩),.int .i64 l.key,.int .i64 l.elem,.int .i64 l.ka,.int .i64 l.ea,.int .i64 l.cap,.int .i64 l.eo,.int .i64 l.bo,.int .i64 l.slot,.int .i64 l.group,vP,(.slice a48 (ts.length+1) cap48)] 68 (0,0)),aE 73 13 vP ps.length (rowOf (bK pa l) (ps.map cg)),ck pr l (ps.map cg),aE 40 1 (.slice a48 (ts.length+1) cap48) (ts.length+1) (dA (ts ++ [(⟨p,o1,g1,2,1,bY (bV (bO os) sd) x.S.cells 8,false,false⟩:PR)])),cA pr l (ts ++ [(⟨p,o1,g1,2,1,bY (bV (bO os) sd) x.S.cells 8,false,false⟩:PR)]),bd pr s',ae pa s']) (.tmp rfl) ?_
   exact⟨s',ps.map cg,ts ++ [(⟨p,o1,g1,2,1,bY (bV (bO os) sd) x.S.cells 8,false,false⟩:PR)],vP,(.slice a48 (ts.length+1) cap48),rfl,by rw[hl1,List.length_map],hA',by unfold jg;rw[iu,List.length_map,hl1];omega⟩
  exact absurd rfl z3
 apply fe (q1:=[]) (q2:=[6,5,4,3,2,1,0]) []
 ·exact gO
 ·exact trivial
 ·kernel_rfl
 intro Ex
 refine az rfl lE fun b7=>aj ?_
 apply n_d
 ·refine⟨?_,?_,?_,?_,?_,?_,?_,trivial⟩
  ·apply ya rfl rfl;exact yq (ai rfl)
  ·apply ya rfl rfl;exact yq (qld rfl yC)
  ·apply ya rfl rfl;exact yq (qfa 1 rfl cZ rfl rfl Be)
  ·apply ya rfl rfl;exact yq (ad rfl)
  ·apply ya rfl rfl;exact yq (ai rfl)
  ·apply ya rfl rfl;exact yq (aK rfl cd bM)
  apply ya rfl rfl;exact yq (qfa 0 rfl di rfl rfl bM)
 refine an [1,5,6,0,4,3,2] [] 7 [(13,_),(17,_),(18,_)] gO ⟨rfl,rfl,rfl,trivial⟩ (by kernel_rfl) (by kernel_rfl) fun Ex=>?_
 refine lcf rfl rfl rfl (hp) ?_
 rintro v L' ⟨s',rfl,rfl,hT,hTR,hN,hZ⟩
 refine bF ?_
 refine aj ?_
 apply n_d
 ·exact trivial
 apply dq 8 rfl
 ·exact yq (ai rfl)
 apply dq 9 rfl
 ·exact yq (aa rfl ga)
 apply dq 10 rfl
 ·exact yq (aa rfl ga)
 refine an [9,8] [10] 12 [(7,_),(20,_)] gO ⟨rfl,rfl,trivial⟩ (by kernel_rfl) (by kernel_rfl) fun Ex=>?_
 refine sta rfl rfl rfl ei rfl rfl ?_
 refine aj ?_
 apply n_d
 ·refine⟨?_,trivial⟩
  apply ya rfl rfl;exact yq (aa rfl ga)
 refine an [10] [] 13 [(21,_)] gO ⟨rfl,trivial⟩ (by kernel_rfl) (by kernel_rfl) fun Ex=>?_
 refine asg rfl rfl<|aj ?_
 apply n_d
 ·exact trivial
 refine bj (by kernel_rfl) ?_
 refine ak<|ah<|aT mixed ?_
 apply dq 0 rfl
 ·exact yq (qfa 11 rfl di rfl rfl fC)
 apply dq 1 rfl
 ·exact yq (qld rfl ez)
 apply dq 2 rfl
 ·exact yq (ai rfl)
 apply dq 3 rfl
 ·exact yq (ad rfl)
 apply dq 4 rfl
 ·exact yq (qfa 3 rfl cZ rfl rfl Bd)
 apply dq 5 rfl
 ·exact yq (qld rfl Bh)
 apply dq 6 rfl
 ·exact yq (ai rfl)
 refine an [1,5,6,0,4,3,2] [] 7 [(24,_),(28,_),(29,_)] gO ⟨rfl,rfl,rfl,trivial⟩ (by kernel_rfl) (by kernel_rfl) fun Ex=>?_
 refine lcf rfl rfl rfl (hr) ?_
 rintro v L' ⟨p,rfl,rfl⟩
 refine bF ?_
 refine aj ?_
 apply n_d
 ·exact trivial
 apply dq 8 rfl
 ·exact yq (ai rfl)
 apply dq 9 rfl
 ·exact yq (aa rfl ga)
 apply dq 10 rfl
 ·exact yq (aa rfl ga)
 refine an [9,8] [10] 11 [(31,_)] gO ⟨rfl,trivial⟩ (by kernel_rfl) (by kernel_rfl) fun Ex=>?_
 refine asg rfl rfl<|aj ?_
 apply n_d
 ·refine⟨?_,trivial⟩
  apply ya rfl rfl;exact yq (aa rfl ga)
 refine an [10] [] 12 [(32,_)] gO ⟨rfl,trivial⟩ (by kernel_rfl) (by kernel_rfl) fun Ex=>?_
 refine asg rfl rfl<|aj ?_
 apply n_d
 ·exact trivial
 refine bj (by kernel_rfl) ?_
 refine ak<|ah<|sr<|mv rfl rfl<|lc1 rfl rfl rfl (bZ _) ?_
 refine mv rfl rfl<|l_q rfl (qi rfl rfl (aI ·))<|lc<|aA rfl (fun z1=>?_) fun z1=>?_
 ·exact absurd rfl z1
 refine al<|ak<|ah<|sr<|mv rfl rfl<|l_q rfl (qi rfl rfl (aI ·))<|lc<|aA rfl (fun z2=>?_) fun z2=>?_
 ·exact absurd rfl z2
 refine cH (φ:=s'.ok) (fun w hw=>bR (pa:=pa) hw tk) fun hs'=>?_
 refine ri hx tk tk ?_
 have hat:=iW hs c64 (by omega)
 have hx1:Exact.One s' l (⟨p,o1,g1,2,1,bY (bV (bO os) sd) x.S.cells 8,false,false⟩:PR):=⟨(show 1≤13 by decide),(show 2=2 ^ 1 by decide),hTR,fun _=>⟨hT,(hN.bl _).2 (.inr (.inl (by rw[ho1]))),(hN.bl _).2 (.inr (.inr (by rw[hg1]))),(show((2*gN l:Nat):Int)≤1048576 by omega)⟩,fun q=>(by cases q),(show o1≤1000000000 by omega),fun _=>hZ⟩
 have hA':=hA.pushT hs hCb.2 (by omega) hN hx1 rfl ho1.symm hg1.symm
 have ok64:=ArS.take_ok hs c64 (by omega)
 have hra:bd pr s'=bd pr ((s.take 64).take (aC ((2*gN l:Nat):Int))):=je (hN.limit.trans ((cU ok64).trans (cU hs)).symm) hN.all hN.dead
 rw[← hra]
 have hl1:(ts ++ [(⟨p,o1,g1,2,1,bY (bV (bO os) sd) x.S.cells 8,false,false⟩:PR)]).length=ts.length+1:=by simp
 have hrow:dA ts ++ #[Value.pointer (some ⟨p,0,none⟩)].toList=dA (ts ++ [(⟨p,o1,g1,2,1,bY (bV (bO os) sd) x.S.cells 8,false,false⟩:PR)]):=by rw[sD]
 have hTb:=fun v:Value=>lJ pb pa po pr bq l hl s' hs' (ts ++ [(⟨p,o1,g1,2,1,bY (bV (bO os) sd) x.S.cells 8,false,false⟩:PR)]) vP v (by omega) hA'.tab
 simp only[hl1] at hTb
 have hcp:cr (cA pr l (ts ++ [(⟨p,o1,g1,2,1,bY (bV (bO os) sd) x.S.cells 8,false,false⟩:PR)])) ⟨p,10,none⟩ (.int .i64 (o1:Nat)):=sQ (i:=ts.length) (t:=(⟨p,o1,g1,2,1,bY (bV (bO os) sd) x.S.cells 8,false,false⟩:PR)) (by simp)
 refine al<|nz<|mv rfl rfl<|lcf rfl rfl rfl (j4 pb pa po pr bq l ps vP vT (by omega)) ?_
 rintro v L' rfl
 refine bF ?_
 refine wb (x:=(⟨p,o1,g1,2,1,bY (bV (bO os) sd) x.S.cells 8,false,false⟩:PR)) tk tk ?_
 refine lz<|mv rfl rfl<|mv rfl rfl<|l_q rfl (ad rfl)<|l_q rfl (qfa 14 rfl cZ rfl rfl uq)<|l_q rfl (qld rfl Db) ?_
 refine mv rfl rfl ?_
 refine aY [_] rfl rfl Ba C9 D4 rfl rfl rfl rfl (fun b47=>?_)
 apply dT (sz:=1) rfl rfl rfl Tryz.underlying66 Es rfl rfl
 ·exact tk
 ·exact tk
 ·rfl
 ·rfl
 ·simp only[maxLen];omega
 ·omega
 intro v48
 refine du (v:=v48) tk fun _ hs48=>?_
 obtain⟨a48,cap48,rfl,_,_,_⟩:=hs48
 refine l_q rfl (ad rfl)<|l_q rfl (qfa 14 rfl cZ rfl rfl uq)<|st rfl rfl rfl uq rfl ?_
 refine lc<|ah<|aT mixed ?_
 apply dq 0 rfl
 ·exact yq (aK rfl gl ei)
 apply dq 2 rfl
 ·exact yq (ai rfl)
 apply dq 3 rfl
 ·exact yq (ad rfl)
 apply dq 4 rfl
 ·exact yq (qfa 10 rfl eh rfl rfl yS3)
 apply dq 5 rfl
 ·apply yq
  apply bH (A:=cA pr l (ts ++ [(⟨p,o1,g1,2,1,bY (bV (bO os) sd) x.S.cells 8,false,false⟩:PR)])) rfl yA3
  ·exact tk
  exact hcp
 refine an [0] [5,4,3,2] 1 [(51,_)] gO ⟨rfl,trivial⟩ (by kernel_rfl) (by kernel_rfl) fun Ex=>?_
 rw[hrow]
 refine lc1 rfl rfl rfl (pf pa l (o1:Nat)) ?_
 refine aj ?_
 apply n_d
 ·refine⟨?_,?_,?_,?_,trivial⟩
  ·apply ya rfl rfl
   apply yq
   apply bH (A:=cA pr l (ts ++ [(⟨p,o1,g1,2,1,bY (bV (bO os) sd) x.S.cells 8,false,false⟩:PR)])) rfl yA3
   ·exact tk
   exact hcp
  ·apply ya rfl rfl;exact yq (qfa 10 rfl eh rfl rfl yS3)
  ·apply ya rfl rfl;exact yq (ad rfl)
  apply ya rfl rfl;exact yq (ai rfl)
 apply dq 6 rfl
 ·exact yq (qi rfl rfl (aW ·))
 apply dq 7 rfl
 ·exact yq (ai rfl)
 refine jq (t:=58) rfl (fun z3=>?_) fun z3=>?_
 ·apply dq 8 rfl
  ·exact br rfl rfl (ai rfl)
  refine an [8,7,6,5,4,3,2] [] 9 [(59,_),(58,_)] gO ⟨rfl,rfl,trivial⟩ (by kernel_rfl) (by kernel_rfl) fun Ex=>?_
  refine au rfl rfl<|lc1 rfl rfl rfl (hTb (.slice a48 (ts.length+1) cap48)) ?_
  refine aj ?_
  apply n_d
  ·exact trivial
  apply dq 10 rfl
  ·exact yq (aL rfl rfl)
  refine an [10] [] 11 [(61,_)] gO ⟨rfl,trivial⟩ (by kernel_rfl) (by kernel_rfl) fun Ex=>?_
  refine asg rfl rfl<|aj ?_
  apply n_d
  ·exact trivial
  refine bj (by kernel_rfl) ?_
  refine ak<|rt ?_
  rw[← kh pr l ps]
  refine fr1 rfl ([pt po (.cells #[.map (some bm)] 192 (0,0)),cB (fun k:ByteArray=>Value.string k) bm (bO os),G,roH bq os,pt pb (.cells #[.pointer (some ⟨pa,0,none⟩),.pointer (some ⟨po,0,none⟩),.pointer (some ⟨pr,0,none⟩),.pointer (some ⟨bq,0,none⟩),.int .i64 l.key,.int .i64 l.elem,.int .i64 l.ka,.int .i64 l.ea,.int .i64 l.cap,.int .i64 l.eo,.int .i64 l.bo,.int .i64 l.slot,.int .i64 l.group,vP,(.slice a48 (ts.length+1) cap48)] 68 (0,0)),aE 73 13 vP ps.length (rowOf (bK pa l) (ps.map cg)),ck pr l (ps.map cg),aE 40 1 (.slice a48 (ts.length+1) cap48) (ts.length+1) (dA (ts ++ [(⟨p,o1,g1,2,1,bY (bV (bO os) sd) x.S.cells 8,false,false⟩:PR)])),cA pr l (ts ++ [(⟨p,o1,g1,2,1,bY (bV (bO os) sd) x.S.cells 8,false,false⟩:PR)]),bd pr s',ae pa s']) (.tmp rfl) ?_
  exact⟨s',ps.map cg,ts ++ [(⟨p,o1,g1,2,1,bY (bV (bO os) sd) x.S.cells 8,false,false⟩:PR)],vP,(.slice a48 (ts.length+1) cap48),rfl,by rw[hl1,List.length_map],hA',by unfold jg;rw[iu,List.length_map,hl1];omega⟩
 exact absurd rfl z3
end
end Exact11
end Go.Proofs.YthkajgkagnenbaaGreatDoor
