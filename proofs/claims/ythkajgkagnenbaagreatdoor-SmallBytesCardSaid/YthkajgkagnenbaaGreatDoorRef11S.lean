import Derived.Test.YthkajgkagnenbaaGreatDoorRef04
import Derived.Test.YthkajgkagnenbaaGreatDoorOver
import Derived.Test.YthkajgkagnenbaaGreatDoorRef11R
set_option linter.unusedVariables false
set_option linter.unusedSimpArgs false
set_option linter.unusedSectionVars false
namespace Go.Proofs.YthkajgkagnenbaaGreatDoor
section
set_option maxRecDepth 100000
namespace Ref04
open Go.RowKit Go.Proofs Eng Ty Bits Oracle
theorem DH {os:List (ByteArray×Int)} (hg:kE os) {i:Nat} {t:ByteArray×Int} (ht:os[i]?=some t):lkK (bN os) t.1=some (.int .u64 t.2):=by
 have hil:i < os.length:=(List.getElem?_eq_some_iff.1 ht).1
 have h1:=oM (i:=os.length) hil (Nat.le_refl _) ht
 rw[List.take_length] at h1
 obtain⟨v,hv⟩:=Option.isSome_iff_exists.1 h1
 have h2:=hv
 rw[show bN os=bN (os.take os.length) by rw[List.take_length]] at h2
 obtain⟨j,u,hj,hu,he,rfl⟩:=mD (Nat.le_refl _) h2
 rcases Nat.lt_trichotomy j i with q | q | q
 ·exact absurd he ((hg.2 i t ht).2.2 j u q hu)
 ·subst q;rw[ht] at hu;cases hu;exact hv
 exact absurd he.symm ((hg.2 j u hu).2.2 i t q ht)
theorem B2 {os:List (ByteArray×Int)} {key:ByteArray} (h:∀(j:Nat) u,os[j]?=some u→u.1≠key):lkK (bN os) key=none:=by
 cases hv:lkK (bN os) key with
 | none=>rfl
 | some v=>
  rw[show bN os=bN (os.take os.length) by rw[List.take_length]] at hv
  obtain⟨j,u,_,hu,he,_⟩:=mD (Nat.le_refl _) hv
  exact absurd he (h j u hu)
@[reducible] def roP (bq:Nat) (os:List (ByteArray×Int)) (lv:Value):List HP:=[pt bq (.cells #[lv] 195 (0,0)),aE 134 2 lv os.length (rowOf dS os)]
def roH (bq:Nat) (os:List (ByteArray×Int)):HP:=exP (fun _:Value=>True) (roP bq os)
theorem BR {c:Cx} {fin:Exit→Act→World→Prop} {ds:List Deferred} {E:Env} {ks:List KI} {bq:Nat} {os:List (ByteArray×Int)} {L M:List HP} {y:Code} (ht:Take (roH bq os) L M) (k:∀ v,TC c fin ds E (pt bq (.cells #[v] 195 (0,0))::aE 134 2 v os.length (rowOf dS os)::M) y ks):TC c fin ds E L y ks:=
 jy (X:=Value) (LL:=fun v=>roP bq os v ++ M) (fun w hs=>let ⟨v,_,h⟩:=bZ.1 (hs.take ht);⟨v,h⟩) k
theorem oA {bq:Nat} {os:List (ByteArray×Int)} (v:Value) {L R:List HP} (he:Ent L (pt bq (.cells #[v] 195 (0,0))::aE 134 2 v os.length (rowOf dS os)::R)):Ent L (roH bq os::R):=fun w h=>bZ.2 ⟨v,trivial,he w h⟩
theorem A1 (bq:Nat) (os:List (ByteArray×Int)) (hg:kE os) (sd:Int) (hs:0≤sd∧sd < 18446744073709551616) (key:ByteArray) (hk:key.size≤140737488351232):
  aG Tryz.prog 147 #[.pointer (some ⟨bq,0,none⟩),.int .u64 sd,.string key] [roH bq os] (fun v L=>v=.int .u64 (bU (bN os) sd key)∧L= [roH bq os]):=by
 have h64:=hg.1
 refine aq Gp Tryz.func147 rfl rfl rfl fun Fr w0=>aR ?_
 refine BR .here fun lv=>?_
 refine cw (.there .here) fun _ hlv=>?_
 obtain⟨a,cap,rfl,ha,_,_⟩:=hlv
 refine sr<|asg rfl rfl<|lc<|ah<|sr<|asg rfl rfl<|lc<|ax ?_
 refine bw (fun i:Nat=>i≤os.length∧∀ j u,j < i→os[j]?=some u→u.1≠key) (fun i=>[(0,.pointer (some ⟨bq,0,none⟩)),(1,.int .u64 sd),(2,.string key),(7,.int .i64 (i:Nat))]) (fun _=>pt bq (.cells #[.slice a os.length cap] 195 (0,0))::aE 134 2 (.slice a os.length cap) os.length (rowOf dS os)::Fr) (fun i=>os.length-i) 0 ⟨Nat.zero_le _,fun j u h=>by omega⟩ ⟨rfl,rfl,rfl,rfl,trivial⟩ (by(exact en)) ?_
 rintro i ⟨hi,hno⟩
 refine ah<|sr<|mv rfl rfl<|mv rfl rfl<|l_q rfl (ad rfl)<|l_q rfl (qfa 0 rfl pT rfl rfl mX)<|l_q rfl (qld rfl oe) ?_
 refine l_q rfl (ql rfl jS)<|l_q rfl (qi rfl rfl (aU ·))<|lc<|aA rfl (fun h1=>?_) fun h1=>?_
 ·skip
  obtain⟨g,rfl⟩:=ha (by omega)
  obtain⟨t,ht⟩:∃ t,os[i]?=some t:=⟨os[i],List.getElem?_eq_getElem (by omega)⟩
  have hcs:(rowOf dS os)[0+((i:Nat):Int).toNat*2+0]?=some (.string t.1):=by rw[Nat.zero_add,Int.toNat_natCast,dA mx os i 0 t ht (by decide)];rfl
  have hcu:(rowOf dS os)[0+((i:Nat):Int).toNat*2+1]?=some (.int .u64 t.2):=by rw[Nat.zero_add,Int.toNat_natCast,dA mx os i 1 t ht (by decide)];rfl
  refine al<|ak<|ah<|ax<|sr<|mv rfl rfl<|l_q rfl (ad rfl)<|l_q rfl (qfa 0 rfl pT rfl rfl mX)<|l_q rfl (qld rfl oe) ?_
  refine mv rfl rfl<|l_q rfl (aT rfl rfl jS iF (by omega)) ?_
  refine l_q rfl (qfa 0 rfl jY rfl rfl yS9) ?_
  apply l_q rfl
  ·apply bf rfl yA9
   ·exact tk
   exact hcs
  refine mv rfl rfl<|l_q rfl (qs rfl rfl (l8 ·))<|lc<|aA rfl (fun h2=>?_) fun h2=>?_
  ·refine sr<|mv rfl rfl<|l_q rfl (ad rfl)<|l_q rfl (qfa 0 rfl pT rfl rfl mX)<|l_q rfl (qld rfl oe) ?_
   refine mv rfl rfl<|l_q rfl (aT rfl rfl jS iF (by omega)) ?_
   refine l_q rfl (qfa 1 rfl jY rfl rfl oc) ?_
   apply l_q rfl
   ·apply bf rfl j4
    ·exact tk
    exact hcu
   refine asg rfl rfl<|lc<|rt ?_
   apply aJ (.inl rfl) ([roH bq os])
   ·apply cO rfl
    exact .tmp rfl
   ·exact⟨by unfold bU;rw[← h2,DH hg ht],rfl⟩
   refine oA (.slice (some ⟨g,0,none⟩) os.length cap) ?_;(exact en)
  refine al<|aV<|ak<|aB<|mv rfl rfl<|l_q rfl (ba rfl rfl) ?_
  refine asg rfl rfl<|aj ?_
  apply aO ((i+1))
  ·exact⟨by omega,fun j u hj hu=>by rcases Nat.lt_succ_iff_lt_or_eq.1 hj with q | rfl;exact hno j u q hu;rw[ht] at hu;cases hu;exact h2⟩
  ·omega
  ·exact⟨rfl,rfl,rfl,rfl,trivial⟩
  exact en
 obtain rfl:i=os.length:=by omega
 have hm:=B2 (os:=os) (key:=key) fun j u hu=>hno j u (List.getElem?_eq_some_iff.1 hu).1 hu
 refine xt rfl<|nz<|mv rfl rfl<|mv rfl rfl<|lc1 rfl rfl rfl (CA sd hs key (by omega)) ?_
 refine asg rfl rfl<|lc<|rt ?_
 apply aJ (.inl rfl) ([roH bq os])
 ·apply cO rfl
  exact .tmp rfl
 ·exact⟨by unfold bU;rw[hm],rfl⟩
 refine oA (.slice a os.length cap) ?_;(exact en)
end Ref04
end
section
set_option maxRecDepth 100000
namespace Small
open Go.RowKit Go.Proofs Eng Ty Bits Mem Search Arena CtrlB Layout GroupB Group TableB TableI Table Cells Refill RefA RefT Exact Oracle Ref04 Bench
def l6 (x:SR):Int:=if x.dead then 24 else 0
theorem qW (pr:Nat) (l:Lay) (x:SR) (s:ArS) (hs:s.ok) (hlv:x.dead=false→∃ c,(((x.off:Nat):Int),c)∈s.bl):aG Tryz.prog 116 #[.pointer (some ⟨x.p,0,none⟩)] [rsH pr l x,bj pr s] (fun v L=>v=.int .i64 (l6 x)∧((x.dead=true∧L= [rsH pr l x,bj pr s])∨(x.dead=false∧L= [rsH pr l {x with dead:=true},bj pr (s.gives [((x.off:Nat):Int)])]))):=by
 have hF:∀(p:Nat),(∃ c,(((x.off:Nat):Int),c)∈s.bl)→aG Tryz.prog 166 #[.pointer (some ⟨pr,0,none⟩),.slice (some ⟨p,0,none⟩) 1 1] [pt p (.cells #[.int .i64 (x.off:Nat)] 3 (0,0)),bj pr s] (fun v L=>v=.int .i64 0∧L= [bj pr (s.gives [((x.off:Nat):Int)])]):=fun p h=>
  A2 pr s hs p 1 [((x.off:Nat):Int)] rfl (by decide) (by simp) (by intro o ho;simp at ho;rw[ho];exact h)
 refine aq GK Tryz.func116 rfl rfl rfl fun Fr w0=>aR ?_
 refine dM .here fun vc=>?_
 refine sr<|asg rfl rfl<|lc<|ah<|sr<|mv rfl rfl<|l_q rfl (ad rfl)<|l_q rfl (qfa 15 rfl cL rfl rfl yS4)<|l_q rfl (qld rfl yA4) ?_
 refine lc<|aA rfl (fun z=>?_) fun z=>?_
 ·skip
  have hc:l6 x=24:=by unfold l6;rw[if_pos z]
  rw[hc]
  refine sr<|asg rfl rfl<|lc<|rt ?_
  apply aJ (.inl rfl) ([rsH pr l x,bj pr s])
  ·apply cO rfl
   exact .tmp rfl
  ·exact⟨rfl,.inl ⟨z,rfl⟩⟩
  refine bB vc ?_;(exact en)
 have hc:l6 x=0:=by unfold l6;rw[if_neg (by simp[z])]
 rw[hc]
 have h1:=hlv (by simpa using z)
 refine al<|nz<|mv rfl rfl<|l_q rfl (ad rfl)<|l_q rfl (qfa 15 rfl cL rfl rfl yS4)<|st rfl rfl rfl yS4 rfl ?_
 refine lc<|ah<|aS mixed ?_
 apply dq 0 rfl
 ·exact yq (ai rfl)
 apply dq 1 rfl
 ·exact yq (ad rfl)
 apply dq 2 rfl
 ·exact yq (qfa 0 rfl cL rfl rfl rf)
 apply dq 3 rfl
 ·exact yq (qld rfl rh)
 apply dq 4 rfl
 ·exact yq (ai rfl)
 apply dq 5 rfl
 ·exact yq (ad rfl)
 apply dq 6 rfl
 ·exact yq (qfa 10 rfl cL rfl rfl yS3)
 apply dq 7 rfl
 ·exact yq (qld rfl yA3)
 refine an [7,6,5,4] [3,2,1,0] 8 [(17,_)] gO ⟨rfl,trivial⟩ (by kernel_rfl) (by kernel_rfl) fun Ex=>?_
 refine aW [_] rfl rfl bn yS3 yZ3 rfl rfl rfl rfl (fun b18=>?_)
 refine aj ?_
 apply n_d
 ·refine⟨?_,?_,?_,?_,trivial⟩
  ·apply ya rfl rfl;exact yq (qld rfl rh)
  ·apply ya rfl rfl;exact yq (qfa 0 rfl cL rfl rfl rf)
  ·apply ya rfl rfl;exact yq (ad rfl)
  apply ya rfl rfl;exact yq (ai rfl)
 refine an [3,2,1,0] [] 9 [(13,_),(18,_)] gO ⟨rfl,rfl,trivial⟩ (by kernel_rfl) (by kernel_rfl) fun Ex=>?_
 refine lc1 rfl rfl rfl (hF b18 h1) ?_
 refine aj ?_
 apply n_d
 ·exact trivial
 refine an [] [] 10 [(19,_)] gO ⟨rfl,trivial⟩ (by kernel_rfl) (by kernel_rfl) fun Ex=>?_
 refine asg rfl rfl<|aj ?_
 apply n_d
 ·exact trivial
 refine bd (by kernel_rfl) ?_
 refine ak<|rt ?_
 apply aJ (.inl rfl) ([rsH pr l {x with dead:=true},bj pr (s.gives [((x.off:Nat):Int)])])
 ·apply cO rfl
  exact .tmp rfl
 ·exact⟨rfl,.inr ⟨by simpa using z,rfl⟩⟩
 refine bB vc ?_;(exact en)
theorem uh (pr:Nat) (s:ArS) (hs:s.ok) (l:Lay) (hl:l.err=0):
  aG Tryz.prog 101 #[.pointer (some ⟨pr,0,none⟩),.agg #[.int .i64 l.key,.int .i64 l.elem,.int .i64 l.ka,.int .i64 l.ea,.int .i64 l.cap,.int .i64 l.eo,.int .i64 l.bo,.int .i64 l.slot,.int .i64 l.group]] [bj pr s] (fun v L=>
   ((s.limit-s.live < aC (32+l.group))∧v=.tuple #[.pointer none,.int .i64 22]∧L= [bj pr s])∨
   (s.live+aC (32+l.group)≤s.limit∧∃ p,v=.tuple #[.pointer (some ⟨p,0,none⟩),.int .i64 0]∧L= [rsH pr l ⟨p,s.at (aC (32+l.group)),newS,false,false⟩,bj pr (s.take (aC (32+l.group)))])):=by
 have hbd:=Lay.bnd hl
 have hmade:(madeCells #[.int .i64 0,.int .i64 0,.string ⟨#[]⟩,.string ⟨#[]⟩,.int .i64 0] (8*5)).toList=rowOf bH (bu newS.cells 8):=by
  rw[qA (f:=bH) (n:=8) Cell.empty #[.int .i64 0,.int .i64 0,.string ⟨#[]⟩,.string ⟨#[]⟩,.int .i64 0] rfl kJ (by decide)]
  rfl
 refine aq GS Tryz.func101 rfl rfl rfl fun Fr w0=>aR ?_
 refine sr<|aP rfl rfl fun b3=>asg rfl rfl<|asg rfl rfl<|lz<|mv rfl rfl<|l_q rfl (qfa 8 rfl bK rfl rfl yS3)<|l_q rfl (qld rfl yA3) ?_
 refine l_q rfl (ba rfl rfl) ?_
 refine lcf rfl rfl rfl (qY pr s hs (32+l.group)) ?_
 rintro v L' (⟨h1,rfl,rfl⟩ | ⟨h1,hb,rfl,rfl⟩ | ⟨h1,h2,hb,rfl,rfl⟩)
 refine bF ?_
 ·omega
 ·skip
  refine bF ?_
  refine mv rfl rfl<|l_q rfl (aa rfl ga) ?_
  refine l_q rfl (aa rfl ga) ?_
  refine asg rfl rfl<|asg rfl rfl<|lc<|ah<|sr<|mv rfl rfl<|l_q rfl (qi rfl rfl (aI ·))<|lc<|aA rfl (fun z=>?_) fun z=>?_
  ·refine sr<|mv rfl rfl<|asg rfl rfl<|asg rfl rfl<|lc<|rt<|fr2 rfl ([bj pr s]) (.tmp rfl) (.tmp rfl) ?_
   exact .inl ⟨by rcases hb with q | q;(omega);exact q,rfl,rfl⟩
  exact absurd (by decide) z
 refine bF ?_
 refine mv rfl rfl<|l_q rfl (aa rfl ga) ?_
 refine l_q rfl (aa rfl ga) ?_
 refine asg rfl rfl<|asg rfl rfl<|lc<|ah<|sr<|mv rfl rfl<|l_q rfl (qi rfl rfl (aI ·))<|lc<|aA rfl (fun z=>?_) fun z=>?_
 ·exact absurd rfl z
 refine al<|ak<|ah<|aS mixed ?_
 apply dq 0 rfl
 ·exact yq (ai rfl)
 apply dq 1 rfl
 ·exact yq (aK rfl cu aX)
 apply dq 2 rfl
 ·exact yq (ai rfl)
 refine an [] [2,1,0] 3 [] gO trivial (by kernel_rfl) (by kernel_rfl) fun Ex=>?_
 refine jI (sz:=5) (rowOf bH (bu newS.cells 8)) rfl rfl rfl Tryz.underlying43 yC (by omega) (by omega) hmade fun b22=>?_
 refine aj ?_
 apply n_d
 ·refine⟨?_,?_,?_,trivial⟩
  ·apply ya rfl rfl;exact yq (ai rfl)
  ·apply ya rfl rfl;exact yq (aK rfl cu aX)
  apply ya rfl rfl;exact yq (ai rfl)
 apply dq 4 rfl
 ·apply yq
  apply aQ rfl Hc G8
  apply aF.one
  ·repeat (first | exact aH.here | apply aH.there)
  ·rfl
  ·exact sa
  apply aF.all
  ·repeat (first | exact aH.here | apply aH.there)
  ·rfl
  ·simp
  ·exact sal
  apply aF.one
  ·repeat (first | exact aH.here | apply aH.there)
  ·rfl
  ·exact sa
  apply aF.one
  ·repeat (first | exact aH.here | apply aH.there)
  ·rfl
  ·exact sa
  exact aF.nil
 refine an [4,0,1,2] [] 5 [(23,_)] gO ⟨rfl,trivial⟩ (by kernel_rfl) (by kernel_rfl) fun Ex=>?_
 refine aP rfl rfl fun b24=>aj ?_
 apply n_d
 ·exact trivial
 refine an [] [] 6 [(24,_)] gO ⟨rfl,trivial⟩ (by kernel_rfl) (by kernel_rfl) fun Ex=>?_
 refine asg rfl rfl<|aj ?_
 apply n_d
 ·exact trivial
 refine an [] [] 7 [] gO trivial (by kernel_rfl) (by kernel_rfl) fun Ex=>?_
 refine asg rfl rfl<|aj ?_
 apply n_d
 ·exact trivial
 refine bd (by kernel_rfl) ?_
 refine ak<|rt ?_
 rw[show Int.toNat 8=8 from rfl]
 apply aJ (.inl rfl) ([rsH pr l ⟨b24,s.at (aC (32+l.group)),newS,false,false⟩,bj pr (s.take (aC (32+l.group)))])
 ·apply bS rfl
  ·exact .tmp rfl
  exact .tmp rfl
 ·exact .inr ⟨hb,b24,rfl,rfl⟩
 refine bB (x:=⟨b24,s.at (aC (32+l.group)),newS,false,false⟩) (.slice (some ⟨b22,0,none⟩) 8 8) ?_;refine show Ent _ (pt b24 (.cells #[.pointer (some ⟨pr,0,none⟩),.int .i64 l.key,.int .i64 l.elem,.int .i64 l.ka,.int .i64 l.ea,.int .i64 l.cap,.int .i64 l.eo,.int .i64 l.bo,.int .i64 l.slot,.int .i64 l.group,.int .i64 ((s.at (aC (32+l.group)):Nat):Int),.int .i64 0,.int .i64 0,.int .i64 0,.bool false,.bool false,.slice (some ⟨b22,0,none⟩) 8 8] 75 (0,0))::aE 142 5 (.slice (some ⟨b22,0,none⟩) 8 8) 8 (rowOf bH (bu newS.cells 8))::_) from ?_;(exact en)
theorem m9 (hash:ByteArray→Int) (cs:Nat→Cell):∀ i,jX 2 (ca hash cs i)
 | 0=>jX.new 2 0
 | i+1=>by
  cases hf:isFull (cs i) with
  | false=>rw[lW hf];exact m9 hash cs i
  | true=>
   rw[lY hf]
   exact(m9 hash cs i).put (EP (T:=ca hash cs i) (h:=hash (cs i).keyS) (key:=(cs i).keyS) (by decide:0 < 2) (fun g hg=>wu (e:=1) rfl hg) (cs i).elemS (cs i).birthI)
theorem jO (pr bq:Nat) (os:List (ByteArray×Int)) (hg:kE os) (hw:∀ o∈os,0≤o.2∧o.2 < 18446744073709551616) (s:ArS) (hs:s.ok) (l:Lay) (hl:l.err=0) (x:SR) (hok:x.dead=false→∀ i,i < 8→(x.S.cells i).ok l) (sd:Int) (hsd:0≤sd∧sd < 18446744073709551616) (C:Int) (hC:C=aC ((2*gN l:Nat):Int)):
  aG Tryz.prog 104 #[.pointer (some ⟨x.p,0,none⟩),.pointer (some ⟨bq,0,none⟩),.int .u64 sd] [rsH pr l x,roH bq os,bj pr s] (fun v L=>
   (x.dead=true∧v=.tuple #[.pointer none,.int .i64 24]∧L= [rsH pr l x,roH bq os,bj pr s])∨
   (x.dead=false∧s.limit-s.live < 64+C∧v=.tuple #[.pointer none,.int .i64 22]∧L= [rsH pr l x,roH bq os,bj pr s])∨
   (x.dead=false∧s.live+(64+C)≤s.limit∧∃ p,v=.tuple #[.pointer (some ⟨p,0,none⟩),.int .i64 0]∧L= [rtH pr l ⟨p,s.at 64,(s.take 64).at C,2,1,ca (bU (bN os) sd) x.S.cells 8,false,false⟩,rsH pr l x,roH bq os,bj pr ((s.take 64).take C)])):=by
 have hN:=eL hl
 have hg8:=hN.g_eq
 have hkk:=hN.k
 have hee:=hN.e
 have hgb:((2*gN l:Nat):Int)≤1048576:=by have:=hN.k1;have:=hN.e1;have:=hN.eo1;have:=hN.bo1;have:=hN.s_eq;omega
 have hNew:aG Tryz.prog 58 #[.pointer (some ⟨pr,0,none⟩),.agg #[.int .i64 l.key,.int .i64 l.elem,.int .i64 l.ka,.int .i64 l.ea,.int .i64 l.cap,.int .i64 l.eo,.int .i64 l.bo,.int .i64 l.slot,.int .i64 l.group],.int .i64 16,.int .i64 0] [bj pr s] (fun v L=>
   (s.limit-s.live < 64+C∧v=.tuple #[.pointer none,.int .i64 22]∧L= [bj pr s])∨
   (s.live+(64+C)≤s.limit∧∃ p,v=.tuple #[.pointer (some ⟨p,0,none⟩),.int .i64 0]∧L= [rtH pr l ⟨p,s.at 64,(s.take 64).at C,2,1,ca (bU (bN os) sd) x.S.cells 0,false,false⟩,bj pr ((s.take 64).take C)])):=
  (AZ pr s hs l hl 16 0 (by decide)).mono fun v L h=>by
   rcases h with⟨h0,_⟩ | ⟨_,h0,_⟩ | ⟨n,e,h1,h2,h3,h4,⟨h5,h6,h7⟩ | ⟨h5,h6,h7⟩⟩
   ·rw[show Probe.powB 16 8 65536=true by kernel_rfl] at h0;cases h0
   ·omega
   ·obtain rfl:n=2:=by omega
    refine .inl ⟨?_,h6,h7⟩
    rw[hC]
    rcases h5 with q | q
    ·omega
    exact q
   obtain rfl:n=2:=by omega
   obtain rfl:e=1:=by
    rcases e with _ | _ | e
    ·exact absurd h1 (by decide)
    ·rfl
    exfalso;rw[Nat.pow_succ,Nat.pow_succ] at h1;have:=Nat.two_pow_pos e;omega
   subst hC
   exact .inr ⟨h6,h7⟩
 refine aq GQ Tryz.func104 rfl rfl rfl fun Fr w0=>aR ?_
 refine dM .here fun vc=>?_
 refine cw (.there .here) fun _ hvc=>?_
 obtain⟨a0,cap,rfl,ha,_,_⟩:=hvc
 obtain⟨g0,rfl⟩:=ha (by decide)
 refine sr<|asg rfl rfl<|asg rfl rfl<|lc<|ah<|sr<|mv rfl rfl<|l_q rfl (ad rfl)<|l_q rfl (qfa 15 rfl cL rfl rfl yS4)<|l_q rfl (qld rfl yA4) ?_
 refine lc<|aA rfl (fun z=>?_) fun z=>?_
 ·refine sr<|asg rfl rfl<|asg rfl rfl<|lc<|rt ?_
  apply aJ (.inl rfl) ([rsH pr l x,roH bq os,bj pr s])
  ·apply bS rfl
   ·exact .tmp rfl
   exact .tmp rfl
  ·exact .inl ⟨z,rfl,rfl⟩
  refine bB (.slice (some ⟨g0,0,none⟩) 8 cap) ?_;(exact en)
 have hd:x.dead=false:=by simpa using z
 refine al<|ak<|ah<|aS mixed ?_
 apply dq 0 rfl
 ·exact yq (ai rfl)
 apply dq 1 rfl
 ·exact yq (ad rfl)
 apply dq 2 rfl
 ·exact yq (qfa 0 rfl cL rfl rfl rf)
 apply dq 3 rfl
 ·exact yq (qld rfl rh)
 apply dq 4 rfl
 ·exact yq (ai rfl)
 apply dq 5 rfl
 ·exact yq (ad rfl)
 apply dq 6 rfl
 ·exact yq (qfa 1 rfl cL rfl rfl aX)
 apply dq 7 rfl
 ·exact yq (aK rfl cu aX)
 refine an [3,7,2,6,1,5,0,4] [] 8 [(21,_),(25,_)] gO ⟨rfl,rfl,trivial⟩ (by kernel_rfl) (by kernel_rfl) fun Ex=>?_
 refine lcf rfl rfl rfl (hNew) ?_
 rintro v L' (⟨hb,rfl,rfl⟩ | ⟨hb,p,rfl,rfl⟩)
 refine bF ?_
 ·skip
  refine bF ?_
  refine aj ?_
  apply n_d
  ·exact trivial
  apply dq 9 rfl
  ·exact yq (ai rfl)
  apply dq 10 rfl
  ·exact yq (aa rfl ga)
  apply dq 11 rfl
  ·exact yq (aa rfl ga)
  refine an [10,9] [11] 12 [(27,_)] gO ⟨rfl,trivial⟩ (by kernel_rfl) (by kernel_rfl) fun Ex=>?_
  refine asg rfl rfl<|aj ?_
  apply n_d
  ·refine⟨?_,trivial⟩
   apply ya rfl rfl;exact yq (aa rfl ga)
  refine an [11] [] 13 [(28,_)] gO ⟨rfl,trivial⟩ (by kernel_rfl) (by kernel_rfl) fun Ex=>?_
  refine asg rfl rfl<|aj ?_
  apply n_d
  ·exact trivial
  refine bd (by kernel_rfl) ?_
  refine ak<|ah<|sr<|mv rfl rfl<|l_q rfl (qi rfl rfl (aI ·))<|lc<|aA rfl (fun y=>?_) fun y=>?_
  ·refine sr<|mv rfl rfl<|asg rfl rfl<|asg rfl rfl<|lc<|rt ?_
   apply aJ (.inl rfl) ([rsH pr l x,roH bq os,bj pr s])
   ·apply bS rfl
    ·exact .tmp rfl
    exact .tmp rfl
   ·exact .inr (.inl ⟨hd,hb,rfl,rfl⟩)
   refine bB (.slice (some ⟨g0,0,none⟩) 8 cap) ?_;(exact en)
  exact absurd (by decide) y
 refine bF ?_
 refine aj ?_
 apply n_d
 ·exact trivial
 apply dq 9 rfl
 ·exact yq (ai rfl)
 apply dq 10 rfl
 ·exact yq (aa rfl ga)
 apply dq 11 rfl
 ·exact yq (aa rfl ga)
 refine an [10,9] [11] 12 [(27,_)] gO ⟨rfl,trivial⟩ (by kernel_rfl) (by kernel_rfl) fun Ex=>?_
 refine asg rfl rfl<|aj ?_
 apply n_d
 ·refine⟨?_,trivial⟩
  apply ya rfl rfl;exact yq (aa rfl ga)
 refine an [11] [] 13 [(28,_)] gO ⟨rfl,trivial⟩ (by kernel_rfl) (by kernel_rfl) fun Ex=>?_
 refine asg rfl rfl<|aj ?_
 apply n_d
 ·exact trivial
 refine bd (by kernel_rfl) ?_
 refine ak<|ah<|sr<|mv rfl rfl<|l_q rfl (qi rfl rfl (aI ·))<|lc<|aA rfl (fun y=>?_) fun y=>?_
 ·exact absurd rfl y
 refine al<|ak<|ah<|sr<|asg rfl rfl<|lc<|ax ?_
 refine bw (fun i:Nat=>i≤8) (fun i=>[(0,.pointer (some ⟨x.p,0,none⟩)),(1,.pointer (some ⟨bq,0,none⟩)),(2,.int .u64 sd),(8,.pointer (some ⟨p,0,none⟩)),(10,.int .i64 (i:Nat))]) (fun i=>rtH pr l ⟨p,s.at 64,(s.take 64).at C,2,1,ca (bU (bN os) sd) x.S.cells i,false,false⟩::pt x.p (.cells #[.pointer (some ⟨pr,0,none⟩),.int .i64 l.key,.int .i64 l.elem,.int .i64 l.ka,.int .i64 l.ea,.int .i64 l.cap,.int .i64 l.eo,.int .i64 l.bo,.int .i64 l.slot,.int .i64 l.group,.int .i64 (x.off:Nat),.int .i64 x.S.used,.int .i64 x.S.pins,.int .i64 x.S.next,.bool (decide (x.S.kind=3)),.bool x.dead,(.slice (some ⟨g0,0,none⟩) 8 cap)] 75 (0,0))::aE 142 5 (.slice (some ⟨g0,0,none⟩) 8 cap) 8 (rowOf bH (bu x.S.cells 8))::roH bq os::bj pr ((s.take 64).take C)::Fr) (fun i=>8-i) 0 (Nat.zero_le _) ⟨rfl,rfl,rfl,rfl,rfl,trivial⟩ (by(exact en)) ?_
 intro i hi
 refine ah<|sr<|mv rfl rfl<|l_q rfl (qi rfl rfl (aU ·))<|lc<|aA rfl (fun h1=>?_) fun h1=>?_
 ·skip
  have hi8:i < 8:=by omega
  refine al<|ak<|ah<|ax<|sr<|mv rfl rfl<|l_q rfl (ad rfl)<|l_q rfl (qfa 16 rfl cL rfl rfl gQ)<|l_q rfl (qld rfl gR) ?_
  refine mv rfl rfl<|l_q rfl (aT rfl rfl g9 bx (by omega)) ?_
  apply l_q rfl
  ·apply eu (A:=aE 142 5 (.slice (some ⟨g0,0,none⟩) 8 cap) 8 (rowOf bH (bu x.S.cells 8))) (us:=[.int .i64 (x.S.cells i).kind,.int .i64 (x.S.cells i).tagI,.string (x.S.cells i).keyS,.string (x.S.cells i).elemS,.int .i64 (x.S.cells i).birthI]) rfl dh bx rfl
   ·exact tk
   exact kg hi8 _ (by omega)
  refine az rfl cK fun b11=>sta rfl rfl rfl bx rfl rfl ?_
  refine lz<|l_q rfl (qfa 0 rfl cQ rfl rfl yS3)<|l_q rfl (qld rfl yA3) ?_
  refine l_q rfl (qi rfl rfl (aZ ·))<|lc<|aA rfl (fun q=>?_) fun q=>?_
  ·skip
   have hf:isFull (x.S.cells i)=true:=kind2.1 q
   have hci:=hok hd i hi8
   obtain⟨t1,hc1⟩:=wx hf
   rw[hc1] at hci
   obtain⟨_,_,hks,hes,hb0,hb1⟩:=hci
   have hhb:=qG (rI hw) sd (x.S.cells i).keyS
   have hput:m8 l ⟨p,s.at 64,(s.take 64).at C,2,1,ca (bU (bN os) sd) x.S.cells i,false,false⟩ (bU (bN os) sd (x.S.cells i).keyS) (x.S.cells i).keyS (x.S.cells i).elemS (x.S.cells i).birthI=((eR 2 (ca (bU (bN os) sd) x.S.cells i) (bU (bN os) sd (x.S.cells i).keyS) (x.S.cells i).keyS (x.S.cells i).elemS (x.S.cells i).birthI).1,0,ca (bU (bN os) sd) x.S.cells (i+1)):=by
    unfold m8
    rw[lY hf]
    simp only[Bool.false_eq_true,if_false]
    rw[if_neg (show ¬ (((x.S.cells i).keyS.size:Nat):Int)≠l.key by omega),if_neg (show ¬ (((x.S.cells i).elemS.size:Nat):Int)≠l.elem by omega),if_neg (by omega)]
   have hP:=Cz pr l ⟨p,s.at 64,(s.take 64).at C,2,1,ca (bU (bN os) sd) x.S.cells i,false,false⟩ (show(2:Nat)≤8192 by decide) (m9 _ _ i) (show 0 < 2 by decide) _ hhb (x.S.cells i).keyS (x.S.cells i).elemS (x.S.cells i).birthI
   rw[hput] at hP
   refine sr<|mv rfl rfl<|mv rfl rfl<|l_q rfl (qfa 2 rfl cQ rfl rfl yS9)<|l_q rfl (qld rfl yA9) ?_
   refine lc1 rfl rfl rfl (A1 bq os hg sd hsd (x.S.cells i).keyS (by have:=hN.k1;omega)) ?_
   refine asg rfl rfl<|lr<|mv rfl rfl<|mv rfl rfl<|l_q rfl (qfa 2 rfl cQ rfl rfl yS9)<|l_q rfl (qld rfl yA9) ?_
   refine l_q rfl (qfa 3 rfl cQ rfl rfl yS9)<|l_q rfl (qld rfl yA9) ?_
   refine l_q rfl (qfa 4 rfl cQ rfl rfl yS3)<|l_q rfl (qld rfl yA3) ?_
   refine lc1 rfl rfl rfl (hP) ?_
   refine aj<|aV<|ak<|aB<|mv rfl rfl<|l_q rfl (ba rfl rfl) ?_
   refine asg rfl rfl<|aj ?_
   apply aO ((i+1))
   ·exact(show i+1≤8 by omega)
   ·omega
   ·exact⟨rfl,rfl,rfl,rfl,rfl,trivial⟩
   exact en
  have hf:isFull (x.S.cells i)=false:=by
   cases hf:isFull (x.S.cells i) with
   | true=>exact absurd (kind2.2 hf) q
   | false=>rfl
  rw[← lW (hash:=bU (bN os) sd) hf]
  refine al<|aV<|ak<|aB<|mv rfl rfl<|l_q rfl (ba rfl rfl) ?_
  refine asg rfl rfl<|aj ?_
  apply aO ((i+1))
  ·exact(show i+1≤8 by omega)
  ·omega
  ·exact⟨rfl,rfl,rfl,rfl,rfl,trivial⟩
  exact en
 obtain rfl:i=8:=by omega
 refine xt rfl<|nz<|mv rfl rfl<|asg rfl rfl<|asg rfl rfl<|lc<|rt ?_
 apply aJ (.inl rfl) ([rtH pr l ⟨p,s.at 64,(s.take 64).at C,2,1,ca (bU (bN os) sd) x.S.cells 8,false,false⟩,rsH pr l x,roH bq os,bj pr ((s.take 64).take C)])
 ·apply bS rfl
  ·exact .tmp rfl
  exact .tmp rfl
 ·exact .inr (.inr ⟨hd,hb,p,rfl,rfl⟩)
 intro w h;have h2:=bB (.slice (some ⟨g0,0,none⟩) 8 cap) (R:=rtH pr l ⟨p,s.at 64,(s.take 64).at C,2,1,ca (bU (bN os) sd) x.S.cells 8,false,false⟩::roH bq os::bj pr ((s.take 64).take C)::Fr) (by(exact en)) w h;exact(show Ent (rsH pr l x::rtH pr l ⟨p,s.at 64,(s.take 64).at C,2,1,ca (bU (bN os) sd) x.S.cells 8,false,false⟩::roH bq os::bj pr ((s.take 64).take C)::Fr) _ by(exact en)) w h2
end Small
end
end Go.Proofs.YthkajgkagnenbaaGreatDoor
