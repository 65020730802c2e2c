import Derived.Test.YthkajgkagnenbaaGreatDoorExact11W
set_option linter.unusedVariables false
set_option linter.unusedSimpArgs false
set_option linter.unusedSectionVars false
set_option maxRecDepth 100000
namespace Go.Proofs.YthkajgkagnenbaaGreatDoor
namespace Exact11
open Go.RowKit Go.Proofs Eng Ty Bits Mem Search Arena CtrlB Ctrl Layout GroupB Group TableB TableI Table Cells Refill Small RefA
theorem ofDec {p:Prop} {i:Decidable p} (h:decide p=true):p:=of_decide_eq_true h
theorem m4 {pr:Nat} {l:Lay} {x:SR} {A:HP} (v:Value) {L R:List HP} (he:Ent L (pt x.p (.cells #[.pointer (some ⟨pr,0,none⟩),.int .i64 l.key,.int .i64 l.elem,.int .i64 l.ka,.int .i64 l.ea,.int .i64 l.cap,.int .i64 l.eo,.int .i64 l.bo,.int .i64 l.slot,.int .i64 l.group,.int .i64 (x.off:Nat),.int .i64 x.S.used,.int .i64 x.S.pins,.int .i64 x.S.next,.bool (decide (x.S.kind=3)),.bool x.dead,v] 75 (0,0))::aE 142 5 v 8 (rowOf bH (bu x.S.cells 8))::A::R)):Ent L (A::rsH pr l x::R):=fun w h=>(bB v he w h).perm (List.Perm.swap _ _ _)
section
variable (pa pr:Nat) (s:ArS) (hs:s.ok) (l:Lay) (hl:l.err=0) (x:SR) (hO:l9 s l x) (hov:x.over=false)
include hs hl hO hov
theorem sV (most:Int) (hd:x.dead=false):aG Tryz.prog 125 #[.agg #[.pointer (some ⟨pa,0,none⟩),.int .i64 l.key,.int .i64 l.elem,.int .i64 l.ka,.int .i64 l.ea,.int .i64 l.cap,.int .i64 l.eo,.int .i64 l.bo,.int .i64 l.slot,.int .i64 l.group,.int .i64 (x.off:Nat)],.pointer (some ⟨x.p,0,none⟩),.int .i64 most] [ae pa s,rsH pr l x] (fun v L=>v=.bool true∧L= [ae pa s,rsH pr l x]):=by
 have hP:=(hO.live hd).1
 have hus:=hO.rng.used
 have hcle:=rY isFull x.S.cells 8
 refine aq C9 Tryz.func125 rfl rfl rfl fun Fr w0=>aR ?_
 refine dM (.there .here) fun vc=>?_
 refine cw (.there .here) fun _ hvc=>?_
 obtain⟨a0,cap,rfl,ha,_,_⟩:=hvc
 obtain⟨g0,rfl⟩:=ha (by decide)
 rw[hd]
 refine sr<|aP rfl rfl fun b3=>fL rfl rfl rfl fun b4=>fL rfl rfl rfl fun b5=>dN rfl yZ4 rfl fun b6=>lz<|dN rfl yZ3 rfl fun b7=>dN rfl yZ3 rfl fun b8=>st rfl rfl rfl yS3 rfl ?_
 refine st rfl rfl rfl yS3 rfl ?_
 refine lz<|l_q rfl (aK rfl cd bM) ?_
 refine lcf rfl rfl rfl (nv pa x.off l) ?_
 rintro v L' ⟨bc,rfl,rfl⟩
 refine bF ?_
 refine asg rfl rfl<|lc<|ah<|sr<|mv rfl rfl<|l_q rfl (fz rfl rfl (Ag ·) (wG · CL))<|lc<|bR rfl<|al<|ak<|ah<|sr<|mv rfl rfl<|lc<|ax ?_
 apply oj (p:=(fun k (a:Int)=>∀ i,i < 8→cnt isFull x.S.cells i=k→a < ((i:Nat):Int))) (J:=(fun k a=>[pt b7 (.cells #[.int .i64 (k:Nat)] 3 (0,0)),pt b8 (.cells #[.int .i64 a] 3 (0,0)),pt b6 (.cells #[.bool false] 4 (0,0)),pt b5 (.cells #[.int .i64 most] 3 (0,0)),pt b4 (.cells #[.pointer (some ⟨x.p,0,none⟩)] 71 (0,0)),pt x.p (.cells #[.pointer (some ⟨pr,0,none⟩),.int .i64 l.key,.int .i64 l.elem,.int .i64 l.ka,.int .i64 l.ea,.int .i64 l.cap,.int .i64 l.eo,.int .i64 l.bo,.int .i64 l.slot,.int .i64 l.group,.int .i64 (x.off:Nat),.int .i64 x.S.used,.int .i64 x.S.pins,.int .i64 x.S.next,.bool (decide (x.S.kind=3)),.bool false,(.slice (some ⟨g0,0,none⟩) 8 cap)] 75 (0,0)),aE 142 5 (.slice (some ⟨g0,0,none⟩) 8 cap) 8 (rowOf bH (bu x.S.cells 8)),ae pa s])) (q:=(fun k (y:Code×Int)=>y.1=.ret∧True)) (Jx:=(fun k _=>[pt b6 (.cells #[.bool true] 4 (0,0)),pt x.p (.cells #[.pointer (some ⟨pr,0,none⟩),.int .i64 l.key,.int .i64 l.elem,.int .i64 l.ka,.int .i64 l.ea,.int .i64 l.cap,.int .i64 l.eo,.int .i64 l.bo,.int .i64 l.slot,.int .i64 l.group,.int .i64 (x.off:Nat),.int .i64 x.S.used,.int .i64 x.S.pins,.int .i64 x.S.next,.bool (decide (x.S.kind=3)),.bool false,(.slice (some ⟨g0,0,none⟩) 8 cap)] 75 (0,0)),aE 142 5 (.slice (some ⟨g0,0,none⟩) 8 cap) 8 (rowOf bH (bu x.S.cells 8)),ae pa s])) (x0:=(-1:Int)) (hc:=qU pa x.off bc s l x.S hP) (hr:=rfl) (hg:=rfl)
 ·exact pk
 ·exact(fun i _ _=>by omega)
 ·(try dsimp only);(try simp only[Int.natCast_zero,Nat.sub_zero]);exact pk
 ·(try dsimp only);(try simp only[Int.natCast_zero,Nat.sub_zero]);exact pk
 ·rfl
 ·exact o7
 ·rintro l' rc Fr' w1 k xx a hrd hpn hx hinv
  have hkl:=(List.getElem?_eq_some_iff.1 hx).1
  rw[gi] at hkl
  obtain⟨i1,hi8,hfi,hck,rfl⟩:=qR hx
  have hai:=hinv i1 hi8 hck
  refine aR ?_
  refine sr<|asg rfl rfl<|lr<|az rfl cK fun b11=>sta rfl rfl rfl bx rfl rfl ?_
  refine aj ?_
  apply mA
  ·exact tk
  ·assumption
  refine ax<|ah<|ah<|aS mixed ?_
  apply dq 0 rfl
  ·exact yq (ai rfl)
  apply dq 1 rfl
  ·exact yq (qld rfl yA3)
  apply dq 2 rfl
  ·exact yq (qi rfl rfl (iw ·))
  apply dq 3 rfl
  ·exact yq (ai rfl)
  refine jW (t:=22) rfl (fun p1=>?_) fun p1=>?_
  ·omega
  apply dq 4 rfl
  ·exact bE rfl rfl (ai rfl)
  apply dq 5 rfl
  ·exact bE rfl rfl (qi rfl rfl (cU ·))
  apply dq 6 rfl
  ·exact yq (aL rfl rfl)
  apply dq 7 rfl
  ·exact yq (ai rfl)
  refine jW (t:=26) rfl (fun p2=>?_) fun p2=>?_
  ·omega
  apply dq 8 rfl
  ·exact bE rfl rfl (qld rfl ee)
  apply dq 9 rfl
  ·exact bE rfl rfl (ad rfl)
  apply dq 10 rfl
  ·exact bE rfl rfl (qfa 15 rfl cL rfl rfl yS4)
  apply dq 11 rfl
  ·exact bE rfl rfl (qld rfl yA4)
  apply dq 12 rfl
  ·exact yq (aL rfl rfl)
  apply dq 13 rfl
  ·exact yq (ai rfl)
  refine jW (t:=32) rfl (fun p3=>?_) fun p3=>?_
  ·cases p3
  apply dq 14 rfl
  ·exact bE rfl rfl (qld rfl ee)
  apply dq 15 rfl
  ·exact bE rfl rfl (ad rfl)
  apply dq 16 rfl
  ·exact bE rfl rfl (qfa 16 rfl cL rfl rfl gQ)
  apply dq 17 rfl
  ·exact bE rfl rfl (qld rfl gR)
  apply dq 18 rfl
  ·exact bE rfl rfl (ai rfl)
  apply dq 19 rfl
  ·exact bE rfl rfl (aT rfl rfl g9 bx (by omega))
  apply dq 20 rfl
  ·apply bE rfl rfl
   apply eu (A:=aE 142 5 (.slice (some ⟨g0,0,none⟩) 8 cap) 8 (rowOf bH (bu x.S.cells 8))) (us:=[.int .i64 (x.S.cells i1).kind,.int .i64 (x.S.cells i1).tagI,.string (x.S.cells i1).keyS,.string (x.S.cells i1).elemS,.int .i64 (x.S.cells i1).birthI]) rfl dh bx rfl
   ·exact tk
   exact kg hi8 _ (by omega)
  apply dq 21 rfl
  ·exact bE rfl rfl (aK rfl dh bx)
  apply dq 22 rfl
  ·exact bE rfl rfl (fz rfl rfl (l5 · yF) fun w=>x6 w cQ yE (by kernel_rfl) (by kernel_rfl))
  apply dq 23 rfl
  ·exact yq (aL rfl rfl)
  apply dq 24 rfl
  ·exact yq (ai rfl)
  refine jW (t:=43) rfl (fun p4=>?_) fun p4=>?_
  ·exact absurd rfl (ofDec p4)
  apply dq 25 rfl
  ·exact bE rfl rfl (qfa 0 rfl cQ rfl rfl yS3)
  apply dq 26 rfl
  ·exact bE rfl rfl (qld rfl yA3)
  apply dq 27 rfl
  ·exact bE rfl rfl (qi rfl rfl (aI ·))
  apply dq 28 rfl
  ·exact yq (aL rfl rfl)
  refine bd (by kernel_rfl) ?_
  refine ak<|aA rfl (fun p5=>?_) fun p5=>?_
  ·exact absurd ((Small.kind2).2 hfi) p5
  refine al<|nz<|mv rfl rfl<|st rfl rfl rfl yS3 rfl ?_
  refine lz<|l_q rfl (qld rfl yA3) ?_
  refine l_q rfl (ba rfl rfl) ?_
  refine st rfl rfl rfl yS3 rfl ?_
  refine lz<|l_q rfl (qld rfl yA3) ?_
  refine l_q rfl (qld rfl yA3) ?_
  refine l_q rfl (qi rfl rfl (aZ ·))<|lc<|aA rfl (fun p6=>?_) fun p6=>?_
  ·refine sr<|st rfl rfl rfl yS4 rfl ?_
   refine lc<|rt ?_
   apply lV (.inl ⟨rfl,rfl⟩) (a) (⟨rfl,trivial⟩)
   exact en
  refine al<|aV ?_
  apply lU (by assumption) (by assumption) (((i1:Nat):Int)) (fun i hi8 he=>by rcases Nat.lt_or_ge i1 i with q | q;omega;(have:=mL (p:=isFull) (cs:=x.S.cells) q;omega))
  exact en
 ·rintro b1' a ha2
  refine nQ ?_
  refine aV<|ak<|ah<|aS mixed ?_
  apply dq 0 rfl
  ·exact yq (qld rfl ee)
  apply dq 1 rfl
  ·exact yq (ad rfl)
  apply dq 2 rfl
  ·exact yq (qfa 15 rfl cL rfl rfl yS4)
  apply dq 3 rfl
  ·exact yq (qld rfl yA4)
  apply dq 4 rfl
  ·exact yq (ai rfl)
  refine jW (t:=58) rfl (fun p1=>?_) fun p1=>?_
  ·cases p1
  apply dq 5 rfl
  ·exact dH rfl rfl rfl (by intro k;simp)
  apply dq 6 rfl
  ·exact dH rfl rfl rfl (by intro k;simp)
  apply dq 7 rfl
  ·exact yq (aL rfl rfl)
  apply dq 8 rfl
  ·exact yq (ai rfl)
  apply dq 9 rfl
  ·exact bE rfl rfl (qld rfl ee)
  apply dq 10 rfl
  ·exact bE rfl rfl (ad rfl)
  apply dq 11 rfl
  ·exact bE rfl rfl (qfa 15 rfl cL rfl rfl yS4)
  apply dq 12 rfl
  ·exact bE rfl rfl (qld rfl yA4)
  apply dq 13 rfl
  ·exact bE rfl rfl (cX rfl (bY ·))
  apply dq 14 rfl
  ·exact bE rfl rfl (ai rfl)
  refine jW (t:=68) rfl (fun p2=>?_) fun p2=>?_
  ·apply dq 15 rfl
   ·exact bE rfl rfl (qld rfl yA3)
   apply dq 16 rfl
   ·exact bE rfl rfl (qld rfl ee)
   apply dq 17 rfl
   ·exact bE rfl rfl (ad rfl)
   apply dq 18 rfl
   ·exact bE rfl rfl (qfa 11 rfl cL rfl rfl yS3)
   apply dq 19 rfl
   ·exact bE rfl rfl (qld rfl yA3)
   apply dq 20 rfl
   ·exact bE rfl rfl (qi rfl rfl (aZ ·))
   apply dq 21 rfl
   ·exact bE rfl rfl (aL rfl rfl)
   apply dq 22 rfl
   ·exact yq (aL rfl rfl)
   refine an [22,14,0,1,2,3,4,5,6,7,8,9,10,11,12,13,15,16,17,18,19,20,21] [] 23 [(6,_),(76,_)] gO ⟨rfl,rfl,trivial⟩ (by kernel_rfl) (by kernel_rfl) fun Ex=>?_
   refine st rfl rfl rfl yS4 rfl ?_
   refine aj ?_
   apply n_d
   ·exact trivial
   refine bd (by kernel_rfl) ?_
   refine ak<|rt ?_
   apply kG (.inl rfl) [b1'] ([ae pa s,rsH pr l x])
   ·repeat (first | with_reducible exact eX.nil | apply eX.cons | with_reducible exact Take.here | apply Take.there)
   ·apply cO rfl
    apply Rv.cellL rfl
    ·exact tk
    ·exact ga
    exact yA4
   ·exact⟨by rw[decide_eq_true (by rw[gi];exact hus.symm)],rfl⟩
   refine m4 (.slice (some ⟨g0,0,none⟩) 8 cap) ?_;rw[hd];(exact en)
  cases p2
 rintro b1' k ⟨jc,y⟩ hk ⟨rfl,_⟩
 refine aR ?_
 refine rt ?_
 apply kG (.inl rfl) [b1'] ([ae pa s,rsH pr l x])
 ·repeat (first | with_reducible exact eX.nil | apply eX.cons | with_reducible exact Take.here | apply Take.there)
 ·apply cO rfl
  apply Rv.cellL rfl
  ·exact tk
  ·exact ga
  exact yA4
 ·exact⟨rfl,rfl⟩
 refine m4 (.slice (some ⟨g0,0,none⟩) 8 cap) ?_;rw[hd];(exact en)
theorem ry (bc:Nat) (hd:x.dead=true):nL Tryz.prog 218 #[.pointer (some ⟨bc,0,none⟩)] [pt bc (.cells #[.pointer (some ⟨pa,0,none⟩),.int .i64 l.key,.int .i64 l.elem,.int .i64 l.ka,.int .i64 l.ea,.int .i64 l.cap,.int .i64 l.eo,.int .i64 l.bo,.int .i64 l.slot,.int .i64 l.group,.int .i64 (x.off:Nat)] 70 (0,0))] [ae pa s] [] [pt bc (.cells #[.pointer (some ⟨pa,0,none⟩),.int .i64 l.key,.int .i64 l.elem,.int .i64 l.ka,.int .i64 l.ea,.int .i64 l.cap,.int .i64 l.eo,.int .i64 l.bo,.int .i64 l.slot,.int .i64 l.group,.int .i64 (x.off:Nat)] 70 (0,0))] [pt bc (.cells #[.pointer (some ⟨pa,0,none⟩),.int .i64 l.key,.int .i64 l.elem,.int .i64 l.ka,.int .i64 l.ea,.int .i64 l.cap,.int .i64 l.eo,.int .i64 l.bo,.int .i64 l.slot,.int .i64 l.group,.int .i64 (x.off:Nat)] 70 (0,0))]:=by
 obtain⟨hng,hne⟩:=hO.not hs hd hov
 refine⟨wC,fun l' B S' C hC hY=>?_⟩
 show aG _ _ #[.func (.yield l') #[] #[],.pointer (some ⟨bc,0,none⟩)] _ _
 refine aq wC Tryz.func218 rfl rfl rfl fun Fr w0=>aR ?_
 refine sr<|az rfl CI fun b3=>lc<|ah<|sr<|mv rfl rfl<|lc<|ax ?_
 refine bw (fun i:Nat=>i=0) (fun i=>[(0,.func (.yield l') #[] #[]),(1,.pointer (some ⟨bc,0,none⟩)),(3,.pointer (some ⟨b3,0,none⟩)),(9,.int .i64 (i:Nat))]) (fun i=>pt b3 (.cells (nr (tO x.S.cells 0)).toArray 284 (0,0))::pt bc (.cells #[.pointer (some ⟨pa,0,none⟩),.int .i64 l.key,.int .i64 l.elem,.int .i64 l.ka,.int .i64 l.ea,.int .i64 l.cap,.int .i64 l.eo,.int .i64 l.bo,.int .i64 l.slot,.int .i64 l.group,.int .i64 (x.off:Nat)] 70 (0,0))::ae pa s::(C ++ Fr)) (fun i=>8-i) 0 rfl ⟨rfl,rfl,rfl,rfl,trivial⟩ (by(exact en)) ?_
 rintro i rfl
 refine sr<|l_q rfl (qi rfl rfl (aU ·))<|lc<|ah<|aA rfl (fun h=>?_) fun h=>?_
 ·refine al<|ak<|ah<|ax<|sr<|mv rfl rfl<|asg rfl rfl<|lz<|l_q rfl (aK rfl cd bM) ?_
  refine mv rfl rfl<|lc1 rfl rfl rfl (pA pa x.off s l hng hne hO.place _) ?_
  refine mv rfl rfl<|l_q rfl (aa rfl ga) ?_
  refine l_q rfl (aa rfl ga) ?_
  refine az rfl cK fun b5=>sta rfl rfl rfl bx rfl rfl ?_
  refine asg rfl rfl<|lc<|ah<|sr<|mv rfl rfl<|l_q rfl (qi rfl rfl (aI ·))<|lc<|aA rfl (fun z=>?_) fun z=>?_
  ·skip
   refine fw (L':=B (List.length ([]:List (List Value)))::pt bc (.cells #[.pointer (some ⟨pa,0,none⟩),.int .i64 l.key,.int .i64 l.elem,.int .i64 l.ka,.int .i64 l.ea,.int .i64 l.cap,.int .i64 l.eo,.int .i64 l.bo,.int .i64 l.slot,.int .i64 l.group,.int .i64 (x.off:Nat)] 70 (0,0))::Fr) (fun w hw=>?_) ?_
   ·have h1:Sat (stars (pt bc (.cells #[.pointer (some ⟨pa,0,none⟩),.int .i64 l.key,.int .i64 l.elem,.int .i64 l.ka,.int .i64 l.ea,.int .i64 l.cap,.int .i64 l.eo,.int .i64 l.bo,.int .i64 l.slot,.int .i64 l.group,.int .i64 (x.off:Nat)] 70 (0,0))::ae pa s::(C ++ Fr))) w:=(show Ent _ _ by(exact en)) w hw
    exact hC _ _ (h1.perm (List.perm_append_comm_assoc [pt bc (.cells #[.pointer (some ⟨pa,0,none⟩),.int .i64 l.key,.int .i64 l.elem,.int .i64 l.ka,.int .i64 l.ea,.int .i64 l.cap,.int .i64 l.eo,.int .i64 l.bo,.int .i64 l.slot,.int .i64 l.group,.int .i64 (x.off:Nat)] 70 (0,0))] (ae pa s::C) Fr))
   refine rt ?_
   apply aJ (.inl rfl) (_)
   ·exact pM rfl
   ·exact .inl rfl
   exact en
  exact absurd z (by decide)
 omega
theorem sW (most:Int) (hd:x.dead=true):aG Tryz.prog 125 #[.agg #[.pointer (some ⟨pa,0,none⟩),.int .i64 l.key,.int .i64 l.elem,.int .i64 l.ka,.int .i64 l.ea,.int .i64 l.cap,.int .i64 l.eo,.int .i64 l.bo,.int .i64 l.slot,.int .i64 l.group,.int .i64 (x.off:Nat)],.pointer (some ⟨x.p,0,none⟩),.int .i64 most] [ae pa s,rsH pr l x] (fun v L=>v=.bool true∧L= [ae pa s,rsH pr l x]):=by
 refine aq C9 Tryz.func125 rfl rfl rfl fun Fr w0=>aR ?_
 refine dM (.there .here) fun vc=>?_
 rw[hd]
 refine sr<|aP rfl rfl fun b3=>fL rfl rfl rfl fun b4=>fL rfl rfl rfl fun b5=>dN rfl yZ4 rfl fun b6=>lz<|dN rfl yZ3 rfl fun b7=>dN rfl yZ3 rfl fun b8=>st rfl rfl rfl yS3 rfl ?_
 refine st rfl rfl rfl yS3 rfl ?_
 refine lz<|l_q rfl (aK rfl cd bM) ?_
 refine lcf rfl rfl rfl (nv pa x.off l) ?_
 rintro v L' ⟨bc,rfl,rfl⟩
 refine bF ?_
 refine asg rfl rfl<|lc<|ah<|sr<|mv rfl rfl<|l_q rfl (fz rfl rfl (Ag ·) (wG · CL))<|lc<|bR rfl<|al<|ak<|ah<|sr<|mv rfl rfl<|lc<|ax ?_
 apply oj (p:=(fun k (_:Unit)=>True)) (J:=(fun k _=>[pt b7 (.cells #[.int .i64 0] 3 (0,0)),pt b6 (.cells #[.bool false] 4 (0,0)),pt b4 (.cells #[.pointer (some ⟨x.p,0,none⟩)] 71 (0,0)),pt x.p (.cells #[.pointer (some ⟨pr,0,none⟩),.int .i64 l.key,.int .i64 l.elem,.int .i64 l.ka,.int .i64 l.ea,.int .i64 l.cap,.int .i64 l.eo,.int .i64 l.bo,.int .i64 l.slot,.int .i64 l.group,.int .i64 (x.off:Nat),.int .i64 x.S.used,.int .i64 x.S.pins,.int .i64 x.S.next,.bool (decide (x.S.kind=3)),.bool true,vc] 75 (0,0)),aE 142 5 vc 8 (rowOf bH (bu x.S.cells 8)),ae pa s])) (q:=(fun k (y:Code×Unit)=>False)) (Jx:=(fun _ _=>[])) (x0:=()) (hc:=ry pa s hs l hl x hO hov bc hd) (hr:=rfl) (hg:=rfl)
 ·exact pk
 ·trivial
 ·(try dsimp only);(try simp only[Int.natCast_zero,Nat.sub_zero]);exact pk
 ·(try dsimp only);(try simp only[Int.natCast_zero,Nat.sub_zero]);exact pk
 ·rfl
 ·exact fun x hx=>(by cases hx)
 ·rintro l' rc Fr' w1 k xx _ hrd hpn hx _
  simp at hx
 ·rintro b1' _ _
  refine nQ ?_
  refine aV<|ak<|ah<|aS mixed ?_
  apply dq 0 rfl
  ·exact yq (qld rfl ee)
  apply dq 1 rfl
  ·exact yq (ad rfl)
  apply dq 2 rfl
  ·exact yq (qfa 15 rfl cL rfl rfl yS4)
  apply dq 3 rfl
  ·exact yq (qld rfl yA4)
  apply dq 4 rfl
  ·exact yq (ai rfl)
  refine jW (t:=58) rfl (fun p1=>?_) fun p1=>?_
  ·apply dq 5 rfl
   ·exact bE rfl rfl (qld rfl yA3)
   apply dq 6 rfl
   ·exact bE rfl rfl (qi rfl rfl (aZ ·))
   apply dq 7 rfl
   ·exact yq (aL rfl rfl)
   apply dq 8 rfl
   ·exact yq (ai rfl)
   refine jW (t:=62) rfl (fun p2=>?_) fun p2=>?_
   ·apply dq 9 rfl
    ·exact dH rfl rfl rfl (by intro k;simp)
    apply dq 10 rfl
    ·exact dH rfl rfl rfl (by intro k;simp)
    apply dq 11 rfl
    ·exact dH rfl rfl rfl (by intro k;simp)
    apply dq 12 rfl
    ·exact dH rfl rfl rfl (by intro k;simp)
    apply dq 13 rfl
    ·exact dH rfl rfl rfl (by intro k;simp)
    apply dq 14 rfl
    ·exact dH rfl rfl rfl (by intro k;simp)
    apply dq 15 rfl
    ·exact kO rfl rfl (by intro k;simp)
    apply dq 16 rfl
    ·exact kO rfl rfl (by intro k;simp)
    apply dq 17 rfl
    ·exact kO rfl rfl (by intro k;simp)
    apply dq 18 rfl
    ·exact kO rfl rfl (by intro k;simp)
    apply dq 19 rfl
    ·exact kO rfl rfl (by intro k;simp)
    apply dq 20 rfl
    ·exact kO rfl rfl (by intro k;simp)
    apply dq 21 rfl
    ·exact dH rfl rfl rfl (by intro k;simp)
    apply dq 22 rfl
    ·exact yq (aL rfl rfl)
    refine an [22,14,0,1,2,3,4,5,6,7,8,9,10,11,12,13,15,16,17,18,19,20,21] [] 23 [(6,_),(76,_)] gO ⟨rfl,rfl,trivial⟩ (by kernel_rfl) (by kernel_rfl) fun Ex=>?_
    refine st rfl rfl rfl yS4 rfl ?_
    refine aj ?_
    apply n_d
    ·exact trivial
    refine bd (by kernel_rfl) ?_
    refine ak<|rt ?_
    apply kG (.inl rfl) [b1'] ([ae pa s,rsH pr l x])
    ·repeat (first | with_reducible exact eX.nil | apply eX.cons | with_reducible exact Take.here | apply Take.there)
    ·apply cO rfl
     apply Rv.cellL rfl
     ·exact tk
     ·exact ga
     exact yA4
    ·exact⟨rfl,rfl⟩
    refine m4 vc ?_;rw[hd];(exact en)
   exact absurd rfl p2
  cases p1
 rintro b1' k ⟨jc,y⟩ hk hq
 exact hq.elim
theorem xb (most:Int):aG Tryz.prog 125 #[.agg #[.pointer (some ⟨pa,0,none⟩),.int .i64 l.key,.int .i64 l.elem,.int .i64 l.ka,.int .i64 l.ea,.int .i64 l.cap,.int .i64 l.eo,.int .i64 l.bo,.int .i64 l.slot,.int .i64 l.group,.int .i64 (x.off:Nat)],.pointer (some ⟨x.p,0,none⟩),.int .i64 most] [ae pa s,rsH pr l x] (fun v L=>v=.bool true∧L= [ae pa s,rsH pr l x]):=by
 cases hd:x.dead with
 | true=>exact sW pa pr s hs l hl x hO hov most hd
 | false=>exact sV pa pr s hs l hl x hO hov most hd
end
theorem lj (pa:Nat) (l:Lay) (off:Int):aG Tryz.prog 102 #[.agg #[.pointer (some ⟨pa,0,none⟩),.int .i64 l.key,.int .i64 l.elem,.int .i64 l.ka,.int .i64 l.ea,.int .i64 l.cap,.int .i64 l.eo,.int .i64 l.bo,.int .i64 l.slot,.int .i64 l.group,.int .i64 off]] [] (fun v L=>v=.int .i64 off∧L= []):=by
 refine aq GR Tryz.func102 rfl rfl rfl fun Fr w0=>aR ?_
 refine sr<|aP rfl rfl fun b1=>asg rfl rfl<|lz<|l_q rfl (qfa 10 rfl gP rfl rfl yS3)<|l_q rfl (qld rfl yA3) ?_
 exact asg rfl rfl<|lc<|rt<|fr1 rfl ([]) (.tmp rfl) ⟨rfl,rfl⟩
section
variable (G:HP) (hG:dz G) (pa pr:Nat) (s:ArS) (hs:s.ok) (l:Lay) (hl:l.err=0) (x:SR) (hO:l9 s l x) (hov:x.over=false)
include hG hs hl hO hov
theorem wZ (o:pC) (hw:o.wf):aG Tryz.prog 46 #[.agg #[.pointer (some ⟨pa,0,none⟩),.int .i64 l.key,.int .i64 l.elem,.int .i64 l.ka,.int .i64 l.ea,.int .i64 l.cap,.int .i64 l.eo,.int .i64 l.bo,.int .i64 l.slot,.int .i64 l.group,.int .i64 (x.off:Nat),.pointer (some ⟨x.p,0,none⟩),.bool x.over],.agg #[.int .i64 o.kind,.int .i64 o.s,.int .i64 o.n,.int .i64 o.tag,.int .u64 o.u,.string o.k,.string o.e]] [G,ae pa s,rsH pr l x] (fun v L=>v=.bool true∧L= [G,ae pa s,rsH pr l x]):=by
 have hr:=hO.rng
 refine aq HJ Tryz.func46 rfl rfl rfl fun Fr w0=>aR ?_
 refine sr<|aP rfl rfl fun b2=>aP rfl rfl fun b3=>asg rfl rfl<|lc<|ah<|sr<|l_q rfl (qfa 0 rfl dD rfl rfl yS3)<|l_q rfl (qld rfl yA3) ?_
 refine lc<|ax<|sr<|l_q rfl (qi rfl rfl (aZ ·))<|asg rfl rfl<|lc<|aA rfl (fun k1=>?_) fun k1=>?_
 ·refine sr<|l_q rfl (qfa 0 rfl c9 rfl rfl bM)<|l_q rfl (aK rfl cd bM) ?_
  refine l_q rfl (qfa 3 rfl dD rfl rfl yS3)<|l_q rfl (qld rfl yA3) ?_
  refine l_q rfl (qfa 5 rfl dD rfl rfl yS9)<|l_q rfl (qld rfl yA9) ?_
  refine lc1 rfl rfl rfl (G6 pa s hs l hl x hO hov G hG o.tag o.k) ?_
  refine mv rfl rfl<|l_q rfl (aa rfl ga) ?_
  refine l_q rfl (aa rfl ga) ?_
  refine asg rfl rfl<|asg rfl rfl<|lz<|l_q rfl (qfa 11 rfl c9 rfl rfl eZ)<|l_q rfl (qld rfl ee) ?_
  refine l_q rfl (qfa 3 rfl dD rfl rfl yS3)<|l_q rfl (qld rfl yA3) ?_
  refine l_q rfl (qfa 5 rfl dD rfl rfl yS9)<|l_q rfl (qld rfl yA9) ?_
  refine lc1 rfl rfl rfl (nw pr l x hl o.tag o.k) ?_
  refine mv rfl rfl<|l_q rfl (aa rfl ga) ?_
  refine l_q rfl (aa rfl ga) ?_
  refine asg rfl rfl<|asg rfl rfl<|lz<|mv rfl rfl<|mv rfl rfl<|l_q rfl (qi rfl rfl (aZ ·))<|mv rfl rfl<|bD (t:=48) rfl (fun z1=>?_) fun z1=>?_
  ·refine au rfl rfl<|mv rfl rfl<|au rfl rfl<|lc1 rfl rfl rfl (bW _) ?_
   refine au rfl rfl<|mv rfl rfl<|au rfl rfl<|l_q rfl (qi rfl rfl (aZ ·))<|l_q rfl (aL rfl rfl)<|asg rfl rfl<|lc<|rt<|fr1 rfl ([G,ae pa s,rsH pr l x]) (.tmp rfl) ?_
   exact⟨by rw[js rfl],rfl⟩
  exact absurd rfl z1
 refine sr<|l_q rfl (qi rfl rfl (aZ ·))<|asg rfl rfl<|lc<|aA rfl (fun k2=>?_) fun k2=>?_
 ·refine sr<|l_q rfl (qfa 0 rfl c9 rfl rfl bM)<|l_q rfl (aK rfl cd bM) ?_
  refine l_q rfl (qfa 3 rfl dD rfl rfl yS3)<|l_q rfl (qld rfl yA3) ?_
  refine l_q rfl (qfa 5 rfl dD rfl rfl yS9)<|l_q rfl (qld rfl yA9) ?_
  refine lc1 rfl rfl rfl (Ib pa s hs l hl x hO hov G hG o.tag o.k) ?_
  refine mv rfl rfl<|l_q rfl (aa rfl ga) ?_
  refine l_q rfl (aa rfl ga) ?_
  refine az rfl cK fun b9=>sta rfl rfl rfl bx rfl rfl ?_
  refine asg rfl rfl<|lz<|l_q rfl (qfa 11 rfl c9 rfl rfl eZ)<|l_q rfl (qld rfl ee) ?_
  refine l_q rfl (qfa 3 rfl dD rfl rfl yS3)<|l_q rfl (qld rfl yA3) ?_
  refine l_q rfl (qfa 5 rfl dD rfl rfl yS9)<|l_q rfl (qld rfl yA9) ?_
  refine lc1 rfl rfl rfl (AY pr l x hl o.tag o.k) ?_
  refine mv rfl rfl<|l_q rfl (aa rfl ga) ?_
  refine l_q rfl (aa rfl ga) ?_
  refine az rfl cK fun b11=>sta rfl rfl rfl bx rfl rfl ?_
  refine asg rfl rfl<|lz<|l_q rfl (aK rfl dh bx) ?_
  refine l_q rfl (aK rfl dh bx) ?_
  refine l_q rfl (fz rfl rfl (l5 · yF) fun w=>g7 w cQ yE (by kernel_rfl) (by kernel_rfl)) ?_
  refine mv rfl rfl<|bD (t:=79) rfl (fun z1=>?_) fun z1=>?_
  ·refine au rfl rfl<|mv rfl rfl<|au rfl rfl<|lc1 rfl rfl rfl (bW _) ?_
   refine au rfl rfl<|mv rfl rfl<|au rfl rfl<|l_q rfl (qi rfl rfl (aZ ·))<|l_q rfl (aL rfl rfl)<|asg rfl rfl<|lc<|rt<|fr1 rfl ([G,ae pa s,rsH pr l x]) (.tmp rfl) ?_
   exact⟨by rw[js rfl],rfl⟩
  exact absurd ((js rfl).symm.trans z1) (by decide)
 refine sr<|l_q rfl (qi rfl rfl (aZ ·))<|asg rfl rfl<|lc<|aA rfl (fun k3=>?_) fun k3=>?_
 ·skip
  have hst:=G3 pa s hs l hl x hO hov
  have hrt:=yh pr l x hr
  cases hd:x.dead with
  | true=>
   simp only[hd,if_pos] at hst hrt
   refine sr<|l_q rfl (qfa 0 rfl c9 rfl rfl bM)<|l_q rfl (aK rfl cd bM) ?_
   refine lc1 rfl rfl rfl (hst) ?_
   refine mv rfl rfl<|l_q rfl (aa rfl ga) ?_
   refine l_q rfl (aa rfl ga) ?_
   refine az rfl cE fun b13=>sta rfl rfl rfl bP rfl rfl ?_
   refine asg rfl rfl<|lz<|l_q rfl (qfa 11 rfl c9 rfl rfl eZ)<|l_q rfl (qld rfl ee) ?_
   refine lc1 rfl rfl rfl (hrt) ?_
   refine km tk fun vc=>?_
   refine mv rfl rfl<|l_q rfl (aa rfl ga) ?_
   refine l_q rfl (aa rfl ga) ?_
   refine az rfl cE fun b15=>sta rfl rfl rfl bP rfl rfl ?_
   refine asg rfl rfl<|lc<|ah<|aS mixed ?_
   apply dq 0 rfl
   ·exact yq (aK rfl fR bP)
   apply dq 1 rfl
   ·exact yq (aK rfl fR bP)
   apply dq 2 rfl
   ·exact yq (fz rfl rfl (l5 · CP) fun w=>g7 w nA CO (by kernel_rfl) (by kernel_rfl))
   apply dq 3 rfl
   ·exact yq (ai rfl)
   refine jW (t:=102) rfl (fun z1=>?_) fun z1=>?_
   ·apply dq 4 rfl
    ·exact bE rfl rfl (ai rfl)
    apply dq 6 rfl
    ·exact bE rfl rfl (ai rfl)
    refine an [4,3,2,0,1] [6] 5 [(103,_),(102,_)] gO ⟨rfl,rfl,trivial⟩ (by kernel_rfl) (by kernel_rfl) fun Ex=>?_
    refine au rfl rfl<|lc1 rfl rfl rfl (bW _) ?_
    refine aj ?_
    apply n_d
    ·refine⟨?_,trivial⟩
     apply ya rfl rfl;exact bE rfl rfl (ai rfl)
    apply dq 7 rfl
    ·exact bE rfl rfl (qi rfl rfl (aZ ·))
    apply dq 8 rfl
    ·exact yq (aL rfl rfl)
    apply dq 9 rfl
    ·exact yq (ai rfl)
    refine jW (t:=108) rfl (fun z2=>?_) fun z2=>?_
    ·apply dq 10 rfl
     ·exact bE rfl rfl (qfa 0 rfl c9 rfl rfl bM)
     apply dq 11 rfl
     ·exact bE rfl rfl (aK rfl cd bM)
     apply dq 13 rfl
     ·exact bE rfl rfl (qfa 11 rfl c9 rfl rfl eZ)
     apply dq 14 rfl
     ·exact bE rfl rfl (qld rfl ee)
     apply dq 15 rfl
     ·exact bE rfl rfl (ad rfl)
     apply dq 16 rfl
     ·exact bE rfl rfl (qfa 10 rfl cL rfl rfl yS3)
     apply dq 17 rfl
     ·exact bE rfl rfl (qld rfl yA3)
     refine an [11,9,10,8,7,6] [17,16,15,14,13] 12 [(110,_),(108,_)] gO ⟨rfl,rfl,trivial⟩ (by kernel_rfl) (by kernel_rfl) fun Ex=>?_
     refine au rfl rfl<|lc1 rfl rfl rfl (lj pa l (x.off:Nat)) ?_
     refine aj ?_
     apply n_d
     ·refine⟨?_,?_,?_,?_,?_,trivial⟩
      ·apply ya rfl rfl;exact bE rfl rfl (qld rfl yA3)
      ·apply ya rfl rfl;exact bE rfl rfl (qfa 10 rfl cL rfl rfl yS3)
      ·apply ya rfl rfl;exact bE rfl rfl (ad rfl)
      ·apply ya rfl rfl;exact bE rfl rfl (qld rfl ee)
      apply ya rfl rfl;exact bE rfl rfl (qfa 11 rfl c9 rfl rfl eZ)
     apply dq 18 rfl
     ·exact bE rfl rfl (qi rfl rfl (aZ ·))
     apply dq 19 rfl
     ·exact yq (aL rfl rfl)
     refine an [19,13,14,15,16,17,18] [] 20 [(118,_)] gO ⟨rfl,trivial⟩ (by kernel_rfl) (by kernel_rfl) fun Ex=>?_
     refine asg rfl rfl<|aj ?_
     apply n_d
     ·exact trivial
     refine bd (by kernel_rfl) ?_
     refine ak<|rt ?_
     apply aJ (.inl rfl) ([G,ae pa s,rsH pr l x])
     ·apply cO rfl
      exact .tmp rfl
     ·exact⟨by rw[js rfl],rfl⟩
     refine fun w h=>(show Ent (rsH pr l x::G::ae pa s::Fr) _ by(exact en)) w (bB (R:=G::ae pa s::Fr) vc (by(exact en)) w h)
    exact absurd rfl z2
   exact absurd ((js rfl).symm.trans z1) (by decide)
  | false=>
   simp only[hd,Bool.false_eq_true,if_false] at hst hrt
   refine sr<|l_q rfl (qfa 0 rfl c9 rfl rfl bM)<|l_q rfl (aK rfl cd bM) ?_
   refine lc1 rfl rfl rfl (hst) ?_
   refine mv rfl rfl<|l_q rfl (aa rfl ga) ?_
   refine l_q rfl (aa rfl ga) ?_
   refine az rfl cE fun b13=>sta rfl rfl rfl bP rfl rfl ?_
   refine asg rfl rfl<|lz<|l_q rfl (qfa 11 rfl c9 rfl rfl eZ)<|l_q rfl (qld rfl ee) ?_
   refine lc1 rfl rfl rfl (hrt) ?_
   refine km tk fun vc=>?_
   refine mv rfl rfl<|l_q rfl (aa rfl ga) ?_
   refine l_q rfl (aa rfl ga) ?_
   refine az rfl cE fun b15=>sta rfl rfl rfl bP rfl rfl ?_
   refine asg rfl rfl<|lc<|ah<|aS mixed ?_
   apply dq 0 rfl
   ·exact yq (aK rfl fR bP)
   apply dq 1 rfl
   ·exact yq (aK rfl fR bP)
   apply dq 2 rfl
   ·exact yq (fz rfl rfl (l5 · CP) fun w=>g7 w nA CO (by kernel_rfl) (by kernel_rfl))
   apply dq 3 rfl
   ·exact yq (ai rfl)
   refine jW (t:=102) rfl (fun z1=>?_) fun z1=>?_
   ·apply dq 4 rfl
    ·exact bE rfl rfl (ai rfl)
    apply dq 6 rfl
    ·exact bE rfl rfl (ai rfl)
    refine an [4,3,2,0,1] [6] 5 [(103,_),(102,_)] gO ⟨rfl,rfl,trivial⟩ (by kernel_rfl) (by kernel_rfl) fun Ex=>?_
    refine au rfl rfl<|lc1 rfl rfl rfl (bW _) ?_
    refine aj ?_
    apply n_d
    ·refine⟨?_,trivial⟩
     apply ya rfl rfl;exact bE rfl rfl (ai rfl)
    apply dq 7 rfl
    ·exact bE rfl rfl (qi rfl rfl (aZ ·))
    apply dq 8 rfl
    ·exact yq (aL rfl rfl)
    apply dq 9 rfl
    ·exact yq (ai rfl)
    refine jW (t:=108) rfl (fun z2=>?_) fun z2=>?_
    ·apply dq 10 rfl
     ·exact bE rfl rfl (qfa 0 rfl c9 rfl rfl bM)
     apply dq 11 rfl
     ·exact bE rfl rfl (aK rfl cd bM)
     apply dq 13 rfl
     ·exact bE rfl rfl (qfa 11 rfl c9 rfl rfl eZ)
     apply dq 14 rfl
     ·exact bE rfl rfl (qld rfl ee)
     apply dq 15 rfl
     ·exact bE rfl rfl (ad rfl)
     apply dq 16 rfl
     ·exact bE rfl rfl (qfa 10 rfl cL rfl rfl yS3)
     apply dq 17 rfl
     ·exact bE rfl rfl (qld rfl yA3)
     refine an [11,9,10,8,7,6] [17,16,15,14,13] 12 [(110,_),(108,_)] gO ⟨rfl,rfl,trivial⟩ (by kernel_rfl) (by kernel_rfl) fun Ex=>?_
     refine au rfl rfl<|lc1 rfl rfl rfl (lj pa l (x.off:Nat)) ?_
     refine aj ?_
     apply n_d
     ·refine⟨?_,?_,?_,?_,?_,trivial⟩
      ·apply ya rfl rfl;exact bE rfl rfl (qld rfl yA3)
      ·apply ya rfl rfl;exact bE rfl rfl (qfa 10 rfl cL rfl rfl yS3)
      ·apply ya rfl rfl;exact bE rfl rfl (ad rfl)
      ·apply ya rfl rfl;exact bE rfl rfl (qld rfl ee)
      apply ya rfl rfl;exact bE rfl rfl (qfa 11 rfl c9 rfl rfl eZ)
     apply dq 18 rfl
     ·exact bE rfl rfl (qi rfl rfl (aZ ·))
     apply dq 19 rfl
     ·exact yq (aL rfl rfl)
     refine an [19,13,14,15,16,17,18] [] 20 [(118,_)] gO ⟨rfl,trivial⟩ (by kernel_rfl) (by kernel_rfl) fun Ex=>?_
     refine asg rfl rfl<|aj ?_
     apply n_d
     ·exact trivial
     refine bd (by kernel_rfl) ?_
     refine ak<|rt ?_
     apply aJ (.inl rfl) ([G,ae pa s,rsH pr l x])
     ·apply cO rfl
      exact .tmp rfl
     ·exact⟨by rw[js rfl],rfl⟩
     refine fun w h=>(show Ent (rsH pr l x::G::ae pa s::Fr) _ by(exact en)) w (bB (R:=G::ae pa s::Fr) vc (by(exact en)) w h)
    exact absurd rfl z2
   exact absurd ((js rfl).symm.trans z1) (by decide)
 refine sr<|l_q rfl (qi rfl rfl (aZ ·))<|asg rfl rfl<|lc<|aA rfl (fun k4=>?_) fun k4=>?_
 ·refine sr<|l_q rfl (qfa 0 rfl c9 rfl rfl bM)<|l_q rfl (aK rfl cd bM) ?_
  refine l_q rfl (qfa 2 rfl dD rfl rfl yS3)<|l_q rfl (qld rfl yA3) ?_
  refine lc1 rfl rfl rfl (G7 pa s hs l hl x hO hov o.n) ?_
  refine mv rfl rfl<|l_q rfl (aa rfl ga) ?_
  refine l_q rfl (aa rfl ga) ?_
  refine az rfl cK fun b17=>sta rfl rfl rfl bx rfl rfl ?_
  refine asg rfl rfl<|lz<|l_q rfl (qfa 11 rfl c9 rfl rfl eZ)<|l_q rfl (qld rfl ee) ?_
  refine l_q rfl (qfa 2 rfl dD rfl rfl yS3)<|l_q rfl (qld rfl yA3) ?_
  refine lc1 rfl rfl rfl (yj pr l x o.n) ?_
  refine mv rfl rfl<|l_q rfl (aa rfl ga) ?_
  refine l_q rfl (aa rfl ga) ?_
  refine az rfl cK fun b19=>sta rfl rfl rfl bx rfl rfl ?_
  refine asg rfl rfl<|lz<|l_q rfl (aK rfl dh bx) ?_
  refine l_q rfl (aK rfl dh bx) ?_
  refine l_q rfl (fz rfl rfl (l5 · yF) fun w=>g7 w cQ yE (by kernel_rfl) (by kernel_rfl)) ?_
  refine mv rfl rfl<|bD (t:=140) rfl (fun z1=>?_) fun z1=>?_
  ·refine au rfl rfl<|mv rfl rfl<|au rfl rfl<|lc1 rfl rfl rfl (bW _) ?_
   refine au rfl rfl<|mv rfl rfl<|au rfl rfl<|l_q rfl (qi rfl rfl (aZ ·))<|l_q rfl (aL rfl rfl)<|asg rfl rfl<|lc<|rt<|fr1 rfl ([G,ae pa s,rsH pr l x]) (.tmp rfl) ?_
   exact⟨by rw[js rfl],rfl⟩
  exact absurd ((js rfl).symm.trans z1) (by decide)
 refine al<|aV<|nz<|l_q rfl (qfa 0 rfl c9 rfl rfl bM)<|l_q rfl (aK rfl cd bM) ?_
 refine l_q rfl (qfa 11 rfl c9 rfl rfl eZ)<|l_q rfl (qld rfl ee) ?_
 refine l_q rfl (qfa 2 rfl dD rfl rfl yS3)<|l_q rfl (qld rfl yA3) ?_
 refine lc1 rfl rfl rfl (xb pa pr s hs l hl x hO hov o.n) ?_
 exact asg rfl rfl<|lc<|rt<|fr1 rfl ([G,ae pa s,rsH pr l x]) (.tmp rfl) ⟨rfl,rfl⟩
end
end Exact11
end Go.Proofs.YthkajgkagnenbaaGreatDoor
