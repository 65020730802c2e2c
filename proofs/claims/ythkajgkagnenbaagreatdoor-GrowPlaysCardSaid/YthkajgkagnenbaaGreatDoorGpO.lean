/- larderlaw09's plays: split. -/
import Derived.Test.YthkajgkagnenbaaGreatDoorGpN
set_option linter.unusedVariables false
set_option linter.unusedSimpArgs false
set_option linter.unusedSectionVars false
set_option maxRecDepth 100000
namespace Go.Proofs.YthkajgkagnenbaaGreatDoor
namespace Eng
theorem B6 {c:Cx} {fin:Exit->Act->World->Prop} {ds:List Deferred} {E:Env} {L:List HP} {ks:List KI} {ops:Array Oper} {done q:List Nat} (e e' f:Nat) (hB:rV ops done q [e,e',f]=true) (k:qP c fin ds E L ops done q ks e) (k':qP c fin ds E L ops done q ks e') (k2:qP c fin ds E L ops done q ks f):TD c fin ds E L ops done q ks:=
 te hB (fun e'' he=>by
  rcases List.mem_cons.1 he with rfl | he
  ·exact k
  rcases List.mem_cons.1 he with rfl | he
  ·exact k'
  rw[List.mem_singleton] at he;subst he;exact k2) (fun h=>by cases h)
end Eng
namespace Plays
open Go.RowKit Go.Proofs Eng Ty Arena Ctrl Layout GroupB TableB Table Refill Oracle Grow Exact RefA RefT Ref04
theorem Dg {A:Type} (a b a' b':A):∀ xs:List A,(((xs ++ [a]) ++ [b]).set xs.length a').set (xs.length+1) b'=xs ++ [a'] ++ [b']
 | []=>rfl
 | x::xs=>by
  simp
theorem Full.two {s s':ArS} (hs:s.ok) (hs':s'.ok) {l:Lay} {qs:List PR} (h:Full s l qs) {i j n:Nat} {y z:PR} (hij:i≠j) (hy:qs[i]?=some y) (hz:qs[j]?=some z) (hyd:y.dead=false) (hzd:z.dead=false) (hyn:y.n=n) (hzn:z.n=n) (hB:nG s s' y.off y.go z.off z.go (n*gN l)) {T1 T2:Tb} (hT1:cd s' y.off y.go l y.n y.e T1) (hT2:cd s' z.off z.go l z.n z.e T2) (r1:fu y.n T1) (r2:fu z.n T2) (d1:T1.depth=y.T.depth) (d2:T2.depth=z.T.depth):Full s' l ((qs.set i {y with T:=T1}).set j {z with T:=T2}):=by
 obtain⟨s3,h3⟩:∃ s3:ArS,s3= {s with m:=fun a=>if(y.off<=a/\a < y.off+64)\/(y.go<=a/\a < y.go+n*gN l) then s'.m a else s.m a}:=⟨_,rfl⟩
 have e1:s3.limit=s.limit:=by rw[h3]
 have e2:s3.all=s.all:=by rw[h3]
 have e3:s3.dead=s.dead:=by rw[h3]
 have e4:∀ a,s3.m a=if(y.off<=a/\a < y.off+64)\/(y.go<=a/\a < y.go+n*gN l) then s'.m a else s.m a:=fun a=>by rw[h3]
 have hbl:s3.bl=s'.bl:=by unfold ArS.bl;rw[e2,e3,hB.all,hB.dead]
 have ok3:s3.ok:=by
  refine⟨by rw[e1];exact hs.limit,?_,by rw[e2];exact hs.chain,fun a=>?_,fun c=>?_,fun p hp=>?_,fun o ho=>?_⟩
  ·have:=hs.room
   unfold ArS.live ArS.bl at this ⊢
   rw[e1,e2,e3];exact this
  ·rw[e4]
   split
   ·exact hs'.bytes a
   exact hs.bytes a
  ·rw[e1,e2];exact hs.cls c
  ·rw[e2] at hp;exact hs.isC p hp
  rw[e3] at ho;rw[e2];exact hs.deadIn o ho
 have S1:cb s s3 y.off y.go (y.n*gN l):=⟨e2,e3,e1,fun a q1 q2=>by rw[hyn] at q2;rw[e4,if_neg (by omega)]⟩
 have P1:cd s3 y.off y.go l y.n y.e T1:=cd.moved hT1 (fun o k ⟨h0,p,hp,q⟩=>⟨h0,p,by rw[hbl];exact hp,q⟩) (fun a q1 q2=>by rw[e4,if_pos (.inl ⟨q1,q2⟩)]) (fun a q1 q2=>by rw[hyn] at q2;rw[e4,if_pos (.inr ⟨q1,q2⟩)])
 have F1:=h.step hs hy (⟨fun _=>⟨S1,P1,r1⟩,fun q=>by rw[hyd] at q;cases q⟩:Step s s3 l y T1) d1
 have S2:cb s3 s' z.off z.go (z.n*gN l):=⟨hB.all.trans e2.symm,hB.dead.trans e3.symm,hB.limit.trans e1.symm,fun a q1 q2=>by
  rw[hzn] at q2
  rw[e4]
  split
  ·rfl
  next q=>exact hB.m a (by omega) (by omega) q1 q2⟩
 have hz2:(qs.set i {y with T:=T1})[j]?=some z:=by rw[List.getElem?_set,if_neg hij];exact hz
 exact F1.step ok3 hz2 (⟨fun _=>⟨S2,hT2,r2⟩,fun q=>by rw[hzd] at q;cases q⟩:Step s3 s' l z T2) d2
theorem pz (pa:Nat) (l:Lay) (ps:List PR):rowOf (bX pa l) (ps.map du)=rowOf (bX pa l) ps:=by
 unfold rowOf
 rw[List.flatMap_def,List.flatMap_def,List.map_map]
 rfl
theorem pU (ps:List PR):bL (ps.map du)=bL ps:=by
 unfold bL
 rw[List.map_map]
 rfl
section
variable (G:HP) (hG:dR G) (hGO:fR G) (pb pa po pr bq bm:Nat) (os:List (ByteArray×Int)) (hgo:ix os) (hos:∀ o∈os,0<=o.2/\o.2 < 18446744073709551616) (l:Lay) (hl:l.err=0) (sdP:Int) (s:ArS) (ps:List PR) (vM vO:Value) (k:Nat) (x:PR) (hx:ps[k]?=some x) (sd:Int) (hsd:0<=sd/\sd < 18446744073709551616)
include hx
theorem nY (c:Int) (hc:c≠0) (s2:ArS) (Q:ArS->Prop) (hp:aK Tryz.prog 54 #[.agg #[.pointer (some ⟨pa,0,none⟩),.int .i64 l.key,.int .i64 l.elem,.int .i64 l.ka,.int .i64 l.ea,.int .i64 l.cap,.int .i64 l.eo,.int .i64 l.bo,.int .i64 l.slot,.int .i64 l.group,.int .i64 (x.off:Nat)],.pointer (some ⟨po,0,none⟩),.int .u64 sd] [pt po (.cells #[.map (some bm)] 192 (0,0)),bG (fun k:ByteArray=>Value.string k) bm (bu os),G,aj pa s] (fun v L=>∃ s1,v=.tuple #[.agg #[.pointer none,.int .i64 0,.int .i64 0,.int .i64 0,.int .i64 0,.int .i64 0,.int .i64 0,.int .i64 0,.int .i64 0,.int .i64 0,.int .i64 0],.agg #[.pointer none,.int .i64 0,.int .i64 0,.int .i64 0,.int .i64 0,.int .i64 0,.int .i64 0,.int .i64 0,.int .i64 0,.int .i64 0,.int .i64 0],.int .i64 c]/\L= [pt po (.cells #[.map (some bm)] 192 (0,0)),bG (fun k:ByteArray=>Value.string k) bm (bu os),G,aj pa s1]/\Q s1)) (hr:aK Tryz.prog 153 #[.pointer (some ⟨x.p,0,none⟩),.pointer (some ⟨bq,0,none⟩),.int .u64 sd] [cz pr l x,dv bq os,bd pr s] (fun v L=>v=.tuple #[.pointer none,.pointer none,.int .i64 c]/\L= [cz pr l x,dv bq os,bd pr s2])):
  aK Tryz.prog 63 #[.pointer (some ⟨pb,0,none⟩),.int .i64 (k:Nat),.int .u64 sd] [ca pr l ps,pt pb (.cells #[.pointer (some ⟨pa,0,none⟩),.pointer (some ⟨po,0,none⟩),.pointer (some ⟨pr,0,none⟩),.pointer (some ⟨bq,0,none⟩),.int .i64 l.key,.int .i64 l.elem,.int .i64 l.ka,.int .i64 l.ea,.int .i64 l.cap,.int .i64 l.eo,.int .i64 l.bo,.int .i64 l.slot,.int .i64 l.group,.int .u64 sdP,vM,vO] 93 (0,0)),aF 39 11 vM ps.length (rowOf (bX pa l) ps),aF 40 1 vO ps.length (bL ps),bd pr s,aj pa s,pt po (.cells #[.map (some bm)] 192 (0,0)),bG (fun k:ByteArray=>Value.string k) bm (bu os),dv bq os,G] (fun v L=>∃ s1,v=.bool true/\L= [ca pr l ps,pt pb (.cells #[.pointer (some ⟨pa,0,none⟩),.pointer (some ⟨po,0,none⟩),.pointer (some ⟨pr,0,none⟩),.pointer (some ⟨bq,0,none⟩),.int .i64 l.key,.int .i64 l.elem,.int .i64 l.ka,.int .i64 l.ea,.int .i64 l.cap,.int .i64 l.eo,.int .i64 l.bo,.int .i64 l.slot,.int .i64 l.group,.int .u64 sdP,vM,vO] 93 (0,0)),aF 39 11 vM ps.length (rowOf (bX pa l) ps),aF 40 1 vO ps.length (bL ps),bd pr s2,aj pa s1,pt po (.cells #[.map (some bm)] 192 (0,0)),bG (fun k:ByteArray=>Value.string k) bm (bu os),dv bq os,G]/\Q s1):=by
 have hk:k < ps.length:=(List.getElem?_eq_some_iff.1 hx).1
 have hptr:=gb hx
 refine au Hg Tryz.func63 rfl rfl rfl fun Fr w0=>aZ ?_
 refine gj hx .here ?_
 refine bU (.there (.there (.there .here))) fun _ hvm=>?_
 obtain⟨a0,cap,rfl,ha,_,_⟩:=hvm
 obtain⟨g0,rfl⟩:=ha (by omega)
 refine bU (.there (.there (.there (.there .here)))) fun _ hvo=>?_
 obtain⟨a1,cap1,rfl,ha1,_,_⟩:=hvo
 obtain⟨g1,rfl⟩:=ha1 (by omega)
 refine sr<|ar O O<|lc<|al ?_
 apply pB (p:=(fun(y:Nat×Nat×ArS)=>Q y.2.2)) (EE:=(fun y=>[(0,.pointer (some ⟨pb,0,none⟩)),(1,.int .i64 (k:Nat)),(2,.int .u64 sd),(7,.pointer (some ⟨y.1,0,none⟩)),(8,.pointer (some ⟨y.2.1,0,none⟩)),(9,.int .i64 c)])) (LL:=(fun y=>pt y.1 (.cells #[.pointer none,.int .i64 0,.int .i64 0,.int .i64 0,.int .i64 0,.int .i64 0,.int .i64 0,.int .i64 0,.int .i64 0,.int .i64 0,.int .i64 0] 39 (0,0))::pt y.2.1 (.cells #[.pointer none,.int .i64 0,.int .i64 0,.int .i64 0,.int .i64 0,.int .i64 0,.int .i64 0,.int .i64 0,.int .i64 0,.int .i64 0,.int .i64 0] 39 (0,0))::cz pr l x::ca pr l (ps.eraseIdx k)::pt pb (.cells #[.pointer (some ⟨pa,0,none⟩),.pointer (some ⟨po,0,none⟩),.pointer (some ⟨pr,0,none⟩),.pointer (some ⟨bq,0,none⟩),.int .i64 l.key,.int .i64 l.elem,.int .i64 l.ka,.int .i64 l.ea,.int .i64 l.cap,.int .i64 l.eo,.int .i64 l.bo,.int .i64 l.slot,.int .i64 l.group,.int .u64 sdP,(.slice (some ⟨g0,0,none⟩) ps.length cap),(.slice (some ⟨g1,0,none⟩) ps.length cap1)] 93 (0,0))::aF 39 11 (.slice (some ⟨g0,0,none⟩) ps.length cap) ps.length (rowOf (bX pa l) ps)::aF 40 1 (.slice (some ⟨g1,0,none⟩) ps.length cap1) ps.length (bL ps)::bd pr s::aj pa y.2.2::pt po (.cells #[.map (some bm)] 192 (0,0))::bG (fun k:ByteArray=>Value.string k) bm (bu os)::dv bq os::G::Fr))
 refine aY mixed ?_
 apply dq 0 O (yq (ah O))
 apply dq 1 O (yq (ae O))
 apply dq 2 O (yq (aE 14 O bY O O gC))
 apply dq 3 O (yq (aI O gX))
 apply dq 4 O (yq (ah O))
 apply dq 5 O (yq (aL O O gW aM (by omega)))
 apply dq 6 O
 ·apply yq
  apply cg (A:=aF 39 11 (.slice (some ⟨g0,0,none⟩) ps.length cap) ps.length (rowOf (bX pa l) ps)) (us:=[.pointer (some ⟨pa,0,none⟩),.int .i64 l.key,.int .i64 l.elem,.int .i64 l.ka,.int .i64 l.ea,.int .i64 l.cap,.int .i64 l.eo,.int .i64 l.bo,.int .i64 l.slot,.int .i64 l.group,.int .i64 (x.off:Nat)]) rfl bA aM rfl
  ·exact tk
  exact cK hx _ _ _
 apply dq 7 O (yq (ah O))
 apply dq 8 O (yq (ae O))
 apply dq 9 O (yq (aE 1 O bY O O jE))
 apply dq 10 O (yq (aI O ij))
 apply dq 11 O (yq (ah O))
 apply B6 12 17 18
 ·kernel_rfl
 ·refine cA (q1:=[6,10,11,5,9,3,4,8,2,7,1,0]) (q2:=[]) [(21,_),(25,_),(26,_)] gO ⟨O,O,O,trivial⟩ (by kernel_rfl) fun Ex=>?_
  refine cT O O O (hp) ?_
  rintro v L' ⟨s1,rfl,rfl,hQ⟩
  refine bx ?_
  refine ai ?_
  refine aQ trivial ?_
  apply dq 13 O (yq (ah O))
  apply dq 14 O (yq (aa O ga))
  apply dq 15 O (yq (aa O ga))
  apply dq 16 O (yq (aa O ga))
  apply dI 17 18
  ·kernel_rfl
  ·refine cA (q1:=[]) (q2:=[16,15,14,13]) [] gO trivial (by kernel_rfl) fun Ex=>?_
   refine ay O cM fun b7=>ai ?_
   refine aQ ⟨ya O O (yq (aa O ga)),ya O O (yq (aa O ga)),ya O O (yq (aa O ga)),ya O O (yq (ah O)),trivial⟩ ?_
   refine ak [] [16,15,14,13] 18 [] gO trivial (by kernel_rfl) (by kernel_rfl) fun Ex=>?_
   refine ay O cM fun b8=>ai ?_
   refine aQ ⟨ya O O (yq (aa O ga)),ya O O (yq (aa O ga)),ya O O (yq (aa O ga)),ya O O (yq (ah O)),trivial⟩ ?_
   refine ak [14,13] [16,15] 19 [(7,_),(28,_)] gO ⟨rfl,rfl,trivial⟩ (by kernel_rfl) (by kernel_rfl) fun Ex=>?_
   refine bZ O O O aM O O ?_
   refine ai ?_
   refine aQ ⟨ya O O (yq (aa O ga)),ya O O (yq (aa O ga)),trivial⟩ ?_
   refine ak [15] [16] 20 [(8,_),(29,_)] gO ⟨rfl,rfl,trivial⟩ (by kernel_rfl) (by kernel_rfl) fun Ex=>?_
   refine bZ O O O aM O O ?_
   refine ai ?_
   refine aQ ⟨ya O O (yq (aa O ga)),trivial⟩ ?_
   refine ak [16] [] 21 [(30,_)] gO ⟨rfl,trivial⟩ (by kernel_rfl) (by kernel_rfl) fun Ex=>?_
   refine ar O O<|ai ?_
   refine aQ trivial ?_
   refine aV (by kernel_rfl) ?_
   apply cx ((b7,b8,s1))
   ·exact hQ
   ·exact⟨O,O,O,O,O,O,trivial⟩
   exact en
  refine cA (q1:=[]) (q2:=[16,15,14,13]) [] gO trivial (by kernel_rfl) fun Ex=>?_
  refine ay O cM fun b8=>ai ?_
  refine aQ ⟨ya O O (yq (aa O ga)),ya O O (yq (aa O ga)),ya O O (yq (aa O ga)),ya O O (yq (ah O)),trivial⟩ ?_
  refine ak [] [16,15,14,13] 17 [] gO trivial (by kernel_rfl) (by kernel_rfl) fun Ex=>?_
  refine ay O cM fun b7=>ai ?_
  refine aQ ⟨ya O O (yq (aa O ga)),ya O O (yq (aa O ga)),ya O O (yq (aa O ga)),ya O O (yq (ah O)),trivial⟩ ?_
  refine ak [14,13] [16,15] 19 [(7,_),(28,_)] gO ⟨rfl,rfl,trivial⟩ (by kernel_rfl) (by kernel_rfl) fun Ex=>?_
  refine bZ O O O aM O O ?_
  refine ai ?_
  refine aQ ⟨ya O O (yq (aa O ga)),ya O O (yq (aa O ga)),trivial⟩ ?_
  refine ak [15] [16] 20 [(8,_),(29,_)] gO ⟨rfl,rfl,trivial⟩ (by kernel_rfl) (by kernel_rfl) fun Ex=>?_
  refine bZ O O O aM O O ?_
  refine ai ?_
  refine aQ ⟨ya O O (yq (aa O ga)),trivial⟩ ?_
  refine ak [16] [] 21 [(30,_)] gO ⟨rfl,trivial⟩ (by kernel_rfl) (by kernel_rfl) fun Ex=>?_
  refine ar O O<|ai ?_
  refine aQ trivial ?_
  refine aV (by kernel_rfl) ?_
  apply cx ((b7,b8,s1))
  ·exact hQ
  ·exact⟨O,O,O,O,O,O,trivial⟩
  exact en
 ·refine cA (q1:=[]) (q2:=[11,10,9,8,7,6,5,4,3,2,1,0]) [] gO trivial (by kernel_rfl) fun Ex=>?_
  refine ay O cM fun b7=>ai ?_
  apply aQ
  ·refine⟨?_,?_,?_,?_,?_,?_,?_,?_,?_,?_,?_,?_,trivial⟩
   ·apply ya O O;exact yq (ah O)
   ·apply ya O O;exact yq (aI O ij)
   ·apply ya O O;exact yq (aE 1 O bY O O jE)
   ·apply ya O O;exact yq (ae O)
   ·apply ya O O;exact yq (ah O)
   ·apply ya O O
    apply yq
    apply cg (A:=aF 39 11 (.slice (some ⟨g0,0,none⟩) ps.length cap) ps.length (rowOf (bX pa l) ps)) (us:=[.pointer (some ⟨pa,0,none⟩),.int .i64 l.key,.int .i64 l.elem,.int .i64 l.ka,.int .i64 l.ea,.int .i64 l.cap,.int .i64 l.eo,.int .i64 l.bo,.int .i64 l.slot,.int .i64 l.group,.int .i64 (x.off:Nat)]) rfl bA aM rfl
    ·exact tk
    exact cK hx _ _ _
   ·apply ya O O;exact yq (aL O O gW aM (by omega))
   ·apply ya O O;exact yq (ah O)
   ·apply ya O O;exact yq (aI O gX)
   ·apply ya O O;exact yq (aE 14 O bY O O gC)
   ·apply ya O O;exact yq (ae O)
   apply ya O O;exact yq (ah O)
  apply dI 12 18
  ·kernel_rfl
  ·refine cA (q1:=[6,10,11,5,9,3,4,8,2,7,1,0]) (q2:=[]) [(21,_),(25,_),(26,_)] gO ⟨O,O,O,trivial⟩ (by kernel_rfl) fun Ex=>?_
   refine cT O O O (hp) ?_
   rintro v L' ⟨s1,rfl,rfl,hQ⟩
   refine bx ?_
   refine ai ?_
   refine aQ trivial ?_
   apply dq 13 O (yq (ah O))
   apply dq 14 O (yq (aa O ga))
   apply dq 15 O (yq (aa O ga))
   apply dq 16 O (yq (aa O ga))
   refine ak [] [16,15,14,13] 18 [] gO trivial (by kernel_rfl) (by kernel_rfl) fun Ex=>?_
   refine ay O cM fun b8=>ai ?_
   refine aQ ⟨ya O O (yq (aa O ga)),ya O O (yq (aa O ga)),ya O O (yq (aa O ga)),ya O O (yq (ah O)),trivial⟩ ?_
   refine ak [14,13] [16,15] 19 [(7,_),(28,_)] gO ⟨rfl,rfl,trivial⟩ (by kernel_rfl) (by kernel_rfl) fun Ex=>?_
   refine bZ O O O aM O O ?_
   refine ai ?_
   refine aQ ⟨ya O O (yq (aa O ga)),ya O O (yq (aa O ga)),trivial⟩ ?_
   refine ak [15] [16] 20 [(8,_),(29,_)] gO ⟨rfl,rfl,trivial⟩ (by kernel_rfl) (by kernel_rfl) fun Ex=>?_
   refine bZ O O O aM O O ?_
   refine ai ?_
   refine aQ ⟨ya O O (yq (aa O ga)),trivial⟩ ?_
   refine ak [16] [] 21 [(30,_)] gO ⟨rfl,trivial⟩ (by kernel_rfl) (by kernel_rfl) fun Ex=>?_
   refine ar O O<|ai ?_
   refine aQ trivial ?_
   refine aV (by kernel_rfl) ?_
   apply cx ((b7,b8,s1))
   ·exact hQ
   ·exact⟨O,O,O,O,O,O,trivial⟩
   exact en
  refine cA (q1:=[]) (q2:=[11,10,9,8,7,6,5,4,3,2,1,0]) [] gO trivial (by kernel_rfl) fun Ex=>?_
  refine ay O cM fun b8=>ai ?_
  apply aQ
  ·refine⟨?_,?_,?_,?_,?_,?_,?_,?_,?_,?_,?_,?_,trivial⟩
   ·apply ya O O;exact yq (ah O)
   ·apply ya O O;exact yq (aI O ij)
   ·apply ya O O;exact yq (aE 1 O bY O O jE)
   ·apply ya O O;exact yq (ae O)
   ·apply ya O O;exact yq (ah O)
   ·apply ya O O
    apply yq
    apply cg (A:=aF 39 11 (.slice (some ⟨g0,0,none⟩) ps.length cap) ps.length (rowOf (bX pa l) ps)) (us:=[.pointer (some ⟨pa,0,none⟩),.int .i64 l.key,.int .i64 l.elem,.int .i64 l.ka,.int .i64 l.ea,.int .i64 l.cap,.int .i64 l.eo,.int .i64 l.bo,.int .i64 l.slot,.int .i64 l.group,.int .i64 (x.off:Nat)]) rfl bA aM rfl
    ·exact tk
    exact cK hx _ _ _
   ·apply ya O O;exact yq (aL O O gW aM (by omega))
   ·apply ya O O;exact yq (ah O)
   ·apply ya O O;exact yq (aI O gX)
   ·apply ya O O;exact yq (aE 14 O bY O O gC)
   ·apply ya O O;exact yq (ae O)
   apply ya O O;exact yq (ah O)
  refine ak [6,10,11,5,9,3,4,8,2,7,1,0] [] 12 [(21,_),(25,_),(26,_)] gO ⟨rfl,rfl,rfl,trivial⟩ (by kernel_rfl) (by kernel_rfl) fun Ex=>?_
  refine cT O O O (hp) ?_
  rintro v L' ⟨s1,rfl,rfl,hQ⟩
  refine bx ?_
  refine ai ?_
  refine aQ trivial ?_
  apply dq 13 O (yq (ah O))
  apply dq 14 O (yq (aa O ga))
  apply dq 15 O (yq (aa O ga))
  apply dq 16 O (yq (aa O ga))
  refine ak [14,13] [16,15] 19 [(7,_),(28,_)] gO ⟨rfl,rfl,trivial⟩ (by kernel_rfl) (by kernel_rfl) fun Ex=>?_
  refine bZ O O O aM O O ?_
  refine ai ?_
  refine aQ ⟨ya O O (yq (aa O ga)),ya O O (yq (aa O ga)),trivial⟩ ?_
  refine ak [15] [16] 20 [(8,_),(29,_)] gO ⟨rfl,rfl,trivial⟩ (by kernel_rfl) (by kernel_rfl) fun Ex=>?_
  refine bZ O O O aM O O ?_
  refine ai ?_
  refine aQ ⟨ya O O (yq (aa O ga)),trivial⟩ ?_
  refine ak [16] [] 21 [(30,_)] gO ⟨rfl,trivial⟩ (by kernel_rfl) (by kernel_rfl) fun Ex=>?_
  refine ar O O<|ai ?_
  refine aQ trivial ?_
  refine aV (by kernel_rfl) ?_
  apply cx ((b7,b8,s1))
  ·exact hQ
  ·exact⟨O,O,O,O,O,O,trivial⟩
  exact en
 ·refine cA (q1:=[]) (q2:=[11,10,9,8,7,6,5,4,3,2,1,0]) [] gO trivial (by kernel_rfl) fun Ex=>?_
  refine ay O cM fun b8=>ai ?_
  apply aQ
  ·refine⟨?_,?_,?_,?_,?_,?_,?_,?_,?_,?_,?_,?_,trivial⟩
   ·apply ya O O;exact yq (ah O)
   ·apply ya O O;exact yq (aI O ij)
   ·apply ya O O;exact yq (aE 1 O bY O O jE)
   ·apply ya O O;exact yq (ae O)
   ·apply ya O O;exact yq (ah O)
   ·apply ya O O
    apply yq
    apply cg (A:=aF 39 11 (.slice (some ⟨g0,0,none⟩) ps.length cap) ps.length (rowOf (bX pa l) ps)) (us:=[.pointer (some ⟨pa,0,none⟩),.int .i64 l.key,.int .i64 l.elem,.int .i64 l.ka,.int .i64 l.ea,.int .i64 l.cap,.int .i64 l.eo,.int .i64 l.bo,.int .i64 l.slot,.int .i64 l.group,.int .i64 (x.off:Nat)]) rfl bA aM rfl
    ·exact tk
    exact cK hx _ _ _
   ·apply ya O O;exact yq (aL O O gW aM (by omega))
   ·apply ya O O;exact yq (ah O)
   ·apply ya O O;exact yq (aI O gX)
   ·apply ya O O;exact yq (aE 14 O bY O O gC)
   ·apply ya O O;exact yq (ae O)
   apply ya O O;exact yq (ah O)
  apply dI 12 17
  ·kernel_rfl
  ·refine cA (q1:=[6,10,11,5,9,3,4,8,2,7,1,0]) (q2:=[]) [(21,_),(25,_),(26,_)] gO ⟨O,O,O,trivial⟩ (by kernel_rfl) fun Ex=>?_
   refine cT O O O (hp) ?_
   rintro v L' ⟨s1,rfl,rfl,hQ⟩
   refine bx ?_
   refine ai ?_
   refine aQ trivial ?_
   apply dq 13 O (yq (ah O))
   apply dq 14 O (yq (aa O ga))
   apply dq 15 O (yq (aa O ga))
   apply dq 16 O (yq (aa O ga))
   refine ak [] [16,15,14,13] 17 [] gO trivial (by kernel_rfl) (by kernel_rfl) fun Ex=>?_
   refine ay O cM fun b7=>ai ?_
   refine aQ ⟨ya O O (yq (aa O ga)),ya O O (yq (aa O ga)),ya O O (yq (aa O ga)),ya O O (yq (ah O)),trivial⟩ ?_
   refine ak [14,13] [16,15] 19 [(7,_),(28,_)] gO ⟨rfl,rfl,trivial⟩ (by kernel_rfl) (by kernel_rfl) fun Ex=>?_
   refine bZ O O O aM O O ?_
   refine ai ?_
   refine aQ ⟨ya O O (yq (aa O ga)),ya O O (yq (aa O ga)),trivial⟩ ?_
   refine ak [15] [16] 20 [(8,_),(29,_)] gO ⟨rfl,rfl,trivial⟩ (by kernel_rfl) (by kernel_rfl) fun Ex=>?_
   refine bZ O O O aM O O ?_
   refine ai ?_
   refine aQ ⟨ya O O (yq (aa O ga)),trivial⟩ ?_
   refine ak [16] [] 21 [(30,_)] gO ⟨rfl,trivial⟩ (by kernel_rfl) (by kernel_rfl) fun Ex=>?_
   refine ar O O<|ai ?_
   refine aQ trivial ?_
   refine aV (by kernel_rfl) ?_
   apply cx ((b7,b8,s1))
   ·exact hQ
   ·exact⟨O,O,O,O,O,O,trivial⟩
   exact en
  refine cA (q1:=[]) (q2:=[11,10,9,8,7,6,5,4,3,2,1,0]) [] gO trivial (by kernel_rfl) fun Ex=>?_
  refine ay O cM fun b7=>ai ?_
  apply aQ
  ·refine⟨?_,?_,?_,?_,?_,?_,?_,?_,?_,?_,?_,?_,trivial⟩
   ·apply ya O O;exact yq (ah O)
   ·apply ya O O;exact yq (aI O ij)
   ·apply ya O O;exact yq (aE 1 O bY O O jE)
   ·apply ya O O;exact yq (ae O)
   ·apply ya O O;exact yq (ah O)
   ·apply ya O O
    apply yq
    apply cg (A:=aF 39 11 (.slice (some ⟨g0,0,none⟩) ps.length cap) ps.length (rowOf (bX pa l) ps)) (us:=[.pointer (some ⟨pa,0,none⟩),.int .i64 l.key,.int .i64 l.elem,.int .i64 l.ka,.int .i64 l.ea,.int .i64 l.cap,.int .i64 l.eo,.int .i64 l.bo,.int .i64 l.slot,.int .i64 l.group,.int .i64 (x.off:Nat)]) rfl bA aM rfl
    ·exact tk
    exact cK hx _ _ _
   ·apply ya O O;exact yq (aL O O gW aM (by omega))
   ·apply ya O O;exact yq (ah O)
   ·apply ya O O;exact yq (aI O gX)
   ·apply ya O O;exact yq (aE 14 O bY O O gC)
   ·apply ya O O;exact yq (ae O)
   apply ya O O;exact yq (ah O)
  refine ak [6,10,11,5,9,3,4,8,2,7,1,0] [] 12 [(21,_),(25,_),(26,_)] gO ⟨rfl,rfl,rfl,trivial⟩ (by kernel_rfl) (by kernel_rfl) fun Ex=>?_
  refine cT O O O (hp) ?_
  rintro v L' ⟨s1,rfl,rfl,hQ⟩
  refine bx ?_
  refine ai ?_
  refine aQ trivial ?_
  apply dq 13 O (yq (ah O))
  apply dq 14 O (yq (aa O ga))
  apply dq 15 O (yq (aa O ga))
  apply dq 16 O (yq (aa O ga))
  refine ak [14,13] [16,15] 19 [(7,_),(28,_)] gO ⟨rfl,rfl,trivial⟩ (by kernel_rfl) (by kernel_rfl) fun Ex=>?_
  refine bZ O O O aM O O ?_
  refine ai ?_
  refine aQ ⟨ya O O (yq (aa O ga)),ya O O (yq (aa O ga)),trivial⟩ ?_
  refine ak [15] [16] 20 [(8,_),(29,_)] gO ⟨rfl,rfl,trivial⟩ (by kernel_rfl) (by kernel_rfl) fun Ex=>?_
  refine bZ O O O aM O O ?_
  refine ai ?_
  refine aQ ⟨ya O O (yq (aa O ga)),trivial⟩ ?_
  refine ak [16] [] 21 [(30,_)] gO ⟨rfl,trivial⟩ (by kernel_rfl) (by kernel_rfl) fun Ex=>?_
  refine ar O O<|ai ?_
  refine aQ trivial ?_
  refine aV (by kernel_rfl) ?_
  apply cx ((b7,b8,s1))
  ·exact hQ
  ·exact⟨O,O,O,O,O,O,trivial⟩
  exact en
 rintro⟨b7,b8,s1⟩ hQ
 try dsimp only
 refine oJ ?_
 refine an<|al<|aY mixed ?_
 apply dq 0 O (yq (ah O))
 apply dq 1 O (yq (ae O))
 apply dq 2 O (yq (aE 15 O bY O O jD))
 apply dq 3 O (yq (aI O ke))
 apply dq 4 O (yq (ah O))
 apply dq 5 O (yq (az O O j7 lu (by omega)))
 apply dq 6 O
 ·apply yq
  apply aT O mn
  ·exact tk
  exact hptr
 apply dq 7 O (yq (ah O))
 apply dq 8 O (yq (ae O))
 apply dq 9 O (yq (aE 3 O bY O O tG))
 apply dq 10 O (yq (aI O tJ))
 apply dq 11 O (yq (ah O))
 refine ak [6,10,11,5,9,3,4,8,2,7,1,0] [] 12 [(38,_),(42,_),(43,_)] gO ⟨rfl,rfl,rfl,trivial⟩ (by kernel_rfl) (by kernel_rfl) fun Ex=>?_
 dsimp only at hQ
 refine bF O O O (hr) ?_
 refine ai ?_
 refine aQ trivial ?_
 apply dq 13 O (yq (ah O))
 apply dq 14 O (yq (aa O ga))
 apply dq 15 O (yq (aa O ga))
 apply dq 16 O (yq (aa O ga))
 refine ak [14,13] [16,15] 17 [(45,_)] gO ⟨rfl,trivial⟩ (by kernel_rfl) (by kernel_rfl) fun Ex=>?_
 refine ar O O<|ai ?_
 refine aQ ⟨ya O O (yq (aa O ga)),ya O O (yq (aa O ga)),trivial⟩ ?_
 refine ak [15] [16] 18 [(46,_)] gO ⟨rfl,trivial⟩ (by kernel_rfl) (by kernel_rfl) fun Ex=>?_
 refine ar O O<|ai ?_
 refine aQ ⟨ya O O (yq (aa O ga)),trivial⟩ ?_
 refine ak [16] [] 19 [(47,_)] gO ⟨rfl,trivial⟩ (by kernel_rfl) (by kernel_rfl) fun Ex=>?_
 refine ar O O<|ai ?_
 refine aQ trivial ?_
 refine aV (by kernel_rfl) ?_
 refine nz<|mv O O<|ad O (aO O bA aM) ?_
 refine mv O O<|mv O O<|mv O O<|bF O O O (jQ pb c hc) ?_
 refine ar O O<|lz<|mv O O<|mv O O<|bQ (t:=55) rfl (fun q=>?_) fun q=>?_
 ·refine aA O O<|mv O O<|aA O O<|ad O (aO O bA aM) ?_
  refine aA O O<|mv O O<|aA O O<|mv O O<|aA O O<|mv O O<|aA O O<|bF O O O (jQ pb c hc) ?_
  refine ad O (aS O O)<|ar O O<|lc<|rt ?_
  apply aR (.inl rfl) ([ca pr l ps,pt pb (.cells #[.pointer (some ⟨pa,0,none⟩),.pointer (some ⟨po,0,none⟩),.pointer (some ⟨pr,0,none⟩),.pointer (some ⟨bq,0,none⟩),.int .i64 l.key,.int .i64 l.elem,.int .i64 l.ka,.int .i64 l.ea,.int .i64 l.cap,.int .i64 l.eo,.int .i64 l.bo,.int .i64 l.slot,.int .i64 l.group,.int .u64 sdP,(.slice (some ⟨g0,0,none⟩) ps.length cap),(.slice (some ⟨g1,0,none⟩) ps.length cap1)] 93 (0,0)),aF 39 11 (.slice (some ⟨g0,0,none⟩) ps.length cap) ps.length (rowOf (bX pa l) ps),aF 40 1 (.slice (some ⟨g1,0,none⟩) ps.length cap1) ps.length (bL ps),bd pr s2,aj pa s1,pt po (.cells #[.map (some bm)] 192 (0,0)),bG (fun k:ByteArray=>Value.string k) bm (bu os),dv bq os,G])
  ·apply cP O
   exact .tmp rfl
  ·exact⟨s1,rfl,rfl,hQ⟩
  refine eM hx ?_;(exact en)
 cases q
theorem wH (hlen:ps.length<=1480000000000) (o1 g1 o2 g2:Nat) (F1 F2:Tb) (s2:ArS) (Q:ArS->Prop) (hp:aK Tryz.prog 54 #[.agg #[.pointer (some ⟨pa,0,none⟩),.int .i64 l.key,.int .i64 l.elem,.int .i64 l.ka,.int .i64 l.ea,.int .i64 l.cap,.int .i64 l.eo,.int .i64 l.bo,.int .i64 l.slot,.int .i64 l.group,.int .i64 (x.off:Nat)],.pointer (some ⟨po,0,none⟩),.int .u64 sd] [pt po (.cells #[.map (some bm)] 192 (0,0)),bG (fun k:ByteArray=>Value.string k) bm (bu os),G,aj pa s] (fun v L=>∃ s1,v=.tuple #[.agg #[.pointer (some ⟨pa,0,none⟩),.int .i64 l.key,.int .i64 l.elem,.int .i64 l.ka,.int .i64 l.ea,.int .i64 l.cap,.int .i64 l.eo,.int .i64 l.bo,.int .i64 l.slot,.int .i64 l.group,.int .i64 ((o1:Nat):Int)],.agg #[.pointer (some ⟨pa,0,none⟩),.int .i64 l.key,.int .i64 l.elem,.int .i64 l.ka,.int .i64 l.ea,.int .i64 l.cap,.int .i64 l.eo,.int .i64 l.bo,.int .i64 l.slot,.int .i64 l.group,.int .i64 ((o2:Nat):Int)],.int .i64 0]/\L= [pt po (.cells #[.map (some bm)] 192 (0,0)),bG (fun k:ByteArray=>Value.string k) bm (bu os),G,aj pa s1]/\Q s1)) (hr:aK Tryz.prog 153 #[.pointer (some ⟨x.p,0,none⟩),.pointer (some ⟨bq,0,none⟩),.int .u64 sd] [cz pr l x,dv bq os,bd pr s] (fun v L=>∃ p q,v=.tuple #[.pointer (some ⟨p,0,none⟩),.pointer (some ⟨q,0,none⟩),.int .i64 0]/\L= [cz pr l (⟨p,o1,g1,x.n,x.e,F1,false,false⟩:PR),cz pr l (⟨q,o2,g2,x.n,x.e,F2,false,false⟩:PR),cz pr l x,dv bq os,bd pr s2])):
  aK Tryz.prog 63 #[.pointer (some ⟨pb,0,none⟩),.int .i64 (k:Nat),.int .u64 sd] [ca pr l ps,pt pb (.cells #[.pointer (some ⟨pa,0,none⟩),.pointer (some ⟨po,0,none⟩),.pointer (some ⟨pr,0,none⟩),.pointer (some ⟨bq,0,none⟩),.int .i64 l.key,.int .i64 l.elem,.int .i64 l.ka,.int .i64 l.ea,.int .i64 l.cap,.int .i64 l.eo,.int .i64 l.bo,.int .i64 l.slot,.int .i64 l.group,.int .u64 sdP,vM,vO] 93 (0,0)),aF 39 11 vM ps.length (rowOf (bX pa l) ps),aF 40 1 vO ps.length (bL ps),bd pr s,aj pa s,pt po (.cells #[.map (some bm)] 192 (0,0)),bG (fun k:ByteArray=>Value.string k) bm (bu os),dv bq os,G] (fun v L=>∃ p q s' vM2 vO2,v=.bool true/\L= [ca pr l (ps ++ [(⟨p,o1,g1,x.n,x.e,F1,false,false⟩:PR)] ++ [(⟨q,o2,g2,x.n,x.e,F2,false,false⟩:PR)]),pt pb (.cells #[.pointer (some ⟨pa,0,none⟩),.pointer (some ⟨po,0,none⟩),.pointer (some ⟨pr,0,none⟩),.pointer (some ⟨bq,0,none⟩),.int .i64 l.key,.int .i64 l.elem,.int .i64 l.ka,.int .i64 l.ea,.int .i64 l.cap,.int .i64 l.eo,.int .i64 l.bo,.int .i64 l.slot,.int .i64 l.group,.int .u64 sdP,vM2,vO2] 93 (0,0)),aF 39 11 vM2 (ps ++ [(⟨p,o1,g1,x.n,x.e,F1,false,false⟩:PR)] ++ [(⟨q,o2,g2,x.n,x.e,F2,false,false⟩:PR)]).length (rowOf (bX pa l) (ps ++ [(⟨p,o1,g1,x.n,x.e,F1,false,false⟩:PR)] ++ [(⟨q,o2,g2,x.n,x.e,F2,false,false⟩:PR)])),aF 40 1 vO2 (ps ++ [(⟨p,o1,g1,x.n,x.e,F1,false,false⟩:PR)] ++ [(⟨q,o2,g2,x.n,x.e,F2,false,false⟩:PR)]).length (bL (ps ++ [(⟨p,o1,g1,x.n,x.e,F1,false,false⟩:PR)] ++ [(⟨q,o2,g2,x.n,x.e,F2,false,false⟩:PR)])),bd pr s2,aj pa s',pt po (.cells #[.map (some bm)] 192 (0,0)),bG (fun k:ByteArray=>Value.string k) bm (bu os),dv bq os,G]/\s'.ok/\Q s'):=by
 have hk:k < ps.length:=(List.getElem?_eq_some_iff.1 hx).1
 have hptr:=gb hx
 refine au Hg Tryz.func63 rfl rfl rfl fun Fr w0=>aZ ?_
 refine gj hx .here ?_
 refine bU (.there (.there (.there .here))) fun _ hvm=>?_
 obtain⟨a0,cap,rfl,ha,_,_⟩:=hvm
 obtain⟨g0,rfl⟩:=ha (by omega)
 refine bU (.there (.there (.there (.there .here)))) fun _ hvo=>?_
 obtain⟨a1,cap1,rfl,ha1,_,_⟩:=hvo
 obtain⟨go,rfl⟩:=ha1 (by omega)
 refine sr<|ar O O<|lc<|al ?_
 apply pB (p:=(fun(y:Nat×Nat×ArS)=>Q y.2.2)) (EE:=(fun y=>[(0,.pointer (some ⟨pb,0,none⟩)),(1,.int .i64 (k:Nat)),(2,.int .u64 sd),(7,.pointer (some ⟨y.1,0,none⟩)),(8,.pointer (some ⟨y.2.1,0,none⟩)),(9,.int .i64 0)])) (LL:=(fun y=>pt y.1 (.cells #[.pointer (some ⟨pa,0,none⟩),.int .i64 l.key,.int .i64 l.elem,.int .i64 l.ka,.int .i64 l.ea,.int .i64 l.cap,.int .i64 l.eo,.int .i64 l.bo,.int .i64 l.slot,.int .i64 l.group,.int .i64 ((o1:Nat):Int)] 39 (0,0))::pt y.2.1 (.cells #[.pointer (some ⟨pa,0,none⟩),.int .i64 l.key,.int .i64 l.elem,.int .i64 l.ka,.int .i64 l.ea,.int .i64 l.cap,.int .i64 l.eo,.int .i64 l.bo,.int .i64 l.slot,.int .i64 l.group,.int .i64 ((o2:Nat):Int)] 39 (0,0))::cz pr l x::ca pr l (ps.eraseIdx k)::pt pb (.cells #[.pointer (some ⟨pa,0,none⟩),.pointer (some ⟨po,0,none⟩),.pointer (some ⟨pr,0,none⟩),.pointer (some ⟨bq,0,none⟩),.int .i64 l.key,.int .i64 l.elem,.int .i64 l.ka,.int .i64 l.ea,.int .i64 l.cap,.int .i64 l.eo,.int .i64 l.bo,.int .i64 l.slot,.int .i64 l.group,.int .u64 sdP,(.slice (some ⟨g0,0,none⟩) ps.length cap),(.slice (some ⟨go,0,none⟩) ps.length cap1)] 93 (0,0))::aF 39 11 (.slice (some ⟨g0,0,none⟩) ps.length cap) ps.length (rowOf (bX pa l) ps)::aF 40 1 (.slice (some ⟨go,0,none⟩) ps.length cap1) ps.length (bL ps)::bd pr s::aj pa y.2.2::pt po (.cells #[.map (some bm)] 192 (0,0))::bG (fun k:ByteArray=>Value.string k) bm (bu os)::dv bq os::G::Fr))
 refine aY mixed ?_
 apply dq 0 O (yq (ah O))
 apply dq 1 O (yq (ae O))
 apply dq 2 O (yq (aE 14 O bY O O gC))
 apply dq 3 O (yq (aI O gX))
 apply dq 4 O (yq (ah O))
 apply dq 5 O (yq (aL O O gW aM (by omega)))
 apply dq 6 O
 ·apply yq
  apply cg (A:=aF 39 11 (.slice (some ⟨g0,0,none⟩) ps.length cap) ps.length (rowOf (bX pa l) ps)) (us:=[.pointer (some ⟨pa,0,none⟩),.int .i64 l.key,.int .i64 l.elem,.int .i64 l.ka,.int .i64 l.ea,.int .i64 l.cap,.int .i64 l.eo,.int .i64 l.bo,.int .i64 l.slot,.int .i64 l.group,.int .i64 (x.off:Nat)]) rfl bA aM rfl
  ·exact tk
  exact cK hx _ _ _
 apply dq 7 O (yq (ah O))
 apply dq 8 O (yq (ae O))
 apply dq 9 O (yq (aE 1 O bY O O jE))
 apply dq 10 O (yq (aI O ij))
 apply dq 11 O (yq (ah O))
 apply B6 12 17 18
 ·kernel_rfl
 ·refine cA (q1:=[6,10,11,5,9,3,4,8,2,7,1,0]) (q2:=[]) [(21,_),(25,_),(26,_)] gO ⟨O,O,O,trivial⟩ (by kernel_rfl) fun Ex=>?_
  refine cT O O O (hp) ?_
  rintro v L' ⟨s1,rfl,rfl,hQ⟩
  refine bx ?_
  refine ai ?_
  refine aQ trivial ?_
  apply dq 13 O (yq (ah O))
  apply dq 14 O (yq (aa O ga))
  apply dq 15 O (yq (aa O ga))
  apply dq 16 O (yq (aa O ga))
  apply dI 17 18
  ·kernel_rfl
  ·refine cA (q1:=[]) (q2:=[16,15,14,13]) [] gO trivial (by kernel_rfl) fun Ex=>?_
   refine ay O cM fun b7=>ai ?_
   refine aQ ⟨ya O O (yq (aa O ga)),ya O O (yq (aa O ga)),ya O O (yq (aa O ga)),ya O O (yq (ah O)),trivial⟩ ?_
   refine ak [] [16,15,14,13] 18 [] gO trivial (by kernel_rfl) (by kernel_rfl) fun Ex=>?_
   refine ay O cM fun b8=>ai ?_
   refine aQ ⟨ya O O (yq (aa O ga)),ya O O (yq (aa O ga)),ya O O (yq (aa O ga)),ya O O (yq (ah O)),trivial⟩ ?_
   refine ak [14,13] [16,15] 19 [(7,_),(28,_)] gO ⟨rfl,rfl,trivial⟩ (by kernel_rfl) (by kernel_rfl) fun Ex=>?_
   refine bZ O O O aM O O ?_
   refine ai ?_
   refine aQ ⟨ya O O (yq (aa O ga)),ya O O (yq (aa O ga)),trivial⟩ ?_
   refine ak [15] [16] 20 [(8,_),(29,_)] gO ⟨rfl,rfl,trivial⟩ (by kernel_rfl) (by kernel_rfl) fun Ex=>?_
   refine bZ O O O aM O O ?_
   refine ai ?_
   refine aQ ⟨ya O O (yq (aa O ga)),trivial⟩ ?_
   refine ak [16] [] 21 [(30,_)] gO ⟨rfl,trivial⟩ (by kernel_rfl) (by kernel_rfl) fun Ex=>?_
   refine ar O O<|ai ?_
   refine aQ trivial ?_
   refine aV (by kernel_rfl) ?_
   apply cx ((b7,b8,s1))
   ·exact hQ
   ·exact⟨O,O,O,O,O,O,trivial⟩
   exact en
  refine cA (q1:=[]) (q2:=[16,15,14,13]) [] gO trivial (by kernel_rfl) fun Ex=>?_
  refine ay O cM fun b8=>ai ?_
  refine aQ ⟨ya O O (yq (aa O ga)),ya O O (yq (aa O ga)),ya O O (yq (aa O ga)),ya O O (yq (ah O)),trivial⟩ ?_
  refine ak [] [16,15,14,13] 17 [] gO trivial (by kernel_rfl) (by kernel_rfl) fun Ex=>?_
  refine ay O cM fun b7=>ai ?_
  refine aQ ⟨ya O O (yq (aa O ga)),ya O O (yq (aa O ga)),ya O O (yq (aa O ga)),ya O O (yq (ah O)),trivial⟩ ?_
  refine ak [14,13] [16,15] 19 [(7,_),(28,_)] gO ⟨rfl,rfl,trivial⟩ (by kernel_rfl) (by kernel_rfl) fun Ex=>?_
  refine bZ O O O aM O O ?_
  refine ai ?_
  refine aQ ⟨ya O O (yq (aa O ga)),ya O O (yq (aa O ga)),trivial⟩ ?_
  refine ak [15] [16] 20 [(8,_),(29,_)] gO ⟨rfl,rfl,trivial⟩ (by kernel_rfl) (by kernel_rfl) fun Ex=>?_
  refine bZ O O O aM O O ?_
  refine ai ?_
  refine aQ ⟨ya O O (yq (aa O ga)),trivial⟩ ?_
  refine ak [16] [] 21 [(30,_)] gO ⟨rfl,trivial⟩ (by kernel_rfl) (by kernel_rfl) fun Ex=>?_
  refine ar O O<|ai ?_
  refine aQ trivial ?_
  refine aV (by kernel_rfl) ?_
  apply cx ((b7,b8,s1))
  ·exact hQ
  ·exact⟨O,O,O,O,O,O,trivial⟩
  exact en
 ·refine cA (q1:=[]) (q2:=[11,10,9,8,7,6,5,4,3,2,1,0]) [] gO trivial (by kernel_rfl) fun Ex=>?_
  refine ay O cM fun b7=>ai ?_
  apply aQ
  ·refine⟨?_,?_,?_,?_,?_,?_,?_,?_,?_,?_,?_,?_,trivial⟩
   ·apply ya O O;exact yq (ah O)
   ·apply ya O O;exact yq (aI O ij)
   ·apply ya O O;exact yq (aE 1 O bY O O jE)
   ·apply ya O O;exact yq (ae O)
   ·apply ya O O;exact yq (ah O)
   ·apply ya O O
    apply yq
    apply cg (A:=aF 39 11 (.slice (some ⟨g0,0,none⟩) ps.length cap) ps.length (rowOf (bX pa l) ps)) (us:=[.pointer (some ⟨pa,0,none⟩),.int .i64 l.key,.int .i64 l.elem,.int .i64 l.ka,.int .i64 l.ea,.int .i64 l.cap,.int .i64 l.eo,.int .i64 l.bo,.int .i64 l.slot,.int .i64 l.group,.int .i64 (x.off:Nat)]) rfl bA aM rfl
    ·exact tk
    exact cK hx _ _ _
   ·apply ya O O;exact yq (aL O O gW aM (by omega))
   ·apply ya O O;exact yq (ah O)
   ·apply ya O O;exact yq (aI O gX)
   ·apply ya O O;exact yq (aE 14 O bY O O gC)
   ·apply ya O O;exact yq (ae O)
   apply ya O O;exact yq (ah O)
  apply dI 12 18
  ·kernel_rfl
  ·refine cA (q1:=[6,10,11,5,9,3,4,8,2,7,1,0]) (q2:=[]) [(21,_),(25,_),(26,_)] gO ⟨O,O,O,trivial⟩ (by kernel_rfl) fun Ex=>?_
   refine cT O O O (hp) ?_
   rintro v L' ⟨s1,rfl,rfl,hQ⟩
   refine bx ?_
   refine ai ?_
   refine aQ trivial ?_
   apply dq 13 O (yq (ah O))
   apply dq 14 O (yq (aa O ga))
   apply dq 15 O (yq (aa O ga))
   apply dq 16 O (yq (aa O ga))
   refine ak [] [16,15,14,13] 18 [] gO trivial (by kernel_rfl) (by kernel_rfl) fun Ex=>?_
   refine ay O cM fun b8=>ai ?_
   refine aQ ⟨ya O O (yq (aa O ga)),ya O O (yq (aa O ga)),ya O O (yq (aa O ga)),ya O O (yq (ah O)),trivial⟩ ?_
   refine ak [14,13] [16,15] 19 [(7,_),(28,_)] gO ⟨rfl,rfl,trivial⟩ (by kernel_rfl) (by kernel_rfl) fun Ex=>?_
   refine bZ O O O aM O O ?_
   refine ai ?_
   refine aQ ⟨ya O O (yq (aa O ga)),ya O O (yq (aa O ga)),trivial⟩ ?_
   refine ak [15] [16] 20 [(8,_),(29,_)] gO ⟨rfl,rfl,trivial⟩ (by kernel_rfl) (by kernel_rfl) fun Ex=>?_
   refine bZ O O O aM O O ?_
   refine ai ?_
   refine aQ ⟨ya O O (yq (aa O ga)),trivial⟩ ?_
   refine ak [16] [] 21 [(30,_)] gO ⟨rfl,trivial⟩ (by kernel_rfl) (by kernel_rfl) fun Ex=>?_
   refine ar O O<|ai ?_
   refine aQ trivial ?_
   refine aV (by kernel_rfl) ?_
   apply cx ((b7,b8,s1))
   ·exact hQ
   ·exact⟨O,O,O,O,O,O,trivial⟩
   exact en
  refine cA (q1:=[]) (q2:=[11,10,9,8,7,6,5,4,3,2,1,0]) [] gO trivial (by kernel_rfl) fun Ex=>?_
  refine ay O cM fun b8=>ai ?_
  apply aQ
  ·refine⟨?_,?_,?_,?_,?_,?_,?_,?_,?_,?_,?_,?_,trivial⟩
   ·apply ya O O;exact yq (ah O)
   ·apply ya O O;exact yq (aI O ij)
   ·apply ya O O;exact yq (aE 1 O bY O O jE)
   ·apply ya O O;exact yq (ae O)
   ·apply ya O O;exact yq (ah O)
   ·apply ya O O
    apply yq
    apply cg (A:=aF 39 11 (.slice (some ⟨g0,0,none⟩) ps.length cap) ps.length (rowOf (bX pa l) ps)) (us:=[.pointer (some ⟨pa,0,none⟩),.int .i64 l.key,.int .i64 l.elem,.int .i64 l.ka,.int .i64 l.ea,.int .i64 l.cap,.int .i64 l.eo,.int .i64 l.bo,.int .i64 l.slot,.int .i64 l.group,.int .i64 (x.off:Nat)]) rfl bA aM rfl
    ·exact tk
    exact cK hx _ _ _
   ·apply ya O O;exact yq (aL O O gW aM (by omega))
   ·apply ya O O;exact yq (ah O)
   ·apply ya O O;exact yq (aI O gX)
   ·apply ya O O;exact yq (aE 14 O bY O O gC)
   ·apply ya O O;exact yq (ae O)
   apply ya O O;exact yq (ah O)
  refine ak [6,10,11,5,9,3,4,8,2,7,1,0] [] 12 [(21,_),(25,_),(26,_)] gO ⟨rfl,rfl,rfl,trivial⟩ (by kernel_rfl) (by kernel_rfl) fun Ex=>?_
  refine cT O O O (hp) ?_
  rintro v L' ⟨s1,rfl,rfl,hQ⟩
  refine bx ?_
  refine ai ?_
  refine aQ trivial ?_
  apply dq 13 O (yq (ah O))
  apply dq 14 O (yq (aa O ga))
  apply dq 15 O (yq (aa O ga))
  apply dq 16 O (yq (aa O ga))
  refine ak [14,13] [16,15] 19 [(7,_),(28,_)] gO ⟨rfl,rfl,trivial⟩ (by kernel_rfl) (by kernel_rfl) fun Ex=>?_
  refine bZ O O O aM O O ?_
  refine ai ?_
  refine aQ ⟨ya O O (yq (aa O ga)),ya O O (yq (aa O ga)),trivial⟩ ?_
  refine ak [15] [16] 20 [(8,_),(29,_)] gO ⟨rfl,rfl,trivial⟩ (by kernel_rfl) (by kernel_rfl) fun Ex=>?_
  refine bZ O O O aM O O ?_
  refine ai ?_
  refine aQ ⟨ya O O (yq (aa O ga)),trivial⟩ ?_
  refine ak [16] [] 21 [(30,_)] gO ⟨rfl,trivial⟩ (by kernel_rfl) (by kernel_rfl) fun Ex=>?_
  refine ar O O<|ai ?_
  refine aQ trivial ?_
  refine aV (by kernel_rfl) ?_
  apply cx ((b7,b8,s1))
  ·exact hQ
  ·exact⟨O,O,O,O,O,O,trivial⟩
  exact en
 ·refine cA (q1:=[]) (q2:=[11,10,9,8,7,6,5,4,3,2,1,0]) [] gO trivial (by kernel_rfl) fun Ex=>?_
  refine ay O cM fun b8=>ai ?_
  apply aQ
  ·refine⟨?_,?_,?_,?_,?_,?_,?_,?_,?_,?_,?_,?_,trivial⟩
   ·apply ya O O;exact yq (ah O)
   ·apply ya O O;exact yq (aI O ij)
   ·apply ya O O;exact yq (aE 1 O bY O O jE)
   ·apply ya O O;exact yq (ae O)
   ·apply ya O O;exact yq (ah O)
   ·apply ya O O
    apply yq
    apply cg (A:=aF 39 11 (.slice (some ⟨g0,0,none⟩) ps.length cap) ps.length (rowOf (bX pa l) ps)) (us:=[.pointer (some ⟨pa,0,none⟩),.int .i64 l.key,.int .i64 l.elem,.int .i64 l.ka,.int .i64 l.ea,.int .i64 l.cap,.int .i64 l.eo,.int .i64 l.bo,.int .i64 l.slot,.int .i64 l.group,.int .i64 (x.off:Nat)]) rfl bA aM rfl
    ·exact tk
    exact cK hx _ _ _
   ·apply ya O O;exact yq (aL O O gW aM (by omega))
   ·apply ya O O;exact yq (ah O)
   ·apply ya O O;exact yq (aI O gX)
   ·apply ya O O;exact yq (aE 14 O bY O O gC)
   ·apply ya O O;exact yq (ae O)
   apply ya O O;exact yq (ah O)
  apply dI 12 17
  ·kernel_rfl
  ·refine cA (q1:=[6,10,11,5,9,3,4,8,2,7,1,0]) (q2:=[]) [(21,_),(25,_),(26,_)] gO ⟨O,O,O,trivial⟩ (by kernel_rfl) fun Ex=>?_
   refine cT O O O (hp) ?_
   rintro v L' ⟨s1,rfl,rfl,hQ⟩
   refine bx ?_
   refine ai ?_
   refine aQ trivial ?_
   apply dq 13 O (yq (ah O))
   apply dq 14 O (yq (aa O ga))
   apply dq 15 O (yq (aa O ga))
   apply dq 16 O (yq (aa O ga))
   refine ak [] [16,15,14,13] 17 [] gO trivial (by kernel_rfl) (by kernel_rfl) fun Ex=>?_
   refine ay O cM fun b7=>ai ?_
   refine aQ ⟨ya O O (yq (aa O ga)),ya O O (yq (aa O ga)),ya O O (yq (aa O ga)),ya O O (yq (ah O)),trivial⟩ ?_
   refine ak [14,13] [16,15] 19 [(7,_),(28,_)] gO ⟨rfl,rfl,trivial⟩ (by kernel_rfl) (by kernel_rfl) fun Ex=>?_
   refine bZ O O O aM O O ?_
   refine ai ?_
   refine aQ ⟨ya O O (yq (aa O ga)),ya O O (yq (aa O ga)),trivial⟩ ?_
   refine ak [15] [16] 20 [(8,_),(29,_)] gO ⟨rfl,rfl,trivial⟩ (by kernel_rfl) (by kernel_rfl) fun Ex=>?_
   refine bZ O O O aM O O ?_
   refine ai ?_
   refine aQ ⟨ya O O (yq (aa O ga)),trivial⟩ ?_
   refine ak [16] [] 21 [(30,_)] gO ⟨rfl,trivial⟩ (by kernel_rfl) (by kernel_rfl) fun Ex=>?_
   refine ar O O<|ai ?_
   refine aQ trivial ?_
   refine aV (by kernel_rfl) ?_
   apply cx ((b7,b8,s1))
   ·exact hQ
   ·exact⟨O,O,O,O,O,O,trivial⟩
   exact en
  refine cA (q1:=[]) (q2:=[11,10,9,8,7,6,5,4,3,2,1,0]) [] gO trivial (by kernel_rfl) fun Ex=>?_
  refine ay O cM fun b7=>ai ?_
  apply aQ
  ·refine⟨?_,?_,?_,?_,?_,?_,?_,?_,?_,?_,?_,?_,trivial⟩
   ·apply ya O O;exact yq (ah O)
   ·apply ya O O;exact yq (aI O ij)
   ·apply ya O O;exact yq (aE 1 O bY O O jE)
   ·apply ya O O;exact yq (ae O)
   ·apply ya O O;exact yq (ah O)
   ·apply ya O O
    apply yq
    apply cg (A:=aF 39 11 (.slice (some ⟨g0,0,none⟩) ps.length cap) ps.length (rowOf (bX pa l) ps)) (us:=[.pointer (some ⟨pa,0,none⟩),.int .i64 l.key,.int .i64 l.elem,.int .i64 l.ka,.int .i64 l.ea,.int .i64 l.cap,.int .i64 l.eo,.int .i64 l.bo,.int .i64 l.slot,.int .i64 l.group,.int .i64 (x.off:Nat)]) rfl bA aM rfl
    ·exact tk
    exact cK hx _ _ _
   ·apply ya O O;exact yq (aL O O gW aM (by omega))
   ·apply ya O O;exact yq (ah O)
   ·apply ya O O;exact yq (aI O gX)
   ·apply ya O O;exact yq (aE 14 O bY O O gC)
   ·apply ya O O;exact yq (ae O)
   apply ya O O;exact yq (ah O)
  refine ak [6,10,11,5,9,3,4,8,2,7,1,0] [] 12 [(21,_),(25,_),(26,_)] gO ⟨rfl,rfl,rfl,trivial⟩ (by kernel_rfl) (by kernel_rfl) fun Ex=>?_
  refine cT O O O (hp) ?_
  rintro v L' ⟨s1,rfl,rfl,hQ⟩
  refine bx ?_
  refine ai ?_
  refine aQ trivial ?_
  apply dq 13 O (yq (ah O))
  apply dq 14 O (yq (aa O ga))
  apply dq 15 O (yq (aa O ga))
  apply dq 16 O (yq (aa O ga))
  refine ak [14,13] [16,15] 19 [(7,_),(28,_)] gO ⟨rfl,rfl,trivial⟩ (by kernel_rfl) (by kernel_rfl) fun Ex=>?_
  refine bZ O O O aM O O ?_
  refine ai ?_
  refine aQ ⟨ya O O (yq (aa O ga)),ya O O (yq (aa O ga)),trivial⟩ ?_
  refine ak [15] [16] 20 [(8,_),(29,_)] gO ⟨rfl,rfl,trivial⟩ (by kernel_rfl) (by kernel_rfl) fun Ex=>?_
  refine bZ O O O aM O O ?_
  refine ai ?_
  refine aQ ⟨ya O O (yq (aa O ga)),trivial⟩ ?_
  refine ak [16] [] 21 [(30,_)] gO ⟨rfl,trivial⟩ (by kernel_rfl) (by kernel_rfl) fun Ex=>?_
  refine ar O O<|ai ?_
  refine aQ trivial ?_
  refine aV (by kernel_rfl) ?_
  apply cx ((b7,b8,s1))
  ·exact hQ
  ·exact⟨O,O,O,O,O,O,trivial⟩
  exact en
 rintro⟨b7,b8,s'⟩ hQ
 try dsimp only
 refine oJ ?_
 refine an<|al<|aY mixed ?_
 apply dq 0 O (yq (ah O))
 apply dq 1 O (yq (ae O))
 apply dq 2 O (yq (aE 15 O bY O O jD))
 apply dq 3 O (yq (aI O ke))
 apply dq 4 O (yq (ah O))
 apply dq 5 O (yq (az O O j7 lu (by omega)))
 apply dq 6 O
 ·apply yq
  apply aT O mn
  ·exact tk
  exact hptr
 apply dq 7 O (yq (ah O))
 apply dq 8 O (yq (ae O))
 apply dq 9 O (yq (aE 3 O bY O O tG))
 apply dq 10 O (yq (aI O tJ))
 apply dq 11 O (yq (ah O))
 refine ak [6,10,11,5,9,3,4,8,2,7,1,0] [] 12 [(38,_),(42,_),(43,_)] gO ⟨rfl,rfl,rfl,trivial⟩ (by kernel_rfl) (by kernel_rfl) fun Ex=>?_
 dsimp only at hQ
 refine cT O O O (hr) ?_
 rintro v L' ⟨p,q,rfl,rfl⟩
 refine bx ?_
 refine ai ?_
 refine aQ trivial ?_
 apply dq 13 O (yq (ah O))
 apply dq 14 O (yq (aa O ga))
 apply dq 15 O (yq (aa O ga))
 apply dq 16 O (yq (aa O ga))
 refine ak [14,13] [16,15] 17 [(45,_)] gO ⟨rfl,trivial⟩ (by kernel_rfl) (by kernel_rfl) fun Ex=>?_
 refine ar O O<|ai ?_
 refine aQ ⟨ya O O (yq (aa O ga)),ya O O (yq (aa O ga)),trivial⟩ ?_
 refine ak [15] [16] 18 [(46,_)] gO ⟨rfl,trivial⟩ (by kernel_rfl) (by kernel_rfl) fun Ex=>?_
 refine ar O O<|ai ?_
 refine aQ ⟨ya O O (yq (aa O ga)),trivial⟩ ?_
 refine ak [16] [] 19 [(47,_)] gO ⟨rfl,trivial⟩ (by kernel_rfl) (by kernel_rfl) fun Ex=>?_
 refine ar O O<|ai ?_
 refine aQ trivial ?_
 refine aV (by kernel_rfl) ?_
 refine nz<|mv O O<|ad O (aO O bA aM) ?_
 refine mv O O<|mv O O<|mv O O ?_
 refine wO (φ:=s'.ok) (fun w hw=>cS (pa:=pa) hw tk) fun hok=>?_
 refine cT O O O (iA pb pa po pr bq l sdP ps (.slice (some ⟨g0,0,none⟩) ps.length cap) (.slice (some ⟨go,0,none⟩) ps.length cap1) (⟨p,o1,g1,x.n,x.e,F1,false,false⟩:PR) (by omega)) ?_
 rintro v L' ⟨vM1,vO1,rfl,rfl⟩
 refine bx ?_
 refine ar O O<|lz<|mv O O<|mv O O<|bQ (t:=55) rfl (fun c=>?_) fun c=>?_
 ·refine aA O O<|mv O O<|aA O O<|ad O (aO O bA aM) ?_
  refine aA O O<|mv O O<|aA O O<|mv O O<|aA O O<|mv O O<|aA O O ?_
  refine cT O O O (iA pb pa po pr bq l sdP (ps ++ [(⟨p,o1,g1,x.n,x.e,F1,false,false⟩:PR)]) vM1 vO1 (⟨q,o2,g2,x.n,x.e,F2,false,false⟩:PR) (by simp;omega)) ?_
  rintro v L' ⟨vM2,vO2,rfl,rfl⟩
  refine bx ?_
  refine ad O (aS O O)<|ar O O<|lc<|rt ?_
  apply aR (.inl rfl) ([ca pr l (ps ++ [(⟨p,o1,g1,x.n,x.e,F1,false,false⟩:PR)] ++ [(⟨q,o2,g2,x.n,x.e,F2,false,false⟩:PR)]),pt pb (.cells #[.pointer (some ⟨pa,0,none⟩),.pointer (some ⟨po,0,none⟩),.pointer (some ⟨pr,0,none⟩),.pointer (some ⟨bq,0,none⟩),.int .i64 l.key,.int .i64 l.elem,.int .i64 l.ka,.int .i64 l.ea,.int .i64 l.cap,.int .i64 l.eo,.int .i64 l.bo,.int .i64 l.slot,.int .i64 l.group,.int .u64 sdP,vM2,vO2] 93 (0,0)),aF 39 11 vM2 (ps ++ [(⟨p,o1,g1,x.n,x.e,F1,false,false⟩:PR)] ++ [(⟨q,o2,g2,x.n,x.e,F2,false,false⟩:PR)]).length (rowOf (bX pa l) (ps ++ [(⟨p,o1,g1,x.n,x.e,F1,false,false⟩:PR)] ++ [(⟨q,o2,g2,x.n,x.e,F2,false,false⟩:PR)])),aF 40 1 vO2 (ps ++ [(⟨p,o1,g1,x.n,x.e,F1,false,false⟩:PR)] ++ [(⟨q,o2,g2,x.n,x.e,F2,false,false⟩:PR)]).length (bL (ps ++ [(⟨p,o1,g1,x.n,x.e,F1,false,false⟩:PR)] ++ [(⟨q,o2,g2,x.n,x.e,F2,false,false⟩:PR)])),bd pr s2,aj pa s',pt po (.cells #[.map (some bm)] 192 (0,0)),bG (fun k:ByteArray=>Value.string k) bm (bu os),dv bq os,G])
  ·apply cP O
   exact .tmp rfl
  ·exact⟨p,q,s',vM2,vO2,rfl,rfl,hok,hQ⟩
  refine wh hx ?_;(exact en)
 cases c
include hG hGO hgo hos hl hsd
theorem AQ (hs:s.ok) (hlen:ps.length<=1480000000000) (hF:Full s l ps) (hO:One s l x) (hov:x.over=false):
  aK Tryz.prog 63 #[.pointer (some ⟨pb,0,none⟩),.int .i64 (k:Nat),.int .u64 sd] [ca pr l ps,pt pb (.cells #[.pointer (some ⟨pa,0,none⟩),.pointer (some ⟨po,0,none⟩),.pointer (some ⟨pr,0,none⟩),.pointer (some ⟨bq,0,none⟩),.int .i64 l.key,.int .i64 l.elem,.int .i64 l.ka,.int .i64 l.ea,.int .i64 l.cap,.int .i64 l.eo,.int .i64 l.bo,.int .i64 l.slot,.int .i64 l.group,.int .u64 sdP,vM,vO] 93 (0,0)),aF 39 11 vM ps.length (rowOf (bX pa l) ps),aF 40 1 vO ps.length (bL ps),bd pr s,aj pa s,pt po (.cells #[.map (some bm)] 192 (0,0)),bG (fun k:ByteArray=>Value.string k) bm (bu os),dv bq os,G] (fun v L=>∃ s' ps' vM' vO',v=.bool true/\L= [ca pr l ps',pt pb (.cells #[.pointer (some ⟨pa,0,none⟩),.pointer (some ⟨po,0,none⟩),.pointer (some ⟨pr,0,none⟩),.pointer (some ⟨bq,0,none⟩),.int .i64 l.key,.int .i64 l.elem,.int .i64 l.ka,.int .i64 l.ea,.int .i64 l.cap,.int .i64 l.eo,.int .i64 l.bo,.int .i64 l.slot,.int .i64 l.group,.int .u64 sdP,vM',vO'] 93 (0,0)),aF 39 11 vM' ps'.length (rowOf (bX pa l) ps'),aF 40 1 vO' ps'.length (bL ps'),bd pr s',aj pa s',pt po (.cells #[.map (some bm)] 192 (0,0)),bG (fun k:ByteArray=>Value.string k) bm (bu os),dv bq os,G]/\Full s' l ps'/\cY ps'<=cY ps+2):=by
 have hdep:=hF.depth x (List.mem_of_getElem? hx)
 cases hd:x.dead with
 | true=>
  obtain⟨hng,hne⟩:=hO.not hs hd hov
  have hA:aK Tryz.prog 54 #[.agg #[.pointer (some ⟨pa,0,none⟩),.int .i64 l.key,.int .i64 l.elem,.int .i64 l.ka,.int .i64 l.ea,.int .i64 l.cap,.int .i64 l.eo,.int .i64 l.bo,.int .i64 l.slot,.int .i64 l.group,.int .i64 (x.off:Nat)],.pointer (some ⟨po,0,none⟩),.int .u64 sd] [pt po (.cells #[.map (some bm)] 192 (0,0)),bG (fun k:ByteArray=>Value.string k) bm (bu os),G,aj pa s] (fun v L=>∃ s1,v=.tuple #[.agg #[.pointer none,.int .i64 0,.int .i64 0,.int .i64 0,.int .i64 0,.int .i64 0,.int .i64 0,.int .i64 0,.int .i64 0,.int .i64 0,.int .i64 0],.agg #[.pointer none,.int .i64 0,.int .i64 0,.int .i64 0,.int .i64 0,.int .i64 0,.int .i64 0,.int .i64 0,.int .i64 0,.int .i64 0,.int .i64 0],.int .i64 24]/\L= [pt po (.cells #[.map (some bm)] 192 (0,0)),bG (fun k:ByteArray=>Value.string k) bm (bu os),G,aj pa s1]/\s1=s):=(aK.beside (aK.beside (aK.beside (xh pa x.off s l hng hne hO.place po sd) G) (bG (fun k:ByteArray=>Value.string k) bm (bu os))) (pt po (.cells #[.map (some bm)] 192 (0,0)))).mono fun v L ⟨L0,e,L1,e1,L2,e2,h1,h2⟩=>⟨s,h1,by rw[e,e1,e2,h2],rfl⟩
  exact(nY G pb pa po pr bq bm os l sdP s ps vM vO k x hx sd 24 (by decide) s (fun s1=>s1=s) hA (vu pr bq os l x sd hd s)).mono fun v L ⟨s1,h1,h2,h3⟩=>⟨s,ps,vM,vO,h1,by rw[h2,h3],hF,by omega⟩
 | false=>
  have hP:=(hO.live hd).1
  have hn8:=hP.n0
  have hcast:((8*x.n:Nat):Int)=8*(x.n:Int):=by omega
  rcases nU pa pr s hs l hl (8*(x.n:Int)) (x.T.depth+1) (by omega) with⟨c,hc,hp,hr⟩ | ⟨N,E,hN,hE,hsl,hdp,hsm,hfit,hr⟩
  ·have hA:=zJ G hG hGO pa x.off x.go po bm x.n x.e s l x.T (bu os) (fE hos) sd hsd hP hdep c hc hp
   exact(nY G pb pa po pr bq bm os l sdP s ps vM vO k x hx sd c hc s (fun s1=>s1=s) (hA.mono fun v L h=>⟨s,h.1,h.2,rfl⟩) (xn pr bq os hgo hos l hl x hO.he hO.hn hP.hT.okc hdep sd hsd hd s c hc (by rw[hcast];exact hr))).mono fun v L ⟨s1,h1,h2,h3⟩=>⟨s,ps,vM,vO,h1,by rw[h2,h3],hF,by omega⟩
  obtain rfl:x.n=N:=by omega
  obtain rfl:x.e=E:=(Nat.pow_right_inj (by decide)).1 (hP.hn.symm.trans hN)
  obtain⟨o1,ho1⟩:∃ o1,s.at 64=o1:=⟨_,rfl⟩
  obtain⟨C,hC⟩:∃ C,C=aH ((x.n*gN l:Nat):Int):=⟨_,rfl⟩
  obtain⟨g1,hg1⟩:∃ g1,(s.take 64).at C=g1:=⟨_,rfl⟩
  have hbig:1<=((x.n*gN l:Nat):Int):=by have:=(eK hl).g_eq;have:=Nat.mul_le_mul_right (gN l) hn8.1;omega
  have hCb:=(dE hbig).2.2 hsm
  have hcc:aH ((x.n*gN l:Nat):Int)∈dM:=gq hbig hsm
  rw[<- hC] at hCb hcc hfit hr
  have ok64:=ArS.take_ok hs ye (by omega)
  have JJ:=ArS.take_live hs (c:=64)
  have hli:=cX (c:=64) hs
  have ok2:((s.take 64).take C).ok:=ArS.take_ok ok64 hcc (by omega)
  have l2:=ArS.take_live ok64 (c:=C)
  have hli2:=cX (c:=C) ok64
  have hapt:=de ok64 ((dP hs).2 (.inr rfl)) (c:=C) (by omega)
  dsimp only at hapt
  obtain⟨s2,hs2⟩:∃ s2,s2=(s.take 64).take C:=⟨_,rfl⟩
  rw[<- hs2] at ok2 l2 hli2
  rw[ho1,hg1,<- hs2] at hr
  rw[ho1,hg1] at hapt
  have hr1:=hr
  rw[<- hcast] at hr1
  have hR2:=vA pr s2 ok2 l hl (8*(x.n:Int)) (x.T.depth+1) (by omega)
  have hpw:=sM hP.he hP.hn
  by_cases hf2:s.live+(64+C)+(64+C)<=s.limit
  ·obtain⟨o2,ho2⟩:∃ o2,s2.at 64=o2:=⟨_,rfl⟩
   obtain⟨g2,hg2⟩:∃ g2,(s2.take 64).at C=g2:=⟨_,rfl⟩
   have hA:=sf G hG hGO pa x.off x.go po bm x.n x.e s l x.T (bu os) (fE hos) sd hsd hP hdep (by omega) hsm (by rw[<- hC];exact hf2) o1 g1 ho1 (by rw[<- hC];exact hg1) o2 g2 (by rw[<- hC,<- hs2];exact ho2) (by rw[<- hC,<- hs2];exact hg2)
   rw[<- hC] at hA
   have hr2:aK Tryz.prog 58 #[.pointer (some ⟨pr,0,none⟩),.agg #[.int .i64 l.key,.int .i64 l.elem,.int .i64 l.ka,.int .i64 l.ea,.int .i64 l.cap,.int .i64 l.eo,.int .i64 l.bo,.int .i64 l.slot,.int .i64 l.group],.int .i64 ((8*x.n:Nat):Int),.int .i64 (x.T.depth+1)] [bd pr s2] (fun v L=>∃ p,v=.tuple #[.pointer (some ⟨p,0,none⟩),.int .i64 0]/\L= [cz pr l (⟨p,o2,g2,x.n,x.e,cR x.n (x.T.depth+1),false,false⟩:PR),bd pr ((s2.take 64).take C)]):=by
    rw[hcast]
    refine hR2.mono fun v L h=>?_
    rcases h with⟨h0,_⟩ | ⟨_,h0,_⟩ | ⟨n',e',h1,h2,h3,h4,h5⟩
    ·rw[hpw] at h0;cases h0
    ·omega
    obtain rfl:x.n=n':=by omega
    obtain rfl:x.e=e':=(Nat.pow_right_inj (by decide)).1 (hP.hn.symm.trans h1)
    rw[<- hC] at h5
    rcases h5 with⟨h5,_⟩ | ⟨_,_,h7⟩
    ·omega
    rw[ho2,hg2] at h7;exact h7
   have hRA:=xl pr bq os hgo hos l hl x hO.he hO.hn hP.hT.okc hdep sd hsd hd s o1 g1 o2 g2 s2 ((s2.take 64).take C) hr1 hr2
   obtain⟨F1,hE1⟩:∃ F1,F1=cw x.n (br (bu os) sd) (side (br (bu os) sd) x.T.depth x.T.cells 0) (x.T.depth+1) (8*x.n):=⟨_,rfl⟩
   obtain⟨F2,hE2⟩:∃ F2,F2=cw x.n (br (bu os) sd) (side (br (bu os) sd) x.T.depth x.T.cells 1) (x.T.depth+1) (8*x.n):=⟨_,rfl⟩
   rw[<- hE1,<- hE2] at hA hRA
   refine(wH G pb pa po pr bq bm os l sdP s ps vM vO k x hx sd hlen o1 g1 o2 g2 F1 F2 ((s2.take 64).take C) (fun s1=>∃ t1 t2,t1.ok/\t2.ok/\ej s t1 C/\cd t1 o1 g1 l x.n x.e (cR x.n (x.T.depth+1))/\fK t1 g1 (x.n*gN l) C/\ej t1 t2 C/\cd t2 o2 g2 l x.n x.e (cR x.n (x.T.depth+1))/\fK t2 g2 (x.n*gN l) C/\nG t2 s1 o1 g1 o2 g2 (x.n*gN l)/\cd s1 o1 g1 l x.n x.e F1/\cd s1 o2 g2 l x.n x.e F2) (hA.mono fun v L ⟨t1,t2,s',h1,h2,h3⟩=>⟨s',h1,h2,t1,t2,h3⟩) hRA).mono fun v L ⟨p,q,s',vM2,vO2,h1,h2,hok,t1,t2,k1,k2,hN1,hT1,hZ1,hN2,hT2,hZ2,hB,hA1,hA2⟩=>?_
   have hl1:=hN1.live
   have hi1:=hN1.limit
   have a64:=eB (hN1.all.trans (by rw[hs2])) (hN1.dead.trans (by rw[hs2]):t1.dead=s2.dead) 64
   have aC:=eB a64.2.1 a64.2.2 C
   have hF1:=hF.push hs hCb.2 hcc hfit hN1 (nc hs hC hP.he hP.hn (fu.new _ _) hT1 hN1 hZ1 hsm hfit hCb.2 ho1 hg1 p) rfl ho1.symm hg1.symm (show 0<=x.T.depth+1/\x.T.depth+1<=6 by omega)
   have hF2:=hF1.push k1 hCb.2 hcc (by omega) hN2 (nc k1 hC hP.he hP.hn (fu.new _ _) hT2 hN2 hZ2 hsm (by omega) hCb.2 (a64.1.trans ho2) (aC.1.trans hg2) q) rfl (a64.1.trans ho2).symm (aC.1.trans hg2).symm (show 0<=x.T.depth+1/\x.T.depth+1<=6 by omega)
   have hma:(ps.map du ++ [(⟨p,o1,g1,x.n,x.e,cR x.n (x.T.depth+1),false,false⟩:PR)]).map du=(ps.map du).map du ++ [(⟨p,o1,g1,x.n,x.e,cR x.n (x.T.depth+1),false,false⟩:PR)]:=by rw[List.map_append];rfl
   rw[hma] at hF2
   have hlA:((ps.map du).map du).length=ps.length:=by simp
   have hd1:F1.depth=x.T.depth+1:=by rw[hE1];exact(jt (H:=br (bu os) sd) (cs:=side (br (bu os) sd) x.T.depth x.T.cells 0) (d0:=x.T.depth+1) hP.hn (8*x.n)).depth
   have hd2:F2.depth=x.T.depth+1:=by rw[hE2];exact(jt (H:=br (bu os) sd) (cs:=side (br (bu os) sd) x.T.depth x.T.cells 1) (d0:=x.T.depth+1) hP.hn (8*x.n)).depth
   have hF3:=hF2.two k2 hok (i:=((ps.map du).map du).length) (j:=((ps.map du).map du).length+1) (n:=x.n) (y:=⟨p,o1,g1,x.n,x.e,cR x.n (x.T.depth+1),false,false⟩) (z:=⟨q,o2,g2,x.n,x.e,cR x.n (x.T.depth+1),false,false⟩) (by omega) (by rw[List.append_assoc,List.getElem?_append_right (Nat.le_refl _),Nat.sub_self];rfl) (by rw[List.append_assoc,List.getElem?_append_right (by omega),show((ps.map du).map du).length+1-((ps.map du).map du).length=1 by omega];rfl) rfl rfl rfl rfl hB hA1 hA2 (by rw[hE1];exact iz hP.hn _) (by rw[hE2];exact iz hP.hn _) hd1 hd2
   rw[Dg] at hF3
   dsimp only at hF3
   have hra:bd pr s'=bd pr ((s2.take 64).take C):=ff (by rw[hB.limit,hN2.limit,hN1.limit,cX (ArS.take_ok ok2 ye (by omega)),cX ok2];omega) (by rw[hB.all,hN2.all];exact aC.2.1) (by rw[hB.dead,hN2.dead];exact aC.2.2)
   refine⟨s',_,vM2,vO2,h1,?_,hF3,?_⟩
   ·rw[h2,hra]
    have f1:∀ a b:PR,((ps.map du).map du ++ [a] ++ [b]).length=(ps ++ [a] ++ [b]).length:=fun a b=>by simp
    have f2:∀ a b:PR,ca pr l ((ps.map du).map du ++ [a] ++ [b])=ca pr l (ps ++ [a] ++ [b]):=fun a b=>by
     unfold ca
     simp only[List.map_append,List.map_map]
     rfl
    have f3:∀ a b:PR,rowOf (bX pa l) ((ps.map du).map du ++ [a] ++ [b])=rowOf (bX pa l) (ps ++ [a] ++ [b]):=fun a b=>by
     rw[eO,eO,eO,eO,pz,pz]
    have f4:∀ a b:PR,bL ((ps.map du).map du ++ [a] ++ [b])=bL (ps ++ [a] ++ [b]):=fun a b=>by
     rw[kf,kf,kf,kf,pU,pU]
    rw[f1,f2,f3,f4]
   unfold cY
   rw[n5 _ _ rfl,n5 _ _ rfl,k8,k8]
   simp;omega
  have hnew:∀ s1,ej s s1 C->s1.ok->aK Tryz.prog 52 #[.pointer (some ⟨pa,0,none⟩),.agg l.cells,.int .i64 (8*(x.n:Int)),.int .i64 (x.T.depth+1)] [aj pa s1] (fun v L=>v=.tuple #[.agg #[.pointer none,.int .i64 0,.int .i64 0,.int .i64 0,.int .i64 0,.int .i64 0,.int .i64 0,.int .i64 0,.int .i64 0,.int .i64 0,.int .i64 0],.int .i64 22]/\L= [aj pa s1]):=fun s1 hN1 hok1=>by
   refine(Table.New_okT pa x.n x.e s1 l (8*(x.n:Int)) (x.T.depth+1) hl hP.he hP.hn rfl hdp).mono fun v L h=>?_
   rw[<- hC] at h
   have e1:=hN1.live
   have e2:=hN1.limit
   rcases h with⟨_,h1,h2⟩ | ⟨_,h0,_⟩
   ·exact⟨h1,h2⟩
   omega
  have hA:=zI G hG hGO pa x.off x.go po bm x.n x.e s l x.T (bu os) (fE hos) sd hsd hP hdep (by omega) 22 (by decide) hsm (by rw[<- hC];exact hfit) o1 g1 ho1 (by rw[<- hC];exact hg1) (by rw[<- hC];exact hnew)
  rw[<- hC] at hA
  have hr2:aK Tryz.prog 58 #[.pointer (some ⟨pr,0,none⟩),.agg #[.int .i64 l.key,.int .i64 l.elem,.int .i64 l.ka,.int .i64 l.ea,.int .i64 l.cap,.int .i64 l.eo,.int .i64 l.bo,.int .i64 l.slot,.int .i64 l.group],.int .i64 ((8*x.n:Nat):Int),.int .i64 (x.T.depth+1)] [bd pr s2] (fun v L=>v=.tuple #[.pointer none,.int .i64 22]/\L= [bd pr s2]):=by
   rw[hcast]
   refine hR2.mono fun v L h=>?_
   rcases h with⟨h0,_⟩ | ⟨_,h0,_⟩ | ⟨n',e',h1,h2,h3,h4,h5⟩
   ·rw[hpw] at h0;cases h0
   ·omega
   obtain rfl:x.n=n':=by omega
   rw[<- hC] at h5
   rcases h5 with⟨_,h6,h7⟩ | ⟨_,h6,_⟩
   ·exact⟨h6,h7⟩
   omega
  have hb1:(((o1:Nat):Int),(64:Int))∈s2.bl:=by rw[hs2,<- ho1];exact(dP ok64).2 (.inl ((dP hs).2 (.inr rfl)))
  have hb2:(((g1:Nat):Int),C)∈s2.bl:=by rw[hs2,<- hg1];exact(dP ok64).2 (.inr rfl)
  have hRA:=xm pr bq os hgo hos l hl x hO.he hO.hn hP.hT.okc hdep sd hsd hd s 22 (by decide) o1 g1 s2 ok2 (by omega) ⟨_,hb1⟩ ⟨_,hb2⟩ hr1 hr2
  refine(nY G pb pa po pr bq bm os l sdP s ps vM vO k x hx sd 22 (by decide) (s2.gives [((o1:Nat):Int),((g1:Nat):Int)]) (fun t=>∃ t1,t=t1.gives [((o1:Nat):Int),((g1:Nat):Int)]/\ej s t1 C/\mC s t) (hA.mono fun v L ⟨t1,h1,h2,h3,h4⟩=>⟨_,h1,h2,t1,rfl,h3,h4⟩) hRA).mono fun v L ⟨t,h1,h2,t1,ht,hN1,hK⟩=>?_
  have hal:t.all=s2.all:=by rw[ht,gm,hN1.all,hs2]
  have hde:t.dead=(s2.gives [((o1:Nat):Int),((g1:Nat):Int)]).dead:=by
   funext a
   rw[ht,jq,jq,hN1.dead,hs2]
  have hra:bd pr t=bd pr (s2.gives [((o1:Nat):Int),((g1:Nat):Int)]):=ff (by rw[hK.limit,(kY _ _).2];omega) (by rw[gm];exact hal) hde
  have hF2:=hF.over hK.bl hK.m fun p hp=>by rw[hal,hs2];exact m5 ok64 (m5 hs hp)
  refine⟨t,ps.map du,vM,vO,h1,?_,hF2,by unfold cY;rw[List.length_map,k8];omega⟩
  rw[h2,List.length_map,AT,pz,pU,hra]
end
end Plays
end Go.Proofs.YthkajgkagnenbaaGreatDoor
