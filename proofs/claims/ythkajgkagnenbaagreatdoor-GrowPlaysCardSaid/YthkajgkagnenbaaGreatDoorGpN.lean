/- larderlaw09's plays: anew. -/
import Derived.Test.YthkajgkagnenbaaGreatDoorGpM
set_option linter.unusedVariables false
set_option linter.unusedSimpArgs false
set_option linter.unusedSectionVars false
set_option maxRecDepth 100000
namespace Go.Proofs.YthkajgkagnenbaaGreatDoor
namespace Plays
open Go.RowKit Go.Proofs Eng Ty Arena Ctrl Layout GroupB TableB Table Refill Oracle Grow Exact RefA RefT Ref04
theorem wL (ps:List PR) (x:PR):(ps.map du ++ [x]).length=(ps ++ [x]).length:=by simp
theorem wi (pr:Nat) (l:Lay) (ps:List PR) (x:PR):ca pr l (ps.map du ++ [x])=ca pr l (ps ++ [x]):=by
 unfold ca
 rw[List.map_append,List.map_append,List.map_map]
 rfl
theorem vW (pa:Nat) (l:Lay) (ps:List PR) (x:PR):rowOf (bX pa l) (ps.map du ++ [x])=rowOf (bX pa l) (ps ++ [x]):=by
 rw[eO,eO]
 congr 1
 unfold rowOf
 rw[List.flatMap_def,List.flatMap_def,List.map_map]
 rfl
theorem wx (ps:List PR) (x:PR):bL (ps.map du ++ [x])=bL (ps ++ [x]):=by
 unfold bL
 rw[List.map_append,List.map_append,List.map_map]
 rfl
theorem sV (ps:List PR) (x:PR) (hd:x.dead=false):cY (ps.map du ++ [x])=cY ps+1:=by
 unfold cY
 rw[n5 _ _ hd,k8]
 simp;omega
theorem kj {pr:Nat} {l:Lay} {ps:List PR} {x y:PR} {k:Nat} {L R:List HP} (hx:ps[k]?=some x) (he:dS L (cz pr l x::ca pr l (ps.eraseIdx k)::cz pr l y::R)):dS L (ca pr l (ps ++ [y])::R):=fun w h=>
 pI w ((eM hx he w h).perm (List.Perm.swap _ _ _))
theorem wh {pr:Nat} {l:Lay} {ps:List PR} {x y z:PR} {k:Nat} {L R:List HP} (hx:ps[k]?=some x) (he:dS L (cz pr l x::ca pr l (ps.eraseIdx k)::cz pr l y::cz pr l z::R)):dS L (ca pr l (ps ++ [y] ++ [z])::R):=fun w h=>
 pI w ((kj hx he w h).perm (List.Perm.swap _ _ _))
theorem nc {s s':ArS} (hs:s.ok) {l:Lay} {N E o1 g1:Nat} {T:Tb} {C:Int} (hC:C=aH ((N*gN l:Nat):Int)) (hE:E<=13) (hN8:N=2 ^ E) (hR:fu N T) (hT:cd s' o1 g1 l N E T) (hNs:ej s s' C) (hZ:fK s' g1 (N*gN l) C) (hsm:((N*gN l:Nat):Int)<=1048576) (hfit:s.live+(64+C)<=s.limit) (hC1:1<=C) (ho1:s.at 64=o1) (hg1:(s.take 64).at C=g1) (p:Nat):One s' l ⟨p,o1,g1,N,E,T,false,false⟩:=by
 subst hC
 refine⟨hE,hN8,hR,fun _=>⟨hT,(hNs.bl _).2 (.inr (.inl (by rw[ho1]))),(hNs.bl _).2 (.inr (.inr (by rw[hg1]))),hsm⟩,fun q=>(by cases q),?_,fun _=>hZ⟩
 have:=oa hs ye (by omega)
 rw[ho1] at this
 show o1<=1000000000
 omega
section
variable (G:HP) (hG:dR G) (hGO:fR G) (pb pa po pr bq bm:Nat) (os:List (ByteArray×Int)) (hgo:ix os) (hos:∀ o∈os,0<=o.2/\o.2 < 18446744073709551616) (l:Lay) (hl:l.err=0) (sdP:Int) (s:ArS) (ps:List PR) (vM vO:Value) (k:Nat) (x:PR) (hx:ps[k]?=some x) (sd:Int) (hsd:0<=sd/\sd < 18446744073709551616)
include hx
theorem uS (t c:Int) (hc:c≠0) (hr:aK Tryz.prog 150 #[.pointer (some ⟨x.p,0,none⟩),.pointer (some ⟨bq,0,none⟩),.int .u64 sd,.int .i64 t] [cz pr l x,dv bq os,bd pr s] (fun v L=>v=.tuple #[.pointer none,.int .i64 c]/\L= [cz pr l x,dv bq os,bd pr s])) (h1:t=1->aK Tryz.prog 151 #[.agg #[.pointer (some ⟨pa,0,none⟩),.int .i64 l.key,.int .i64 l.elem,.int .i64 l.ka,.int .i64 l.ea,.int .i64 l.cap,.int .i64 l.eo,.int .i64 l.bo,.int .i64 l.slot,.int .i64 l.group,.int .i64 (x.off:Nat)],.pointer (some ⟨po,0,none⟩),.int .u64 sd] [pt po (.cells #[.map (some bm)] 192 (0,0)),bG (fun k:ByteArray=>Value.string k) bm (bu os),G,aj pa s] (fun v L=>v=.tuple #[.agg #[.pointer none,.int .i64 0,.int .i64 0,.int .i64 0,.int .i64 0,.int .i64 0,.int .i64 0,.int .i64 0,.int .i64 0,.int .i64 0,.int .i64 0],.int .i64 c]/\L= [pt po (.cells #[.map (some bm)] 192 (0,0)),bG (fun k:ByteArray=>Value.string k) bm (bu os),G,aj pa s])) (h2:t≠1->aK Tryz.prog 152 #[.agg #[.pointer (some ⟨pa,0,none⟩),.int .i64 l.key,.int .i64 l.elem,.int .i64 l.ka,.int .i64 l.ea,.int .i64 l.cap,.int .i64 l.eo,.int .i64 l.bo,.int .i64 l.slot,.int .i64 l.group,.int .i64 (x.off:Nat)],.pointer (some ⟨po,0,none⟩),.int .u64 sd] [pt po (.cells #[.map (some bm)] 192 (0,0)),bG (fun k:ByteArray=>Value.string k) bm (bu os),G,aj pa s] (fun v L=>v=.tuple #[.agg #[.pointer none,.int .i64 0,.int .i64 0,.int .i64 0,.int .i64 0,.int .i64 0,.int .i64 0,.int .i64 0,.int .i64 0,.int .i64 0,.int .i64 0],.int .i64 c]/\L= [pt po (.cells #[.map (some bm)] 192 (0,0)),bG (fun k:ByteArray=>Value.string k) bm (bu os),G,aj pa s])):
  aK Tryz.prog 62 #[.pointer (some ⟨pb,0,none⟩),.int .i64 (k:Nat),.int .i64 t,.int .u64 sd] [ca pr l ps,pt pb (.cells #[.pointer (some ⟨pa,0,none⟩),.pointer (some ⟨po,0,none⟩),.pointer (some ⟨pr,0,none⟩),.pointer (some ⟨bq,0,none⟩),.int .i64 l.key,.int .i64 l.elem,.int .i64 l.ka,.int .i64 l.ea,.int .i64 l.cap,.int .i64 l.eo,.int .i64 l.bo,.int .i64 l.slot,.int .i64 l.group,.int .u64 sdP,vM,vO] 93 (0,0)),aF 39 11 vM ps.length (rowOf (bX pa l) ps),aF 40 1 vO ps.length (bL ps),bd pr s,aj pa s,pt po (.cells #[.map (some bm)] 192 (0,0)),bG (fun k:ByteArray=>Value.string k) bm (bu os),dv bq os,G] (fun v L=>v=.bool true/\L= [ca pr l ps,pt pb (.cells #[.pointer (some ⟨pa,0,none⟩),.pointer (some ⟨po,0,none⟩),.pointer (some ⟨pr,0,none⟩),.pointer (some ⟨bq,0,none⟩),.int .i64 l.key,.int .i64 l.elem,.int .i64 l.ka,.int .i64 l.ea,.int .i64 l.cap,.int .i64 l.eo,.int .i64 l.bo,.int .i64 l.slot,.int .i64 l.group,.int .u64 sdP,vM,vO] 93 (0,0)),aF 39 11 vM ps.length (rowOf (bX pa l) ps),aF 40 1 vO ps.length (bL ps),bd pr s,aj pa s,pt po (.cells #[.map (some bm)] 192 (0,0)),bG (fun k:ByteArray=>Value.string k) bm (bu os),dv bq os,G]):=by
 have hk:k < ps.length:=(List.getElem?_eq_some_iff.1 hx).1
 have hptr:=gb hx
 refine au Hi Tryz.func62 rfl rfl rfl fun Fr w0=>aZ ?_
 refine gj hx .here ?_
 refine bU (.there (.there (.there .here))) fun _ hvm=>?_
 obtain⟨a0,cap,rfl,ha,_,_⟩:=hvm
 obtain⟨g0,rfl⟩:=ha (by omega)
 refine bU (.there (.there (.there (.there .here)))) fun _ hvo=>?_
 obtain⟨a1,cap1,rfl,ha1,_,_⟩:=hvo
 obtain⟨g1,rfl⟩:=ha1 (by omega)
 refine sr<|ar O O<|lc<|al<|aY mixed ?_
 apply dq 0 O (yq (ah O))
 apply dq 1 O (yq (ae O))
 apply dq 2 O (yq (aE 15 O bY O O jD))
 apply dq 3 O (yq (aI O ke))
 apply dq 4 O (yq (ah O))
 apply dq 5 O (yq (az O O j7 lu (by omega)))
 apply dq 6 O
 ·apply yq
  apply aT O mn
  ·exact tk
  exact hptr
 apply dq 7 O (yq (ah O))
 apply dq 8 O (yq (ae O))
 apply dq 9 O (yq (aE 3 O bY O O tG))
 apply dq 10 O (yq (aI O tJ))
 apply dq 11 O (yq (ah O))
 apply dq 12 O (yq (ah O))
 refine ak [6,10,11,12,5,9,3,4,8,2,7,1,0] [] 13 [(22,_),(26,_),(27,_),(28,_)] gO ⟨rfl,rfl,rfl,rfl,trivial⟩ (by kernel_rfl) (by kernel_rfl) fun Ex=>?_
 refine bF O O O (hr) ?_
 refine ai ?_
 refine aQ trivial ?_
 apply dq 14 O (yq (ah O))
 apply dq 15 O (yq (aa O ga))
 apply dq 16 O (yq (aa O ga))
 refine ak [15,14] [16] 17 [(30,_)] gO ⟨rfl,trivial⟩ (by kernel_rfl) (by kernel_rfl) fun Ex=>?_
 refine ar O O<|ai ?_
 refine aQ ⟨ya O O (yq (aa O ga)),trivial⟩ ?_
 refine ak [16] [] 18 [(31,_)] gO ⟨rfl,trivial⟩ (by kernel_rfl) (by kernel_rfl) fun Ex=>?_
 refine ar O O<|ai ?_
 refine aQ trivial ?_
 refine aV (by kernel_rfl) ?_
 refine an<|al<|sr<|mv O O<|ad O (qi O O (bN ·))<|lc<|aG O (fun q=>?_) fun q=>?_
 ·refine al<|aY mixed ?_
  apply dq 0 O (yq (ah O))
  apply dq 1 O (yq (ae O))
  apply dq 2 O (yq (aE 14 O bY O O gC))
  apply dq 3 O (yq (aI O gX))
  apply dq 4 O (yq (ah O))
  apply dq 5 O (yq (aL O O gW aM (by omega)))
  apply dq 6 O
  ·apply yq
   apply cg (A:=aF 39 11 (.slice (some ⟨g0,0,none⟩) ps.length cap) ps.length (rowOf (bX pa l) ps)) (us:=[.pointer (some ⟨pa,0,none⟩),.int .i64 l.key,.int .i64 l.elem,.int .i64 l.ka,.int .i64 l.ea,.int .i64 l.cap,.int .i64 l.eo,.int .i64 l.bo,.int .i64 l.slot,.int .i64 l.group,.int .i64 (x.off:Nat)]) rfl bA aM rfl
   ·exact tk
   exact cK hx _ _ _
  apply dq 7 O (yq (ah O))
  apply dq 8 O (yq (ae O))
  apply dq 9 O (yq (aE 1 O bY O O jE))
  apply dq 10 O (yq (aI O ij))
  apply dq 11 O (yq (ah O))
  apply dI 12 16
  ·kernel_rfl
  ·refine cA (q1:=[6,10,11,5,9,3,4,8,2,7,1,0]) (q2:=[]) [(41,_),(45,_),(46,_)] gO ⟨O,O,O,trivial⟩ (by kernel_rfl) fun Ex=>?_
   refine bF O O O (h1 q) ?_
   refine ai ?_
   refine aQ trivial ?_
   apply dq 13 O (yq (ah O))
   apply dq 14 O (yq (aa O ga))
   apply dq 15 O (yq (aa O ga))
   refine ak [] [15,14,13] 16 [] gO trivial (by kernel_rfl) (by kernel_rfl) fun Ex=>?_
   refine ay O cM fun b11=>ai ?_
   refine aQ ⟨ya O O (yq (aa O ga)),ya O O (yq (aa O ga)),ya O O (yq (ah O)),trivial⟩ ?_
   refine ak [14,13] [15] 17 [(11,_),(48,_)] gO ⟨rfl,rfl,trivial⟩ (by kernel_rfl) (by kernel_rfl) fun Ex=>?_
   refine bZ O O O aM O O ?_
   refine ai ?_
   refine aQ ⟨ya O O (yq (aa O ga)),trivial⟩ ?_
   refine ak [15] [] 18 [(49,_)] gO ⟨rfl,trivial⟩ (by kernel_rfl) (by kernel_rfl) fun Ex=>?_
   refine ar O O<|ai ?_
   refine aQ trivial ?_
   refine aV (by kernel_rfl) ?_
   refine nz<|mv O O<|ad O (aO O bA aM) ?_
   refine mv O O<|mv O O<|mv O O<|bF O O O (jQ pb c hc) ?_
   refine ar O O<|lc<|rt ?_
   apply aR (.inl rfl) ([ca pr l ps,pt pb (.cells #[.pointer (some ⟨pa,0,none⟩),.pointer (some ⟨po,0,none⟩),.pointer (some ⟨pr,0,none⟩),.pointer (some ⟨bq,0,none⟩),.int .i64 l.key,.int .i64 l.elem,.int .i64 l.ka,.int .i64 l.ea,.int .i64 l.cap,.int .i64 l.eo,.int .i64 l.bo,.int .i64 l.slot,.int .i64 l.group,.int .u64 sdP,(.slice (some ⟨g0,0,none⟩) ps.length cap),(.slice (some ⟨g1,0,none⟩) ps.length cap1)] 93 (0,0)),aF 39 11 (.slice (some ⟨g0,0,none⟩) ps.length cap) ps.length (rowOf (bX pa l) ps),aF 40 1 (.slice (some ⟨g1,0,none⟩) ps.length cap1) ps.length (bL ps),bd pr s,aj pa s,pt po (.cells #[.map (some bm)] 192 (0,0)),bG (fun k:ByteArray=>Value.string k) bm (bu os),dv bq os,G])
   ·apply cP O
    exact .tmp rfl
   ·exact⟨rfl,rfl⟩
   refine eM hx ?_;(exact en)
  refine cA (q1:=[]) (q2:=[11,10,9,8,7,6,5,4,3,2,1,0]) [] gO trivial (by kernel_rfl) fun Ex=>?_
  refine ay O cM fun b11=>ai ?_
  apply aQ
  ·refine⟨?_,?_,?_,?_,?_,?_,?_,?_,?_,?_,?_,?_,trivial⟩
   ·apply ya O O;exact yq (ah O)
   ·apply ya O O;exact yq (aI O ij)
   ·apply ya O O;exact yq (aE 1 O bY O O jE)
   ·apply ya O O;exact yq (ae O)
   ·apply ya O O;exact yq (ah O)
   ·apply ya O O
    apply yq
    apply cg (A:=aF 39 11 (.slice (some ⟨g0,0,none⟩) ps.length cap) ps.length (rowOf (bX pa l) ps)) (us:=[.pointer (some ⟨pa,0,none⟩),.int .i64 l.key,.int .i64 l.elem,.int .i64 l.ka,.int .i64 l.ea,.int .i64 l.cap,.int .i64 l.eo,.int .i64 l.bo,.int .i64 l.slot,.int .i64 l.group,.int .i64 (x.off:Nat)]) rfl bA aM rfl
    ·exact tk
    exact cK hx _ _ _
   ·apply ya O O;exact yq (aL O O gW aM (by omega))
   ·apply ya O O;exact yq (ah O)
   ·apply ya O O;exact yq (aI O gX)
   ·apply ya O O;exact yq (aE 14 O bY O O gC)
   ·apply ya O O;exact yq (ae O)
   apply ya O O;exact yq (ah O)
  refine ak [6,10,11,5,9,3,4,8,2,7,1,0] [] 12 [(41,_),(45,_),(46,_)] gO ⟨rfl,rfl,rfl,trivial⟩ (by kernel_rfl) (by kernel_rfl) fun Ex=>?_
  refine bF O O O (h1 q) ?_
  refine ai ?_
  refine aQ trivial ?_
  apply dq 13 O (yq (ah O))
  apply dq 14 O (yq (aa O ga))
  apply dq 15 O (yq (aa O ga))
  refine ak [14,13] [15] 17 [(11,_),(48,_)] gO ⟨rfl,rfl,trivial⟩ (by kernel_rfl) (by kernel_rfl) fun Ex=>?_
  refine bZ O O O aM O O ?_
  refine ai ?_
  refine aQ ⟨ya O O (yq (aa O ga)),trivial⟩ ?_
  refine ak [15] [] 18 [(49,_)] gO ⟨rfl,trivial⟩ (by kernel_rfl) (by kernel_rfl) fun Ex=>?_
  refine ar O O<|ai ?_
  refine aQ trivial ?_
  refine aV (by kernel_rfl) ?_
  refine nz<|mv O O<|ad O (aO O bA aM) ?_
  refine mv O O<|mv O O<|mv O O<|bF O O O (jQ pb c hc) ?_
  refine ar O O<|lc<|rt ?_
  apply aR (.inl rfl) ([ca pr l ps,pt pb (.cells #[.pointer (some ⟨pa,0,none⟩),.pointer (some ⟨po,0,none⟩),.pointer (some ⟨pr,0,none⟩),.pointer (some ⟨bq,0,none⟩),.int .i64 l.key,.int .i64 l.elem,.int .i64 l.ka,.int .i64 l.ea,.int .i64 l.cap,.int .i64 l.eo,.int .i64 l.bo,.int .i64 l.slot,.int .i64 l.group,.int .u64 sdP,(.slice (some ⟨g0,0,none⟩) ps.length cap),(.slice (some ⟨g1,0,none⟩) ps.length cap1)] 93 (0,0)),aF 39 11 (.slice (some ⟨g0,0,none⟩) ps.length cap) ps.length (rowOf (bX pa l) ps),aF 40 1 (.slice (some ⟨g1,0,none⟩) ps.length cap1) ps.length (bL ps),bd pr s,aj pa s,pt po (.cells #[.map (some bm)] 192 (0,0)),bG (fun k:ByteArray=>Value.string k) bm (bu os),dv bq os,G])
  ·apply cP O
   exact .tmp rfl
  ·exact⟨rfl,rfl⟩
  refine eM hx ?_;(exact en)
 refine aq<|an<|al<|aY mixed ?_
 apply dq 0 O (yq (ah O))
 apply dq 1 O (yq (ae O))
 apply dq 2 O (yq (aE 14 O bY O O gC))
 apply dq 3 O (yq (aI O gX))
 apply dq 4 O (yq (ah O))
 apply dq 5 O (yq (aL O O gW aM (by omega)))
 apply dq 6 O
 ·apply yq
  apply cg (A:=aF 39 11 (.slice (some ⟨g0,0,none⟩) ps.length cap) ps.length (rowOf (bX pa l) ps)) (us:=[.pointer (some ⟨pa,0,none⟩),.int .i64 l.key,.int .i64 l.elem,.int .i64 l.ka,.int .i64 l.ea,.int .i64 l.cap,.int .i64 l.eo,.int .i64 l.bo,.int .i64 l.slot,.int .i64 l.group,.int .i64 (x.off:Nat)]) rfl bA aM rfl
  ·exact tk
  exact cK hx _ _ _
 apply dq 7 O (yq (ah O))
 apply dq 8 O (yq (ae O))
 apply dq 9 O (yq (aE 1 O bY O O jE))
 apply dq 10 O (yq (aI O ij))
 apply dq 11 O (yq (ah O))
 apply dI 12 16
 ·kernel_rfl
 ·refine cA (q1:=[6,10,11,5,9,3,4,8,2,7,1,0]) (q2:=[]) [(63,_),(67,_),(68,_)] gO ⟨O,O,O,trivial⟩ (by kernel_rfl) fun Ex=>?_
  refine bF O O O (h2 q) ?_
  refine ai ?_
  refine aQ trivial ?_
  apply dq 13 O (yq (ah O))
  apply dq 14 O (yq (aa O ga))
  apply dq 15 O (yq (aa O ga))
  refine ak [] [15,14,13] 16 [] gO trivial (by kernel_rfl) (by kernel_rfl) fun Ex=>?_
  refine ay O cM fun b13=>ai ?_
  refine aQ ⟨ya O O (yq (aa O ga)),ya O O (yq (aa O ga)),ya O O (yq (ah O)),trivial⟩ ?_
  refine ak [14,13] [15] 17 [(13,_),(70,_)] gO ⟨rfl,rfl,trivial⟩ (by kernel_rfl) (by kernel_rfl) fun Ex=>?_
  refine bZ O O O aM O O ?_
  refine ai ?_
  refine aQ ⟨ya O O (yq (aa O ga)),trivial⟩ ?_
  refine ak [15] [] 18 [(71,_)] gO ⟨rfl,trivial⟩ (by kernel_rfl) (by kernel_rfl) fun Ex=>?_
  refine ar O O<|ai ?_
  refine aQ trivial ?_
  refine aV (by kernel_rfl) ?_
  refine nz<|mv O O<|ad O (aO O bA aM) ?_
  refine mv O O<|mv O O<|mv O O<|bF O O O (jQ pb c hc) ?_
  refine ar O O<|lc<|rt ?_
  apply aR (.inl rfl) ([ca pr l ps,pt pb (.cells #[.pointer (some ⟨pa,0,none⟩),.pointer (some ⟨po,0,none⟩),.pointer (some ⟨pr,0,none⟩),.pointer (some ⟨bq,0,none⟩),.int .i64 l.key,.int .i64 l.elem,.int .i64 l.ka,.int .i64 l.ea,.int .i64 l.cap,.int .i64 l.eo,.int .i64 l.bo,.int .i64 l.slot,.int .i64 l.group,.int .u64 sdP,(.slice (some ⟨g0,0,none⟩) ps.length cap),(.slice (some ⟨g1,0,none⟩) ps.length cap1)] 93 (0,0)),aF 39 11 (.slice (some ⟨g0,0,none⟩) ps.length cap) ps.length (rowOf (bX pa l) ps),aF 40 1 (.slice (some ⟨g1,0,none⟩) ps.length cap1) ps.length (bL ps),bd pr s,aj pa s,pt po (.cells #[.map (some bm)] 192 (0,0)),bG (fun k:ByteArray=>Value.string k) bm (bu os),dv bq os,G])
  ·apply cP O
   exact .tmp rfl
  ·exact⟨rfl,rfl⟩
  refine eM hx ?_;(exact en)
 refine cA (q1:=[]) (q2:=[11,10,9,8,7,6,5,4,3,2,1,0]) [] gO trivial (by kernel_rfl) fun Ex=>?_
 refine ay O cM fun b13=>ai ?_
 apply aQ
 ·refine⟨?_,?_,?_,?_,?_,?_,?_,?_,?_,?_,?_,?_,trivial⟩
  ·apply ya O O;exact yq (ah O)
  ·apply ya O O;exact yq (aI O ij)
  ·apply ya O O;exact yq (aE 1 O bY O O jE)
  ·apply ya O O;exact yq (ae O)
  ·apply ya O O;exact yq (ah O)
  ·apply ya O O
   apply yq
   apply cg (A:=aF 39 11 (.slice (some ⟨g0,0,none⟩) ps.length cap) ps.length (rowOf (bX pa l) ps)) (us:=[.pointer (some ⟨pa,0,none⟩),.int .i64 l.key,.int .i64 l.elem,.int .i64 l.ka,.int .i64 l.ea,.int .i64 l.cap,.int .i64 l.eo,.int .i64 l.bo,.int .i64 l.slot,.int .i64 l.group,.int .i64 (x.off:Nat)]) rfl bA aM rfl
   ·exact tk
   exact cK hx _ _ _
  ·apply ya O O;exact yq (aL O O gW aM (by omega))
  ·apply ya O O;exact yq (ah O)
  ·apply ya O O;exact yq (aI O gX)
  ·apply ya O O;exact yq (aE 14 O bY O O gC)
  ·apply ya O O;exact yq (ae O)
  apply ya O O;exact yq (ah O)
 refine ak [6,10,11,5,9,3,4,8,2,7,1,0] [] 12 [(63,_),(67,_),(68,_)] gO ⟨rfl,rfl,rfl,trivial⟩ (by kernel_rfl) (by kernel_rfl) fun Ex=>?_
 refine bF O O O (h2 q) ?_
 refine ai ?_
 refine aQ trivial ?_
 apply dq 13 O (yq (ah O))
 apply dq 14 O (yq (aa O ga))
 apply dq 15 O (yq (aa O ga))
 refine ak [14,13] [15] 17 [(13,_),(70,_)] gO ⟨rfl,rfl,trivial⟩ (by kernel_rfl) (by kernel_rfl) fun Ex=>?_
 refine bZ O O O aM O O ?_
 refine ai ?_
 refine aQ ⟨ya O O (yq (aa O ga)),trivial⟩ ?_
 refine ak [15] [] 18 [(71,_)] gO ⟨rfl,trivial⟩ (by kernel_rfl) (by kernel_rfl) fun Ex=>?_
 refine ar O O<|ai ?_
 refine aQ trivial ?_
 refine aV (by kernel_rfl) ?_
 refine nz<|mv O O<|ad O (aO O bA aM) ?_
 refine mv O O<|mv O O<|mv O O<|bF O O O (jQ pb c hc) ?_
 refine ar O O<|lc<|rt ?_
 apply aR (.inl rfl) ([ca pr l ps,pt pb (.cells #[.pointer (some ⟨pa,0,none⟩),.pointer (some ⟨po,0,none⟩),.pointer (some ⟨pr,0,none⟩),.pointer (some ⟨bq,0,none⟩),.int .i64 l.key,.int .i64 l.elem,.int .i64 l.ka,.int .i64 l.ea,.int .i64 l.cap,.int .i64 l.eo,.int .i64 l.bo,.int .i64 l.slot,.int .i64 l.group,.int .u64 sdP,(.slice (some ⟨g0,0,none⟩) ps.length cap),(.slice (some ⟨g1,0,none⟩) ps.length cap1)] 93 (0,0)),aF 39 11 (.slice (some ⟨g0,0,none⟩) ps.length cap) ps.length (rowOf (bX pa l) ps),aF 40 1 (.slice (some ⟨g1,0,none⟩) ps.length cap1) ps.length (bL ps),bd pr s,aj pa s,pt po (.cells #[.map (some bm)] 192 (0,0)),bG (fun k:ByteArray=>Value.string k) bm (bu os),dv bq os,G])
 ·apply cP O
  exact .tmp rfl
 ·exact⟨rfl,rfl⟩
 refine eM hx ?_;(exact en)
theorem zg (t:Int) (hlen:ps.length<=1500000000000) (N E o1 g1:Nat) (F:Tb) (s2:ArS) (Q:ArS->Prop) (hr:aK Tryz.prog 150 #[.pointer (some ⟨x.p,0,none⟩),.pointer (some ⟨bq,0,none⟩),.int .u64 sd,.int .i64 t] [cz pr l x,dv bq os,bd pr s] (fun v L=>∃ p,v=.tuple #[.pointer (some ⟨p,0,none⟩),.int .i64 0]/\L= [cz pr l (⟨p,o1,g1,N,E,F,false,false⟩:PR),cz pr l x,dv bq os,bd pr s2])) (h1:t=1->aK Tryz.prog 151 #[.agg #[.pointer (some ⟨pa,0,none⟩),.int .i64 l.key,.int .i64 l.elem,.int .i64 l.ka,.int .i64 l.ea,.int .i64 l.cap,.int .i64 l.eo,.int .i64 l.bo,.int .i64 l.slot,.int .i64 l.group,.int .i64 (x.off:Nat)],.pointer (some ⟨po,0,none⟩),.int .u64 sd] [pt po (.cells #[.map (some bm)] 192 (0,0)),bG (fun k:ByteArray=>Value.string k) bm (bu os),G,aj pa s] (fun v L=>∃ s',v=.tuple #[.agg #[.pointer (some ⟨pa,0,none⟩),.int .i64 l.key,.int .i64 l.elem,.int .i64 l.ka,.int .i64 l.ea,.int .i64 l.cap,.int .i64 l.eo,.int .i64 l.bo,.int .i64 l.slot,.int .i64 l.group,.int .i64 ((o1:Nat):Int)],.int .i64 0]/\L= [pt po (.cells #[.map (some bm)] 192 (0,0)),bG (fun k:ByteArray=>Value.string k) bm (bu os),G,aj pa s']/\Q s')) (h2:t≠1->aK Tryz.prog 152 #[.agg #[.pointer (some ⟨pa,0,none⟩),.int .i64 l.key,.int .i64 l.elem,.int .i64 l.ka,.int .i64 l.ea,.int .i64 l.cap,.int .i64 l.eo,.int .i64 l.bo,.int .i64 l.slot,.int .i64 l.group,.int .i64 (x.off:Nat)],.pointer (some ⟨po,0,none⟩),.int .u64 sd] [pt po (.cells #[.map (some bm)] 192 (0,0)),bG (fun k:ByteArray=>Value.string k) bm (bu os),G,aj pa s] (fun v L=>∃ s',v=.tuple #[.agg #[.pointer (some ⟨pa,0,none⟩),.int .i64 l.key,.int .i64 l.elem,.int .i64 l.ka,.int .i64 l.ea,.int .i64 l.cap,.int .i64 l.eo,.int .i64 l.bo,.int .i64 l.slot,.int .i64 l.group,.int .i64 ((o1:Nat):Int)],.int .i64 0]/\L= [pt po (.cells #[.map (some bm)] 192 (0,0)),bG (fun k:ByteArray=>Value.string k) bm (bu os),G,aj pa s']/\Q s')):
  aK Tryz.prog 62 #[.pointer (some ⟨pb,0,none⟩),.int .i64 (k:Nat),.int .i64 t,.int .u64 sd] [ca pr l ps,pt pb (.cells #[.pointer (some ⟨pa,0,none⟩),.pointer (some ⟨po,0,none⟩),.pointer (some ⟨pr,0,none⟩),.pointer (some ⟨bq,0,none⟩),.int .i64 l.key,.int .i64 l.elem,.int .i64 l.ka,.int .i64 l.ea,.int .i64 l.cap,.int .i64 l.eo,.int .i64 l.bo,.int .i64 l.slot,.int .i64 l.group,.int .u64 sdP,vM,vO] 93 (0,0)),aF 39 11 vM ps.length (rowOf (bX pa l) ps),aF 40 1 vO ps.length (bL ps),bd pr s,aj pa s,pt po (.cells #[.map (some bm)] 192 (0,0)),bG (fun k:ByteArray=>Value.string k) bm (bu os),dv bq os,G] (fun v L=>∃ p s' vM' vO',v=.bool true/\L= [ca pr l (ps ++ [(⟨p,o1,g1,N,E,F,false,false⟩:PR)]),pt pb (.cells #[.pointer (some ⟨pa,0,none⟩),.pointer (some ⟨po,0,none⟩),.pointer (some ⟨pr,0,none⟩),.pointer (some ⟨bq,0,none⟩),.int .i64 l.key,.int .i64 l.elem,.int .i64 l.ka,.int .i64 l.ea,.int .i64 l.cap,.int .i64 l.eo,.int .i64 l.bo,.int .i64 l.slot,.int .i64 l.group,.int .u64 sdP,vM',vO'] 93 (0,0)),aF 39 11 vM' (ps ++ [(⟨p,o1,g1,N,E,F,false,false⟩:PR)]).length (rowOf (bX pa l) (ps ++ [(⟨p,o1,g1,N,E,F,false,false⟩:PR)])),aF 40 1 vO' (ps ++ [(⟨p,o1,g1,N,E,F,false,false⟩:PR)]).length (bL (ps ++ [(⟨p,o1,g1,N,E,F,false,false⟩:PR)])),bd pr s2,aj pa s',pt po (.cells #[.map (some bm)] 192 (0,0)),bG (fun k:ByteArray=>Value.string k) bm (bu os),dv bq os,G]/\Q s'):=by
 have hk:k < ps.length:=(List.getElem?_eq_some_iff.1 hx).1
 have hptr:=gb hx
 refine au Hi Tryz.func62 rfl rfl rfl fun Fr w0=>aZ ?_
 refine gj hx .here ?_
 refine bU (.there (.there (.there .here))) fun _ hvm=>?_
 obtain⟨a0,cap,rfl,ha,_,_⟩:=hvm
 obtain⟨g0,rfl⟩:=ha (by omega)
 refine bU (.there (.there (.there (.there .here)))) fun _ hvo=>?_
 obtain⟨a1,cap1,rfl,ha1,_,_⟩:=hvo
 obtain⟨go,rfl⟩:=ha1 (by omega)
 refine sr<|ar O O<|lc<|al<|aY mixed ?_
 apply dq 0 O (yq (ah O))
 apply dq 1 O (yq (ae O))
 apply dq 2 O (yq (aE 15 O bY O O jD))
 apply dq 3 O (yq (aI O ke))
 apply dq 4 O (yq (ah O))
 apply dq 5 O (yq (az O O j7 lu (by omega)))
 apply dq 6 O
 ·apply yq
  apply aT O mn
  ·exact tk
  exact hptr
 apply dq 7 O (yq (ah O))
 apply dq 8 O (yq (ae O))
 apply dq 9 O (yq (aE 3 O bY O O tG))
 apply dq 10 O (yq (aI O tJ))
 apply dq 11 O (yq (ah O))
 apply dq 12 O (yq (ah O))
 refine ak [6,10,11,12,5,9,3,4,8,2,7,1,0] [] 13 [(22,_),(26,_),(27,_),(28,_)] gO ⟨rfl,rfl,rfl,rfl,trivial⟩ (by kernel_rfl) (by kernel_rfl) fun Ex=>?_
 refine cT O O O (hr) ?_
 rintro v L' ⟨p,rfl,rfl⟩
 refine bx ?_
 refine ai ?_
 refine aQ trivial ?_
 apply dq 14 O (yq (ah O))
 apply dq 15 O (yq (aa O ga))
 apply dq 16 O (yq (aa O ga))
 refine ak [15,14] [16] 17 [(30,_)] gO ⟨rfl,trivial⟩ (by kernel_rfl) (by kernel_rfl) fun Ex=>?_
 refine ar O O<|ai ?_
 refine aQ ⟨ya O O (yq (aa O ga)),trivial⟩ ?_
 refine ak [16] [] 18 [(31,_)] gO ⟨rfl,trivial⟩ (by kernel_rfl) (by kernel_rfl) fun Ex=>?_
 refine ar O O<|ai ?_
 refine aQ trivial ?_
 refine aV (by kernel_rfl) ?_
 refine an<|al<|sr<|mv O O<|ad O (qi O O (bN ·))<|lc<|aG O (fun q=>?_) fun q=>?_
 ·refine al<|aY mixed ?_
  apply dq 0 O (yq (ah O))
  apply dq 1 O (yq (ae O))
  apply dq 2 O (yq (aE 14 O bY O O gC))
  apply dq 3 O (yq (aI O gX))
  apply dq 4 O (yq (ah O))
  apply dq 5 O (yq (aL O O gW aM (by omega)))
  apply dq 6 O
  ·apply yq
   apply cg (A:=aF 39 11 (.slice (some ⟨g0,0,none⟩) ps.length cap) ps.length (rowOf (bX pa l) ps)) (us:=[.pointer (some ⟨pa,0,none⟩),.int .i64 l.key,.int .i64 l.elem,.int .i64 l.ka,.int .i64 l.ea,.int .i64 l.cap,.int .i64 l.eo,.int .i64 l.bo,.int .i64 l.slot,.int .i64 l.group,.int .i64 (x.off:Nat)]) rfl bA aM rfl
   ·exact tk
   exact cK hx _ _ _
  apply dq 7 O (yq (ah O))
  apply dq 8 O (yq (ae O))
  apply dq 9 O (yq (aE 1 O bY O O jE))
  apply dq 10 O (yq (aI O ij))
  apply dq 11 O (yq (ah O))
  apply dI 12 16
  ·kernel_rfl
  ·refine cA (q1:=[6,10,11,5,9,3,4,8,2,7,1,0]) (q2:=[]) [(41,_),(45,_),(46,_)] gO ⟨O,O,O,trivial⟩ (by kernel_rfl) fun Ex=>?_
   refine cT O O O (h1 q) ?_
   rintro v L' ⟨s',rfl,rfl,hQ⟩
   refine bx ?_
   refine ai ?_
   refine aQ trivial ?_
   apply dq 13 O (yq (ah O))
   apply dq 14 O (yq (aa O ga))
   apply dq 15 O (yq (aa O ga))
   refine ak [] [15,14,13] 16 [] gO trivial (by kernel_rfl) (by kernel_rfl) fun Ex=>?_
   refine ay O cM fun b11=>ai ?_
   refine aQ ⟨ya O O (yq (aa O ga)),ya O O (yq (aa O ga)),ya O O (yq (ah O)),trivial⟩ ?_
   refine ak [14,13] [15] 17 [(11,_),(48,_)] gO ⟨rfl,rfl,trivial⟩ (by kernel_rfl) (by kernel_rfl) fun Ex=>?_
   refine bZ O O O aM O O ?_
   refine ai ?_
   refine aQ ⟨ya O O (yq (aa O ga)),trivial⟩ ?_
   refine ak [15] [] 18 [(49,_)] gO ⟨rfl,trivial⟩ (by kernel_rfl) (by kernel_rfl) fun Ex=>?_
   refine ar O O<|ai ?_
   refine aQ trivial ?_
   refine aV (by kernel_rfl) ?_
   refine nz<|mv O O<|ad O (aO O bA aM) ?_
   refine mv O O<|mv O O<|mv O O<|cT O O O (iA pb pa po pr bq l sdP ps (.slice (some ⟨g0,0,none⟩) ps.length cap) (.slice (some ⟨go,0,none⟩) ps.length cap1) (⟨p,o1,g1,N,E,F,false,false⟩:PR) hlen) ?_
   rintro v L' ⟨vM',vO',rfl,rfl⟩
   refine bx ?_
   refine ar O O<|lc<|rt ?_
   apply aR (.inl rfl) ([ca pr l (ps ++ [(⟨p,o1,g1,N,E,F,false,false⟩:PR)]),pt pb (.cells #[.pointer (some ⟨pa,0,none⟩),.pointer (some ⟨po,0,none⟩),.pointer (some ⟨pr,0,none⟩),.pointer (some ⟨bq,0,none⟩),.int .i64 l.key,.int .i64 l.elem,.int .i64 l.ka,.int .i64 l.ea,.int .i64 l.cap,.int .i64 l.eo,.int .i64 l.bo,.int .i64 l.slot,.int .i64 l.group,.int .u64 sdP,vM',vO'] 93 (0,0)),aF 39 11 vM' (ps ++ [(⟨p,o1,g1,N,E,F,false,false⟩:PR)]).length (rowOf (bX pa l) (ps ++ [(⟨p,o1,g1,N,E,F,false,false⟩:PR)])),aF 40 1 vO' (ps ++ [(⟨p,o1,g1,N,E,F,false,false⟩:PR)]).length (bL (ps ++ [(⟨p,o1,g1,N,E,F,false,false⟩:PR)])),bd pr s2,aj pa s',pt po (.cells #[.map (some bm)] 192 (0,0)),bG (fun k:ByteArray=>Value.string k) bm (bu os),dv bq os,G])
   ·apply cP O
    exact .tmp rfl
   ·exact⟨p,s',vM',vO',rfl,rfl,hQ⟩
   refine kj hx ?_;(exact en)
  refine cA (q1:=[]) (q2:=[11,10,9,8,7,6,5,4,3,2,1,0]) [] gO trivial (by kernel_rfl) fun Ex=>?_
  refine ay O cM fun b11=>ai ?_
  apply aQ
  ·refine⟨?_,?_,?_,?_,?_,?_,?_,?_,?_,?_,?_,?_,trivial⟩
   ·apply ya O O;exact yq (ah O)
   ·apply ya O O;exact yq (aI O ij)
   ·apply ya O O;exact yq (aE 1 O bY O O jE)
   ·apply ya O O;exact yq (ae O)
   ·apply ya O O;exact yq (ah O)
   ·apply ya O O
    apply yq
    apply cg (A:=aF 39 11 (.slice (some ⟨g0,0,none⟩) ps.length cap) ps.length (rowOf (bX pa l) ps)) (us:=[.pointer (some ⟨pa,0,none⟩),.int .i64 l.key,.int .i64 l.elem,.int .i64 l.ka,.int .i64 l.ea,.int .i64 l.cap,.int .i64 l.eo,.int .i64 l.bo,.int .i64 l.slot,.int .i64 l.group,.int .i64 (x.off:Nat)]) rfl bA aM rfl
    ·exact tk
    exact cK hx _ _ _
   ·apply ya O O;exact yq (aL O O gW aM (by omega))
   ·apply ya O O;exact yq (ah O)
   ·apply ya O O;exact yq (aI O gX)
   ·apply ya O O;exact yq (aE 14 O bY O O gC)
   ·apply ya O O;exact yq (ae O)
   apply ya O O;exact yq (ah O)
  refine ak [6,10,11,5,9,3,4,8,2,7,1,0] [] 12 [(41,_),(45,_),(46,_)] gO ⟨rfl,rfl,rfl,trivial⟩ (by kernel_rfl) (by kernel_rfl) fun Ex=>?_
  refine cT O O O (h1 q) ?_
  rintro v L' ⟨s',rfl,rfl,hQ⟩
  refine bx ?_
  refine ai ?_
  refine aQ trivial ?_
  apply dq 13 O (yq (ah O))
  apply dq 14 O (yq (aa O ga))
  apply dq 15 O (yq (aa O ga))
  refine ak [14,13] [15] 17 [(11,_),(48,_)] gO ⟨rfl,rfl,trivial⟩ (by kernel_rfl) (by kernel_rfl) fun Ex=>?_
  refine bZ O O O aM O O ?_
  refine ai ?_
  refine aQ ⟨ya O O (yq (aa O ga)),trivial⟩ ?_
  refine ak [15] [] 18 [(49,_)] gO ⟨rfl,trivial⟩ (by kernel_rfl) (by kernel_rfl) fun Ex=>?_
  refine ar O O<|ai ?_
  refine aQ trivial ?_
  refine aV (by kernel_rfl) ?_
  refine nz<|mv O O<|ad O (aO O bA aM) ?_
  refine mv O O<|mv O O<|mv O O<|cT O O O (iA pb pa po pr bq l sdP ps (.slice (some ⟨g0,0,none⟩) ps.length cap) (.slice (some ⟨go,0,none⟩) ps.length cap1) (⟨p,o1,g1,N,E,F,false,false⟩:PR) hlen) ?_
  rintro v L' ⟨vM',vO',rfl,rfl⟩
  refine bx ?_
  refine ar O O<|lc<|rt ?_
  apply aR (.inl rfl) ([ca pr l (ps ++ [(⟨p,o1,g1,N,E,F,false,false⟩:PR)]),pt pb (.cells #[.pointer (some ⟨pa,0,none⟩),.pointer (some ⟨po,0,none⟩),.pointer (some ⟨pr,0,none⟩),.pointer (some ⟨bq,0,none⟩),.int .i64 l.key,.int .i64 l.elem,.int .i64 l.ka,.int .i64 l.ea,.int .i64 l.cap,.int .i64 l.eo,.int .i64 l.bo,.int .i64 l.slot,.int .i64 l.group,.int .u64 sdP,vM',vO'] 93 (0,0)),aF 39 11 vM' (ps ++ [(⟨p,o1,g1,N,E,F,false,false⟩:PR)]).length (rowOf (bX pa l) (ps ++ [(⟨p,o1,g1,N,E,F,false,false⟩:PR)])),aF 40 1 vO' (ps ++ [(⟨p,o1,g1,N,E,F,false,false⟩:PR)]).length (bL (ps ++ [(⟨p,o1,g1,N,E,F,false,false⟩:PR)])),bd pr s2,aj pa s',pt po (.cells #[.map (some bm)] 192 (0,0)),bG (fun k:ByteArray=>Value.string k) bm (bu os),dv bq os,G])
  ·apply cP O
   exact .tmp rfl
  ·exact⟨p,s',vM',vO',rfl,rfl,hQ⟩
  refine kj hx ?_;(exact en)
 refine aq<|an<|al<|aY mixed ?_
 apply dq 0 O (yq (ah O))
 apply dq 1 O (yq (ae O))
 apply dq 2 O (yq (aE 14 O bY O O gC))
 apply dq 3 O (yq (aI O gX))
 apply dq 4 O (yq (ah O))
 apply dq 5 O (yq (aL O O gW aM (by omega)))
 apply dq 6 O
 ·apply yq
  apply cg (A:=aF 39 11 (.slice (some ⟨g0,0,none⟩) ps.length cap) ps.length (rowOf (bX pa l) ps)) (us:=[.pointer (some ⟨pa,0,none⟩),.int .i64 l.key,.int .i64 l.elem,.int .i64 l.ka,.int .i64 l.ea,.int .i64 l.cap,.int .i64 l.eo,.int .i64 l.bo,.int .i64 l.slot,.int .i64 l.group,.int .i64 (x.off:Nat)]) rfl bA aM rfl
  ·exact tk
  exact cK hx _ _ _
 apply dq 7 O (yq (ah O))
 apply dq 8 O (yq (ae O))
 apply dq 9 O (yq (aE 1 O bY O O jE))
 apply dq 10 O (yq (aI O ij))
 apply dq 11 O (yq (ah O))
 apply dI 12 16
 ·kernel_rfl
 ·refine cA (q1:=[6,10,11,5,9,3,4,8,2,7,1,0]) (q2:=[]) [(63,_),(67,_),(68,_)] gO ⟨O,O,O,trivial⟩ (by kernel_rfl) fun Ex=>?_
  refine cT O O O (h2 q) ?_
  rintro v L' ⟨s',rfl,rfl,hQ⟩
  refine bx ?_
  refine ai ?_
  refine aQ trivial ?_
  apply dq 13 O (yq (ah O))
  apply dq 14 O (yq (aa O ga))
  apply dq 15 O (yq (aa O ga))
  refine ak [] [15,14,13] 16 [] gO trivial (by kernel_rfl) (by kernel_rfl) fun Ex=>?_
  refine ay O cM fun b13=>ai ?_
  refine aQ ⟨ya O O (yq (aa O ga)),ya O O (yq (aa O ga)),ya O O (yq (ah O)),trivial⟩ ?_
  refine ak [14,13] [15] 17 [(13,_),(70,_)] gO ⟨rfl,rfl,trivial⟩ (by kernel_rfl) (by kernel_rfl) fun Ex=>?_
  refine bZ O O O aM O O ?_
  refine ai ?_
  refine aQ ⟨ya O O (yq (aa O ga)),trivial⟩ ?_
  refine ak [15] [] 18 [(71,_)] gO ⟨rfl,trivial⟩ (by kernel_rfl) (by kernel_rfl) fun Ex=>?_
  refine ar O O<|ai ?_
  refine aQ trivial ?_
  refine aV (by kernel_rfl) ?_
  refine nz<|mv O O<|ad O (aO O bA aM) ?_
  refine mv O O<|mv O O<|mv O O<|cT O O O (iA pb pa po pr bq l sdP ps (.slice (some ⟨g0,0,none⟩) ps.length cap) (.slice (some ⟨go,0,none⟩) ps.length cap1) (⟨p,o1,g1,N,E,F,false,false⟩:PR) hlen) ?_
  rintro v L' ⟨vM',vO',rfl,rfl⟩
  refine bx ?_
  refine ar O O<|lc<|rt ?_
  apply aR (.inl rfl) ([ca pr l (ps ++ [(⟨p,o1,g1,N,E,F,false,false⟩:PR)]),pt pb (.cells #[.pointer (some ⟨pa,0,none⟩),.pointer (some ⟨po,0,none⟩),.pointer (some ⟨pr,0,none⟩),.pointer (some ⟨bq,0,none⟩),.int .i64 l.key,.int .i64 l.elem,.int .i64 l.ka,.int .i64 l.ea,.int .i64 l.cap,.int .i64 l.eo,.int .i64 l.bo,.int .i64 l.slot,.int .i64 l.group,.int .u64 sdP,vM',vO'] 93 (0,0)),aF 39 11 vM' (ps ++ [(⟨p,o1,g1,N,E,F,false,false⟩:PR)]).length (rowOf (bX pa l) (ps ++ [(⟨p,o1,g1,N,E,F,false,false⟩:PR)])),aF 40 1 vO' (ps ++ [(⟨p,o1,g1,N,E,F,false,false⟩:PR)]).length (bL (ps ++ [(⟨p,o1,g1,N,E,F,false,false⟩:PR)])),bd pr s2,aj pa s',pt po (.cells #[.map (some bm)] 192 (0,0)),bG (fun k:ByteArray=>Value.string k) bm (bu os),dv bq os,G])
  ·apply cP O
   exact .tmp rfl
  ·exact⟨p,s',vM',vO',rfl,rfl,hQ⟩
  refine kj hx ?_;(exact en)
 refine cA (q1:=[]) (q2:=[11,10,9,8,7,6,5,4,3,2,1,0]) [] gO trivial (by kernel_rfl) fun Ex=>?_
 refine ay O cM fun b13=>ai ?_
 apply aQ
 ·refine⟨?_,?_,?_,?_,?_,?_,?_,?_,?_,?_,?_,?_,trivial⟩
  ·apply ya O O;exact yq (ah O)
  ·apply ya O O;exact yq (aI O ij)
  ·apply ya O O;exact yq (aE 1 O bY O O jE)
  ·apply ya O O;exact yq (ae O)
  ·apply ya O O;exact yq (ah O)
  ·apply ya O O
   apply yq
   apply cg (A:=aF 39 11 (.slice (some ⟨g0,0,none⟩) ps.length cap) ps.length (rowOf (bX pa l) ps)) (us:=[.pointer (some ⟨pa,0,none⟩),.int .i64 l.key,.int .i64 l.elem,.int .i64 l.ka,.int .i64 l.ea,.int .i64 l.cap,.int .i64 l.eo,.int .i64 l.bo,.int .i64 l.slot,.int .i64 l.group,.int .i64 (x.off:Nat)]) rfl bA aM rfl
   ·exact tk
   exact cK hx _ _ _
  ·apply ya O O;exact yq (aL O O gW aM (by omega))
  ·apply ya O O;exact yq (ah O)
  ·apply ya O O;exact yq (aI O gX)
  ·apply ya O O;exact yq (aE 14 O bY O O gC)
  ·apply ya O O;exact yq (ae O)
  apply ya O O;exact yq (ah O)
 refine ak [6,10,11,5,9,3,4,8,2,7,1,0] [] 12 [(63,_),(67,_),(68,_)] gO ⟨rfl,rfl,rfl,trivial⟩ (by kernel_rfl) (by kernel_rfl) fun Ex=>?_
 refine cT O O O (h2 q) ?_
 rintro v L' ⟨s',rfl,rfl,hQ⟩
 refine bx ?_
 refine ai ?_
 refine aQ trivial ?_
 apply dq 13 O (yq (ah O))
 apply dq 14 O (yq (aa O ga))
 apply dq 15 O (yq (aa O ga))
 refine ak [14,13] [15] 17 [(13,_),(70,_)] gO ⟨rfl,rfl,trivial⟩ (by kernel_rfl) (by kernel_rfl) fun Ex=>?_
 refine bZ O O O aM O O ?_
 refine ai ?_
 refine aQ ⟨ya O O (yq (aa O ga)),trivial⟩ ?_
 refine ak [15] [] 18 [(71,_)] gO ⟨rfl,trivial⟩ (by kernel_rfl) (by kernel_rfl) fun Ex=>?_
 refine ar O O<|ai ?_
 refine aQ trivial ?_
 refine aV (by kernel_rfl) ?_
 refine nz<|mv O O<|ad O (aO O bA aM) ?_
 refine mv O O<|mv O O<|mv O O<|cT O O O (iA pb pa po pr bq l sdP ps (.slice (some ⟨g0,0,none⟩) ps.length cap) (.slice (some ⟨go,0,none⟩) ps.length cap1) (⟨p,o1,g1,N,E,F,false,false⟩:PR) hlen) ?_
 rintro v L' ⟨vM',vO',rfl,rfl⟩
 refine bx ?_
 refine ar O O<|lc<|rt ?_
 apply aR (.inl rfl) ([ca pr l (ps ++ [(⟨p,o1,g1,N,E,F,false,false⟩:PR)]),pt pb (.cells #[.pointer (some ⟨pa,0,none⟩),.pointer (some ⟨po,0,none⟩),.pointer (some ⟨pr,0,none⟩),.pointer (some ⟨bq,0,none⟩),.int .i64 l.key,.int .i64 l.elem,.int .i64 l.ka,.int .i64 l.ea,.int .i64 l.cap,.int .i64 l.eo,.int .i64 l.bo,.int .i64 l.slot,.int .i64 l.group,.int .u64 sdP,vM',vO'] 93 (0,0)),aF 39 11 vM' (ps ++ [(⟨p,o1,g1,N,E,F,false,false⟩:PR)]).length (rowOf (bX pa l) (ps ++ [(⟨p,o1,g1,N,E,F,false,false⟩:PR)])),aF 40 1 vO' (ps ++ [(⟨p,o1,g1,N,E,F,false,false⟩:PR)]).length (bL (ps ++ [(⟨p,o1,g1,N,E,F,false,false⟩:PR)])),bd pr s2,aj pa s',pt po (.cells #[.map (some bm)] 192 (0,0)),bG (fun k:ByteArray=>Value.string k) bm (bu os),dv bq os,G])
 ·apply cP O
  exact .tmp rfl
 ·exact⟨p,s',vM',vO',rfl,rfl,hQ⟩
 refine kj hx ?_;(exact en)
include hG hGO hgo hos hl hsd
theorem DZ (hs:s.ok) (hlen:ps.length<=1500000000000) (hF:Full s l ps) (hO:One s l x) (hov:x.over=false) (t:Int) (ht:t=1\/t=2):
  aK Tryz.prog 62 #[.pointer (some ⟨pb,0,none⟩),.int .i64 (k:Nat),.int .i64 t,.int .u64 sd] [ca pr l ps,pt pb (.cells #[.pointer (some ⟨pa,0,none⟩),.pointer (some ⟨po,0,none⟩),.pointer (some ⟨pr,0,none⟩),.pointer (some ⟨bq,0,none⟩),.int .i64 l.key,.int .i64 l.elem,.int .i64 l.ka,.int .i64 l.ea,.int .i64 l.cap,.int .i64 l.eo,.int .i64 l.bo,.int .i64 l.slot,.int .i64 l.group,.int .u64 sdP,vM,vO] 93 (0,0)),aF 39 11 vM ps.length (rowOf (bX pa l) ps),aF 40 1 vO ps.length (bL ps),bd pr s,aj pa s,pt po (.cells #[.map (some bm)] 192 (0,0)),bG (fun k:ByteArray=>Value.string k) bm (bu os),dv bq os,G] (fun v L=>∃ s' ps' vM' vO',v=.bool true/\L= [ca pr l ps',pt pb (.cells #[.pointer (some ⟨pa,0,none⟩),.pointer (some ⟨po,0,none⟩),.pointer (some ⟨pr,0,none⟩),.pointer (some ⟨bq,0,none⟩),.int .i64 l.key,.int .i64 l.elem,.int .i64 l.ka,.int .i64 l.ea,.int .i64 l.cap,.int .i64 l.eo,.int .i64 l.bo,.int .i64 l.slot,.int .i64 l.group,.int .u64 sdP,vM',vO'] 93 (0,0)),aF 39 11 vM' ps'.length (rowOf (bX pa l) ps'),aF 40 1 vO' ps'.length (bL ps'),bd pr s',aj pa s',pt po (.cells #[.map (some bm)] 192 (0,0)),bG (fun k:ByteArray=>Value.string k) bm (bu os),dv bq os,G]/\Full s' l ps'/\cY ps'<=cY ps+2):=by
 have hdep:=hF.depth x (List.mem_of_getElem? hx)
 have hno:∀ {v:Value} {L:List HP},(v=.bool true/\L= [ca pr l ps,pt pb (.cells #[.pointer (some ⟨pa,0,none⟩),.pointer (some ⟨po,0,none⟩),.pointer (some ⟨pr,0,none⟩),.pointer (some ⟨bq,0,none⟩),.int .i64 l.key,.int .i64 l.elem,.int .i64 l.ka,.int .i64 l.ea,.int .i64 l.cap,.int .i64 l.eo,.int .i64 l.bo,.int .i64 l.slot,.int .i64 l.group,.int .u64 sdP,vM,vO] 93 (0,0)),aF 39 11 vM ps.length (rowOf (bX pa l) ps),aF 40 1 vO ps.length (bL ps),bd pr s,aj pa s,pt po (.cells #[.map (some bm)] 192 (0,0)),bG (fun k:ByteArray=>Value.string k) bm (bu os),dv bq os,G])->∃ s' ps' vM' vO',v=.bool true/\L= [ca pr l ps',pt pb (.cells #[.pointer (some ⟨pa,0,none⟩),.pointer (some ⟨po,0,none⟩),.pointer (some ⟨pr,0,none⟩),.pointer (some ⟨bq,0,none⟩),.int .i64 l.key,.int .i64 l.elem,.int .i64 l.ka,.int .i64 l.ea,.int .i64 l.cap,.int .i64 l.eo,.int .i64 l.bo,.int .i64 l.slot,.int .i64 l.group,.int .u64 sdP,vM',vO'] 93 (0,0)),aF 39 11 vM' ps'.length (rowOf (bX pa l) ps'),aF 40 1 vO' ps'.length (bL ps'),bd pr s',aj pa s',pt po (.cells #[.map (some bm)] 192 (0,0)),bG (fun k:ByteArray=>Value.string k) bm (bu os),dv bq os,G]/\Full s' l ps'/\cY ps'<=cY ps+2:=fun h=>⟨s,ps,vM,vO,h.1,h.2,hF,by omega⟩
 cases hd:x.dead with
 | true=>
  obtain⟨hng,hne⟩:=hO.not hs hd hov
  have hA:∀ t:Int,aK Tryz.prog 209 #[.agg #[.pointer (some ⟨pa,0,none⟩),.int .i64 l.key,.int .i64 l.elem,.int .i64 l.ka,.int .i64 l.ea,.int .i64 l.cap,.int .i64 l.eo,.int .i64 l.bo,.int .i64 l.slot,.int .i64 l.group,.int .i64 (x.off:Nat)],.pointer (some ⟨po,0,none⟩),.int .u64 sd,.int .i64 t] [pt po (.cells #[.map (some bm)] 192 (0,0)),bG (fun k:ByteArray=>Value.string k) bm (bu os),G,aj pa s] (fun v L=>v=.tuple #[.agg #[.pointer none,.int .i64 0,.int .i64 0,.int .i64 0,.int .i64 0,.int .i64 0,.int .i64 0,.int .i64 0,.int .i64 0,.int .i64 0,.int .i64 0],.int .i64 24]/\L= [pt po (.cells #[.map (some bm)] 192 (0,0)),bG (fun k:ByteArray=>Value.string k) bm (bu os),G,aj pa s]):=fun t=>(aK.beside (aK.beside (aK.beside (zE pa x.off s l hng hne hO.place po sd t) G) (bG (fun k:ByteArray=>Value.string k) bm (bu os))) (pt po (.cells #[.map (some bm)] 192 (0,0)))).mono fun v L ⟨L0,e,L1,e1,L2,e2,h1,h2⟩=>⟨h1,by rw[e,e1,e2,h2]⟩
  refine(uS G pb pa po pr bq bm os l sdP s ps vM vO k x hx sd t 24 (by decide) (xr pr bq os l x sd hd s t) (fun _=>ui G pa x.off po bm s l (bu os) sd 24 (hA 1)) (fun _=>rW G pa x.off po bm s l (bu os) sd 24 (hA 2))).mono fun v L h=>hno h
 | false=>
  have hP:=(hO.live hd).1
  have hn8:=hP.n0
  obtain⟨tn,rfl,htn⟩:∃ tn:Nat,t=(tn:Int)/\(tn=1\/tn=2):=by
   rcases ht with rfl | rfl
   ·exact⟨1,rfl,.inl rfl⟩
   exact⟨2,rfl,.inr rfl⟩
  have hw1:IntKind.i64.wrap (((tn:Nat):Int)*(8*(x.n:Int)))=8*((tn*x.n:Nat):Int):=by rw[wrap_i64 (by rcases htn with rfl | rfl <;> omega)];rcases htn with rfl | rfl <;> omega
  have hw2:IntKind.i64.wrap (((tn:Nat):Int)*((8*x.n:Nat):Int))=8*((tn*x.n:Nat):Int):=by rw[wrap_i64 (by rcases htn with rfl | rfl <;> omega)];rcases htn with rfl | rfl <;> omega
  have hone:((tn:Nat):Int)=1->tn=1:=fun h=>by omega
  have htwo:((tn:Nat):Int)≠1->tn=2:=fun h=>by omega
  rcases nU pa pr s hs l hl (8*((tn*x.n:Nat):Int)) x.T.depth (by rcases htn with rfl | rfl <;> omega) with⟨c,hc,hp,hr⟩ | ⟨N,E,hN,hE,hsl,hdp,hsm,hfit,hr⟩
  ·have hA:=D0 G hG hGO pa x.off x.go po bm x.n x.e (tn*x.n) s l x.T (bu os) (fE hos) sd hsd hP tn htn c hc (by rw[hw1];exact hp)
   refine(uS G pb pa po pr bq bm os l sdP s ps vM vO k x hx sd _ c hc (CB pr bq os hgo hos l hl x hO.he hO.hn hP.hT.okc hdep sd hsd hd s _ c hc (by rw[hw2];exact hr)) (fun h=>?_) (fun h=>?_)).mono fun v L h=>hno h
   ·obtain rfl:=hone h
    exact ui G pa x.off po bm s l (bu os) sd c hA
   obtain rfl:=htwo h
   exact rW G pa x.off po bm s l (bu os) sd c hA
  obtain rfl:tn*x.n=N:=by omega
  obtain⟨o1,ho1⟩:∃ o1,s.at 64=o1:=⟨_,rfl⟩
  obtain⟨g1,hg1⟩:∃ g1,(s.take 64).at (aH ((tn*x.n*gN l:Nat):Int))=g1:=⟨_,rfl⟩
  have hN0:0 < tn*x.n:=by rw[hN];exact Nat.two_pow_pos _
  have hCb:=(dE (n:=((tn*x.n*gN l:Nat):Int)) (by have:=(eK hl).g_eq;have:=Nat.mul_le_mul_right (gN l) hN0;omega)).2.2 hsm
  have hA:=Cg G hG hGO pa x.off x.go po bm x.n x.e (tn*x.n) s l x.T (bu os) (fE hos) sd hsd hP tn E htn rfl hN hE hdep hsm hfit o1 g1 ho1 hg1
  rw[ho1,hg1] at hr
  have hRA:=zR pr bq os hgo hos l hl x hO.he hO.hn hP.hT.okc hdep sd hsd hd s ((tn:Nat):Int) (tn*x.n) E o1 g1 hN hE ((s.take 64).take (aH ((tn*x.n*gN l:Nat):Int))) (by rw[hw2];exact hr)
  refine(zg G pb pa po pr bq bm os l sdP s ps vM vO k x hx sd _ hlen (tn*x.n) E o1 g1 (cw (tn*x.n) (br (bu os) sd) x.T.cells x.T.depth (8*x.n)) _ (fun s'=>cd s' o1 g1 l (tn*x.n) E (cw (tn*x.n) (br (bu os) sd) x.T.cells x.T.depth (8*x.n))/\ej s s' (aH ((tn*x.n*gN l:Nat):Int))/\fK s' g1 (tn*x.n*gN l) (aH ((tn*x.n*gN l:Nat):Int))) hRA (fun h=>?_) (fun h=>?_)).mono fun v L ⟨p,s',vM',vO',h1,h2,hT,hNs,hZ⟩=>?_
  ·obtain rfl:=hone h
   exact yK G pa x.off po bm s l (bu os) sd o1 _ hA
  ·obtain rfl:=htwo h
   exact wV G pa x.off po bm s l (bu os) sd o1 _ hA
  have ok64:=ArS.take_ok hs ye (by omega)
  have hcc:aH ((tn*x.n*gN l:Nat):Int)∈dM:=gq (by have:=(eK hl).g_eq;have:=Nat.mul_le_mul_right (gN l) hN0;omega) hsm
  have hra:bd pr s'=bd pr ((s.take 64).take (aH ((tn*x.n*gN l:Nat):Int))):=ff (hNs.limit.trans ((cX ok64).trans (cX hs)).symm) hNs.all hNs.dead
  have hO1:=nc hs rfl hE hN (iz hN (8*x.n)) hT hNs hZ hsm hfit hCb.2 ho1 hg1 p
  have hF1:=hF.push hs hCb.2 hcc hfit hNs hO1 rfl ho1.symm hg1.symm (by have:=(jt (H:=br (bu os) sd) (cs:=x.T.cells) (d0:=x.T.depth) hN (8*x.n)).depth;dsimp only;rw[this];exact hdep)
  refine⟨s',_,vM',vO',h1,?_,hF1,by rw[sV _ _ rfl];omega⟩
  rw[h2,wL,wi,vW,wx,hra]
end
end Plays
end Go.Proofs.YthkajgkagnenbaaGreatDoor
