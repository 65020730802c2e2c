import Derived.Test.YthkajgkagnenbaaGreatDoorGpI
set_option linter.unusedVariables false
set_option linter.unusedSimpArgs false
set_option linter.unusedSectionVars false
set_option maxRecDepth 100000
namespace Go.Proofs.YthkajgkagnenbaaGreatDoor
namespace Plays
open Go.RowKit Go.Proofs Eng Ty Arena Ctrl Layout Group Oracle Grow Exact RefA RefT Ref04
section
variable (pb pa po pr bq:Nat) (l:Lay) (sdP:Int) (ps:List PR) (vM vO:Value)
theorem jQ (c:Int) (hc:c≠0):aK Tryz.prog 59 #[.pointer (some ⟨pb,0,none⟩),.agg #[.pointer none,.int .i64 0,.int .i64 0,.int .i64 0,.int .i64 0,.int .i64 0,.int .i64 0,.int .i64 0,.int .i64 0,.int .i64 0,.int .i64 0],.int .i64 c,.pointer none,.int .i64 c] [] (fun v L=>v=.bool true/\L= []):=by
 refine au Hj Tryz.func59 rfl rfl rfl fun Fr w0=>aZ ?_
 refine sr<|bw O O fun b6=>ar O O<|lc<|al<|sr<|mv O O<|mv O O<|ad O (qi O O (bf ·))<|lc<|aG O (fun z1=>?_) fun z1=>?_
 ·exact absurd rfl z1
 refine aq<|an<|al<|sr<|mv O O<|ad O (qi O O (bf ·))<|lc<|aG O (fun z2=>?_) fun z2=>?_
 ·exact sr<|ar O O<|lc<|rt<|cN O ([]) (.tmp rfl) ⟨rfl,rfl⟩
 exact absurd hc z2
theorem iA (x:PR) (hlen:ps.length<=1500000000000):aK Tryz.prog 59 #[.pointer (some ⟨pb,0,none⟩),.agg #[.pointer (some ⟨pa,0,none⟩),.int .i64 l.key,.int .i64 l.elem,.int .i64 l.ka,.int .i64 l.ea,.int .i64 l.cap,.int .i64 l.eo,.int .i64 l.bo,.int .i64 l.slot,.int .i64 l.group,.int .i64 (x.off:Nat)],.int .i64 0,.pointer (some ⟨x.p,0,none⟩),.int .i64 0] [cz pr l x,pt pb (.cells #[.pointer (some ⟨pa,0,none⟩),.pointer (some ⟨po,0,none⟩),.pointer (some ⟨pr,0,none⟩),.pointer (some ⟨bq,0,none⟩),.int .i64 l.key,.int .i64 l.elem,.int .i64 l.ka,.int .i64 l.ea,.int .i64 l.cap,.int .i64 l.eo,.int .i64 l.bo,.int .i64 l.slot,.int .i64 l.group,.int .u64 sdP,vM,vO] 93 (0,0)),aF 39 11 vM ps.length (rowOf (bX pa l) ps),aF 40 1 vO ps.length (bL ps)] (fun v L=>∃ vM' vO',v=.bool true/\L= [cz pr l x,pt pb (.cells #[.pointer (some ⟨pa,0,none⟩),.pointer (some ⟨po,0,none⟩),.pointer (some ⟨pr,0,none⟩),.pointer (some ⟨bq,0,none⟩),.int .i64 l.key,.int .i64 l.elem,.int .i64 l.ka,.int .i64 l.ea,.int .i64 l.cap,.int .i64 l.eo,.int .i64 l.bo,.int .i64 l.slot,.int .i64 l.group,.int .u64 sdP,vM',vO'] 93 (0,0)),aF 39 11 vM' (ps ++ [x]).length (rowOf (bX pa l) (ps ++ [x])),aF 40 1 vO' (ps ++ [x]).length (bL (ps ++ [x]))]):=by
 have hlp:(ps ++ [x]).length=ps.length+1:=by simp
 rw[hlp]
 refine au Hj Tryz.func59 rfl rfl rfl fun Fr w0=>aZ ?_
 refine cL .here fun vc=>?_
 refine sr<|bw O O fun b6=>ar O O<|lc<|al<|sr<|mv O O<|mv O O<|ad O (qi O O (bf ·))<|lc<|aG O (fun z1=>?_) fun z1=>?_
 ·exact absurd rfl z1
 refine aq<|an<|al<|sr<|mv O O<|ad O (qi O O (bf ·))<|lc<|aG O (fun z2=>?_) fun z2=>?_
 ·exact absurd rfl z2
 refine aq<|an<|al<|al<|aY mixed ?_
 apply dq 0 O (yq (aO O bA aM))
 apply dq 2 O (yq (ah O))
 apply dq 3 O (yq (ae O))
 apply dq 4 O (yq (aE 10 O bT O O aN))
 apply dq 5 O (yq (aI O aX))
 refine ak [0] [5,4,3,2] 1 [(16,_)] gO ⟨rfl,trivial⟩ (by kernel_rfl) (by kernel_rfl) fun Ex=>?_
 refine bF O O O (D3 pa l (x.off:Nat)) ?_
 refine ai ?_
 refine aQ ⟨ya O O (yq (aI O aX)),ya O O (yq (aE 10 O bT O O aN)),ya O O (yq (ae O)),ya O O (yq (ah O)),trivial⟩ ?_
 apply dq 6 O (yq (qi O O (bf ·)))
 apply dq 7 O (yq (ah O))
 refine n6 (t:=23) rfl (fun q1=>?_) fun q1=>?_
 ·exact absurd rfl q1
 apply dq 8 O (bD O O (aO O bA aM))
 apply dq 10 O (bD O O (ah O))
 apply dq 11 O (bD O O (ae O))
 apply dq 12 O (bD O O (aE 0 O bY O O eu))
 apply dq 13 O (bD O O (aI O ew))
 refine ak [8,7,6,5,4,3,2] [13,12,11,10] 9 [(24,_),(23,_)] gO ⟨rfl,rfl,trivial⟩ (by kernel_rfl) (by kernel_rfl) fun Ex=>?_
 refine aA O O<|bF O O O (fJ pa l (x.off:Nat)) ?_
 refine ai ?_
 refine aQ ⟨ya O O (bD O O (aI O ew)),ya O O (bD O O (aE 0 O bY O O eu)),ya O O (bD O O (ae O)),ya O O (bD O O (ah O)),trivial⟩ ?_
 apply dq 14 O (bD O O (gI O O (fH ·) (tp · Tryz.underlying31 Am)))
 apply dq 15 O (yq (aS O O))
 apply dq 16 O (yq (ah O))
 refine n6 (t:=32) rfl (fun q2=>?_) fun q2=>?_
 ·cases q2
 apply dq 17 O (bD O O (aO O bA aM))
 apply dq 19 O (bD O O (ah O))
 apply dq 20 O (bD O O (ae O))
 apply dq 21 O (bD O O (aE 4 O bY O O bH))
 apply dq 22 O (bD O O (aO O cZ bH))
 refine ak [17,16,15,14,13,12,11,10] [22,21,20,19] 18 [(33,_),(32,_)] gO ⟨rfl,rfl,trivial⟩ (by kernel_rfl) (by kernel_rfl) fun Ex=>?_
 refine aA O O<|bF O O O (eE pa l (x.off:Nat)) ?_
 refine ai ?_
 refine aQ ⟨ya O O (bD O O (aO O cZ bH)),ya O O (bD O O (aE 4 O bY O O bH)),ya O O (bD O O (ae O)),ya O O (bD O O (ah O)),trivial⟩ ?_
 apply dq 23 O (bD O O (gI O O (mJ · E9) fun w=>kB w cB E8 (by kernel_rfl) (by kernel_rfl)))
 apply dq 24 O (yq (aS O O))
 refine aV (by kernel_rfl) ?_
 refine an<|aG O (fun z3=>?_) fun z3=>?_
 ·exact absurd z3 (by simp)
 have hrow:rowOf (bX pa l) ps ++ ([Value.agg #[.pointer (some ⟨pa,0,none⟩),.int .i64 l.key,.int .i64 l.elem,.int .i64 l.ka,.int .i64 l.ea,.int .i64 l.cap,.int .i64 l.eo,.int .i64 l.bo,.int .i64 l.slot,.int .i64 l.group,.int .i64 (x.off:Nat)]].flatMap fun x=>x.cells.toList).toArray.toList=rowOf (bX pa l) (ps ++ [x]):=by rw[eO];rfl
 have hptr:bL ps ++ #[Value.pointer (some ⟨x.p,0,none⟩)].toList=bL (ps ++ [x]):=by rw[kf]
 refine aq<|an<|al<|aY mixed ?_
 apply dq 0 O (yq (ah O))
 apply dq 1 O (yq (ah O))
 apply dq 2 O (yq (ae O))
 apply dq 3 O (yq (aE 14 O bY O O gC))
 apply dq 4 O (yq (aI O gX))
 apply dq 5 O (yq (aO O bA aM))
 refine ak [5] [4,3,2,1,0] 6 [(46,_)] gO ⟨rfl,trivial⟩ (by kernel_rfl) (by kernel_rfl) fun Ex=>?_
 refine fD (us:=[_]) rfl rfl gW aM cM rfl rfl rfl rfl rfl (fun b47=>?_)
 refine ai ?_
 refine aQ ⟨ya O O (yq (aI O gX)),ya O O (yq (aE 14 O bY O O gC)),ya O O (yq (ae O)),ya O O (yq (ah O)),ya O O (yq (ah O)),trivial⟩ ?_
 refine ak [4,3,2,1] [0] 7 [(45,_),(47,_)] gO ⟨rfl,rfl,trivial⟩ (by kernel_rfl) (by kernel_rfl) fun Ex=>?_
 apply e9 (sz:=11) rfl rfl rfl gW Jt rfl rfl
 ·exact tk
 ·exact tk
 ·rfl
 ·rfl
 ·simp only[maxLen];omega
 ·omega
 intro v48
 refine gM (v:=v48) tk fun _ hs48=>?_
 obtain⟨a48,cap48,rfl,hs48,_,_⟩:=hs48
 refine ai ?_
 refine aQ ⟨ya O O (yq (ah O)),trivial⟩ ?_
 apply dq 8 O (yq (ae O))
 apply dq 9 O (yq (aE 14 O bY O O gC))
 refine ak [9,0,8] [] 10 [(50,_),(48,_)] gO ⟨rfl,rfl,trivial⟩ (by kernel_rfl) (by kernel_rfl) fun Ex=>?_
 refine st O O O gC O ?_
 refine ai ?_
 refine aQ trivial ?_
 refine aV (by kernel_rfl) ?_
 refine nz<|mv O O<|mv O O<|ad O (ae O)<|ad O (aE 15 O bY O O jD)<|ad O (aI O ke) ?_
 refine mv O O ?_
 refine bR [_] rfl rfl j7 lu Jo rfl rfl rfl rfl (fun b57=>?_)
 apply e9 (sz:=1) rfl rfl rfl Tryz.underlying66 Js O O
 ·exact tk
 ·exact tk
 ·rfl
 ·rfl
 ·simp only[maxLen];omega
 ·omega
 intro v58
 refine gM (v:=v58) tk fun _ hs58=>?_
 obtain⟨a58,cap58,rfl,_,_,_⟩:=hs58
 refine ad O (ae O)<|ad O (aE 15 O bY O O jD)<|st O O O jD O ?_
 refine lz<|ar O O<|lc<|rt ?_
 rw[hrow,hptr]
 apply aR (.inl rfl) ([cz pr l x,pt pb (.cells #[.pointer (some ⟨pa,0,none⟩),.pointer (some ⟨po,0,none⟩),.pointer (some ⟨pr,0,none⟩),.pointer (some ⟨bq,0,none⟩),.int .i64 l.key,.int .i64 l.elem,.int .i64 l.ka,.int .i64 l.ea,.int .i64 l.cap,.int .i64 l.eo,.int .i64 l.bo,.int .i64 l.slot,.int .i64 l.group,.int .u64 sdP,(.slice a48 (ps.length+1) cap48),(.slice a58 (ps.length+1) cap58)] 93 (0,0)),aF 39 11 (.slice a48 (ps.length+1) cap48) (ps.length+1) (rowOf (bX pa l) (ps ++ [x])),aF 40 1 (.slice a58 (ps.length+1) cap58) (ps.length+1) (bL (ps ++ [x]))])
 ·apply cP O
  exact .tmp rfl
 ·exact⟨_,_,rfl,rfl⟩
 refine bC vc ?_;(exact en)
end
section
variable (G:HP) (hG:dR G) (hGO:fR G) (pb pa po pr bq bm:Nat) (os:List (ByteArray×Int)) (hgo:ix os) (hos:∀ o∈os,0<=o.2/\o.2 < 18446744073709551616) (l:Lay) (hl:l.err=0) (sdP:Int) (s:ArS) (hs:s.ok) (ps:List PR) (vM vO:Value) (k:Nat) (x:PR) (hx:ps[k]?=some x) (hF:Full s l ps) (hO:One s l x) (hov:x.over=false) (sd:Int) (hsd:0<=sd/\sd < 18446744073709551616)
include hG hGO hgo hos hl hs hx hF hO hov hsd
theorem Bb:aK Tryz.prog 61 #[.pointer (some ⟨pb,0,none⟩),.int .i64 (k:Nat),.int .u64 sd] [ca pr l ps,pt pb (.cells #[.pointer (some ⟨pa,0,none⟩),.pointer (some ⟨po,0,none⟩),.pointer (some ⟨pr,0,none⟩),.pointer (some ⟨bq,0,none⟩),.int .i64 l.key,.int .i64 l.elem,.int .i64 l.ka,.int .i64 l.ea,.int .i64 l.cap,.int .i64 l.eo,.int .i64 l.bo,.int .i64 l.slot,.int .i64 l.group,.int .u64 sdP,vM,vO] 93 (0,0)),aF 39 11 vM ps.length (rowOf (bX pa l) ps),aF 40 1 vO ps.length (bL ps),bd pr s,aj pa s,pt po (.cells #[.map (some bm)] 192 (0,0)),bG (fun k:ByteArray=>Value.string k) bm (bu os),dv bq os,G] (fun v L=>∃ s' ps' vM' vO',v=.bool true/\L= [ca pr l ps',pt pb (.cells #[.pointer (some ⟨pa,0,none⟩),.pointer (some ⟨po,0,none⟩),.pointer (some ⟨pr,0,none⟩),.pointer (some ⟨bq,0,none⟩),.int .i64 l.key,.int .i64 l.elem,.int .i64 l.ka,.int .i64 l.ea,.int .i64 l.cap,.int .i64 l.eo,.int .i64 l.bo,.int .i64 l.slot,.int .i64 l.group,.int .u64 sdP,vM',vO'] 93 (0,0)),aF 39 11 vM' ps'.length (rowOf (bX pa l) ps'),aF 40 1 vO' ps'.length (bL ps'),bd pr s',aj pa s',pt po (.cells #[.map (some bm)] 192 (0,0)),bG (fun k:ByteArray=>Value.string k) bm (bu os),dv bq os,G]/\Full s' l ps'/\cY ps'<=cY ps+2):=by
 have hk:k < ps.length:=(List.getElem?_eq_some_iff.1 hx).1
 have hptr:=gb hx
 have hdep:=hF.depth x (List.mem_of_getElem? hx)
 refine au J8 Tryz.func61 rfl rfl rfl fun Fr w0=>aZ ?_
 refine gj hx .here ?_
 refine bU (.there (.there (.there .here))) fun _ hvm=>?_
 obtain⟨a0,cap,rfl,ha,_,_⟩:=hvm
 obtain⟨g0,rfl⟩:=ha (by omega)
 refine bU (.there (.there (.there (.there .here)))) fun _ hvo=>?_
 obtain⟨a1,cap1,rfl,ha1,_,_⟩:=hvo
 obtain⟨g1,rfl⟩:=ha1 (by omega)
 cases hd:x.dead with
 | true=>
  obtain⟨hng,hne⟩:=hO.not hs hd hov
  refine sr<|ar O O<|lc<|al<|aY mixed ?_
  apply dq 0 O (yq (ah O))
  apply dq 1 O (yq (ae O))
  apply dq 2 O (yq (aE 14 O bY O O gC))
  apply dq 3 O (yq (aI O gX))
  apply dq 4 O (yq (ah O))
  apply dq 5 O (yq (aL O O gW aM (by omega)))
  apply dq 6 O
  ·apply yq
   apply cg (A:=aF 39 11 (.slice (some ⟨g0,0,none⟩) ps.length cap) ps.length (rowOf (bX pa l) ps)) (us:=[.pointer (some ⟨pa,0,none⟩),.int .i64 l.key,.int .i64 l.elem,.int .i64 l.ka,.int .i64 l.ea,.int .i64 l.cap,.int .i64 l.eo,.int .i64 l.bo,.int .i64 l.slot,.int .i64 l.group,.int .i64 (x.off:Nat)]) rfl bA aM rfl
   ·exact tk
   exact cK hx _ _ _
  apply dq 7 O (yq (ah O))
  apply dq 8 O (yq (ae O))
  apply dq 9 O (yq (aE 1 O bY O O jE))
  apply dq 10 O (yq (aI O ij))
  apply dq 11 O (yq (ah O))
  refine ak [6,10,11,5,9,3,4,8,2,7,1,0] [] 12 [(18,_),(22,_),(23,_)] gO ⟨rfl,rfl,rfl,trivial⟩ (by kernel_rfl) (by kernel_rfl) fun Ex=>?_
  refine bF O O O (xw pa x.off s l hng hne hO.place po sd) ?_
  refine ai ?_
  refine aQ trivial ?_
  apply dq 13 O (yq (ah O))
  apply dq 14 O (yq (aa O ga))
  apply dq 15 O (yq (aa O ga))
  refine ak [14,13] [15] 16 [(25,_)] gO ⟨rfl,trivial⟩ (by kernel_rfl) (by kernel_rfl) fun Ex=>?_
  refine ar O O<|ai ?_
  refine aQ ⟨ya O O (yq (aa O ga)),trivial⟩ ?_
  refine ak [15] [] 17 [(26,_)] gO ⟨rfl,trivial⟩ (by kernel_rfl) (by kernel_rfl) fun Ex=>?_
  refine ar O O<|ai ?_
  refine aQ trivial ?_
  refine aV (by kernel_rfl) ?_
  refine an<|al<|aY mixed ?_
  apply dq 0 O (yq (ah O))
  apply dq 1 O (yq (ae O))
  apply dq 2 O (yq (aE 15 O bY O O jD))
  apply dq 3 O (yq (aI O ke))
  apply dq 4 O (yq (ah O))
  apply dq 5 O (yq (az O O j7 lu (by omega)))
  apply dq 6 O
  ·apply yq
   apply aT O mn
   ·exact tk
   exact hptr
  apply dq 7 O (yq (ah O))
  apply dq 8 O (yq (ae O))
  apply dq 9 O (yq (aE 3 O bY O O tG))
  apply dq 10 O (yq (aI O tJ))
  apply dq 11 O (yq (ah O))
  refine ak [6,10,11,5,9,3,4,8,2,7,1,0] [] 12 [(34,_),(38,_),(39,_)] gO ⟨rfl,rfl,rfl,trivial⟩ (by kernel_rfl) (by kernel_rfl) fun Ex=>?_
  refine bF O O O (vz pr bq os l x sd hd) ?_
  refine ai ?_
  refine aQ trivial ?_
  apply dq 13 O (yq (ah O))
  apply dq 14 O (yq (aa O ga))
  apply dq 15 O (yq (aa O ga))
  refine ak [14,13] [15] 16 [(41,_)] gO ⟨rfl,trivial⟩ (by kernel_rfl) (by kernel_rfl) fun Ex=>?_
  refine ar O O<|ai ?_
  refine aQ ⟨ya O O (yq (aa O ga)),trivial⟩ ?_
  refine ak [15] [] 17 [(42,_)] gO ⟨rfl,trivial⟩ (by kernel_rfl) (by kernel_rfl) fun Ex=>?_
  refine ar O O<|ai ?_
  refine aQ trivial ?_
  refine aV (by kernel_rfl) ?_
  refine nz<|mv O O<|mv O O<|ad O (qi O O (bN ·))<|mv O O<|bQ (t:=46) rfl (fun z1=>?_) fun z1=>?_
  ·refine aA O O<|mv O O<|aA O O<|mv O O<|aA O O<|ad O (qi O O (bN ·))<|ad O (aS O O)<|ar O O<|lc<|rt ?_
   apply aR (.inl rfl) ([ca pr l ps,pt pb (.cells #[.pointer (some ⟨pa,0,none⟩),.pointer (some ⟨po,0,none⟩),.pointer (some ⟨pr,0,none⟩),.pointer (some ⟨bq,0,none⟩),.int .i64 l.key,.int .i64 l.elem,.int .i64 l.ka,.int .i64 l.ea,.int .i64 l.cap,.int .i64 l.eo,.int .i64 l.bo,.int .i64 l.slot,.int .i64 l.group,.int .u64 sdP,(.slice (some ⟨g0,0,none⟩) ps.length cap),(.slice (some ⟨g1,0,none⟩) ps.length cap1)] 93 (0,0)),aF 39 11 (.slice (some ⟨g0,0,none⟩) ps.length cap) ps.length (rowOf (bX pa l) ps),aF 40 1 (.slice (some ⟨g1,0,none⟩) ps.length cap1) ps.length (bL ps),bd pr s,aj pa s,pt po (.cells #[.map (some bm)] 192 (0,0)),bG (fun k:ByteArray=>Value.string k) bm (bu os),dv bq os,G])
   ·apply cP O
    exact .tmp rfl
   ·exact⟨s,ps,_,_,by rw[qY rfl],rfl,hF,by omega⟩
   refine eM hx ?_;(exact en)
  exact absurd rfl z1
 | false=>
  have hP:=(hO.live hd).1
  refine sr<|ar O O<|lc<|al<|aY mixed ?_
  apply dq 0 O (yq (ah O))
  apply dq 1 O (yq (ae O))
  apply dq 2 O (yq (aE 14 O bY O O gC))
  apply dq 3 O (yq (aI O gX))
  apply dq 4 O (yq (ah O))
  apply dq 5 O (yq (aL O O gW aM (by omega)))
  apply dq 6 O
  ·apply yq
   apply cg (A:=aF 39 11 (.slice (some ⟨g0,0,none⟩) ps.length cap) ps.length (rowOf (bX pa l) ps)) (us:=[.pointer (some ⟨pa,0,none⟩),.int .i64 l.key,.int .i64 l.elem,.int .i64 l.ka,.int .i64 l.ea,.int .i64 l.cap,.int .i64 l.eo,.int .i64 l.bo,.int .i64 l.slot,.int .i64 l.group,.int .i64 (x.off:Nat)]) rfl bA aM rfl
   ·exact tk
   exact cK hx _ _ _
  apply dq 7 O (yq (ah O))
  apply dq 8 O (yq (ae O))
  apply dq 9 O (yq (aE 1 O bY O O jE))
  apply dq 10 O (yq (aI O ij))
  apply dq 11 O (yq (ah O))
  refine ak [6,10,11,5,9,3,4,8,2,7,1,0] [] 12 [(18,_),(22,_),(23,_)] gO ⟨rfl,rfl,rfl,trivial⟩ (by kernel_rfl) (by kernel_rfl) fun Ex=>?_
  refine cT O O O (Prune_ok G hG hGO pa x.off x.go po bm x.n x.e s l x.T (bu os) (fE hos) sd hsd hP hO.rng) ?_
  rintro v L' ⟨s',b,kk,rfl,rfl,hB,hkk,hT',hS⟩
  refine bx ?_
  refine ai ?_
  refine aQ trivial ?_
  apply dq 13 O (yq (ah O))
  apply dq 14 O (yq (aa O ga))
  apply dq 15 O (yq (aa O ga))
  refine ak [14,13] [15] 16 [(25,_)] gO ⟨rfl,trivial⟩ (by kernel_rfl) (by kernel_rfl) fun Ex=>?_
  refine ar O O<|ai ?_
  refine aQ ⟨ya O O (yq (aa O ga)),trivial⟩ ?_
  refine ak [15] [] 17 [(26,_)] gO ⟨rfl,trivial⟩ (by kernel_rfl) (by kernel_rfl) fun Ex=>?_
  refine ar O O<|ai ?_
  refine aQ trivial ?_
  refine aV (by kernel_rfl) ?_
  refine an<|al<|aY mixed ?_
  apply dq 0 O (yq (ah O))
  apply dq 1 O (yq (ae O))
  apply dq 2 O (yq (aE 15 O bY O O jD))
  apply dq 3 O (yq (aI O ke))
  apply dq 4 O (yq (ah O))
  apply dq 5 O (yq (az O O j7 lu (by omega)))
  apply dq 6 O
  ·apply yq
   apply aT O mn
   ·exact tk
   exact hptr
  apply dq 7 O (yq (ah O))
  apply dq 8 O (yq (ae O))
  apply dq 9 O (yq (aE 3 O bY O O tG))
  apply dq 10 O (yq (aI O tJ))
  apply dq 11 O (yq (ah O))
  refine ak [6,10,11,5,9,3,4,8,2,7,1,0] [] 12 [(34,_),(38,_),(39,_)] gO ⟨rfl,rfl,rfl,trivial⟩ (by kernel_rfl) (by kernel_rfl) fun Ex=>?_
  refine cT O O O (zO pr bq os hgo hos l hl x hO.he hO.hn hP.hT.okc sd hsd hd hO.rng) ?_
  rintro v L' ⟨b2,k2,rfl,rfl,hB2,hk2⟩
  refine bx ?_
  obtain rfl:=Fx hB hB2
  obtain rfl:kk=k2:=by omega
  have hSt:Step s s' l x (lF x.T b kk):=⟨fun _=>⟨hS,hT',Dq hO.rng hkk⟩,fun q=>by rw[hd] at q;cases q⟩
  have hF2:=hF.step hs hx hSt rfl
  have hra:bd pr s'=bd pr s:=by obtain⟨a,b,c⟩:=hSt.arena;exact ff a b c
  have hmd:cY (ps.set k {x with T:=lF x.T b kk})=cY ps:=by unfold cY;rw[List.length_set,ic (x':={x with T:=lF x.T b kk}) hx rfl]
  have e2:=ik (pa:=pa) (l:=l) (x':={x with T:=lF x.T b kk}) hx rfl
  have e3:=fZ (x':={x with T:=lF x.T b kk}) hx rfl
  refine bx ?_
  refine ai ?_
  refine aQ trivial ?_
  apply dq 13 O (yq (ah O))
  apply dq 14 O (yq (aa O ga))
  apply dq 15 O (yq (aa O ga))
  refine ak [14,13] [15] 16 [(41,_)] gO ⟨rfl,trivial⟩ (by kernel_rfl) (by kernel_rfl) fun Ex=>?_
  refine ar O O<|ai ?_
  refine aQ ⟨ya O O (yq (aa O ga)),trivial⟩ ?_
  refine ak [15] [] 17 [(42,_)] gO ⟨rfl,trivial⟩ (by kernel_rfl) (by kernel_rfl) fun Ex=>?_
  refine ar O O<|ai ?_
  refine aQ trivial ?_
  refine aV (by kernel_rfl) ?_
  refine nz<|mv O O<|mv O O<|ad O (qi O O (bN ·))<|mv O O<|bQ (t:=46) rfl (fun z1=>?_) fun z1=>?_
  ·refine aA O O<|mv O O<|aA O O<|mv O O<|aA O O<|ad O (qi O O (bN ·))<|ad O (aS O O)<|ar O O<|lc<|rt ?_
   apply aR (.inl rfl) ([ca pr l (ps.set k {x with T:=lF x.T b kk}),pt pb (.cells #[.pointer (some ⟨pa,0,none⟩),.pointer (some ⟨po,0,none⟩),.pointer (some ⟨pr,0,none⟩),.pointer (some ⟨bq,0,none⟩),.int .i64 l.key,.int .i64 l.elem,.int .i64 l.ka,.int .i64 l.ea,.int .i64 l.cap,.int .i64 l.eo,.int .i64 l.bo,.int .i64 l.slot,.int .i64 l.group,.int .u64 sdP,(.slice (some ⟨g0,0,none⟩) ps.length cap),(.slice (some ⟨g1,0,none⟩) ps.length cap1)] 93 (0,0)),aF 39 11 (.slice (some ⟨g0,0,none⟩) ps.length cap) ps.length (rowOf (bX pa l) ps),aF 40 1 (.slice (some ⟨g1,0,none⟩) ps.length cap1) ps.length (bL ps),bd pr s,aj pa s',pt po (.cells #[.map (some bm)] 192 (0,0)),bG (fun k:ByteArray=>Value.string k) bm (bu os),dv bq os,G])
   ·apply cP O
    exact .tmp rfl
   ·exact⟨s',ps.set k {x with T:=lF x.T b kk},_,_,by rw[qY rfl],by rw[List.length_set,e2,e3,hra],hF2,by omega⟩
   refine jg hk ?_;(exact en)
  exact absurd rfl z1
end
end Plays
end Go.Proofs.YthkajgkagnenbaaGreatDoor
