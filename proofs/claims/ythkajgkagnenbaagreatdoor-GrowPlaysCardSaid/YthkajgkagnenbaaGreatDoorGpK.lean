/- larderlaw09's plays: a step. -/
import Derived.Test.YthkajgkagnenbaaGreatDoorGpH
set_option linter.unusedVariables false
set_option linter.unusedSimpArgs false
set_option linter.unusedSectionVars false
set_option maxRecDepth 100000
namespace Go.Proofs.YthkajgkagnenbaaGreatDoor
namespace Plays
open Go.RowKit Go.Proofs Eng Ty Arena Ctrl Layout GroupB Table Oracle Exact RefA RefT Ref04
theorem yg (pr:Nat) (l:Lay) {ps:List PR} {k:Nat} {x:PR} (hx:ps[k]?=some x):ca pr l (ps.set k (iT x))=ca pr l ps:=by
 unfold ca
 rw[map_set hx (show cz pr l (iT x)=cz pr l x from rfl)]
theorem Ce {ps:List PR} {k:Nat} {x:PR} (hx:ps[k]?=some x):cY (ps.set k (iT x))=cY ps:=by
 unfold cY
 rw[List.length_set,ic (x':=iT x) hx rfl]
theorem ve {s:ArS} {x:PR} (hw:Jd s x) (h:x.dead=true->∀ c,(((x.off:Nat):Int),c)∉s.bl) (hd:x.dead=true):s.dead (x.off:Nat)=true:=by
 obtain⟨c,hc⟩:=hw
 cases e:s.dead (x.off:Nat) with
 | true=>rfl
 | false=>exact absurd (cG.2 ⟨hc,e⟩) (h hd c)
theorem rv {pr:Nat} {l:Lay} {ps:List PR} {y:PR} {L R:List HP} (he:dS L (cz pr l y::ca pr l ps::R)):dS L (ca pr l (ps ++ [y])::R):=fun w h=>pI w (he w h)
section
variable (G:HP) (hG:dR G) (hGO:fR G) (pb pa po pr bq bm:Nat) (os:List (ByteArray×Int)) (hgo:ix os) (hos:∀ o∈os,0<=o.2/\o.2 < 18446744073709551616) (l:Lay) (hl:l.err=0) (sdP:Int) (hsP:0<=sdP/\sdP < 18446744073709551616) (s:ArS) (hs:s.ok) (ps:List PR) (vM vO:Value) (hlen:ps.length<=1480000000000) (hF:Full s l ps)
include hG hGO hgo hos hl hsP hs hlen hF
theorem De (o:yo) (hw:o.wf) (h0:o.kind=0):aK Tryz.prog 22 #[.pointer (some ⟨pb,0,none⟩),.agg #[.int .i64 o.kind,.int .i64 o.which,.int .i64 o.n,.int .i64 o.m,.string o.key,.string o.elem]] [ca pr l ps,pt pb (.cells #[.pointer (some ⟨pa,0,none⟩),.pointer (some ⟨po,0,none⟩),.pointer (some ⟨pr,0,none⟩),.pointer (some ⟨bq,0,none⟩),.int .i64 l.key,.int .i64 l.elem,.int .i64 l.ka,.int .i64 l.ea,.int .i64 l.cap,.int .i64 l.eo,.int .i64 l.bo,.int .i64 l.slot,.int .i64 l.group,.int .u64 sdP,vM,vO] 93 (0,0)),aF 39 11 vM ps.length (rowOf (bX pa l) ps),aF 40 1 vO ps.length (bL ps),bd pr s,aj pa s,pt po (.cells #[.map (some bm)] 192 (0,0)),bG (fun k:ByteArray=>Value.string k) bm (bu os),dv bq os,G] (fun v L=>∃ s' ps' vM' vO',v=.bool true/\L= [ca pr l ps',pt pb (.cells #[.pointer (some ⟨pa,0,none⟩),.pointer (some ⟨po,0,none⟩),.pointer (some ⟨pr,0,none⟩),.pointer (some ⟨bq,0,none⟩),.int .i64 l.key,.int .i64 l.elem,.int .i64 l.ka,.int .i64 l.ea,.int .i64 l.cap,.int .i64 l.eo,.int .i64 l.bo,.int .i64 l.slot,.int .i64 l.group,.int .u64 sdP,vM',vO'] 93 (0,0)),aF 39 11 vM' ps'.length (rowOf (bX pa l) ps'),aF 40 1 vO' ps'.length (bL ps'),bd pr s',aj pa s',pt po (.cells #[.map (some bm)] 192 (0,0)),bG (fun k:ByteArray=>Value.string k) bm (bu os),dv bq os,G]/\Full s' l ps'/\cY ps'<=cY ps+2):=by
 refine au FU Tryz.func22 rfl rfl rfl fun Fr w0=>aZ ?_
 rcases nU pa pr s hs l hl o.n o.m hw.n with⟨c,hc,hp,hr⟩ | ⟨N,E,hN,hE,hsl,hdp,hsm,hfit,hr⟩
 ·skip
  refine sr<|bw O O fun b3=>ar O O<|lc<|al<|sr<|ad O (aE 0 O dk O O aN)<|ad O (aI O aX) ?_
  refine ad O (qi O O (bN ·))<|lc<|aG O (fun z=>?_) fun z=>?_
  ·refine al<|aY mixed ?_
   apply dq 0 O (yq (ah O))
   apply dq 1 O (yq (ae O))
   apply dq 2 O (yq (aE 0 O bY O O eu))
   apply dq 3 O (yq (aI O ew))
   apply dq 4 O (yq (ah O))
   apply dq 5 O (yq (ae O))
   apply dq 6 O (yq (aE 4 O bY O O bH))
   apply dq 7 O (yq (aO O cZ bH))
   apply dq 8 O (yq (aE 2 O dk O O aN))
   apply dq 9 O (yq (aI O aX))
   apply dq 10 O (yq (aE 3 O dk O O aN))
   apply dq 11 O (yq (aI O aX))
   apply dI 12 16
   ·kernel_rfl
   ·refine cA (q1:=[3,7,9,11,2,6,8,10,1,5,0,4]) (q2:=[]) [(16,_),(20,_),(22,_),(24,_)] gO ⟨O,O,O,O,trivial⟩ (by kernel_rfl) fun Ex=>?_
    refine bF O O O (hp) ?_
    refine ai ?_
    refine aQ trivial ?_
    apply dq 13 O (yq (ah O))
    apply dq 14 O (yq (aa O ga))
    apply dq 15 O (yq (aa O ga))
    refine ak [] [15,14,13] 16 [] gO trivial (by kernel_rfl) (by kernel_rfl) fun Ex=>?_
    refine ay O cM fun b5=>ai ?_
    refine aQ ⟨ya O O (yq (aa O ga)),ya O O (yq (aa O ga)),ya O O (yq (ah O)),trivial⟩ ?_
    refine ak [14,13] [15] 17 [(5,_),(26,_)] gO ⟨rfl,rfl,trivial⟩ (by kernel_rfl) (by kernel_rfl) fun Ex=>?_
    refine bZ O O O aM O O ?_
    refine ai ?_
    refine aQ ⟨ya O O (yq (aa O ga)),trivial⟩ ?_
    refine ak [15] [] 18 [(27,_)] gO ⟨rfl,trivial⟩ (by kernel_rfl) (by kernel_rfl) fun Ex=>?_
    refine ar O O<|ai ?_
    refine aQ trivial ?_
    refine aV (by kernel_rfl) ?_
    refine an<|al<|aY mixed ?_
    apply dq 0 O (yq (ah O))
    apply dq 1 O (yq (ae O))
    apply dq 2 O (yq (aE 2 O bY O O kF))
    apply dq 3 O (yq (aI O kH))
    apply dq 4 O (yq (ah O))
    apply dq 5 O (yq (ae O))
    apply dq 6 O (yq (aE 4 O bY O O bH))
    apply dq 7 O (yq (aO O cZ bH))
    apply dq 8 O (yq (aE 2 O dk O O aN))
    apply dq 9 O (yq (aI O aX))
    apply dq 10 O (yq (aE 3 O dk O O aN))
    apply dq 11 O (yq (aI O aX))
    refine ak [3,7,9,11,2,6,8,10,1,5,0,4] [] 12 [(32,_),(36,_),(38,_),(40,_)] gO ⟨rfl,rfl,rfl,rfl,trivial⟩ (by kernel_rfl) (by kernel_rfl) fun Ex=>?_
    refine bF O O O (hr) ?_
    refine ai ?_
    refine aQ trivial ?_
    apply dq 13 O (yq (ah O))
    apply dq 14 O (yq (aa O ga))
    apply dq 15 O (yq (aa O ga))
    refine ak [14,13] [15] 16 [(42,_)] gO ⟨rfl,trivial⟩ (by kernel_rfl) (by kernel_rfl) fun Ex=>?_
    refine ar O O<|ai ?_
    refine aQ ⟨ya O O (yq (aa O ga)),trivial⟩ ?_
    refine ak [15] [] 17 [(43,_)] gO ⟨rfl,trivial⟩ (by kernel_rfl) (by kernel_rfl) fun Ex=>?_
    refine ar O O<|ai ?_
    refine aQ trivial ?_
    refine aV (by kernel_rfl) ?_
    refine nz<|mv O O<|ad O (aO O bA aM) ?_
    refine mv O O<|mv O O<|mv O O<|bF O O O (jQ pb c hc) ?_
    refine ar O O<|lc<|rt<|cN O ([ca pr l ps,pt pb (.cells #[.pointer (some ⟨pa,0,none⟩),.pointer (some ⟨po,0,none⟩),.pointer (some ⟨pr,0,none⟩),.pointer (some ⟨bq,0,none⟩),.int .i64 l.key,.int .i64 l.elem,.int .i64 l.ka,.int .i64 l.ea,.int .i64 l.cap,.int .i64 l.eo,.int .i64 l.bo,.int .i64 l.slot,.int .i64 l.group,.int .u64 sdP,vM,vO] 93 (0,0)),aF 39 11 vM ps.length (rowOf (bX pa l) ps),aF 40 1 vO ps.length (bL ps),bd pr s,aj pa s,pt po (.cells #[.map (some bm)] 192 (0,0)),bG (fun k:ByteArray=>Value.string k) bm (bu os),dv bq os,G]) (.tmp rfl) ?_
    exact⟨s,ps,vM,vO,rfl,rfl,hF,by omega⟩
   refine cA (q1:=[]) (q2:=[11,10,9,8,7,6,5,4,3,2,1,0]) [] gO trivial (by kernel_rfl) fun Ex=>?_
   refine ay O cM fun b5=>ai ?_
   refine aQ ⟨ya O O (yq (aI O aX)),ya O O (yq (aE 3 O dk O O aN)),ya O O (yq (aI O aX)),ya O O (yq (aE 2 O dk O O aN)),ya O O (yq (aO O cZ bH)),ya O O (yq (aE 4 O bY O O bH)),ya O O (yq (ae O)),ya O O (yq (ah O)),ya O O (yq (aI O ew)),ya O O (yq (aE 0 O bY O O eu)),ya O O (yq (ae O)),ya O O (yq (ah O)),trivial⟩ ?_
   refine ak [3,7,9,11,2,6,8,10,1,5,0,4] [] 12 [(16,_),(20,_),(22,_),(24,_)] gO ⟨rfl,rfl,rfl,rfl,trivial⟩ (by kernel_rfl) (by kernel_rfl) fun Ex=>?_
   refine bF O O O (hp) ?_
   refine ai ?_
   refine aQ trivial ?_
   apply dq 13 O (yq (ah O))
   apply dq 14 O (yq (aa O ga))
   apply dq 15 O (yq (aa O ga))
   refine ak [14,13] [15] 17 [(5,_),(26,_)] gO ⟨rfl,rfl,trivial⟩ (by kernel_rfl) (by kernel_rfl) fun Ex=>?_
   refine bZ O O O aM O O ?_
   refine ai ?_
   refine aQ ⟨ya O O (yq (aa O ga)),trivial⟩ ?_
   refine ak [15] [] 18 [(27,_)] gO ⟨rfl,trivial⟩ (by kernel_rfl) (by kernel_rfl) fun Ex=>?_
   refine ar O O<|ai ?_
   refine aQ trivial ?_
   refine aV (by kernel_rfl) ?_
   refine an<|al<|aY mixed ?_
   apply dq 0 O (yq (ah O))
   apply dq 1 O (yq (ae O))
   apply dq 2 O (yq (aE 2 O bY O O kF))
   apply dq 3 O (yq (aI O kH))
   apply dq 4 O (yq (ah O))
   apply dq 5 O (yq (ae O))
   apply dq 6 O (yq (aE 4 O bY O O bH))
   apply dq 7 O (yq (aO O cZ bH))
   apply dq 8 O (yq (aE 2 O dk O O aN))
   apply dq 9 O (yq (aI O aX))
   apply dq 10 O (yq (aE 3 O dk O O aN))
   apply dq 11 O (yq (aI O aX))
   refine ak [3,7,9,11,2,6,8,10,1,5,0,4] [] 12 [(32,_),(36,_),(38,_),(40,_)] gO ⟨rfl,rfl,rfl,rfl,trivial⟩ (by kernel_rfl) (by kernel_rfl) fun Ex=>?_
   refine bF O O O (hr) ?_
   refine ai ?_
   refine aQ trivial ?_
   apply dq 13 O (yq (ah O))
   apply dq 14 O (yq (aa O ga))
   apply dq 15 O (yq (aa O ga))
   refine ak [14,13] [15] 16 [(42,_)] gO ⟨rfl,trivial⟩ (by kernel_rfl) (by kernel_rfl) fun Ex=>?_
   refine ar O O<|ai ?_
   refine aQ ⟨ya O O (yq (aa O ga)),trivial⟩ ?_
   refine ak [15] [] 17 [(43,_)] gO ⟨rfl,trivial⟩ (by kernel_rfl) (by kernel_rfl) fun Ex=>?_
   refine ar O O<|ai ?_
   refine aQ trivial ?_
   refine aV (by kernel_rfl) ?_
   refine nz<|mv O O<|ad O (aO O bA aM) ?_
   refine mv O O<|mv O O<|mv O O<|bF O O O (jQ pb c hc) ?_
   refine ar O O<|lc<|rt<|cN O ([ca pr l ps,pt pb (.cells #[.pointer (some ⟨pa,0,none⟩),.pointer (some ⟨po,0,none⟩),.pointer (some ⟨pr,0,none⟩),.pointer (some ⟨bq,0,none⟩),.int .i64 l.key,.int .i64 l.elem,.int .i64 l.ka,.int .i64 l.ea,.int .i64 l.cap,.int .i64 l.eo,.int .i64 l.bo,.int .i64 l.slot,.int .i64 l.group,.int .u64 sdP,vM,vO] 93 (0,0)),aF 39 11 vM ps.length (rowOf (bX pa l) ps),aF 40 1 vO ps.length (bL ps),bd pr s,aj pa s,pt po (.cells #[.map (some bm)] 192 (0,0)),bG (fun k:ByteArray=>Value.string k) bm (bu os),dv bq os,G]) (.tmp rfl) ?_
   exact⟨s,ps,vM,vO,rfl,rfl,hF,by omega⟩
  exact absurd h0 z
 have hN0:0 < N:=by rw[hN];exact Nat.two_pow_pos _
 have hbig:1<=((N*gN l:Nat):Int):=by have:=(eK hl).g_eq;have:=Nat.mul_le_mul_right (gN l) hN0;omega
 have hCb:=(dE hbig).2.2 hsm
 have hcc:aH ((N*gN l:Nat):Int)∈dM:=gq hbig hsm
 have ok64:=ArS.take_ok hs ye (by omega)
 obtain⟨o1,ho1⟩:∃ o1,s.at 64=o1:=⟨_,rfl⟩
 obtain⟨g1,hg1⟩:∃ g1,(s.take 64).at (aH ((N*gN l:Nat):Int))=g1:=⟨_,rfl⟩
 have hnew:=l5 pa N E s l o.n o.m hl hE hN hsl hdp hsm hfit o1 g1 ho1 hg1
 rw[ho1,hg1] at hr
 refine sr<|bw O O fun b3=>ar O O<|lc<|al<|sr<|ad O (aE 0 O dk O O aN)<|ad O (aI O aX) ?_
 refine ad O (qi O O (bN ·))<|lc<|aG O (fun z=>?_) fun z=>?_
 ·refine al<|aY mixed ?_
  apply dq 0 O (yq (ah O))
  apply dq 1 O (yq (ae O))
  apply dq 2 O (yq (aE 0 O bY O O eu))
  apply dq 3 O (yq (aI O ew))
  apply dq 4 O (yq (ah O))
  apply dq 5 O (yq (ae O))
  apply dq 6 O (yq (aE 4 O bY O O bH))
  apply dq 7 O (yq (aO O cZ bH))
  apply dq 8 O (yq (aE 2 O dk O O aN))
  apply dq 9 O (yq (aI O aX))
  apply dq 10 O (yq (aE 3 O dk O O aN))
  apply dq 11 O (yq (aI O aX))
  apply dI 12 16
  ·kernel_rfl
  ·refine cA (q1:=[3,7,9,11,2,6,8,10,1,5,0,4]) (q2:=[]) [(16,_),(20,_),(22,_),(24,_)] gO ⟨O,O,O,O,trivial⟩ (by kernel_rfl) fun Ex=>?_
   refine cT O O O (hnew) ?_
   rintro v L' ⟨s',rfl,rfl,hT,hNs,hZ⟩
   refine bx ?_
   refine ai ?_
   refine aQ trivial ?_
   apply dq 13 O (yq (ah O))
   apply dq 14 O (yq (aa O ga))
   apply dq 15 O (yq (aa O ga))
   refine ak [] [15,14,13] 16 [] gO trivial (by kernel_rfl) (by kernel_rfl) fun Ex=>?_
   refine ay O cM fun b5=>ai ?_
   refine aQ ⟨ya O O (yq (aa O ga)),ya O O (yq (aa O ga)),ya O O (yq (ah O)),trivial⟩ ?_
   refine ak [14,13] [15] 17 [(5,_),(26,_)] gO ⟨rfl,rfl,trivial⟩ (by kernel_rfl) (by kernel_rfl) fun Ex=>?_
   refine bZ O O O aM O O ?_
   refine ai ?_
   refine aQ ⟨ya O O (yq (aa O ga)),trivial⟩ ?_
   refine ak [15] [] 18 [(27,_)] gO ⟨rfl,trivial⟩ (by kernel_rfl) (by kernel_rfl) fun Ex=>?_
   refine ar O O<|ai ?_
   refine aQ trivial ?_
   refine aV (by kernel_rfl) ?_
   refine an<|al<|aY mixed ?_
   apply dq 0 O (yq (ah O))
   apply dq 1 O (yq (ae O))
   apply dq 2 O (yq (aE 2 O bY O O kF))
   apply dq 3 O (yq (aI O kH))
   apply dq 4 O (yq (ah O))
   apply dq 5 O (yq (ae O))
   apply dq 6 O (yq (aE 4 O bY O O bH))
   apply dq 7 O (yq (aO O cZ bH))
   apply dq 8 O (yq (aE 2 O dk O O aN))
   apply dq 9 O (yq (aI O aX))
   apply dq 10 O (yq (aE 3 O dk O O aN))
   apply dq 11 O (yq (aI O aX))
   refine ak [3,7,9,11,2,6,8,10,1,5,0,4] [] 12 [(32,_),(36,_),(38,_),(40,_)] gO ⟨rfl,rfl,rfl,rfl,trivial⟩ (by kernel_rfl) (by kernel_rfl) fun Ex=>?_
   refine cT O O O (hr) ?_
   rintro v L' ⟨p,rfl,rfl⟩
   refine bx ?_
   refine ai ?_
   refine aQ trivial ?_
   apply dq 13 O (yq (ah O))
   apply dq 14 O (yq (aa O ga))
   apply dq 15 O (yq (aa O ga))
   refine ak [14,13] [15] 16 [(42,_)] gO ⟨rfl,trivial⟩ (by kernel_rfl) (by kernel_rfl) fun Ex=>?_
   refine ar O O<|ai ?_
   refine aQ ⟨ya O O (yq (aa O ga)),trivial⟩ ?_
   refine ak [15] [] 17 [(43,_)] gO ⟨rfl,trivial⟩ (by kernel_rfl) (by kernel_rfl) fun Ex=>?_
   refine ar O O<|ai ?_
   refine aQ trivial ?_
   refine aV (by kernel_rfl) ?_
   refine nz<|mv O O<|ad O (aO O bA aM) ?_
   refine mv O O<|mv O O<|mv O O<|cT O O O (iA pb pa po pr bq l sdP ps vM vO (⟨p,o1,g1,N,E,cR N o.m,false,false⟩:PR) (by omega)) ?_
   rintro v L' ⟨vM',vO',rfl,rfl⟩
   refine bx ?_
   refine ar O O<|lc<|rt ?_
   have hF1:=hF.push hs hCb.2 hcc hfit hNs (nc hs rfl hE hN (fu.new _ _) hT hNs hZ hsm hfit hCb.2 ho1 hg1 p) rfl ho1.symm hg1.symm hdp
   have hra:bd pr s'=bd pr ((s.take 64).take (aH ((N*gN l:Nat):Int))):=ff (hNs.limit.trans ((cX ok64).trans (cX hs)).symm) hNs.all hNs.dead
   apply aR (.inl rfl) ([ca pr l (ps ++ [(⟨p,o1,g1,N,E,cR N o.m,false,false⟩:PR)]),pt pb (.cells #[.pointer (some ⟨pa,0,none⟩),.pointer (some ⟨po,0,none⟩),.pointer (some ⟨pr,0,none⟩),.pointer (some ⟨bq,0,none⟩),.int .i64 l.key,.int .i64 l.elem,.int .i64 l.ka,.int .i64 l.ea,.int .i64 l.cap,.int .i64 l.eo,.int .i64 l.bo,.int .i64 l.slot,.int .i64 l.group,.int .u64 sdP,vM',vO'] 93 (0,0)),aF 39 11 vM' (ps ++ [(⟨p,o1,g1,N,E,cR N o.m,false,false⟩:PR)]).length (rowOf (bX pa l) (ps ++ [(⟨p,o1,g1,N,E,cR N o.m,false,false⟩:PR)])),aF 40 1 vO' (ps ++ [(⟨p,o1,g1,N,E,cR N o.m,false,false⟩:PR)]).length (bL (ps ++ [(⟨p,o1,g1,N,E,cR N o.m,false,false⟩:PR)])),bd pr ((s.take 64).take (aH ((N*gN l:Nat):Int))),aj pa s',pt po (.cells #[.map (some bm)] 192 (0,0)),bG (fun k:ByteArray=>Value.string k) bm (bu os),dv bq os,G])
   ·apply cP O
    exact .tmp rfl
   ·exact⟨s',ps.map du ++ [(⟨p,o1,g1,N,E,cR N o.m,false,false⟩:PR)],vM',vO',rfl,by rw[wL,wi,vW,wx,hra],hF1,by rw[sV _ _ rfl];omega⟩
   refine rv ?_;(exact en)
  refine cA (q1:=[]) (q2:=[11,10,9,8,7,6,5,4,3,2,1,0]) [] gO trivial (by kernel_rfl) fun Ex=>?_
  refine ay O cM fun b5=>ai ?_
  refine aQ ⟨ya O O (yq (aI O aX)),ya O O (yq (aE 3 O dk O O aN)),ya O O (yq (aI O aX)),ya O O (yq (aE 2 O dk O O aN)),ya O O (yq (aO O cZ bH)),ya O O (yq (aE 4 O bY O O bH)),ya O O (yq (ae O)),ya O O (yq (ah O)),ya O O (yq (aI O ew)),ya O O (yq (aE 0 O bY O O eu)),ya O O (yq (ae O)),ya O O (yq (ah O)),trivial⟩ ?_
  refine ak [3,7,9,11,2,6,8,10,1,5,0,4] [] 12 [(16,_),(20,_),(22,_),(24,_)] gO ⟨rfl,rfl,rfl,rfl,trivial⟩ (by kernel_rfl) (by kernel_rfl) fun Ex=>?_
  refine cT O O O (hnew) ?_
  rintro v L' ⟨s',rfl,rfl,hT,hNs,hZ⟩
  refine bx ?_
  refine ai ?_
  refine aQ trivial ?_
  apply dq 13 O (yq (ah O))
  apply dq 14 O (yq (aa O ga))
  apply dq 15 O (yq (aa O ga))
  refine ak [14,13] [15] 17 [(5,_),(26,_)] gO ⟨rfl,rfl,trivial⟩ (by kernel_rfl) (by kernel_rfl) fun Ex=>?_
  refine bZ O O O aM O O ?_
  refine ai ?_
  refine aQ ⟨ya O O (yq (aa O ga)),trivial⟩ ?_
  refine ak [15] [] 18 [(27,_)] gO ⟨rfl,trivial⟩ (by kernel_rfl) (by kernel_rfl) fun Ex=>?_
  refine ar O O<|ai ?_
  refine aQ trivial ?_
  refine aV (by kernel_rfl) ?_
  refine an<|al<|aY mixed ?_
  apply dq 0 O (yq (ah O))
  apply dq 1 O (yq (ae O))
  apply dq 2 O (yq (aE 2 O bY O O kF))
  apply dq 3 O (yq (aI O kH))
  apply dq 4 O (yq (ah O))
  apply dq 5 O (yq (ae O))
  apply dq 6 O (yq (aE 4 O bY O O bH))
  apply dq 7 O (yq (aO O cZ bH))
  apply dq 8 O (yq (aE 2 O dk O O aN))
  apply dq 9 O (yq (aI O aX))
  apply dq 10 O (yq (aE 3 O dk O O aN))
  apply dq 11 O (yq (aI O aX))
  refine ak [3,7,9,11,2,6,8,10,1,5,0,4] [] 12 [(32,_),(36,_),(38,_),(40,_)] gO ⟨rfl,rfl,rfl,rfl,trivial⟩ (by kernel_rfl) (by kernel_rfl) fun Ex=>?_
  refine cT O O O (hr) ?_
  rintro v L' ⟨p,rfl,rfl⟩
  refine bx ?_
  refine ai ?_
  refine aQ trivial ?_
  apply dq 13 O (yq (ah O))
  apply dq 14 O (yq (aa O ga))
  apply dq 15 O (yq (aa O ga))
  refine ak [14,13] [15] 16 [(42,_)] gO ⟨rfl,trivial⟩ (by kernel_rfl) (by kernel_rfl) fun Ex=>?_
  refine ar O O<|ai ?_
  refine aQ ⟨ya O O (yq (aa O ga)),trivial⟩ ?_
  refine ak [15] [] 17 [(43,_)] gO ⟨rfl,trivial⟩ (by kernel_rfl) (by kernel_rfl) fun Ex=>?_
  refine ar O O<|ai ?_
  refine aQ trivial ?_
  refine aV (by kernel_rfl) ?_
  refine nz<|mv O O<|ad O (aO O bA aM) ?_
  refine mv O O<|mv O O<|mv O O<|cT O O O (iA pb pa po pr bq l sdP ps vM vO (⟨p,o1,g1,N,E,cR N o.m,false,false⟩:PR) (by omega)) ?_
  rintro v L' ⟨vM',vO',rfl,rfl⟩
  refine bx ?_
  refine ar O O<|lc<|rt ?_
  have hF1:=hF.push hs hCb.2 hcc hfit hNs (nc hs rfl hE hN (fu.new _ _) hT hNs hZ hsm hfit hCb.2 ho1 hg1 p) rfl ho1.symm hg1.symm hdp
  have hra:bd pr s'=bd pr ((s.take 64).take (aH ((N*gN l:Nat):Int))):=ff (hNs.limit.trans ((cX ok64).trans (cX hs)).symm) hNs.all hNs.dead
  apply aR (.inl rfl) ([ca pr l (ps ++ [(⟨p,o1,g1,N,E,cR N o.m,false,false⟩:PR)]),pt pb (.cells #[.pointer (some ⟨pa,0,none⟩),.pointer (some ⟨po,0,none⟩),.pointer (some ⟨pr,0,none⟩),.pointer (some ⟨bq,0,none⟩),.int .i64 l.key,.int .i64 l.elem,.int .i64 l.ka,.int .i64 l.ea,.int .i64 l.cap,.int .i64 l.eo,.int .i64 l.bo,.int .i64 l.slot,.int .i64 l.group,.int .u64 sdP,vM',vO'] 93 (0,0)),aF 39 11 vM' (ps ++ [(⟨p,o1,g1,N,E,cR N o.m,false,false⟩:PR)]).length (rowOf (bX pa l) (ps ++ [(⟨p,o1,g1,N,E,cR N o.m,false,false⟩:PR)])),aF 40 1 vO' (ps ++ [(⟨p,o1,g1,N,E,cR N o.m,false,false⟩:PR)]).length (bL (ps ++ [(⟨p,o1,g1,N,E,cR N o.m,false,false⟩:PR)])),bd pr ((s.take 64).take (aH ((N*gN l:Nat):Int))),aj pa s',pt po (.cells #[.map (some bm)] 192 (0,0)),bG (fun k:ByteArray=>Value.string k) bm (bu os),dv bq os,G])
  ·apply cP O
   exact .tmp rfl
  ·exact⟨s',ps.map du ++ [(⟨p,o1,g1,N,E,cR N o.m,false,false⟩:PR)],vM',vO',rfl,by rw[wL,wi,vW,wx,hra],hF1,by rw[sV _ _ rfl];omega⟩
  refine rv ?_;(exact en)
 exact absurd h0 z
theorem Dd (o:yo) (hw:o.wf) (h0:o.kind≠0) (hout:o.which < 0\/(ps.length:Int)<=o.which):aK Tryz.prog 22 #[.pointer (some ⟨pb,0,none⟩),.agg #[.int .i64 o.kind,.int .i64 o.which,.int .i64 o.n,.int .i64 o.m,.string o.key,.string o.elem]] [ca pr l ps,pt pb (.cells #[.pointer (some ⟨pa,0,none⟩),.pointer (some ⟨po,0,none⟩),.pointer (some ⟨pr,0,none⟩),.pointer (some ⟨bq,0,none⟩),.int .i64 l.key,.int .i64 l.elem,.int .i64 l.ka,.int .i64 l.ea,.int .i64 l.cap,.int .i64 l.eo,.int .i64 l.bo,.int .i64 l.slot,.int .i64 l.group,.int .u64 sdP,vM,vO] 93 (0,0)),aF 39 11 vM ps.length (rowOf (bX pa l) ps),aF 40 1 vO ps.length (bL ps),bd pr s,aj pa s,pt po (.cells #[.map (some bm)] 192 (0,0)),bG (fun k:ByteArray=>Value.string k) bm (bu os),dv bq os,G] (fun v L=>∃ s' ps' vM' vO',v=.bool true/\L= [ca pr l ps',pt pb (.cells #[.pointer (some ⟨pa,0,none⟩),.pointer (some ⟨po,0,none⟩),.pointer (some ⟨pr,0,none⟩),.pointer (some ⟨bq,0,none⟩),.int .i64 l.key,.int .i64 l.elem,.int .i64 l.ka,.int .i64 l.ea,.int .i64 l.cap,.int .i64 l.eo,.int .i64 l.bo,.int .i64 l.slot,.int .i64 l.group,.int .u64 sdP,vM',vO'] 93 (0,0)),aF 39 11 vM' ps'.length (rowOf (bX pa l) ps'),aF 40 1 vO' ps'.length (bL ps'),bd pr s',aj pa s',pt po (.cells #[.map (some bm)] 192 (0,0)),bG (fun k:ByteArray=>Value.string k) bm (bu os),dv bq os,G]/\Full s' l ps'/\cY ps'<=cY ps+2):=by
 refine au FU Tryz.func22 rfl rfl rfl fun Fr w0=>aZ ?_
 refine bU (.there (.there (.there .here))) fun _ hvo=>?_
 obtain⟨a1,cap1,rfl,ha1,_,_⟩:=hvo
 refine sr<|bw O O fun b3=>ar O O<|lc<|al<|sr<|ad O (aE 0 O dk O O aN)<|ad O (aI O aX) ?_
 refine ad O (qi O O (bN ·))<|lc<|aG O (fun z=>?_) fun z=>?_
 ·exact absurd z h0
 refine aq<|an<|al<|al<|aY mixed ?_
 apply dq 0 O (yq (aE 1 O dk O O aN))
 apply dq 1 O (yq (aI O aX))
 apply dq 2 O (yq (qi O O (bj ·)))
 apply dq 3 O (yq (ah O))
 refine n6 (t:=53) rfl (fun q1=>?_) fun q1=>?_
 ·apply dq 4 O (bW O O O (by intro k;simp))
  apply dq 5 O (bW O O O (by intro k;simp))
  apply dq 6 O (bW O O O (by intro k;simp))
  apply dq 7 O (bW O O O (by intro k;simp))
  apply dq 8 O (bW O O O (by intro k;simp))
  apply dq 9 O (bW O O O (by intro k;simp))
  apply dq 10 O (bW O O O (by intro k;simp))
  apply dq 11 O (bW O O O (by intro k;simp))
  apply dq 12 O (yq (aS O O))
  apply dq 13 O (yq (ah O))
  apply dq 14 O (bW O O O (by intro k;simp))
  apply dq 15 O (bW O O O (by intro k;simp))
  apply dq 16 O (bW O O O (by intro k;simp))
  refine ak [14,16,13,15,12,3,11,2,5,10,1,4,9,0,8,7,6] [] 17 [(64,_),(66,_),(63,_)] gO ⟨rfl,rfl,rfl,trivial⟩ (by kernel_rfl) (by kernel_rfl) fun Ex=>?_
  refine ax O O O O<|ai ?_
  refine aQ trivial ?_
  apply dq 18 O (bW O O O (by intro k;simp))
  apply dq 19 O (yq (aS O O))
  refine aV (by kernel_rfl) ?_
  refine an<|bk O<|sr<|ar O O<|lc<|rt<|cN O ([ca pr l ps,pt pb (.cells #[.pointer (some ⟨pa,0,none⟩),.pointer (some ⟨po,0,none⟩),.pointer (some ⟨pr,0,none⟩),.pointer (some ⟨bq,0,none⟩),.int .i64 l.key,.int .i64 l.elem,.int .i64 l.ka,.int .i64 l.ea,.int .i64 l.cap,.int .i64 l.eo,.int .i64 l.bo,.int .i64 l.slot,.int .i64 l.group,.int .u64 sdP,vM,(.slice a1 ps.length cap1)] 93 (0,0)),aF 39 11 vM ps.length (rowOf (bX pa l) ps),aF 40 1 (.slice a1 ps.length cap1) ps.length (bL ps),bd pr s,aj pa s,pt po (.cells #[.map (some bm)] 192 (0,0)),bG (fun k:ByteArray=>Value.string k) bm (bu os),dv bq os,G]) (.tmp rfl) ?_
  exact⟨s,ps,vM,_,rfl,rfl,hF,by omega⟩
 apply dq 4 O (bD O O (aE 1 O dk O O aN))
 apply dq 5 O (bD O O (aI O aX))
 apply dq 6 O (bD O O (ah O))
 apply dq 7 O (bD O O (ae O))
 apply dq 8 O (bD O O (aE 15 O bY O O jD))
 apply dq 9 O (bD O O (aI O ke))
 apply dq 10 O (bD O O (ql O j7))
 apply dq 11 O (bD O O (qi O O (iC ·)))
 apply dq 12 O (yq (aS O O))
 apply dq 13 O (yq (ah O))
 refine n6 (t:=63) rfl (fun q2=>?_) fun q2=>?_
 ·apply dq 14 O (bW O O O (by intro k;simp))
  apply dq 15 O (bW O O O (by intro k;simp))
  apply dq 16 O (bW O O O (by intro k;simp))
  refine ak [14,16,13,15,12,3,11,2,5,10,1,4,9,0,8,7,6] [] 17 [(64,_),(66,_),(63,_)] gO ⟨rfl,rfl,rfl,trivial⟩ (by kernel_rfl) (by kernel_rfl) fun Ex=>?_
  refine ax O O O O<|ai ?_
  refine aQ trivial ?_
  apply dq 18 O (bW O O O (by intro k;simp))
  apply dq 19 O (yq (aS O O))
  refine aV (by kernel_rfl) ?_
  refine an<|bk O<|sr<|ar O O<|lc<|rt<|cN O ([ca pr l ps,pt pb (.cells #[.pointer (some ⟨pa,0,none⟩),.pointer (some ⟨po,0,none⟩),.pointer (some ⟨pr,0,none⟩),.pointer (some ⟨bq,0,none⟩),.int .i64 l.key,.int .i64 l.elem,.int .i64 l.ka,.int .i64 l.ea,.int .i64 l.cap,.int .i64 l.eo,.int .i64 l.bo,.int .i64 l.slot,.int .i64 l.group,.int .u64 sdP,vM,(.slice a1 ps.length cap1)] 93 (0,0)),aF 39 11 vM ps.length (rowOf (bX pa l) ps),aF 40 1 (.slice a1 ps.length cap1) ps.length (bL ps),bd pr s,aj pa s,pt po (.cells #[.map (some bm)] 192 (0,0)),bG (fun k:ByteArray=>Value.string k) bm (bu os),dv bq os,G]) (.tmp rfl) ?_
  exact⟨s,ps,vM,_,rfl,rfl,hF,by omega⟩
 omega
theorem Fo (kind n m:Int) (key elem:ByteArray) (k:Nat) (hw:(⟨kind,(k:Nat),n,m,key,elem⟩:yo).wf) (h0:kind≠0) (hk:k < ps.length):aK Tryz.prog 22 #[.pointer (some ⟨pb,0,none⟩),.agg #[.int .i64 kind,.int .i64 (k:Nat),.int .i64 n,.int .i64 m,.string key,.string elem]] [ca pr l ps,pt pb (.cells #[.pointer (some ⟨pa,0,none⟩),.pointer (some ⟨po,0,none⟩),.pointer (some ⟨pr,0,none⟩),.pointer (some ⟨bq,0,none⟩),.int .i64 l.key,.int .i64 l.elem,.int .i64 l.ka,.int .i64 l.ea,.int .i64 l.cap,.int .i64 l.eo,.int .i64 l.bo,.int .i64 l.slot,.int .i64 l.group,.int .u64 sdP,vM,vO] 93 (0,0)),aF 39 11 vM ps.length (rowOf (bX pa l) ps),aF 40 1 vO ps.length (bL ps),bd pr s,aj pa s,pt po (.cells #[.map (some bm)] 192 (0,0)),bG (fun k:ByteArray=>Value.string k) bm (bu os),dv bq os,G] (fun v L=>∃ s' ps' vM' vO',v=.bool true/\L= [ca pr l ps',pt pb (.cells #[.pointer (some ⟨pa,0,none⟩),.pointer (some ⟨po,0,none⟩),.pointer (some ⟨pr,0,none⟩),.pointer (some ⟨bq,0,none⟩),.int .i64 l.key,.int .i64 l.elem,.int .i64 l.ka,.int .i64 l.ea,.int .i64 l.cap,.int .i64 l.eo,.int .i64 l.bo,.int .i64 l.slot,.int .i64 l.group,.int .u64 sdP,vM',vO'] 93 (0,0)),aF 39 11 vM' ps'.length (rowOf (bX pa l) ps'),aF 40 1 vO' ps'.length (bL ps'),bd pr s',aj pa s',pt po (.cells #[.map (some bm)] 192 (0,0)),bG (fun k:ByteArray=>Value.string k) bm (bu os),dv bq os,G]/\Full s' l ps'/\cY ps'<=cY ps+2):=by
 obtain⟨x,hx⟩:∃ x,ps[k]?=some x:=⟨ps[k],List.getElem?_eq_getElem hk⟩
 have hnb:=eZ n
 have e1:=yg pr l hx
 have e2:=ik (pa:=pa) (l:=l) (x':=iT x) hx rfl
 have e3:=fZ (x':=iT x) hx rfl
 have e4:=Ce hx
 refine au FU Tryz.func22 rfl rfl rfl fun Fr w0=>aZ ?_
 refine bU (.there (.there (.there .here))) fun _ hvo=>?_
 obtain⟨a1,cap1,rfl,ha1,_,_⟩:=hvo
 obtain⟨g1,rfl⟩:=ha1 (by omega)
 refine sr<|bw O O fun b3=>ar O O<|lc<|al<|sr<|ad O (aE 0 O dk O O aN)<|ad O (aI O aX) ?_
 refine ad O (qi O O (bN ·))<|lc<|aG O (fun z=>?_) fun z=>?_
 ·exact absurd z h0
 refine aq<|an<|al<|al<|aY mixed ?_
 apply dq 0 O (yq (aE 1 O dk O O aN))
 apply dq 1 O (yq (aI O aX))
 apply dq 2 O (yq (qi O O (bj ·)))
 apply dq 3 O (yq (ah O))
 refine n6 (t:=53) rfl (fun q1=>?_) fun q1=>?_
 ·omega
 apply dq 4 O (bD O O (aE 1 O dk O O aN))
 apply dq 5 O (bD O O (aI O aX))
 apply dq 6 O (bD O O (ah O))
 apply dq 7 O (bD O O (ae O))
 apply dq 8 O (bD O O (aE 15 O bY O O jD))
 apply dq 9 O (bD O O (aI O ke))
 apply dq 10 O (bD O O (ql O j7))
 apply dq 11 O (bD O O (qi O O (iC ·)))
 apply dq 12 O (yq (aS O O))
 apply dq 13 O (yq (ah O))
 refine n6 (t:=63) rfl (fun q2=>?_) fun q2=>?_
 ·omega
 apply dq 14 O (bD O O (ah O))
 apply dq 15 O (bD O O (aE 1 O dk O O aN))
 apply dq 16 O (bD O O (aI O aX))
 refine ak [14,16,13,15,12,3,11,2,5,10,1,4,9,0,8,7,6] [] 17 [(64,_),(66,_),(63,_)] gO ⟨rfl,rfl,rfl,trivial⟩ (by kernel_rfl) (by kernel_rfl) fun Ex=>?_
 refine aA O O<|cT O O O (vd pb pa po pr bq l sdP s hs ps vM (.slice (some ⟨g1,0,none⟩) ps.length cap1) k x hx) ?_
 rintro v L' ⟨b,rfl,rfl,hask⟩
 refine bx ?_
 refine ai ?_
 refine aQ trivial ?_
 apply dq 18 O (bD O O (db O (cy ·)))
 apply dq 19 O (yq (aS O O))
 refine aV (by kernel_rfl) ?_
 refine an<|aG O (fun q3=>?_) fun q3=>?_
 ·refine sr<|ar O O<|lc<|rt<|cN O ([ca pr l ps,pt pb (.cells #[.pointer (some ⟨pa,0,none⟩),.pointer (some ⟨po,0,none⟩),.pointer (some ⟨pr,0,none⟩),.pointer (some ⟨bq,0,none⟩),.int .i64 l.key,.int .i64 l.elem,.int .i64 l.ka,.int .i64 l.ea,.int .i64 l.cap,.int .i64 l.eo,.int .i64 l.bo,.int .i64 l.slot,.int .i64 l.group,.int .u64 sdP,vM,(.slice (some ⟨g1,0,none⟩) ps.length cap1)] 93 (0,0)),aF 39 11 vM ps.length (rowOf (bX pa l) ps),aF 40 1 (.slice (some ⟨g1,0,none⟩) ps.length cap1) ps.length (bL ps),bd pr s,aj pa s,pt po (.cells #[.map (some bm)] 192 (0,0)),bG (fun k:ByteArray=>Value.string k) bm (bu os),dv bq os,G]) (.tmp rfl) ?_
  exact⟨s,ps,vM,_,rfl,rfl,hF,by omega⟩
 have hb:b=true:=by simpa using q3
 obtain⟨hFa,hxa,hOa⟩:=hF.ask hx (ve (hF.was x (List.mem_of_getElem? hx)) (hask hb))
 have Hh:=DF G hG hGO pb pa po pr bq bm os hgo hos l hl sdP hsP s hs (ps.set k (iT x)) vM (.slice (some ⟨g1,0,none⟩) ps.length cap1) k (iT x) hxa hFa hOa rfl ⟨kind,(k:Nat),n,m,key,elem⟩ hw
 have Hp:=fun sd hsd=>Bb G hG hGO pb pa po pr bq bm os hgo hos l hl sdP s hs (ps.set k (iT x)) vM (.slice (some ⟨g1,0,none⟩) ps.length cap1) k (iT x) hxa hFa hOa rfl sd hsd
 have Ha:=fun sd hsd t ht=>DZ G hG hGO pb pa po pr bq bm os hgo hos l hl sdP s (ps.set k (iT x)) vM (.slice (some ⟨g1,0,none⟩) ps.length cap1) k (iT x) hxa sd hsd hs (by rw[List.length_set];omega) hFa hOa rfl t ht
 have Hs:=fun sd hsd=>AQ G hG hGO pb pa po pr bq bm os hgo hos l hl sdP s (ps.set k (iT x)) vM (.slice (some ⟨g1,0,none⟩) ps.length cap1) k (iT x) hxa sd hsd hs (by rw[List.length_set];omega) hFa hOa rfl
 rw[List.length_set,e1,e2,e3,e4] at Hh Hp Ha Hs
 refine aq<|an<|al<|sr<|ad O (aE 0 O dk O O aN)<|ad O (aI O aX) ?_
 refine lc<|aB<|al<|sr<|ad O (qi O O (bN ·))<|ar O O<|lc ?_
 apply pB (p:=(fun _:Bool=>True)) (EE:=(fun b=>[(0,.pointer (some ⟨pb,0,none⟩)),(3,.pointer (some ⟨b3,0,none⟩)),(71,.int .i64 kind),(72,.bool b)])) (LL:=(fun _=>pt b3 (.cells #[.int .i64 kind,.int .i64 (k:Nat),.int .i64 n,.int .i64 m,.string key,.string elem] 90 (0,0))::ca pr l ps::pt pb (.cells #[.pointer (some ⟨pa,0,none⟩),.pointer (some ⟨po,0,none⟩),.pointer (some ⟨pr,0,none⟩),.pointer (some ⟨bq,0,none⟩),.int .i64 l.key,.int .i64 l.elem,.int .i64 l.ka,.int .i64 l.ea,.int .i64 l.cap,.int .i64 l.eo,.int .i64 l.bo,.int .i64 l.slot,.int .i64 l.group,.int .u64 sdP,vM,(.slice (some ⟨g1,0,none⟩) ps.length cap1)] 93 (0,0))::aF 39 11 vM ps.length (rowOf (bX pa l) ps)::aF 40 1 (.slice (some ⟨g1,0,none⟩) ps.length cap1) ps.length (bL ps)::bd pr s::aj pa s::pt po (.cells #[.map (some bm)] 192 (0,0))::bG (fun k:ByteArray=>Value.string k) bm (bu os)::dv bq os::G::Fr))
 refine aG O (fun a1=>?_) fun a1=>?_
 ·refine aq ?_
  apply cx ((decide (kind=1)))
  ·exact trivial
  ·exact⟨O,O,O,O,trivial⟩
  exact en
 ·refine sr<|ad O (qi O O (bN ·))<|ar O O<|lc<|aG O (fun a2=>?_) fun a2=>?_
  ·refine aq ?_
   apply cx ((decide (kind=2)))
   ·exact trivial
   ·exact⟨O,O,O,O,trivial⟩
   exact en
  refine sr<|ad O (qi O O (bN ·))<|ar O O<|lc<|aG O (fun a7=>?_) fun a7=>?_
  ·refine aq ?_
   apply cx ((decide (kind=7)))
   ·exact trivial
   ·exact⟨O,O,O,O,trivial⟩
   exact en
  refine sr<|ad O (qi O O (bN ·))<|ar O O<|lc<|aG O (fun a8=>?_) fun a8=>?_
  ·refine aq ?_
   apply cx ((decide (kind=8)))
   ·exact trivial
   ·exact⟨O,O,O,O,trivial⟩
   exact en
  refine aD<|ad O (qi O O (bN ·))<|ar O O<|ai ?_
  apply cx ((decide (kind=9)))
  ·exact trivial
  ·exact⟨O,O,O,O,trivial⟩
  exact en
 rintro bS -
 try dsimp only
 refine oJ ?_
 refine an<|aG O (fun w1=>?_) fun w1=>?_
 ·refine sr<|mv O O<|ad O (aO O GJ E6) ?_
  refine ad O (aE 1 O dk O O aN)<|ad O (aI O aX) ?_
  refine cT O O O (Hh) ?_
  rintro v L' ⟨s',ps',vM',vO',rfl,rfl,hF',hm'⟩
  refine bx ?_
  refine ar O O<|lc<|rt<|cN O ([ca pr l ps',pt pb (.cells #[.pointer (some ⟨pa,0,none⟩),.pointer (some ⟨po,0,none⟩),.pointer (some ⟨pr,0,none⟩),.pointer (some ⟨bq,0,none⟩),.int .i64 l.key,.int .i64 l.elem,.int .i64 l.ka,.int .i64 l.ea,.int .i64 l.cap,.int .i64 l.eo,.int .i64 l.bo,.int .i64 l.slot,.int .i64 l.group,.int .u64 sdP,vM',vO'] 93 (0,0)),aF 39 11 vM' ps'.length (rowOf (bX pa l) ps'),aF 40 1 vO' ps'.length (bL ps'),bd pr s',aj pa s',pt po (.cells #[.map (some bm)] 192 (0,0)),bG (fun k:ByteArray=>Value.string k) bm (bu os),dv bq os,G]) (.tmp rfl) ?_
  exact⟨s',ps',vM',vO',rfl,rfl,hF',by omega⟩
 refine sr<|ad O (qi O O (bN ·))<|ar O O<|lc<|aG O (fun w3=>?_) fun w3=>?_
 ·refine al<|aY mixed ?_
  apply dq 0 O (yq (ah O))
  apply dq 1 O (yq (aE 1 O dk O O aN))
  apply dq 2 O (yq (aI O aX))
  apply dq 3 O (yq (ah O))
  apply dq 4 O (yq (ae O))
  apply dq 5 O (yq (aE 13 O bY O O jV))
  apply dq 6 O (yq (aI O fV))
  refine ak [0,2,6,1,5,4,3] [] 7 [(85,_),(87,_),(91,_)] gO ⟨rfl,rfl,rfl,trivial⟩ (by kernel_rfl) (by kernel_rfl) fun Ex=>?_
  refine cT O O O (Hp sdP hsP) ?_
  rintro v L' ⟨s',ps',vM',vO',rfl,rfl,hF',hm'⟩
  refine bx ?_
  refine ai ?_
  refine aQ trivial ?_
  refine ak [] [] 8 [(92,_)] gO ⟨rfl,trivial⟩ (by kernel_rfl) (by kernel_rfl) fun Ex=>?_
  refine ar O O<|ai ?_
  refine aQ trivial ?_
  refine aV (by kernel_rfl) ?_
  refine an<|rt<|cN O ([ca pr l ps',pt pb (.cells #[.pointer (some ⟨pa,0,none⟩),.pointer (some ⟨po,0,none⟩),.pointer (some ⟨pr,0,none⟩),.pointer (some ⟨bq,0,none⟩),.int .i64 l.key,.int .i64 l.elem,.int .i64 l.ka,.int .i64 l.ea,.int .i64 l.cap,.int .i64 l.eo,.int .i64 l.bo,.int .i64 l.slot,.int .i64 l.group,.int .u64 sdP,vM',vO'] 93 (0,0)),aF 39 11 vM' ps'.length (rowOf (bX pa l) ps'),aF 40 1 vO' ps'.length (bL ps'),bd pr s',aj pa s',pt po (.cells #[.map (some bm)] 192 (0,0)),bG (fun k:ByteArray=>Value.string k) bm (bu os),dv bq os,G]) (.tmp rfl) ?_
  exact⟨s',ps',vM',vO',rfl,rfl,hF',by omega⟩
 refine sr<|ad O (qi O O (bN ·))<|ar O O<|lc<|aG O (fun w4=>?_) fun w4=>?_
 ·refine al<|aY mixed ?_
  apply dq 0 O (yq (ah O))
  apply dq 1 O (yq (aE 1 O dk O O aN))
  apply dq 2 O (yq (aI O aX))
  apply dq 3 O (yq (ah O))
  apply dq 4 O (yq (ae O))
  apply dq 5 O (yq (aE 13 O bY O O jV))
  apply dq 6 O (yq (aI O fV))
  refine ak [0,2,6,1,5,4,3] [] 7 [(95,_),(97,_),(101,_)] gO ⟨rfl,rfl,rfl,trivial⟩ (by kernel_rfl) (by kernel_rfl) fun Ex=>?_
  refine cT O O O (Ha sdP hsP 1 (.inl rfl)) ?_
  rintro v L' ⟨s',ps',vM',vO',rfl,rfl,hF',hm'⟩
  refine bx ?_
  refine ai ?_
  refine aQ trivial ?_
  refine ak [] [] 8 [(102,_)] gO ⟨rfl,trivial⟩ (by kernel_rfl) (by kernel_rfl) fun Ex=>?_
  refine ar O O<|ai ?_
  refine aQ trivial ?_
  refine aV (by kernel_rfl) ?_
  refine an<|rt<|cN O ([ca pr l ps',pt pb (.cells #[.pointer (some ⟨pa,0,none⟩),.pointer (some ⟨po,0,none⟩),.pointer (some ⟨pr,0,none⟩),.pointer (some ⟨bq,0,none⟩),.int .i64 l.key,.int .i64 l.elem,.int .i64 l.ka,.int .i64 l.ea,.int .i64 l.cap,.int .i64 l.eo,.int .i64 l.bo,.int .i64 l.slot,.int .i64 l.group,.int .u64 sdP,vM',vO'] 93 (0,0)),aF 39 11 vM' ps'.length (rowOf (bX pa l) ps'),aF 40 1 vO' ps'.length (bL ps'),bd pr s',aj pa s',pt po (.cells #[.map (some bm)] 192 (0,0)),bG (fun k:ByteArray=>Value.string k) bm (bu os),dv bq os,G]) (.tmp rfl) ?_
  exact⟨s',ps',vM',vO',rfl,rfl,hF',by omega⟩
 refine sr<|ad O (qi O O (bN ·))<|ar O O<|lc<|aG O (fun w5=>?_) fun w5=>?_
 ·refine al<|aY mixed ?_
  apply dq 0 O (yq (ah O))
  apply dq 1 O (yq (aE 1 O dk O O aN))
  apply dq 2 O (yq (aI O aX))
  apply dq 3 O (yq (ah O))
  apply dq 4 O (yq (ae O))
  apply dq 5 O (yq (aE 13 O bY O O jV))
  apply dq 6 O (yq (aI O fV))
  refine ak [0,2,6,1,5,4,3] [] 7 [(105,_),(107,_),(111,_)] gO ⟨rfl,rfl,rfl,trivial⟩ (by kernel_rfl) (by kernel_rfl) fun Ex=>?_
  refine cT O O O (Ha sdP hsP 2 (.inr rfl)) ?_
  rintro v L' ⟨s',ps',vM',vO',rfl,rfl,hF',hm'⟩
  refine bx ?_
  refine ai ?_
  refine aQ trivial ?_
  refine ak [] [] 8 [(112,_)] gO ⟨rfl,trivial⟩ (by kernel_rfl) (by kernel_rfl) fun Ex=>?_
  refine ar O O<|ai ?_
  refine aQ trivial ?_
  refine aV (by kernel_rfl) ?_
  refine an<|rt<|cN O ([ca pr l ps',pt pb (.cells #[.pointer (some ⟨pa,0,none⟩),.pointer (some ⟨po,0,none⟩),.pointer (some ⟨pr,0,none⟩),.pointer (some ⟨bq,0,none⟩),.int .i64 l.key,.int .i64 l.elem,.int .i64 l.ka,.int .i64 l.ea,.int .i64 l.cap,.int .i64 l.eo,.int .i64 l.bo,.int .i64 l.slot,.int .i64 l.group,.int .u64 sdP,vM',vO'] 93 (0,0)),aF 39 11 vM' ps'.length (rowOf (bX pa l) ps'),aF 40 1 vO' ps'.length (bL ps'),bd pr s',aj pa s',pt po (.cells #[.map (some bm)] 192 (0,0)),bG (fun k:ByteArray=>Value.string k) bm (bu os),dv bq os,G]) (.tmp rfl) ?_
  exact⟨s',ps',vM',vO',rfl,rfl,hF',by omega⟩
 refine sr<|ad O (qi O O (bN ·))<|ar O O<|lc<|aG O (fun w6=>?_) fun w6=>?_
 ·refine al<|aY mixed ?_
  apply dq 0 O (yq (ah O))
  apply dq 1 O (yq (aE 1 O dk O O aN))
  apply dq 2 O (yq (aI O aX))
  apply dq 3 O (yq (ah O))
  apply dq 4 O (yq (ae O))
  apply dq 5 O (yq (aE 13 O bY O O jV))
  apply dq 6 O (yq (aI O fV))
  refine ak [0,2,6,1,5,4,3] [] 7 [(115,_),(117,_),(121,_)] gO ⟨rfl,rfl,rfl,trivial⟩ (by kernel_rfl) (by kernel_rfl) fun Ex=>?_
  refine cT O O O (Hs sdP hsP) ?_
  rintro v L' ⟨s',ps',vM',vO',rfl,rfl,hF',hm'⟩
  refine bx ?_
  refine ai ?_
  refine aQ trivial ?_
  refine ak [] [] 8 [(122,_)] gO ⟨rfl,trivial⟩ (by kernel_rfl) (by kernel_rfl) fun Ex=>?_
  refine ar O O<|ai ?_
  refine aQ trivial ?_
  refine aV (by kernel_rfl) ?_
  refine an<|rt<|cN O ([ca pr l ps',pt pb (.cells #[.pointer (some ⟨pa,0,none⟩),.pointer (some ⟨po,0,none⟩),.pointer (some ⟨pr,0,none⟩),.pointer (some ⟨bq,0,none⟩),.int .i64 l.key,.int .i64 l.elem,.int .i64 l.ka,.int .i64 l.ea,.int .i64 l.cap,.int .i64 l.eo,.int .i64 l.bo,.int .i64 l.slot,.int .i64 l.group,.int .u64 sdP,vM',vO'] 93 (0,0)),aF 39 11 vM' ps'.length (rowOf (bX pa l) ps'),aF 40 1 vO' ps'.length (bL ps'),bd pr s',aj pa s',pt po (.cells #[.map (some bm)] 192 (0,0)),bG (fun k:ByteArray=>Value.string k) bm (bu os),dv bq os,G]) (.tmp rfl) ?_
  exact⟨s',ps',vM',vO',rfl,rfl,hF',by omega⟩
 refine sr<|ad O (qi O O (bN ·))<|ar O O<|lc<|aG O (fun w10=>?_) fun w10=>?_
 ·refine al<|sr<|ad O (aE 3 O dk O O aN)<|ad O (aI O aX) ?_
  refine lc<|aB<|sr<|ad O (qi O O (bN ·))<|ar O O<|lc<|aG O (fun m0=>?_) fun m0=>?_
  ·refine sr<|mv O O<|ad O (aE 1 O dk O O aN)<|ad O (aI O aX) ?_
   refine ad O (aE 2 O dk O O aN)<|ad O (aI O aX) ?_
   refine ad O (km O j5 fv) ?_
   refine cT O O O (Hp (IntKind.u64.wrap n) hnb) ?_
   rintro v L' ⟨s',ps',vM',vO',rfl,rfl,hF',hm'⟩
   refine bx ?_
   refine ar O O<|lc<|rt<|cN O ([ca pr l ps',pt pb (.cells #[.pointer (some ⟨pa,0,none⟩),.pointer (some ⟨po,0,none⟩),.pointer (some ⟨pr,0,none⟩),.pointer (some ⟨bq,0,none⟩),.int .i64 l.key,.int .i64 l.elem,.int .i64 l.ka,.int .i64 l.ea,.int .i64 l.cap,.int .i64 l.eo,.int .i64 l.bo,.int .i64 l.slot,.int .i64 l.group,.int .u64 sdP,vM',vO'] 93 (0,0)),aF 39 11 vM' ps'.length (rowOf (bX pa l) ps'),aF 40 1 vO' ps'.length (bL ps'),bd pr s',aj pa s',pt po (.cells #[.map (some bm)] 192 (0,0)),bG (fun k:ByteArray=>Value.string k) bm (bu os),dv bq os,G]) (.tmp rfl) ?_
   exact⟨s',ps',vM',vO',rfl,rfl,hF',by omega⟩
  refine sr<|ad O (qi O O (bN ·))<|ar O O<|lc<|aG O (fun m1=>?_) fun m1=>?_
  ·refine sr<|mv O O<|ad O (aE 1 O dk O O aN)<|ad O (aI O aX) ?_
   refine ad O (aE 2 O dk O O aN)<|ad O (aI O aX) ?_
   refine ad O (km O j5 fv) ?_
   refine cT O O O (Ha (IntKind.u64.wrap n) hnb 1 (.inl rfl)) ?_
   rintro v L' ⟨s',ps',vM',vO',rfl,rfl,hF',hm'⟩
   refine bx ?_
   refine ar O O<|lc<|rt<|cN O ([ca pr l ps',pt pb (.cells #[.pointer (some ⟨pa,0,none⟩),.pointer (some ⟨po,0,none⟩),.pointer (some ⟨pr,0,none⟩),.pointer (some ⟨bq,0,none⟩),.int .i64 l.key,.int .i64 l.elem,.int .i64 l.ka,.int .i64 l.ea,.int .i64 l.cap,.int .i64 l.eo,.int .i64 l.bo,.int .i64 l.slot,.int .i64 l.group,.int .u64 sdP,vM',vO'] 93 (0,0)),aF 39 11 vM' ps'.length (rowOf (bX pa l) ps'),aF 40 1 vO' ps'.length (bL ps'),bd pr s',aj pa s',pt po (.cells #[.map (some bm)] 192 (0,0)),bG (fun k:ByteArray=>Value.string k) bm (bu os),dv bq os,G]) (.tmp rfl) ?_
   exact⟨s',ps',vM',vO',rfl,rfl,hF',by omega⟩
  refine aq<|bz<|nz<|mv O O<|ad O (aE 1 O dk O O aN)<|ad O (aI O aX) ?_
  refine ad O (aE 2 O dk O O aN)<|ad O (aI O aX) ?_
  refine ad O (km O j5 fv) ?_
  refine cT O O O (Hs (IntKind.u64.wrap n) hnb) ?_
  rintro v L' ⟨s',ps',vM',vO',rfl,rfl,hF',hm'⟩
  refine bx ?_
  refine ar O O<|lc<|rt<|cN O ([ca pr l ps',pt pb (.cells #[.pointer (some ⟨pa,0,none⟩),.pointer (some ⟨po,0,none⟩),.pointer (some ⟨pr,0,none⟩),.pointer (some ⟨bq,0,none⟩),.int .i64 l.key,.int .i64 l.elem,.int .i64 l.ka,.int .i64 l.ea,.int .i64 l.cap,.int .i64 l.eo,.int .i64 l.bo,.int .i64 l.slot,.int .i64 l.group,.int .u64 sdP,vM',vO'] 93 (0,0)),aF 39 11 vM' ps'.length (rowOf (bX pa l) ps'),aF 40 1 vO' ps'.length (bL ps'),bd pr s',aj pa s',pt po (.cells #[.map (some bm)] 192 (0,0)),bG (fun k:ByteArray=>Value.string k) bm (bu os),dv bq os,G]) (.tmp rfl) ?_
  exact⟨s',ps',vM',vO',rfl,rfl,hF',by omega⟩
 refine aq<|bz<|nz<|ar O O<|lc<|rt<|cN O ([ca pr l ps,pt pb (.cells #[.pointer (some ⟨pa,0,none⟩),.pointer (some ⟨po,0,none⟩),.pointer (some ⟨pr,0,none⟩),.pointer (some ⟨bq,0,none⟩),.int .i64 l.key,.int .i64 l.elem,.int .i64 l.ka,.int .i64 l.ea,.int .i64 l.cap,.int .i64 l.eo,.int .i64 l.bo,.int .i64 l.slot,.int .i64 l.group,.int .u64 sdP,vM,(.slice (some ⟨g1,0,none⟩) ps.length cap1)] 93 (0,0)),aF 39 11 vM ps.length (rowOf (bX pa l) ps),aF 40 1 (.slice (some ⟨g1,0,none⟩) ps.length cap1) ps.length (bL ps),bd pr s,aj pa s,pt po (.cells #[.map (some bm)] 192 (0,0)),bG (fun k:ByteArray=>Value.string k) bm (bu os),dv bq os,G]) (.tmp rfl) ?_
 exact⟨s,ps,vM,_,rfl,rfl,hF,by omega⟩
end
end Plays
end Go.Proofs.YthkajgkagnenbaaGreatDoor
