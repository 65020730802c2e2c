/- larderlaw09's plays. -/
import Derived.Test.YthkajgkagnenbaaGreatDoorGpO
set_option linter.unusedVariables false
set_option linter.unusedSimpArgs false
set_option linter.unusedSectionVars false
set_option maxRecDepth 100000
namespace Go.Proofs.YthkajgkagnenbaaGreatDoor
namespace Plays
open Go.RowKit Go.Proofs Eng Ty Arena CtrlB Ctrl Layout GroupB TableB Bench Refill Oracle Exact RefA RefT Ref04
structure yo where
 kind:Int
 which:Int
 n:Int
 m:Int
 key:ByteArray
 elem:ByteArray
structure yo.wf (o:yo):Prop where
 kind:-9223372036854775808<=o.kind/\o.kind<=9223372036854775807
 which:-9223372036854775808<=o.which/\o.which<=9223372036854775807
 n:-9223372036854775808<=o.n/\o.n<=9223372036854775807
 m:-9223372036854775808<=o.m/\o.m<=9223372036854775807
 key:o.key.size<=140737488351232
theorem yU (l:Lay) (x:PR) (hn:x.n=2 ^ x.e) (h:Int) (key elem:ByteArray) (birth:Int):(ko l x h key elem birth).2.2.depth=x.T.depth:=by
 have hn0:0 < x.n:=by rw[hn];exact Nat.two_pow_pos _
 unfold ko
 repeat' split
 all_goals first | rfl | exact(rJ (wv (T:=x.T) (h:=h) (key:=key) hn0 (fun g hg=>iS hn hg) elem birth)).depth
theorem zw {n:Nat} {T T':Tb} {h:Int} {key:ByteArray} {b:Bool} (hr:Ae n T h key (b,T')):T'.depth=T.depth:=by cases hr <;> rfl
theorem zx (l:Lay) (x:PR) (hn:x.n=2 ^ x.e) (h:Int) (key:ByteArray):(mr l x h key).2.2.depth=x.T.depth:=by
 have hn0:0 < x.n:=by rw[hn];exact Nat.two_pow_pos _
 unfold mr
 repeat' split
 all_goals first | rfl | exact zw (I4 (T:=x.T) (h:=h) (key:=key) hn0)
theorem wM (x:PR) (v:Int):(iL x v).2.depth=x.T.depth:=by unfold iL;(repeat' split) <;> rfl
theorem yV (x:PR) (v:Int):(jG x v).2.2.depth=x.T.depth:=by unfold jG;(repeat' split) <;> rfl
theorem sG (x:PR) (v:Int):(fT x v).2.depth=x.T.depth:=by unfold fT;(repeat' split) <;> rfl
section
variable (G:HP) (hG:dR G) (hGO:fR G) (pb pa po pr bq bm:Nat) (os:List (ByteArray×Int)) (hgo:ix os) (hos:∀ o∈os,0<=o.2/\o.2 < 18446744073709551616) (l:Lay) (hl:l.err=0) (sdP:Int) (hsP:0<=sdP/\sdP < 18446744073709551616) (s:ArS) (hs:s.ok) (ps:List PR) (vM vO:Value) (k:Nat) (x:PR) (hx:ps[k]?=some x) (hF:Full s l ps) (hO:One s l x) (hov:x.over=false) (o:yo) (hw:o.wf)
include hG hGO hgo hos hl hsP hs hx hF hO hov hw
theorem DF:aK Tryz.prog 60 #[.pointer (some ⟨pb,0,none⟩),.agg #[.int .i64 o.kind,.int .i64 o.which,.int .i64 o.n,.int .i64 o.m,.string o.key,.string o.elem],.int .i64 (k:Nat)] [ca pr l ps,pt pb (.cells #[.pointer (some ⟨pa,0,none⟩),.pointer (some ⟨po,0,none⟩),.pointer (some ⟨pr,0,none⟩),.pointer (some ⟨bq,0,none⟩),.int .i64 l.key,.int .i64 l.elem,.int .i64 l.ka,.int .i64 l.ea,.int .i64 l.cap,.int .i64 l.eo,.int .i64 l.bo,.int .i64 l.slot,.int .i64 l.group,.int .u64 sdP,vM,vO] 93 (0,0)),aF 39 11 vM ps.length (rowOf (bX pa l) ps),aF 40 1 vO ps.length (bL ps),bd pr s,aj pa s,pt po (.cells #[.map (some bm)] 192 (0,0)),bG (fun k:ByteArray=>Value.string k) bm (bu os),dv bq os,G] (fun v L=>∃ s' ps' vM' vO',v=.bool true/\L= [ca pr l ps',pt pb (.cells #[.pointer (some ⟨pa,0,none⟩),.pointer (some ⟨po,0,none⟩),.pointer (some ⟨pr,0,none⟩),.pointer (some ⟨bq,0,none⟩),.int .i64 l.key,.int .i64 l.elem,.int .i64 l.ka,.int .i64 l.ea,.int .i64 l.cap,.int .i64 l.eo,.int .i64 l.bo,.int .i64 l.slot,.int .i64 l.group,.int .u64 sdP,vM',vO'] 93 (0,0)),aF 39 11 vM' ps'.length (rowOf (bX pa l) ps'),aF 40 1 vO' ps'.length (bL ps'),bd pr s',aj pa s',pt po (.cells #[.map (some bm)] 192 (0,0)),bG (fun k:ByteArray=>Value.string k) bm (bu os),dv bq os,G]/\Full s' l ps'/\cY ps'<=cY ps+2):=by
 have hk:k < ps.length:=(List.getElem?_eq_some_iff.1 hx).1
 have hptr:=gb hx
 obtain⟨hn0,hn8⟩:=One.nn hO
 have hhb:=ib (fE hos) sdP o.key
 refine au J9 Tryz.func60 rfl rfl rfl fun Fr w0=>aZ ?_
 refine gj hx .here ?_
 refine bU (.there (.there (.there .here))) fun _ hvm=>?_
 obtain⟨a0,cap,rfl,ha,_,_⟩:=hvm
 obtain⟨g0,rfl⟩:=ha (by omega)
 refine bU (.there (.there (.there (.there .here)))) fun _ hvo=>?_
 obtain⟨a1,cap1,rfl,ha1,_,_⟩:=hvo
 obtain⟨g1,rfl⟩:=ha1 (by omega)
 refine sr<|bw O O fun b4=>ar O O<|lz<|mv O O<|ad O (ae O)<|ad O (aE 14 O bY O O gC)<|ad O (aI O gX) ?_
 refine mv O O<|ad O (aL O O gW aM (by omega)) ?_
 apply ad O
 ·apply cg (A:=aF 39 11 (.slice (some ⟨g0,0,none⟩) ps.length cap) ps.length (rowOf (bX pa l) ps)) (us:=[.pointer (some ⟨pa,0,none⟩),.int .i64 l.key,.int .i64 l.elem,.int .i64 l.ka,.int .i64 l.ea,.int .i64 l.cap,.int .i64 l.eo,.int .i64 l.bo,.int .i64 l.slot,.int .i64 l.group,.int .i64 (x.off:Nat)]) rfl bA aM rfl
  ·exact tk
  exact cK hx _ _ _
 refine ay O cM fun b7=>bZ O O O aM O O ?_
 refine lz<|mv O O<|ad O (ae O)<|ad O (aE 15 O bY O O jD)<|ad O (aI O ke) ?_
 refine mv O O<|ad O (az O O j7 lu (by omega)) ?_
 apply ad O
 ·apply aT O mn
  ·exact tk
  exact hptr
 refine ar O O<|lc<|al<|sr<|ad O (aE 0 O dk O O aN)<|ad O (aI O aX) ?_
 refine lc<|aB<|sr<|ad O (qi O O (bN ·))<|ar O O<|lc<|aG O (fun k1=>?_) fun k1=>?_
 ·refine al<|aY mixed ?_
  apply dq 0 O (yq (aO O bA aM))
  apply dq 1 O (yq (ah O))
  apply dq 2 O (yq (ae O))
  apply dq 3 O (yq (aE 1 O bY O O jE))
  apply dq 4 O (yq (aI O ij))
  apply dq 5 O (yq (ah O))
  apply dq 6 O (yq (ae O))
  apply dq 7 O (yq (aE 13 O bY O O jV))
  apply dq 8 O (yq (aI O fV))
  apply dq 9 O (yq (aE 4 O dk O O fA))
  apply dq 10 O (yq (aI O fS))
  apply dq 12 O (yq (aE 4 O dk O O fA))
  apply dq 13 O (yq (aI O fS))
  apply dq 14 O (yq (aE 5 O dk O O fA))
  apply dq 15 O (yq (aI O fS))
  apply dq 16 O (yq (aE 2 O dk O O aN))
  apply dq 17 O (yq (aI O aX))
  refine ak [4,8,10,3,7,9,2,6,1,5] [17,16,15,14,13,12,0] 11 [(44,_),(48,_),(50,_)] gO ⟨rfl,rfl,rfl,trivial⟩ (by kernel_rfl) (by kernel_rfl) fun Ex=>?_
  refine bF O O O (mj G hGO po bm (bu os) (fE hos) sdP hsP o.key hw.key) ?_
  refine ai ?_
  refine aQ ⟨ya O O (yq (aI O aX)),ya O O (yq (aE 2 O dk O O aN)),ya O O (yq (aI O fS)),ya O O (yq (aE 5 O dk O O fA)),ya O O (yq (aI O fS)),ya O O (yq (aE 4 O dk O O fA)),ya O O (yq (aO O bA aM)),trivial⟩ ?_
  refine ak [0,13,15,17,12,14,16] [] 18 [(40,_),(51,_),(53,_),(55,_),(57,_)] gO ⟨rfl,rfl,rfl,rfl,rfl,trivial⟩ (by kernel_rfl) (by kernel_rfl) fun Ex=>?_
  refine cT O O O (Kt G hG pa s hs l hl x hO hov _ hhb o.key o.elem o.n (by have:=hw.n;omega)) ?_
  rintro v L' ⟨s',rfl,rfl,hSt⟩
  refine bx ?_
  refine ai ?_
  refine aQ trivial ?_
  apply dq 19 O (yq (ah O))
  apply dq 20 O (yq (aa O ga))
  apply dq 21 O (yq (aa O ga))
  refine ak [20,19] [21] 22 [(59,_)] gO ⟨rfl,trivial⟩ (by kernel_rfl) (by kernel_rfl) fun Ex=>?_
  refine ar O O<|ai ?_
  refine aQ ⟨ya O O (yq (aa O ga)),trivial⟩ ?_
  refine ak [21] [] 23 [(60,_)] gO ⟨rfl,trivial⟩ (by kernel_rfl) (by kernel_rfl) fun Ex=>?_
  refine ar O O<|ai ?_
  refine aQ trivial ?_
  refine aV (by kernel_rfl) ?_
  refine an<|al<|aY mixed ?_
  apply dq 0 O (yq (ah O))
  apply dq 1 O (yq (ah O))
  apply dq 2 O (yq (ae O))
  apply dq 3 O (yq (aE 3 O bY O O tG))
  apply dq 4 O (yq (aI O tJ))
  apply dq 5 O (yq (ah O))
  apply dq 6 O (yq (ae O))
  apply dq 7 O (yq (aE 13 O bY O O jV))
  apply dq 8 O (yq (aI O fV))
  apply dq 9 O (yq (aE 4 O dk O O fA))
  apply dq 10 O (yq (aI O fS))
  apply dq 12 O (yq (aE 4 O dk O O fA))
  apply dq 13 O (yq (aI O fS))
  apply dq 14 O (yq (aE 5 O dk O O fA))
  apply dq 15 O (yq (aI O fS))
  apply dq 16 O (yq (aE 2 O dk O O aN))
  apply dq 17 O (yq (aI O aX))
  refine ak [4,8,10,3,7,9,2,6,1,5] [17,16,15,14,13,12,0] 11 [(66,_),(70,_),(72,_)] gO ⟨rfl,rfl,rfl,trivial⟩ (by kernel_rfl) (by kernel_rfl) fun Ex=>?_
  refine bF O O O (lP bq os hgo sdP hsP o.key hw.key) ?_
  refine ai ?_
  refine aQ ⟨ya O O (yq (aI O aX)),ya O O (yq (aE 2 O dk O O aN)),ya O O (yq (aI O fS)),ya O O (yq (aE 5 O dk O O fA)),ya O O (yq (aI O fS)),ya O O (yq (aE 4 O dk O O fA)),ya O O (yq (ah O)),trivial⟩ ?_
  refine ak [0,13,15,17,12,14,16] [] 18 [(62,_),(73,_),(75,_),(77,_),(79,_)] gO ⟨rfl,rfl,rfl,rfl,rfl,trivial⟩ (by kernel_rfl) (by kernel_rfl) fun Ex=>?_
  refine bF O O O (o4 pr l x hn8 hO.rng hn0 _ hhb o.key o.elem o.n) ?_
  refine ai ?_
  refine aQ trivial ?_
  apply dq 19 O (yq (ah O))
  apply dq 20 O (yq (aa O ga))
  apply dq 21 O (yq (aa O ga))
  refine ak [20,19] [21] 22 [(81,_)] gO ⟨rfl,trivial⟩ (by kernel_rfl) (by kernel_rfl) fun Ex=>?_
  refine ar O O<|ai ?_
  refine aQ ⟨ya O O (yq (aa O ga)),trivial⟩ ?_
  refine ak [21] [] 23 [(82,_)] gO ⟨rfl,trivial⟩ (by kernel_rfl) (by kernel_rfl) fun Ex=>?_
  refine ar O O<|ai ?_
  refine aQ trivial ?_
  refine aV (by kernel_rfl) ?_
  refine nz<|mv O O<|mv O O<|ad O (qi O O (bN ·))<|mv O O<|bQ (t:=86) rfl (fun z1=>?_) fun z1=>?_
  ·refine aA O O<|mv O O<|aA O O<|mv O O<|aA O O<|ad O (qi O O (bN ·))<|ad O (aS O O)<|ar O O<|lc<|rt ?_
   have hdp:=yU l x hO.hn (br (bu os) sdP o.key) o.key o.elem o.n
   obtain⟨T',hT'⟩:∃ T',T'=(ko l x (br (bu os) sdP o.key) o.key o.elem o.n).2.2:=⟨_,rfl⟩
   rw[<- hT'] at hdp hSt ⊢
   have hF2:=hF.step hs hx hSt hdp
   have hra:bd pr s'=bd pr s:=by obtain⟨a,b,c⟩:=hSt.arena;exact ff a b c
   have e2:=ik (pa:=pa) (l:=l) (x':={x with T:=T'}) hx rfl
   have e3:=fZ (x':={x with T:=T'}) hx rfl
   have hmd:cY (ps.set k {x with T:=T'})=cY ps:=by unfold cY;rw[List.length_set,ic (x':={x with T:=T'}) hx rfl]
   apply aR (.inl rfl) ([ca pr l (ps.set k {x with T:=T'}),pt pb (.cells #[.pointer (some ⟨pa,0,none⟩),.pointer (some ⟨po,0,none⟩),.pointer (some ⟨pr,0,none⟩),.pointer (some ⟨bq,0,none⟩),.int .i64 l.key,.int .i64 l.elem,.int .i64 l.ka,.int .i64 l.ea,.int .i64 l.cap,.int .i64 l.eo,.int .i64 l.bo,.int .i64 l.slot,.int .i64 l.group,.int .u64 sdP,(.slice (some ⟨g0,0,none⟩) ps.length cap),(.slice (some ⟨g1,0,none⟩) ps.length cap1)] 93 (0,0)),aF 39 11 (.slice (some ⟨g0,0,none⟩) ps.length cap) ps.length (rowOf (bX pa l) ps),aF 40 1 (.slice (some ⟨g1,0,none⟩) ps.length cap1) ps.length (bL ps),bd pr s,aj pa s',pt po (.cells #[.map (some bm)] 192 (0,0)),bG (fun k:ByteArray=>Value.string k) bm (bu os),dv bq os,G])
   ·apply cP O
    exact .tmp rfl
   ·exact⟨s',ps.set k {x with T:=T'},_,_,by rw[qY rfl],by rw[List.length_set,e2,e3,hra],hF2,by omega⟩
   refine jg hk ?_;(exact en)
  exact absurd rfl z1
 refine sr<|ad O (qi O O (bN ·))<|ar O O<|lc<|aG O (fun k2=>?_) fun k2=>?_
 ·refine al<|aY mixed ?_
  apply dq 0 O (yq (aO O bA aM))
  apply dq 1 O (yq (ah O))
  apply dq 2 O (yq (ae O))
  apply dq 3 O (yq (aE 1 O bY O O jE))
  apply dq 4 O (yq (aI O ij))
  apply dq 5 O (yq (ah O))
  apply dq 6 O (yq (ae O))
  apply dq 7 O (yq (aE 13 O bY O O jV))
  apply dq 8 O (yq (aI O fV))
  apply dq 9 O (yq (aE 4 O dk O O fA))
  apply dq 10 O (yq (aI O fS))
  apply dq 12 O (yq (aE 4 O dk O O fA))
  apply dq 13 O (yq (aI O fS))
  refine ak [4,8,10,3,7,9,2,6,1,5] [13,12,0] 11 [(98,_),(102,_),(104,_)] gO ⟨rfl,rfl,rfl,trivial⟩ (by kernel_rfl) (by kernel_rfl) fun Ex=>?_
  refine bF O O O (mj G hGO po bm (bu os) (fE hos) sdP hsP o.key hw.key) ?_
  refine ai ?_
  refine aQ ⟨ya O O (yq (aI O fS)),ya O O (yq (aE 4 O dk O O fA)),ya O O (yq (aO O bA aM)),trivial⟩ ?_
  refine ak [0,13,12] [] 14 [(94,_),(105,_),(107,_)] gO ⟨rfl,rfl,rfl,trivial⟩ (by kernel_rfl) (by kernel_rfl) fun Ex=>?_
  refine cT O O O (Kx G hG pa s hs l hl x hO hov _ hhb o.key) ?_
  rintro v L' ⟨s',rfl,rfl,hSt⟩
  refine bx ?_
  refine ai ?_
  refine aQ trivial ?_
  apply dq 15 O (yq (ah O))
  apply dq 16 O (yq (aa O ga))
  apply dq 17 O (yq (aa O ga))
  refine ak [16,15] [17] 18 [(109,_)] gO ⟨rfl,trivial⟩ (by kernel_rfl) (by kernel_rfl) fun Ex=>?_
  refine ar O O<|ai ?_
  refine aQ ⟨ya O O (yq (aa O ga)),trivial⟩ ?_
  refine ak [17] [] 19 [(110,_)] gO ⟨rfl,trivial⟩ (by kernel_rfl) (by kernel_rfl) fun Ex=>?_
  refine ar O O<|ai ?_
  refine aQ trivial ?_
  refine aV (by kernel_rfl) ?_
  refine an<|al<|aY mixed ?_
  apply dq 0 O (yq (ah O))
  apply dq 1 O (yq (ah O))
  apply dq 2 O (yq (ae O))
  apply dq 3 O (yq (aE 3 O bY O O tG))
  apply dq 4 O (yq (aI O tJ))
  apply dq 5 O (yq (ah O))
  apply dq 6 O (yq (ae O))
  apply dq 7 O (yq (aE 13 O bY O O jV))
  apply dq 8 O (yq (aI O fV))
  apply dq 9 O (yq (aE 4 O dk O O fA))
  apply dq 10 O (yq (aI O fS))
  apply dq 12 O (yq (aE 4 O dk O O fA))
  apply dq 13 O (yq (aI O fS))
  refine ak [4,8,10,3,7,9,2,6,1,5] [13,12,0] 11 [(116,_),(120,_),(122,_)] gO ⟨rfl,rfl,rfl,trivial⟩ (by kernel_rfl) (by kernel_rfl) fun Ex=>?_
  refine bF O O O (lP bq os hgo sdP hsP o.key hw.key) ?_
  refine ai ?_
  refine aQ ⟨ya O O (yq (aI O fS)),ya O O (yq (aE 4 O dk O O fA)),ya O O (yq (ah O)),trivial⟩ ?_
  refine ak [0,13,12] [] 14 [(112,_),(123,_),(125,_)] gO ⟨rfl,rfl,rfl,trivial⟩ (by kernel_rfl) (by kernel_rfl) fun Ex=>?_
  refine bF O O O (D8 pr l x hn8 hO.rng hn0 _ hhb o.key) ?_
  refine ai ?_
  refine aQ trivial ?_
  apply dq 15 O (yq (ah O))
  apply dq 16 O (yq (aa O ga))
  apply dq 17 O (yq (aa O ga))
  refine ak [16,15] [17] 18 [(127,_)] gO ⟨rfl,trivial⟩ (by kernel_rfl) (by kernel_rfl) fun Ex=>?_
  refine ar O O<|ai ?_
  refine aQ ⟨ya O O (yq (aa O ga)),trivial⟩ ?_
  refine ak [17] [] 19 [(128,_)] gO ⟨rfl,trivial⟩ (by kernel_rfl) (by kernel_rfl) fun Ex=>?_
  refine ar O O<|ai ?_
  refine aQ trivial ?_
  refine aV (by kernel_rfl) ?_
  refine nz<|mv O O<|mv O O<|ad O (qb O O (F8 · KJ))<|mv O O<|bQ (t:=132) rfl (fun z1=>?_) fun z1=>?_
  ·refine aA O O<|mv O O<|aA O O<|mv O O<|aA O O<|ad O (qi O O (bN ·))<|ad O (aS O O)<|ar O O<|lc<|rt ?_
   have hdp:=zx l x hO.hn (br (bu os) sdP o.key) o.key
   obtain⟨T',hT'⟩:∃ T',T'=(mr l x (br (bu os) sdP o.key) o.key).2.2:=⟨_,rfl⟩
   rw[<- hT'] at hdp hSt ⊢
   have hF2:=hF.step hs hx hSt hdp
   have hra:bd pr s'=bd pr s:=by obtain⟨a,b,c⟩:=hSt.arena;exact ff a b c
   have e2:=ik (pa:=pa) (l:=l) (x':={x with T:=T'}) hx rfl
   have e3:=fZ (x':={x with T:=T'}) hx rfl
   have hmd:cY (ps.set k {x with T:=T'})=cY ps:=by unfold cY;rw[List.length_set,ic (x':={x with T:=T'}) hx rfl]
   apply aR (.inl rfl) ([ca pr l (ps.set k {x with T:=T'}),pt pb (.cells #[.pointer (some ⟨pa,0,none⟩),.pointer (some ⟨po,0,none⟩),.pointer (some ⟨pr,0,none⟩),.pointer (some ⟨bq,0,none⟩),.int .i64 l.key,.int .i64 l.elem,.int .i64 l.ka,.int .i64 l.ea,.int .i64 l.cap,.int .i64 l.eo,.int .i64 l.bo,.int .i64 l.slot,.int .i64 l.group,.int .u64 sdP,(.slice (some ⟨g0,0,none⟩) ps.length cap),(.slice (some ⟨g1,0,none⟩) ps.length cap1)] 93 (0,0)),aF 39 11 (.slice (some ⟨g0,0,none⟩) ps.length cap) ps.length (rowOf (bX pa l) ps),aF 40 1 (.slice (some ⟨g1,0,none⟩) ps.length cap1) ps.length (bL ps),bd pr s,aj pa s',pt po (.cells #[.map (some bm)] 192 (0,0)),bG (fun k:ByteArray=>Value.string k) bm (bu os),dv bq os,G])
   ·apply cP O
    exact .tmp rfl
   ·exact⟨s',ps.set k {x with T:=T'},_,_,by rw[qY rfl],by rw[List.length_set,e2,e3,hra],hF2,by omega⟩
   refine jg hk ?_;(exact en)
  exact absurd rfl z1
 refine sr<|ad O (qi O O (bN ·))<|ar O O<|lc<|aG O (fun k3=>?_) fun k3=>?_
 ·skip
  have hlv:x.dead=false->x.off≠x.go/\(∃ c,(((x.off:Nat):Int),c)∈s.bl)/\∃ c,(((x.go:Nat):Int),c)∈s.bl:=fun hd=>by
   obtain⟨h1,h2,h3,h4⟩:=hO.live hd
   have hdj:=h1.dj
   have hg8:=(eK hl).g_eq
   have:=Nat.mul_le_mul_right (gN l) hn0
   exact⟨by omega,⟨_,h2⟩,⟨_,h3⟩⟩
  refine sr<|ad O (aO O bA aM) ?_
  refine cT O O O (Gh G hG pa s hs l hl x hO hov) ?_
  rintro v L' ⟨rfl,(⟨hd,rfl⟩ | ⟨hd,rfl⟩)⟩
  refine bx ?_
  ·skip
   refine bx ?_
   refine mv O O<|cT O O O (oh pr l x hn8 hO.rng s hs hlv) ?_
   rintro v L' ⟨rfl,(⟨_,rfl⟩ | ⟨hd2,rfl⟩)⟩
   refine bx ?_
   ·skip
    refine bx ?_
    refine ad O (qi O O (bN ·))<|ar O O<|lc<|rt ?_
    apply aR (.inl rfl) ([ca pr l ps,pt pb (.cells #[.pointer (some ⟨pa,0,none⟩),.pointer (some ⟨po,0,none⟩),.pointer (some ⟨pr,0,none⟩),.pointer (some ⟨bq,0,none⟩),.int .i64 l.key,.int .i64 l.elem,.int .i64 l.ka,.int .i64 l.ea,.int .i64 l.cap,.int .i64 l.eo,.int .i64 l.bo,.int .i64 l.slot,.int .i64 l.group,.int .u64 sdP,(.slice (some ⟨g0,0,none⟩) ps.length cap),(.slice (some ⟨g1,0,none⟩) ps.length cap1)] 93 (0,0)),aF 39 11 (.slice (some ⟨g0,0,none⟩) ps.length cap) ps.length (rowOf (bX pa l) ps),aF 40 1 (.slice (some ⟨g1,0,none⟩) ps.length cap1) ps.length (bL ps),bd pr s,aj pa s,pt po (.cells #[.map (some bm)] 192 (0,0)),bG (fun k:ByteArray=>Value.string k) bm (bu os),dv bq os,G])
    ·apply cP O
     exact .tmp rfl
    ·exact⟨s,ps,_,_,by rw[qY rfl],rfl,hF,by omega⟩
    refine eM hx ?_;(exact en)
   exact absurd (hd.symm.trans hd2) (by decide)
  refine bx ?_
  refine mv O O<|cT O O O (oh pr l x hn8 hO.rng s hs hlv) ?_
  rintro v L' ⟨rfl,(⟨hd2,rfl⟩ | ⟨_,rfl⟩)⟩
  refine bx ?_
  ·exact absurd (hd.symm.trans hd2) (by decide)
  have hF2:=hF.free hs hx hd
  have e2:=ik (pa:=pa) (l:=l) (x':={x with dead:=true}) hx rfl
  have e3:=fZ (x':={x with dead:=true}) hx rfl
  have hmd:cY (ps.set k {x with dead:=true})<=cY ps+2:=by unfold cY;have:=zy ps k {x with dead:=true};rw[List.length_set];omega
  refine bx ?_
  refine ad O (qi O O (bN ·))<|ar O O<|lc<|rt ?_
  apply aR (.inl rfl) ([ca pr l (ps.set k {x with dead:=true}),pt pb (.cells #[.pointer (some ⟨pa,0,none⟩),.pointer (some ⟨po,0,none⟩),.pointer (some ⟨pr,0,none⟩),.pointer (some ⟨bq,0,none⟩),.int .i64 l.key,.int .i64 l.elem,.int .i64 l.ka,.int .i64 l.ea,.int .i64 l.cap,.int .i64 l.eo,.int .i64 l.bo,.int .i64 l.slot,.int .i64 l.group,.int .u64 sdP,(.slice (some ⟨g0,0,none⟩) ps.length cap),(.slice (some ⟨g1,0,none⟩) ps.length cap1)] 93 (0,0)),aF 39 11 (.slice (some ⟨g0,0,none⟩) ps.length cap) ps.length (rowOf (bX pa l) ps),aF 40 1 (.slice (some ⟨g1,0,none⟩) ps.length cap1) ps.length (bL ps),bd pr (s.gives [((x.off:Nat):Int),((x.go:Nat):Int)]),aj pa (s.gives [((x.off:Nat):Int),((x.go:Nat):Int)]),pt po (.cells #[.map (some bm)] 192 (0,0)),bG (fun k:ByteArray=>Value.string k) bm (bu os),dv bq os,G])
  ·apply cP O
   exact .tmp rfl
  ·exact⟨_,ps.set k {x with dead:=true},_,_,by rw[qY rfl],by rw[List.length_set,e2,e3],hF2,hmd⟩
  refine jg hk ?_;(exact en)
 refine sr<|ad O (qi O O (bN ·))<|ar O O<|lc<|aG O (fun k4=>?_) fun k4=>?_
 ·refine al<|aY mixed ?_
  apply dq 0 O (yq (aO O bA aM))
  apply dq 1 O (yq (aE 2 O dk O O aN))
  apply dq 2 O (yq (aI O aX))
  apply dq 4 O (yq (ah O))
  apply dq 5 O (yq (aE 2 O dk O O aN))
  apply dq 6 O (yq (aI O aX))
  refine ak [0,2,1] [6,5,4] 3 [(146,_),(148,_)] gO ⟨rfl,rfl,trivial⟩ (by kernel_rfl) (by kernel_rfl) fun Ex=>?_
  refine cT O O O (Jg pa s hs l hl x hO hov o.n hw.n) ?_
  rintro v L' ⟨s',rfl,rfl,hSt⟩
  refine bx ?_
  refine ai ?_
  refine aQ ⟨ya O O (yq (aI O aX)),ya O O (yq (aE 2 O dk O O aN)),ya O O (yq (ah O)),trivial⟩ ?_
  refine ak [4,6,5] [] 7 [(150,_),(152,_)] gO ⟨rfl,rfl,trivial⟩ (by kernel_rfl) (by kernel_rfl) fun Ex=>?_
  refine bF O O O (Cw pr l x hn8 hO.rng o.n hw.n) ?_
  refine ai ?_
  refine aQ trivial ?_
  apply dq 8 O (yq (qi O O (bN ·)))
  refine ak [8] [] 9 [(154,_)] gO ⟨rfl,trivial⟩ (by kernel_rfl) (by kernel_rfl) fun Ex=>?_
  refine ar O O<|ai ?_
  refine aQ trivial ?_
  refine aV (by kernel_rfl) ?_
  refine an<|rt ?_
  have hdp:=wM x o.n
  obtain⟨T',hT'⟩:∃ T',T'=(iL x o.n).2:=⟨_,rfl⟩
  rw[<- hT'] at hdp hSt ⊢
  have hF2:=hF.step hs hx hSt hdp
  have hra:bd pr s'=bd pr s:=by obtain⟨a,b,c⟩:=hSt.arena;exact ff a b c
  have e2:=ik (pa:=pa) (l:=l) (x':={x with T:=T'}) hx rfl
  have e3:=fZ (x':={x with T:=T'}) hx rfl
  have hmd:cY (ps.set k {x with T:=T'})=cY ps:=by unfold cY;rw[List.length_set,ic (x':={x with T:=T'}) hx rfl]
  apply aR (.inl rfl) ([ca pr l (ps.set k {x with T:=T'}),pt pb (.cells #[.pointer (some ⟨pa,0,none⟩),.pointer (some ⟨po,0,none⟩),.pointer (some ⟨pr,0,none⟩),.pointer (some ⟨bq,0,none⟩),.int .i64 l.key,.int .i64 l.elem,.int .i64 l.ka,.int .i64 l.ea,.int .i64 l.cap,.int .i64 l.eo,.int .i64 l.bo,.int .i64 l.slot,.int .i64 l.group,.int .u64 sdP,(.slice (some ⟨g0,0,none⟩) ps.length cap),(.slice (some ⟨g1,0,none⟩) ps.length cap1)] 93 (0,0)),aF 39 11 (.slice (some ⟨g0,0,none⟩) ps.length cap) ps.length (rowOf (bX pa l) ps),aF 40 1 (.slice (some ⟨g1,0,none⟩) ps.length cap1) ps.length (bL ps),bd pr s,aj pa s',pt po (.cells #[.map (some bm)] 192 (0,0)),bG (fun k:ByteArray=>Value.string k) bm (bu os),dv bq os,G])
  ·apply cP O
   exact .tmp rfl
  ·exact⟨s',ps.set k {x with T:=T'},_,_,by rw[qY rfl],by rw[List.length_set,e2,e3,hra],hF2,by omega⟩
  refine jg hk ?_;(exact en)
 refine aq<|bz<|nz<|ad O (aO O bA aM) ?_
 refine cT O O O (Ku pa s hs l hl x hO hov 1 (by decide)) ?_
 rintro v L' ⟨s1,rfl,rfl,hSt1⟩
 refine bx ?_
 refine mv O O<|ad O (aa O ga) ?_
 refine ad O (aa O ga) ?_
 refine ar O O<|ar O O<|lz<|mv O O ?_
 refine wO (φ:=s1.ok) (fun w hw=>cS (pa:=pa) hw tk) fun hs1=>?_
 refine bF O O O (D6 pr l x hn8 hO.rng 1 (by decide)) ?_
 refine mv O O<|ad O (aa O ga) ?_
 refine ad O (aa O ga) ?_
 refine ar O O<|ar O O<|lc<|al<|aY mixed ?_
 apply dq 0 O (yq (ah O))
 apply dq 1 O (yq (ah O))
 apply dq 2 O (yq (qi O O (bN ·)))
 apply dq 3 O (yq (ah O))
 have hdp1:=yV x 1
 have hF1:=hF.step hs hx hSt1 hdp1
 have hx1:=sD hk {x with T:=(jG x 1).2.2}
 have hO1:=hF1.all.at hx1
 refine n6 (t:=168) rfl (fun z1=>?_) fun z1=>?_
 ·apply dq 4 O (bD O O (ah O))
  apply dq 5 O (bD O O (ah O))
  apply dq 6 O (bD O O (qi O O (bN ·)))
  apply dq 7 O (yq (aS O O))
  apply dq 8 O (yq (ah O))
  refine n6 (t:=173) rfl (fun z2=>?_) fun z2=>?_
  ·apply dq 9 O (bD O O (aO O bA aM))
   apply dq 10 O (bD O O (aE 2 O dk O O aN))
   apply dq 11 O (bD O O (aI O aX))
   apply dq 13 O (bD O O (ah O))
   apply dq 14 O (bD O O (aE 2 O dk O O aN))
   apply dq 15 O (bD O O (aI O aX))
   refine ak [9,11,8,10,7,3,6,2,4,5,0,1] [15,14,13] 12 [(174,_),(176,_),(173,_)] gO ⟨rfl,rfl,rfl,trivial⟩ (by kernel_rfl) (by kernel_rfl) fun Ex=>?_
   refine aA O O<|cT O O O (D4 pa s1 hs1 l hl {x with T:=(jG x 1).2.2} hO1 hov o.n hw.n) ?_
   rintro v L' ⟨s',rfl,rfl,hSt⟩
   refine bx ?_
   refine ai ?_
   refine aQ ⟨ya O O (bD O O (aI O aX)),ya O O (bD O O (aE 2 O dk O O aN)),ya O O (bD O O (ah O)),trivial⟩ ?_
   refine ak [13,15,14] [] 16 [(178,_),(180,_),(173,_)] gO ⟨rfl,rfl,rfl,trivial⟩ (by kernel_rfl) (by kernel_rfl) fun Ex=>?_
   refine aA O O<|bF O O O (xo pr l {x with T:=(jG x 1).2.2} hn8 hO1.rng o.n) ?_
   refine ai ?_
   refine aQ trivial ?_
   apply dq 17 O (bD O O (qi O O (bN ·)))
   apply dq 18 O (yq (aS O O))
   refine ak [18,17] [] 19 [(183,_)] gO ⟨rfl,trivial⟩ (by kernel_rfl) (by kernel_rfl) fun Ex=>?_
   refine ar O O<|ai ?_
   refine aQ trivial ?_
   refine aV (by kernel_rfl) ?_
   refine an<|rt ?_
   have hdp2:=sG {x with T:=(jG x 1).2.2} o.n
   obtain⟨T',hT'⟩:∃ T',T'=(fT {x with T:=(jG x 1).2.2} o.n).2:=⟨_,rfl⟩
   rw[<- hT'] at hdp2 hSt ⊢
   have hF2:=hF1.step hs1 hx1 hSt hdp2
   rw[List.set_set] at hF2
   have hra:bd pr s'=bd pr s:=by obtain⟨a,b,c⟩:=hSt.arena;obtain⟨a1,b1,c1⟩:=hSt1.arena;exact ff (a.trans a1) (b.trans b1) (c.trans c1)
   have e2:=ik (pa:=pa) (l:=l) (x':={x with T:=T'}) hx rfl
   have e3:=fZ (x':={x with T:=T'}) hx rfl
   have hmd:cY (ps.set k {x with T:=T'})=cY ps:=by unfold cY;rw[List.length_set,ic (x':={x with T:=T'}) hx rfl]
   apply aR (.inl rfl) ([ca pr l (ps.set k {x with T:=T'}),pt pb (.cells #[.pointer (some ⟨pa,0,none⟩),.pointer (some ⟨po,0,none⟩),.pointer (some ⟨pr,0,none⟩),.pointer (some ⟨bq,0,none⟩),.int .i64 l.key,.int .i64 l.elem,.int .i64 l.ka,.int .i64 l.ea,.int .i64 l.cap,.int .i64 l.eo,.int .i64 l.bo,.int .i64 l.slot,.int .i64 l.group,.int .u64 sdP,(.slice (some ⟨g0,0,none⟩) ps.length cap),(.slice (some ⟨g1,0,none⟩) ps.length cap1)] 93 (0,0)),aF 39 11 (.slice (some ⟨g0,0,none⟩) ps.length cap) ps.length (rowOf (bX pa l) ps),aF 40 1 (.slice (some ⟨g1,0,none⟩) ps.length cap1) ps.length (bL ps),bd pr s,aj pa s',pt po (.cells #[.map (some bm)] 192 (0,0)),bG (fun k:ByteArray=>Value.string k) bm (bu os),dv bq os,G])
   ·apply cP O
    exact .tmp rfl
   ·exact⟨s',ps.set k {x with T:=T'},_,_,by rw[qY rfl],by rw[List.length_set,e2,e3,hra],hF2,by omega⟩
   refine jg hk ?_;(exact en)
  exact absurd rfl z2
 exact absurd rfl z1
end
end Plays
end Go.Proofs.YthkajgkagnenbaaGreatDoor
