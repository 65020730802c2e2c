import Derived.Test.YthkajgkagnenbaaGreatDoorGpB
set_option linter.unusedVariables false
set_option linter.unusedSimpArgs false
set_option linter.unusedSectionVars false
set_option maxRecDepth 100000
namespace Go.Proofs.YthkajgkagnenbaaGreatDoor
namespace Plays
open Go.RowKit Go.Proofs Eng Ty Arena Ctrl Layout GroupB TableB TableI Table Bench Cells Refill Oracle Grow Exact
theorem vm (G:HP) (hGT:dR G) (hGO:fR G) (pa off go po bm n e N:Nat) (s:ArS) (l:Lay) (T:Tb) (m:List (ByteArray×Value)) (hm:iH m) (sd:Int) (hsd:0<=sd/\sd < 18446744073709551616) (hP:cd s off go l n e T) (t E:Nat) (ht:t=1\/t=2) (X Y:Prop) (c:Int) (hc:c≠0) (o1 g1:Nat) (hY1:Y->0 < N/\N=2 ^ E/\((N*gN l:Nat):Int)<=1048576/\s.live+(64+aH ((N*gN l:Nat):Int))<=s.limit/\s.at 64=o1/\(s.take 64).at (aH ((N*gN l:Nat):Int))=g1)
  (hnew:aK Tryz.prog 52 #[.pointer (some ⟨pa,0,none⟩),.agg l.cells,.int .i64 (IntKind.i64.wrap (((t:Nat):Int)*(8*(n:Int)))),.int .i64 T.depth] [aj pa s] (fun v L=>(X/\v=.tuple #[.agg #[.pointer none,.int .i64 0,.int .i64 0,.int .i64 0,.int .i64 0,.int .i64 0,.int .i64 0,.int .i64 0,.int .i64 0,.int .i64 0,.int .i64 0],.int .i64 c]/\L= [aj pa s])\/(Y/\∃ s1,v=.tuple #[.agg #[.pointer (some ⟨pa,0,none⟩),.int .i64 l.key,.int .i64 l.elem,.int .i64 l.ka,.int .i64 l.ea,.int .i64 l.cap,.int .i64 l.eo,.int .i64 l.bo,.int .i64 l.slot,.int .i64 l.group,.int .i64 ((o1:Nat):Int)],.int .i64 0]/\L= [aj pa s1]/\cd s1 o1 g1 l N E (cR N T.depth)/\ej s s1 (aH ((N*gN l:Nat):Int))/\fK s1 g1 (N*gN l) (aH ((N*gN l:Nat):Int))))):
  aK Tryz.prog 209 #[.agg #[.pointer (some ⟨pa,0,none⟩),.int .i64 l.key,.int .i64 l.elem,.int .i64 l.ka,.int .i64 l.ea,.int .i64 l.cap,.int .i64 l.eo,.int .i64 l.bo,.int .i64 l.slot,.int .i64 l.group,.int .i64 (off:Nat)],.pointer (some ⟨po,0,none⟩),.int .u64 sd,.int .i64 (t:Nat)] [pt po (.cells #[.map (some bm)] 192 (0,0)),bG (fun k:ByteArray=>Value.string k) bm m,G,aj pa s] (fun v L=>(X/\v=.tuple #[.agg #[.pointer none,.int .i64 0,.int .i64 0,.int .i64 0,.int .i64 0,.int .i64 0,.int .i64 0,.int .i64 0,.int .i64 0,.int .i64 0,.int .i64 0],.int .i64 c]/\L= [pt po (.cells #[.map (some bm)] 192 (0,0)),bG (fun k:ByteArray=>Value.string k) bm m,G,aj pa s])\/(Y/\∃ s',v=.tuple #[.agg #[.pointer (some ⟨pa,0,none⟩),.int .i64 l.key,.int .i64 l.elem,.int .i64 l.ka,.int .i64 l.ea,.int .i64 l.cap,.int .i64 l.eo,.int .i64 l.bo,.int .i64 l.slot,.int .i64 l.group,.int .i64 ((o1:Nat):Int)],.int .i64 0]/\L= [pt po (.cells #[.map (some bm)] 192 (0,0)),bG (fun k:ByteArray=>Value.string k) bm m,G,aj pa s']/\cd s' o1 g1 l N E (cw N (br m sd) T.cells T.depth (8*n))/\ej s s' (aH ((N*gN l:Nat):Int))/\fK s' g1 (N*gN l) (aH ((N*gN l:Nat):Int)))):=by
 have hn8:=hP.n0
 have hLy:=eK hP.hl
 have hkk:=hLy.k
 have hbd:=Lay.bnd hP.hl
 refine au EH Tryz.func209 rfl rfl rfl fun Fr w0=>aZ ?_
 refine dN (φ:=s.ok) (fun w hw=>cS hw (.there (.there (.there .here)))) fun hok0=>?_
 refine sr<|bw O O fun b4=>eQ O O O fun b5=>eQ O O O fun b6=>ay O cM fun b8=>ar O O<|lz<|ad O (aO O bA aM) ?_
 refine bF O O O (eS pa off go n e s l T hP) ?_
 refine mv O O<|ad O (aa O ga) ?_
 refine ad O (aa O ga) ?_
 refine ay O da fun b10=>bZ O O O cl O O ?_
 refine ar O O<|lc<|al<|sr<|mv O O<|ad O (qi O O (bf ·))<|lc<|aG O (fun z=>?_) fun z=>?_
 ·exact absurd rfl z
 refine aq<|an<|al ?_
 apply pB (p:=(fun(y:Nat×ArS×Array Value×Int)=>(X/\y.2.2.1=#[.pointer none,.int .i64 0,.int .i64 0,.int .i64 0,.int .i64 0,.int .i64 0,.int .i64 0,.int .i64 0,.int .i64 0,.int .i64 0,.int .i64 0]/\c=y.2.2.2/\s=y.2.1)\/(Y/\y.2.2.1=#[.pointer (some ⟨pa,0,none⟩),.int .i64 l.key,.int .i64 l.elem,.int .i64 l.ka,.int .i64 l.ea,.int .i64 l.cap,.int .i64 l.eo,.int .i64 l.bo,.int .i64 l.slot,.int .i64 l.group,.int .i64 ((o1:Nat):Int)]/\y.2.2.2=0/\cd y.2.1 o1 g1 l N E (cR N T.depth)/\ej s y.2.1 (aH ((N*gN l:Nat):Int))/\fK y.2.1 g1 (N*gN l) (aH ((N*gN l:Nat):Int))))) (EE:=(fun y=>[(4,.pointer (some ⟨b4,0,none⟩)),(5,.pointer (some ⟨b5,0,none⟩)),(6,.pointer (some ⟨b6,0,none⟩)),(8,.pointer (some ⟨b8,0,none⟩)),(10,.pointer (some ⟨b10,0,none⟩)),(11,.int .i64 y.2.2.2),(12,.pointer (some ⟨y.1,0,none⟩))])) (LL:=(fun y=>pt y.1 (.cells y.2.2.1 39 (0,0))::aj pa y.2.1::pt b4 (.cells #[.pointer (some ⟨pa,0,none⟩),.int .i64 l.key,.int .i64 l.elem,.int .i64 l.ka,.int .i64 l.ea,.int .i64 l.cap,.int .i64 l.eo,.int .i64 l.bo,.int .i64 l.slot,.int .i64 l.group,.int .i64 (off:Nat)] 39 (0,0))::pt b5 (.cells #[.pointer (some ⟨po,0,none⟩)] 63 (0,0))::pt b6 (.cells #[.int .u64 sd] 27 (0,0))::pt b8 (.cells #[.pointer none,.int .i64 0,.int .i64 0,.int .i64 0,.int .i64 0,.int .i64 0,.int .i64 0,.int .i64 0,.int .i64 0,.int .i64 0,.int .i64 0] 39 (0,0))::pt b10 (.cells #[.int .i64 T.used,.int .i64 (8*(n:Int)),.int .i64 T.left,.int .i64 T.depth,.int .i64 T.pins,.int .i64 T.next,.bool (decide (T.kind=4)),.int .i64 (go:Nat)] 147 (0,0))::pt po (.cells #[.map (some bm)] 192 (0,0))::bG (fun k:ByteArray=>Value.string k) bm m::G::Fr))
 refine aY mixed ?_
 apply dq 0 O (yq (aO O bA aM))
 apply dq 2 O (yq (aO O bA aM))
 apply dq 4 O (yq (ah O))
 apply dq 5 O (yq (aE 1 O bP O O aN))
 apply dq 6 O (yq (aI O aX))
 apply dq 7 O (yq (dA O O))
 apply dq 8 O (yq (aE 3 O bP O O aN))
 apply dq 9 O (yq (aI O aX))
 apply dI 1 14
 ·kernel_rfl
 ·refine cA (q1:=[0]) (q2:=[9,8,7,6,5,4,2]) [(25,_)] gO ⟨O,trivial⟩ (by kernel_rfl) fun Ex=>?_
  refine bF O O O (fJ pa l (off:Nat)) ?_
  refine ai ?_
  refine aQ ⟨ya O O (yq (aI O aX)),ya O O (yq (aE 3 O bP O O aN)),ya O O (yq (dA O O)),ya O O (yq (aI O aX)),ya O O (yq (aE 1 O bP O O aN)),ya O O (yq (ah O)),ya O O (yq (aO O bA aM)),trivial⟩ ?_
  apply dI 3 14
  ·kernel_rfl
  ·refine cA (q1:=[2]) (q2:=[9,8,7,6,5,4]) [(27,_)] gO ⟨O,trivial⟩ (by kernel_rfl) fun Ex=>?_
   refine bF O O O (eE pa l (off:Nat)) ?_
   refine ai ?_
   refine aQ ⟨ya O O (yq (aI O aX)),ya O O (yq (aE 3 O bP O O aN)),ya O O (yq (dA O O)),ya O O (yq (aI O aX)),ya O O (yq (aE 1 O bP O O aN)),ya O O (yq (ah O)),trivial⟩ ?_
   apply dI 10 14
   ·kernel_rfl
   ·refine cA (q1:=[7,9,4,6,8,5]) (q2:=[]) [(26,_),(28,_),(32,_),(34,_)] gO ⟨O,O,O,O,trivial⟩ (by kernel_rfl) fun Ex=>?_
    refine cT O O O (hnew) ?_
    rintro v L' (⟨hX,rfl,rfl⟩ | ⟨hY,s1,rfl,rfl,hT1,hNs,hZ⟩)
    refine bx ?_
    ·skip
     refine bx ?_
     refine ai ?_
     refine aQ trivial ?_
     apply dq 11 O (yq (ah O))
     apply dq 12 O (yq (aa O ga))
     apply dq 13 O (yq (aa O ga))
     refine ak [] [13,12,11] 14 [] gO trivial (by kernel_rfl) (by kernel_rfl) fun Ex=>?_
     refine ay O cM fun b12=>ai ?_
     refine aQ ⟨ya O O (yq (aa O ga)),ya O O (yq (aa O ga)),ya O O (yq (ah O)),trivial⟩ ?_
     refine ak [12,11] [13] 15 [(12,_),(36,_)] gO ⟨rfl,rfl,trivial⟩ (by kernel_rfl) (by kernel_rfl) fun Ex=>?_
     refine bZ O O O aM O O ?_
     refine ai ?_
     refine aQ ⟨ya O O (yq (aa O ga)),trivial⟩ ?_
     refine ak [13] [] 16 [(37,_)] gO ⟨rfl,trivial⟩ (by kernel_rfl) (by kernel_rfl) fun Ex=>?_
     refine ar O O<|ai ?_
     refine aQ trivial ?_
     refine aV (by kernel_rfl) ?_
     apply cx ((b12,s,#[.pointer none,.int .i64 0,.int .i64 0,.int .i64 0,.int .i64 0,.int .i64 0,.int .i64 0,.int .i64 0,.int .i64 0,.int .i64 0,.int .i64 0],c))
     ·exact .inl ⟨hX,rfl,rfl,rfl⟩
     ·exact⟨O,O,O,O,O,O,O,trivial⟩
     exact en
    refine bx ?_
    refine ai ?_
    refine aQ trivial ?_
    apply dq 11 O (yq (ah O))
    apply dq 12 O (yq (aa O ga))
    apply dq 13 O (yq (aa O ga))
    refine ak [] [13,12,11] 14 [] gO trivial (by kernel_rfl) (by kernel_rfl) fun Ex=>?_
    refine ay O cM fun b12=>ai ?_
    refine aQ ⟨ya O O (yq (aa O ga)),ya O O (yq (aa O ga)),ya O O (yq (ah O)),trivial⟩ ?_
    refine ak [12,11] [13] 15 [(12,_),(36,_)] gO ⟨rfl,rfl,trivial⟩ (by kernel_rfl) (by kernel_rfl) fun Ex=>?_
    refine bZ O O O aM O O ?_
    refine ai ?_
    refine aQ ⟨ya O O (yq (aa O ga)),trivial⟩ ?_
    refine ak [13] [] 16 [(37,_)] gO ⟨rfl,trivial⟩ (by kernel_rfl) (by kernel_rfl) fun Ex=>?_
    refine ar O O<|ai ?_
    refine aQ trivial ?_
    refine aV (by kernel_rfl) ?_
    apply cx ((b12,s1,#[.pointer (some ⟨pa,0,none⟩),.int .i64 l.key,.int .i64 l.elem,.int .i64 l.ka,.int .i64 l.ea,.int .i64 l.cap,.int .i64 l.eo,.int .i64 l.bo,.int .i64 l.slot,.int .i64 l.group,.int .i64 ((o1:Nat):Int)],0))
    ·exact .inr ⟨hY,rfl,rfl,hT1,hNs,hZ⟩
    ·exact⟨O,O,O,O,O,O,O,trivial⟩
    exact en
   refine cA (q1:=[]) (q2:=[9,8,7,6,5,4]) [] gO trivial (by kernel_rfl) fun Ex=>?_
   refine ay O cM fun b12=>ai ?_
   refine aQ ⟨ya O O (yq (aI O aX)),ya O O (yq (aE 3 O bP O O aN)),ya O O (yq (dA O O)),ya O O (yq (aI O aX)),ya O O (yq (aE 1 O bP O O aN)),ya O O (yq (ah O)),trivial⟩ ?_
   refine ak [7,9,4,6,8,5] [] 10 [(26,_),(28,_),(32,_),(34,_)] gO ⟨rfl,rfl,rfl,rfl,trivial⟩ (by kernel_rfl) (by kernel_rfl) fun Ex=>?_
   refine cT O O O (hnew) ?_
   rintro v L' (⟨hX,rfl,rfl⟩ | ⟨hY,s1,rfl,rfl,hT1,hNs,hZ⟩)
   refine bx ?_
   ·skip
    refine bx ?_
    refine ai ?_
    refine aQ trivial ?_
    apply dq 11 O (yq (ah O))
    apply dq 12 O (yq (aa O ga))
    apply dq 13 O (yq (aa O ga))
    refine ak [12,11] [13] 15 [(12,_),(36,_)] gO ⟨rfl,rfl,trivial⟩ (by kernel_rfl) (by kernel_rfl) fun Ex=>?_
    refine bZ O O O aM O O ?_
    refine ai ?_
    refine aQ ⟨ya O O (yq (aa O ga)),trivial⟩ ?_
    refine ak [13] [] 16 [(37,_)] gO ⟨rfl,trivial⟩ (by kernel_rfl) (by kernel_rfl) fun Ex=>?_
    refine ar O O<|ai ?_
    refine aQ trivial ?_
    refine aV (by kernel_rfl) ?_
    apply cx ((b12,s,#[.pointer none,.int .i64 0,.int .i64 0,.int .i64 0,.int .i64 0,.int .i64 0,.int .i64 0,.int .i64 0,.int .i64 0,.int .i64 0,.int .i64 0],c))
    ·exact .inl ⟨hX,rfl,rfl,rfl⟩
    ·exact⟨O,O,O,O,O,O,O,trivial⟩
    exact en
   refine bx ?_
   refine ai ?_
   refine aQ trivial ?_
   apply dq 11 O (yq (ah O))
   apply dq 12 O (yq (aa O ga))
   apply dq 13 O (yq (aa O ga))
   refine ak [12,11] [13] 15 [(12,_),(36,_)] gO ⟨rfl,rfl,trivial⟩ (by kernel_rfl) (by kernel_rfl) fun Ex=>?_
   refine bZ O O O aM O O ?_
   refine ai ?_
   refine aQ ⟨ya O O (yq (aa O ga)),trivial⟩ ?_
   refine ak [13] [] 16 [(37,_)] gO ⟨rfl,trivial⟩ (by kernel_rfl) (by kernel_rfl) fun Ex=>?_
   refine ar O O<|ai ?_
   refine aQ trivial ?_
   refine aV (by kernel_rfl) ?_
   apply cx ((b12,s1,#[.pointer (some ⟨pa,0,none⟩),.int .i64 l.key,.int .i64 l.elem,.int .i64 l.ka,.int .i64 l.ea,.int .i64 l.cap,.int .i64 l.eo,.int .i64 l.bo,.int .i64 l.slot,.int .i64 l.group,.int .i64 ((o1:Nat):Int)],0))
   ·exact .inr ⟨hY,rfl,rfl,hT1,hNs,hZ⟩
   ·exact⟨O,O,O,O,O,O,O,trivial⟩
   exact en
  refine cA (q1:=[]) (q2:=[9,8,7,6,5,4,2]) [] gO trivial (by kernel_rfl) fun Ex=>?_
  refine ay O cM fun b12=>ai ?_
  refine aQ ⟨ya O O (yq (aI O aX)),ya O O (yq (aE 3 O bP O O aN)),ya O O (yq (dA O O)),ya O O (yq (aI O aX)),ya O O (yq (aE 1 O bP O O aN)),ya O O (yq (ah O)),ya O O (yq (aO O bA aM)),trivial⟩ ?_
  refine ak [2] [9,8,7,6,5,4] 3 [(27,_)] gO ⟨rfl,trivial⟩ (by kernel_rfl) (by kernel_rfl) fun Ex=>?_
  refine bF O O O (eE pa l (off:Nat)) ?_
  refine ai ?_
  refine aQ ⟨ya O O (yq (aI O aX)),ya O O (yq (aE 3 O bP O O aN)),ya O O (yq (dA O O)),ya O O (yq (aI O aX)),ya O O (yq (aE 1 O bP O O aN)),ya O O (yq (ah O)),trivial⟩ ?_
  refine ak [7,9,4,6,8,5] [] 10 [(26,_),(28,_),(32,_),(34,_)] gO ⟨rfl,rfl,rfl,rfl,trivial⟩ (by kernel_rfl) (by kernel_rfl) fun Ex=>?_
  refine cT O O O (hnew) ?_
  rintro v L' (⟨hX,rfl,rfl⟩ | ⟨hY,s1,rfl,rfl,hT1,hNs,hZ⟩)
  refine bx ?_
  ·skip
   refine bx ?_
   refine ai ?_
   refine aQ trivial ?_
   apply dq 11 O (yq (ah O))
   apply dq 12 O (yq (aa O ga))
   apply dq 13 O (yq (aa O ga))
   refine ak [12,11] [13] 15 [(12,_),(36,_)] gO ⟨rfl,rfl,trivial⟩ (by kernel_rfl) (by kernel_rfl) fun Ex=>?_
   refine bZ O O O aM O O ?_
   refine ai ?_
   refine aQ ⟨ya O O (yq (aa O ga)),trivial⟩ ?_
   refine ak [13] [] 16 [(37,_)] gO ⟨rfl,trivial⟩ (by kernel_rfl) (by kernel_rfl) fun Ex=>?_
   refine ar O O<|ai ?_
   refine aQ trivial ?_
   refine aV (by kernel_rfl) ?_
   apply cx ((b12,s,#[.pointer none,.int .i64 0,.int .i64 0,.int .i64 0,.int .i64 0,.int .i64 0,.int .i64 0,.int .i64 0,.int .i64 0,.int .i64 0,.int .i64 0],c))
   ·exact .inl ⟨hX,rfl,rfl,rfl⟩
   ·exact⟨O,O,O,O,O,O,O,trivial⟩
   exact en
  refine bx ?_
  refine ai ?_
  refine aQ trivial ?_
  apply dq 11 O (yq (ah O))
  apply dq 12 O (yq (aa O ga))
  apply dq 13 O (yq (aa O ga))
  refine ak [12,11] [13] 15 [(12,_),(36,_)] gO ⟨rfl,rfl,trivial⟩ (by kernel_rfl) (by kernel_rfl) fun Ex=>?_
  refine bZ O O O aM O O ?_
  refine ai ?_
  refine aQ ⟨ya O O (yq (aa O ga)),trivial⟩ ?_
  refine ak [13] [] 16 [(37,_)] gO ⟨rfl,trivial⟩ (by kernel_rfl) (by kernel_rfl) fun Ex=>?_
  refine ar O O<|ai ?_
  refine aQ trivial ?_
  refine aV (by kernel_rfl) ?_
  apply cx ((b12,s1,#[.pointer (some ⟨pa,0,none⟩),.int .i64 l.key,.int .i64 l.elem,.int .i64 l.ka,.int .i64 l.ea,.int .i64 l.cap,.int .i64 l.eo,.int .i64 l.bo,.int .i64 l.slot,.int .i64 l.group,.int .i64 ((o1:Nat):Int)],0))
  ·exact .inr ⟨hY,rfl,rfl,hT1,hNs,hZ⟩
  ·exact⟨O,O,O,O,O,O,O,trivial⟩
  exact en
 ·refine cA (q1:=[]) (q2:=[9,8,7,6,5,4,2,0]) [] gO trivial (by kernel_rfl) fun Ex=>?_
  refine ay O cM fun b12=>ai ?_
  refine aQ ⟨ya O O (yq (aI O aX)),ya O O (yq (aE 3 O bP O O aN)),ya O O (yq (dA O O)),ya O O (yq (aI O aX)),ya O O (yq (aE 1 O bP O O aN)),ya O O (yq (ah O)),ya O O (yq (aO O bA aM)),ya O O (yq (aO O bA aM)),trivial⟩ ?_
  refine ak [0] [9,8,7,6,5,4,2] 1 [(25,_)] gO ⟨rfl,trivial⟩ (by kernel_rfl) (by kernel_rfl) fun Ex=>?_
  refine bF O O O (fJ pa l (off:Nat)) ?_
  refine ai ?_
  refine aQ ⟨ya O O (yq (aI O aX)),ya O O (yq (aE 3 O bP O O aN)),ya O O (yq (dA O O)),ya O O (yq (aI O aX)),ya O O (yq (aE 1 O bP O O aN)),ya O O (yq (ah O)),ya O O (yq (aO O bA aM)),trivial⟩ ?_
  refine ak [2] [9,8,7,6,5,4] 3 [(27,_)] gO ⟨rfl,trivial⟩ (by kernel_rfl) (by kernel_rfl) fun Ex=>?_
  refine bF O O O (eE pa l (off:Nat)) ?_
  refine ai ?_
  refine aQ ⟨ya O O (yq (aI O aX)),ya O O (yq (aE 3 O bP O O aN)),ya O O (yq (dA O O)),ya O O (yq (aI O aX)),ya O O (yq (aE 1 O bP O O aN)),ya O O (yq (ah O)),trivial⟩ ?_
  refine ak [7,9,4,6,8,5] [] 10 [(26,_),(28,_),(32,_),(34,_)] gO ⟨rfl,rfl,rfl,rfl,trivial⟩ (by kernel_rfl) (by kernel_rfl) fun Ex=>?_
  refine cT O O O (hnew) ?_
  rintro v L' (⟨hX,rfl,rfl⟩ | ⟨hY,s1,rfl,rfl,hT1,hNs,hZ⟩)
  refine bx ?_
  ·skip
   refine bx ?_
   refine ai ?_
   refine aQ trivial ?_
   apply dq 11 O (yq (ah O))
   apply dq 12 O (yq (aa O ga))
   apply dq 13 O (yq (aa O ga))
   refine ak [12,11] [13] 15 [(12,_),(36,_)] gO ⟨rfl,rfl,trivial⟩ (by kernel_rfl) (by kernel_rfl) fun Ex=>?_
   refine bZ O O O aM O O ?_
   refine ai ?_
   refine aQ ⟨ya O O (yq (aa O ga)),trivial⟩ ?_
   refine ak [13] [] 16 [(37,_)] gO ⟨rfl,trivial⟩ (by kernel_rfl) (by kernel_rfl) fun Ex=>?_
   refine ar O O<|ai ?_
   refine aQ trivial ?_
   refine aV (by kernel_rfl) ?_
   apply cx ((b12,s,#[.pointer none,.int .i64 0,.int .i64 0,.int .i64 0,.int .i64 0,.int .i64 0,.int .i64 0,.int .i64 0,.int .i64 0,.int .i64 0,.int .i64 0],c))
   ·exact .inl ⟨hX,rfl,rfl,rfl⟩
   ·exact⟨O,O,O,O,O,O,O,trivial⟩
   exact en
  refine bx ?_
  refine ai ?_
  refine aQ trivial ?_
  apply dq 11 O (yq (ah O))
  apply dq 12 O (yq (aa O ga))
  apply dq 13 O (yq (aa O ga))
  refine ak [12,11] [13] 15 [(12,_),(36,_)] gO ⟨rfl,rfl,trivial⟩ (by kernel_rfl) (by kernel_rfl) fun Ex=>?_
  refine bZ O O O aM O O ?_
  refine ai ?_
  refine aQ ⟨ya O O (yq (aa O ga)),trivial⟩ ?_
  refine ak [13] [] 16 [(37,_)] gO ⟨rfl,trivial⟩ (by kernel_rfl) (by kernel_rfl) fun Ex=>?_
  refine ar O O<|ai ?_
  refine aQ trivial ?_
  refine aV (by kernel_rfl) ?_
  apply cx ((b12,s1,#[.pointer (some ⟨pa,0,none⟩),.int .i64 l.key,.int .i64 l.elem,.int .i64 l.ka,.int .i64 l.ea,.int .i64 l.cap,.int .i64 l.eo,.int .i64 l.bo,.int .i64 l.slot,.int .i64 l.group,.int .i64 ((o1:Nat):Int)],0))
  ·exact .inr ⟨hY,rfl,rfl,hT1,hNs,hZ⟩
  ·exact⟨O,O,O,O,O,O,O,trivial⟩
  exact en
 rintro⟨b12,s1,cs1,e1⟩ hh
 try dsimp only
 refine oJ ?_
 refine an<|al<|sr<|mv O O<|ad O (qi O O (bf ·))<|lc ?_
 dsimp only at hh
 rcases hh with⟨hX,rfl,rfl,rfl⟩ | ⟨hY,rfl,rfl,hT1,hNs,hZ⟩
 ·skip
  refine aG O (fun y=>?_) fun y=>?_
  ·refine sr ?_
   apply ad O
   ·apply bp O qS cM
    exact aP.nil
   refine mv O O<|bZ O O O aM O O ?_
   refine ar O O<|lc<|rt ?_
   apply aR (.inl rfl) ([pt po (.cells #[.map (some bm)] 192 (0,0)),bG (fun k:ByteArray=>Value.string k) bm m,G,aj pa s])
   ·apply cF O
    ·apply Rv.agg rfl
     ·exact tk
     exact aJ bA aM O
    exact .tmp rfl
   ·exact .inl ⟨hX,rfl,rfl⟩
   exact en
  exact absurd hc y
 obtain⟨hN0,hN8,hsm,hfit,ho1,hg1⟩:=hY1 hY
 have hCb:=(dE (n:=((N*gN l:Nat):Int)) (by have:=hLy.g_eq;have:=Nat.mul_le_mul_right (gN l) hN0;omega)).2.2 hsm
 have ok64:=ArS.take_ok hok0 ye (by omega)
 have hap:=de ok64 ((dP hok0).2 (.inr rfl)) (c:=aH ((N*gN l:Nat):Int)) (by omega)
 rw[ho1,hg1] at hap
 dsimp only at hap
 refine aG O (fun y=>?_) fun y=>?_
 ·exact absurd rfl y
 refine aq<|an<|al<|sr<|ad O (aO O bA aM) ?_
 refine cT O O O (od pa off l) ?_
 rintro v L' ⟨bc,rfl,rfl⟩
 refine bx ?_
 refine lc<|aB ?_
 apply pA (p:=(fun k (x:ArS×Tb)=>cd x.1 o1 g1 l N E x.2/\fu N x.2/\cb s1 x.1 o1 g1 (N*gN l)/\∀ i,dX isFull T.cells i=k->x.2=cw N (br m sd) T.cells T.depth i)) (J:=(fun _ x=>[pt b5 (.cells #[.pointer (some ⟨po,0,none⟩)] 63 (0,0)),pt b6 (.cells #[.int .u64 sd] 27 (0,0)),pt b8 (.cells #[.pointer none,.int .i64 0,.int .i64 0,.int .i64 0,.int .i64 0,.int .i64 0,.int .i64 0,.int .i64 0,.int .i64 0,.int .i64 0,.int .i64 0] 39 (0,0)),pt b12 (.cells #[.pointer (some ⟨pa,0,none⟩),.int .i64 l.key,.int .i64 l.elem,.int .i64 l.ka,.int .i64 l.ea,.int .i64 l.cap,.int .i64 l.eo,.int .i64 l.bo,.int .i64 l.slot,.int .i64 l.group,.int .i64 ((o1:Nat):Int)] 39 (0,0)),pt po (.cells #[.map (some bm)] 192 (0,0)),bG (fun k:ByteArray=>Value.string k) bm m,G,aj pa x.1])) (q:=(fun _ (y:Code×Unit)=>False)) (Jx:=(fun _ _=>[])) (x0:=(s1,cR N T.depth)) (hc:=oe pa off go n e bc s1 l T (cd.newS hP hok0 hNs)) (hr:=rfl) (hg:=rfl)
 ·exact pk
 ·exact⟨hT1,fu.new N _,cb.refl _ _ _ _,fun i hi=>mL (fun _ h=>h) i hi⟩
 ·(try dsimp only);(try simp only[Int.natCast_zero,Nat.sub_zero]);exact pk
 ·(try dsimp only);(try simp only[Int.natCast_zero,Nat.sub_zero]);exact pk
 ·rfl
 ·exact mN
 ·rintro l' rc Fr' w1 k x ⟨s2,U⟩ hrd hpn hx ⟨hT2,hR2,hS2,hU2⟩
  have hkl:=(List.getElem?_eq_some_iff.1 hx).1
  rw[fY] at hkl
  obtain⟨i1,hi8,hfi,hck,rfl⟩:=n8 hx
  dsimp only at hT2 hR2 hS2 hU2 ⊢
  obtain⟨hu1,hu2⟩:=hR2.bnd hT2.n0.2
  have hok1:=hP.hT.okc i1 hi8
  obtain⟨t1,hc1⟩:=kZ hfi
  rw[hc1] at hok1
  obtain⟨_,_,hks,hes,hb0,hb1⟩:=hok1
  have hhb:=ib hm sd (T.cells i1).keyS
  have hpr:=wv (T:=U) (h:=br m sd (T.cells i1).keyS) (key:=(T.cells i1).keyS) hN0 (fun g hg=>iS hN8 hg) (T.cells i1).elemS (T.cells i1).birthI
  have hnx:∀ i,dX isFull T.cells i=k+1->(eD N U (br m sd (T.cells i1).keyS) (T.cells i1).keyS (T.cells i1).elemS (T.cells i1).birthI).2=cw N (br m sd) T.cells T.depth i:=fun i he=>by
   rw[<- ku (fun _ h=>h) hfi hck i he,mf hfi,<- hU2 i1 hck]
  refine aZ ?_
  refine aD<|ay O dF fun b14=>bZ O O O bV O O ?_
  refine ai ?_
  apply kV
  ·exact tk
  ·assumption
  refine aB<|aY mixed ?_
  apply dq 0 O (yq (aO O bA aM))
  apply dq 1 O (yq (aI O ij))
  apply dq 2 O (yq (aI O fV))
  apply dq 3 O (yq (aE 2 O cq O O fA))
  apply dq 4 O (yq (aI O fS))
  apply dq 6 O (yq (aE 2 O cq O O fA))
  apply dq 7 O (yq (aI O fS))
  apply dq 8 O (yq (aE 3 O cq O O fA))
  apply dq 9 O (yq (aI O fS))
  apply dq 10 O (yq (aE 4 O cq O O aN))
  apply dq 11 O (yq (aI O aX))
  refine ak [1,2,4,3] [11,10,9,8,7,6,0] 5 [(47,_),(48,_),(50,_)] gO ⟨rfl,rfl,rfl,trivial⟩ (by kernel_rfl) (by kernel_rfl) fun Ex=>?_
  refine bF O O O (mj G hGO po bm m hm sd hsd (T.cells i1).keyS (by omega)) ?_
  refine ai ?_
  refine aQ ⟨ya O O (yq (aI O aX)),ya O O (yq (aE 4 O cq O O aN)),ya O O (yq (aI O fS)),ya O O (yq (aE 3 O cq O O fA)),ya O O (yq (aI O fS)),ya O O (yq (aE 2 O cq O O fA)),ya O O (yq (aO O bA aM)),trivial⟩ ?_
  refine ak [0,7,9,11,6,8,10] [] 12 [(46,_),(51,_),(53,_),(55,_),(57,_)] gO ⟨rfl,rfl,rfl,rfl,rfl,trivial⟩ (by kernel_rfl) (by kernel_rfl) fun Ex=>?_
  refine cT O O O (oi G hGT pa o1 g1 N E s2 l U hT2 _ hhb (T.cells i1).keyS (T.cells i1).elemS hks hes (T.cells i1).birthI ⟨hb0,hb1⟩ hu1 hu2) ?_
  rintro v L' ⟨s3,rfl,rfl,hT3,hS3⟩
  refine bx ?_
  refine ai ?_
  refine aQ trivial ?_
  refine aV (by kernel_rfl) ?_
  refine bz ?_
  apply kS (by assumption) (by assumption) ((s3,(eD N U (br m sd (T.cells i1).keyS) (T.cells i1).keyS (T.cells i1).elemS (T.cells i1).birthI).2)) (⟨hT3,hR2.put hpr,hS2.trans hS3,hnx⟩)
  exact en
 ·rintro b1' ⟨s2,U⟩ ⟨hT2,hR2,hS2,hU2⟩
  rw[fY] at hU2
  dsimp only at hT2 hR2 hS2 hU2 ⊢
  have hU:=hU2 (8*n) rfl
  rw[hU] at hT2
  refine oJ ?_
  refine bz<|nz<|ad O (aO O bA aM) ?_
  refine bZ O O O aM O O ?_
  refine ar O O<|lc<|rt ?_
  apply s6 (.inl rfl) [b1'] ([pt po (.cells #[.map (some bm)] 192 (0,0)),bG (fun k:ByteArray=>Value.string k) bm m,G,aj pa s2])
  ·repeat (first | with_reducible exact gQ.nil | apply gQ.cons | with_reducible exact Take.here | apply Take.there)
  ·apply cF O
   ·apply Rv.agg rfl
    ·exact tk
    exact aJ bA aM O
   exact .tmp rfl
  ·exact .inr ⟨hY,s2,rfl,rfl,hT2,Bp hok0 hNs (by rw[ho1,hg1];exact hS2) (by omega) (by omega) (by omega),yC hZ hS2 (by omega)⟩
  exact en
 rintro b1' k ⟨jc,y⟩ hk hq
 exact hq.elim
theorem D0 (G:HP) (hGT:dR G) (hGO:fR G) (pa off go po bm n e N:Nat) (s:ArS) (l:Lay) (T:Tb) (m:List (ByteArray×Value)) (hm:iH m) (sd:Int) (hsd:0<=sd/\sd < 18446744073709551616) (hP:cd s off go l n e T) (t:Nat) (ht:t=1\/t=2) (c:Int) (hc:c≠0) (hnew:aK Tryz.prog 52 #[.pointer (some ⟨pa,0,none⟩),.agg l.cells,.int .i64 (IntKind.i64.wrap (((t:Nat):Int)*(8*(n:Int)))),.int .i64 T.depth] [aj pa s] (fun v L=>v=.tuple #[.agg #[.pointer none,.int .i64 0,.int .i64 0,.int .i64 0,.int .i64 0,.int .i64 0,.int .i64 0,.int .i64 0,.int .i64 0,.int .i64 0,.int .i64 0],.int .i64 c]/\L= [aj pa s])):aK Tryz.prog 209 #[.agg #[.pointer (some ⟨pa,0,none⟩),.int .i64 l.key,.int .i64 l.elem,.int .i64 l.ka,.int .i64 l.ea,.int .i64 l.cap,.int .i64 l.eo,.int .i64 l.bo,.int .i64 l.slot,.int .i64 l.group,.int .i64 (off:Nat)],.pointer (some ⟨po,0,none⟩),.int .u64 sd,.int .i64 (t:Nat)] [pt po (.cells #[.map (some bm)] 192 (0,0)),bG (fun k:ByteArray=>Value.string k) bm m,G,aj pa s] (fun v L=>v=.tuple #[.agg #[.pointer none,.int .i64 0,.int .i64 0,.int .i64 0,.int .i64 0,.int .i64 0,.int .i64 0,.int .i64 0,.int .i64 0,.int .i64 0,.int .i64 0],.int .i64 c]/\L= [pt po (.cells #[.map (some bm)] 192 (0,0)),bG (fun k:ByteArray=>Value.string k) bm m,G,aj pa s]):=
 (vm G hGT hGO pa off go po bm n e N s l T m hm sd hsd hP t 0 ht True False c hc 0 0 (fun h=>h.elim) (hnew.mono fun v L h=>.inl ⟨trivial,h⟩)).mono fun v L h=>by
  rcases h with⟨_,h⟩ | ⟨h,_⟩
  ·exact h
  exact h.elim
theorem Cg (G:HP) (hGT:dR G) (hGO:fR G) (pa off go po bm n e N:Nat) (s:ArS) (l:Lay) (T:Tb) (m:List (ByteArray×Value)) (hm:iH m) (sd:Int) (hsd:0<=sd/\sd < 18446744073709551616) (hP:cd s off go l n e T) (t E:Nat) (ht:t=1\/t=2) (hN:N=t*n) (hN8:N=2 ^ E) (hE:E<=13) (hdep:0<=T.depth/\T.depth<=6) (hsm:((N*gN l:Nat):Int)<=1048576) (hfit:s.live+(64+aH ((N*gN l:Nat):Int))<=s.limit) (o1 g1:Nat) (ho1:s.at 64=o1) (hg1:(s.take 64).at (aH ((N*gN l:Nat):Int))=g1):aK Tryz.prog 209 #[.agg #[.pointer (some ⟨pa,0,none⟩),.int .i64 l.key,.int .i64 l.elem,.int .i64 l.ka,.int .i64 l.ea,.int .i64 l.cap,.int .i64 l.eo,.int .i64 l.bo,.int .i64 l.slot,.int .i64 l.group,.int .i64 (off:Nat)],.pointer (some ⟨po,0,none⟩),.int .u64 sd,.int .i64 (t:Nat)] [pt po (.cells #[.map (some bm)] 192 (0,0)),bG (fun k:ByteArray=>Value.string k) bm m,G,aj pa s] (fun v L=>∃ s',v=.tuple #[.agg #[.pointer (some ⟨pa,0,none⟩),.int .i64 l.key,.int .i64 l.elem,.int .i64 l.ka,.int .i64 l.ea,.int .i64 l.cap,.int .i64 l.eo,.int .i64 l.bo,.int .i64 l.slot,.int .i64 l.group,.int .i64 ((o1:Nat):Int)],.int .i64 0]/\L= [pt po (.cells #[.map (some bm)] 192 (0,0)),bG (fun k:ByteArray=>Value.string k) bm m,G,aj pa s']/\cd s' o1 g1 l N E (cw N (br m sd) T.cells T.depth (8*n))/\ej s s' (aH ((N*gN l:Nat):Int))/\fK s' g1 (N*gN l) (aH ((N*gN l:Nat):Int))):=by
 have hn8:=hP.n0
 have hslots:IntKind.i64.wrap (((t:Nat):Int)*(8*(n:Int)))=8*(N:Int):=by rw[wrap_i64 (by rcases ht with rfl | rfl <;> omega)];rcases ht with rfl | rfl <;> omega
 have hN0:0 < N:=by rcases ht with rfl | rfl <;> omega
 exact(vm G hGT hGO pa off go po bm n e N s l T m hm sd hsd hP t E ht False True 1 (by decide) o1 g1 (fun _=>⟨hN0,hN8,hsm,hfit,ho1,hg1⟩) ((l5 pa N E s l _ T.depth hP.hl hE hN8 hslots hdep hsm hfit o1 g1 ho1 hg1).mono fun v L h=>.inr ⟨trivial,h⟩)).mono fun v L h=>by
  rcases h with⟨h,_⟩ | ⟨_,h⟩
  ·exact h.elim
  exact h
theorem zE (pa off:Nat) (s:ArS) (l:Lay) (hng:¬ bt s (off:Nat) 8) (hne:s.all≠[]) (hpl:off<=1000000000) (po:Nat) (sd t:Int):
  aK Tryz.prog 209 #[.agg #[.pointer (some ⟨pa,0,none⟩),.int .i64 l.key,.int .i64 l.elem,.int .i64 l.ka,.int .i64 l.ea,.int .i64 l.cap,.int .i64 l.eo,.int .i64 l.bo,.int .i64 l.slot,.int .i64 l.group,.int .i64 (off:Nat)],.pointer (some ⟨po,0,none⟩),.int .u64 sd,.int .i64 t] [aj pa s] (fun v L=>v=.tuple #[.agg #[.pointer none,.int .i64 0,.int .i64 0,.int .i64 0,.int .i64 0,.int .i64 0,.int .i64 0,.int .i64 0,.int .i64 0,.int .i64 0,.int .i64 0],.int .i64 24]/\L= [aj pa s]):=by
 refine au EH Tryz.func209 rfl rfl rfl fun Fr w0=>aZ ?_
 refine sr<|bw O O fun b4=>eQ O O O fun b5=>eQ O O O fun b6=>ay O cM fun b8=>ar O O<|lz<|ad O (aO O bA aM) ?_
 refine bF O O O (fg pa off s l hng hne hpl) ?_
 refine mv O O<|ad O (aa O ga) ?_
 refine ad O (aa O ga) ?_
 refine ay O da fun b10=>bZ O O O cl O O ?_
 refine ar O O<|lc<|al<|sr<|mv O O<|ad O (qi O O (bf ·))<|lc<|aG O (fun z=>?_) fun z=>?_
 ·refine sr ?_
  apply ad O
  ·apply bp O qS cM
   exact aP.nil
  refine mv O O<|bZ O O O aM O O ?_
  refine ar O O<|lc<|rt ?_
  apply aR (.inl rfl) ([aj pa s])
  ·apply cF O
   ·apply Rv.agg rfl
    ·exact tk
    exact aJ bA aM O
   exact .tmp rfl
  ·exact⟨rfl,rfl⟩
  exact en
 exact absurd z (by decide)
section
variable (G:HP) (pa off po bm:Nat) (s:ArS) (l:Lay) (m:List (ByteArray×Value)) (sd:Int)
theorem ui (c:Int) (h:aK Tryz.prog 209 #[.agg #[.pointer (some ⟨pa,0,none⟩),.int .i64 l.key,.int .i64 l.elem,.int .i64 l.ka,.int .i64 l.ea,.int .i64 l.cap,.int .i64 l.eo,.int .i64 l.bo,.int .i64 l.slot,.int .i64 l.group,.int .i64 (off:Nat)],.pointer (some ⟨po,0,none⟩),.int .u64 sd,.int .i64 1] [pt po (.cells #[.map (some bm)] 192 (0,0)),bG (fun k:ByteArray=>Value.string k) bm m,G,aj pa s] (fun v L=>v=.tuple #[.agg #[.pointer none,.int .i64 0,.int .i64 0,.int .i64 0,.int .i64 0,.int .i64 0,.int .i64 0,.int .i64 0,.int .i64 0,.int .i64 0,.int .i64 0],.int .i64 c]/\L= [pt po (.cells #[.map (some bm)] 192 (0,0)),bG (fun k:ByteArray=>Value.string k) bm m,G,aj pa s])):
  aK Tryz.prog 151 #[.agg #[.pointer (some ⟨pa,0,none⟩),.int .i64 l.key,.int .i64 l.elem,.int .i64 l.ka,.int .i64 l.ea,.int .i64 l.cap,.int .i64 l.eo,.int .i64 l.bo,.int .i64 l.slot,.int .i64 l.group,.int .i64 (off:Nat)],.pointer (some ⟨po,0,none⟩),.int .u64 sd] [pt po (.cells #[.map (some bm)] 192 (0,0)),bG (fun k:ByteArray=>Value.string k) bm m,G,aj pa s] (fun v L=>v=.tuple #[.agg #[.pointer none,.int .i64 0,.int .i64 0,.int .i64 0,.int .i64 0,.int .i64 0,.int .i64 0,.int .i64 0,.int .i64 0,.int .i64 0,.int .i64 0],.int .i64 c]/\L= [pt po (.cells #[.map (some bm)] 192 (0,0)),bG (fun k:ByteArray=>Value.string k) bm m,G,aj pa s]):=by
 refine au EM Tryz.func151 rfl rfl rfl fun Fr w0=>aZ ?_
 refine sr<|bw O O fun b3=>ay O cM fun b6=>ar O O<|lz<|ad O (aO O bA aM) ?_
 refine mv O O<|mv O O<|bF O O O (h) ?_
 refine ad O (aa O ga) ?_
 refine ad O (aa O ga) ?_
 refine bZ O O O aM O O ?_
 refine ar O O<|lc<|rt ?_
 apply aR (.inl rfl) ([pt po (.cells #[.map (some bm)] 192 (0,0)),bG (fun k:ByteArray=>Value.string k) bm m,G,aj pa s])
 ·apply cF O
  ·apply Rv.agg rfl
   ·exact tk
   exact aJ bA aM O
  exact .tmp rfl
 ·exact⟨rfl,rfl⟩
 exact en
theorem rW (c:Int) (h:aK Tryz.prog 209 #[.agg #[.pointer (some ⟨pa,0,none⟩),.int .i64 l.key,.int .i64 l.elem,.int .i64 l.ka,.int .i64 l.ea,.int .i64 l.cap,.int .i64 l.eo,.int .i64 l.bo,.int .i64 l.slot,.int .i64 l.group,.int .i64 (off:Nat)],.pointer (some ⟨po,0,none⟩),.int .u64 sd,.int .i64 2] [pt po (.cells #[.map (some bm)] 192 (0,0)),bG (fun k:ByteArray=>Value.string k) bm m,G,aj pa s] (fun v L=>v=.tuple #[.agg #[.pointer none,.int .i64 0,.int .i64 0,.int .i64 0,.int .i64 0,.int .i64 0,.int .i64 0,.int .i64 0,.int .i64 0,.int .i64 0,.int .i64 0],.int .i64 c]/\L= [pt po (.cells #[.map (some bm)] 192 (0,0)),bG (fun k:ByteArray=>Value.string k) bm m,G,aj pa s])):
  aK Tryz.prog 152 #[.agg #[.pointer (some ⟨pa,0,none⟩),.int .i64 l.key,.int .i64 l.elem,.int .i64 l.ka,.int .i64 l.ea,.int .i64 l.cap,.int .i64 l.eo,.int .i64 l.bo,.int .i64 l.slot,.int .i64 l.group,.int .i64 (off:Nat)],.pointer (some ⟨po,0,none⟩),.int .u64 sd] [pt po (.cells #[.map (some bm)] 192 (0,0)),bG (fun k:ByteArray=>Value.string k) bm m,G,aj pa s] (fun v L=>v=.tuple #[.agg #[.pointer none,.int .i64 0,.int .i64 0,.int .i64 0,.int .i64 0,.int .i64 0,.int .i64 0,.int .i64 0,.int .i64 0,.int .i64 0,.int .i64 0],.int .i64 c]/\L= [pt po (.cells #[.map (some bm)] 192 (0,0)),bG (fun k:ByteArray=>Value.string k) bm m,G,aj pa s]):=by
 refine au EL Tryz.func152 rfl rfl rfl fun Fr w0=>aZ ?_
 refine sr<|bw O O fun b3=>ay O cM fun b6=>ar O O<|lz<|ad O (aO O bA aM) ?_
 refine mv O O<|mv O O<|bF O O O (h) ?_
 refine ad O (aa O ga) ?_
 refine ad O (aa O ga) ?_
 refine bZ O O O aM O O ?_
 refine ar O O<|lc<|rt ?_
 apply aR (.inl rfl) ([pt po (.cells #[.map (some bm)] 192 (0,0)),bG (fun k:ByteArray=>Value.string k) bm m,G,aj pa s])
 ·apply cF O
  ·apply Rv.agg rfl
   ·exact tk
   exact aJ bA aM O
  exact .tmp rfl
 ·exact⟨rfl,rfl⟩
 exact en
theorem yK (o1:Nat) (Q:ArS->Prop) (h:aK Tryz.prog 209 #[.agg #[.pointer (some ⟨pa,0,none⟩),.int .i64 l.key,.int .i64 l.elem,.int .i64 l.ka,.int .i64 l.ea,.int .i64 l.cap,.int .i64 l.eo,.int .i64 l.bo,.int .i64 l.slot,.int .i64 l.group,.int .i64 (off:Nat)],.pointer (some ⟨po,0,none⟩),.int .u64 sd,.int .i64 1] [pt po (.cells #[.map (some bm)] 192 (0,0)),bG (fun k:ByteArray=>Value.string k) bm m,G,aj pa s] (fun v L=>∃ s',v=.tuple #[.agg #[.pointer (some ⟨pa,0,none⟩),.int .i64 l.key,.int .i64 l.elem,.int .i64 l.ka,.int .i64 l.ea,.int .i64 l.cap,.int .i64 l.eo,.int .i64 l.bo,.int .i64 l.slot,.int .i64 l.group,.int .i64 ((o1:Nat):Int)],.int .i64 0]/\L= [pt po (.cells #[.map (some bm)] 192 (0,0)),bG (fun k:ByteArray=>Value.string k) bm m,G,aj pa s']/\Q s')):
  aK Tryz.prog 151 #[.agg #[.pointer (some ⟨pa,0,none⟩),.int .i64 l.key,.int .i64 l.elem,.int .i64 l.ka,.int .i64 l.ea,.int .i64 l.cap,.int .i64 l.eo,.int .i64 l.bo,.int .i64 l.slot,.int .i64 l.group,.int .i64 (off:Nat)],.pointer (some ⟨po,0,none⟩),.int .u64 sd] [pt po (.cells #[.map (some bm)] 192 (0,0)),bG (fun k:ByteArray=>Value.string k) bm m,G,aj pa s] (fun v L=>∃ s',v=.tuple #[.agg #[.pointer (some ⟨pa,0,none⟩),.int .i64 l.key,.int .i64 l.elem,.int .i64 l.ka,.int .i64 l.ea,.int .i64 l.cap,.int .i64 l.eo,.int .i64 l.bo,.int .i64 l.slot,.int .i64 l.group,.int .i64 ((o1:Nat):Int)],.int .i64 0]/\L= [pt po (.cells #[.map (some bm)] 192 (0,0)),bG (fun k:ByteArray=>Value.string k) bm m,G,aj pa s']/\Q s'):=by
 refine au EM Tryz.func151 rfl rfl rfl fun Fr w0=>aZ ?_
 refine sr<|bw O O fun b3=>ay O cM fun b6=>ar O O<|lz<|ad O (aO O bA aM) ?_
 refine mv O O<|mv O O<|cT O O O (h) ?_
 rintro v L' ⟨s',rfl,rfl,hq⟩
 refine bx ?_
 refine ad O (aa O ga) ?_
 refine ad O (aa O ga) ?_
 refine bZ O O O aM O O ?_
 refine ar O O<|lc<|rt ?_
 apply aR (.inl rfl) ([pt po (.cells #[.map (some bm)] 192 (0,0)),bG (fun k:ByteArray=>Value.string k) bm m,G,aj pa s'])
 ·apply cF O
  ·apply Rv.agg rfl
   ·exact tk
   exact aJ bA aM O
  exact .tmp rfl
 ·exact⟨s',rfl,rfl,hq⟩
 exact en
theorem wV (o1:Nat) (Q:ArS->Prop) (h:aK Tryz.prog 209 #[.agg #[.pointer (some ⟨pa,0,none⟩),.int .i64 l.key,.int .i64 l.elem,.int .i64 l.ka,.int .i64 l.ea,.int .i64 l.cap,.int .i64 l.eo,.int .i64 l.bo,.int .i64 l.slot,.int .i64 l.group,.int .i64 (off:Nat)],.pointer (some ⟨po,0,none⟩),.int .u64 sd,.int .i64 2] [pt po (.cells #[.map (some bm)] 192 (0,0)),bG (fun k:ByteArray=>Value.string k) bm m,G,aj pa s] (fun v L=>∃ s',v=.tuple #[.agg #[.pointer (some ⟨pa,0,none⟩),.int .i64 l.key,.int .i64 l.elem,.int .i64 l.ka,.int .i64 l.ea,.int .i64 l.cap,.int .i64 l.eo,.int .i64 l.bo,.int .i64 l.slot,.int .i64 l.group,.int .i64 ((o1:Nat):Int)],.int .i64 0]/\L= [pt po (.cells #[.map (some bm)] 192 (0,0)),bG (fun k:ByteArray=>Value.string k) bm m,G,aj pa s']/\Q s')):
  aK Tryz.prog 152 #[.agg #[.pointer (some ⟨pa,0,none⟩),.int .i64 l.key,.int .i64 l.elem,.int .i64 l.ka,.int .i64 l.ea,.int .i64 l.cap,.int .i64 l.eo,.int .i64 l.bo,.int .i64 l.slot,.int .i64 l.group,.int .i64 (off:Nat)],.pointer (some ⟨po,0,none⟩),.int .u64 sd] [pt po (.cells #[.map (some bm)] 192 (0,0)),bG (fun k:ByteArray=>Value.string k) bm m,G,aj pa s] (fun v L=>∃ s',v=.tuple #[.agg #[.pointer (some ⟨pa,0,none⟩),.int .i64 l.key,.int .i64 l.elem,.int .i64 l.ka,.int .i64 l.ea,.int .i64 l.cap,.int .i64 l.eo,.int .i64 l.bo,.int .i64 l.slot,.int .i64 l.group,.int .i64 ((o1:Nat):Int)],.int .i64 0]/\L= [pt po (.cells #[.map (some bm)] 192 (0,0)),bG (fun k:ByteArray=>Value.string k) bm m,G,aj pa s']/\Q s'):=by
 refine au EL Tryz.func152 rfl rfl rfl fun Fr w0=>aZ ?_
 refine sr<|bw O O fun b3=>ay O cM fun b6=>ar O O<|lz<|ad O (aO O bA aM) ?_
 refine mv O O<|mv O O<|cT O O O (h) ?_
 rintro v L' ⟨s',rfl,rfl,hq⟩
 refine bx ?_
 refine ad O (aa O ga) ?_
 refine ad O (aa O ga) ?_
 refine bZ O O O aM O O ?_
 refine ar O O<|lc<|rt ?_
 apply aR (.inl rfl) ([pt po (.cells #[.map (some bm)] 192 (0,0)),bG (fun k:ByteArray=>Value.string k) bm m,G,aj pa s'])
 ·apply cF O
  ·apply Rv.agg rfl
   ·exact tk
   exact aJ bA aM O
  exact .tmp rfl
 ·exact⟨s',rfl,rfl,hq⟩
 exact en
end
end Plays
end Go.Proofs.YthkajgkagnenbaaGreatDoor
