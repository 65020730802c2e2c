import Derived.Test.YthkajgkagnenbaaGreatDoorGpS
import Derived.KernelRfl
set_option linter.unusedVariables false
set_option linter.unusedSimpArgs false
set_option linter.unusedSectionVars false
set_option maxRecDepth 100000
namespace Go.Proofs.YthkajgkagnenbaaGreatDoor
namespace Plays
open Go.RowKit Go.Proofs Grow Exact Eng Ty Mem Arena CtrlB Ctrl Layout GroupB TableB Table Refill Oracle Ref03
def iv:Lay:=⟨1,0,1,1,16⟩
theorem FG:iv.err=0:=by kernel_rfl
theorem G5:gN iv=136:=by kernel_rfl
theorem xR {b o:Nat} {cs:Array Value} {t:TypeId} {r:Nat×Nat} {v:Value} (hv:cs[o]?=some v):dt (pt b (.cells cs t r)) ⟨b,o,none⟩ v:=fun w hs=>by
 have:=lE hs
 simp[World.cell?,this,hv]
theorem xx (b:Nat):aK Tryz.prog 25 #[.slice (some ⟨b,0,none⟩) 5 5] [pt b (.cells #[.int .i64 1,.int .i64 0,.int .i64 1,.int .i64 1,.int .i64 16] 3 (0,0))]
  (fun v L=>v=.tuple #[.agg #[.int .i64 iv.key,.int .i64 iv.elem,.int .i64 iv.ka,.int .i64 iv.ea,.int .i64 iv.cap,.int .i64 iv.eo,.int .i64 iv.bo,.int .i64 iv.slot,.int .i64 iv.group],.int .i64 0]/\L= [pt b (.cells #[.int .i64 1,.int .i64 0,.int .i64 1,.int .i64 1,.int .i64 16] 3 (0,0))]):=by
 refine aK.mono (Ref03.Parse_ok (pt b (.cells #[.int .i64 1,.int .i64 0,.int .i64 1,.int .i64 1,.int .i64 16] 3 (0,0))) (.slice (some ⟨b,0,none⟩) 5 5) [1,0,1,1,16] ⟨some ⟨b,0,none⟩,5,rfl,fun _=>⟨b,0,rfl,fun i x hx=>xR ?_⟩⟩) fun v L h=>?_
 ·rw[Nat.zero_add]
  match i,hx with
  | 0,hx | 1,hx | 2,hx | 3,hx | 4,hx=>cases hx;rfl
  | i+5,hx=>simp at hx
 obtain⟨rfl,h⟩:=h
 rcases h with⟨_,_,rfl⟩ | ⟨h,_⟩
 ·exact⟨rfl,rfl⟩
 exact absurd (by kernel_rfl) h
def BG:ByteArray:=⟨#[97]⟩
def BF:ByteArray:=⟨#[98]⟩
def oH:List (ByteArray×Int):=[(BG,0),(BF,9223372036854775808)]
def KC:ByteArray->Int:=br (bu oH) 9
theorem FJ:ix oH:=by
 refine⟨by decide,fun i o ho=>?_⟩
 match i,ho with
 | 0,ho=>cases ho;exact⟨by decide,by decide,fun j p hj=>absurd hj (Nat.not_lt_zero _)⟩
 | 1,ho=>
  cases ho
  refine⟨by decide,by decide,fun j p hj hp=>?_⟩
  obtain rfl:j=0:=by omega
  cases hp
  exact fun e=>absurd (congrArg ByteArray.data e) (by decide)
 | i+2,ho=>simp[oH] at ho
theorem JF:iH (bu oH):=fE fun o ho=>by
 simp only[oH,List.mem_cons,List.not_mem_nil,or_false] at ho
 rcases ho with rfl | rfl <;> decide
def tA:Tb:=(eD 2 (cR 2 0) 0 BG ⟨#[]⟩ 3).2
def Da:Tb:=(eD 2 tA 9223372036854775808 BF ⟨#[]⟩ 4).2
theorem JD:(eD 2 (cR 2 0) 0 BG ⟨#[]⟩ 3).1=2:=by kernel_rfl
theorem JC:(eD 2 tA 9223372036854775808 BF ⟨#[]⟩ 4).1=2:=by kernel_rfl
theorem JI:(cw 2 (br (bu oH) 9) (side (br (bu oH) 9) Da.depth Da.cells 0) (Da.depth+1) (8*2)).cells 0=.full 0 BG ⟨#[]⟩ 3:=by kernel_rfl
theorem G0:(cw 2 (br (bu oH) 9) (side (br (bu oH) 9) Da.depth Da.cells 1) (Da.depth+1) (8*2)).cells 0=.full 0 BF ⟨#[]⟩ 4:=by kernel_rfl
theorem I6:64+aH ((2*gN iv:Nat):Int)+(64+aH ((2*gN iv:Nat):Int))+(64+aH ((2*gN iv:Nat):Int))<=4096/\0<=aH ((2*gN iv:Nat):Int):=by rw[G5];decide
theorem Ds (b:Nat):jR (pt b (.cells #[.string ⟨#[97]⟩,.int .u64 0,.string ⟨#[98]⟩,.int .u64 9223372036854775808] 134 (0,0))) (.slice (some ⟨b,0,none⟩) 2 2) oH:=
 ⟨some ⟨b,0,none⟩,2,rfl,fun _=>⟨b,0,rfl,fun i t ht j x hx=>by
  have hi:i < 2:=(List.getElem?_eq_some_iff.1 ht).1
  have hj:j < 2:=(List.getElem?_eq_some_iff.1 hx).1
  refine xR ?_
  rw[Nat.zero_add]
  match i,j,hi,hj,ht,hx with
  | 0,0,_,_,ht,hx=>cases ht;cases hx;rfl
  | 0,1,_,_,ht,hx=>cases ht;cases hx;rfl
  | 1,0,_,_,ht,hx=>cases ht;cases hx;rfl
  | 1,1,_,_,ht,hx=>cases ht;cases hx;rfl⟩⟩
theorem Dp (G:HP) (hGT:dR G) (pa off go:Nat) (s:ArS) (hP:cd s off go iv 2 1 (cR 2 0)):
  aK Tryz.prog 53 #[.agg #[.pointer (some ⟨pa,0,none⟩),.int .i64 iv.key,.int .i64 iv.elem,.int .i64 iv.ka,.int .i64 iv.ea,.int .i64 iv.cap,.int .i64 iv.eo,.int .i64 iv.bo,.int .i64 iv.slot,.int .i64 iv.group,.int .i64 (off:Nat)],.int .u64 0,.string ⟨#[97]⟩,.string ⟨#[]⟩,.int .i64 3] [G,aj pa s] (fun v L=>∃ s',v=.tuple #[.int .i64 2,.int .i64 0]/\L= [G,aj pa s']/\cd s' off go iv 2 1 tA/\cb s s' off go (2*gN iv)):=by
 refine aK.mono (oi G hGT pa off go 2 1 s iv (cR 2 0) hP 0 (by decide) BG ⟨#[]⟩ (by kernel_rfl) (by kernel_rfl) 3 (by decide) (by decide) (by decide)) fun v L h=>?_
 obtain⟨s',rfl,rfl,h1,h2⟩:=h
 exact⟨s',by rw[JD],rfl,h1,h2⟩
theorem Dn (G:HP) (hGT:dR G) (pa off go:Nat) (s:ArS) (hP:cd s off go iv 2 1 tA):
  aK Tryz.prog 53 #[.agg #[.pointer (some ⟨pa,0,none⟩),.int .i64 iv.key,.int .i64 iv.elem,.int .i64 iv.ka,.int .i64 iv.ea,.int .i64 iv.cap,.int .i64 iv.eo,.int .i64 iv.bo,.int .i64 iv.slot,.int .i64 iv.group,.int .i64 (off:Nat)],.int .u64 9223372036854775808,.string ⟨#[98]⟩,.string ⟨#[]⟩,.int .i64 4] [G,aj pa s] (fun v L=>∃ s',v=.tuple #[.int .i64 2,.int .i64 0]/\L= [G,aj pa s']/\cd s' off go iv 2 1 Da/\cb s s' off go (2*gN iv)):=by
 have hu:tA.used=1:=by kernel_rfl
 have hl:tA.left=13:=by kernel_rfl
 refine aK.mono (oi G hGT pa off go 2 1 s iv tA hP 9223372036854775808 (by decide) BF ⟨#[]⟩ (by kernel_rfl) (by kernel_rfl) 4 (by decide) (by rw[hu];decide) (by rw[hl];decide)) fun v L h=>?_
 obtain⟨s',rfl,rfl,h1,h2⟩:=h
 exact⟨s',by rw[JC],rfl,h1,h2⟩
theorem u6 (pa off go n e:Nat) (s:ArS) (l:Lay) (T:Tb) (hP:cd s off go l n e T) (c:Cell) (hc:T.cells 0=c):
  aK Tryz.prog 56 #[.agg #[.pointer (some ⟨pa,0,none⟩),.int .i64 l.key,.int .i64 l.elem,.int .i64 l.ka,.int .i64 l.ea,.int .i64 l.cap,.int .i64 l.eo,.int .i64 l.bo,.int .i64 l.slot,.int .i64 l.group,.int .i64 (off:Nat)],.int .i64 0] [aj pa s] (fun v L=>v=.tuple #[.agg #[.int .i64 c.kind,.int .i64 c.tagI,.string c.keyS,.string c.elemS,.int .i64 c.birthI],.int .i64 0]/\L= [aj pa s]):=by
 subst hc
 exact vK pa off go n e s l T hP 0 (by have:=hP.n0;omega)
theorem EU:Da.depth=0:=by kernel_rfl
theorem uZ (G:HP) (hGT:dR G) (hGO:fR G):aK Tryz.prog 21 #[] [G] (fun v L=>v=.bool true/\L= [G]):=by
 obtain⟨hfit,hc1⟩:=I6
 have e1:(ArS.new 4096).live=0:=rfl
 have e2:(ArS.new 4096).limit=4096:=rfl
 have hsm:((2*gN iv:Nat):Int)<=1048576:=by rw[G5];decide
 obtain⟨o0,ho0⟩:∃ o,(ArS.new 4096).at 64=o:=⟨_,rfl⟩
 obtain⟨g0,hg0⟩:∃ g,((ArS.new 4096).take 64).at (aH ((2*gN iv:Nat):Int))=g:=⟨_,rfl⟩
 refine au Km Tryz.func21 rfl rfl rfl fun Fr w0=>aZ ?_
 refine sr<|ar O O<|lz<|cT O O O (Arena.New_ok 4096 (by decide)) ?_
 rintro v L' ⟨pa,rfl,rfl⟩
 refine bx ?_
 refine mv O O<|ad O (aa O ga) ?_
 refine ad O (aa O ga) ?_
 refine ar O O<|ar O O<|lz ?_
 apply ad O
 ·apply bp O El ra
  apply aP.one
  ·repeat (first | exact ba.here | apply ba.there)
  ·rfl
  ·exact sa
  apply aP.one
  ·repeat (first | exact ba.here | apply ba.there)
  ·rfl
  ·exact sa
  exact aP.nil
 apply ad O
 ·apply bp O El ra
  apply aP.one
  ·repeat (first | exact ba.here | apply ba.there)
  ·rfl
  ·exact sa
  apply aP.one
  ·repeat (first | exact ba.here | apply ba.there)
  ·rfl
  ·exact sa
  exact aP.nil
 refine fD (us:=[_,_]) rfl rfl jU iJ ra rfl rfl rfl rfl rfl (fun b22=>?_)
 rw[show([Value.agg #[.string ⟨#[97]⟩,.int .u64 0],.agg #[.string ⟨#[98]⟩,.int .u64 9223372036854775808]].flatMap fun x=>x.cells.toList).toArray=#[.string ⟨#[97]⟩,.int .u64 0,.string ⟨#[98]⟩,.int .u64 9223372036854775808] from rfl]
 refine cT O O O (Dw (pt b22 (.cells #[.string ⟨#[97]⟩,.int .u64 0,.string ⟨#[98]⟩,.int .u64 9223372036854775808] 134 (0,0))) (.slice (some ⟨b22,0,none⟩) 2 2) oH (Ds b22) FJ) ?_
 rintro v L' ⟨po,bm,rfl,rfl⟩
 refine bx ?_
 refine mv O O<|ad O (aa O ga) ?_
 refine ad O (aa O ga) ?_
 refine ar O O<|ar O O<|lz ?_
 refine bR [_,_,_,_,_] rfl rfl bI aN sj rfl rfl rfl rfl (fun b27=>?_)
 refine bF O O O (xx b27) ?_
 refine mv O O<|ad O (aa O ga) ?_
 refine ad O (aa O ga) ?_
 refine ay O gB fun b5=>bZ O O O bH O O ?_
 refine ar O O<|lc<|al<|sr<|mv O O<|ad O (qi O O (bf ·))<|mv O O<|bQ (t:=33) rfl (fun c1=>?_) fun c1=>?_
 ·exact absurd rfl c1
 refine aA O O<|mv O O<|aA O O<|ad O (qi O O (bf ·))<|ad O (aS O O)<|mv O O<|bQ (t:=37) rfl (fun c2=>?_) fun c2=>?_
 ·exact absurd rfl c2
 refine aA O O<|mv O O<|aA O O<|ad O (gI O O (fH ·) (mh · Gw))<|ad O (aS O O)<|mv O O<|bQ (t:=41) rfl (fun c3=>?_) fun c3=>?_
 ·simp at c3
 refine aA O O<|mv O O<|aA O O<|ad O (gI O O (fH ·) (mh · Gv))<|ad O (aS O O)<|lc<|aG O (fun c4=>?_) fun c4=>?_
 ·simp at c4
 refine aq<|nz<|mv O O<|ad O (aO O cZ bH) ?_
 refine cT O O O (l5 pa 2 1 (ArS.new 4096) iv 16 0 FG (by decide) rfl rfl (by decide) hsm (by omega) o0 g0 ho0 hg0) ?_
 rintro v L' ⟨s1,rfl,rfl,hT0,hN0,_⟩
 refine bx ?_
 refine mv O O<|ad O (aa O ga) ?_
 refine ad O (aa O ga) ?_
 refine ay O cM fun b7=>bZ O O O aM O O ?_
 refine ar O O<|lc<|al<|sr<|mv O O<|ad O (qi O O (bf ·))<|lc<|aG O (fun c5=>?_) fun c5=>?_
 ·exact absurd rfl c5
 refine aq<|nz<|ad O (aO O bA aM) ?_
 refine cT O O O (Dp G hGT pa o0 g0 s1 hT0) ?_
 rintro v L' ⟨s2,rfl,rfl,hT1,hS1⟩
 refine bx ?_
 refine mv O O<|ad O (aa O ga) ?_
 refine ad O (aa O ga) ?_
 refine ar O O<|ar O O<|lz<|ad O (aO O bA aM) ?_
 refine cT O O O (Dn G hGT pa o0 g0 s2 hT1) ?_
 rintro v L' ⟨s3,rfl,rfl,hT2,hS2⟩
 refine bx ?_
 refine mv O O<|ad O (aa O ga) ?_
 refine ad O (aa O ga) ?_
 refine ar O O<|ar O O<|lz<|ad O (aO O bA aM) ?_
 refine mv O O ?_
 have hl3:s3.live=s1.live:=hS2.live.trans hS1.live
 obtain⟨o1,ho1⟩:∃ o,s3.at 64=o:=⟨_,rfl⟩
 obtain⟨g1,hg1⟩:∃ g,(s3.take 64).at (aH ((2*gN iv:Nat):Int))=g:=⟨_,rfl⟩
 have hl1:=hN0.live
 have hi3:s3.limit=4096:=hS2.limit.trans (hS1.limit.trans hN0.limit)
 obtain⟨o2,ho2⟩:∃ o,((s3.take 64).take (aH ((2*gN iv:Nat):Int))).at 64=o:=⟨_,rfl⟩
 obtain⟨g2,hg2⟩:∃ g,(((s3.take 64).take (aH ((2*gN iv:Nat):Int))).take 64).at (aH ((2*gN iv:Nat):Int))=g:=⟨_,rfl⟩
 refine cT O O O (sf G hGT hGO pa o0 g0 po bm 2 1 s3 iv Da (bu oH) JF 9 (by decide) hT2 (by rw[EU];decide) (by rw[EU];decide) hsm (by omega) o1 g1 ho1 hg1 o2 g2 ho2 hg2) ?_
 rintro v L' ⟨s4,t5,s5,rfl,rfl,_,_,hN4,_,_,_,_,_,_,hA1,hA2⟩
 refine bx ?_
 refine mv O O<|ad O (aa O ga) ?_
 refine ad O (aa O ga) ?_
 refine ad O (aa O ga) ?_
 refine ay O cM fun b10=>ay O cM fun b11=>bZ O O O aM O O ?_
 refine bZ O O O aM O O ?_
 refine ar O O<|lc<|al<|sr<|mv O O<|ad O (qi O O (bf ·))<|mv O O<|bQ (t:=72) rfl (fun d1=>?_) fun d1=>?_
 ·exact absurd rfl d1
 refine aA O O<|mv O O<|aA O O<|ad O (qi O O (bf ·))<|ad O (aS O O)<|mv O O<|bQ (t:=76) rfl (fun d2=>?_) fun d2=>?_
 ·exact absurd rfl d2
 refine aA O O<|mv O O<|aA O O<|ad O (qi O O (bf ·))<|ad O (aS O O)<|mv O O<|bQ (t:=80) rfl (fun d3=>?_) fun d3=>?_
 ·exact absurd rfl d3
 refine aA O O<|mv O O<|aA O O<|ad O (qi O O (bf ·))<|ad O (aS O O)<|mv O O<|bQ (t:=84) rfl (fun d4=>?_) fun d4=>?_
 ·exact absurd rfl d4
 refine aA O O<|mv O O<|aA O O<|ad O (qi O O (bf ·))<|ad O (aS O O)<|mv O O<|bQ (t:=88) rfl (fun d5=>?_) fun d5=>?_
 ·exact absurd rfl d5
 refine aA O O<|ad O (aO O bA aM) ?_
 refine aA O O<|bF O O O (fJ pa iv (o1:Nat)) ?_
 refine aA O O<|mv O O<|aA O O<|ad O (gI O O (fH ·) (tp · Tryz.underlying31 Am))<|ad O (aS O O)<|mv O O<|bQ (t:=94) rfl (fun d6=>?_) fun d6=>?_
 ·cases d6
 refine aA O O<|ad O (aO O bA aM) ?_
 refine aA O O<|bF O O O (fJ pa iv (o2:Nat)) ?_
 refine aA O O<|mv O O<|aA O O<|ad O (gI O O (fH ·) (tp · Tryz.underlying31 Am))<|ad O (aS O O)<|lc<|aG O (fun d7=>?_) fun d7=>?_
 ·cases d7
 refine aq<|nz<|ad O (aO O bA aM) ?_
 refine bF O O O (u6 pa o1 g1 2 1 s5 iv _ hA1 _ JI) ?_
 refine mv O O<|ad O (aa O ga) ?_
 refine ad O (aa O ga) ?_
 refine ay O dF fun b13=>bZ O O O bV O O ?_
 refine ar O O<|lz<|ad O (aO O bA aM) ?_
 refine bF O O O (u6 pa o2 g2 2 1 s5 iv _ hA2 _ G0) ?_
 refine mv O O<|ad O (aa O ga) ?_
 refine ad O (aa O ga) ?_
 refine ay O dF fun b14=>bZ O O O bV O O ?_
 refine ar O O<|lz<|mv O O<|ad O (qi O O (bN ·))<|mv O O<|bQ (t:=112) rfl (fun y1=>?_) fun y1=>?_
 ·refine aA O O<|mv O O<|aA O O<|ad O (qi O O (bN ·))<|ad O (aS O O)<|mv O O<|bQ (t:=116) rfl (fun y2=>?_) fun y2=>?_
  ·refine aA O O<|ad O (aE 2 O cq O O fA)<|aA O O<|ad O (aI O fS) ?_
   refine aA O O<|ad O (qs O O (lO ·))<|ad O (aS O O)<|mv O O<|bQ (t:=121) rfl (fun y3=>?_) fun y3=>?_
   ·refine aA O O<|ad O (aE 4 O cq O O aN)<|aA O O<|ad O (aI O aX) ?_
    refine aA O O<|ad O (qi O O (bN ·))<|ad O (aS O O)<|mv O O<|bQ (t:=126) rfl (fun y4=>?_) fun y4=>?_
    ·refine aA O O<|ad O (aE 2 O cq O O fA)<|aA O O<|ad O (aI O fS) ?_
     refine aA O O<|ad O (qs O O (lO ·))<|ad O (aS O O)<|mv O O<|bQ (t:=131) rfl (fun y5=>?_) fun y5=>?_
     ·refine aA O O<|ad O (aE 4 O cq O O aN)<|aA O O<|ad O (aI O aX) ?_
      refine aA O O<|ad O (qi O O (bN ·))<|ad O (aS O O)<|mv O O<|bQ (t:=136) rfl (fun y6=>?_) fun y6=>?_
      ·refine aA O O ?_
       apply ad O
       ·apply bp O tI da
        apply aP.one
        ·repeat (first | exact ba.here | apply ba.there)
        ·rfl
        ·exact sa
        apply aP.one
        ·repeat (first | exact ba.here | apply ba.there)
        ·rfl
        ·exact sa
        exact aP.nil
       refine aA O O<|bF O O O (Af 8 16 0 0 0 0 0 32 false (by decide)) ?_
       refine aA O O<|ad O (qi O O (bN ·))<|ad O (aS O O)<|ar O O<|lc<|rt<|cN O ([G]) (.tmp rfl) ?_
       exact⟨by rw[show gP 8 16 0 32=2 from by kernel_rfl];rfl,rfl⟩
      exact absurd rfl y6
     exact absurd rfl y5
    exact absurd rfl y4
   exact absurd rfl y3
  exact absurd rfl y2
 exact absurd rfl y1
end Plays
end Go.Proofs.YthkajgkagnenbaaGreatDoor
