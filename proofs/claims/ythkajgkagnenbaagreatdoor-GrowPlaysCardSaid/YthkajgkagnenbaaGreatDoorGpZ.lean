import Derived.Test.YthkajgkagnenbaaGreatDoorGpK
import Derived.Test.YthkajgkagnenbaaGreatDoorGpF
set_option linter.unusedVariables false
set_option linter.unusedSimpArgs false
set_option linter.unusedSectionVars false
set_option maxRecDepth 100000
namespace Go.Proofs.YthkajgkagnenbaaGreatDoor
section
namespace Plays
open Go.RowKit Go.Proofs Eng Ty Arena Layout Exact RefT
section
variable (pb pa po pr bq:Nat) (l:Lay) (hl:l.err=0) (sdP:Int) (s:ArS) (hs:s.ok) (ps:List PR) (vM vO:Value) (k:Nat) (x:PR) (hx:ps[k]?=some x) (hO:One s l x) (hov:x.over=false)
include hl hs hx hO hov
theorem Di:aK Tryz.prog 24 #[.pointer (some ⟨pb,0,none⟩),.int .i64 (k:Nat)] [ca pr l ps,pt pb (.cells #[.pointer (some ⟨pa,0,none⟩),.pointer (some ⟨po,0,none⟩),.pointer (some ⟨pr,0,none⟩),.pointer (some ⟨bq,0,none⟩),.int .i64 l.key,.int .i64 l.elem,.int .i64 l.ka,.int .i64 l.ea,.int .i64 l.cap,.int .i64 l.eo,.int .i64 l.bo,.int .i64 l.slot,.int .i64 l.group,.int .u64 sdP,vM,vO] 93 (0,0)),aF 39 11 vM ps.length (rowOf (bX pa l) ps),aF 40 1 vO ps.length (bL ps),aj pa s] (fun v L=>v=.bool true/\L= [ca pr l ps,pt pb (.cells #[.pointer (some ⟨pa,0,none⟩),.pointer (some ⟨po,0,none⟩),.pointer (some ⟨pr,0,none⟩),.pointer (some ⟨bq,0,none⟩),.int .i64 l.key,.int .i64 l.elem,.int .i64 l.ka,.int .i64 l.ea,.int .i64 l.cap,.int .i64 l.eo,.int .i64 l.bo,.int .i64 l.slot,.int .i64 l.group,.int .u64 sdP,vM,vO] 93 (0,0)),aF 39 11 vM ps.length (rowOf (bX pa l) ps),aF 40 1 vO ps.length (bL ps),aj pa s]):=by
 have hk:k < ps.length:=(List.getElem?_eq_some_iff.1 hx).1
 have hptr:=gb hx
 obtain⟨hn0,hn8⟩:=One.nn hO
 refine au Kk Tryz.func24 rfl rfl rfl fun Fr w0=>aZ ?_
 refine gj hx .here ?_
 refine bU (.there (.there (.there .here))) fun _ hvm=>?_
 obtain⟨a0,cap,rfl,ha,_,_⟩:=hvm
 obtain⟨g0,rfl⟩:=ha (by omega)
 refine bU (.there (.there (.there (.there .here)))) fun _ hvo=>?_
 obtain⟨a1,cap1,rfl,ha1,_,_⟩:=hvo
 obtain⟨g1,rfl⟩:=ha1 (by omega)
 cases hd:x.dead with
 | true=>
  have hst:kg x=(#[.int .i64 0,.int .i64 0,.int .i64 0,.int .i64 0,.int .i64 0,.int .i64 0,.bool false,.int .i64 0],24):=by unfold kg;rw[if_pos hd]
  refine sr<|ar O O<|lz<|mv O O<|ad O (ae O)<|ad O (aE 14 O bY O O gC)<|ad O (aI O gX) ?_
  refine mv O O<|ad O (aL O O gW aM (by omega)) ?_
  apply ad O
  ·apply cg (A:=aF 39 11 (.slice (some ⟨g0,0,none⟩) ps.length cap) ps.length (rowOf (bX pa l) ps)) (us:=[.pointer (some ⟨pa,0,none⟩),.int .i64 l.key,.int .i64 l.elem,.int .i64 l.ka,.int .i64 l.ea,.int .i64 l.cap,.int .i64 l.eo,.int .i64 l.bo,.int .i64 l.slot,.int .i64 l.group,.int .i64 (x.off:Nat)]) rfl bA aM rfl
   ·exact tk
   exact cK hx _ _ _
  refine bF O O O (EY pa s hs l hl x hO hov) ?_
  rw[hst]
  refine mv O O<|ad O (aa O ga) ?_
  refine ad O (aa O ga) ?_
  refine ay O da fun b5=>bZ O O O cl O O ?_
  refine ar O O<|lz<|mv O O<|ad O (ae O)<|ad O (aE 15 O bY O O jD)<|ad O (aI O ke) ?_
  refine mv O O<|ad O (az O O j7 lu (by omega)) ?_
  apply ad O
  ·apply aT O mn
   ·exact tk
   exact hptr
  refine bF O O O (vt pr l x hn8 hO.rng) ?_
  rw[hst]
  refine mv O O<|ad O (aa O ga) ?_
  refine ad O (aa O ga) ?_
  refine ay O da fun b7=>bZ O O O cl O O ?_
  refine ar O O<|lc<|al<|sr<|ad O (aO O eY cl) ?_
  refine ad O (aO O eY cl) ?_
  refine ad O (gI O O (mJ · Ep) fun w=>kB w bP En (by kernel_rfl) (by kernel_rfl)) ?_
  refine mv O O<|bQ (t:=39) rfl (fun p1=>?_) fun p1=>?_
  ·exact absurd p1 (by simp)
  refine aA O O<|mv O O<|aA O O<|mv O O<|aA O O<|ad O (qi O O (bf ·))<|ad O (aS O O)<|lc<|aG O (fun p2=>?_) fun p2=>?_
  ·exact absurd p2 (by simp)
  refine aq<|an<|al<|sr<|ar O O<|lc<|aB ?_
  refine bK (fun i:Nat=>i<=8*x.n) (fun i=>[(0,.pointer (some ⟨pb,0,none⟩)),(1,.int .i64 (k:Nat)),(9,.int .i64 (i:Nat))]) (fun _=>cz pr l x::ca pr l (ps.eraseIdx k)::pt pb (.cells #[.pointer (some ⟨pa,0,none⟩),.pointer (some ⟨po,0,none⟩),.pointer (some ⟨pr,0,none⟩),.pointer (some ⟨bq,0,none⟩),.int .i64 l.key,.int .i64 l.elem,.int .i64 l.ka,.int .i64 l.ea,.int .i64 l.cap,.int .i64 l.eo,.int .i64 l.bo,.int .i64 l.slot,.int .i64 l.group,.int .u64 sdP,(.slice (some ⟨g0,0,none⟩) ps.length cap),(.slice (some ⟨g1,0,none⟩) ps.length cap1)] 93 (0,0))::aF 39 11 (.slice (some ⟨g0,0,none⟩) ps.length cap) ps.length (rowOf (bX pa l) ps)::aF 40 1 (.slice (some ⟨g1,0,none⟩) ps.length cap1) ps.length (bL ps)::aj pa s::Fr) (fun i=>8*x.n-i) 0 (Nat.zero_le _) ⟨rfl,rfl,rfl,trivial⟩ (by(exact en)) ?_
  intro i hi
  refine cL .here fun vc=>?_
  refine bU (.there .here) fun _ hvc=>?_
  obtain⟨ac,capc,rfl,_,_,_⟩:=hvc
  refine al<|sr<|mv O O<|mv O O<|ad O (ae O)<|ad O (aE 15 O bY O O jD)<|ad O (aI O ke) ?_
  refine mv O O<|ad O (az O O j7 lu (by omega)) ?_
  apply ad O
  ·apply aT O mn
   ·exact tk
   exact hptr
  refine ad O (ae O)<|ad O (aE 19 O bT O O eH)<|ad O (aI O eI) ?_
  refine ad O (ql O ef)<|ad O (qi O O (bj ·))<|lc<|aG O (fun h1=>?_) fun h1=>?_
  ·refine il (L':=cz pr l x::ca pr l (ps.eraseIdx k)::pt pb (.cells #[.pointer (some ⟨pa,0,none⟩),.pointer (some ⟨po,0,none⟩),.pointer (some ⟨pr,0,none⟩),.pointer (some ⟨bq,0,none⟩),.int .i64 l.key,.int .i64 l.elem,.int .i64 l.ka,.int .i64 l.ea,.int .i64 l.cap,.int .i64 l.eo,.int .i64 l.bo,.int .i64 l.slot,.int .i64 l.group,.int .u64 sdP,(.slice (some ⟨g0,0,none⟩) ps.length cap),(.slice (some ⟨g1,0,none⟩) ps.length cap1)] 93 (0,0))::aF 39 11 (.slice (some ⟨g0,0,none⟩) ps.length cap) ps.length (rowOf (bX pa l) ps)::aF 40 1 (.slice (some ⟨g1,0,none⟩) ps.length cap1) ps.length (bL ps)::aj pa s::Fr) (fun w h=>bC (.slice ac (8*x.n) capc) (by(exact en)) w h) ?_
   refine aq<|an<|al<|aB<|sr<|mv O O<|ad O (ae O)<|ad O (aE 14 O bY O O gC)<|ad O (aI O gX) ?_
   refine mv O O<|ad O (aL O O gW aM (by omega)) ?_
   apply ad O
   ·apply cg (A:=aF 39 11 (.slice (some ⟨g0,0,none⟩) ps.length cap) ps.length (rowOf (bX pa l) ps)) (us:=[.pointer (some ⟨pa,0,none⟩),.int .i64 l.key,.int .i64 l.elem,.int .i64 l.ka,.int .i64 l.ea,.int .i64 l.cap,.int .i64 l.eo,.int .i64 l.bo,.int .i64 l.slot,.int .i64 l.group,.int .i64 (x.off:Nat)]) rfl bA aM rfl
    ·exact tk
    exact cK hx _ _ _
   refine mv O O<|bF O O O (EZ pa s hs l hl x hO hov (i:Nat)) ?_
   refine mv O O<|ad O (aa O ga) ?_
   refine ad O (aa O ga) ?_
   refine ay O dF fun b10=>bZ O O O bV O O ?_
   refine ar O O<|lz<|mv O O<|ad O (ae O)<|ad O (aE 15 O bY O O jD)<|ad O (aI O ke) ?_
   refine mv O O<|ad O (az O O j7 lu (by omega)) ?_
   apply ad O
   ·apply aT O mn
    ·exact tk
    exact hptr
   refine mv O O<|bF O O O (vC pr l x hn8 hO.rng (i:Nat)) ?_
   refine mv O O<|ad O (aa O ga) ?_
   refine ad O (aa O ga) ?_
   refine ay O dF fun b12=>bZ O O O bV O O ?_
   refine ar O O<|lz<|ad O (aO O fj bV) ?_
   refine ad O (aO O fj bV) ?_
   refine ad O (gI O O (mJ · Er) fun w=>kB w cq Eo (by kernel_rfl) (by kernel_rfl)) ?_
   refine mv O O<|bQ (t:=86) rfl (fun r1=>?_) fun r1=>?_
   ·exact absurd r1 (by simp)
   refine aA O O<|mv O O<|aA O O<|mv O O<|aA O O<|ad O (qi O O (bf ·))<|ad O (aS O O)<|lc<|aG O (fun r2=>?_) fun r2=>?_
   ·exact absurd r2 (by simp)
   refine aq<|bz<|an<|aD<|mv O O<|ad O (bn O O) ?_
   refine ar O O<|ai ?_
   apply aU ((i+1))
   ·exact by omega
   ·omega
   ·exact⟨O,O,O,trivial⟩
   exact en
  refine xt O<|nz<|ar O O<|lc<|rt ?_
  apply aR (.inl rfl) ([ca pr l ps,pt pb (.cells #[.pointer (some ⟨pa,0,none⟩),.pointer (some ⟨po,0,none⟩),.pointer (some ⟨pr,0,none⟩),.pointer (some ⟨bq,0,none⟩),.int .i64 l.key,.int .i64 l.elem,.int .i64 l.ka,.int .i64 l.ea,.int .i64 l.cap,.int .i64 l.eo,.int .i64 l.bo,.int .i64 l.slot,.int .i64 l.group,.int .u64 sdP,(.slice (some ⟨g0,0,none⟩) ps.length cap),(.slice (some ⟨g1,0,none⟩) ps.length cap1)] 93 (0,0)),aF 39 11 (.slice (some ⟨g0,0,none⟩) ps.length cap) ps.length (rowOf (bX pa l) ps),aF 40 1 (.slice (some ⟨g1,0,none⟩) ps.length cap1) ps.length (bL ps),aj pa s])
  ·apply cP O
   exact .tmp rfl
  ·exact⟨rfl,rfl⟩
  refine eM hx (bC (.slice ac (8*x.n) capc) ?_);(exact en)
 | false=>
  have hst:kg x=(#[.int .i64 x.T.used,.int .i64 (8*(x.n:Int)),.int .i64 x.T.left,.int .i64 x.T.depth,.int .i64 x.T.pins,.int .i64 x.T.next,.bool (decide (x.T.kind=4)),.int .i64 (x.go:Nat)],0):=by unfold kg;rw[if_neg (by simp[hd])]
  refine sr<|ar O O<|lz<|mv O O<|ad O (ae O)<|ad O (aE 14 O bY O O gC)<|ad O (aI O gX) ?_
  refine mv O O<|ad O (aL O O gW aM (by omega)) ?_
  apply ad O
  ·apply cg (A:=aF 39 11 (.slice (some ⟨g0,0,none⟩) ps.length cap) ps.length (rowOf (bX pa l) ps)) (us:=[.pointer (some ⟨pa,0,none⟩),.int .i64 l.key,.int .i64 l.elem,.int .i64 l.ka,.int .i64 l.ea,.int .i64 l.cap,.int .i64 l.eo,.int .i64 l.bo,.int .i64 l.slot,.int .i64 l.group,.int .i64 (x.off:Nat)]) rfl bA aM rfl
   ·exact tk
   exact cK hx _ _ _
  refine bF O O O (EY pa s hs l hl x hO hov) ?_
  rw[hst]
  refine mv O O<|ad O (aa O ga) ?_
  refine ad O (aa O ga) ?_
  refine ay O da fun b5=>bZ O O O cl O O ?_
  refine ar O O<|lz<|mv O O<|ad O (ae O)<|ad O (aE 15 O bY O O jD)<|ad O (aI O ke) ?_
  refine mv O O<|ad O (az O O j7 lu (by omega)) ?_
  apply ad O
  ·apply aT O mn
   ·exact tk
   exact hptr
  refine bF O O O (vt pr l x hn8 hO.rng) ?_
  rw[hst]
  refine mv O O<|ad O (aa O ga) ?_
  refine ad O (aa O ga) ?_
  refine ay O da fun b7=>bZ O O O cl O O ?_
  refine ar O O<|lc<|al<|sr<|ad O (aO O eY cl) ?_
  refine ad O (aO O eY cl) ?_
  refine ad O (gI O O (mJ · Ep) fun w=>kB w bP En (by kernel_rfl) (by kernel_rfl)) ?_
  refine mv O O<|bQ (t:=39) rfl (fun p1=>?_) fun p1=>?_
  ·exact absurd p1 (by simp)
  refine aA O O<|mv O O<|aA O O<|mv O O<|aA O O<|ad O (qi O O (bf ·))<|ad O (aS O O)<|lc<|aG O (fun p2=>?_) fun p2=>?_
  ·exact absurd p2 (by simp)
  refine aq<|an<|al<|sr<|ar O O<|lc<|aB ?_
  refine bK (fun i:Nat=>i<=8*x.n) (fun i=>[(0,.pointer (some ⟨pb,0,none⟩)),(1,.int .i64 (k:Nat)),(9,.int .i64 (i:Nat))]) (fun _=>cz pr l x::ca pr l (ps.eraseIdx k)::pt pb (.cells #[.pointer (some ⟨pa,0,none⟩),.pointer (some ⟨po,0,none⟩),.pointer (some ⟨pr,0,none⟩),.pointer (some ⟨bq,0,none⟩),.int .i64 l.key,.int .i64 l.elem,.int .i64 l.ka,.int .i64 l.ea,.int .i64 l.cap,.int .i64 l.eo,.int .i64 l.bo,.int .i64 l.slot,.int .i64 l.group,.int .u64 sdP,(.slice (some ⟨g0,0,none⟩) ps.length cap),(.slice (some ⟨g1,0,none⟩) ps.length cap1)] 93 (0,0))::aF 39 11 (.slice (some ⟨g0,0,none⟩) ps.length cap) ps.length (rowOf (bX pa l) ps)::aF 40 1 (.slice (some ⟨g1,0,none⟩) ps.length cap1) ps.length (bL ps)::aj pa s::Fr) (fun i=>8*x.n-i) 0 (Nat.zero_le _) ⟨rfl,rfl,rfl,trivial⟩ (by(exact en)) ?_
  intro i hi
  refine cL .here fun vc=>?_
  refine bU (.there .here) fun _ hvc=>?_
  obtain⟨ac,capc,rfl,_,_,_⟩:=hvc
  refine al<|sr<|mv O O<|mv O O<|ad O (ae O)<|ad O (aE 15 O bY O O jD)<|ad O (aI O ke) ?_
  refine mv O O<|ad O (az O O j7 lu (by omega)) ?_
  apply ad O
  ·apply aT O mn
   ·exact tk
   exact hptr
  refine ad O (ae O)<|ad O (aE 19 O bT O O eH)<|ad O (aI O eI) ?_
  refine ad O (ql O ef)<|ad O (qi O O (bj ·))<|lc<|aG O (fun h1=>?_) fun h1=>?_
  ·refine il (L':=cz pr l x::ca pr l (ps.eraseIdx k)::pt pb (.cells #[.pointer (some ⟨pa,0,none⟩),.pointer (some ⟨po,0,none⟩),.pointer (some ⟨pr,0,none⟩),.pointer (some ⟨bq,0,none⟩),.int .i64 l.key,.int .i64 l.elem,.int .i64 l.ka,.int .i64 l.ea,.int .i64 l.cap,.int .i64 l.eo,.int .i64 l.bo,.int .i64 l.slot,.int .i64 l.group,.int .u64 sdP,(.slice (some ⟨g0,0,none⟩) ps.length cap),(.slice (some ⟨g1,0,none⟩) ps.length cap1)] 93 (0,0))::aF 39 11 (.slice (some ⟨g0,0,none⟩) ps.length cap) ps.length (rowOf (bX pa l) ps)::aF 40 1 (.slice (some ⟨g1,0,none⟩) ps.length cap1) ps.length (bL ps)::aj pa s::Fr) (fun w h=>bC (.slice ac (8*x.n) capc) (by(exact en)) w h) ?_
   refine aq<|an<|al<|aB<|sr<|mv O O<|ad O (ae O)<|ad O (aE 14 O bY O O gC)<|ad O (aI O gX) ?_
   refine mv O O<|ad O (aL O O gW aM (by omega)) ?_
   apply ad O
   ·apply cg (A:=aF 39 11 (.slice (some ⟨g0,0,none⟩) ps.length cap) ps.length (rowOf (bX pa l) ps)) (us:=[.pointer (some ⟨pa,0,none⟩),.int .i64 l.key,.int .i64 l.elem,.int .i64 l.ka,.int .i64 l.ea,.int .i64 l.cap,.int .i64 l.eo,.int .i64 l.bo,.int .i64 l.slot,.int .i64 l.group,.int .i64 (x.off:Nat)]) rfl bA aM rfl
    ·exact tk
    exact cK hx _ _ _
   refine mv O O<|bF O O O (EZ pa s hs l hl x hO hov (i:Nat)) ?_
   refine mv O O<|ad O (aa O ga) ?_
   refine ad O (aa O ga) ?_
   refine ay O dF fun b10=>bZ O O O bV O O ?_
   refine ar O O<|lz<|mv O O<|ad O (ae O)<|ad O (aE 15 O bY O O jD)<|ad O (aI O ke) ?_
   refine mv O O<|ad O (az O O j7 lu (by omega)) ?_
   apply ad O
   ·apply aT O mn
    ·exact tk
    exact hptr
   refine mv O O<|bF O O O (vC pr l x hn8 hO.rng (i:Nat)) ?_
   refine mv O O<|ad O (aa O ga) ?_
   refine ad O (aa O ga) ?_
   refine ay O dF fun b12=>bZ O O O bV O O ?_
   refine ar O O<|lz<|ad O (aO O fj bV) ?_
   refine ad O (aO O fj bV) ?_
   refine ad O (gI O O (mJ · Er) fun w=>kB w cq Eo (by kernel_rfl) (by kernel_rfl)) ?_
   refine mv O O<|bQ (t:=86) rfl (fun r1=>?_) fun r1=>?_
   ·exact absurd r1 (by simp)
   refine aA O O<|mv O O<|aA O O<|mv O O<|aA O O<|ad O (qi O O (bf ·))<|ad O (aS O O)<|lc<|aG O (fun r2=>?_) fun r2=>?_
   ·exact absurd r2 (by simp)
   refine aq<|bz<|an<|aD<|mv O O<|ad O (bn O O) ?_
   refine ar O O<|ai ?_
   apply aU ((i+1))
   ·exact by omega
   ·omega
   ·exact⟨O,O,O,trivial⟩
   exact en
  refine xt O<|nz<|ar O O<|lc<|rt ?_
  apply aR (.inl rfl) ([ca pr l ps,pt pb (.cells #[.pointer (some ⟨pa,0,none⟩),.pointer (some ⟨po,0,none⟩),.pointer (some ⟨pr,0,none⟩),.pointer (some ⟨bq,0,none⟩),.int .i64 l.key,.int .i64 l.elem,.int .i64 l.ka,.int .i64 l.ea,.int .i64 l.cap,.int .i64 l.eo,.int .i64 l.bo,.int .i64 l.slot,.int .i64 l.group,.int .u64 sdP,(.slice (some ⟨g0,0,none⟩) ps.length cap),(.slice (some ⟨g1,0,none⟩) ps.length cap1)] 93 (0,0)),aF 39 11 (.slice (some ⟨g0,0,none⟩) ps.length cap) ps.length (rowOf (bX pa l) ps),aF 40 1 (.slice (some ⟨g1,0,none⟩) ps.length cap1) ps.length (bL ps),aj pa s])
  ·apply cP O
   exact .tmp rfl
  ·exact⟨rfl,rfl⟩
  refine eM hx (bC (.slice ac (8*x.n) capc) ?_);(exact en)
end
end Plays
end
section
namespace Plays
open Go.RowKit Go.Proofs Eng Ty Arena CtrlB Ctrl Layout Oracle Exact RefA RefT Ref03 Ref04
theorem um {pr:Nat} {s:ArS}:dt (bd pr s) ⟨pr,1,none⟩ (.int .i64 (s.stop:Nat)):=fun w h=>by
 have h':Sat (stars [bd pr s]) w:=by
  obtain⟨f,hf,k⟩:=h
  exact⟨f,hf,f,Part.none,k,rfl,Part.disj_none _,(Part.join_none _).symm⟩
 obtain⟨x,hx,hs⟩:=cV.1 h'
 have hb:=hs.block (b:=pr) (o:=.cells #[.int .i64 s.limit,.int .i64 (s.stop:Nat),x.1] 51 (0,0)) .here
 simp only[World.cell?,hb]
 rfl
@[reducible] def Bj (o:yo):List Value:=[.int .i64 o.kind,.int .i64 o.which,.int .i64 o.n,.int .i64 o.m,.string o.key,.string o.elem]
def CG (A:HP) (v:Value) (os:List yo):Prop:=∃ a cap,v=.slice a os.length cap/\(0 < os.length->∃ b o,a=some ⟨b,o,none⟩/\∀(i:Nat) t,os[i]?=some t->∀(j:Nat) x,(Bj t)[j]?=some x->dt A ⟨b,o+i*6+j,none⟩ x)
theorem Ca {A:HP} {os:List yo} {b o i:Nat} {t:yo} (h:∀(i:Nat) t,os[i]?=some t->∀(j:Nat) x,(Bj t)[j]?=some x->dt A ⟨b,o+i*6+j,none⟩ x) (ht:os[i]?=some t):
  ∀ j x,(Bj t)[j]?=some x->dt A ((⟨b,o+(i:Int).toNat*6,none⟩:Addr).add j) x:=fun j x hx=>by
 rw[dr,Int.toNat_natCast]
 exact h i t ht j x hx
theorem Dc (G:HP) (hG:dR G) (hGO:fR G) (pb pa po pr bq bm:Nat) (os:List (ByteArray×Int)) (hgo:ix os) (hos:∀ o∈os,0<=o.2/\o.2 < 18446744073709551616) (l:Lay) (hl:l.err=0) (sdP:Int) (hsP:0<=sdP/\sdP < 18446744073709551616) (s:ArS) (hs:s.ok) (ps:List PR) (vM vO:Value) (hlen:ps.length<=1480000000000) (hF:Full s l ps) (o:yo) (hw:o.wf):aK Tryz.prog 22 #[.pointer (some ⟨pb,0,none⟩),.agg #[.int .i64 o.kind,.int .i64 o.which,.int .i64 o.n,.int .i64 o.m,.string o.key,.string o.elem]] [ca pr l ps,pt pb (.cells #[.pointer (some ⟨pa,0,none⟩),.pointer (some ⟨po,0,none⟩),.pointer (some ⟨pr,0,none⟩),.pointer (some ⟨bq,0,none⟩),.int .i64 l.key,.int .i64 l.elem,.int .i64 l.ka,.int .i64 l.ea,.int .i64 l.cap,.int .i64 l.eo,.int .i64 l.bo,.int .i64 l.slot,.int .i64 l.group,.int .u64 sdP,vM,vO] 93 (0,0)),aF 39 11 vM ps.length (rowOf (bX pa l) ps),aF 40 1 vO ps.length (bL ps),bd pr s,aj pa s,pt po (.cells #[.map (some bm)] 192 (0,0)),bG (fun k:ByteArray=>Value.string k) bm (bu os),dv bq os,G] (fun v L=>∃ s' ps' vM' vO',v=.bool true/\L= [ca pr l ps',pt pb (.cells #[.pointer (some ⟨pa,0,none⟩),.pointer (some ⟨po,0,none⟩),.pointer (some ⟨pr,0,none⟩),.pointer (some ⟨bq,0,none⟩),.int .i64 l.key,.int .i64 l.elem,.int .i64 l.ka,.int .i64 l.ea,.int .i64 l.cap,.int .i64 l.eo,.int .i64 l.bo,.int .i64 l.slot,.int .i64 l.group,.int .u64 sdP,vM',vO'] 93 (0,0)),aF 39 11 vM' ps'.length (rowOf (bX pa l) ps'),aF 40 1 vO' ps'.length (bL ps'),bd pr s',aj pa s',pt po (.cells #[.map (some bm)] 192 (0,0)),bG (fun k:ByteArray=>Value.string k) bm (bu os),dv bq os,G]/\Full s' l ps'/\cY ps'<=cY ps+2):=by
 by_cases h0:o.kind=0
 ·exact De G hG hGO pb pa po pr bq bm os hgo hos l hl sdP hsP s hs ps vM vO hlen hF o hw h0
 by_cases hout:o.which < 0\/(ps.length:Int)<=o.which
 ·exact Dd G hG hGO pb pa po pr bq bm os hgo hos l hl sdP hsP s hs ps vM vO hlen hF o hw h0 hout
 obtain⟨kind,which,n,m,key,elem⟩:=o
 dsimp only at hout h0
 obtain⟨k,rfl⟩:=Int.eq_ofNat_of_zero_le (show 0<=which by omega)
 exact Fo G hG hGO pb pa po pr bq bm os hgo hos l hl sdP hsP s hs ps vM vO hlen hF kind n m key elem k hw h0 (by omega)
theorem tz (G:HP) (hG:dR G) (hGO:fR G) (vf vo vs:Value) (xs:List Int) (os:List (ByteArray×Int)) (ops:List yo) (hA:qN G vf xs) (hO:jR G vo os) (hos:∀ o∈os,0<=o.2/\o.2 < 18446744073709551616) (hS:CG G vs ops) (hmx:ops.length*64<=140737488351232) (how:∀ o∈ops,o.wf) (limit sdP:Int) (hsP:0<=sdP/\sdP < 18446744073709551616):
  aK Tryz.prog 7 #[.agg #[.int .i64 limit,vo,.int .u64 sdP,vf],vs] [G] (fun v L=>v=.bool true/\L= [G]):=by
 obtain⟨ta,tcap,rfl,hT0⟩:=hS
 refine au KN Tryz.func7 rfl rfl rfl fun Fr w0=>aZ ?_
 refine sr<|bw O O fun b2=>ar O O<|lz<|ad O (aO O Ju Jp) ?_
 refine cT O O O (AO G vf vo xs os hA hO limit sdP) ?_
 rintro v L' ⟨w,rfl,(⟨rfl,rfl⟩ | ⟨pb,pa,po,pr,bq,bm,l,rfl,hl,hlim,hgo,rfl⟩)⟩
 refine bx ?_
 ·skip
  refine bx ?_
  refine mv O O<|ad O (aa O ga) ?_
  refine ad O (aa O ga) ?_
  refine ar O O<|ar O O<|lc<|al<|sr<|mv O O<|ad O (db O (cy ·))<|mv O O<|bQ (t:=17) rfl (fun p1=>?_) fun p1=>?_
  ·cases p1
  refine aA O O<|bF O O O (uZ G hG hGO) ?_
  refine aA O O<|ad O (db O (cy ·))<|ad O (aS O O)<|lc<|aG O (fun p2=>?_) fun p2=>?_
  ·cases p2
  refine aq<|an<|al<|sr<|mv O O<|ad O (gI O O (fH ·) (mh · Gt))<|lc<|aG O (fun p3=>?_) fun p3=>?_
  ·exact sr<|ar O O<|lc<|rt<|cN O ([G]) (.tmp rfl) ⟨rfl,rfl⟩
  cases p3
 refine bx ?_
 refine mv O O<|ad O (aa O ga) ?_
 refine ad O (aa O ga) ?_
 refine ar O O<|ar O O<|lc<|al<|sr<|mv O O<|ad O (db O (cy ·))<|mv O O<|bQ (t:=17) rfl (fun p1=>?_) fun p1=>?_
 ·cases p1
 refine aA O O<|bF O O O (uZ G hG hGO) ?_
 refine aA O O<|ad O (db O (cy ·))<|ad O (aS O O)<|lc<|aG O (fun p2=>?_) fun p2=>?_
 ·cases p2
 refine aq<|an<|al<|sr<|mv O O<|ad O (gI O O (fH ·) (mh · Gt))<|lc<|aG O (fun p3=>?_) fun p3=>?_
 ·cases p3
 refine aq<|an<|al<|sr<|ar O O<|lc<|aB ?_
 refine il (show dS _ (aF 39 11 (.slice none 0 0) ([]:List PR).length (rowOf (bX pa l) [])::aF 40 1 (.slice none 0 0) ([]:List PR).length (bL [])::ca pr l []::_) from fun w h=>gJ (gJ (Dk w h))) ?_
 refine bK (fun x:Nat×ArS×List PR×Value×Value=>x.1<=ops.length/\Full x.2.1 l x.2.2.1/\cY x.2.2.1<=2*x.1) (fun x=>[(1,(.slice ta ops.length tcap)),(5,.pointer (some ⟨pb,0,none⟩)),(7,.int .i64 (x.1:Nat))]) (fun x=>ca pr l x.2.2.1::pt pb (.cells #[.pointer (some ⟨pa,0,none⟩),.pointer (some ⟨po,0,none⟩),.pointer (some ⟨pr,0,none⟩),.pointer (some ⟨bq,0,none⟩),.int .i64 l.key,.int .i64 l.elem,.int .i64 l.ka,.int .i64 l.ea,.int .i64 l.cap,.int .i64 l.eo,.int .i64 l.bo,.int .i64 l.slot,.int .i64 l.group,.int .u64 sdP,x.2.2.2.1,x.2.2.2.2] 93 (0,0))::aF 39 11 x.2.2.2.1 x.2.2.1.length (rowOf (bX pa l) x.2.2.1)::aF 40 1 x.2.2.2.2 x.2.2.1.length (bL x.2.2.1)::bd pr x.2.1::aj pa x.2.1::pt po (.cells #[.map (some bm)] 192 (0,0))::bG (fun k:ByteArray=>Value.string k) bm (bu os)::dv bq os::G::Fr) (fun x=>ops.length-x.1) (0,ArS.new limit,[],.slice none 0 0,.slice none 0 0) ⟨by omega,Full.nil _ _,by simp[cY,gV]⟩ ⟨rfl,rfl,rfl,trivial⟩ (by first | exact dS.refl _ | (exact en)) ?_
 rintro⟨i,s,ps,vM,vO⟩ ⟨hi,hF,hn⟩
 dsimp only at hi hF hn ⊢
 refine dN (φ:=s.ok) (fun w hw=>cS (pa:=pa) hw tk) fun hok=>?_
 have hfew:=hF.few hok
 have hn2:=hn
 unfold cY at hn2
 refine al<|sr<|mv O O<|mv O O<|ad O (ql O Gu)<|ad O (qi O O (bj ·))<|lc<|aG O (fun g1=>?_) fun g1=>?_
 ·skip
  have hil:i < ops.length:=by omega
  obtain⟨tb,tof,rfl,hT1⟩:=hT0 (by omega)
  obtain⟨o,ho⟩:∃ o,ops[i]?=some o:=⟨ops[i],List.getElem?_eq_getElem hil⟩
  have hcell:=Ca hT1 ho
  refine aq<|an<|al<|aB<|sr<|mv O O<|mv O O<|mv O O<|ad O (aL O O Gu E6 (by omega)) ?_
  apply ad O
  ·apply cg (A:=G) (us:=[.int .i64 o.kind,.int .i64 o.which,.int .i64 o.n,.int .i64 o.m,.string o.key,.string o.elem]) rfl GJ E6 rfl
   ·exact tk
   exact hcell
  refine cT O O O (Dc G hG hGO pb pa po pr bq bm os hgo hos l hl sdP hsP s hok ps vM vO (by omega) hF o (how o (List.mem_of_getElem? ho))) ?_
  rintro v L' ⟨s',ps',vM',vO',rfl,rfl,hF2,hn3⟩
  refine bx ?_
  refine ar O O<|lz<|mv O O<|ad O (db O (cy ·))<|lc<|aG O (fun g2=>?_) fun g2=>?_
  ·cases g2
  refine aq<|bz<|an<|aD<|mv O O<|ad O (bn O O) ?_
  refine ar O O<|ai ?_
  apply aU ((i+1,s',ps',vM',vO'))
  ·exact⟨by dsimp only;omega,hF2,by dsimp only;omega⟩
  ·dsimp only;omega
  ·exact⟨O,O,O,trivial⟩
  exact en
 refine bU (.there (.there (.there .here))) fun _ hvo=>?_
 obtain⟨a1,cap1,rfl,ha1,_,_⟩:=hvo
 refine xt O<|an<|al<|sr<|ar O O<|lc<|aB ?_
 refine bK (fun k:Nat=>k<=ps.length) (fun k=>[(5,.pointer (some ⟨pb,0,none⟩)),(9,.int .i64 (k:Nat))]) (fun _=>ca pr l ps::pt pb (.cells #[.pointer (some ⟨pa,0,none⟩),.pointer (some ⟨po,0,none⟩),.pointer (some ⟨pr,0,none⟩),.pointer (some ⟨bq,0,none⟩),.int .i64 l.key,.int .i64 l.elem,.int .i64 l.ka,.int .i64 l.ea,.int .i64 l.cap,.int .i64 l.eo,.int .i64 l.bo,.int .i64 l.slot,.int .i64 l.group,.int .u64 sdP,vM,(.slice a1 ps.length cap1)] 93 (0,0))::aF 39 11 vM ps.length (rowOf (bX pa l) ps)::aF 40 1 (.slice a1 ps.length cap1) ps.length (bL ps)::bd pr s::aj pa s::G::Fr) (fun k=>ps.length-k) 0 (Nat.zero_le _) ⟨rfl,rfl,trivial⟩ (by(exact en)) ?_
 intro k hk
 refine al<|sr<|mv O O<|mv O O<|ad O (ae O)<|ad O (aE 15 O bY O O jD)<|ad O (aI O ke) ?_
 refine ad O (ql O j7)<|ad O (qi O O (bj ·))<|lc<|aG O (fun g3=>?_) fun g3=>?_
 ·skip
  have hkl:k < ps.length:=by omega
  obtain⟨x,hx⟩:∃ x,ps[k]?=some x:=⟨ps[k],List.getElem?_eq_getElem hkl⟩
  have e1:=yg pr l hx
  have e2:=ik (pa:=pa) (l:=l) (x':=iT x) hx rfl
  have e3:=fZ (x':=iT x) hx rfl
  refine aq<|an<|al<|aB<|sr<|mv O O<|mv O O<|cT O O O (vd pb pa po pr bq l sdP s hok ps vM (.slice a1 ps.length cap1) k x hx) ?_
  rintro v L' ⟨b,rfl,rfl,hask⟩
  refine bx ?_
  refine mv O O<|bQ (t:=49) rfl (fun q1=>?_) fun q1=>?_
  ·skip
   obtain⟨hFa,hxa,hOa⟩:=hF.ask hx (ve (hF.was x (List.mem_of_getElem? hx)) (hask q1))
   have Hs:=Di pb pa po pr bq l hl sdP s hok (ps.set k (iT x)) vM (.slice a1 ps.length cap1) k (iT x) hxa hOa rfl
   rw[List.length_set,e1,e2,e3] at Hs
   refine aA O O<|mv O O<|aA O O<|mv O O<|aA O O<|bF O O O (Hs) ?_
   refine aA O O<|ad O (db O (cy ·))<|ad O (aS O O)<|lc<|aG O (fun g4=>?_) fun g4=>?_
   ·cases g4
   refine aq<|bz<|an<|aD<|mv O O<|ad O (bn O O) ?_
   refine ar O O<|ai ?_
   apply aU ((k+1))
   ·exact(show k+1<=ps.length by omega)
   ·omega
   ·exact⟨O,O,trivial⟩
   exact en
  refine ax O O O O<|ax O O O O<|ax O O O O<|ax O O O O<|ad O (aS O O)<|lc<|cQ O<|aq<|bz<|an<|aD<|mv O O<|ad O (bn O O) ?_
  refine ar O O<|ai ?_
  apply aU ((k+1))
  ·exact(show k+1<=ps.length by omega)
  ·omega
  ·exact⟨O,O,trivial⟩
  exact en
 refine xt O<|an<|al<|aY mixed ?_
 apply dq 0 O (yq (ah O))
 apply dq 1 O (yq (ae O))
 apply dq 2 O (yq (aE 0 O bY O O eu))
 apply dq 3 O (yq (aI O ew))
 apply dq 5 O (yq (ah O))
 apply dq 6 O (yq (ae O))
 apply dq 7 O (yq (aE 2 O bY O O kF))
 apply dq 8 O (yq (aI O kH))
 refine ak [3,2,1,0] [8,7,6,5] 4 [(58,_)] gO ⟨rfl,trivial⟩ (by kernel_rfl) (by kernel_rfl) fun Ex=>?_
 refine bF O O O (Ec pa s) ?_
 refine ai ?_
 refine aQ ⟨ya O O (yq (aI O kH)),ya O O (yq (aE 2 O bY O O kF)),ya O O (yq (ae O)),ya O O (yq (ah O)),trivial⟩ ?_
 refine ak [8,7,6,5] [] 9 [(63,_)] gO ⟨rfl,trivial⟩ (by kernel_rfl) (by kernel_rfl) fun Ex=>?_
 refine bF O O O (vB pr s hok) ?_
 refine ai ?_
 refine aQ trivial ?_
 apply dq 10 O (yq (qi O O (bN ·)))
 apply dq 11 O (yq (ah O))
 refine n6 (t:=66) rfl (fun z1=>?_) fun z1=>?_
 ·apply dq 12 O (bD O O (ah O))
  apply dq 13 O (bD O O (ae O))
  apply dq 14 O (bD O O (aE 0 O bY O O eu))
  apply dq 15 O (bD O O (aI O ew))
  apply dq 17 O (bD O O (ah O))
  apply dq 18 O (bD O O (ae O))
  apply dq 19 O (bD O O (aE 2 O bY O O kF))
  apply dq 20 O (bD O O (aI O kH))
  apply dq 21 O (bD O O (ae O))
  apply dq 22 O (bD O O (aE 1 O iN O O aN))
  apply dq 23 O
  ·apply bD O O
   apply cf (A:=bd pr s) rfl aX
   ·exact tk
   exact um
  refine ak [15,11,14,10,13,12] [23,22,21,20,19,18,17] 16 [(70,_),(66,_)] gO ⟨rfl,rfl,trivial⟩ (by kernel_rfl) (by kernel_rfl) fun Ex=>?_
  refine aA O O<|bF O O O (xA pa s) ?_
  refine ai ?_
  apply aQ
  ·refine⟨?_,?_,?_,?_,?_,?_,?_,trivial⟩
   ·apply ya O O
    apply bD O O
    apply cf (A:=bd pr s) rfl aX
    ·exact tk
    exact um
   ·apply ya O O;exact bD O O (aE 1 O iN O O aN)
   ·apply ya O O;exact bD O O (ae O)
   ·apply ya O O;exact bD O O (aI O kH)
   ·apply ya O O;exact bD O O (aE 2 O bY O O kF)
   ·apply ya O O;exact bD O O (ae O)
   apply ya O O;exact bD O O (ah O)
  apply dq 24 O (bD O O (qi O O (bN ·)))
  apply dq 25 O (yq (aS O O))
  refine ak [25,17,18,19,20,21,22,23,24] [] 26 [(80,_)] gO ⟨rfl,trivial⟩ (by kernel_rfl) (by kernel_rfl) fun Ex=>?_
  refine ar O O<|ai ?_
  refine aQ trivial ?_
  refine aV (by kernel_rfl) ?_
  refine an<|rt<|cN O ([G]) (.tmp rfl) ?_
  exact⟨by rw[qY rfl],rfl⟩
 exact absurd rfl z1
end Plays
end
end Go.Proofs.YthkajgkagnenbaaGreatDoor
