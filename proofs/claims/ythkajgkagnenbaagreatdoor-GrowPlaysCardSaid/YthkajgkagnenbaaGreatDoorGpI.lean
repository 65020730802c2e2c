import Derived.Test.YthkajgkagnenbaaGreatDoorGpS
import Derived.Test.YthkajgkagnenbaaGreatDoorGpT
set_option linter.unusedVariables false
set_option linter.unusedSimpArgs false
set_option linter.unusedSectionVars false
set_option maxRecDepth 100000
namespace Go.Proofs.YthkajgkagnenbaaGreatDoor
section
namespace Plays
open Go.RowKit Go.Proofs Eng Ty Arena CtrlB Ctrl Layout Oracle Exact RefA RefT
def bX (pa:Nat) (l:Lay) (x:PR):List Value:=[.pointer (some ⟨pa,0,none⟩),.int .i64 l.key,.int .i64 l.elem,.int .i64 l.ka,.int .i64 l.ea,.int .i64 l.cap,.int .i64 l.eo,.int .i64 l.bo,.int .i64 l.slot,.int .i64 l.group,.int .i64 (x.off:Nat)]
theorem Et (pa:Nat) (l:Lay) (x:PR):(bX pa l x).length=11:=rfl
def bL (ts:List PR):List Value:=ts.map fun t=>.pointer (some ⟨t.p,0,none⟩)
theorem kf (ts:List PR) (t:PR):bL (ts ++ [t])=bL ts ++ [.pointer (some ⟨t.p,0,none⟩)]:=by simp[bL]
theorem gb {ts:List PR} {k:Nat} {x:PR} (h:ts[k]?=some x):(bL ts)[0+((k:Nat):Int).toNat]?=some (.pointer (some ⟨x.p,0,none⟩)):=by
 rw[Nat.zero_add,Int.toNat_natCast];unfold bL;rw[List.getElem?_map,h];rfl
theorem map_set {A B:Type} {f:A->B} {ps:List A} {k:Nat} {x x':A} (h:ps[k]?=some x) (he:f x'=f x):(ps.set k x').map f=ps.map f:=by
 rw[List.map_set,he]
 refine List.ext_getElem? fun j=>?_
 rw[List.getElem?_set]
 split
 ·next q=>subst q;rw[List.getElem?_map,h,List.length_map];simp;exact(List.getElem?_eq_some_iff.1 h).1
 rfl
theorem fZ {ps:List PR} {k:Nat} {x x':PR} (h:ps[k]?=some x) (he:x'.p=x.p):bL (ps.set k x')=bL ps:=map_set h (by rw[he])
theorem ik {pa:Nat} {l:Lay} {ps:List PR} {k:Nat} {x x':PR} (h:ps[k]?=some x) (he:x'.off=x.off):rowOf (bX pa l) (ps.set k x')=rowOf (bX pa l) ps:=by
 unfold rowOf
 rw[List.flatMap_def,List.flatMap_def,map_set h (by unfold bX;rw[he])]
theorem cK {pa:Nat} {l:Lay} {ps:List PR} {k:Nat} {x:PR} (hx:ps[k]?=some x) (g n cap:Nat):∀ j u,(bX pa l x)[j]?=some u->dt (aF 39 11 (.slice (some ⟨g,0,none⟩) n cap) n (rowOf (bX pa l) ps)) ((⟨g,0+((k:Nat):Int).toNat*11,none⟩:Addr).add j) u:=fun j u hu=>by
 have hj:j < 11:=by rcases Nat.lt_or_ge j 11 with q | q;exact q;rw[List.getElem?_eq_none (by rw[Et];exact q)] at hu;cases hu
 rw[dr,Nat.zero_add,Int.toNat_natCast]
 exact nb (by rw[er (Et pa l) ps k j x hx hj];exact hu)
theorem gj {c:Cx} {fin:Exit->Act->World->Prop} {ds:List Deferred} {E:Env} {ks:List KI} {pr:Nat} {l:Lay} {ps:List PR} {k:Nat} {x:PR} {L M:List HP} {y:Code} (hx:ps[k]?=some x) (ht:Take (ca pr l ps) L M) (h:TC c fin ds E (cz pr l x::ca pr l (ps.eraseIdx k)::M) y ks):TC c fin ds E L y ks:=il (fun w hw=>AU hx w (hw.take ht)) h
theorem jg {pr:Nat} {l:Lay} {ps:List PR} {k:Nat} {x:PR} {L R:List HP} (hk:k < ps.length) (he:dS L (cz pr l x::ca pr l (ps.eraseIdx k)::R)):dS L (ca pr l (ps.set k x)::R):=fun w h=>yG hk w (he w h)
theorem eM {pr:Nat} {l:Lay} {ps:List PR} {k:Nat} {x:PR} {L R:List HP} (hx:ps[k]?=some x) (he:dS L (cz pr l x::ca pr l (ps.eraseIdx k)::R)):dS L (ca pr l ps::R):=by
 have:=jg (List.getElem?_eq_some_iff.1 hx).1 he
 rw[uc hx] at this
 exact this
def cY (ps:List PR):Nat:=ps.length+2*gV ps
theorem Full.few {s:ArS} (hs:s.ok) {l:Lay} {ps:List PR} (h:Full s l ps):ps.length<=gV ps+131072:=h.all.few hs
theorem One.nn {s:ArS} {l:Lay} {x:PR} (hO:One s l x):0 < x.n/\x.n<=8192:=by
 have h1:=hO.hn
 have h2:=Nat.two_pow_pos x.e
 have h3:2 ^ x.e<=2 ^ 13:=Nat.pow_le_pow_right (by decide) hO.he
 omega
section
variable (pr:Nat) (s:ArS) (hs:s.ok)
include hs
theorem vv (o:Int):aK Tryz.prog 64 #[.pointer (some ⟨pr,0,none⟩),.int .i64 o] [bd pr s] (fun v L=>∃ c e:Int,v=.tuple #[.int .i64 c,.int .i64 e]/\L= [bd pr s]/\(e≠0->∀ c,(o,c)∉s.bl)):=by
 refine au J7 Tryz.func64 rfl rfl rfl fun Fr w0=>aZ ?_
 refine sr<|ar O O<|ar O O<|lz<|mv O O<|mv O O<|cT O O O (rfind_ok pr s hs o) ?_
 rintro v L' ⟨(⟨i,c,hi,hic,hdd,rfl⟩ | ⟨hno,rfl⟩),rfl⟩
 refine bx ?_
 ·skip
  refine bx ?_
  refine ar O O<|lc<|al<|sr<|mv O O<|ad O (qi O O (bj ·))<|lc<|aG O (fun z=>?_) fun z=>?_
  ·omega
  refine lD .here fun va rs hx=>?_
  refine bU (.there .here) fun _ hva=>?_
  obtain⟨a0,cap,rfl,ha,_,_⟩:=hva
  have hrl:=hx.len
  obtain⟨g,rfl⟩:=ha (by omega)
  obtain⟨r,hr⟩:∃ r,rs[i]?=some r:=⟨rs[i]'(by omega),List.getElem?_eq_getElem (by omega)⟩
  have hcell:(rowOf RB.cells rs)[0+((i:Nat):Int).toNat*3+2]?=some (.slice (some ⟨r.b,0,none⟩) r.c.toNat r.c.toNat):=by
   rw[Nat.zero_add,Int.toNat_natCast,er A2 _ i 2 r hr (by decide)]
   rfl
  refine aq<|nz<|mv O O<|ad O (ae O)<|ad O (aE 2 O iN O O j8)<|ad O (aI O lh) ?_
  refine mv O O<|ad O (aL O O mm lb (by omega)) ?_
  refine ad O (aE 2 O lq O O ec) ?_
  apply ad O
  ·apply aT O fk
   ·exact tk
   exact hcell
  refine ad O (ql O dG)<|ar O O<|ar O O<|lc<|rt ?_
  apply aR (.inl rfl) ([bd pr s])
  ·apply cF O
   ·exact .tmp rfl
   exact .tmp rfl
  ·exact⟨_,_,rfl,rfl,fun q=>absurd rfl q⟩
  refine eP (v:=.slice (some ⟨g,0,none⟩) rs.length cap) (n:=rs.length) hx rfl rfl rfl ?_;(exact en)
 refine bx ?_
 refine ar O O<|lc<|al<|sr<|mv O O<|ad O (qi O O (bj ·))<|lc<|aG O (fun z=>?_) fun z=>?_
 ·exact sr<|ar O O<|ar O O<|lc<|rt<|ft O ([bd pr s]) (.tmp rfl) (.tmp rfl) ⟨_,_,rfl,rfl,fun _=>hno⟩
 exact absurd (by decide) z
end
section
variable (G:HP) (hG:dR G) (hGO:fR G) (pb pa po pr bq bm:Nat) (os:List (ByteArray×Int)) (hgo:ix os) (hos:∀ o∈os,0<=o.2/\o.2 < 18446744073709551616) (l:Lay) (hl:l.err=0) (sdP:Int) (s:ArS) (hs:s.ok) (ps:List PR) (vM vO:Value) (k:Nat) (x:PR) (hx:ps[k]?=some x)
include hs hx
theorem vd:aK Tryz.prog 23 #[.pointer (some ⟨pb,0,none⟩),.int .i64 (k:Nat)] [ca pr l ps,pt pb (.cells #[.pointer (some ⟨pa,0,none⟩),.pointer (some ⟨po,0,none⟩),.pointer (some ⟨pr,0,none⟩),.pointer (some ⟨bq,0,none⟩),.int .i64 l.key,.int .i64 l.elem,.int .i64 l.ka,.int .i64 l.ea,.int .i64 l.cap,.int .i64 l.eo,.int .i64 l.bo,.int .i64 l.slot,.int .i64 l.group,.int .u64 sdP,vM,vO] 93 (0,0)),aF 40 1 vO ps.length (bL ps),bd pr s] (fun v L=>∃ b,v=.bool b/\L= [ca pr l ps,pt pb (.cells #[.pointer (some ⟨pa,0,none⟩),.pointer (some ⟨po,0,none⟩),.pointer (some ⟨pr,0,none⟩),.pointer (some ⟨bq,0,none⟩),.int .i64 l.key,.int .i64 l.elem,.int .i64 l.ka,.int .i64 l.ea,.int .i64 l.cap,.int .i64 l.eo,.int .i64 l.bo,.int .i64 l.slot,.int .i64 l.group,.int .u64 sdP,vM,vO] 93 (0,0)),aF 40 1 vO ps.length (bL ps),bd pr s]/\(b=true->x.dead=true->∀ c,(((x.off:Nat):Int),c)∉s.bl)):=by
 have hk:k < ps.length:=(List.getElem?_eq_some_iff.1 hx).1
 have hptr:=gb hx
 refine au Kl Tryz.func23 rfl rfl rfl fun Fr w0=>aZ ?_
 refine gj hx .here ?_
 refine cL .here fun vc=>?_
 refine bU (.there (.there (.there (.there .here)))) fun _ hvo=>?_
 obtain⟨a0,cap,rfl,ha,_,_⟩:=hvo
 obtain⟨g0,rfl⟩:=ha (by omega)
 refine sr<|ar O O<|lc<|al<|sr<|mv O O<|ad O (ae O)<|ad O (aE 15 O bY O O jD)<|ad O (aI O ke) ?_
 refine mv O O<|ad O (az O O j7 lu (by omega)) ?_
 apply ad O
 ·apply aT O mn
  ·exact tk
  exact hptr
 refine ad O (ae O)<|ad O (aE 18 O bT O O j6)<|ad O (aI O nH) ?_
 refine ad O (db O (cy ·))<|lc<|aG O (fun z=>?_) fun z=>?_
 ·skip
  have hd:x.dead=false:=by simpa using z
  refine sr<|ar O O<|lc<|rt ?_
  apply aR (.inl rfl) ([ca pr l ps,pt pb (.cells #[.pointer (some ⟨pa,0,none⟩),.pointer (some ⟨po,0,none⟩),.pointer (some ⟨pr,0,none⟩),.pointer (some ⟨bq,0,none⟩),.int .i64 l.key,.int .i64 l.elem,.int .i64 l.ka,.int .i64 l.ea,.int .i64 l.cap,.int .i64 l.eo,.int .i64 l.bo,.int .i64 l.slot,.int .i64 l.group,.int .u64 sdP,vM,(.slice (some ⟨g0,0,none⟩) ps.length cap)] 93 (0,0)),aF 40 1 (.slice (some ⟨g0,0,none⟩) ps.length cap) ps.length (bL ps),bd pr s])
  ·apply cP O
   exact .tmp rfl
  ·exact⟨true,rfl,rfl,fun _ q=>by rw[hd] at q;cases q⟩
  refine eM hx (bC vc ?_);(exact en)
 refine aq<|an<|al<|aY mixed ?_
 apply dq 0 O (yq (ah O))
 apply dq 1 O (yq (ae O))
 apply dq 2 O (yq (aE 2 O bY O O kF))
 apply dq 3 O (yq (aI O kH))
 apply dq 4 O (yq (ah O))
 apply dq 5 O (yq (ae O))
 apply dq 6 O (yq (aE 15 O bY O O jD))
 apply dq 7 O (yq (aI O ke))
 apply dq 8 O (yq (ah O))
 apply dq 9 O (yq (az O O j7 lu (by omega)))
 apply dq 10 O
 ·apply yq
  apply aT O mn
  ·exact tk
  exact hptr
 apply dq 11 O (yq (ae O))
 apply dq 12 O (yq (aE 10 O bT O O aN))
 apply dq 13 O (yq (aI O aX))
 refine ak [3,13,2,12,1,11,0,10,9,7,8,6,5,4] [] 14 [(24,_),(34,_)] gO ⟨rfl,rfl,trivial⟩ (by kernel_rfl) (by kernel_rfl) fun Ex=>?_
 refine cT O O O (vv pr s hs (x.off:Nat)) ?_
 rintro v L' ⟨c1,e1,rfl,rfl,he1⟩
 refine bx ?_
 refine ai ?_
 refine aQ trivial ?_
 apply dq 15 O (yq (ah O))
 apply dq 16 O (yq (aa O ga))
 apply dq 17 O (yq (aa O ga))
 refine ak [16,15] [17] 18 [(36,_)] gO ⟨rfl,trivial⟩ (by kernel_rfl) (by kernel_rfl) fun Ex=>?_
 refine ar O O<|ai ?_
 refine aQ ⟨ya O O (yq (aa O ga)),trivial⟩ ?_
 refine ak [17] [] 19 [(37,_)] gO ⟨rfl,trivial⟩ (by kernel_rfl) (by kernel_rfl) fun Ex=>?_
 refine ar O O<|ai ?_
 refine aQ trivial ?_
 refine aV (by kernel_rfl) ?_
 refine an<|al<|aY mixed ?_
 apply dq 0 O (yq (ah O))
 apply dq 1 O (yq (ae O))
 apply dq 2 O (yq (aE 2 O bY O O kF))
 apply dq 3 O (yq (aI O kH))
 apply dq 4 O (yq (ah O))
 apply dq 5 O (yq (ae O))
 apply dq 6 O (yq (aE 15 O bY O O jD))
 apply dq 7 O (yq (aI O ke))
 apply dq 8 O (yq (ah O))
 apply dq 9 O (yq (az O O j7 lu (by omega)))
 apply dq 10 O
 ·apply yq
  apply aT O mn
  ·exact tk
  exact hptr
 apply dq 11 O (yq (ae O))
 apply dq 12 O (yq (aE 11 O bT O O aN))
 apply dq 13 O (yq (aI O aX))
 refine ak [3,13,2,12,1,11,0,10,9,7,8,6,5,4] [] 14 [(42,_),(52,_)] gO ⟨rfl,rfl,trivial⟩ (by kernel_rfl) (by kernel_rfl) fun Ex=>?_
 refine cT O O O (vv pr s hs (x.go:Nat)) ?_
 rintro v L' ⟨c2,e2,rfl,rfl,he2⟩
 refine bx ?_
 refine ai ?_
 refine aQ trivial ?_
 apply dq 15 O (yq (ah O))
 apply dq 16 O (yq (aa O ga))
 apply dq 17 O (yq (aa O ga))
 refine ak [16,15] [17] 18 [(54,_)] gO ⟨rfl,trivial⟩ (by kernel_rfl) (by kernel_rfl) fun Ex=>?_
 refine ar O O<|ai ?_
 refine aQ ⟨ya O O (yq (aa O ga)),trivial⟩ ?_
 refine ak [17] [] 19 [(55,_)] gO ⟨rfl,trivial⟩ (by kernel_rfl) (by kernel_rfl) fun Ex=>?_
 refine ar O O<|ai ?_
 refine aQ trivial ?_
 refine aV (by kernel_rfl) ?_
 refine nz<|mv O O<|ad O (qi O O (bf ·))<|mv O O<|bQ (t:=58) rfl (fun q1=>?_) fun q1=>?_
 ·refine aA O O<|mv O O<|aA O O<|ad O (qi O O (bf ·))<|ad O (aS O O)<|ar O O<|lc<|rt ?_
  apply aR (.inl rfl) ([ca pr l ps,pt pb (.cells #[.pointer (some ⟨pa,0,none⟩),.pointer (some ⟨po,0,none⟩),.pointer (some ⟨pr,0,none⟩),.pointer (some ⟨bq,0,none⟩),.int .i64 l.key,.int .i64 l.elem,.int .i64 l.ka,.int .i64 l.ea,.int .i64 l.cap,.int .i64 l.eo,.int .i64 l.bo,.int .i64 l.slot,.int .i64 l.group,.int .u64 sdP,vM,(.slice (some ⟨g0,0,none⟩) ps.length cap)] 93 (0,0)),aF 40 1 (.slice (some ⟨g0,0,none⟩) ps.length cap) ps.length (bL ps),bd pr s])
  ·apply cP O
   exact .tmp rfl
  ·exact⟨_,rfl,rfl,fun _ _=>he1 q1⟩
  refine eM hx (bC vc ?_);(exact en)
 refine ax O O O O<|ax O O O O<|ad O (aS O O)<|ar O O<|lc<|rt ?_
 apply aR (.inl rfl) ([ca pr l ps,pt pb (.cells #[.pointer (some ⟨pa,0,none⟩),.pointer (some ⟨po,0,none⟩),.pointer (some ⟨pr,0,none⟩),.pointer (some ⟨bq,0,none⟩),.int .i64 l.key,.int .i64 l.elem,.int .i64 l.ka,.int .i64 l.ea,.int .i64 l.cap,.int .i64 l.eo,.int .i64 l.bo,.int .i64 l.slot,.int .i64 l.group,.int .u64 sdP,vM,(.slice (some ⟨g0,0,none⟩) ps.length cap)] 93 (0,0)),aF 40 1 (.slice (some ⟨g0,0,none⟩) ps.length cap) ps.length (bL ps),bd pr s])
 ·apply cP O
  exact .tmp rfl
 ·exact⟨_,rfl,rfl,fun q=>by cases q⟩
 refine eM hx (bC vc ?_);(exact en)
end
end Plays
end
section
namespace Plays
open Go.RowKit Go.Proofs Eng Ty Mem Arena Layout Table Oracle Exact RefA Ref03 Ref04
theorem sg (A:HP) (v:Value) (xs:List Int) (hA:qN A v xs):
  aK Tryz.prog 25 #[v] [A] (fun r L=>L= [A]/\∃ z1 z2 z3 z4 z5 z6 z7 z8 z9:Int,r=.tuple #[.agg #[.int .i64 z1,.int .i64 z2,.int .i64 z3,.int .i64 z4,.int .i64 z5,.int .i64 z6,.int .i64 z7,.int .i64 z8,.int .i64 z9],.int .i64 (kT xs)]/\(kT xs=0->∃ l:Lay,l.err=0/\z1=l.key/\z2=l.elem/\z3=l.ka/\z4=l.ea/\z5=l.cap/\z6=l.eo/\z7=l.bo/\z8=l.slot/\z9=l.group)):=
 (Parse_ok A v xs hA).mono fun r L h=>by
  rcases h with⟨rfl,⟨h1,h2,h3⟩ | ⟨h1,h2⟩⟩
  ·exact⟨rfl,_,_,_,_,_,_,_,_,_,by rw[h1];exact h3,fun _=>⟨nj xs,h2,rfl,rfl,rfl,rfl,rfl,rfl,rfl,rfl,rfl⟩⟩
  exact⟨rfl,_,_,_,_,_,_,_,_,_,h2,fun e=>absurd e h1⟩
theorem Cv (limit:Int) (h:limit < 0\/2097152 < limit):aK Tryz.prog 27 #[.int .i64 limit] [] (fun v L=>v=.tuple #[.pointer none,.int .i64 20]/\L= []):=
 (yl limit).mono fun v L h2=>by
  rcases h2 with⟨_,h3,h4⟩ | ⟨h3,h4,_⟩
  ·exact⟨h3,h4⟩
  omega
theorem zP (limit:Int) (h:0<=limit/\limit<=2097152):aK Tryz.prog 27 #[.int .i64 limit] [] (fun v L=>∃ pr,v=.tuple #[.pointer (some ⟨pr,0,none⟩),.int .i64 0]/\L= [bd pr (ArS.new limit)]):=
 (yl limit).mono fun v L h2=>by
  rcases h2 with⟨h3,_⟩ | ⟨_,_,h3⟩
  ·omega
  exact h3
theorem AO (A:HP) (vf vo:Value) (xs:List Int) (os:List (ByteArray×Int)) (hA:qN A vf xs) (hO:jR A vo os) (limit sdP:Int):aK Tryz.prog 20 #[.agg #[.int .i64 limit,vo,.int .u64 sdP,vf]] [A] (fun v L=>∃ w,v=.tuple #[w,.bool true]/\((w=.pointer none/\L= [A])\/(∃(pb pa po pr bq bm:Nat) (l:Lay),w=.pointer (some ⟨pb,0,none⟩)/\l.err=0/\(0<=limit/\limit<=2097152)/\ix os/\L= [dv bq os,A,pt po (.cells #[.map (some bm)] 192 (0,0)),bG (fun k:ByteArray=>Value.string k) bm (bu os),pt pb (.cells #[.pointer (some ⟨pa,0,none⟩),.pointer (some ⟨po,0,none⟩),.pointer (some ⟨pr,0,none⟩),.pointer (some ⟨bq,0,none⟩),.int .i64 l.key,.int .i64 l.elem,.int .i64 l.ka,.int .i64 l.ea,.int .i64 l.cap,.int .i64 l.eo,.int .i64 l.bo,.int .i64 l.slot,.int .i64 l.group,.int .u64 sdP,(.slice none 0 0),(.slice none 0 0)] 93 (0,0)),bd pr (ArS.new limit),aj pa (ArS.new limit)]))):=by
 refine au Kn Tryz.func20 rfl rfl rfl fun Fr w0=>aZ ?_
 by_cases hlim:limit < 0\/2097152 < limit
 ·skip
  refine sr<|bw O O fun b1=>ar O O<|ar O O<|lz<|ad O (aE 3 O sm O O o9)<|ad O (aI O vQ) ?_
  refine cT O O O (sg A vf xs hA) ?_
  rintro v L' ⟨rfl,z1,z2,z3,z4,z5,z6,z7,z8,z9,rfl,hle⟩
  refine bx ?_
  refine mv O O<|ad O (aa O ga) ?_
  refine ad O (aa O ga) ?_
  refine ay O gB fun b4=>bZ O O O bH O O ?_
  refine ar O O<|lz<|ad O (aE 0 O sm O O aN)<|ad O (aI O aX) ?_
  refine bF O O O (Cv limit hlim) ?_
  refine mv O O<|ad O (aa O ga) ?_
  refine ad O (aa O ga) ?_
  refine ar O O<|ar O O<|lz<|ad O (aE 1 O sm O O qR)<|ad O (aI O tK) ?_
  refine cT O O O (m8 A _ os hO) ?_
  rintro v L' (⟨e,he,rfl,rfl⟩ | ⟨hgo,bq,lv,rfl,rfl⟩)
  refine bx ?_
  ·skip
   refine bx ?_
   refine mv O O<|ad O (aa O ga) ?_
   refine ad O (aa O ga) ?_
   refine ar O O<|ar O O<|lc<|al<|sr<|mv O O<|ad O (qi O O (bf ·))<|mv O O<|bQ (t:=34) rfl (fun q1=>?_) fun q1=>?_
   ·exact ax O O O O<|ax O O O O<|ad O (aS O O)<|mv O O<|ax O O O O<|ax O O O O<|ad O (aS O O)<|lc<|bk O<|sr<|ar O O<|ar O O<|lc<|rt<|ft O ([A]) (.tmp rfl) (.tmp rfl) (⟨_,rfl,.inl ⟨rfl,rfl⟩⟩)
   refine aA O O<|mv O O<|aA O O<|ad O (qi O O (bf ·))<|ad O (aS O O)<|mv O O<|bQ (t:=38) rfl (fun q2=>?_) fun q2=>?_
   ·exact ax O O O O<|ax O O O O<|ad O (aS O O)<|lc<|bk O<|sr<|ar O O<|ar O O<|lc<|rt<|ft O ([A]) (.tmp rfl) (.tmp rfl) (⟨_,rfl,.inl ⟨rfl,rfl⟩⟩)
   exact absurd (by decide) q2
  refine bx ?_
  refine mv O O<|ad O (aa O ga) ?_
  refine ad O (aa O ga) ?_
  refine ar O O<|ar O O<|lc<|al<|sr<|mv O O<|ad O (qi O O (bf ·))<|mv O O<|bQ (t:=34) rfl (fun q1=>?_) fun q1=>?_
  ·exact ax O O O O<|ax O O O O<|ad O (aS O O)<|mv O O<|ax O O O O<|ax O O O O<|ad O (aS O O)<|lc<|bk O<|sr<|ar O O<|ar O O<|lc<|rt<|ft O ([A]) (.tmp rfl) (.tmp rfl) (⟨_,rfl,.inl ⟨rfl,rfl⟩⟩)
  refine aA O O<|mv O O<|aA O O<|ad O (qi O O (bf ·))<|ad O (aS O O)<|mv O O<|bQ (t:=38) rfl (fun q2=>?_) fun q2=>?_
  ·exact ax O O O O<|ax O O O O<|ad O (aS O O)<|lc<|bk O<|sr<|ar O O<|ar O O<|lc<|rt<|ft O ([A]) (.tmp rfl) (.tmp rfl) (⟨_,rfl,.inl ⟨rfl,rfl⟩⟩)
  exact absurd (by decide) q2
 have hlim2:0<=limit/\limit<=2097152:=by omega
 refine sr<|bw O O fun b1=>ar O O<|ar O O<|lz<|ad O (aE 3 O sm O O o9)<|ad O (aI O vQ) ?_
 refine cT O O O (sg A vf xs hA) ?_
 rintro v L' ⟨rfl,z1,z2,z3,z4,z5,z6,z7,z8,z9,rfl,hle⟩
 refine bx ?_
 refine mv O O<|ad O (aa O ga) ?_
 refine ad O (aa O ga) ?_
 refine ay O gB fun b4=>bZ O O O bH O O ?_
 refine ar O O<|lz<|ad O (aE 0 O sm O O aN)<|ad O (aI O aX) ?_
 refine cT O O O (zP limit hlim2) ?_
 rintro v L' ⟨pr,rfl,rfl⟩
 refine bx ?_
 refine mv O O<|ad O (aa O ga) ?_
 refine ad O (aa O ga) ?_
 refine ar O O<|ar O O<|lz<|ad O (aE 1 O sm O O qR)<|ad O (aI O tK) ?_
 refine cT O O O (m8 A _ os hO) ?_
 rintro v L' (⟨e,he,rfl,rfl⟩ | ⟨hgo,bq,lv,rfl,rfl⟩)
 refine bx ?_
 ·skip
  have hez:=he.pos
  refine bx ?_
  refine mv O O<|ad O (aa O ga) ?_
  refine ad O (aa O ga) ?_
  refine ar O O<|ar O O<|lc<|al<|sr<|mv O O<|ad O (qi O O (bf ·))<|mv O O<|bQ (t:=34) rfl (fun q1=>?_) fun q1=>?_
  ·exact ax O O O O<|ax O O O O<|ad O (aS O O)<|mv O O<|ax O O O O<|ax O O O O<|ad O (aS O O)<|lc<|bk O<|sr<|ar O O<|ar O O<|lc<|rt<|ft O ([A]) (.tmp rfl) (.tmp rfl) (⟨_,rfl,.inl ⟨rfl,rfl⟩⟩)
  refine aA O O<|mv O O<|aA O O<|ad O (qi O O (bf ·))<|ad O (aS O O)<|mv O O<|bQ (t:=38) rfl (fun q2=>?_) fun q2=>?_
  ·exact absurd rfl q2
  refine aA O O<|mv O O<|aA O O<|ad O (qi O O (bf ·))<|ad O (aS O O)<|lc<|aG O (fun q3=>?_) fun q3=>?_
  ·exact sr<|ar O O<|ar O O<|lc<|rt<|ft O ([A]) (.tmp rfl) (.tmp rfl) (⟨_,rfl,.inl ⟨rfl,rfl⟩⟩)
  exact absurd hez q3
 refine bx ?_
 refine mv O O<|ad O (aa O ga) ?_
 refine ad O (aa O ga) ?_
 refine ar O O<|ar O O<|lc<|al<|sr<|mv O O<|ad O (qi O O (bf ·))<|mv O O<|bQ (t:=34) rfl (fun q1=>?_) fun q1=>?_
 ·exact ax O O O O<|ax O O O O<|ad O (aS O O)<|mv O O<|ax O O O O<|ax O O O O<|ad O (aS O O)<|lc<|bk O<|sr<|ar O O<|ar O O<|lc<|rt<|ft O ([A]) (.tmp rfl) (.tmp rfl) (⟨_,rfl,.inl ⟨rfl,rfl⟩⟩)
 refine aA O O<|mv O O<|aA O O<|ad O (qi O O (bf ·))<|ad O (aS O O)<|mv O O<|bQ (t:=38) rfl (fun q2=>?_) fun q2=>?_
 ·exact absurd rfl q2
 refine aA O O<|mv O O<|aA O O<|ad O (qi O O (bf ·))<|ad O (aS O O)<|lc<|aG O (fun q3=>?_) fun q3=>?_
 ·exact absurd rfl q3
 obtain⟨l,hl,rfl,rfl,rfl,rfl,rfl,rfl,rfl,rfl,rfl⟩:=hle (by simpa using q1)
 refine aq<|nz<|ad O (aE 0 O sm O O aN)<|ad O (aI O aX) ?_
 refine cT O O O (Arena.New_ok limit hlim2) ?_
 rintro v L' ⟨pa,rfl,rfl⟩
 refine bx ?_
 refine mv O O<|ad O (aa O ga) ?_
 refine ad O (aa O ga) ?_
 refine ar O O<|ar O O<|lz<|ad O (aE 1 O sm O O qR)<|ad O (aI O tK) ?_
 refine cT O O O (Bn A _ os hO) ?_
 rintro v L' (⟨e,he,rfl,rfl⟩ | ⟨hgo2,po,bm,rfl,rfl⟩)
 refine bx ?_
 ·exact(he.bad hgo).elim
 refine bx ?_
 refine mv O O<|ad O (aa O ga) ?_
 refine ad O (aa O ga) ?_
 refine ar O O<|ar O O<|lc<|al<|sr<|mv O O<|ad O (qi O O (bf ·))<|mv O O<|bQ (t:=56) rfl (fun r1=>?_) fun r1=>?_
 ·exact absurd rfl r1
 refine aA O O<|mv O O<|aA O O<|ad O (qi O O (bf ·))<|ad O (aS O O)<|mv O O<|bQ (t:=60) rfl (fun r2=>?_) fun r2=>?_
 ·exact absurd rfl r2
 refine aA O O<|mv O O<|aA O O<|ad O (gI O O (fH ·) (mh · Gw))<|ad O (aS O O)<|mv O O<|bQ (t:=64) rfl (fun r3=>?_) fun r3=>?_
 ·simp at r3
 refine aA O O<|mv O O<|aA O O<|ad O (gI O O (fH ·) (mh · Gv))<|ad O (aS O O)<|lc<|aG O (fun r4=>?_) fun r4=>?_
 ·simp at r4
 refine aq<|nz<|mv O O<|mv O O<|mv O O<|mv O O<|ad O (aO O cZ bH) ?_
 refine ad O (aE 2 O sm O O jV)<|ad O (aI O fV) ?_
 apply ad O
 ·apply bp O Jq Jl
  apply aP.one
  ·repeat (first | exact ba.here | apply ba.there)
  ·rfl
  ·exact sa
  apply aP.one
  ·repeat (first | exact ba.here | apply ba.there)
  ·rfl
  ·exact sa
  apply aP.one
  ·repeat (first | exact ba.here | apply ba.there)
  ·rfl
  ·exact sa
  apply aP.one
  ·repeat (first | exact ba.here | apply ba.there)
  ·rfl
  ·exact sa
  apply aP.all
  ·repeat (first | exact ba.here | apply ba.there)
  ·rfl
  ·simp
  ·exact Dj
  apply aP.one
  ·repeat (first | exact ba.here | apply ba.there)
  ·rfl
  ·exact sa
  exact aP.nil
 refine bw O O fun b76=>ar O O<|ar O O<|lc<|rt ?_
 apply aR (.inl rfl) ([dv bq os,A,pt po (.cells #[.map (some bm)] 192 (0,0)),bG (fun k:ByteArray=>Value.string k) bm (bu os),pt b76 (.cells #[.pointer (some ⟨pa,0,none⟩),.pointer (some ⟨po,0,none⟩),.pointer (some ⟨pr,0,none⟩),.pointer (some ⟨bq,0,none⟩),.int .i64 l.key,.int .i64 l.elem,.int .i64 l.ka,.int .i64 l.ea,.int .i64 l.cap,.int .i64 l.eo,.int .i64 l.bo,.int .i64 l.slot,.int .i64 l.group,.int .u64 sdP,.slice none 0 0,.slice none 0 0] 93 (0,0)),bd pr (ArS.new limit),aj pa (ArS.new limit)])
 ·apply cF O
  ·exact .tmp rfl
  exact .tmp rfl
 ·exact⟨_,rfl,.inr ⟨b76,pa,po,pr,bq,bm,l,rfl,hl,hlim2,hgo,rfl⟩⟩
 refine pN lv ?_;(exact en)
end Plays
end
end Go.Proofs.YthkajgkagnenbaaGreatDoor
