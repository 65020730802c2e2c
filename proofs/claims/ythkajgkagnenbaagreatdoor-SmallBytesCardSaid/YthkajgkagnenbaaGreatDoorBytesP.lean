import Derived.Test.YthkajgkagnenbaaGreatDoorRefTB
import Derived.Lib.AppendStr
import Derived.Lib.AppendZerosOnto
set_option linter.unusedVariables false
set_option linter.unusedSimpArgs false
set_option linter.unusedSectionVars false
namespace Go.Proofs.YthkajgkagnenbaaGreatDoor
section
set_option maxRecDepth 100000
namespace Exact
open Go.RowKit Go.Proofs Eng Bits Mem Search Arena CtrlB Layout GroupB Probe TableB TableI Table Bench Cells Refill
structure jX (n:Nat) (T:Tb):Prop where
 used:T.used=((cnt isFull T.cells (8*n):Nat):Int)
 left0:0≤T.left
 left1:T.left+((cnt isFull T.cells (8*n):Nat):Int)+((cnt lG T.cells (8*n):Nat):Int)≤7*(n:Int)
 pins:0≤T.pins∧T.pins≤4611686018427387904
 kind:T.kind=2∨T.kind=4
theorem jX.new (n:Nat) (d:Int):jX n (jJ n d):=by
 have h1:∀ N,cnt isFull (jJ n d).cells N=0:=fun N=>by
  induction N with
  | zero=>rfl
  | succ N ih=>rw[fk,ih];rfl
 have h2:∀ N,cnt lG (jJ n d).cells N=0:=fun N=>by
  induction N with
  | zero=>rfl
  | succ N ih=>rw[fk,ih];rfl
 refine⟨by rw[h1];rfl,?_,?_,by show(0:Int)≤0∧(0:Int)≤4611686018427387904;omega,.inl rfl⟩
 ·show 0≤7*(n:Int);omega
 rw[h1,h2];show 7*(n:Int)+0+0≤7*(n:Int);omega
section
variable {n:Nat} {T T':Tb} {h:Int} {key elem:ByteArray} {birth out:Int} {b:Bool}
theorem jX.put (hc:jX n T) (hr:A3 n T h key elem birth (out,T')):jX n T':=by
 have hus:=hc.used
 have hl0:=hc.left0
 have hl1:=hc.left1
 cases hr with
 | old p e0 b0 hp hs hcell=>
  have h1:=mK (p:=isFull) hp (cells:=T.cells) (.full (h % 128) key elem b0)
  have h2:=mK (p:=lG) hp (cells:=T.cells) (.full (h % 128) key elem b0)
  rw[hcell] at h1 h2
  simp only[isFull,lG,if_pos,Bool.false_eq_true,if_false] at h1 h2
  exact⟨by dsimp only;omega,hl0,by dsimp only;omega,hc.pins,hc.kind⟩
 | no _ _=>exact hc
 | new j i hj hi hs hem hf hl=>
  have hp:8*gk (h / 128) n j+i < 8*n:=BM (oR (by omega)) hi
  revert hp hf hl
  generalize 8*gk (h / 128) n j+i=p
  intro hf hl hp
  have h1:=mK (p:=isFull) hp (cells:=T.cells) (.full (h % 128) key elem birth)
  have h2:=mK (p:=lG) hp (cells:=T.cells) (.full (h % 128) key elem birth)
  rw[hf] at h1
  simp only[isFull,lG,if_pos,Bool.false_eq_true,if_false] at h1 h2
  have husd:T.used+1=((cnt isFull (bT T.cells p (.full (h % 128) key elem birth)) (8*n):Nat):Int):=by omega
  cases hcell:T.cells p with
  | empty=>
   rw[hcell] at h2 hl
   simp only[lG,if_pos,Bool.false_eq_true,if_false] at h2
   have hl:=hl rfl
   simp only[ed,if_pos]
   exact⟨husd,by dsimp only;omega,by dsimp only;omega,hc.pins,hc.kind⟩
  | deleted=>
   rw[hcell] at h2
   simp only[lG,if_pos] at h2
   simp only[ed,Bool.false_eq_true,if_false]
   exact⟨husd,hl0,by dsimp only;omega,hc.pins,hc.kind⟩
  | full t k e b=>rw[hcell] at hf;cases hf
end
theorem jX.bnd {n:Nat} {T:Tb} (h:jX n T) (hn:n≤8192):(0≤T.used∧T.used≤1099511627776)∧(0≤T.left∧T.left≤1099511627776):=by
 have h1:=h.used
 have h2:=h.left0
 have h3:=h.left1
 have h4:=rY isFull T.cells (8*n)
 omega
structure PR where
 p:Nat
 off:Nat
 go:Nat
 n:Nat
 e:Nat
 T:Tb
 dead:Bool
 over:Bool
structure One (s:ArS) (l:Lay) (x:PR):Prop where
 he:x.e≤13
 hn:x.n=2 ^ x.e
 rng:jX x.n x.T
 live:x.dead=false→eO s x.off x.go l x.n x.e x.T∧(((x.off:Nat):Int),(64:Int))∈s.bl∧(((x.go:Nat):Int),aC ((x.n*gN l:Nat):Int))∈s.bl∧((x.n*gN l:Nat):Int)≤1048576
 gone:x.dead=true→x.over=false→s.dead (x.off:Nat)=true∧(∃ c,(((x.off:Nat):Int),c)∈s.all)
 place:x.off≤1000000000
 tail:x.dead=false→iy s x.go (x.n*gN l) (aC ((x.n*gN l:Nat):Int))
def apart (x y:PR):Prop:=x.off≠y.off∧x.off≠y.go∧x.go≠y.off∧x.go≠y.go
theorem apart.symm {x y:PR} (h:apart x y):apart y x:=⟨Ne.symm h.1,Ne.symm h.2.2.1,Ne.symm h.2.1,Ne.symm h.2.2.2⟩
structure All (s:ArS) (l:Lay) (ps:List PR):Prop where
 one:∀ x∈ps,One s l x
 two:∀(i j:Nat) (x y:PR),i≠j→ps[i]?=some x→ps[j]?=some y→x.dead=false→y.dead=false→apart x y
theorem All.nil (s:ArS) (l:Lay):All s l []:=⟨fun x hx=>(by cases hx),fun i j x y _ h=>by simp at h⟩
theorem All.at {s:ArS} {l:Lay} {ps:List PR} (h:All s l ps) {i:Nat} {x:PR} (hx:ps[i]?=some x):One s l x:=h.one x (List.mem_of_getElem? hx)
theorem mP {s:ArS} (hs:s.ok) {p q:Int×Int} (hp:p∈s.bl) (hq:q∈s.bl) (hne:p.1≠q.1):p.1+p.2≤q.1∨q.1+q.2≤p.1:=by
 rcases iN hs.chain (cr.1 hp).1 (cr.1 hq).1 with e | e | e
 ·rw[e] at hne;exact absurd rfl hne
 ·exact .inl e
 exact .inr e
theorem rZ {k:Nat} {c:Int} (hc:c=aC (k:Int)) (h1:(k:Int)≤1048576):(k:Int)≤c:=by
 rcases Nat.eq_zero_or_pos k with q | q
 ·subst q;rw[hc];decide
 have:=(cF (n:=(k:Int)) (by omega)).2.2 h1;omega
def ES (x:PR):PR:={x with over:=x.over || x.dead}
theorem qe {s s':ArS} {off go:Nat} {l:Lay} {n e:Nat} {T:Tb} (h:eO s off go l n e T) (hgh:aN s' (off:Nat) 64) (hgg:aN s' (go:Nat) ((n*gN l:Nat):Int)) (hm:s'.m=s.m):eO s' off go l n e T:=by
 refine⟨h.hl,h.he,h.hn,⟨fun k hk=>?_,fun g hg' j hj=>?_,h.hT.okc⟩,hgh,hgg,h.hr,h.dj⟩
 ·rw[hm];exact h.hT.head k hk
 rw[hm];exact h.hT.body g hg' j hj
theorem bl_good {s:ArS} {o:Nat} {c k:Int} (h:(((o:Nat):Int),c)∈s.bl) (h0:0≤k) (hk:k≤c):aN s (o:Nat) k:=⟨h0,_,h,Int.le_refl _,by dsimp only;omega⟩
end Exact
end
section
set_option maxRecDepth 100000
namespace Table
open Go.RowKit Go.Proofs Eng Ty Bits Mem Search Arena CtrlB Ctrl Layout GroupB Group TableB
theorem wW (pa:Nat) (s:ArS) (off:Int) (k:Nat) (hk:wid k) (hg:¬ aN s off k) (hne:s.all≠[]):aG Tryz.prog 168 #[.pointer (some ⟨pa,0,none⟩),.int .i64 off,.int .i64 k] [ae pa s]
  (fun v L=>v=.int .i64 24∧L= [ae pa s]):=by
 refine aq C5 Tryz.func168 rfl rfl rfl fun Fr w0=>aR ?_
 refine sr<|asg rfl rfl<|lc<|ah<|sr<|mv rfl rfl<|lc<|ax<|ah<|sr<|l_q rfl (qi rfl rfl (aZ ·))<|asg rfl rfl<|lc<|ml (t:=8) rfl (fun h1=>?_) fun h1=>?_
 ·refine aY rfl<|al<|ak<|aY rfl<|al<|aV<|ak<|ah<|sr<|mv rfl rfl<|mv rfl rfl<|mv rfl rfl<|lcf rfl rfl rfl (eT pa s hne off k) ?_
  rintro v L' ⟨⟨b,rfl,hb⟩,rfl⟩
  refine bF ?_
  refine l_q rfl (cX rfl (bY ·))<|lc<|aA rfl (fun z=>?_) fun z=>?_
  ·exact sr<|asg rfl rfl<|lc<|rt<|fr1 rfl ([ae pa s]) (.tmp rfl) ⟨rfl,rfl⟩
  exact absurd (hb.1 (by simpa using z)) hg
 refine bR rfl<|sr<|l_q rfl (qi rfl rfl (aZ ·))<|asg rfl rfl<|lc<|ml (t:=8) rfl (fun h2=>?_) fun h2=>?_
 ·refine aY rfl<|al<|ak<|aY rfl<|al<|aV<|ak<|ah<|sr<|mv rfl rfl<|mv rfl rfl<|mv rfl rfl<|lcf rfl rfl rfl (eT pa s hne off k) ?_
  rintro v L' ⟨⟨b,rfl,hb⟩,rfl⟩
  refine bF ?_
  refine l_q rfl (cX rfl (bY ·))<|lc<|aA rfl (fun z=>?_) fun z=>?_
  ·exact sr<|asg rfl rfl<|lc<|rt<|fr1 rfl ([ae pa s]) (.tmp rfl) ⟨rfl,rfl⟩
  exact absurd (hb.1 (by simpa using z)) hg
 refine bR rfl<|sr<|l_q rfl (qi rfl rfl (aZ ·))<|asg rfl rfl<|lc<|ml (t:=8) rfl (fun h4=>?_) fun h4=>?_
 ·refine aY rfl<|al<|ak<|aY rfl<|al<|aV<|ak<|ah<|sr<|mv rfl rfl<|mv rfl rfl<|mv rfl rfl<|lcf rfl rfl rfl (eT pa s hne off k) ?_
  rintro v L' ⟨⟨b,rfl,hb⟩,rfl⟩
  refine bF ?_
  refine l_q rfl (cX rfl (bY ·))<|lc<|aA rfl (fun z=>?_) fun z=>?_
  ·exact sr<|asg rfl rfl<|lc<|rt<|fr1 rfl ([ae pa s]) (.tmp rfl) ⟨rfl,rfl⟩
  exact absurd (hb.1 (by simpa using z)) hg
 refine bR rfl<|aB<|l_q rfl (qi rfl rfl (aZ ·))<|asg rfl rfl<|lc<|ml (t:=8) rfl (fun h8=>?_) fun h8=>?_
 ·refine aY rfl<|al<|aV<|ak<|ah<|sr<|mv rfl rfl<|mv rfl rfl<|mv rfl rfl<|lcf rfl rfl rfl (eT pa s hne off k) ?_
  rintro v L' ⟨⟨b,rfl,hb⟩,rfl⟩
  refine bF ?_
  refine l_q rfl (cX rfl (bY ·))<|lc<|aA rfl (fun z=>?_) fun z=>?_
  ·exact sr<|asg rfl rfl<|lc<|rt<|fr1 rfl ([ae pa s]) (.tmp rfl) ⟨rfl,rfl⟩
  exact absurd (hb.1 (by simpa using z)) hg
 unfold wid at hk;omega
theorem Load_dead (pa:Nat) (s:ArS) (off:Int) (k:Nat) (hk:wid k) (hg:¬ aN s off k) (hne:s.all≠[]):aG Tryz.prog 99 #[.pointer (some ⟨pa,0,none⟩),.int .i64 off,.int .i64 k] [ae pa s]
  (fun v L=>v=.tuple #[.int .u64 0,.int .i64 24]∧L= [ae pa s]):=by
 refine aq E3 Tryz.func99 rfl rfl rfl fun Fr w0=>aR ?_
 refine sr<|asg rfl rfl<|asg rfl rfl<|lc<|ah<|sr<|mv rfl rfl<|mv rfl rfl<|mv rfl rfl<|lc1 rfl rfl rfl (wW pa s off k hk hg hne) ?_
 refine asg rfl rfl<|lz<|mv rfl rfl<|l_q rfl (qi rfl rfl (aI ·))<|lc<|aA rfl (fun z=>?_) fun z=>?_
 ·exact sr<|mv rfl rfl<|asg rfl rfl<|asg rfl rfl<|lc<|rt<|fr2 rfl ([ae pa s]) (.tmp rfl) (.tmp rfl) ⟨rfl,rfl⟩
 exact absurd z (by decide)
section
variable (pa:Nat) (off:Nat) (s:ArS) (l:Lay) (hg:¬ aN s (off:Nat) 8) (hne:s.all≠[]) (ho:off≤1000000000)
include hg hne ho
end
end Table
end
section
set_option maxRecDepth 100000
namespace Exact
open Go.RowKit Go.Proofs Eng Ty Bits Mem Search Arena CtrlB Ctrl Layout GroupB Group Probe TableB TableI Table Bench Cells Refill
theorem aG.beside {P:Program} {f:FuncId} {args:Array Value} {D:List HP} {Post:Value→List HP→Prop} (h:aG P f args D Post) (X:HP):aG P f args (X::D) (fun v L=>∃ L0,L=X::L0∧Post v L0):=
 ⟨h.enters,fun Fr w0 w hs he=>(h.calls (X::Fr) w0 w (hs.perm (by rw[List.cons_append];exact List.perm_middle.symm)) he).mono fun _ _ ⟨v,L',e,p,s,x⟩=>⟨v,X::L',e,⟨L',rfl,p⟩,s.perm (by rw[List.cons_append];exact List.perm_middle),x⟩⟩
section
variable (l:Lay) (x:PR)
def m8 (h:Int) (key elem:ByteArray) (birth:Int):Int×Int×Tb:=if x.dead then(0,24,x.T) else if(key.size:Int)≠l.key then(0,61,x.T) else if(elem.size:Int)≠l.elem then(0,62,x.T) else if birth < 0 then(0,64,x.T) else((eR x.n x.T h key elem birth).1,0,(eR x.n x.T h key elem birth).2)
end
structure Step (s s':ArS) (l:Lay) (x:PR) (T':Tb):Prop where
 live:x.dead=false→de s s' x.off x.go (x.n*gN l)∧eO s' x.off x.go l x.n x.e T'∧jX x.n T'
 gone:x.dead=true→s'=s∧T'=x.T
theorem Step.no {s:ArS} {l:Lay} {x:PR} (hO:One s l x):Step s s l x x.T:=⟨fun hd=>⟨de.refl _ _ _ _,(hO.live hd).1,hO.rng⟩,fun _=>⟨rfl,rfl⟩⟩
theorem ou {ps:List PR} {i:Nat} {x:PR} (hx:ps[i]?=some x):ps.set i x=ps:=by
 have hil:i < ps.length:=by rcases Nat.lt_or_ge i ps.length with q | q;exact q;rw[List.getElem?_eq_none q] at hx;cases hx
 refine List.ext_getElem? fun j=>?_
 rw[List.getElem?_set]
 split
 ·next q=>subst q;exact hx.symm
 rfl
section
variable (G:HP) (hG:dz G) (pa:Nat) (s:ArS) (hs:s.ok) (l:Lay) (hl:l.err=0) (x:PR) (hO:One s l x) (hov:x.over=false)
include hs hl hO hov
include hG
end
end Exact
end
section
namespace Eng
open Go.RowKit
theorem ua {P:Program} {t u ty e:TypeId} {i:TypeInfo} (ht:P.underlying t=some (.slice e)) (hu:P.underlying u=some .string) (hi:P.info? e=some i) (hz:i.zero=some (.int .u8 0))
  (hsize:i.size=1) (hby:i.bytes=1) {v:Value} {n:Nat} {xs:List Value} {M:List HP} {w:World} (hs:Sat (stars (aE e 1 v n xs::M)) w) (s:ByteArray) (h63:n+s.size≤maxLen) (hbytes:n+s.size≤140737488355328):
  ∃ v' w',(Builtin.append_ #[t,u] ty #[v,.string s]).run P w=.ok v' w'∧Sat (stars (aE e 1 v' (n+s.size) (xs ++ cA s)::M)) w'∧Ext w w':=by
 have hsmall:n+s.size≤9223372036854775807:=by simp only[maxLen] at h63;omega
 obtain⟨hlen,hc⟩:=jh hs
 have hlu:(cA s).length=s.size:=ft s
 have hlen2:(xs ++ cA s).length=(n+s.size)*1:=by rw[List.length_append,hlen,hlu];omega
 have grown:∀(old:Nat),Sat (stars M) w→Sat (stars (aE e 1 (.slice (some ⟨w.heap.size,0,none⟩) (n+s.size) (grownCap w (n+s.size) old e)) (n+s.size) (xs ++ cA s)::M))
   (w.drew.alloc (.cells (xs.toArray ++ (cA s).toArray ++ Builtin.zeroCells (Value.int .u8 0).cells (grownCap w (n+s.size) old e-(n+s.size))) e)):=by
  intro old hM
  have hge:=grownCap_ge w (n+s.size) old e
  have hcm:grownCap w (n+s.size) old e≤maxLen:=grownCap_le_maxLen w (n+s.size) old e h63
  refine dB (Sat.alloc (A:=stars M) hM.drew _) hlen2 hge hcm ?_ ?_
  ·simp only[Array.size_append,List.size_toArray,size_zeroCells,hlen,hlu,show(Value.int .u8 0).cells.size=1 from rfl]
   omega
  simp only[Array.toList_append,List.append_assoc]
  rw[← List.append_assoc,← hlen2]
  exact List.take_left
 rcases hc with⟨rfl,rfl,hM⟩ | ⟨g,cap,cur,rfl,hnc,hcm,hcs,htake,hM⟩
 ·have hx:xs= []:=List.eq_nil_of_length_eq_zero (by simpa using hlen)
  subst hx
  by_cases hm:s.size=0
  ·have hn:cA s= []:=List.eq_nil_of_length_eq_zero (by rw[hlu,hm])
   refine⟨.slice none 0 0,w,?_,by rw[hn,hm];exact eh hM,Ext.refl w⟩
   have hex:s.extract 0 0=ByteArray.empty:=by apply ByteArray.ext;simp
   simp[Builtin.append_,run_underlying ht,run_underlying hu,sizeOf,typeInfo,hi,Builtin.lenOf,Builtin.firstCells,hm]
  have hr:=run_append_nil_string (P:=P) w t u ty e i (.int .u8 0) ht hu hi hz s (by omega) (by omega) (by rw[hby];omega)
  have hgr:=grown 0 hM
  simp only[Nat.zero_add,List.nil_append,Array.empty_append] at hgr ⊢
  have ha:(cA s).toArray=s.data.map (fun b=>Value.int .u8 b.toNat):=by apply Array.ext';simp[cA]
  rw[ha] at hgr
  exact⟨_,_,hr,hgr,(Ext.refl w).drew.alloc _⟩
 have hg:=hM.block (b:=g) .here
 by_cases hroom:n+s.size≤cap
 ·have hfit:n+s.size≤cur.size:=by rw[hcs];omega
  have hr:=Lib.run_append_room_string (P:=P) w t u ty e i ht hu hi hsize g n cap cur hg s hroom hfit
  refine⟨_,_,hr,?_,⟨rfl,rfl,rfl,by simp[World.setRow]⟩⟩
  refine dB (Sat.turn (o':=.cells _ e (0,0)) hM (setRow_heap w g cur _ e _ hg) (fun k hk _=>setRow_other w g k _ hk)) hlen2 hroom hcm ?_ ?_
  ·simp only[List.size_toArray,List.length_append,List.length_take,List.length_drop,Array.length_toList,Lib.strCells_length]
   omega
  rw[Nat.mul_one] at htake
  rw[htake,← hlen2]
  exact List.take_left
 have holds:∀ j u,xs[j]?=some u→w.cell? ((⟨g,0,none⟩:Addr).add j)=some u:=fun j u hu=>by
  refine mN hg j u ?_
  rw[← htake,List.getElem?_take] at hu
  split at hu
  ·exact hu
  cases hu
 have hr:=Lib.run_append_grow_string (P:=P) w t u ty e i (.int .u8 0) ht hu hi hz ⟨g,0,none⟩ n cap xs (by rw[hsize];exact hlen) holds s (by omega) (by omega) (growslice_fits (by omega) (by rw[hby];omega))
 exact⟨_,_,hr,grown cap hM.tail,(Ext.refl w).drew.alloc _⟩
theorem n6 (m:Nat):(Builtin.zeroCells (Value.int .u8 0).cells m).toList=List.replicate m (.int .u8 0):=by
 show(Builtin.zeroCells #[Value.int .u8 0] m).toList=_
 apply List.ext_getElem?
 intro i
 simp only[Builtin.zeroCells,Array.toList_map,Array.toList_range,List.getElem?_map,List.getElem?_replicate]
 by_cases hi:i < m
 ·rw[List.getElem?_range (by simpa using hi),if_pos hi];simp[Nat.mod_one]
 rw[List.getElem?_eq_none (by simpa using hi),if_neg hi];rfl
theorem tZ {P:Program} {t u ty e:TypeId} {i:TypeInfo} {kn kq:IntKind} (ht:P.underlying t=some (.slice e)) (hu:P.underlying u=some (.int kn)) (hi:P.info? e=some i) (hz:i.zero=some (.int .u8 0))
  (hsize:i.size=1) (hby:i.bytes=1) {v:Value} {n:Nat} {xs:List Value} {M:List HP} {w:World} (hs:Sat (stars (aE e 1 v n xs::M)) w) (m:Nat) (h63:n+m≤maxLen) (hbytes:n+m≤140737488355328):
  ∃ v' w',(Builtin.append_ #[t,u] ty #[v,.int kq m]).run P w=.ok v' w'∧Sat (stars (aE e 1 v' (n+m) (xs ++ List.replicate m (.int .u8 0))::M)) w'∧Ext w w':=by
 have hsmall:n+m≤9223372036854775807:=by simp only[maxLen] at h63;omega
 obtain⟨hlen,hc⟩:=jh hs
 have hlu:(List.replicate m (Value.int .u8 0)).length=m:=List.length_replicate
 have hlen2:(xs ++ List.replicate m (Value.int .u8 0)).length=(n+m)*1:=by rw[List.length_append,hlen,hlu];omega
 have hwr:IntKind.i64.wrap (m:Int)=m:=by rw[IntKind.wrap_i64];omega
 have hwr0:IntKind.i64.wrap 0=0:=by decide
 have hneg:¬ ((m:Int) < 0):=by omega
 have h48i:¬ (281474976710656 < (m:Int)*(i.bytes:Int)):=by rw[hby];omega
 have grown:∀(old:Nat),Sat (stars M) w→Sat (stars (aE e 1 (.slice (some ⟨w.heap.size,0,none⟩) (n+m) (grownCap w (n+m) old e)) (n+m) (xs ++ List.replicate m (.int .u8 0))::M))
   (w.drew.alloc (.cells (xs.toArray ++ Builtin.zeroCells (Value.int .u8 0).cells m ++ Builtin.zeroCells (Value.int .u8 0).cells (grownCap w (n+m) old e-(n+m))) e)):=by
  intro old hM
  have hge:=grownCap_ge w (n+m) old e
  have hcm:grownCap w (n+m) old e≤maxLen:=grownCap_le_maxLen w (n+m) old e h63
  refine dB (Sat.alloc (A:=stars M) hM.drew _) hlen2 hge hcm ?_ ?_
  ·simp only[Array.size_append,List.size_toArray,size_zeroCells,hlen,show(Value.int .u8 0).cells.size=1 from rfl]
   omega
  simp only[Array.toList_append,List.append_assoc,n6]
  rw[← List.append_assoc,← hlen2]
  exact List.take_left
 rcases hc with⟨rfl,rfl,hM⟩ | ⟨g,cap,cur,rfl,hnc,hcm,hcs,htake,hM⟩
 ·have hx:xs= []:=List.eq_nil_of_length_eq_zero (by simpa using hlen)
  subst hx
  by_cases hm:m=0
  ·subst hm
   refine⟨.slice none 0 0,w,?_,eh hM,Ext.refl w⟩
   simp[Builtin.append_,run_underlying ht,run_underlying hu,sizeOf,typeInfo,hi,asInt,asIntOf,hwr,hwr0]
  have hr:=Lib.run_append_nil_zeros (P:=P) w t u ty e i (.int .u8 0) kq kn ht hu hi hz m (by omega) (by omega) (by omega) (by rw[hby];omega)
  have hgr:=grown 0 hM
  simp only[Nat.zero_add,List.nil_append,Array.empty_append] at hgr ⊢
  exact⟨_,_,hr,hgr,(Ext.refl w).drew.alloc _⟩
 have hg:=hM.block (b:=g) .here
 by_cases hroom:n+m≤cap
 ·have hfit:n+m≤cur.size:=by rw[hcs];omega
  have hst:=run_storeCells_at P g n e (List.replicate m (Value.int .u8 0)) 0 cur w hg (by rw[hlu];omega) (fun v hv=>by rw[(List.mem_replicate.1 hv).2];rfl)
  rw[Nat.add_zero,hlu] at hst
  have hr:(Builtin.append_ #[t,u] ty #[.slice (some ⟨g,0,none⟩) n cap,.int kq m]).run P w=.ok (.slice (some ⟨g,0,none⟩) (n+m) cap) (w.setRow g (cur.toList.take n ++ List.replicate m (Value.int .u8 0) ++ cur.toList.drop (n+m)).toArray):=by
   by_cases hm0:m=0
   ·subst hm0
    simp only[List.replicate_zero,Nat.add_zero] at hst ⊢
    simp[Builtin.append_,run_underlying ht,run_underlying hu,sizeOf,typeInfo,zeroValue,hi,hz,hsize,asInt,asIntOf,hwr,hwr0,Addr.add_lit,hnc]
    have hst':(storeCells ⟨g,n,none⟩ []).run P w=.ok () (w.setRow g cur):=by simpa using hst
    rw[hst'];rfl
   simp[Builtin.append_,run_underlying ht,run_underlying hu,sizeOf,typeInfo,zeroValue,hi,hz,hsize,asInt,asIntOf,hwr,hneg,h48i,hroom,hm0,n6,Addr.add_lit,hst]
  refine⟨_,_,hr,?_,⟨rfl,rfl,rfl,by simp[World.setRow]⟩⟩
  refine dB (Sat.turn (o':=.cells _ e (0,0)) hM (setRow_heap w g cur _ e _ hg) (fun k hk _=>setRow_other w g k _ hk)) hlen2 hroom hcm ?_ ?_
  ·simp only[List.size_toArray,List.length_append,List.length_take,List.length_drop,Array.length_toList,hlu]
   omega
  rw[Nat.mul_one] at htake
  rw[htake,← hlen2]
  exact List.take_left
 have holds:(Builtin.firstCells i.size n (.slice (some ⟨g,0,none⟩) n cap)).run P w.drew=.ok xs.toArray w.drew:=run_firstCells_some (P:=P) w.drew i.size n ⟨g,0,none⟩ n cap xs (by rw[hsize];exact hlen) (by
  intro j u hu
  have:=mN hg j u (by
   rw[← htake,List.getElem?_take] at hu
   split at hu
   ·exact hu
   cases hu)
  simpa using this)
 have hr:=Lib.run_append_grow_zeros (P:=P) w t u ty e i (.int .u8 0) kq kn ht hu hi hz (some ⟨g,0,none⟩) n cap xs holds m (by omega) (by omega) (by omega) (by omega) (by rw[hby];omega) (growslice_fits (by omega) (by rw[hby];omega))
 exact⟨_,_,hr,grown cap hM.tail,(Ext.refl w).drew.alloc _⟩
section
variable {c:Cx} {fin:Exit→Act→World→Prop} {ds:List Deferred} {E:Env} {L:List HP} {ks:List KI} {ops:Array Oper} {rest:List Oper}
variable {d:Option Tmp} {ty:TypeId} {pos:String} {af:Array Edge}
theorem kz {x y:Operand} {t u e:TypeId} {v:Value} {n:Nat} {s:ByteArray} {xs:List Value} {M:List HP}
  (hd:cG d c.N=true) (hx:ev E x=some v) (hy:ev E y=some (.string s)) (ht:c.P.underlying t=some (.slice e)) (hu:c.P.underlying u=some .string) (hinf:∃ i,c.P.info? e=some i∧i.zero=some (.int .u8 0)∧i.size=1∧i.bytes=1) (hown:Take (aE e 1 v n xs) L M)
  (h63:n+s.size≤maxLen) (hbytes:n+s.size≤140737488355328)
  (k:∀ v',TL c fin ds (upd d v' E) (aE e 1 v' (n+s.size) (xs ++ cA s)::M) ops rest ks):
  TL c fin ds E L ops (⟨d,.call {callee:=.builtin .append,args:=#[x,y],argTypes:=#[t,u]},ty,pos,af,none⟩::rest) ks:=
 jU hd (by intro k;simp) (fun v'=>v') (fun v'=>aE e 1 v' (n+s.size) (xs ++ cA s)::M) (fun a w hs=>by
  obtain⟨i,hi,hz,hsize,hby⟩:=hinf
  obtain⟨v',w',hr,hsat,hext⟩:=ua (ty:=ty) ht hu hi hz hsize hby (hs.sat.take hown) s h63 hbytes
  refine⟨v',w',?_,hsat,hext⟩
  simp[execOp,resolve,invoke,builtin,hs.ev hx,hs.ev hy,hr,Result.andThen]) k
theorem qv {x y:Operand} {t u e:TypeId} {v:Value} {n:Nat} {kn kq:IntKind} {q:Int} (m:Nat) {xs:List Value} {M:List HP}
  (hd:cG d c.N=true) (hx:ev E x=some v) (hy:ev E y=some (.int kq q)) (hq:q=(m:Nat)) (ht:c.P.underlying t=some (.slice e)) (hu:c.P.underlying u=some (.int kn)) (hinf:∃ i,c.P.info? e=some i∧i.zero=some (.int .u8 0)∧i.size=1∧i.bytes=1) (hown:Take (aE e 1 v n xs) L M)
  (h63:n+m≤maxLen) (hbytes:n+m≤140737488355328)
  (k:∀ v',TL c fin ds (upd d v' E) (aE e 1 v' (n+m) (xs ++ List.replicate m (.int .u8 0))::M) ops rest ks):
  TL c fin ds E L ops (⟨d,.call {callee:=.builtin .append,args:=#[x,y],argTypes:=#[t,u]},ty,pos,af,none⟩::rest) ks:=by
 subst hq
 exact jU hd (by intro k;simp) (fun v'=>v') (fun v'=>aE e 1 v' (n+m) (xs ++ List.replicate m (.int .u8 0))::M) (fun a w hs=>by
  obtain⟨i,hi,hz,hsize,hby⟩:=hinf
  obtain⟨v',w',hr,hsat,hext⟩:=tZ (ty:=ty) (kq:=kq) ht hu hi hz hsize hby (hs.sat.take hown) m h63 hbytes
  refine⟨v',w',?_,hsat,hext⟩
  simp[execOp,resolve,invoke,builtin,hs.ev hx,hs.ev hy,hr,Result.andThen]) k
theorem te {gd:Option (Nat×Bool)} {t e:TypeId} {x y z:Operand} {b o n len cap:Nat} {kd kd':IntKind} {l h:Int} (hx:ev E x=some (.slice (some ⟨b,o,none⟩) len cap)) (hy:ev E y=some (.int kd l)) (hz:ev E z=some (.int kd' h)) (hu:c.P.underlying t=some (.slice e)) (hn:∀ w,(sizeOf e).run c.P w=.ok n w) (hl:0≤l∧l≤h∧h≤(cap:Int)):
  QV c ds E L ⟨d,.slice t x (some y) (some z) none,ty,pos,af,gd⟩ (.slice (some ⟨b,qd n o l.toNat cap,none⟩) (h.toNat-l.toNat) (cap-l.toNat)):=
 ⟨by intro k;simp,fun a w hs=>by
  obtain⟨m,rfl⟩:=Int.eq_ofNat_of_zero_le hl.1
  obtain⟨m',rfl⟩:=Int.eq_ofNat_of_zero_le (by omega:0≤h)
  have:=uK (P:=c.P) (w:=w) (b:=b) (o:=o) (len:=len) (cap:=cap) (l:=m) (h:=m') (lo:=some (.int kd m)) (hi:=some (.int kd' m')) hu hn (.inr ⟨kd,rfl⟩) (.inr ⟨kd',rfl⟩) (by omega) (by omega)
  simp[execOp,Instr.sliceAt,run_underlying hu,hs.ev hx,hs.ev hy,hs.ev hz,this,Result.andThen]⟩
theorem qu {t t2 e:TypeId} {x y:Operand} {g o n cap dl dc:Nat} {s:ByteArray} {xs xs':List Value} {M:List HP} (hd:cG d c.N=true) (hx:ev E x=some (.slice (some ⟨g,o,none⟩) dl dc)) (hy:ev E y=some (.string s))
  (ht:c.P.underlying t=some (.slice e)) (hinf:∃ i,c.P.info? e=some i∧i.size=1) (hown:Take (aE e 1 (.slice (some ⟨g,0,none⟩) n cap) n xs) L M) (hle:s.size≤dl) (hfit:o+s.size≤n) (hxs:lay xs o (cA s)=xs')
  (k:TL c fin ds (upd d (.int .i64 (s.size:Nat)) E) (aE e 1 (.slice (some ⟨g,0,none⟩) n cap) n xs'::M) ops rest ks):
  TL c fin ds E L ops (⟨d,.call {callee:=.builtin .copy,args:=#[x,y],argTypes:=#[t,t2]},ty,pos,af,none⟩::rest) ks:=
 jU (X:=Unit) hd (by intro k;simp) (fun _=>.int .i64 (s.size:Nat)) (fun _=>aE e 1 (.slice (some ⟨g,0,none⟩) n cap) n xs'::M) (fun a w hs=>by
  subst hxs
  obtain⟨i,hi,hsz⟩:=hinf
  obtain⟨w',h2,h3,h4⟩:=nb (P:=c.P) (o:=o) (ys:=cA s) (hs.sat.take hown) (by rw[ft];exact hfit) (o8 s)
  have hmin:Nat.min s.size dl=s.size:=Nat.min_eq_left hle
  have hf:(Builtin.firstCells 1 s.size (.string s)).run c.P w=.ok (cA s).toArray w:=Lib.run_firstCells_string w 1 s
  refine⟨(),w',?_,h3,h4⟩
  simp[execOp,resolve,invoke,builtin,Builtin.copy_,hs.ev hx,hs.ev hy,run_underlying ht,Builtin.lenOf,sizeOf,typeInfo,hi,hsz,hmin,hf,h2,goInt,Result.andThen]) fun _=>k
end
end Eng
end
section
set_option maxRecDepth 100000
namespace BytesP
open Go.RowKit Go.Proofs Eng Bits Mem Search Arena CtrlB Layout GroupB Group TableB TableI Table Exact
theorem iq {m m':Nat→Int} {n:Nat} (h:∀ i,i < n→m i=m' i):bt m n=bt m' n:=by
 refine List.ext_getElem? fun i=>?_
 by_cases hi:i < n
 ·rw[cN hi,cN hi,h i hi]
 rw[List.getElem?_eq_none (by rw[bL];omega),List.getElem?_eq_none (by rw[bL];omega)]
theorem jk {m f:Nat→Int} {a b:Nat} (h:∀ i,i < b→f i=m (a+i)):bt m a ++ bt f b=bt m (a+b):=by
 refine List.ext_getElem? fun i=>?_
 by_cases hi:i < a
 ·rw[List.getElem?_append_left (by rw[bL];exact hi),cN hi,cN (by omega)]
 rw[List.getElem?_append_right (by rw[bL];omega),bL]
 by_cases hi2:i < a+b
 ·rw[cN (by omega),cN hi2,h _ (by omega)]
  congr 3;omega
 rw[List.getElem?_eq_none (by rw[bL];omega),List.getElem?_eq_none (by rw[bL];omega)]
theorem xy {m:Nat→Int} {a:Nat} {z:Int} (h:z=m a):bt m a ++ [Value.int .u8 z]=bt m (a+1):=by
 have:=jk (m:=m) (f:=fun _=>z) (a:=a) (b:=1) (fun i hi=>by(obtain rfl:i=0:=(by omega));exact h)
 simpa [bt] using this
theorem x5 (U:Int) (i:Nat):U / 2 ^ (8*(i+1))=U / 2 ^ (8*i) / 256:=by
 rw[show 8*(i+1)=8*i+8 by omega,Int.pow_add,← Int.ediv_ediv_of_nonneg (Int.le_of_lt (Int.pow_pos (by decide)))];rfl
def hdF (W:Nat→Int) (j:Nat):Int:=bG (IntKind.u64.wrap (W (j / 8))) (j % 8)
theorem rO (W:Nat→Int) (j:Nat):0≤hdF W j∧hdF W j < 256:=np _ _
theorem B4 (W:Nat→Int) (k:Nat):bt (hdF W) (8*k) ++ bt (bG (IntKind.u64.wrap (W k))) 8=bt (hdF W) (8*(k+1)):=by
 rw[jk (m:=hdF W) (a:=8*k) (b:=8) fun i hi=>?_]
 ·rw[show 8*k+8=8*(k+1) by omega]
 unfold hdF
 rw[show(8*k+i) / 8=k by omega,show(8*k+i) % 8=i by omega]
def jo (l:Lay) (cs:Nat→Cell) (i j:Nat):Int:=if(if j < 8 then j else(j-8) / sN l) < i then c7 l cs j else 0
theorem xR (l:Lay) (cs:Nat→Cell) (n:Nat):bt (fun _=>0) n=bt (jo l cs 0) n:=iq fun i hi=>by unfold jo;rw[if_neg (Nat.not_lt_zero _)]
theorem xT {l:Lay} (hN:gW l) (cs:Nat→Cell):bt (jo l cs 8) (gN l)=bt (c7 l cs) (gN l):=iq fun j hj=>by
 have:=hN.g_eq
 unfold jo
 rw[if_pos]
 split
 ·assumption
 exact Nat.div_lt_of_lt_mul (by omega)
theorem xQ {l:Lay} (h:gW l) {t:Int} {k e:ByteArray} {b:Int} (hk:k.size=kN l) (he:e.size=eN l) {r:Nat} (hr:r < sN l):
  l7 l (.full t k e b) r=if r < kN l then cP k r else if r < eoN l then 0 else if r < eoN l+eN l then cP e (r-eoN l) else if r < boN l then 0 else bG b (r-boN l):=by
 have h1:=h.eo1;have h2:=h.bo1;have h3:=h.s_eq
 simp only[l7,parts,fG,hk,he,fo,k7,tX]
 by_cases q1:r < kN l
 ·rw[if_pos q1,if_pos q1]
 rw[if_neg q1,if_neg q1]
 by_cases q2:r < eoN l
 ·rw[if_pos (show r-kN l < eoN l-kN l by omega),if_pos q2]
 rw[if_neg (show ¬ r-kN l < eoN l-kN l by omega),if_neg q2]
 by_cases q3:r < eoN l+eN l
 ·rw[if_pos (show r-kN l-(eoN l-kN l) < eN l by omega),if_pos q3];congr 1;omega
 rw[if_neg (show ¬ r-kN l-(eoN l-kN l) < eN l by omega),if_neg q3]
 by_cases q4:r < boN l
 ·rw[if_pos (show r-kN l-(eoN l-kN l)-eN l < boN l-eoN l-eN l by omega),if_pos q4]
 rw[if_neg (show ¬ r-kN l-(eoN l-kN l)-eN l < boN l-eoN l-eN l by omega),if_neg q4,if_pos (show r-kN l-(eoN l-kN l)-eN l-(boN l-eoN l-eN l) < 8 by omega),pf b (by omega)];congr 1;omega
theorem qH {l:Lay} (h:gW l) {j:Nat} (hj:j < gN l):j < 8∨∃ i r,i < 8∧r < sN l∧j=8+i*sN l+r:=by
 rcases Nat.lt_or_ge j 8 with q | q
 ·exact .inl q
 have hg:=h.g_eq;have hs:=h.s_eq
 refine .inr ⟨(j-8) / sN l,(j-8) % sN l,Nat.div_lt_of_lt_mul (by omega),Nat.mod_lt _ (by omega),?_⟩
 have:=Nat.div_add_mod (j-8) (sN l)
 rw[Nat.mul_comm] at this
 omega
theorem lb (l:Lay) (cs:Nat→Cell) (i:Nat) {j:Nat} (hj:j < 8):jo l cs i j=if j < i then(cs j).ctrl else 0:=by
 unfold jo;rw[if_pos hj,jq cs hj]
theorem g6 {l:Lay} (cs:Nat→Cell) (i:Nat) {k r:Nat} (hr:r < sN l):jo l cs i (8+k*sN l+r)=if k < i then l7 l (cs k) r else 0:=by
 unfold jo
 obtain⟨h1,h2⟩:=j7 (i:=k) hr
 have e1:(if 8+k*sN l+r < 8 then 8+k*sN l+r else(8+k*sN l+r-8) / sN l)=k:=by rw[if_neg (by omega),show 8+k*sN l+r-8=k*sN l+r by omega,h1]
 rw[e1,ld cs hr]
theorem qO {l:Lay} (h:gW l) (cs:Nat→Cell) {i:Nat} (hi:i < 8) {b:Int} (hb:(cs i).ctrl=b) (hc:isFull (cs i)=false):
  bt (fun j=>if j=i then b else jo l cs i j) (gN l)=bt (jo l cs (i+1)) (gN l):=iq fun j hj=>by
 rcases qH h hj with q | ⟨k,r,hk,hr,rfl⟩
 ·rw[lb l cs _ q,lb l cs _ q]
  by_cases q2:j=i
  ·subst q2;rw[if_pos rfl,if_pos (by omega),hb]
  rw[if_neg q2]
  by_cases q3:j < i
  ·rw[if_pos q3,if_pos (by omega)]
  rw[if_neg q3,if_neg (by omega)]
 rw[if_neg (by omega),g6 cs _ hr,g6 cs _ hr]
 by_cases q3:k < i
 ·rw[if_pos q3,if_pos (by omega)]
 rw[if_neg q3]
 by_cases q4:k=i
 ·subst q4
  rw[if_pos (by omega)]
  cases hh:cs k with
  | empty=>rfl
  | deleted=>rfl
  | full t a e b=>rw[hh] at hc;cases hc
 rw[if_neg (by omega)]
theorem xS {l:Lay} (h:gW l) (cs:Nat→Cell) {i:Nat} (hi:i < 8) {t b:Int} {k e:ByteArray} (hc:cs i=.full t k e b) (hk:k.size=kN l) (he:e.size=eN l):
  bt (cm (cm (cm (fun j=>if j=i then t else jo l cs i j) (8+i*sN l) k.size (cP k)) (8+i*sN l+eoN l) e.size (cP e)) (8+i*sN l+boN l) 8 (bG b)) (gN l)=bt (jo l cs (i+1)) (gN l):=iq fun j hj=>by
 have h1:=h.eo1;have h2:=h.bo1;have h3:=h.s_eq
 rcases qH h hj with q | ⟨m,r,hm,hr,rfl⟩
 ·simp only[cm]
  rw[if_neg (by omega),if_neg (by omega),if_neg (by omega),lb l cs _ q,lb l cs _ q]
  by_cases q2:j=i
  ·subst q2;rw[if_pos rfl,if_pos (by omega),hc];rfl
  rw[if_neg q2]
  by_cases q3:j < i
  ·rw[if_pos q3,if_pos (by omega)]
  rw[if_neg q3,if_neg (by omega)]
 rw[g6 cs _ hr]
 by_cases q4:m=i
 ·subst q4
  rw[if_pos (by omega),hc,xQ h hk he hr]
  simp only[cm]
  rw[hk,he]
  by_cases p1:r < kN l
  ·rw[if_neg (by omega),if_neg (by omega),if_pos (by omega),if_pos p1];congr 1;omega
  rw[if_neg p1]
  by_cases p2:r < eoN l
  ·rw[if_neg (by omega),if_neg (by omega),if_neg (by omega),if_pos p2,if_neg (by omega),g6 cs _ hr,if_neg (by omega)]
  rw[if_neg p2]
  by_cases p3:r < eoN l+eN l
  ·rw[if_neg (by omega),if_pos (by omega),if_pos p3];congr 1;omega
  rw[if_neg p3]
  by_cases p4:r < boN l
  ·rw[if_neg (by omega),if_neg (by omega),if_neg (by omega),if_pos p4,if_neg (by omega),g6 cs _ hr,if_neg (by omega)]
  rw[if_pos (by omega),if_neg p4];congr 1;omega
 have hap:m*sN l+sN l≤i*sN l∨i*sN l+sN l≤m*sN l:=by
  rcases Nat.lt_or_ge m i with p | p
  ·have:=Nat.mul_le_mul_right (sN l) (show m+1≤i by omega);rw[Nat.add_mul] at this;omega
  have:=Nat.mul_le_mul_right (sN l) (show i+1≤m by omega);rw[Nat.add_mul] at this;omega
 simp only[cm]
 rw[if_neg (by omega),if_neg (by omega),if_neg (by omega),if_neg (by omega),g6 cs _ hr]
 by_cases q3:m < i
 ·rw[if_pos q3,if_pos (by omega)]
 rw[if_neg q3,if_neg (by omega)]
def grF (l:Lay) (cs:Nat→Cell) (n:Nat) (a:Nat):Int:=if a < n*gN l then c7 l (cD cs (a / gN l)) (a % gN l) else 0
theorem wq {l:Lay} {cs:Nat→Cell} {n:Nat} (hN:gW l) (h:∀ i,i < 8*n→(cs i).ok l) (a:Nat):0≤grF l cs n a∧grF l cs n a < 256:=by
 unfold grF
 split
 ·next q=>
  refine kH (fun i hi=>h _ ?_) _
  have hg:=hN.g_eq
  have:=Nat.div_lt_of_lt_mul (show a < gN l*n by rw[Nat.mul_comm];exact q)
  omega
 omega
theorem B7 {l:Lay} (hN:gW l) (cs:Nat→Cell) {n g:Nat} (hg:g < n):bt (grF l cs n) (g*gN l) ++ bt (c7 l (cD cs g)) (gN l)=bt (grF l cs n) ((g+1)*gN l):=by
 have h8:=hN.g_eq
 rw[jk (m:=grF l cs n) (a:=g*gN l) (b:=gN l) fun i hi=>?_]
 ·rw[Nat.add_mul,Nat.one_mul]
 have:=Nat.mul_le_mul_right (gN l) (show g+1≤n by omega)
 rw[Nat.add_mul] at this
 obtain⟨h1,h2⟩:=j7 (i:=g) hi
 unfold grF
 rw[if_pos (by omega),h1,h2]
theorem Ac {l:Lay} (cs:Nat→Cell) (n m:Nat):bt (grF l cs n) (n*gN l) ++ List.replicate m (Value.int .u8 0)=bt (grF l cs n) (n*gN l+m):=by
 rw[kp]
 exact jk fun i hi=>by unfold grF;rw[if_neg (by omega)]
theorem lP {m m':Nat→Int} {o o' k:Nat} (h:∀ i,i < k→m (o+i)=m' (o'+i)):dE m o k=dE m' o' k:=by
 unfold dE
 congr 2
 refine List.map_congr_left fun i hi=>?_
 rw[h i (List.mem_range.1 hi)]
theorem pd {m:Nat→Int} (hm:∀ i,0≤m i∧m i < 256) (o:Nat) {k i:Nat} (hi:i < k):bG (cZ m o k) i=m (o+i):=by
 unfold bG
 induction k with
 | zero=>omega
 | succ k ih=>
  simp only[cZ]
  have hp:(0:Int) < 2 ^ (8*i):=Int.pow_pos (by decide)
  rcases Nat.lt_or_ge i k with q | q
  ·have e:m (o+k)*2 ^ (8*k)=(m (o+k)*2 ^ (8*(k-i)-8)*256)*2 ^ (8*i):=by
    rw[show 8*k=(8*(k-i)-8)+8+8*i by omega,Int.pow_add,Int.pow_add,← Int.mul_assoc,← Int.mul_assoc];rfl
   rw[e,Int.add_mul_ediv_right _ _ (by omega)]
   have:=ih q
   omega
  obtain rfl:i=k:=by omega
  obtain⟨h1,h2⟩:=oN hm o i
  rw[Int.add_mul_ediv_right _ _ (by omega),Int.ediv_eq_zero_of_lt h1 h2]
  have:=hm (o+i)
  omega
section
variable {s:ArS} {off go:Nat} {l:Lay} {n e:Nat} {T:Tb}
theorem u3 (hb:∀ i,0≤s.m i∧s.m i < 256) (h:eO s off go l n e T):dE s.m off 64=dE (hdF (dT T n go)) 0 64:=lP fun i hi=>by
 have h1:=h.hT.head (i / 8) (by omega)
 have h2:=pd hb (off+8*(i / 8)) (show i % 8 < 8 by omega)
 rw[h1] at h2
 rw[Nat.zero_add]
 unfold hdF
 rw[h2]
 congr 1;omega
theorem xJ {k:Nat} (h:eO s off go l n e T) (hz:iy s go (n*gN l) ((n*gN l+k:Nat):Int)):dE s.m go (n*gN l+k)=dE (grF l T.cells n) 0 (n*gN l+k):=lP fun i hi=>by
 rw[Nat.zero_add]
 have hg:=(eL h.hl).g_eq
 unfold grF
 split
 ·next q=>
  have h1:=h.hT.body (i / gN l) (Nat.div_lt_of_lt_mul (by rw[Nat.mul_comm];exact q)) (i % gN l) (Nat.mod_lt _ (by omega))
  have:=Nat.div_add_mod i (gN l)
  rw[Nat.mul_comm] at this
  rw[← h1]
  congr 1;omega
 exact hz _ (by omega) (by omega)
end
end BytesP
end
end Go.Proofs.YthkajgkagnenbaaGreatDoor
