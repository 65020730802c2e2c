import Derived.Test.YthkajgkagnenbaaGreatDoorArena
set_option linter.unusedVariables false
set_option linter.unusedSimpArgs false
set_option linter.unusedSectionVars false
set_option maxRecDepth 100000
namespace Go.Proofs.YthkajgkagnenbaaGreatDoor
namespace Arena
open Go.RowKit Go.Proofs Eng Ty Mem Search
theorem ArS.put_limit (s:ArS) (o k:Nat) (f:Nat->Int):(s.put o k f).limit=s.limit:=rfl
theorem ArS.put_live (s:ArS) (o k:Nat) (f:Nat->Int):(s.put o k f).live=s.live:=rfl
theorem ArS.put_stop (s:ArS) (o k:Nat) (f:Nat->Int):(s.put o k f).stop=s.stop:=rfl
theorem ArS.put_all (s:ArS) (o k:Nat) (f:Nat->Int):(s.put o k f).all=s.all:=rfl
theorem ArS.put_m (s:ArS) (o k:Nat) (f:Nat->Int):(s.put o k f).m=dh s.m o k f:=rfl
theorem bt.ne {s:ArS} {off n:Int} (h:bt s off n):s.all≠[]:=by
 obtain⟨_,p,hp,_⟩:=h
 intro e;rw[cG,e] at hp;cases hp.1
theorem bt.sub {s:ArS} {off n off' n':Int} (h:bt s off n) (h0:0<=n') (h1:off<=off') (h2:off'+n'<=off+n):bt s off' n':=by
 obtain⟨_,p,hp,p1,p2⟩:=h
 exact⟨h0,p,hp,by omega,by omega⟩
theorem bt.put {s:ArS} {off n:Int} {o k:Nat} {f:Nat->Int} (h:bt s off n):bt (s.put o k f) off n:=h
theorem cS {pa:Nat} {s:ArS} {L M:List HP} {w:World} (h:Sat (stars L) w) (ht:Take (aj pa s) L M):s.ok:=by
 obtain⟨x,hx,_⟩:=cV.1 (h.take ht)
 exact hx.1
theorem tl (s:ByteArray) (i:Nat):0<=eX s i/\eX s i < 256:=by
 unfold eX
 split
 ·next h=>have:=(s[i]'h).toNat_lt;omega
 omega
theorem w7 (ss:List ByteArray):∀ i,0<=iG ss i/\iG ss i < 256:=by
 induction ss with
 | nil=>intro i;simp[iG]
 | cons s r ih=>intro i;simp only[iG];split;exact tl _ _;exact ih _
theorem jz (pa:Nat) (s:ArS) (off w:Int) (o k:Nat) (ho:off=(o:Nat)) (hw:w=(k:Nat)) (hk:wid k) (hg:bt s off w):aK Tryz.prog 99 #[.pointer (some ⟨pa,0,none⟩),.int .i64 off,.int .i64 w] [aj pa s]
  (fun v L=>v=.tuple #[.int .u64 (dU s.m o k),.int .i64 0]/\L= [aj pa s]):=by subst ho;subst hw;exact Load_ok pa s o k hk hg hg.ne
theorem mi (pa:Nat) (s:ArS) (off w:Int) (o k:Nat) (v:Int) (ho:off=(o:Nat)) (hw:w=(k:Nat)) (hv:0<=v/\v < 18446744073709551616) (hk:wid k) (hg:bt s off w):aK Tryz.prog 183 #[.pointer (some ⟨pa,0,none⟩),.int .i64 off,.int .i64 w,.int .u64 v] [aj pa s]
  (fun r L=>r=.int .i64 0/\L= [aj pa (s.put o k (ct v))]):=by subst ho;subst hw;exact Store_ok pa s o k v hv hk hg hg.ne
theorem vF (pa:Nat) (s:ArS) (off n:Int) (o k:Nat) (b:Int) (ho:off=(o:Nat)) (hw:n=(k:Nat)) (hb:0<=b/\b < 256) (hg:bt s off n):aK Tryz.prog 182 #[.pointer (some ⟨pa,0,none⟩),.int .i64 off,.int .i64 n,.int .u8 b] [aj pa s]
  (fun r L=>r=.int .i64 0/\L= [aj pa (s.put o k (fun _=>b))]):=by subst ho;subst hw;exact Fill_ok pa s o k b hb hg hg.ne
theorem Ac (pa:Nat) (s:ArS) (a b n:Int) (a' b' k:Nat) (ea:a=(a':Nat)) (eb:b=(b':Nat)) (hw:n=(k:Nat)) (ha:bt s a n) (hb:bt s b n):aK Tryz.prog 216 #[.pointer (some ⟨pa,0,none⟩),.int .i64 a,.int .i64 b,.int .i64 n] [aj pa s]
  (fun r L=>(∃ q:Bool,r=.tuple #[.bool q,.int .i64 0]/\(q=true↔∀ i,i < k->s.m (a'+i)=s.m (b'+i)))/\L= [aj pa s]):=by subst ea;subst eb;subst hw;exact Equal_ok pa s a' b' k ha hb ha.ne
theorem Read_ok (pa:Nat) (s:ArS) (off k:Nat) (hg:bt s off k):aK Tryz.prog 18 #[.pointer (some ⟨pa,0,none⟩),.int .i64 off,.int .i64 k] [aj pa s]
  (fun v L=>v=.tuple #[.string (mo s.m off k),.int .i64 0]/\L= [aj pa s]):=by
 refine au Ko Tryz.func18 rfl rfl rfl fun Fr w0=>aZ ?_
 refine sr<|ar O O<|ar O O<|lc<|al<|sr<|mv O O<|mv O O<|mv O O<|cT O O O (fG pa s hg.ne off k) ?_
 rintro v' L' ⟨⟨q,rfl,hq⟩,rfl⟩
 refine bx ?_
 refine ad O (db O (cy ·))<|lc<|aG O (fun z=>?_) fun z=>?_
 ·rw[hq.2 hg] at z;cases z
 refine dJ fun x hx=>?_
 refine gY fun M hM=>?_
 simp only[List.cons_append,List.nil_append] at hM
 subst M
 obtain⟨pm,g,cap,sb,fb,vs,vc,lm,fl⟩:=x
 obtain⟨hok,hcap,hcap2,hlm,hfl⟩:=hx
 dsimp only at hcap hcap2 hlm hfl ⊢
 have hst:=hok.stop_eq
 have hge:=bt.end_le hok hg
 refine aq<|nz<|mv O O<|ad O (ae O)<|ad O (aE 2 O dy O O mU)<|ad O (aI O mW) ?_
 refine mv O O<|mv O O<|cT O O O (Mem.Read_ok pm g s.stop cap off k s.m (by omega) hcap (by omega)) ?_
 rintro v' L' ⟨g2,rfl,rfl⟩
 refine bx ?_
 refine mv O O<|ad O (aa O ga) ?_
 refine ad O (aa O ga) ?_
 refine ar O O<|ar O O<|lz<|mv O O ?_
 apply ad O
 ·apply pR (mo s.m off k) rfl Tryz.underlying117 Tryz.underlying5 Tryz.underlying9
  ·simp[mo,ByteArray.size]
  rw[pD hok.bytes];exact mG (by exact tk)
 refine mv O O<|ar O O<|ar O O<|lc<|rt ?_
 apply aR (.inl rfl) ([aj pa s])
 ·apply cF O
  ·exact .tmp rfl
  exact .tmp rfl
 ·exact⟨rfl,rfl⟩
 refine cD (x:=⟨pm,g,cap,sb,fb,vs,vc,lm,fl⟩) ⟨hok,hcap,hcap2,hlm,hfl⟩ ?_;dsimp only[oL];(exact en)
theorem vr (pa:Nat) (s:ArS) (off n:Int) (o k:Nat) (ho:off=(o:Nat)) (hw:n=(k:Nat)) (hg:bt s off n):aK Tryz.prog 18 #[.pointer (some ⟨pa,0,none⟩),.int .i64 off,.int .i64 n] [aj pa s]
  (fun v L=>v=.tuple #[.string (mo s.m o k),.int .i64 0]/\L= [aj pa s]):=by subst ho;subst hw;exact Read_ok pa s o k hg
def strs (ss:List ByteArray):List Value:=ss.map fun s=>.string s
theorem ti {L:List HP}:dS L (dV [] []::L):=fun w h=>dC.2 h
theorem tj {vs:List Value} {ss:List ByteArray} {v:Value} {s:ByteArray} {L:List HP} (hl:vs.length=ss.length):dS (jP v s::dV vs ss::L) (dV (vs ++ [v]) (ss ++ [s])::L):=fun w h=>by
 have h1:=(h.perm (.swap _ _ _):Sat (stars (dV vs ss::jP v s::L)) w)
 have h2:=dC.1 h1
 refine dC.2 ?_
 unfold dV at *
 rw[List.zipWith_append hl]
 simpa using h2
theorem eL {α:Type} {l:List α} {j:Nat} (h:j < l.length):l.take (j+1)=l.take j ++ [l[j]]:=by rw[List.take_add_one,List.getElem?_eq_getElem h];rfl
theorem Write_ok (pa:Nat) (s:ArS) (p k off:Nat) (ss:List ByteArray) (hk:ss.length=k) (hk1:1<=k) (hkb:k<=1000) (hg:bt s off (dx ss)):
  aK Tryz.prog 195 #[.pointer (some ⟨pa,0,none⟩),.int .i64 off,.slice (some ⟨p,0,none⟩) k k] [pt p (.cells (strs ss).toArray 9 (0,0)),aj pa s]
   (fun r L=>r=.int .i64 0/\L= [aj pa (s.put off (dx ss) (iG ss))]):=by
 refine au H8 Tryz.func195 rfl rfl rfl fun Fr w0=>aZ ?_
 refine dN (φ:=s.ok) (fun w hw=>cS hw (.there .here)) fun hok0=>?_
 have hge:=bt.end_le hok0 hg
 have hst0:=hok0.stop_eq
 refine sr<|ar O O<|lz<|ar O O<|lz<|mv O O<|ad O (ql O re) ?_
 apply dL O O O o7 Em O (by omega) (by omega)
 intro b13
 refine ar O O<|lc<|al<|sr<|mv O O<|ad O (ql O re)<|mv O O<|lc<|aB ?_
 refine il (L':=dV [] []::aF 117 1 (.slice (some ⟨b13,0,none⟩) 0 k) 0 []::pt p (.cells (strs ss).toArray 9 (0,0))::aj pa s::Fr) ?_ ?_
 ·refine(dS.trans (M:=aF 117 1 (.slice (some ⟨b13,0,none⟩) 0 k) 0 []::pt p (.cells (strs ss).toArray 9 (0,0))::aj pa s::Fr) ?_ ti)
  have e:(Int.toNat ((k:Nat):Int))=k:=Int.toNat_natCast k
  first | exact dS.refl _ | (simp only[Int.toNat_natCast];exact dS.refl _)
 refine bK (fun x:Nat×List Value×Value=>x.1<=k/\x.2.1.length=x.1) (fun x=>[(0,.pointer (some ⟨pa,0,none⟩)),(1,.int .i64 off),(7,.int .i64 (dx (ss.take x.1):Nat)),(8,x.2.2),(14,.slice (some ⟨p,0,none⟩) k k),(15,.int .i64 k),(16,.int .i64 x.1)]) (fun x=>dV x.2.1 (ss.take x.1)::aF 117 1 x.2.2 x.1 x.2.1::pt p (.cells (strs ss).toArray 9 (0,0))::aj pa s::Fr) (fun x=>k-x.1) (0,[],.slice (some ⟨b13,0,none⟩) 0 k) ⟨by omega,rfl⟩ ⟨rfl,rfl,rfl,rfl,rfl,rfl,rfl,trivial⟩ (dS.refl _) ?_
 rintro⟨j,vs,v8⟩ ⟨hj,hvl⟩
 dsimp only at hj hvl ⊢
 have hle:=sx ss (j+1)
 refine sr<|ad O (qi O O (bj ·))<|lc<|al<|aG O (fun h=>?_) fun h=>?_
 ·have hjl:j < ss.length:=by omega
  have htt:=m4 (List.getElem?_eq_getElem hjl)
  refine aq<|an<|al<|aB<|sr<|ad O (az O O re fA (by omega)) ?_
  apply ad O
  ·apply fW O fS
   ·exact tk
   rw[Nat.zero_add,Int.toNat_natCast];simp[strs,hjl];rfl
  refine ar O O<|lz<|mv O O<|mv O O<|ad O (m9 O lg)<|ad O (bn O O) ?_
  refine ar O O<|lr<|mv O O<|mv O O ?_
  refine wD O O lg dG E5 (fun b26 cap26=>?_)
  refine bR [_] rfl rfl o7 ec Gr rfl rfl rfl rfl (fun b27=>?_)
  apply e9 (sz:=1) rfl rfl rfl o7 Em rfl rfl
  ·exact tk
  ·exact tk
  ·rfl
  ·rfl
  ·simp only[maxLen];omega
  ·omega
  intro v28
  refine ar O O<|ai<|bz<|an<|aD<|ad O (bn O O) ?_
  refine mv O O<|ai ?_
  refine xY (L':=dV (vs ++ [.slice (some ⟨b26,0,none⟩) ss[j].size cap26]) (ss.take j ++ [ss[j]])::aF 117 1 v28 (j+1) (vs ++ [.slice (some ⟨b26,0,none⟩) ss[j].size cap26])::pt p (.cells (strs ss).toArray 9 (0,0))::aj pa s::Fr) ?_ ?_
  ·refine dS.trans (M:=jP (.slice (some ⟨b26,0,none⟩) ss[j].size cap26) ss[j]::dV vs (ss.take j)::aF 117 1 v28 (j+1) (vs ++ [.slice (some ⟨b26,0,none⟩) ss[j].size cap26])::pt p (.cells (strs ss).toArray 9 (0,0))::aj pa s::Fr) ?_ (tj (by simp[hvl];omega))
   (exact en)
  rw[<- eL hjl]
  apply aU ((j+1,vs ++ [.slice (some ⟨b26,0,none⟩) ss[j].size cap26],v28))
  ·exact⟨by dsimp only;omega,by simp[hvl]⟩
  ·dsimp only;omega
  ·exact⟨rfl,rfl,by dsimp only;rw[htt,Int.natCast_add];rfl,rfl,rfl,rfl,rfl,trivial⟩
  exact en
 refine xt O<|an<|al<|sr<|mv O O<|mv O O<|mv O O ?_
 have hjk:j=ss.length:=by omega
 subst hjk
 rw[List.take_length]
 refine cT O O O (fG pa s hg.ne off (dx ss)) ?_
 rintro v' L' ⟨⟨q,rfl,hq⟩,rfl⟩
 refine bx ?_
 refine ad O (db O (cy ·))<|lc<|aG O (fun z=>?_) fun z=>?_
 ·rw[hq.2 hg] at z;cases z
 refine bU (.there (.there .here)) fun _ hsh=>?_
 obtain⟨a8,c8,rfl,ha8,hc8,hcm8⟩:=hsh
 obtain⟨g8,rfl⟩:=ha8 (by omega)
 refine dJ fun x hx=>?_
 refine gY fun M hM=>?_
 simp only[List.cons_append,List.nil_append] at hM
 subst M
 obtain⟨pm,g,cap,sb,fb,vs_,vc,lm,fl⟩:=x
 obtain⟨hok,hcap,hcap2,hlm,hfl⟩:=hx
 dsimp only at hcap hcap2 hlm hfl ⊢
 have hst:=hok.stop_eq
 refine aq<|nz<|mv O O<|ad O (ae O)<|ad O (aE 2 O dy O O mU)<|ad O (aI O mW) ?_
 refine mv O O<|mv O O<|cT O O O (Mem.Write_ok pm g s.stop cap off g8 ss.length c8 s.m vs ss (by omega) hcap rfl (by omega) (by omega)) ?_
 rintro v' L' ⟨rfl,rfl⟩
 refine bx ?_
 refine ar O O<|lc<|rt ?_
 apply aR (.inl rfl) ([aj pa (s.put off (dx ss) (iG ss))])
 ·apply cP O
  exact .tmp rfl
 ·exact⟨rfl,rfl⟩
 refine cD (x:=⟨pm,g,cap,sb,fb,vs_,vc,lm,fl⟩) ⟨ArS.put_ok hok (w7 ss),hcap,hcap2,hlm,hfl⟩ ?_;dsimp only[oL];simp only[ArS.put_limit,ArS.put_live,ArS.put_stop,ArS.put_all,ArS.put_m];(exact en)
theorem zG (pa:Nat) (s:ArS) (p off:Nat) (offI:Int) (a b c d e:ByteArray) (ho:offI=(off:Nat)) (hg:bt s offI (dx [a,b,c,d,e])):
  aK Tryz.prog 195 #[.pointer (some ⟨pa,0,none⟩),.int .i64 offI,.slice (some ⟨p,0,none⟩) 5 5] [pt p (.cells #[.string a,.string b,.string c,.string d,.string e] 9 (0,0)),aj pa s]
   (fun r L=>r=.int .i64 0/\L= [aj pa (s.put off (dx [a,b,c,d,e]) (iG [a,b,c,d,e]))]):=by subst ho;exact Write_ok pa s p 5 off [a,b,c,d,e] rfl (by decide) (by decide) hg
theorem se (pa:Nat) (s:ArS) (p off:Nat) (offI:Int) (a:ByteArray) (ho:offI=(off:Nat)) (hg:bt s offI (dx [a])):
  aK Tryz.prog 195 #[.pointer (some ⟨pa,0,none⟩),.int .i64 offI,.slice (some ⟨p,0,none⟩) 1 1] [pt p (.cells #[.string a] 9 (0,0)),aj pa s]
   (fun r L=>r=.int .i64 0/\L= [aj pa (s.put off (dx [a]) (iG [a]))]):=by subst ho;exact Write_ok pa s p 1 off [a] rfl (by decide) (by decide) hg
theorem bt.take {s:ArS} (hs:s.ok) {c off n:Int} (h:bt s off n):bt (s.take c) off n:=by
 obtain⟨h0,p,hp,p1,p2⟩:=h
 exact⟨h0,p,(dP hs).2 (.inl hp),p1,p2⟩
theorem bt.new {s:ArS} (hs:s.ok) {c n:Int} (h0:0<=n) (h1:n<=c):bt (s.take c) ((s.at c:Nat):Int) n:=⟨h0,_,(dP hs).2 (.inr rfl),by simp,by simp;omega⟩
theorem Dz {s:ArS} (hs:s.ok) {c:Int} (hc:1<=c) {lm:List (Int×Value)} (h:zZ s lm):zZ (s.take c) (iE lm ((s.at c:Nat):Int) (.int .i64 c)):=by
 constructor
 ·intro p hp
  rw[sW]
  rcases(dP hs).1 hp with q | q
  ·have:=de hs q hc
   have:=(ArS.chain_pos hs.chain p (cG.1 q).1).2
   rw[if_neg (by omega)]
   exact h.1 p q
  rw[q,if_pos rfl]
 intro k hk
 rw[sW,if_neg fun e=>hk c ((dP hs).2 (.inr (by rw[e])))]
 exact h.2 k fun d hd=>hk d ((dP hs).2 (.inl hd))
theorem uY {s:ArS} (hs:s.ok) {c:Int} (hc:c∈dM) (hl:s.live+c<=s.limit) (h0:s.frL c= []) {fl:FL} (h:xz s fl):xz (s.take c) fl:=fun d=>by
 rw[xL hs hc hl d,h d]
 split
 ·next q=>rw[q,h0];rfl
 rfl
theorem sZ {s:ArS} (hs:s.ok) {c o:Int} {r:List Int} (hc:c∈dM) (hl:s.live+c<=s.limit) (h0:s.frL c=o::r) {fl:FL} (h:xz s fl) (v:Value):xz (s.take c) (jk fl c (v,r)):=fun d=>by
 rw[xL hs hc hl d,uP]
 split
 ·rw[h0];rfl
 exact h d
theorem oy {fl:FL} {k:Int} {L M:List HP} (h:Take (eU fl) L M):dS L (fy 3 (fz fl k).1 (ints (fz fl k).2)::eU (iM fl k)::M):=fun w hw=>qp w (hw.perm h.perm)
theorem sY {fl:FL} {k:Int} {v:Value} {xs:List Int} {L M N:List HP} (h:Take (fy 3 v (ints xs)) L M) (h2:Take (eU (iM fl k)) M N):dS L (eU (jk fl k (v,xs))::N):=fun w hw=>oz w (hw.perm (h.perm.trans (List.Perm.cons _ h2.perm)))
theorem yW {e:TypeId} {g o n cap:Nat} {x:Value} {r:List Value} {L:List HP} (hn:n=r.length+1):dS (fy e (.slice (some ⟨g,o,none⟩) n cap) (x::r)::L) (fy e (.slice (some ⟨g,ei o 1 cap,none⟩) (n-1) (cap-1)) r::L):=fun w h=>by
 obtain⟨y,hy,hs⟩:=cV.1 h
 cases y with
 | none=>obtain⟨q,_⟩:=hy;cases q
 | some t=>
  obtain⟨q,h1,h2,h3,h4⟩:=hy
  cases q
  refine cV.2 ⟨some ⟨t.g,ei t.o 1 t.cap,t.cap-1,t.cur⟩,⟨by simp,?_,?_,?_,fun i u hu=>?_⟩,hs⟩
  ·simp only[List.length_cons] at h1;show r.length<=t.cap-1;omega
  ·show t.cap-1<=maxLen;omega
  ·show ei t.o 1 t.cap+(t.cap-1)<=t.cur.size
   unfold ei;split <;> omega
  dsimp only
  have:=h4 (i+1) u (by simpa using hu)
  simp only[List.length_cons] at h1
  have hi:=(List.getElem?_eq_some_iff.1 hu).1
  rw[fe (by omega)]
  rw[show t.o+1+i=t.o+(i+1) by omega];exact this
theorem uW {fl:FL} {c:Int} {g o n cap:Nat} {x:Int} {r:List Int} {L M N:List HP} (hn:n=r.length+1) (h:Take (fy 3 (.slice (some ⟨g,o,none⟩) n cap) (ints (x::r))) L M) (h2:Take (eU (iM fl c)) M N):
  dS L (eU (jk fl c (.slice (some ⟨g,ei o 1 cap,none⟩) (n-1) (cap-1),r))::N):=fun w hw=>oz w (yW (r:=ints r) (by rw[dD];exact hn) w (hw.perm (h.perm.trans (List.Perm.cons _ h2.perm))))
theorem vj {c:Cx} {fin:Exit->Act->World->Prop} {ds:List Deferred} {E:Env} {ks:List KI} {pa:Nat} {s:ArS} {R:List HP} {ops:Array Oper} {l:List Oper} (k:∀ x,zD s x->TL c fin ds E (oL pa s x ++ R) ops l ks):TL c fin ds E (aj pa s::R) ops l ks:=
 wN (X:={x:Jh // zD s x}) (LL:=fun x=>oL pa s x.1 ++ R) (fun w hs=>let ⟨x,hp,h⟩:=cV.1 hs;⟨⟨x,hp⟩,h⟩) fun x=>k x.1 x.2
theorem CL (pm g n cap:Nat) (sI:Int) (s:Nat) (m:Nat->Int) (he:sI=(s:Nat)) (hn:n<=134217728) (hc:n<=cap) (hcm:cap<=134217728) (h1:n<=s) (h2:s<=134217728):
  aK Tryz.prog 211 #[.pointer (some ⟨pm,0,none⟩),.int .i64 sI] [pt pm (.cells #[.slice (some ⟨g,0,none⟩) n cap] 189 (0,0)),aF 5 1 (.slice (some ⟨g,0,none⟩) n cap) n (cu m n)] (fun r L=>∃ g2 cap2,r=.int .i64 0/\s<=cap2/\cap2<=134217728/\L= [pt pm (.cells #[.slice (some ⟨g2,0,none⟩) s cap2] 189 (0,0)),aF 5 1 (.slice (some ⟨g2,0,none⟩) s cap2) s (cu (fO m n) s)]):=by subst he;exact Mem.Grow_ok pm g n cap s m hn hc hcm h1 h2
theorem CN (pm g n cap:Nat) (oI kI:Int) (o k:Nat) (m:Nat->Int) (b:Int) (ho:oI=(o:Nat)) (hk:kI=(k:Nat)) (hb:0<=b/\b < 256) (hn:n<=134217728) (hc:n<=cap) (hle:o+k<=n):
  aK Tryz.prog 210 #[.pointer (some ⟨pm,0,none⟩),.int .i64 oI,.int .i64 kI,.int .u8 b] [pt pm (.cells #[.slice (some ⟨g,0,none⟩) n cap] 189 (0,0)),aF 5 1 (.slice (some ⟨g,0,none⟩) n cap) n (cu m n)] (fun r L=>r=.int .i64 0/\L= [pt pm (.cells #[.slice (some ⟨g,0,none⟩) n cap] 189 (0,0)),aF 5 1 (.slice (some ⟨g,0,none⟩) n cap) n (cu (dh m o k (fun _=>b)) n)]):=by subst ho;subst hk;exact Mem.Fill_ok pm g n cap o k m b hb hn hc hle
theorem take_ok (pa:Nat) (s:ArS) (c:Int) (hc:c∈dM) (hl:s.live+c<=s.limit):aK Tryz.prog 156 #[.pointer (some ⟨pa,0,none⟩),.int .i64 c] [aj pa s]
  (fun v L=>v=.tuple #[.int .i64 (s.at c:Nat),.int .i64 0]/\L= [aj pa (s.take c)]):=by
 have hcp:=gn c hc
 refine au IH Tryz.func156 rfl rfl rfl fun Fr w0=>aZ ?_
 refine dN (φ:=s.ok) (fun w hw=>cS hw .here) fun hok0=>?_
 have hst0:=hok0.stop_eq
 have hlim:=hok0.limit
 have hab:=oa hok0 hc hl
 have htok:=ArS.take_ok hok0 hc hl
 have hts:=htok.stop_eq
 have hsn:=ArS.sum_nonneg hok0.chain
 refine sr<|ar O O<|ar O O<|lz<|mv O O<|bF O O O (xA pa s) ?_
 refine vj fun x hx=>?_
 refine BB fun M hM=>?_
 simp only[List.cons_append,List.nil_append] at hM
 subst M
 obtain⟨pm,g,cap,sb,fb,vs,vc,lm,fl⟩:=x
 obtain⟨hok,hcap,hcap2,hlm,hfl⟩:=hx
 dsimp only at hcap hcap2 hlm hfl ⊢
 have hlm':=Dz hok (by omega:1<=c) hlm
 have hfc:=hfl c
 obtain⟨v7,xs7,hlk⟩:∃ v7 xs7,fz fl c=(v7,xs7):=⟨_,_,rfl⟩
 rw[hlk] at hfc
 dsimp only at hfc
 subst hfc
 refine wO (φ:=∃ a n cap,v7=.slice a n cap/\n=(s.frL c).length/\(0 < n->∃ g o,a=some ⟨g,o,none⟩)/\n<=cap/\cap<=maxLen) (fun w hw=>by
  have h1:=qp (k:=c) w (hw.perm (Take.perm (show Take (eU fl) _ _ from tk)))
  rw[hlk] at h1
  obtain⟨a,cp,e1,e2,e3,e4⟩:=qa h1
  rw[dD] at e1 e2 e3
  exact⟨a,_,cp,e1,rfl,e2,e3,e4⟩) fun⟨a7,n7,cap7,hv7,hn7,ha7,hc7,hm7⟩=>?_
 subst hv7
 have hvl:=rn fl c
 rw[hlk] at hvl
 dsimp only at hvl
 cases hfr:s.frL c with
 | nil=>
  rw[hfr] at hn7
  obtain rfl:n7=0:=by simpa using hn7
  obtain⟨et,ea⟩:=take_nil hok hfr
  obtain⟨cn,hcn⟩:∃ cn:Nat,c=(cn:Nat):=⟨c.toNat,by omega⟩
  have hall:(s.take c).all=s.all ++ [(((s.stop:Nat):Int),c)]:=by rw[et]
  have hsum:=ArS.sum_app s.all (((s.stop:Nat):Int),c)
  rw[hall] at hts
  have hsn2:(s.take c).stop=s.stop+cn:=by omega
  have e3:ints ((s.take c).all.map (·.1))=ints (s.all.map (·.1)) ++ [.int .i64 ((s.stop:Nat):Int)]:=by rw[hall];simp[ints]
  have e4:ints ((s.take c).all.map (·.2))=ints (s.all.map (·.2)) ++ [.int .i64 c]:=by rw[hall];simp[ints]
  have e6:(s.take c).all.length=s.all.length+1:=by rw[hall];simp
  have e7:(s.take c).m=fO s.m s.stop:=by rw[et]
  have e8:(s.take c).limit=s.limit:=by rw[et]
  have hfl':=uY hok hc hl hfr hfl
  rw[ea] at hlm' ⊢
  refine ar O O<|lc<|al<|sr<|mv O O<|ad O (ae O)<|ad O (aE 6 O dy O O mT)<|ad O (aI O mV) ?_
  refine mv O O<|ad O (QV.to (iX ia O O Tryz.underlying114 Tryz.underlying3 Aj (by exact tk)) hvl) ?_
  refine ar O O<|lz<|mv O O<|ad O (ql O bI)<|ad O (qi O O (di ·))<|lc<|aG O (fun z=>?_) fun z=>?_
  ·exact absurd z (by decide)
  refine al<|sr<|mv O O<|ad O (ae O)<|ad O (aE 2 O dy O O mU)<|ad O (aI O mW) ?_
  refine mv O O<|mv O O<|ad O (bn O O) ?_
  refine cT O O O (CL pm g s.stop cap _ (s.stop+cn) s.m (by omega) (by omega) hcap hcap2 (by omega) (by omega)) ?_
  rintro v' L' ⟨g2,cap2,rfl,hc2,hc3,rfl⟩
  refine bx ?_
  refine ar O O<|lz<|mv O O<|ad O (qi O O (bf ·))<|lc<|aG O (fun z2=>?_) fun z2=>?_
  ·exact absurd rfl z2
  refine aq<|nz<|mv O O<|mv O O<|ad O (ae O)<|ad O (aE 3 O dy O O o9)<|ad O (aI O vQ) ?_
  refine mv O O ?_
  refine bR [_] rfl rfl bI aN sj rfl rfl rfl rfl (fun b54=>?_)
  apply e9 (sz:=1) rfl rfl rfl bI E7 rfl rfl
  ·exact tk
  ·exact tk
  ·rfl
  ·rfl
  ·simp only[maxLen];omega
  ·omega
  intro v55
  refine ad O (ae O)<|ad O (aE 3 O dy O O o9) ?_
  refine gM .here (fun _ hs57=>?_)
  obtain⟨a57,c57,rfl,_,_,_⟩:=hs57
  apply qc O O O o9 O
  ·exact tk
  ·repeat (first | exact gR.here | apply gR.there)
  refine lr<|mv O O<|mv O O<|ad O (ae O)<|ad O (aE 4 O dy O O o9)<|ad O (aI O vQ) ?_
  refine mv O O ?_
  refine bR [_] rfl rfl bI aN sj rfl rfl rfl rfl (fun b64=>?_)
  apply e9 (sz:=1) rfl rfl rfl bI E7 rfl rfl
  ·exact tk
  ·exact tk
  ·rfl
  ·rfl
  ·simp only[maxLen];omega
  ·omega
  intro v65
  refine ad O (ae O)<|ad O (aE 4 O dy O O o9) ?_
  refine gM .here (fun _ hs67=>?_)
  obtain⟨a67,c67,rfl,_,_,_⟩:=hs67
  apply qc O O O o9 O
  ·exact tk
  ·repeat (first | exact gR.here | apply gR.there)
  refine lz<|mv O O<|ad O (ae O)<|ad O (aE 5 O dy O O ri)<|ad O (aI O rk) ?_
  refine mv O O<|mv O O ?_
  apply gl ia O O O O Al j5
  ·exact tk
  refine lz<|mv O O<|ad O (ae O)<|ad O (aE 1 O dy O O aN)<|ad O (aI O aX) ?_
  refine mv O O<|ad O (bn O O) ?_
  refine ad O (ae O)<|ad O (aE 1 O dy O O aN)<|st O O O aN O ?_
  refine lz<|mv O O<|ar O O<|ar O O<|lc<|rt ?_
  apply aR (.inl rfl) ([aj pa (s.take c)])
  ·apply cF O
   ·exact .tmp rfl
   exact .tmp rfl
  ·exact⟨rfl,rfl⟩
  refine cD (x:=⟨pm,g2,cap2,sb,fb,.slice a57 (s.all.length+1) c57,.slice a67 (s.all.length+1) c67,iE lm ((s.stop:Nat):Int) (.int .i64 c),fl⟩) ⟨htok,by rw[hsn2];exact hc2,hc3,hlm',hfl'⟩ ?_;dsimp only[oL];rw[ArS.take_live hok,e3,e4,e6,e7,e8,hsn2];(exact en)
 | cons o r=>
  rw[hfr] at hn7
  have hn7':n7=r.length+1:=hn7
  obtain⟨ag,ao,rfl⟩:=ha7 (by omega)
  obtain⟨et,ea,eo1,eo2,eo3⟩:=take_cons hok hfr
  have eoe:=gu hok.chain eo1
  dsimp only at eoe
  have hall:(s.take c).all=s.all:=by rw[et]
  have hstop:(s.take c).stop=s.stop:=by unfold ArS.stop;rw[hall]
  have e7:(s.take c).m=dh s.m o.toNat c.toNat fun _=>0:=by rw[et]
  have e8:(s.take c).limit=s.limit:=by rw[et]
  have hfl':=fun v=>sZ hok hc hl hfr hfl v
  rw[ea] at hlm' ⊢
  rw[Int.toNat_of_nonneg (show 0<=o by omega)] at hlm' ⊢
  have hcell:dt (fy 3 (.slice (some ⟨ag,ao,none⟩) n7 cap7) (ints (o::r))) ⟨ag,ao+(0:Int).toNat,none⟩ (.int .i64 o):=nR (i:=0) rfl
  refine GZ (oy (k:=c) (show Take (eU fl) _ _ from tk)) ?_
  rw[hlk,hfr]
  refine ar O O<|lc<|al<|sr<|mv O O<|ad O (ae O)<|ad O (aE 6 O dy O O mT)<|ad O (aI O mV) ?_
  refine mv O O<|ad O (QV.to (iX ia O O Tryz.underlying114 Tryz.underlying3 Aj (by exact tk)) hvl) ?_
  refine ar O O<|lz<|mv O O<|ad O (ql O bI)<|ad O (qi O O (di ·))<|lc<|aG O (fun z=>?_) fun z=>?_
  ·refine sr<|mv O O ?_
   first | refine ad O (aW 0 O O bI aN (by omega)) ?_ | refine ad O (az O O bI aN (by omega)) ?_
   refine ad O (cf (A:=fy 3 (.slice (some ⟨ag,ao,none⟩) n7 cap7) (ints (o::r))) rfl aX tk hcell) ?_
   refine ar O O<|lc<|al<|aY mixed ?_
   apply dq 0 O (yq (ah O))
   apply dq 1 O (yq (ae O))
   apply dq 2 O (yq (aE 6 O dy O O mT))
   apply dq 3 O (yq (aI O mV))
   apply dq 4 O (yq (ah O))
   apply dq 5 O (yq (ah O))
   apply dq 6 O (yq (lY O O bI aN (by omega)))
   refine ak [3,4,6,0,1,2,5] [] 7 [(26,_),(27,_),(29,_)] gO ⟨rfl,rfl,rfl,trivial⟩ (by kernel_rfl) (by kernel_rfl) fun Ex=>?_
   apply gl ia O O O O Ej j5
   ·exact tk
   refine ai ?_
   refine aQ trivial ?_
   refine aV (by kernel_rfl) ?_
   refine an<|aD<|mv O O<|ad O (ae O)<|ad O (aE 2 O dy O O mU)<|ad O (aI O mW) ?_
   refine mv O O<|mv O O<|cT O O O (CN pm g s.stop cap o c o.toNat c.toNat s.m 0 (by omega) (by omega) (by decide) (by omega) hcap (by omega)) ?_
   rintro v' L' ⟨rfl,rfl⟩
   refine bx ?_
   refine lz<|mv O O<|ad O (ae O)<|ad O (aE 5 O dy O O ri)<|ad O (aI O rk) ?_
   refine mv O O<|mv O O ?_
   apply gl ia O O O O Al j5
   ·exact tk
   refine lz<|mv O O<|ad O (ae O)<|ad O (aE 1 O dy O O aN)<|ad O (aI O aX) ?_
   refine mv O O<|ad O (bn O O) ?_
   refine ad O (ae O)<|ad O (aE 1 O dy O O aN)<|st O O O aN O ?_
   refine lz<|mv O O<|ar O O<|ar O O<|lc<|rt ?_
   apply aR (.inl rfl) ([aj pa (s.take c)])
   ·apply cF O
    ·exact .tmp rfl
    exact .tmp rfl
   ·exact⟨rfl,rfl⟩
   refine dS.trans (uW (fl:=fl) (c:=c) (x:=o) (r:=r) hn7' (show Take (fy 3 (.slice (some ⟨ag,ao,none⟩) n7 cap7) (ints (o::r))) _ _ from tk) (show Take (eU (iM fl c)) _ _ from tk)) ?_;refine cD (x:=⟨pm,g,cap,sb,fb,vs,vc,iE lm o (.int .i64 c),jk fl c (.slice (some ⟨ag,ei ao 1 cap7,none⟩) (n7-1) (cap7-1),r)⟩) ⟨htok,by rw[hstop];exact hcap,hcap2,hlm',hfl' _⟩ ?_;dsimp only[oL];rw[ArS.take_live hok,hall,e7,e8,hstop,rm];(exact en)
  omega
def ArS.takes (s:ArS) (ns:List Int):ArS:=ns.foldl (fun s n=>s.take (aH n)) s
def ArS.offs (s:ArS):List Int->List Int
 | []=>[]
 | n::r=>((s.at (aH n):Nat):Int)::(s.take (aH n)).offs r
def fq (ns:List Int):Int:=(ns.map aH).sum
theorem rq (s:ArS) (ns:List Int) (n:Int):s.takes (ns ++ [n])=(s.takes ns).take (aH n):=by simp[ArS.takes]
theorem uG (s:ArS) (ns:List Int) (n:Int):s.offs (ns ++ [n])=s.offs ns ++ [(((s.takes ns).at (aH n):Nat):Int)]:=by
 induction ns generalizing s with
 | nil=>rfl
 | cons a r ih=>simp only[List.cons_append,ArS.offs,ih];rfl
theorem pC (ns:List Int) (n:Int):fq (ns ++ [n])=fq ns+aH n:=by simp[fq]
theorem kM:∀ {ns:List Int},(∀ n∈ns,1<=n)->0<=fq ns/\fq ns<=1048576*(ns.length:Int)
 | [],_=>by simp[fq]
 | n::r,h=>by
  have h1:=dE (h n (by simp))
  have h2:=kM (ns:=r) fun m hm=>h m (by simp[hm])
  simp only[fq,List.map_cons,List.sum_cons,List.length_cons] at h2 ⊢
  omega
theorem pq:∀ {ns:List Int} {s:ArS},s.ok->(∀ n∈ns,1<=n/\n<=1048576)->s.live+fq ns<=s.limit->(s.takes ns).ok/\(s.takes ns).live=s.live+fq ns/\(s.takes ns).limit=s.limit
 | [],s,h,_,_=>⟨h,by simp[ArS.takes,fq],rfl⟩
 | n::r,s,h,hn,hl=>by
  have hb:=dE (hn n (by simp)).1
  have hb2:=hb.2.2 (hn n (by simp)).2
  have hs:=kM (ns:=r) fun m hm=>(hn m (by simp[hm])).1
  have e:fq (n::r)=aH n+fq r:=by simp[fq]
  rw[e] at hl ⊢
  have h1:=ArS.take_ok h (gq (hn n (by simp)).1 (hn n (by simp)).2) (by omega)
  have h2:=pq (ns:=r) (s:=s.take (aH n)) h1 (fun m hm=>hn m (by simp[hm])) (by rw[ArS.take_live h,cX h];omega)
  obtain⟨a,b,c⟩:=h2
  refine⟨a,?_,c.trans (cX h)⟩
  show((s.take (aH n)).takes r).live=_
  rw[b,ArS.take_live h];omega
theorem kL:∀ {ns:List Int} {j:Nat} (h:j < ns.length),fq ns=fq (ns.take j)+(aH ns[j] +fq (ns.drop (j+1)))
 | n::r,0,_=>by simp[fq]
 | n::r,j+1,h=>by
  have:=kL (ns:=r) (j:=j) (by simpa using h)
  simp only[fq,List.map_cons,List.sum_cons,List.take_succ_cons,List.drop_succ_cons,List.getElem_cons_succ] at this ⊢
  omega
theorem Cf {ns:List Int} {j:Nat} (hj:j < ns.length) (P:Int->Prop):(∃ n,n∈ns.take (j+1)/\P n)↔(∃ n,n∈ns.take j/\P n)\/P ns[j]:=by
 rw[eL hj];simp only[List.mem_append,List.mem_singleton,or_and_right,exists_or,exists_eq_left]
theorem vL (pa:Nat) (s:ArS) (p k:Nat) (ns:List Int) (hk:ns.length=k) (hkb:k<=1000) (hn:∀ n∈ns,1<=n):
  aK Tryz.prog 73 #[.pointer (some ⟨pa,0,none⟩),.slice (some ⟨p,0,none⟩) k k] [pt p (.cells (ints ns).toArray 3 (0,0)),aj pa s]
   (fun v L=>((∃ n∈ns,1048576 < n)\/s.limit-s.live < fq ns)/\v=.tuple #[.slice none 0 0,.int .i64 22]/\L= [aj pa s]\/
    (∀ n∈ns,n<=1048576)/\s.live+fq ns<=s.limit/\∃ vo,v=.tuple #[vo,.int .i64 0]/\L= [aF 3 1 vo k (ints (s.offs ns)),aj pa (s.takes ns)]):=by
 subst hk
 refine au JY Tryz.func73 rfl rfl rfl fun Fr w0=>aZ ?_
 refine dN (φ:=s.ok) (fun w hw=>cS hw (.there .here)) fun hok0=>?_
 have hst0:=hok0.stop_eq
 have hlim:=hok0.limit
 refine sr<|ar O O<|ar O O<|lz<|ar O O<|lz<|ar O O<|lc<|al<|sr<|mv O O<|ad O (ql O bI)<|mv O O<|lc<|aB ?_
 refine bK (fun x:Nat×Bool=>x.1<=ns.length/\(x.2=true↔∃ n∈ns.take x.1,1048576 < n)) (fun x=>[(0,.pointer (some ⟨pa,0,none⟩)),(1,.slice (some ⟨p,0,none⟩) ns.length ns.length),(6,.int .i64 (fq (ns.take x.1))),(7,.bool x.2),(15,.slice (some ⟨p,0,none⟩) ns.length ns.length),(16,.int .i64 ns.length),(17,.int .i64 x.1)]) (fun x=>pt p (.cells (ints ns).toArray 3 (0,0))::aj pa s::Fr) (fun x=>ns.length-x.1) (0,false) ⟨by omega,by simp⟩ ⟨rfl,rfl,rfl,rfl,rfl,rfl,rfl,trivial⟩ (dS.refl _) ?_
 rintro⟨j,gr⟩ ⟨hj,hgr⟩
 dsimp only at hj hgr ⊢
 have hsum:=kM (ns:=ns.take j) fun n hm=>hn n (List.mem_of_mem_take hm)
 rw[List.length_take] at hsum
 refine sr<|ad O (qi O O (bj ·))<|lc<|al<|aG O (fun h=>?_) fun h=>?_
 ·have hjl:j < ns.length:=by omega
  have hnj:=hn ns[j] (List.getElem_mem hjl)
  have hcj:=dE hnj
  have hgt:∀ b:Bool,(b=true↔(gr=true\/1048576 < ns[j]))->(b=true↔∃ n∈ns.take (j+1),1048576 < n):=fun b hb=>by rw[hb,hgr,Cf hjl (fun n=>1048576 < n)]
  refine aq<|an<|al<|aB<|sr<|ad O (az O O bI aN (by omega)) ?_
  apply ad O
  ·apply fW O aX
   ·exact tk
   rw[Nat.zero_add,Int.toNat_natCast];simp[ints,hjl];rfl
  refine ar O O<|lc<|al<|sr<|mv O O<|ad O (qi O O (bj ·))<|lc<|aG O (fun q=>?_) fun q=>?_
  ·omega
  refine aq<|nz<|mv O O<|mv O O<|bQ (t:=24) rfl (fun r=>?_) fun r=>?_
  ·refine ax O O O O<|ax O O O O<|ad O (aS O O)<|ar O O<|lr<|mv O O<|mv O O<|bF O O O (Class_ok ns[j]) ?_
   refine ad O (bn O O) ?_
   refine ar O O<|ai<|bz<|an<|aD<|ad O (bn O O) ?_
   refine mv O O<|ai ?_
   apply aU ((j+1,true))
   ·exact⟨by dsimp only;omega,hgt true (by simp[r])⟩
   ·dsimp only;omega
   ·exact⟨rfl,rfl,by dsimp only;rw[eL hjl,pC];rfl,rfl,rfl,rfl,rfl,trivial⟩
   exact en
  refine aA O O<|mv O O<|aA O O<|ad O (qi O O (di ·))<|ad O (aS O O)<|ar O O<|lr<|mv O O<|mv O O<|bF O O O (Class_ok ns[j]) ?_
  refine ad O (bn O O) ?_
  refine ar O O<|ai<|bz<|an<|aD<|ad O (bn O O) ?_
  refine mv O O<|ai ?_
  apply aU ((j+1,decide (1048576 < ns[j])))
  ·exact⟨by dsimp only;omega,hgt _ (by simp[r])⟩
  ·dsimp only;omega
  ·exact⟨rfl,rfl,by dsimp only;rw[eL hjl,pC];rfl,rfl,rfl,rfl,rfl,trivial⟩
  exact en
 obtain rfl:j=ns.length:=by omega
 rw[List.take_length] at hgr hsum ⊢
 refine il (L':=aj pa s::pt p (.cells (ints ns).toArray 3 (0,0))::Fr) (by(exact en)) ?_
 refine dJ fun x hx=>?_
 refine gY fun M hM=>?_
 simp only[List.cons_append,List.nil_append] at hM
 subst M
 obtain⟨pm,g,cap,sb,fb,vs,vc,lm,fl⟩:=x
 obtain⟨hok,hcap,hcap2,hlm,hfl⟩:=hx
 dsimp only at hcap hcap2 hlm hfl ⊢
 have hst:=hok.stop_eq
 refine xt O<|an<|al<|al<|aY mixed ?_
 apply dq 0 O (yq (ah O))
 apply dq 1 O (yq (ah O))
 have hfail:gr=true\/s.limit-s.live < fq ns->((∃ n,n∈ns/\1048576 < n)\/s.limit-s.live < fq ns):=fun hq=>hq.imp (fun e=>hgr.1 e) id
 refine n6 (t:=34) rfl (fun gg=>?_) fun gg=>?_
 ·apply dq 2 O (bW O O O (by intro k;simp))
  apply dq 3 O (bW O O O (by intro k;simp))
  apply dq 4 O (bW O O O (by intro k;simp))
  apply dq 5 O (bW O O O (by intro k;simp))
  apply dq 6 O (bW O O O (by intro k;simp))
  apply dq 7 O (bW O O O (by intro k;simp))
  apply dq 8 O (bW O O O (by intro k;simp))
  apply dq 9 O (bW O O O (by intro k;simp))
  apply dq 10 O (bW O O O (by intro k;simp))
  apply dq 11 O (bW O O O (by intro k;simp))
  apply dq 12 O (bW O O O (by intro k;simp))
  apply dq 13 O (yq (aS O O))
  refine aV (by kernel_rfl) ?_
  refine an<|bk O<|sr<|ar O O<|ar O O<|lc<|rt ?_
  apply aR (.inl rfl) ([aj pa s])
  ·apply cF O
   ·exact .tmp rfl
   exact .tmp rfl
  ·exact .inl ⟨hfail (.inl gg),rfl,rfl⟩
  refine cD (x:=⟨pm,g,cap,sb,fb,vs,vc,lm,fl⟩) ⟨hok,hcap,hcap2,hlm,hfl⟩ ?_;dsimp only[oL];(exact en)
 apply dq 2 O (bD O O (ah O))
 apply dq 3 O (bD O O (ah O))
 apply dq 4 O (bD O O (ae O))
 apply dq 5 O (bD O O (aE 0 O dy O O aN))
 apply dq 6 O (bD O O (aI O aX))
 apply dq 7 O (bD O O (ah O))
 apply dq 8 O (bD O O (ae O))
 apply dq 9 O (bD O O (aE 1 O dy O O aN))
 apply dq 10 O (bD O O (aI O aX))
 apply dq 11 O (bD O O (eJ O O))
 apply dq 12 O (bD O O (qi O O (di ·)))
 apply dq 13 O (yq (aS O O))
 refine aV (by kernel_rfl) ?_
 refine an<|aG O (fun z=>?_) fun z=>?_
 ·refine sr<|ar O O<|ar O O<|lc<|rt ?_
  apply aR (.inl rfl) ([aj pa s])
  ·apply cF O
   ·exact .tmp rfl
   exact .tmp rfl
  ·exact .inl ⟨.inr z,rfl,rfl⟩
  refine cD (x:=⟨pm,g,cap,sb,fb,vs,vc,lm,fl⟩) ⟨hok,hcap,hcap2,hlm,hfl⟩ ?_;dsimp only[oL];(exact en)
 have hsmall:∀ n∈ns,n<=1048576:=fun n hm=>by rcases Int.lt_or_le 1048576 n with q | q;(have:=hgr.2 ⟨n,hm,q⟩;rw[this] at gg;cases gg);exact q
 have hfit:s.live+fq ns<=s.limit:=by omega
 refine lx (X:=Unit) (LL:=fun _=>aj pa s::pt p (.cells (ints ns).toArray 3 (0,0))::Fr) (fun w hs=>⟨(),cD (x:=⟨pm,g,cap,sb,fb,vs,vc,lm,fl⟩) ⟨hok,hcap,hcap2,hlm,hfl⟩ (by dsimp only[oL];(exact en)) w hs⟩) fun _=>?_
 refine aq<|nz<|mv O O<|ad O (ql O bI) ?_
 apply dL O O O bI E7 O (by omega) (by omega)
 intro b49
 refine ar O O<|lc<|al<|sr<|mv O O<|ad O (ql O bI)<|mv O O<|lc<|aB ?_
 refine bK (fun x:Nat×Value=>x.1<=ns.length) (fun x=>[(0,.pointer (some ⟨pa,0,none⟩)),(10,x.2),(50,.slice (some ⟨p,0,none⟩) ns.length ns.length),(51,.int .i64 ns.length),(52,.int .i64 x.1)]) (fun x=>aF 3 1 x.2 x.1 (ints (s.offs (ns.take x.1)))::aj pa (s.takes (ns.take x.1))::pt p (.cells (ints ns).toArray 3 (0,0))::Fr) (fun x=>ns.length-x.1) (0,_) (by omega) ⟨rfl,rfl,rfl,rfl,rfl,trivial⟩ (by first | exact dS.refl _ | (exact en)) ?_
 rintro⟨j,v10⟩ hj
 dsimp only at hj ⊢
 refine sr<|ad O (qi O O (bj ·))<|lc<|al<|aG O (fun h3=>?_) fun h3=>?_
 ·have hjl:j < ns.length:=by omega
  refine aq<|an<|al<|aB<|sr<|ad O (az O O bI aN (by omega)) ?_
  apply ad O
  ·apply fW O aX
   ·exact tk
   rw[Nat.zero_add,Int.toNat_natCast];simp[ints,hjl];rfl
  refine ar O O<|lz<|mv O O<|mv O O ?_
  have hnj:=hn ns[j] (List.getElem_mem hjl)
  have hcj:=(dE hnj).2.2 (hsmall _ (List.getElem_mem hjl))
  have hsp:=kL hjl
  have et:(s.takes (ns.take j)).take (aH ns[j])=s.takes (ns.take (j+1)):=by rw[eL hjl,rq]
  have eo:ints (s.offs (ns.take j)) ++ [.int .i64 (((s.takes (ns.take j)).at (aH ns[j]):Nat):Int)]=ints (s.offs (ns.take (j+1))):=by rw[eL hjl,uG];simp[ints]
  have hs2:=(kM (ns:=ns.drop (j+1)) fun n hm=>hn n (List.mem_of_mem_drop hm)).1
  have htk:=pq (ns:=ns.take j) hok (fun n hm=>⟨hn n (List.mem_of_mem_take hm),hsmall n (List.mem_of_mem_take hm)⟩) (by omega)
  refine bF O O O (Class_ok ns[j]) ?_
  refine bF O O O (take_ok pa (s.takes (ns.take j)) (aH ns[j]) (gq hnj (hsmall _ (List.getElem_mem hjl))) (by rw[htk.2.1,htk.2.2];omega)) ?_
  refine mv O O<|ad O (aa O ga) ?_
  refine ad O (aa O ga) ?_
  refine ar O O<|ar O O<|lc<|al<|sr<|mv O O<|ad O (qi O O (bf ·))<|lc<|aG O (fun z3=>?_) fun z3=>?_
  ·exact absurd rfl z3
  refine aq<|an<|aD<|mv O O<|mv O O ?_
  refine bR [_] rfl rfl bI aN sj rfl rfl rfl rfl (fun b68=>?_)
  apply e9 (sz:=1) rfl rfl rfl bI E7 rfl rfl
  ·exact tk
  ·exact tk
  ·rfl
  ·rfl
  ·simp only[maxLen];omega
  ·omega
  intro v69
  refine ar O O<|ai<|bz<|an<|aD<|ad O (bn O O) ?_
  refine mv O O<|ai ?_
  rw[et,eo]
  apply aU ((j+1,v69))
  ·exact(show j+1<=ns.length by omega)
  ·dsimp only;omega
  ·exact⟨O,O,O,O,O,trivial⟩
  exact en
 refine xt O<|nz<|mv O O<|ar O O<|ar O O<|lc<|rt ?_
 obtain rfl:j=ns.length:=by omega
 rw[List.take_length]
 exact ft O ([aF 3 1 v10 ns.length (ints (s.offs ns)),aj pa (s.takes ns)]) (.tmp rfl) (.tmp rfl) (.inr ⟨hsmall,hfit,_,rfl,rfl⟩)
theorem tC (pa:Nat) (s:ArS) (p:Nat) (a b:Int) (ha:1<=a) (hb:1<=b):
  aK Tryz.prog 73 #[.pointer (some ⟨pa,0,none⟩),.slice (some ⟨p,0,none⟩) 2 2] [pt p (.cells #[.int .i64 a,.int .i64 b] 3 (0,0)),aj pa s]
   (fun v L=>((1048576 < a\/1048576 < b\/s.limit-s.live < aH a+aH b)/\v=.tuple #[.slice none 0 0,.int .i64 22]/\L= [aj pa s])\/
    (a<=1048576/\b<=1048576/\s.live+(aH a+aH b)<=s.limit/\∃ vo,v=.tuple #[vo,.int .i64 0]/\L= [aF 3 1 vo 2 [.int .i64 ((s.at (aH a):Nat):Int),.int .i64 (((s.take (aH a)).at (aH b):Nat):Int)],aj pa ((s.take (aH a)).take (aH b))])):=
 (vL pa s p 2 [a,b] rfl (by decide) (by intro n hn;simp at hn;omega)).mono fun v L h=>by
  rcases h with⟨h1,h2,h3⟩ | ⟨h1,h2,h3⟩
  ·exact .inl ⟨by simpa [fq,or_assoc] using h1,h2,h3⟩
  exact .inr ⟨h1 a (by simp),h1 b (by simp),by simpa [fq] using h2,h3⟩
theorem Sat.nilH {L:List HP} {w:World} (h:Sat (stars L) w):Sat (stars (eU []::L)) w:=dC.2 h
def ArS.new (limit:Int):ArS:=⟨limit,fun _=>0,[],fun _=>false⟩
theorem ArS.new_ok {limit:Int} (h:0<=limit/\limit<=2097152):(ArS.new limit).ok:=⟨h,by simp[ArS.new,ArS.live,ArS.bl,ArS.sum];omega,trivial,fun _=>by simp[ArS.new],fun c=>by show(0:Int)<=limit;omega,fun p hp=>(by cases hp),fun o ho=>(by cases ho)⟩
theorem New_ok (limit:Int) (h:0<=limit/\limit<=2097152):aK Tryz.prog 26 #[.int .i64 limit] [] (fun v L=>∃ pa,v=.tuple #[.pointer (some ⟨pa,0,none⟩),.int .i64 0]/\L= [aj pa (ArS.new limit)]):=by
 refine au Kj Tryz.func26 rfl rfl rfl fun Fr w0=>aZ ?_
 refine sr<|ar O O<|ar O O<|lc<|al<|sr<|mv O O<|ad O (qi O O (bj ·))<|mv O O<|bQ (t:=8) rfl (fun h1=>?_) fun h1=>?_
 ·omega
 refine aA O O<|mv O O<|aA O O<|ad O (qi O O (di ·))<|ad O (aS O O)<|lc<|aG O (fun h2=>?_) fun h2=>?_
 ·omega
 refine aq<|nz<|cT O O O (Mem.New_ok 16 (by decide)) ?_
 rintro v L' ⟨pm,g,rfl,rfl⟩
 refine bx ?_
 refine mv O O<|ad O (aa O ga) ?_
 refine ad O (aa O ga) ?_
 refine ar O O<|ar O O<|lc<|al<|sr<|mv O O<|ad O (qi O O (bf ·))<|lc<|aG O (fun z=>?_) fun z=>?_
 ·exact absurd rfl z
 refine aq<|nz<|mv O O<|mv O O ?_
 refine rE (fun k:Int=>Value.int .i64 k) rfl (fun b21=>?_)
 refine rE (fun k:Int=>Value.int .i64 k) rfl (fun b22=>?_)
 apply ad O
 ·apply bp O GG Gs
  apply aP.one
  ·repeat (first | exact ba.here | apply ba.there)
  ·rfl
  ·exact sa
  apply aP.one
  ·repeat (first | exact ba.here | apply ba.there)
  ·rfl
  ·exact sa
  apply aP.one
  ·repeat (first | exact ba.here | apply ba.there)
  ·rfl
  ·exact sa
  apply aP.one
  ·repeat (first | exact ba.here | apply ba.there)
  ·rfl
  ·exact sa
  exact aP.nil
 refine bw O O fun b24=>ar O O<|ar O O<|lc<|rt ?_
 apply aR (.inl rfl) ([aj b24 (ArS.new limit)])
 ·apply cF O
  ·exact .tmp rfl
  exact .tmp rfl
 ·exact⟨_,rfl,rfl⟩
 refine cD (x:=⟨pm,g,16,b21,b22,.slice none 0 0,.slice none 0 0,[],[]⟩) ⟨ArS.new_ok h,by simp[ArS.new,ArS.stop,ArS.sum],by simp,⟨fun p hp=>(by rw[cG] at hp;cases hp.1),fun k _=>rfl⟩,fun c=>rfl⟩ ?_;exact fun w hw=>gJ (gJ (Sat.nilH hw)) |> fun h2=>oZ.ent (by dsimp only[oL];repeat (first | apply oZ.cons | with_reducible exact oZ.nil | apply oZ.rest | exact Take.here | apply Take.there | exact Drop.refl | apply Drop.skip)) w h2
end Arena
end Go.Proofs.YthkajgkagnenbaaGreatDoor
