import Derived.Test.YthkajgkagnenbaaGreatDoorArena
set_option linter.unusedVariables false
set_option linter.unusedSimpArgs false
set_option linter.unusedSectionVars false
set_option maxRecDepth 100000
namespace Go.Proofs.YthkajgkagnenbaaGreatDoor
namespace Arena
open Go.RowKit Go.Proofs Eng Ty Bits Mem Search
theorem ArS.put_limit (s:ArS) (o k:Nat) (f:Nat→Int):(s.put o k f).limit=s.limit:=rfl
theorem ArS.put_live (s:ArS) (o k:Nat) (f:Nat→Int):(s.put o k f).live=s.live:=rfl
theorem ArS.put_stop (s:ArS) (o k:Nat) (f:Nat→Int):(s.put o k f).stop=s.stop:=rfl
theorem ArS.put_all (s:ArS) (o k:Nat) (f:Nat→Int):(s.put o k f).all=s.all:=rfl
theorem ArS.put_m (s:ArS) (o k:Nat) (f:Nat→Int):(s.put o k f).m=cm s.m o k f:=rfl
theorem aN.ne {s:ArS} {off n:Int} (h:aN s off n):s.all≠[]:=by
 obtain⟨_,p,hp,_⟩:=h
 intro e;rw[cr,e] at hp;cases hp.1
theorem aN.sub {s:ArS} {off n off' n':Int} (h:aN s off n) (h0:0≤n') (h1:off≤off') (h2:off'+n'≤off+n):aN s off' n':=by
 obtain⟨_,p,hp,p1,p2⟩:=h
 exact⟨h0,p,hp,by omega,by omega⟩
theorem aN.put {s:ArS} {off n:Int} {o k:Nat} {f:Nat→Int} (h:aN s off n):aN (s.put o k f) off n:=h
theorem bQ {pa:Nat} {s:ArS} {L M:List HP} {w:World} (h:Sat (stars L) w) (ht:Take (ae pa s) L M):s.ok:=by
 obtain⟨x,hx,_⟩:=bZ.1 (h.take ht)
 exact hx.1
theorem r8 (s:ByteArray) (i:Nat):0≤cP s i∧cP s i < 256:=by
 unfold cP
 split
 ·next h=>have:=(s[i]'h).toNat_lt;omega
 omega
theorem vi (ss:List ByteArray):∀ i,0≤fG ss i∧fG ss i < 256:=by
 induction ss with
 | nil=>intro i;simp[fG]
 | cons s r ih=>intro i;simp only[fG];split;exact r8 _ _;exact ih _
theorem gE (pa:Nat) (s:ArS) (off w:Int) (o k:Nat) (ho:off=(o:Nat)) (hw:w=(k:Nat)) (hk:wid k) (hg:aN s off w):aG Tryz.prog 99 #[.pointer (some ⟨pa,0,none⟩),.int .i64 off,.int .i64 w] [ae pa s]
  (fun v L=>v=.tuple #[.int .u64 (cZ s.m o k),.int .i64 0]∧L= [ae pa s]):=by subst ho;subst hw;exact Load_ok pa s o k hk hg hg.ne
theorem lh (pa:Nat) (s:ArS) (off w:Int) (o k:Nat) (v:Int) (ho:off=(o:Nat)) (hw:w=(k:Nat)) (hv:0≤v∧v < 18446744073709551616) (hk:wid k) (hg:aN s off w):aG Tryz.prog 183 #[.pointer (some ⟨pa,0,none⟩),.int .i64 off,.int .i64 w,.int .u64 v] [ae pa s]
  (fun r L=>r=.int .i64 0∧L= [ae pa (s.put o k (bG v))]):=by subst ho;subst hw;exact Store_ok pa s o k v hv hk hg hg.ne
theorem uq (pa:Nat) (s:ArS) (off n:Int) (o k:Nat) (b:Int) (ho:off=(o:Nat)) (hw:n=(k:Nat)) (hb:0≤b∧b < 256) (hg:aN s off n):aG Tryz.prog 182 #[.pointer (some ⟨pa,0,none⟩),.int .i64 off,.int .i64 n,.int .u8 b] [ae pa s]
  (fun r L=>r=.int .i64 0∧L= [ae pa (s.put o k (fun _=>b))]):=by subst ho;subst hw;exact Fill_ok pa s o k b hb hg hg.ne
theorem yt (pa:Nat) (s:ArS) (a b n:Int) (a' b' k:Nat) (ea:a=(a':Nat)) (eb:b=(b':Nat)) (hw:n=(k:Nat)) (ha:aN s a n) (hb:aN s b n):aG Tryz.prog 216 #[.pointer (some ⟨pa,0,none⟩),.int .i64 a,.int .i64 b,.int .i64 n] [ae pa s]
  (fun r L=>(∃ q:Bool,r=.tuple #[.bool q,.int .i64 0]∧(q=true↔∀ i,i < k→s.m (a'+i)=s.m (b'+i)))∧L= [ae pa s]):=by subst ea;subst eb;subst hw;exact Equal_ok pa s a' b' k ha hb ha.ne
theorem Read_ok (pa:Nat) (s:ArS) (off k:Nat) (hg:aN s off k):aG Tryz.prog 18 #[.pointer (some ⟨pa,0,none⟩),.int .i64 off,.int .i64 k] [ae pa s]
  (fun v L=>v=.tuple #[.string (dE s.m off k),.int .i64 0]∧L= [ae pa s]):=by
 refine aq HW Tryz.func18 rfl rfl rfl fun Fr w0=>aR ?_
 refine sr<|asg rfl rfl<|asg rfl rfl<|lc<|ah<|sr<|mv rfl rfl<|mv rfl rfl<|mv rfl rfl<|lcf rfl rfl rfl (eT pa s hg.ne off k) ?_
 rintro v' L' ⟨⟨q,rfl,hq⟩,rfl⟩
 refine bF ?_
 refine l_q rfl (cX rfl (bY ·))<|lc<|aA rfl (fun z=>?_) fun z=>?_
 ·rw[hq.2 hg] at z;cases z
 refine dr fun x hx=>?_
 refine gF fun M hM=>?_
 simp only[List.cons_append,List.nil_append] at hM
 subst M
 obtain⟨pm,g,cap,sb,fb,vs,vc,lm,fl⟩:=x
 obtain⟨hok,hcap,hcap2,hlm,hfl⟩:=hx
 dsimp only at hcap hcap2 hlm hfl ⊢
 have hst:=hok.stop_eq
 have hge:=aN.end_le hok hg
 refine al<|nz<|mv rfl rfl<|l_q rfl (ad rfl)<|l_q rfl (qfa 2 rfl cV rfl rfl mc)<|l_q rfl (qld rfl mg) ?_
 refine mv rfl rfl<|mv rfl rfl<|lcf rfl rfl rfl (Mem.Read_ok pm g s.stop cap off k s.m (by omega) hcap (by omega)) ?_
 rintro v' L' ⟨g2,rfl,rfl⟩
 refine bF ?_
 refine mv rfl rfl<|l_q rfl (aa rfl ga) ?_
 refine l_q rfl (aa rfl ga) ?_
 refine asg rfl rfl<|asg rfl rfl<|lz<|mv rfl rfl ?_
 apply l_q rfl
 ·apply eI (dE s.m off k) rfl Tryz.underlying117 Tryz.underlying5 Tryz.underlying9
  ·simp[dE,ByteArray.size]
  rw[oo hok.bytes];exact dQ (by exact tk)
 refine mv rfl rfl<|asg rfl rfl<|asg rfl rfl<|lc<|rt ?_
 apply aJ (.inl rfl) ([ae pa s])
 ·apply bS rfl
  ·exact .tmp rfl
  exact .tmp rfl
 ·exact⟨rfl,rfl⟩
 refine bV (x:=⟨pm,g,cap,sb,fb,vs,vc,lm,fl⟩) ⟨hok,hcap,hcap2,hlm,hfl⟩ ?_;dsimp only[arP];(exact en)
theorem pB (pa:Nat) (s:ArS) (off n:Int) (o k:Nat) (ho:off=(o:Nat)) (hw:n=(k:Nat)) (hg:aN s off n):aG Tryz.prog 18 #[.pointer (some ⟨pa,0,none⟩),.int .i64 off,.int .i64 n] [ae pa s]
  (fun v L=>v=.tuple #[.string (dE s.m o k),.int .i64 0]∧L= [ae pa s]):=by subst ho;subst hw;exact Read_ok pa s o k hg
def strs (ss:List ByteArray):List Value:=ss.map fun s=>.string s
theorem r5 {L:List HP}:Ent L (dw [] []::L):=fun w h=>cl.2 h
theorem r6 {vs:List Value} {ss:List ByteArray} {v:Value} {s:ByteArray} {L:List HP} (hl:vs.length=ss.length):Ent (iO v s::dw vs ss::L) (dw (vs ++ [v]) (ss ++ [s])::L):=fun w h=>by
 have h1:=(h.perm (.swap _ _ _):Sat (stars (dw vs ss::iO v s::L)) w)
 have h2:=cl.1 h1
 refine cl.2 ?_
 unfold dw at *
 rw[List.zipWith_append hl]
 simpa using h2
theorem dU {α:Type} {l:List α} {j:Nat} (h:j < l.length):l.take (j+1)=l.take j ++ [l[j]]:=by rw[List.take_add_one,List.getElem?_eq_getElem h];rfl
theorem Write_ok (pa:Nat) (s:ArS) (p k off:Nat) (ss:List ByteArray) (hk:ss.length=k) (hk1:1≤k) (hkb:k≤1000) (hg:aN s off (cR ss)):
  aG Tryz.prog 195 #[.pointer (some ⟨pa,0,none⟩),.int .i64 off,.slice (some ⟨p,0,none⟩) k k] [pt p (.cells (strs ss).toArray 9 (0,0)),ae pa s]
   (fun r L=>r=.int .i64 0∧L= [ae pa (s.put off (cR ss) (fG ss))]):=by
 refine aq FK Tryz.func195 rfl rfl rfl fun Fr w0=>aR ?_
 refine cI (φ:=s.ok) (fun w hw=>bQ hw (.there .here)) fun hok0=>?_
 have hge:=aN.end_le hok0 hg
 have hst0:=hok0.stop_eq
 refine sr<|asg rfl rfl<|lz<|asg rfl rfl<|lz<|mv rfl rfl<|l_q rfl (ql rfl pS) ?_
 apply da rfl rfl rfl oa CN rfl (by omega) (by omega)
 intro b13
 refine asg rfl rfl<|lc<|ah<|sr<|mv rfl rfl<|l_q rfl (ql rfl pS)<|mv rfl rfl<|lc<|ax ?_
 refine fw (L':=dw [] []::aE 117 1 (.slice (some ⟨b13,0,none⟩) 0 k) 0 []::pt p (.cells (strs ss).toArray 9 (0,0))::ae pa s::Fr) ?_ ?_
 ·refine(Ent.trans (M:=aE 117 1 (.slice (some ⟨b13,0,none⟩) 0 k) 0 []::pt p (.cells (strs ss).toArray 9 (0,0))::ae pa s::Fr) ?_ r5)
  have e:(Int.toNat ((k:Nat):Int))=k:=Int.toNat_natCast k
  first | exact Ent.refl _ | (simp only[Int.toNat_natCast];exact Ent.refl _)
 refine bw (fun x:Nat×List Value×Value=>x.1≤k∧x.2.1.length=x.1) (fun x=>[(0,.pointer (some ⟨pa,0,none⟩)),(1,.int .i64 off),(7,.int .i64 (cR (ss.take x.1):Nat)),(8,x.2.2),(14,.slice (some ⟨p,0,none⟩) k k),(15,.int .i64 k),(16,.int .i64 x.1)]) (fun x=>dw x.2.1 (ss.take x.1)::aE 117 1 x.2.2 x.1 x.2.1::pt p (.cells (strs ss).toArray 9 (0,0))::ae pa s::Fr) (fun x=>k-x.1) (0,[],.slice (some ⟨b13,0,none⟩) 0 k) ⟨by omega,rfl⟩ ⟨rfl,rfl,rfl,rfl,rfl,rfl,rfl,trivial⟩ (Ent.refl _) ?_
 rintro⟨j,vs,v8⟩ ⟨hj,hvl⟩
 dsimp only at hj hvl ⊢
 have hle:=rn ss (j+1)
 refine sr<|l_q rfl (qi rfl rfl (aU ·))<|lc<|ah<|aA rfl (fun h=>?_) fun h=>?_
 ·have hjl:j < ss.length:=by omega
  have htt:=mj (List.getElem?_eq_getElem hjl)
  refine al<|ak<|ah<|ax<|sr<|l_q rfl (ay rfl rfl pS yS9 (by omega)) ?_
  apply l_q rfl
  ·apply fa rfl yA9
   ·exact tk
   rw[Nat.zero_add,Int.toNat_natCast];simp[strs,hjl];rfl
  refine asg rfl rfl<|lz<|mv rfl rfl<|mv rfl rfl<|l_q rfl (qls rfl yU9)<|l_q rfl (ba rfl rfl) ?_
  refine asg rfl rfl<|lr<|mv rfl rfl<|mv rfl rfl ?_
  refine uW rfl rfl yU9 ck yU5 (fun b26 cap26=>?_)
  refine aW [_] rfl rfl oa dG Ei rfl rfl rfl rfl (fun b27=>?_)
  apply dV (sz:=1) rfl rfl rfl oa CN rfl rfl
  ·exact tk
  ·exact tk
  ·rfl
  ·rfl
  ·simp only[maxLen];omega
  ·omega
  intro v28
  refine asg rfl rfl<|aj<|aV<|ak<|aB<|l_q rfl (ba rfl rfl) ?_
  refine mv rfl rfl<|aj ?_
  refine lF (L':=dw (vs ++ [.slice (some ⟨b26,0,none⟩) ss[j].size cap26]) (ss.take j ++ [ss[j]])::aE 117 1 v28 (j+1) (vs ++ [.slice (some ⟨b26,0,none⟩) ss[j].size cap26])::pt p (.cells (strs ss).toArray 9 (0,0))::ae pa s::Fr) ?_ ?_
  ·refine Ent.trans (M:=iO (.slice (some ⟨b26,0,none⟩) ss[j].size cap26) ss[j]::dw vs (ss.take j)::aE 117 1 v28 (j+1) (vs ++ [.slice (some ⟨b26,0,none⟩) ss[j].size cap26])::pt p (.cells (strs ss).toArray 9 (0,0))::ae pa s::Fr) ?_ (r6 (by simp[hvl];omega))
   (exact en)
  rw[← dU hjl]
  apply aO ((j+1,vs ++ [.slice (some ⟨b26,0,none⟩) ss[j].size cap26],v28))
  ·exact⟨by dsimp only;omega,by simp[hvl]⟩
  ·dsimp only;omega
  ·exact⟨rfl,rfl,by dsimp only;rw[htt,Int.natCast_add];rfl,rfl,rfl,rfl,rfl,trivial⟩
  exact en
 refine xt rfl<|ak<|ah<|sr<|mv rfl rfl<|mv rfl rfl<|mv rfl rfl ?_
 have hjk:j=ss.length:=by omega
 subst hjk
 rw[List.take_length]
 refine lcf rfl rfl rfl (eT pa s hg.ne off (cR ss)) ?_
 rintro v' L' ⟨⟨q,rfl,hq⟩,rfl⟩
 refine bF ?_
 refine l_q rfl (cX rfl (bY ·))<|lc<|aA rfl (fun z=>?_) fun z=>?_
 ·rw[hq.2 hg] at z;cases z
 refine cw (.there (.there .here)) fun _ hsh=>?_
 obtain⟨a8,c8,rfl,ha8,hc8,hcm8⟩:=hsh
 obtain⟨g8,rfl⟩:=ha8 (by omega)
 refine dr fun x hx=>?_
 refine gF fun M hM=>?_
 simp only[List.cons_append,List.nil_append] at hM
 subst M
 obtain⟨pm,g,cap,sb,fb,vs_,vc,lm,fl⟩:=x
 obtain⟨hok,hcap,hcap2,hlm,hfl⟩:=hx
 dsimp only at hcap hcap2 hlm hfl ⊢
 have hst:=hok.stop_eq
 refine al<|nz<|mv rfl rfl<|l_q rfl (ad rfl)<|l_q rfl (qfa 2 rfl cV rfl rfl mc)<|l_q rfl (qld rfl mg) ?_
 refine mv rfl rfl<|mv rfl rfl<|lcf rfl rfl rfl (Mem.Write_ok pm g s.stop cap off g8 ss.length c8 s.m vs ss (by omega) hcap rfl (by omega) (by omega)) ?_
 rintro v' L' ⟨rfl,rfl⟩
 refine bF ?_
 refine asg rfl rfl<|lc<|rt ?_
 apply aJ (.inl rfl) ([ae pa (s.put off (cR ss) (fG ss))])
 ·apply cO rfl
  exact .tmp rfl
 ·exact⟨rfl,rfl⟩
 refine bV (x:=⟨pm,g,cap,sb,fb,vs_,vc,lm,fl⟩) ⟨ArS.put_ok hok (vi ss),hcap,hcap2,hlm,hfl⟩ ?_;dsimp only[arP];simp only[ArS.put_limit,ArS.put_live,ArS.put_stop,ArS.put_all,ArS.put_m];(exact en)
theorem x9 (pa:Nat) (s:ArS) (p off:Nat) (offI:Int) (a b c d e:ByteArray) (ho:offI=(off:Nat)) (hg:aN s offI (cR [a,b,c,d,e])):
  aG Tryz.prog 195 #[.pointer (some ⟨pa,0,none⟩),.int .i64 offI,.slice (some ⟨p,0,none⟩) 5 5] [pt p (.cells #[.string a,.string b,.string c,.string d,.string e] 9 (0,0)),ae pa s]
   (fun r L=>r=.int .i64 0∧L= [ae pa (s.put off (cR [a,b,c,d,e]) (fG [a,b,c,d,e]))]):=by subst ho;exact Write_ok pa s p 5 off [a,b,c,d,e] rfl (by decide) (by decide) hg
theorem qS (pa:Nat) (s:ArS) (p off:Nat) (offI:Int) (a:ByteArray) (ho:offI=(off:Nat)) (hg:aN s offI (cR [a])):
  aG Tryz.prog 195 #[.pointer (some ⟨pa,0,none⟩),.int .i64 offI,.slice (some ⟨p,0,none⟩) 1 1] [pt p (.cells #[.string a] 9 (0,0)),ae pa s]
   (fun r L=>r=.int .i64 0∧L= [ae pa (s.put off (cR [a]) (fG [a]))]):=by subst ho;exact Write_ok pa s p 1 off [a] rfl (by decide) (by decide) hg
theorem aN.take {s:ArS} (hs:s.ok) {c off n:Int} (h:aN s off n):aN (s.take c) off n:=by
 obtain⟨h0,p,hp,p1,p2⟩:=h
 exact⟨h0,p,(ef hs).2 (.inl hp),p1,p2⟩
theorem aN.new {s:ArS} (hs:s.ok) {c n:Int} (h0:0≤n) (h1:n≤c):aN (s.take c) ((s.at c:Nat):Int) n:=⟨h0,_,(ef hs).2 (.inr rfl),by simp,by simp;omega⟩
theorem BZ {s:ArS} (hs:s.ok) {c:Int} (hc:1≤c) {lm:List (Int×Value)} (h:ym s lm):ym (s.take c) (gG lm ((s.at c:Nat):Int) (.int .i64 c)):=by
 constructor
 ·intro p hp
  rw[rJ]
  rcases(ef hs).1 hp with q | q
  ·have:=dO hs q hc
   have:=(ArS.chain_pos hs.chain p (cr.1 q).1).2
   rw[if_neg (by omega)]
   exact h.1 p q
  rw[q,if_pos rfl]
 intro k hk
 rw[rJ,if_neg fun e=>hk c ((ef hs).2 (.inr (by rw[e])))]
 exact h.2 k fun d hd=>hk d ((ef hs).2 (.inl hd))
theorem tR {s:ArS} (hs:s.ok) {c:Int} (hc:c∈dx) (hl:s.live+c≤s.limit) (h0:s.frL c= []) {fl:FL} (h:vD s fl):vD (s.take c) fl:=fun d=>by
 rw[vQ hs hc hl d,h d]
 split
 ·next q=>rw[q,h0];rfl
 rfl
theorem rT {s:ArS} (hs:s.ok) {c o:Int} {r:List Int} (hc:c∈dx) (hl:s.live+c≤s.limit) (h0:s.frL c=o::r) {fl:FL} (h:vD s fl) (v:Value):vD (s.take c) (ij fl c (v,r)):=fun d=>by
 rw[vQ hs hc hl d,tF]
 split
 ·rw[h0];rfl
 exact h d
theorem nF {fl:FL} {k:Int} {L M:List HP} (h:Take (ek fl) L M):Ent L (eK 3 (eM fl k).1 (ints (eM fl k).2)::ek (gL fl k)::M):=fun w hw=>oT w (hw.perm h.perm)
theorem rS {fl:FL} {k:Int} {v:Value} {xs:List Int} {L M N:List HP} (h:Take (eK 3 v (ints xs)) L M) (h2:Take (ek (gL fl k)) M N):Ent L (ek (ij fl k (v,xs))::N):=fun w hw=>nG w (hw.perm (h.perm.trans (List.Perm.cons _ h2.perm)))
theorem xn {e:TypeId} {g o n cap:Nat} {x:Value} {r:List Value} {L:List HP} (hn:n=r.length+1):Ent (eK e (.slice (some ⟨g,o,none⟩) n cap) (x::r)::L) (eK e (.slice (some ⟨g,dI o 1 cap,none⟩) (n-1) (cap-1)) r::L):=fun w h=>by
 obtain⟨y,hy,hs⟩:=bZ.1 h
 cases y with
 | none=>obtain⟨q,_⟩:=hy;cases q
 | some t=>
  obtain⟨q,h1,h2,h3,h4⟩:=hy
  cases q
  refine bZ.2 ⟨some ⟨t.g,dI t.o 1 t.cap,t.cap-1,t.cur⟩,⟨by simp,?_,?_,?_,fun i u hu=>?_⟩,hs⟩
  ·simp only[List.length_cons] at h1;show r.length≤t.cap-1;omega
  ·show t.cap-1≤maxLen;omega
  ·show dI t.o 1 t.cap+(t.cap-1)≤t.cur.size
   unfold dI;split <;> omega
  dsimp only
  have:=h4 (i+1) u (by simpa using hu)
  simp only[List.length_cons] at h1
  have hi:=(List.getElem?_eq_some_iff.1 hu).1
  rw[ey (by omega)]
  rw[show t.o+1+i=t.o+(i+1) by omega];exact this
theorem tP {fl:FL} {c:Int} {g o n cap:Nat} {x:Int} {r:List Int} {L M N:List HP} (hn:n=r.length+1) (h:Take (eK 3 (.slice (some ⟨g,o,none⟩) n cap) (ints (x::r))) L M) (h2:Take (ek (gL fl c)) M N):
  Ent L (ek (ij fl c (.slice (some ⟨g,dI o 1 cap,none⟩) (n-1) (cap-1),r))::N):=fun w hw=>nG w (xn (r:=ints r) (by rw[cY];exact hn) w (hw.perm (h.perm.trans (List.Perm.cons _ h2.perm))))
theorem tY {c:Cx} {fin:Exit→Act→World→Prop} {ds:List Deferred} {E:Env} {ks:List KI} {pa:Nat} {s:ArS} {R:List HP} {ops:Array Oper} {l:List Oper} (k:∀ x,x8 s x→TL c fin ds E (arP pa s x ++ R) ops l ks):TL c fin ds E (ae pa s::R) ops l ks:=
 rL (X:={x:ArX // x8 s x}) (LL:=fun x=>arP pa s x.1 ++ R) (fun w hs=>let ⟨x,hp,h⟩:=bZ.1 hs;⟨⟨x,hp⟩,h⟩) fun x=>k x.1 x.2
theorem A8 (pm g n cap:Nat) (sI:Int) (s:Nat) (m:Nat→Int) (he:sI=(s:Nat)) (hn:n≤134217728) (hc:n≤cap) (hcm:cap≤134217728) (h1:n≤s) (h2:s≤134217728):
  aG Tryz.prog 211 #[.pointer (some ⟨pm,0,none⟩),.int .i64 sI] [pt pm (.cells #[.slice (some ⟨g,0,none⟩) n cap] 189 (0,0)),aE 5 1 (.slice (some ⟨g,0,none⟩) n cap) n (bt m n)] (fun r L=>∃ g2 cap2,r=.int .i64 0∧s≤cap2∧cap2≤134217728∧L= [pt pm (.cells #[.slice (some ⟨g2,0,none⟩) s cap2] 189 (0,0)),aE 5 1 (.slice (some ⟨g2,0,none⟩) s cap2) s (bt (fi m n) s)]):=by subst he;exact Mem.Grow_ok pm g n cap s m hn hc hcm h1 h2
theorem Bb (pm g n cap:Nat) (oI kI:Int) (o k:Nat) (m:Nat→Int) (b:Int) (ho:oI=(o:Nat)) (hk:kI=(k:Nat)) (hb:0≤b∧b < 256) (hn:n≤134217728) (hc:n≤cap) (hle:o+k≤n):
  aG Tryz.prog 210 #[.pointer (some ⟨pm,0,none⟩),.int .i64 oI,.int .i64 kI,.int .u8 b] [pt pm (.cells #[.slice (some ⟨g,0,none⟩) n cap] 189 (0,0)),aE 5 1 (.slice (some ⟨g,0,none⟩) n cap) n (bt m n)] (fun r L=>r=.int .i64 0∧L= [pt pm (.cells #[.slice (some ⟨g,0,none⟩) n cap] 189 (0,0)),aE 5 1 (.slice (some ⟨g,0,none⟩) n cap) n (bt (cm m o k (fun _=>b)) n)]):=by subst ho;subst hk;exact Mem.Fill_ok pm g n cap o k m b hb hn hc hle
theorem take_ok (pa:Nat) (s:ArS) (c:Int) (hc:c∈dx) (hl:s.live+c≤s.limit):aG Tryz.prog 156 #[.pointer (some ⟨pa,0,none⟩),.int .i64 c] [ae pa s]
  (fun v L=>v=.tuple #[.int .i64 (s.at c:Nat),.int .i64 0]∧L= [ae pa (s.take c)]):=by
 have hcp:=fC c hc
 refine aq Gl Tryz.func156 rfl rfl rfl fun Fr w0=>aR ?_
 refine cI (φ:=s.ok) (fun w hw=>bQ hw .here) fun hok0=>?_
 have hst0:=hok0.stop_eq
 have hlim:=hok0.limit
 have hab:=iY hok0 hc hl
 have htok:=ArS.take_ok hok0 hc hl
 have hts:=htok.stop_eq
 have hsn:=ArS.sum_nonneg hok0.chain
 refine sr<|asg rfl rfl<|asg rfl rfl<|lz<|mv rfl rfl<|lc1 rfl rfl rfl (Bd pa s) ?_
 refine tY fun x hx=>?_
 refine zU fun M hM=>?_
 simp only[List.cons_append,List.nil_append] at hM
 subst M
 obtain⟨pm,g,cap,sb,fb,vs,vc,lm,fl⟩:=x
 obtain⟨hok,hcap,hcap2,hlm,hfl⟩:=hx
 dsimp only at hcap hcap2 hlm hfl ⊢
 have hlm':=BZ hok (by omega:1≤c) hlm
 have hfc:=hfl c
 obtain⟨v7,xs7,hlk⟩:∃ v7 xs7,eM fl c=(v7,xs7):=⟨_,_,rfl⟩
 rw[hlk] at hfc
 dsimp only at hfc
 subst hfc
 refine zS (φ:=∃ a n cap,v7=.slice a n cap∧n=(s.frL c).length∧(0 < n→∃ g o,a=some ⟨g,o,none⟩)∧n≤cap∧cap≤maxLen) (fun w hw=>by
  have h1:=oT (k:=c) w (hw.perm (Take.perm (show Take (ek fl) _ _ from tk)))
  rw[hlk] at h1
  obtain⟨a,cp,e1,e2,e3,e4⟩:=oH h1
  rw[cY] at e1 e2 e3
  exact⟨a,_,cp,e1,rfl,e2,e3,e4⟩) fun⟨a7,n7,cap7,hv7,hn7,ha7,hc7,hm7⟩=>?_
 subst hv7
 have hvl:=p9 fl c
 rw[hlk] at hvl
 dsimp only at hvl
 cases hfr:s.frL c with
 | nil=>
  rw[hfr] at hn7
  obtain rfl:n7=0:=by simpa using hn7
  obtain⟨et,ea⟩:=take_nil hok hfr
  obtain⟨cn,hcn⟩:∃ cn:Nat,c=(cn:Nat):=⟨c.toNat,by omega⟩
  have hall:(s.take c).all=s.all ++ [(((s.stop:Nat):Int),c)]:=by rw[et]
  have hsum:=ArS.sum_app s.all (((s.stop:Nat):Int),c)
  rw[hall] at hts
  have hsn2:(s.take c).stop=s.stop+cn:=by omega
  have e3:ints ((s.take c).all.map (·.1))=ints (s.all.map (·.1)) ++ [.int .i64 ((s.stop:Nat):Int)]:=by rw[hall];simp[ints]
  have e4:ints ((s.take c).all.map (·.2))=ints (s.all.map (·.2)) ++ [.int .i64 c]:=by rw[hall];simp[ints]
  have e6:(s.take c).all.length=s.all.length+1:=by rw[hall];simp
  have e7:(s.take c).m=fi s.m s.stop:=by rw[et]
  have e8:(s.take c).limit=s.limit:=by rw[et]
  have hfl':=tR hok hc hl hfr hfl
  rw[ea] at hlm' ⊢
  refine asg rfl rfl<|lc<|ah<|sr<|mv rfl rfl<|l_q rfl (ad rfl)<|l_q rfl (qfa 6 rfl cV rfl rfl mb)<|l_q rfl (qld rfl mf) ?_
  refine mv rfl rfl<|l_q rfl (QV.to (g4 fX rfl rfl Tryz.underlying114 Tryz.underlying3 yv (by exact tk)) hvl) ?_
  refine asg rfl rfl<|lz<|mv rfl rfl<|l_q rfl (ql rfl bn)<|l_q rfl (qi rfl rfl (cU ·))<|lc<|aA rfl (fun z=>?_) fun z=>?_
  ·exact absurd z (by decide)
  refine ah<|sr<|mv rfl rfl<|l_q rfl (ad rfl)<|l_q rfl (qfa 2 rfl cV rfl rfl mc)<|l_q rfl (qld rfl mg) ?_
  refine mv rfl rfl<|mv rfl rfl<|l_q rfl (ba rfl rfl) ?_
  refine lcf rfl rfl rfl (A8 pm g s.stop cap _ (s.stop+cn) s.m (by omega) (by omega) hcap hcap2 (by omega) (by omega)) ?_
  rintro v' L' ⟨g2,cap2,rfl,hc2,hc3,rfl⟩
  refine bF ?_
  refine asg rfl rfl<|lz<|mv rfl rfl<|l_q rfl (qi rfl rfl (aI ·))<|lc<|aA rfl (fun z2=>?_) fun z2=>?_
  ·exact absurd rfl z2
  refine al<|nz<|mv rfl rfl<|mv rfl rfl<|l_q rfl (ad rfl)<|l_q rfl (qfa 3 rfl cV rfl rfl od)<|l_q rfl (qld rfl ux) ?_
  refine mv rfl rfl ?_
  refine aW [_] rfl rfl bn yS3 yZ3 rfl rfl rfl rfl (fun b54=>?_)
  apply dV (sz:=1) rfl rfl rfl bn yI3 rfl rfl
  ·exact tk
  ·exact tk
  ·rfl
  ·rfl
  ·simp only[maxLen];omega
  ·omega
  intro v55
  refine l_q rfl (ad rfl)<|l_q rfl (qfa 3 rfl cV rfl rfl od) ?_
  refine db .here (fun _ hs57=>?_)
  obtain⟨a57,c57,rfl,_,_,_⟩:=hs57
  apply oJ rfl rfl rfl od rfl
  ·exact tk
  ·repeat (first | exact fM.here | apply fM.there)
  refine lr<|mv rfl rfl<|mv rfl rfl<|l_q rfl (ad rfl)<|l_q rfl (qfa 4 rfl cV rfl rfl od)<|l_q rfl (qld rfl ux) ?_
  refine mv rfl rfl ?_
  refine aW [_] rfl rfl bn yS3 yZ3 rfl rfl rfl rfl (fun b64=>?_)
  apply dV (sz:=1) rfl rfl rfl bn yI3 rfl rfl
  ·exact tk
  ·exact tk
  ·rfl
  ·rfl
  ·simp only[maxLen];omega
  ·omega
  intro v65
  refine l_q rfl (ad rfl)<|l_q rfl (qfa 4 rfl cV rfl rfl od) ?_
  refine db .here (fun _ hs67=>?_)
  obtain⟨a67,c67,rfl,_,_,_⟩:=hs67
  apply oJ rfl rfl rfl od rfl
  ·exact tk
  ·repeat (first | exact fM.here | apply fM.there)
  refine lz<|mv rfl rfl<|l_q rfl (ad rfl)<|l_q rfl (qfa 5 rfl cV rfl rfl pU)<|l_q rfl (qld rfl pW) ?_
  refine mv rfl rfl<|mv rfl rfl ?_
  apply gz fX rfl rfl rfl rfl yz yU3
  ·exact tk
  refine lz<|mv rfl rfl<|l_q rfl (ad rfl)<|l_q rfl (qfa 1 rfl cV rfl rfl yS3)<|l_q rfl (qld rfl yA3) ?_
  refine mv rfl rfl<|l_q rfl (ba rfl rfl) ?_
  refine l_q rfl (ad rfl)<|l_q rfl (qfa 1 rfl cV rfl rfl yS3)<|st rfl rfl rfl yS3 rfl ?_
  refine lz<|mv rfl rfl<|asg rfl rfl<|asg rfl rfl<|lc<|rt ?_
  apply aJ (.inl rfl) ([ae pa (s.take c)])
  ·apply bS rfl
   ·exact .tmp rfl
   exact .tmp rfl
  ·exact⟨rfl,rfl⟩
  refine bV (x:=⟨pm,g2,cap2,sb,fb,.slice a57 (s.all.length+1) c57,.slice a67 (s.all.length+1) c67,gG lm ((s.stop:Nat):Int) (.int .i64 c),fl⟩) ⟨htok,by rw[hsn2];exact hc2,hc3,hlm',hfl'⟩ ?_;dsimp only[arP];rw[ArS.take_live hok,e3,e4,e6,e7,e8,hsn2];(exact en)
 | cons o r=>
  rw[hfr] at hn7
  have hn7':n7=r.length+1:=hn7
  obtain⟨ag,ao,rfl⟩:=ha7 (by omega)
  obtain⟨et,ea,eo1,eo2,eo3⟩:=take_cons hok hfr
  have eoe:=fD hok.chain eo1
  dsimp only at eoe
  have hall:(s.take c).all=s.all:=by rw[et]
  have hstop:(s.take c).stop=s.stop:=by unfold ArS.stop;rw[hall]
  have e7:(s.take c).m=cm s.m o.toNat c.toNat fun _=>0:=by rw[et]
  have e8:(s.take c).limit=s.limit:=by rw[et]
  have hfl':=fun v=>rT hok hc hl hfr hfl v
  rw[ea] at hlm' ⊢
  rw[Int.toNat_of_nonneg (show 0≤o by omega)] at hlm' ⊢
  have hcell:ct (eK 3 (.slice (some ⟨ag,ao,none⟩) n7 cap7) (ints (o::r))) ⟨ag,ao+(0:Int).toNat,none⟩ (.int .i64 o):=nd (i:=0) rfl
  refine wk (nF (k:=c) (show Take (ek fl) _ _ from tk)) ?_
  rw[hlk,hfr]
  refine asg rfl rfl<|lc<|ah<|sr<|mv rfl rfl<|l_q rfl (ad rfl)<|l_q rfl (qfa 6 rfl cV rfl rfl mb)<|l_q rfl (qld rfl mf) ?_
  refine mv rfl rfl<|l_q rfl (QV.to (g4 fX rfl rfl Tryz.underlying114 Tryz.underlying3 yv (by exact tk)) hvl) ?_
  refine asg rfl rfl<|lz<|mv rfl rfl<|l_q rfl (ql rfl bn)<|l_q rfl (qi rfl rfl (cU ·))<|lc<|aA rfl (fun z=>?_) fun z=>?_
  ·refine sr<|mv rfl rfl ?_
   first | refine l_q rfl (aM 0 rfl rfl bn yS3 (by omega)) ?_ | refine l_q rfl (ay rfl rfl bn yS3 (by omega)) ?_
   refine l_q rfl (bI (A:=eK 3 (.slice (some ⟨ag,ao,none⟩) n7 cap7) (ints (o::r))) rfl yA3 tk hcell) ?_
   refine asg rfl rfl<|lc<|ah<|aS mixed ?_
   apply dq 0 rfl
   ·exact yq (ai rfl)
   apply dq 1 rfl
   ·exact yq (ad rfl)
   apply dq 2 rfl
   ·exact yq (qfa 6 rfl cV rfl rfl mb)
   apply dq 3 rfl
   ·exact yq (qld rfl mf)
   apply dq 4 rfl
   ·exact yq (ai rfl)
   apply dq 5 rfl
   ·exact yq (ai rfl)
   apply dq 6 rfl
   ·exact yq (fy rfl rfl bn yS3 (by omega))
   refine an [3,4,6,0,1,2,5] [] 7 [(26,_),(27,_),(29,_)] gO ⟨rfl,rfl,rfl,trivial⟩ (by kernel_rfl) (by kernel_rfl) fun Ex=>?_
   apply gz fX rfl rfl rfl rfl CM yU3
   ·exact tk
   refine aj ?_
   apply n_d
   ·exact trivial
   refine bd (by kernel_rfl) ?_
   refine ak<|aB<|mv rfl rfl<|l_q rfl (ad rfl)<|l_q rfl (qfa 2 rfl cV rfl rfl mc)<|l_q rfl (qld rfl mg) ?_
   refine mv rfl rfl<|mv rfl rfl<|lcf rfl rfl rfl (Bb pm g s.stop cap o c o.toNat c.toNat s.m 0 (by omega) (by omega) (by decide) (by omega) hcap (by omega)) ?_
   rintro v' L' ⟨rfl,rfl⟩
   refine bF ?_
   refine lz<|mv rfl rfl<|l_q rfl (ad rfl)<|l_q rfl (qfa 5 rfl cV rfl rfl pU)<|l_q rfl (qld rfl pW) ?_
   refine mv rfl rfl<|mv rfl rfl ?_
   apply gz fX rfl rfl rfl rfl yz yU3
   ·exact tk
   refine lz<|mv rfl rfl<|l_q rfl (ad rfl)<|l_q rfl (qfa 1 rfl cV rfl rfl yS3)<|l_q rfl (qld rfl yA3) ?_
   refine mv rfl rfl<|l_q rfl (ba rfl rfl) ?_
   refine l_q rfl (ad rfl)<|l_q rfl (qfa 1 rfl cV rfl rfl yS3)<|st rfl rfl rfl yS3 rfl ?_
   refine lz<|mv rfl rfl<|asg rfl rfl<|asg rfl rfl<|lc<|rt ?_
   apply aJ (.inl rfl) ([ae pa (s.take c)])
   ·apply bS rfl
    ·exact .tmp rfl
    exact .tmp rfl
   ·exact⟨rfl,rfl⟩
   refine Ent.trans (tP (fl:=fl) (c:=c) (x:=o) (r:=r) hn7' (show Take (eK 3 (.slice (some ⟨ag,ao,none⟩) n7 cap7) (ints (o::r))) _ _ from tk) (show Take (ek (gL fl c)) _ _ from tk)) ?_;refine bV (x:=⟨pm,g,cap,sb,fb,vs,vc,gG lm o (.int .i64 c),ij fl c (.slice (some ⟨ag,dI ao 1 cap7,none⟩) (n7-1) (cap7-1),r)⟩) ⟨htok,by rw[hstop];exact hcap,hcap2,hlm',hfl' _⟩ ?_;dsimp only[arP];rw[ArS.take_live hok,hall,e7,e8,hstop,pZ];(exact en)
  omega
def ArS.takes (s:ArS) (ns:List Int):ArS:=ns.foldl (fun s n=>s.take (aC n)) s
def ArS.offs (s:ArS):List Int→List Int
 | []=>[]
 | n::r=>((s.at (aC n):Nat):Int)::(s.take (aC n)).offs r
def dY (ns:List Int):Int:=(ns.map aC).sum
theorem qc (s:ArS) (ns:List Int) (n:Int):s.takes (ns ++ [n])=(s.takes ns).take (aC n):=by simp[ArS.takes]
theorem tw (s:ArS) (ns:List Int) (n:Int):s.offs (ns ++ [n])=s.offs ns ++ [(((s.takes ns).at (aC n):Nat):Int)]:=by
 induction ns generalizing s with
 | nil=>rfl
 | cons a r ih=>simp only[List.cons_append,ArS.offs,ih];rfl
theorem om (ns:List Int) (n:Int):dY (ns ++ [n])=dY ns+aC n:=by simp[dY]
theorem jA:∀ {ns:List Int},(∀ n∈ns,1≤n)→0≤dY ns∧dY ns≤1048576*(ns.length:Int)
 | [],_=>by simp[dY]
 | n::r,h=>by
  have h1:=cF (h n (by simp))
  have h2:=jA (ns:=r) fun m hm=>h m (by simp[hm])
  simp only[dY,List.map_cons,List.sum_cons,List.length_cons] at h2 ⊢
  omega
theorem oi:∀ {ns:List Int} {s:ArS},s.ok→(∀ n∈ns,1≤n∧n≤1048576)→s.live+dY ns≤s.limit→(s.takes ns).ok∧(s.takes ns).live=s.live+dY ns∧(s.takes ns).limit=s.limit
 | [],s,h,_,_=>⟨h,by simp[ArS.takes,dY],rfl⟩
 | n::r,s,h,hn,hl=>by
  have hb:=cF (hn n (by simp)).1
  have hb2:=hb.2.2 (hn n (by simp)).2
  have hs:=jA (ns:=r) fun m hm=>(hn m (by simp[hm])).1
  have e:dY (n::r)=aC n+dY r:=by simp[dY]
  rw[e] at hl ⊢
  have h1:=ArS.take_ok h (fZ (hn n (by simp)).1 (hn n (by simp)).2) (by omega)
  have h2:=oi (ns:=r) (s:=s.take (aC n)) h1 (fun m hm=>hn m (by simp[hm])) (by rw[ArS.take_live h,cW h];omega)
  obtain⟨a,b,c⟩:=h2
  refine⟨a,?_,c.trans (cW h)⟩
  show((s.take (aC n)).takes r).live=_
  rw[b,ArS.take_live h];omega
theorem jz:∀ {ns:List Int} {j:Nat} (h:j < ns.length),dY ns=dY (ns.take j)+(aC ns[j] +dY (ns.drop (j+1)))
 | n::r,0,_=>by simp[dY]
 | n::r,j+1,h=>by
  have:=jz (ns:=r) (j:=j) (by simpa using h)
  simp only[dY,List.map_cons,List.sum_cons,List.take_succ_cons,List.drop_succ_cons,List.getElem_cons_succ] at this ⊢
  omega
theorem AG {ns:List Int} {j:Nat} (hj:j < ns.length) (P:Int→Prop):(∃ n,n∈ns.take (j+1)∧P n)↔(∃ n,n∈ns.take j∧P n)∨P ns[j]:=by
 rw[dU hj];simp only[List.mem_append,List.mem_singleton,or_and_right,exists_or,exists_eq_left]
theorem nM (pa:Nat) (s:ArS) (p k:Nat) (ns:List Int) (hk:ns.length=k) (hkb:k≤1000) (hn:∀ n∈ns,1≤n):
  aG Tryz.prog 73 #[.pointer (some ⟨pa,0,none⟩),.slice (some ⟨p,0,none⟩) k k] [pt p (.cells (ints ns).toArray 3 (0,0)),ae pa s]
   (fun v L=>((∃ n∈ns,1048576 < n)∨s.limit-s.live < dY ns)∧v=.tuple #[.slice none 0 0,.int .i64 22]∧L= [ae pa s]∨
    (∀ n∈ns,n≤1048576)∧s.live+dY ns≤s.limit∧∃ vo,v=.tuple #[vo,.int .i64 0]∧L= [aE 3 1 vo k (ints (s.offs ns)),ae pa (s.takes ns)]):=by
 subst hk
 refine aq E4 Tryz.func73 rfl rfl rfl fun Fr w0=>aR ?_
 refine cI (φ:=s.ok) (fun w hw=>bQ hw (.there .here)) fun hok0=>?_
 have hst0:=hok0.stop_eq
 have hlim:=hok0.limit
 refine sr<|asg rfl rfl<|asg rfl rfl<|lz<|asg rfl rfl<|lz<|asg rfl rfl<|lc<|ah<|sr<|mv rfl rfl<|l_q rfl (ql rfl bn)<|mv rfl rfl<|lc<|ax ?_
 refine bw (fun x:Nat×Bool=>x.1≤ns.length∧(x.2=true↔∃ n∈ns.take x.1,1048576 < n)) (fun x=>[(0,.pointer (some ⟨pa,0,none⟩)),(1,.slice (some ⟨p,0,none⟩) ns.length ns.length),(6,.int .i64 (dY (ns.take x.1))),(7,.bool x.2),(15,.slice (some ⟨p,0,none⟩) ns.length ns.length),(16,.int .i64 ns.length),(17,.int .i64 x.1)]) (fun x=>pt p (.cells (ints ns).toArray 3 (0,0))::ae pa s::Fr) (fun x=>ns.length-x.1) (0,false) ⟨by omega,by simp⟩ ⟨rfl,rfl,rfl,rfl,rfl,rfl,rfl,trivial⟩ (Ent.refl _) ?_
 rintro⟨j,gr⟩ ⟨hj,hgr⟩
 dsimp only at hj hgr ⊢
 have hsum:=jA (ns:=ns.take j) fun n hm=>hn n (List.mem_of_mem_take hm)
 rw[List.length_take] at hsum
 refine sr<|l_q rfl (qi rfl rfl (aU ·))<|lc<|ah<|aA rfl (fun h=>?_) fun h=>?_
 ·have hjl:j < ns.length:=by omega
  have hnj:=hn ns[j] (List.getElem_mem hjl)
  have hcj:=cF hnj
  have hgt:∀ b:Bool,(b=true↔(gr=true∨1048576 < ns[j]))→(b=true↔∃ n∈ns.take (j+1),1048576 < n):=fun b hb=>by rw[hb,hgr,AG hjl (fun n=>1048576 < n)]
  refine al<|ak<|ah<|ax<|sr<|l_q rfl (ay rfl rfl bn yS3 (by omega)) ?_
  apply l_q rfl
  ·apply fa rfl yA3
   ·exact tk
   rw[Nat.zero_add,Int.toNat_natCast];simp[ints,hjl];rfl
  refine asg rfl rfl<|lc<|ah<|sr<|mv rfl rfl<|l_q rfl (qi rfl rfl (aU ·))<|lc<|aA rfl (fun q=>?_) fun q=>?_
  ·omega
  refine al<|nz<|mv rfl rfl<|mv rfl rfl<|bD (t:=24) rfl (fun r=>?_) fun r=>?_
  ·refine ar rfl rfl rfl rfl<|ar rfl rfl rfl rfl<|l_q rfl (aL rfl rfl)<|asg rfl rfl<|lr<|mv rfl rfl<|mv rfl rfl<|lc1 rfl rfl rfl (Class_ok ns[j]) ?_
   refine l_q rfl (ba rfl rfl) ?_
   refine asg rfl rfl<|aj<|aV<|ak<|aB<|l_q rfl (ba rfl rfl) ?_
   refine mv rfl rfl<|aj ?_
   apply aO ((j+1,true))
   ·exact⟨by dsimp only;omega,hgt true (by simp[r])⟩
   ·dsimp only;omega
   ·exact⟨rfl,rfl,by dsimp only;rw[dU hjl,om];rfl,rfl,rfl,rfl,rfl,trivial⟩
   exact en
  refine au rfl rfl<|mv rfl rfl<|au rfl rfl<|l_q rfl (qi rfl rfl (cU ·))<|l_q rfl (aL rfl rfl)<|asg rfl rfl<|lr<|mv rfl rfl<|mv rfl rfl<|lc1 rfl rfl rfl (Class_ok ns[j]) ?_
  refine l_q rfl (ba rfl rfl) ?_
  refine asg rfl rfl<|aj<|aV<|ak<|aB<|l_q rfl (ba rfl rfl) ?_
  refine mv rfl rfl<|aj ?_
  apply aO ((j+1,decide (1048576 < ns[j])))
  ·exact⟨by dsimp only;omega,hgt _ (by simp[r])⟩
  ·dsimp only;omega
  ·exact⟨rfl,rfl,by dsimp only;rw[dU hjl,om];rfl,rfl,rfl,rfl,rfl,trivial⟩
  exact en
 obtain rfl:j=ns.length:=by omega
 rw[List.take_length] at hgr hsum ⊢
 refine fw (L':=ae pa s::pt p (.cells (ints ns).toArray 3 (0,0))::Fr) (by(exact en)) ?_
 refine dr fun x hx=>?_
 refine gF fun M hM=>?_
 simp only[List.cons_append,List.nil_append] at hM
 subst M
 obtain⟨pm,g,cap,sb,fb,vs,vc,lm,fl⟩:=x
 obtain⟨hok,hcap,hcap2,hlm,hfl⟩:=hx
 dsimp only at hcap hcap2 hlm hfl ⊢
 have hst:=hok.stop_eq
 refine xt rfl<|ak<|ah<|ah<|aS mixed ?_
 apply dq 0 rfl
 ·exact yq (ai rfl)
 apply dq 1 rfl
 ·exact yq (ai rfl)
 have hfail:gr=true∨s.limit-s.live < dY ns→((∃ n,n∈ns∧1048576 < n)∨s.limit-s.live < dY ns):=fun hq=>hq.imp (fun e=>hgr.1 e) id
 refine jW (t:=34) rfl (fun gg=>?_) fun gg=>?_
 ·apply dq 2 rfl
  ·exact dH rfl rfl rfl (by intro k;simp)
  apply dq 3 rfl
  ·exact dH rfl rfl rfl (by intro k;simp)
  apply dq 4 rfl
  ·exact dH rfl rfl rfl (by intro k;simp)
  apply dq 5 rfl
  ·exact dH rfl rfl rfl (by intro k;simp)
  apply dq 6 rfl
  ·exact dH rfl rfl rfl (by intro k;simp)
  apply dq 7 rfl
  ·exact dH rfl rfl rfl (by intro k;simp)
  apply dq 8 rfl
  ·exact dH rfl rfl rfl (by intro k;simp)
  apply dq 9 rfl
  ·exact dH rfl rfl rfl (by intro k;simp)
  apply dq 10 rfl
  ·exact dH rfl rfl rfl (by intro k;simp)
  apply dq 11 rfl
  ·exact dH rfl rfl rfl (by intro k;simp)
  apply dq 12 rfl
  ·exact dH rfl rfl rfl (by intro k;simp)
  apply dq 13 rfl
  ·exact yq (aL rfl rfl)
  refine bd (by kernel_rfl) ?_
  refine ak<|aY rfl<|sr<|asg rfl rfl<|asg rfl rfl<|lc<|rt ?_
  apply aJ (.inl rfl) ([ae pa s])
  ·apply bS rfl
   ·exact .tmp rfl
   exact .tmp rfl
  ·exact .inl ⟨hfail (.inl gg),rfl,rfl⟩
  refine bV (x:=⟨pm,g,cap,sb,fb,vs,vc,lm,fl⟩) ⟨hok,hcap,hcap2,hlm,hfl⟩ ?_;dsimp only[arP];(exact en)
 apply dq 2 rfl
 ·exact bE rfl rfl (ai rfl)
 apply dq 3 rfl
 ·exact bE rfl rfl (ai rfl)
 apply dq 4 rfl
 ·exact bE rfl rfl (ad rfl)
 apply dq 5 rfl
 ·exact bE rfl rfl (qfa 0 rfl cV rfl rfl yS3)
 apply dq 6 rfl
 ·exact bE rfl rfl (qld rfl yA3)
 apply dq 7 rfl
 ·exact bE rfl rfl (ai rfl)
 apply dq 8 rfl
 ·exact bE rfl rfl (ad rfl)
 apply dq 9 rfl
 ·exact bE rfl rfl (qfa 1 rfl cV rfl rfl yS3)
 apply dq 10 rfl
 ·exact bE rfl rfl (qld rfl yA3)
 apply dq 11 rfl
 ·exact bE rfl rfl (e9 rfl rfl)
 apply dq 12 rfl
 ·exact bE rfl rfl (qi rfl rfl (cU ·))
 apply dq 13 rfl
 ·exact yq (aL rfl rfl)
 refine bd (by kernel_rfl) ?_
 refine ak<|aA rfl (fun z=>?_) fun z=>?_
 ·refine sr<|asg rfl rfl<|asg rfl rfl<|lc<|rt ?_
  apply aJ (.inl rfl) ([ae pa s])
  ·apply bS rfl
   ·exact .tmp rfl
   exact .tmp rfl
  ·exact .inl ⟨.inr z,rfl,rfl⟩
  refine bV (x:=⟨pm,g,cap,sb,fb,vs,vc,lm,fl⟩) ⟨hok,hcap,hcap2,hlm,hfl⟩ ?_;dsimp only[arP];(exact en)
 have hsmall:∀ n∈ns,n≤1048576:=fun n hm=>by rcases Int.lt_or_le 1048576 n with q | q;(have:=hgr.2 ⟨n,hm,q⟩;rw[this] at gg;cases gg);exact q
 have hfit:s.live+dY ns≤s.limit:=by omega
 refine jy (X:=Unit) (LL:=fun _=>ae pa s::pt p (.cells (ints ns).toArray 3 (0,0))::Fr) (fun w hs=>⟨(),bV (x:=⟨pm,g,cap,sb,fb,vs,vc,lm,fl⟩) ⟨hok,hcap,hcap2,hlm,hfl⟩ (by dsimp only[arP];(exact en)) w hs⟩) fun _=>?_
 refine al<|nz<|mv rfl rfl<|l_q rfl (ql rfl bn) ?_
 apply da rfl rfl rfl bn yI3 rfl (by omega) (by omega)
 intro b49
 refine asg rfl rfl<|lc<|ah<|sr<|mv rfl rfl<|l_q rfl (ql rfl bn)<|mv rfl rfl<|lc<|ax ?_
 refine bw (fun x:Nat×Value=>x.1≤ns.length) (fun x=>[(0,.pointer (some ⟨pa,0,none⟩)),(10,x.2),(50,.slice (some ⟨p,0,none⟩) ns.length ns.length),(51,.int .i64 ns.length),(52,.int .i64 x.1)]) (fun x=>aE 3 1 x.2 x.1 (ints (s.offs (ns.take x.1)))::ae pa (s.takes (ns.take x.1))::pt p (.cells (ints ns).toArray 3 (0,0))::Fr) (fun x=>ns.length-x.1) (0,_) (by omega) ⟨rfl,rfl,rfl,rfl,rfl,trivial⟩ (by first | exact Ent.refl _ | (exact en)) ?_
 rintro⟨j,v10⟩ hj
 dsimp only at hj ⊢
 refine sr<|l_q rfl (qi rfl rfl (aU ·))<|lc<|ah<|aA rfl (fun h3=>?_) fun h3=>?_
 ·have hjl:j < ns.length:=by omega
  refine al<|ak<|ah<|ax<|sr<|l_q rfl (ay rfl rfl bn yS3 (by omega)) ?_
  apply l_q rfl
  ·apply fa rfl yA3
   ·exact tk
   rw[Nat.zero_add,Int.toNat_natCast];simp[ints,hjl];rfl
  refine asg rfl rfl<|lz<|mv rfl rfl<|mv rfl rfl ?_
  have hnj:=hn ns[j] (List.getElem_mem hjl)
  have hcj:=(cF hnj).2.2 (hsmall _ (List.getElem_mem hjl))
  have hsp:=jz hjl
  have et:(s.takes (ns.take j)).take (aC ns[j])=s.takes (ns.take (j+1)):=by rw[dU hjl,qc]
  have eo:ints (s.offs (ns.take j)) ++ [.int .i64 (((s.takes (ns.take j)).at (aC ns[j]):Nat):Int)]=ints (s.offs (ns.take (j+1))):=by rw[dU hjl,tw];simp[ints]
  have hs2:=(jA (ns:=ns.drop (j+1)) fun n hm=>hn n (List.mem_of_mem_drop hm)).1
  have htk:=oi (ns:=ns.take j) hok (fun n hm=>⟨hn n (List.mem_of_mem_take hm),hsmall n (List.mem_of_mem_take hm)⟩) (by omega)
  refine lc1 rfl rfl rfl (Class_ok ns[j]) ?_
  refine lc1 rfl rfl rfl (take_ok pa (s.takes (ns.take j)) (aC ns[j]) (fZ hnj (hsmall _ (List.getElem_mem hjl))) (by rw[htk.2.1,htk.2.2];omega)) ?_
  refine mv rfl rfl<|l_q rfl (aa rfl ga) ?_
  refine l_q rfl (aa rfl ga) ?_
  refine asg rfl rfl<|asg rfl rfl<|lc<|ah<|sr<|mv rfl rfl<|l_q rfl (qi rfl rfl (aI ·))<|lc<|aA rfl (fun z3=>?_) fun z3=>?_
  ·exact absurd rfl z3
  refine al<|ak<|aB<|mv rfl rfl<|mv rfl rfl ?_
  refine aW [_] rfl rfl bn yS3 yZ3 rfl rfl rfl rfl (fun b68=>?_)
  apply dV (sz:=1) rfl rfl rfl bn yI3 rfl rfl
  ·exact tk
  ·exact tk
  ·rfl
  ·rfl
  ·simp only[maxLen];omega
  ·omega
  intro v69
  refine asg rfl rfl<|aj<|aV<|ak<|aB<|l_q rfl (ba rfl rfl) ?_
  refine mv rfl rfl<|aj ?_
  rw[et,eo]
  apply aO ((j+1,v69))
  ·exact(show j+1≤ns.length by omega)
  ·dsimp only;omega
  ·exact⟨rfl,rfl,rfl,rfl,rfl,trivial⟩
  exact en
 refine xt rfl<|nz<|mv rfl rfl<|asg rfl rfl<|asg rfl rfl<|lc<|rt ?_
 obtain rfl:j=ns.length:=by omega
 rw[List.take_length]
 exact fr2 rfl ([aE 3 1 v10 ns.length (ints (s.offs ns)),ae pa (s.takes ns)]) (.tmp rfl) (.tmp rfl) (.inr ⟨hsmall,hfit,_,rfl,rfl⟩)
theorem sx (pa:Nat) (s:ArS) (p:Nat) (n:Int) (hn:1≤n):
  aG Tryz.prog 73 #[.pointer (some ⟨pa,0,none⟩),.slice (some ⟨p,0,none⟩) 1 1] [pt p (.cells #[.int .i64 n] 3 (0,0)),ae pa s]
   (fun v L=>((1048576 < n∨s.limit-s.live < aC n)∧v=.tuple #[.slice none 0 0,.int .i64 22]∧L= [ae pa s])∨
    (n≤1048576∧s.live+aC n≤s.limit∧∃ vo,v=.tuple #[vo,.int .i64 0]∧L= [aE 3 1 vo 1 [.int .i64 ((s.at (aC n):Nat):Int)],ae pa (s.take (aC n))])):=
 (nM pa s p 1 [n] rfl (by decide) (by simpa using hn)).mono fun v L h=>by
  rcases h with⟨h1,h2,h3⟩ | ⟨h1,h2,h3⟩
  ·exact .inl ⟨by simpa [dY] using h1,h2,h3⟩
  exact .inr ⟨by simpa using h1,by simpa [dY] using h2,h3⟩
theorem sw (pa:Nat) (s:ArS) (p:Nat) (a b:Int) (ha:1≤a) (hb:1≤b):
  aG Tryz.prog 73 #[.pointer (some ⟨pa,0,none⟩),.slice (some ⟨p,0,none⟩) 2 2] [pt p (.cells #[.int .i64 a,.int .i64 b] 3 (0,0)),ae pa s]
   (fun v L=>((1048576 < a∨1048576 < b∨s.limit-s.live < aC a+aC b)∧v=.tuple #[.slice none 0 0,.int .i64 22]∧L= [ae pa s])∨
    (a≤1048576∧b≤1048576∧s.live+(aC a+aC b)≤s.limit∧∃ vo,v=.tuple #[vo,.int .i64 0]∧L= [aE 3 1 vo 2 [.int .i64 ((s.at (aC a):Nat):Int),.int .i64 (((s.take (aC a)).at (aC b):Nat):Int)],ae pa ((s.take (aC a)).take (aC b))])):=
 (nM pa s p 2 [a,b] rfl (by decide) (by intro n hn;simp at hn;omega)).mono fun v L h=>by
  rcases h with⟨h1,h2,h3⟩ | ⟨h1,h2,h3⟩
  ·exact .inl ⟨by simpa [dY,or_assoc] using h1,h2,h3⟩
  exact .inr ⟨h1 a (by simp),h1 b (by simp),by simpa [dY] using h2,h3⟩
theorem uu (pa:Nat) (s:ArS) (n:Int) (hn:1≤n):
  aG Tryz.prog 30 #[.pointer (some ⟨pa,0,none⟩),.int .i64 n] [ae pa s]
   (fun v L=>(1048576 < n∨s.limit-s.live < aC n)∧v=.tuple #[.int .i64 0,.int .i64 22]∧L= [ae pa s]∨
    n≤1048576∧s.live+aC n≤s.limit∧v=.tuple #[.int .i64 (s.at (aC n):Nat),.int .i64 0]∧L= [ae pa (s.take (aC n))]):=by
 refine aq E6 Tryz.func30 rfl rfl rfl fun Fr w0=>aR ?_
 refine sr<|asg rfl rfl<|asg rfl rfl<|lz<|mv rfl rfl<|mv rfl rfl ?_
 refine aW [_] rfl rfl bn yS3 yZ3 rfl rfl rfl rfl (fun b11=>?_)
 refine lcf rfl rfl rfl (sx pa s b11 n hn) ?_
 rintro v L' (⟨hb,rfl,rfl⟩ | ⟨hs,hl,vo,rfl,rfl⟩)
 refine bF ?_
 ·skip
  refine mv rfl rfl<|l_q rfl (aa rfl ga) ?_
  refine l_q rfl (aa rfl ga) ?_
  refine asg rfl rfl<|asg rfl rfl<|lc<|ah<|sr<|mv rfl rfl<|l_q rfl (qi rfl rfl (aI ·))<|lc<|aA rfl (fun z=>?_) fun z=>?_
  ·exact sr<|mv rfl rfl<|asg rfl rfl<|asg rfl rfl<|lc<|rt<|fr2 rfl ([ae pa s]) (.tmp rfl) (.tmp rfl) (.inl ⟨hb,rfl,rfl⟩)
  exact absurd z (by decide)
 refine bF ?_
 refine db (.here) fun _ hsh=>?_
 obtain⟨a8,c8,rfl,ha8,_,_⟩:=hsh
 obtain⟨g8,rfl⟩:=ha8 (by decide)
 refine mv rfl rfl<|l_q rfl (aa rfl ga) ?_
 refine l_q rfl (aa rfl ga) ?_
 refine asg rfl rfl<|asg rfl rfl<|lc<|ah<|sr<|mv rfl rfl<|l_q rfl (qi rfl rfl (aI ·))<|lc<|aA rfl (fun z=>?_) fun z=>?_
 ·exact absurd rfl z
 refine al<|nz<|mv rfl rfl ?_
 first | refine l_q rfl (aM 0 rfl rfl bn yS3 (by omega)) ?_ | refine l_q rfl (ay rfl rfl bn yS3 (by omega)) ?_
 apply l_q rfl
 ·apply bf rfl yA3
  ·exact tk
  exact rfl
 exact asg rfl rfl<|asg rfl rfl<|lc<|rt<|fr2 rfl ([ae pa (s.take (aC n))]) (.tmp rfl) (.tmp rfl) (.inr ⟨hs,hl,rfl,rfl⟩)
theorem Sat.nilH {L:List HP} {w:World} (h:Sat (stars L) w):Sat (stars (ek []::L)) w:=cl.2 h
def ArS.new (limit:Int):ArS:=⟨limit,fun _=>0,[],fun _=>false⟩
theorem ArS.new_ok {limit:Int} (h:0≤limit∧limit≤2097152):(ArS.new limit).ok:=⟨h,by simp[ArS.new,ArS.live,ArS.bl,ArS.sum];omega,trivial,fun _=>by simp[ArS.new],fun c=>by show(0:Int)≤limit;omega,fun p hp=>(by cases hp),fun o ho=>(by cases ho)⟩
theorem New_ok (limit:Int) (h:0≤limit∧limit≤2097152):aG Tryz.prog 26 #[.int .i64 limit] [] (fun v L=>∃ pa,v=.tuple #[.pointer (some ⟨pa,0,none⟩),.int .i64 0]∧L= [ae pa (ArS.new limit)]):=by
 refine aq E7 Tryz.func26 rfl rfl rfl fun Fr w0=>aR ?_
 refine sr<|asg rfl rfl<|asg rfl rfl<|lc<|ah<|sr<|mv rfl rfl<|l_q rfl (qi rfl rfl (aU ·))<|mv rfl rfl<|bD (t:=8) rfl (fun h1=>?_) fun h1=>?_
 ·omega
 refine au rfl rfl<|mv rfl rfl<|au rfl rfl<|l_q rfl (qi rfl rfl (cU ·))<|l_q rfl (aL rfl rfl)<|lc<|aA rfl (fun h2=>?_) fun h2=>?_
 ·omega
 refine al<|nz<|lcf rfl rfl rfl (Mem.New_ok 16 (by decide)) ?_
 rintro v L' ⟨pm,g,rfl,rfl⟩
 refine bF ?_
 refine mv rfl rfl<|l_q rfl (aa rfl ga) ?_
 refine l_q rfl (aa rfl ga) ?_
 refine asg rfl rfl<|asg rfl rfl<|lc<|ah<|sr<|mv rfl rfl<|l_q rfl (qi rfl rfl (aI ·))<|lc<|aA rfl (fun z=>?_) fun z=>?_
 ·exact absurd rfl z
 refine al<|nz<|mv rfl rfl<|mv rfl rfl ?_
 refine qt (fun k:Int=>Value.int .i64 k) rfl (fun b21=>?_)
 refine qt (fun k:Int=>Value.int .i64 k) rfl (fun b22=>?_)
 apply l_q rfl
 ·apply aQ rfl Ez Ej
  apply aF.one
  ·repeat (first | exact aH.here | apply aH.there)
  ·rfl
  ·exact sa
  apply aF.one
  ·repeat (first | exact aH.here | apply aH.there)
  ·rfl
  ·exact sa
  apply aF.one
  ·repeat (first | exact aH.here | apply aH.there)
  ·rfl
  ·exact sa
  apply aF.one
  ·repeat (first | exact aH.here | apply aH.there)
  ·rfl
  ·exact sa
  exact aF.nil
 refine aP rfl rfl fun b24=>asg rfl rfl<|asg rfl rfl<|lc<|rt ?_
 apply aJ (.inl rfl) ([ae b24 (ArS.new limit)])
 ·apply bS rfl
  ·exact .tmp rfl
  exact .tmp rfl
 ·exact⟨_,rfl,rfl⟩
 refine bV (x:=⟨pm,g,16,b21,b22,.slice none 0 0,.slice none 0 0,[],[]⟩) ⟨ArS.new_ok h,by simp[ArS.new,ArS.stop,ArS.sum],by simp,⟨fun p hp=>(by rw[cr] at hp;cases hp.1),fun k _=>rfl⟩,fun c=>rfl⟩ ?_;exact fun w hw=>eh (eh (Sat.nilH hw)) |> fun h2=>Sel.ent (by dsimp only[arP];repeat (first | apply Sel.cons | with_reducible exact Sel.nil | apply Sel.rest | exact Take.here | apply Take.there | exact Drop.refl | apply Drop.skip)) w h2
end Arena
end Go.Proofs.YthkajgkagnenbaaGreatDoor
