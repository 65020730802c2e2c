import Derived.Test.YthkajgkagnenbaaGreatDoorRef04
set_option linter.unusedVariables false
set_option linter.unusedSimpArgs false
set_option linter.unusedSectionVars false
set_option maxRecDepth 100000
namespace Go.Proofs.YthkajgkagnenbaaGreatDoor
section
namespace Oracle
open Go.RowKit Go.Proofs Eng Ty
def gK (o:ByteArray×Int):List Value:=[.string o.1,.int .u64 o.2]
theorem Ez (o:ByteArray×Int):(gK o).length=2:=rfl
def jR (A:HP) (v:Value) (os:List (ByteArray×Int)):Prop:=∃ a cap,v=.slice a os.length cap/\(0 < os.length->∃ b o,a=some ⟨b,o,none⟩/\∀(i:Nat) t,os[i]?=some t->∀(j:Nat) x,(gK t)[j]?=some x->dt A ⟨b,o+i*2+j,none⟩ x)
theorem l3 {A:HP} {os:List (ByteArray×Int)} {b o i:Nat} {t:ByteArray×Int} (h:∀(i:Nat) t,os[i]?=some t->∀(j:Nat) x,(gK t)[j]?=some x->dt A ⟨b,o+i*2+j,none⟩ x) (ht:os[i]?=some t):
  dt A ⟨b,o+(i:Int).toNat*2+0,none⟩ (.string t.1)/\∀ j x,[Value.string t.1,.int .u64 t.2][j]?=some x->dt A ((⟨b,o+(i:Int).toNat*2,none⟩:Addr).add j) x:=by
 rw[Int.toNat_natCast]
 exact⟨h i t ht 0 _ rfl,fun j x hx=>by rw[dr];exact h i t ht j x hx⟩
def okO (os:List (ByteArray×Int)) (i:Nat):Prop:=∀ o,os[i]?=some o->1<=o.1.size/\o.1.size<=128/\∀ j p,j < i->os[j]?=some p->p.1≠o.1
def ix (os:List (ByteArray×Int)):Prop:=os.length<=64/\∀ i,okO os i
def vG (os:List (ByteArray×Int)) (e:Int):Prop:=(64 < os.length/\e=40)\/(os.length<=64/\∃ i t,os[i]?=some t/\(∀ j,j < i->okO os j)/\
 (((t.1.size < 1\/128 < t.1.size)/\e=41)\/(1<=t.1.size/\t.1.size<=128/\(∃ j p,j < i/\os[j]?=some p/\p.1=t.1)/\e=42)))
theorem vG.pos {os:List (ByteArray×Int)} {e:Int} (h:vG os e):e≠0:=by
 rcases h with⟨_,rfl⟩ | ⟨_,i,t,_,_,⟨_,rfl⟩ | ⟨_,_,_,rfl⟩⟩ <;> decide
theorem vG.first {os:List (ByteArray×Int)} {i:Nat} {t:ByteArray×Int} (ht:os[i]?=some t) (hb:(t.1.size < 1\/128 < t.1.size)\/∃ j p,j < i/\os[j]?=some p/\p.1=t.1):¬ okO os i:=fun h=>by
 obtain⟨h1,h2,h3⟩:=h t ht
 rcases hb with q | ⟨j,p,hj,hp,he⟩
 ·omega
 exact h3 j p hj hp he
theorem vG.bad {os:List (ByteArray×Int)} {e:Int} (h:vG os e) (hg:ix os):False:=by
 rcases h with⟨h1,_⟩ | ⟨_,i,t,ht,_,h⟩
 ·have:=hg.1;omega
 refine vG.first ht ?_ (hg.2 i)
 rcases h with⟨h,_⟩ | ⟨_,_,h,_⟩
 ·exact .inl h
 exact .inr h
theorem m8 (A:HP) (v:Value) (os:List (ByteArray×Int)) (hO:jR A v os):
  aK Tryz.prog 40 #[v] [A] (fun r L=>(∃ e,vG os e/\r=.tuple #[.pointer none,.int .i64 e]/\L= [A])\/
   (ix os/\∃ b lv,r=.tuple #[.pointer (some ⟨b,0,none⟩),.int .i64 0]/\L= [A,pt b (.cells #[lv] 195 (0,0)),aF 134 2 lv os.length (rowOf gK os)])):=by
 obtain⟨a,cap,rfl,hO1⟩:=hO
 refine au Kg Tryz.func40 rfl rfl rfl fun Fr w0=>aZ ?_
 refine sr<|ar O O<|ar O O<|lc<|al<|sr<|mv O O<|ad O (ql O jU)<|ad O (qi O O (di ·))<|lc<|aG O (fun h1=>?_) fun h1=>?_
 ·refine sr<|ar O O<|ar O O<|lc<|rt<|ft O ([A]) (.tmp rfl) (.tmp rfl) ?_
  exact .inl ⟨40,.inl ⟨by omega,rfl⟩,rfl,rfl⟩
 refine aq<|nz ?_
 apply ad O
 ·apply bp O GB Gp
  exact aP.nil
 refine bw O O fun b11=>ar O O<|lc<|al<|sr<|ar O O<|lc<|aB ?_
 refine il (show dS _ (pt b11 (.cells #[.slice none 0 0] 195 (0,0))::aF 134 2 (.slice none 0 0) 0 (rowOf gK (os.take 0))::A::Fr) from fun w h=>(gJ h).perm (by simpa using .swap _ _ _)) ?_
 refine bK (fun x:Nat×Value=>x.1<=os.length/\∀ i,i < x.1->okO os i) (fun x=>[(0,.slice a os.length cap),(4,.pointer (some ⟨b11,0,none⟩)),(5,.int .i64 (x.1:Nat))]) (fun x=>pt b11 (.cells #[x.2] 195 (0,0))::aF 134 2 x.2 x.1 (rowOf gK (os.take x.1))::A::Fr) (fun x=>os.length-x.1) (0,.slice none 0 0) ⟨Nat.zero_le _,by omega⟩ ⟨rfl,rfl,rfl,trivial⟩ (by(exact en)) ?_
 rintro⟨i,lv⟩ ⟨hi,hok⟩
 dsimp only at hi hok ⊢
 refine al<|sr<|mv O O<|mv O O<|ad O (ql O jU)<|ad O (qi O O (bj ·))<|lc<|aG O (fun h2=>?_) fun h2=>?_
 ·skip
  obtain⟨b,o,rfl,hO2⟩:=hO1 (by omega)
  obtain⟨t,ht⟩:∃ t,os[i]?=some t:=⟨os[i],List.getElem?_eq_getElem (by omega)⟩
  have hc:=l3 hO2 ht
  have hrow:rowOf gK (os.take i) ++ ([Value.agg #[.string t.1,.int .u64 t.2]].flatMap fun x=>x.cells.toList).toArray.toList=rowOf gK (os.take (i+1)):=by rw[List.take_add_one,ht,eO];simp[rowOf,gK];rfl
  refine aq<|an<|al<|aB<|al<|sr<|mv O O<|mv O O<|ad O (aL O O jU iJ (by omega)) ?_
  refine ad O (aE 0 O iI O O fA)<|ad O (cf (A:=A) rfl fS tk hc.1) ?_
  refine ad O (m9 O lg)<|ad O (qi O O (bj ·))<|mv O O<|bQ (t:=25) rfl (fun h3=>?_) fun h3=>?_
  ·refine ax O O O O<|ax O O O O<|ax O O O O<|ax O O O O<|ax O O O O<|ax O O O O<|ax O O O O<|ad O (aS O O)<|lc<|bk O<|sr<|ar O O<|ar O O<|lc<|rt<|ft O ([A]) (.tmp rfl) (.tmp rfl) ?_
   exact .inl ⟨41,.inr ⟨by omega,i,t,ht,hok,.inl ⟨by omega,rfl⟩⟩,rfl,rfl⟩
  refine aA O O<|mv O O<|aA O O<|mv O O<|aA O O<|ad O (aL O O jU iJ (by omega)) ?_
  refine aA O O<|ad O (aE 0 O iI O O fA)<|aA O O<|ad O (cf (A:=A) rfl fS tk hc.1) ?_
  refine aA O O<|ad O (m9 O lg)<|aA O O<|ad O (qi O O (di ·))<|ad O (aS O O)<|lc<|aG O (fun h4=>?_) fun h4=>?_
  ·refine sr<|ar O O<|ar O O<|lc<|rt<|ft O ([A]) (.tmp rfl) (.tmp rfl) ?_
   exact .inl ⟨41,.inr ⟨by omega,i,t,ht,hok,.inl ⟨by omega,rfl⟩⟩,rfl,rfl⟩
  refine aq<|an<|al<|sr<|ar O O<|lc<|aB ?_
  refine bK (fun j:Nat=>j<=i/\∀ k p,k < j->os[k]?=some p->p.1≠t.1) (fun j=>[(0,.slice (some ⟨b,o,none⟩) os.length cap),(4,.pointer (some ⟨b11,0,none⟩)),(5,.int .i64 (i:Nat)),(6,.int .i64 (j:Nat))]) (fun _=>pt b11 (.cells #[lv] 195 (0,0))::aF 134 2 lv i (rowOf gK (os.take i))::A::Fr) (fun j=>i-j) 0 ⟨Nat.zero_le _,fun k p hk=>by omega⟩ ⟨rfl,rfl,rfl,rfl,trivial⟩ (by(exact en)) ?_
  rintro j ⟨hj,hno⟩
  refine al<|sr<|mv O O<|mv O O<|ad O (qi O O (bj ·))<|lc<|aG O (fun h5=>?_) fun h5=>?_
  ·skip
   obtain⟨u,hu⟩:∃ u,os[j]?=some u:=⟨os[j],List.getElem?_eq_getElem (by omega)⟩
   have hcj:=l3 hO2 hu
   refine aq<|an<|al<|aB<|al<|aY mixed ?_
   apply dq 0 O (yq (ah O))
   apply dq 1 O (yq (ah O))
   apply dq 2 O (yq (aL O O jU iJ (by omega)))
   apply dq 3 O (yq (aE 0 O iI O O fA))
   apply dq 4 O (yq (cf (A:=A) rfl fS tk hcj.1))
   apply dq 5 O (yq (ah O))
   apply dq 6 O (yq (ah O))
   apply dq 7 O (yq (aL O O jU iJ (by omega)))
   apply dq 8 O (yq (aE 0 O iI O O fA))
   apply dq 9 O (yq (cf (A:=A) rfl fS tk hc.1))
   apply dq 10 O (yq (qs O O (lO ·)))
   refine aV (by kernel_rfl) ?_
   refine an<|aG O (fun h6=>?_) fun h6=>?_
   ·refine sr<|ar O O<|ar O O<|lc<|rt<|ft O ([A]) (.tmp rfl) (.tmp rfl) ?_
    exact .inl ⟨42,.inr ⟨by omega,i,t,ht,hok,.inr ⟨by omega,by omega,⟨j,u,by omega,hu,h6⟩,rfl⟩⟩,rfl,rfl⟩
   refine aq<|bz<|an<|aD<|mv O O<|ad O (bn O O) ?_
   refine ar O O<|ai ?_
   apply aU ((j+1))
   ·exact⟨by omega,fun k p hk hp=>by rcases Nat.lt_succ_iff_lt_or_eq.1 hk with q | rfl;exact hno k p q hp;rw[hu] at hp;cases hp;exact h6⟩
   ·omega
   ·exact⟨O,O,O,O,trivial⟩
   exact en
  obtain rfl:j=i:=by omega
  refine xt O<|an<|aY mixed ?_
  apply dq 0 O (yq (ah O))
  apply dq 1 O (yq (ah O))
  apply dq 2 O (yq (ae O))
  apply dq 3 O (yq (aE 0 O rh O O qR))
  apply dq 4 O (yq (aI O tK))
  apply dq 5 O (yq (ah O))
  apply dq 6 O (yq (ah O))
  apply dq 7 O (yq (aL O O jU iJ (by omega)))
  apply dq 8 O (yq (cg (A:=A) (us:=[.string t.1,.int .u64 t.2]) rfl Ao iJ rfl tk hc.2))
  refine ak [8,7,5,6] [4,3,2,1,0] 9 [(58,_)] gO ⟨rfl,trivial⟩ (by kernel_rfl) (by kernel_rfl) fun Ex=>?_
  refine fD (us:=[_]) rfl rfl jU iJ ra rfl rfl rfl rfl rfl (fun b59=>?_)
  refine ai ?_
  refine aQ ⟨ya O O (yq (aI O tK)),ya O O (yq (aE 0 O rh O O qR)),ya O O (yq (ae O)),ya O O (yq (ah O)),ya O O (yq (ah O)),trivial⟩ ?_
  refine ak [4,3,2,1] [0] 10 [(54,_),(59,_)] gO ⟨rfl,rfl,trivial⟩ (by kernel_rfl) (by kernel_rfl) fun Ex=>?_
  apply e9 (sz:=2) rfl rfl rfl jU GH rfl rfl
  ·exact tk
  ·exact tk
  ·rfl
  ·rfl
  ·simp only[maxLen];omega
  ·omega
  intro v60
  refine gM (v:=v60) tk fun _ hs60=>?_
  obtain⟨a60,cap60,rfl,hs60,_,_⟩:=hs60
  refine ai ?_
  refine aQ ⟨ya O O (yq (ah O)),trivial⟩ ?_
  apply dq 11 O (yq (ae O))
  apply dq 12 O (yq (aE 0 O rh O O qR))
  refine ak [12,0,11] [] 13 [(62,_),(60,_)] gO ⟨rfl,rfl,trivial⟩ (by kernel_rfl) (by kernel_rfl) fun Ex=>?_
  refine st O O O qR O ?_
  refine ai ?_
  refine aQ trivial ?_
  refine aV (by kernel_rfl) ?_
  refine bz<|an<|aD<|mv O O<|ad O (bn O O) ?_
  refine ar O O<|ai ?_
  rw[hrow]
  apply aU ((j+1,.slice a60 (j+1) cap60))
  ·exact⟨by dsimp only;omega,fun k hk=>by rcases Nat.lt_succ_iff_lt_or_eq.1 hk with q | rfl;exact hok k q;exact fun u hu=>by rw[ht] at hu;cases hu;exact⟨by omega,by omega,hno⟩⟩
  ·dsimp only;omega
  ·exact⟨O,O,O,trivial⟩
  exact en
 obtain rfl:i=os.length:=by omega
 rw[List.take_length]
 refine xt O<|nz<|mv O O<|ar O O<|ar O O<|lc<|rt<|ft O ([A,pt b11 (.cells #[lv] 195 (0,0)),aF 134 2 lv os.length (rowOf gK os)]) (.tmp rfl) (.tmp rfl) ?_
 exact .inr ⟨⟨by omega,fun k=>by rcases Nat.lt_or_ge k os.length with q | q;exact hok k q;exact fun o ho=>by rw[List.getElem?_eq_none q] at ho;cases ho⟩,b11,lv,rfl,rfl⟩
def bu (os:List (ByteArray×Int)):List (ByteArray×Value):=os.foldl (fun m o=>iE m o.1 (.int .u64 o.2)) []
theorem l6 {os:List (ByteArray×Int)} {i:Nat} {t:ByteArray×Int} (ht:os[i]?=some t):bu (os.take (i+1))=iE (bu (os.take i)) t.1 (.int .u64 t.2):=by
 rw[List.take_add_one,ht];simp[bu]
theorem l7 {os:List (ByteArray×Int)}:∀ {i:Nat} {k:ByteArray} {v:Value},i<=os.length->jZ (bu (os.take i)) k=some v->∃ j t,j < i/\os[j]?=some t/\t.1=k/\v=.int .u64 t.2
 | 0,k,v,_,h=>by simp[bu,jZ] at h
 | i+1,k,v,hi,h=>by
  obtain⟨t,ht⟩:∃ t,os[i]?=some t:=⟨os[i],List.getElem?_eq_getElem (by omega)⟩
  rw[l6 ht,sW] at h
  split at h
  ·next q=>exact⟨i,t,by omega,ht,q,by cases h;rfl⟩
  obtain⟨j,u,h1,h2⟩:=l7 (by omega) h
  exact⟨j,u,by omega,h2⟩
theorem fE {os:List (ByteArray×Int)} (hw:∀ o∈os,0<=o.2/\o.2 < 18446744073709551616):iH (bu os):=fun k v h=>by
 rw[show bu os=bu (os.take os.length) by rw[List.take_length]] at h
 obtain⟨j,t,_,h2,_,rfl⟩:=l7 (Nat.le_refl _) h
 exact⟨_,rfl,hw t (List.mem_of_getElem? h2)⟩
theorem Dw (A:HP) (v:Value) (os:List (ByteArray×Int)) (hO:jR A v os) (hg:ix os):
  aK Tryz.prog 39 #[v] [A] (fun r L=>∃ po bm,r=.tuple #[.pointer (some ⟨po,0,none⟩),.int .i64 0]/\L= [pt po (.cells #[.map (some bm)] 192 (0,0)),bG (fun k:ByteArray=>Value.string k) bm (bu os),A]):=by
 obtain⟨a,cap,rfl,hO1⟩:=hO
 have h64:=hg.1
 refine au Hl Tryz.func39 rfl rfl rfl fun Fr w0=>aZ ?_
 refine sr<|ar O O<|ar O O<|lc<|al<|sr<|mv O O<|ad O (ql O jU)<|ad O (qi O O (di ·))<|lc<|aG O (fun h1=>?_) fun h1=>?_
 ·omega
 refine aq<|nz<|mv O O<|ad O (ql O jU) ?_
 refine qd (fun k:ByteArray=>Value.string k) rfl rfl o8 (fun b14=>?_)
 apply ad O
 ·apply bp O Ek Eh
  apply aP.one
  ·repeat (first | exact ba.here | apply ba.there)
  ·rfl
  ·exact sa
  exact aP.nil
 refine bw O O fun b16=>ar O O<|lc<|al<|sr<|mv O O<|ad O (ql O jU)<|mv O O<|lc<|aB ?_
 refine bK (fun i:Nat=>i<=os.length) (fun i=>[(4,.pointer (some ⟨b16,0,none⟩)),(17,.slice a os.length cap),(18,.int .i64 (os.length:Nat)),(19,.int .i64 (i:Nat))]) (fun i=>pt b16 (.cells #[.map (some b14)] 192 (0,0))::bG (fun k:ByteArray=>Value.string k) b14 (bu (os.take i))::A::Fr) (fun i=>os.length-i) 0 (Nat.zero_le _) ⟨rfl,rfl,rfl,rfl,trivial⟩ (by(exact en)) ?_
 rintro i hi
 refine sr<|ad O (qi O O (bj ·))<|lc<|al<|aG O (fun h2=>?_) fun h2=>?_
 ·skip
  obtain⟨b,o,rfl,hO2⟩:=hO1 (by omega)
  obtain⟨t,ht⟩:∃ t,os[i]?=some t:=⟨os[i],List.getElem?_eq_getElem (by omega)⟩
  have hc:=l3 hO2 ht
  obtain⟨g1,g2,g3⟩:=hg.2 i t ht
  have hnew:jZ (bu (os.take i)) t.1=none:=by
   cases hv:jZ (bu (os.take i)) t.1 with
   | none=>rfl
   | some v=>obtain⟨j,u,j1,j2,j3,_⟩:=l7 (by omega) hv;exact absurd j3 (g3 j u j1 j2)
  refine aq<|an<|al<|aB<|sr<|ad O (aL O O jU iJ (by omega)) ?_
  refine ad O (cg (A:=A) (us:=[.string t.1,.int .u64 t.2]) rfl Ao iJ rfl tk hc.2) ?_
  refine ay O ra fun b6=>bZ O O O iJ O O ?_
  refine lc<|al<|sr<|ad O (aE 0 O iI O O fA)<|ad O (aI O fS) ?_
  refine ad O (qs O O (lO ·))<|mv O O<|bQ (t:=26) rfl (fun h3=>?_) fun h3=>?_
  ·rw[h3] at g1;exact absurd g1 (by decide)
  refine aA O O<|ad O (aE 0 O iI O O fA)<|aA O O<|ad O (aI O fS) ?_
  refine aA O O<|ad O (m9 O lg)<|aA O O<|ad O (qi O O (di ·))<|ad O (aS O O)<|lc<|aG O (fun h4=>?_) fun h4=>?_
  ·omega
  refine aq<|an<|al<|al<|aY mixed ?_
  apply dq 0 O (yq (ah O))
  apply dq 1 O (yq (ae O))
  apply dq 2 O (yq (aE 0 O tF O O tH))
  apply dq 3 O (yq (aI O tL))
  apply dq 4 O (yq (aE 0 O iI O O fA))
  apply dq 5 O (yq (aI O fS))
  apply dq 6 O
  ·apply yq
   apply kn qm O O o8 lg E4
   exact tk
  apply dq 7 O (yq (ah O))
  apply dq 8 O (yq (aa O ga))
  apply dq 9 O (yq (aa O ga))
  refine ak [8,0,1,2,3,4,5,6,7] [9] 10 [(40,_)] gO ⟨rfl,trivial⟩ (by kernel_rfl) (by kernel_rfl) fun Ex=>?_
  refine ar O O<|ai ?_
  refine aQ ⟨ya O O (yq (aa O ga)),trivial⟩ ?_
  refine ak [9] [] 11 [(41,_)] gO ⟨rfl,trivial⟩ (by kernel_rfl) (by kernel_rfl) fun Ex=>?_
  refine ar O O<|ai ?_
  refine aQ trivial ?_
  refine aV (by kernel_rfl) ?_
  refine nz<|mv O O<|lc<|aG O (fun h5=>?_) fun h5=>?_
  ·rw[hnew] at h5;cases h5
  refine aq<|an<|aY mixed ?_
  apply dq 0 O (yq (ah O))
  apply dq 1 O (yq (ae O))
  apply dq 2 O (yq (aE 0 O tF O O tH))
  apply dq 3 O (yq (aI O tL))
  apply dq 4 O (yq (aE 0 O iI O O fA))
  apply dq 5 O (yq (aI O fS))
  apply dq 6 O (yq (aE 1 O iI O O jV))
  apply dq 7 O (yq (aI O fV))
  refine ak [3,5,7,0,1,2,4,6] [] 8 [(46,_),(48,_),(50,_)] gO ⟨rfl,rfl,rfl,trivial⟩ (by kernel_rfl) (by kernel_rfl) fun Ex=>?_
  apply gl qm O O O O o8 lg
  ·exact tk
  refine ai ?_
  refine aQ trivial ?_
  refine aV (by kernel_rfl) ?_
  refine bz<|an<|aD<|ad O (bn O O) ?_
  refine mv O O<|ai ?_
  rw[<- l6 ht]
  apply aU ((i+1))
  ·exact(show i+1<=os.length by omega)
  ·omega
  ·exact⟨O,O,O,O,trivial⟩
  exact en
 obtain rfl:i=os.length:=by omega
 rw[List.take_length]
 exact xt O<|nz<|mv O O<|ar O O<|ar O O<|lc<|rt<|ft O ([pt b16 (.cells #[.map (some b14)] 192 (0,0)),bG (fun k:ByteArray=>Value.string k) b14 (bu os),A]) (.tmp rfl) (.tmp rfl) ⟨b16,b14,rfl,rfl⟩
theorem qh {os:List (ByteArray×Int)} {j:Nat} {p:ByteArray×Int}:∀ {i:Nat},j < i->i<=os.length->os[j]?=some p->(jZ (bu (os.take i)) p.1).isSome=true
 | 0,h,_,_=>by omega
 | i+1,h,hi,hp=>by
  obtain⟨t,ht⟩:∃ t,os[i]?=some t:=⟨os[i],List.getElem?_eq_getElem (by omega)⟩
  rw[l6 ht,sW]
  split
  ·rfl
  next q=>
  rcases Nat.lt_succ_iff_lt_or_eq.1 h with q2 | rfl
  ·exact qh q2 (by omega) hp
  rw[ht] at hp;cases hp;exact absurd rfl q
theorem Bn (A:HP) (v:Value) (os:List (ByteArray×Int)) (hO:jR A v os):
  aK Tryz.prog 39 #[v] [A] (fun r L=>(∃ e,vG os e/\r=.tuple #[.pointer none,.int .i64 e]/\L= [A])\/(ix os/\∃ po bm,r=.tuple #[.pointer (some ⟨po,0,none⟩),.int .i64 0]/\L= [pt po (.cells #[.map (some bm)] 192 (0,0)),bG (fun k:ByteArray=>Value.string k) bm (bu os),A])):=by
 obtain⟨a,cap,rfl,hO1⟩:=hO
 refine au Hl Tryz.func39 rfl rfl rfl fun Fr w0=>aZ ?_
 refine sr<|ar O O<|ar O O<|lc<|al<|sr<|mv O O<|ad O (ql O jU)<|ad O (qi O O (di ·))<|lc<|aG O (fun h1=>?_) fun h1=>?_
 ·refine sr<|ar O O<|ar O O<|lc<|rt<|ft O ([A]) (.tmp rfl) (.tmp rfl) ?_
  exact .inl ⟨40,.inl ⟨by omega,rfl⟩,rfl,rfl⟩
 refine aq<|nz<|mv O O<|ad O (ql O jU) ?_
 refine qd (fun k:ByteArray=>Value.string k) rfl rfl o8 (fun b14=>?_)
 apply ad O
 ·apply bp O Ek Eh
  apply aP.one
  ·repeat (first | exact ba.here | apply ba.there)
  ·rfl
  ·exact sa
  exact aP.nil
 refine bw O O fun b16=>ar O O<|lc<|al<|sr<|mv O O<|ad O (ql O jU)<|mv O O<|lc<|aB ?_
 refine bK (fun i:Nat=>i<=os.length/\∀ j,j < i->okO os j) (fun i=>[(4,.pointer (some ⟨b16,0,none⟩)),(17,.slice a os.length cap),(18,.int .i64 (os.length:Nat)),(19,.int .i64 (i:Nat))]) (fun i=>pt b16 (.cells #[.map (some b14)] 192 (0,0))::bG (fun k:ByteArray=>Value.string k) b14 (bu (os.take i))::A::Fr) (fun i=>os.length-i) 0 ⟨Nat.zero_le _,by omega⟩ ⟨rfl,rfl,rfl,rfl,trivial⟩ (by(exact en)) ?_
 rintro i ⟨hi,hok⟩
 refine sr<|ad O (qi O O (bj ·))<|lc<|al<|aG O (fun h2=>?_) fun h2=>?_
 ·skip
  obtain⟨b,o,rfl,hO2⟩:=hO1 (by omega)
  obtain⟨t,ht⟩:∃ t,os[i]?=some t:=⟨os[i],List.getElem?_eq_getElem (by omega)⟩
  have hc:=l3 hO2 ht
  refine aq<|an<|al<|aB<|sr<|ad O (aL O O jU iJ (by omega)) ?_
  refine ad O (cg (A:=A) (us:=[.string t.1,.int .u64 t.2]) rfl Ao iJ rfl tk hc.2) ?_
  refine ay O ra fun b6=>bZ O O O iJ O O ?_
  refine lc<|al<|sr<|ad O (aE 0 O iI O O fA)<|ad O (aI O fS) ?_
  refine ad O (qs O O (lO ·))<|mv O O<|bQ (t:=26) rfl (fun h3=>?_) fun h3=>?_
  ·skip
   have h0:t.1.size=0:=by rw[h3];rfl
   refine ax O O O O<|ax O O O O<|ax O O O O<|ax O O O O<|ad O (aS O O)<|lc<|bk O<|sr<|ar O O<|ar O O<|lc<|rt<|ft O ([A]) (.tmp rfl) (.tmp rfl) ?_
   exact .inl ⟨41,.inr ⟨by omega,i,t,ht,hok,.inl ⟨by omega,rfl⟩⟩,rfl,rfl⟩
  refine aA O O<|ad O (aE 0 O iI O O fA)<|aA O O<|ad O (aI O fS) ?_
  refine aA O O<|ad O (m9 O lg)<|aA O O<|ad O (qi O O (di ·))<|ad O (aS O O)<|lc<|aG O (fun h4=>?_) fun h4=>?_
  ·refine sr<|ar O O<|ar O O<|lc<|rt<|ft O ([A]) (.tmp rfl) (.tmp rfl) ?_
   exact .inl ⟨41,.inr ⟨by omega,i,t,ht,hok,.inl ⟨by omega,rfl⟩⟩,rfl,rfl⟩
  have h1s:1<=t.1.size:=by
   rcases Nat.eq_zero_or_pos t.1.size with q | q
   ·exact absurd (by apply ByteArray.ext;apply Array.eq_empty_of_size_eq_zero;exact q) h3
   exact q
  refine aq<|an<|al<|al<|aY mixed ?_
  apply dq 0 O (yq (ah O))
  apply dq 1 O (yq (ae O))
  apply dq 2 O (yq (aE 0 O tF O O tH))
  apply dq 3 O (yq (aI O tL))
  apply dq 4 O (yq (aE 0 O iI O O fA))
  apply dq 5 O (yq (aI O fS))
  apply dq 6 O
  ·apply yq
   apply kn qm O O o8 lg E4
   exact tk
  apply dq 7 O (yq (ah O))
  apply dq 8 O (yq (aa O ga))
  apply dq 9 O (yq (aa O ga))
  refine ak [8,0,1,2,3,4,5,6,7] [9] 10 [(40,_)] gO ⟨rfl,trivial⟩ (by kernel_rfl) (by kernel_rfl) fun Ex=>?_
  refine ar O O<|ai ?_
  refine aQ ⟨ya O O (yq (aa O ga)),trivial⟩ ?_
  refine ak [9] [] 11 [(41,_)] gO ⟨rfl,trivial⟩ (by kernel_rfl) (by kernel_rfl) fun Ex=>?_
  refine ar O O<|ai ?_
  refine aQ trivial ?_
  refine aV (by kernel_rfl) ?_
  refine nz<|mv O O<|lc<|aG O (fun h5=>?_) fun h5=>?_
  ·skip
   obtain⟨w,hw⟩:=Option.isSome_iff_exists.1 h5
   obtain⟨j,u,j1,j2,j3,_⟩:=l7 (by omega) hw
   refine sr<|ar O O<|ar O O<|lc<|rt<|ft O ([A]) (.tmp rfl) (.tmp rfl) ?_
   exact .inl ⟨42,.inr ⟨by omega,i,t,ht,hok,.inr ⟨h1s,by omega,⟨j,u,j1,j2,j3⟩,rfl⟩⟩,rfl,rfl⟩
  have hno:okO os i:=fun o ho=>by
   rw[ht] at ho;cases ho
   exact⟨h1s,by omega,fun j p hj hp he=>by have h6:=qh hj (by omega) hp;rw[he,h5] at h6;cases h6⟩
  refine aq<|an<|aY mixed ?_
  apply dq 0 O (yq (ah O))
  apply dq 1 O (yq (ae O))
  apply dq 2 O (yq (aE 0 O tF O O tH))
  apply dq 3 O (yq (aI O tL))
  apply dq 4 O (yq (aE 0 O iI O O fA))
  apply dq 5 O (yq (aI O fS))
  apply dq 6 O (yq (aE 1 O iI O O jV))
  apply dq 7 O (yq (aI O fV))
  refine ak [3,5,7,0,1,2,4,6] [] 8 [(46,_),(48,_),(50,_)] gO ⟨rfl,rfl,rfl,trivial⟩ (by kernel_rfl) (by kernel_rfl) fun Ex=>?_
  apply gl qm O O O O o8 lg
  ·exact tk
  refine ai ?_
  refine aQ trivial ?_
  refine aV (by kernel_rfl) ?_
  refine bz<|an<|aD<|ad O (bn O O) ?_
  refine mv O O<|ai ?_
  rw[<- l6 ht]
  apply aU ((i+1))
  ·exact⟨by omega,fun j hj=>by rcases Nat.lt_succ_iff_lt_or_eq.1 hj with q | rfl;exact hok j q;exact hno⟩
  ·omega
  ·exact⟨O,O,O,O,trivial⟩
  exact en
 obtain rfl:i=os.length:=by omega
 rw[List.take_length]
 refine xt O<|nz<|mv O O<|ar O O<|ar O O<|lc<|rt<|ft O ([pt b16 (.cells #[.map (some b14)] 192 (0,0)),bG (fun k:ByteArray=>Value.string k) b14 (bu os),A]) (.tmp rfl) (.tmp rfl) ?_
 exact .inr ⟨⟨by omega,fun k=>by rcases Nat.lt_or_ge k os.length with q | q;exact hok k q;exact fun o ho=>by rw[List.getElem?_eq_none q] at ho;cases ho⟩,b16,b14,rfl,rfl⟩
end Oracle
end
section
namespace Ref04
open Go.RowKit Go.Proofs Eng Ty Oracle
theorem FC {os:List (ByteArray×Int)} (hg:ix os) {i:Nat} {t:ByteArray×Int} (ht:os[i]?=some t):jZ (bu os) t.1=some (.int .u64 t.2):=by
 have hil:i < os.length:=(List.getElem?_eq_some_iff.1 ht).1
 have h1:=qh (i:=os.length) hil (Nat.le_refl _) ht
 rw[List.take_length] at h1
 obtain⟨v,hv⟩:=Option.isSome_iff_exists.1 h1
 have h2:=hv
 rw[show bu os=bu (os.take os.length) by rw[List.take_length]] at h2
 obtain⟨j,u,hj,hu,he,rfl⟩:=l7 (Nat.le_refl _) h2
 rcases Nat.lt_trichotomy j i with q | q | q
 ·exact absurd he ((hg.2 i t ht).2.2 j u q hu)
 ·subst q;rw[ht] at hu;cases hu;exact hv
 exact absurd he.symm ((hg.2 j u hu).2.2 i t q ht)
theorem DC {os:List (ByteArray×Int)} {key:ByteArray} (h:∀(j:Nat) u,os[j]?=some u->u.1≠key):jZ (bu os) key=none:=by
 cases hv:jZ (bu os) key with
 | none=>rfl
 | some v=>
  rw[show bu os=bu (os.take os.length) by rw[List.take_length]] at hv
  obtain⟨j,u,_,hu,he,_⟩:=l7 (Nat.le_refl _) hv
  exact absurd he (h j u hu)
@[reducible] def KA (bq:Nat) (os:List (ByteArray×Int)) (lv:Value):List HP:=[pt bq (.cells #[lv] 195 (0,0)),aF 134 2 lv os.length (rowOf gK os)]
def dv (bq:Nat) (os:List (ByteArray×Int)):HP:=wS (fun _:Value=>True) (KA bq os)
theorem Dl {c:Cx} {fin:Exit->Act->World->Prop} {ds:List Deferred} {E:Env} {ks:List KI} {bq:Nat} {os:List (ByteArray×Int)} {L M:List HP} {y:Code} (ht:Take (dv bq os) L M) (k:∀ v,TC c fin ds E (pt bq (.cells #[v] 195 (0,0))::aF 134 2 v os.length (rowOf gK os)::M) y ks):TC c fin ds E L y ks:=
 lx (X:=Value) (LL:=fun v=>KA bq os v ++ M) (fun w hs=>let ⟨v,_,h⟩:=cV.1 (hs.take ht);⟨v,h⟩) k
theorem pN {bq:Nat} {os:List (ByteArray×Int)} (v:Value) {L R:List HP} (he:dS L (pt bq (.cells #[v] 195 (0,0))::aF 134 2 v os.length (rowOf gK os)::R)):dS L (dv bq os::R):=fun w h=>cV.2 ⟨v,trivial,he w h⟩
theorem lP (bq:Nat) (os:List (ByteArray×Int)) (hg:ix os) (sd:Int) (hs:0<=sd/\sd < 18446744073709551616) (key:ByteArray) (hk:key.size<=140737488351232):
  aK Tryz.prog 147 #[.pointer (some ⟨bq,0,none⟩),.int .u64 sd,.string key] [dv bq os] (fun v L=>v=.int .u64 (br (bu os) sd key)/\L= [dv bq os]):=by
 have h64:=hg.1
 refine au IK Tryz.func147 rfl rfl rfl fun Fr w0=>aZ ?_
 refine Dl .here fun lv=>?_
 refine bU (.there .here) fun _ hlv=>?_
 obtain⟨a,cap,rfl,ha,_,_⟩:=hlv
 refine sr<|ar O O<|lc<|al<|sr<|ar O O<|lc<|aB ?_
 refine bK (fun i:Nat=>i<=os.length/\∀ j u,j < i->os[j]?=some u->u.1≠key) (fun i=>[(0,.pointer (some ⟨bq,0,none⟩)),(1,.int .u64 sd),(2,.string key),(7,.int .i64 (i:Nat))]) (fun _=>pt bq (.cells #[.slice a os.length cap] 195 (0,0))::aF 134 2 (.slice a os.length cap) os.length (rowOf gK os)::Fr) (fun i=>os.length-i) 0 ⟨Nat.zero_le _,fun j u h=>by omega⟩ ⟨rfl,rfl,rfl,rfl,trivial⟩ (by(exact en)) ?_
 rintro i ⟨hi,hno⟩
 refine al<|sr<|mv O O<|mv O O<|ad O (ae O)<|ad O (aE 0 O rh O O qR)<|ad O (aI O tK) ?_
 refine ad O (ql O jU)<|ad O (qi O O (bj ·))<|lc<|aG O (fun h1=>?_) fun h1=>?_
 ·skip
  obtain⟨g,rfl⟩:=ha (by omega)
  obtain⟨t,ht⟩:∃ t,os[i]?=some t:=⟨os[i],List.getElem?_eq_getElem (by omega)⟩
  have hcs:(rowOf gK os)[0+((i:Nat):Int).toNat*2+0]?=some (.string t.1):=by rw[Nat.zero_add,Int.toNat_natCast,er Ez os i 0 t ht (by decide)];rfl
  have hcu:(rowOf gK os)[0+((i:Nat):Int).toNat*2+1]?=some (.int .u64 t.2):=by rw[Nat.zero_add,Int.toNat_natCast,er Ez os i 1 t ht (by decide)];rfl
  refine aq<|an<|al<|aB<|sr<|mv O O<|ad O (ae O)<|ad O (aE 0 O rh O O qR)<|ad O (aI O tK) ?_
  refine mv O O<|ad O (aL O O jU iJ (by omega)) ?_
  refine ad O (aE 0 O iI O O fA) ?_
  apply ad O
  ·apply aT O fS
   ·exact tk
   exact hcs
  refine mv O O<|ad O (qs O O (lO ·))<|lc<|aG O (fun h2=>?_) fun h2=>?_
  ·refine sr<|mv O O<|ad O (ae O)<|ad O (aE 0 O rh O O qR)<|ad O (aI O tK) ?_
   refine mv O O<|ad O (aL O O jU iJ (by omega)) ?_
   refine ad O (aE 1 O iI O O jV) ?_
   apply ad O
   ·apply aT O fV
    ·exact tk
    exact hcu
   refine ar O O<|lc<|rt ?_
   apply aR (.inl rfl) ([dv bq os])
   ·apply cP O
    exact .tmp rfl
   ·exact⟨by unfold br;rw[<- h2,FC hg ht],rfl⟩
   refine pN (.slice (some ⟨g,0,none⟩) os.length cap) ?_;(exact en)
  refine aq<|bz<|an<|aD<|mv O O<|ad O (bn O O) ?_
  refine ar O O<|ai ?_
  apply aU ((i+1))
  ·exact⟨by omega,fun j u hj hu=>by rcases Nat.lt_succ_iff_lt_or_eq.1 hj with q | rfl;exact hno j u q hu;rw[ht] at hu;cases hu;exact h2⟩
  ·omega
  ·exact⟨O,O,O,O,trivial⟩
  exact en
 obtain rfl:i=os.length:=by omega
 have hm:=DC (os:=os) (key:=key) fun j u hu=>hno j u (List.getElem?_eq_some_iff.1 hu).1 hu
 refine xt O<|nz<|mv O O<|mv O O<|bF O O O (D7 sd hs key (by omega)) ?_
 refine ar O O<|lc<|rt ?_
 apply aR (.inl rfl) ([dv bq os])
 ·apply cP O
  exact .tmp rfl
 ·exact⟨by unfold br;rw[hm],rfl⟩
 refine pN (.slice a os.length cap) ?_;(exact en)
end Ref04
end
end Go.Proofs.YthkajgkagnenbaaGreatDoor
