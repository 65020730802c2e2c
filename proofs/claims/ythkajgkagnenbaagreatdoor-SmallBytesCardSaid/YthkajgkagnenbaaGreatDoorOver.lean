import Derived.Test.YthkajgkagnenbaaGreatDoorPromo
set_option linter.unusedVariables false
set_option linter.unusedSimpArgs false
set_option linter.unusedSectionVars false
set_option maxRecDepth 100000
namespace Go.Proofs.YthkajgkagnenbaaGreatDoor
namespace Oracle
open Go.RowKit Go.Proofs Eng Ty Bits Mem CtrlB Ctrl
def dS (o:ByteArray×Int):List Value:=[.string o.1,.int .u64 o.2]
theorem mx (o:ByteArray×Int):(dS o).length=2:=rfl
theorem CW (o:ByteArray×Int):(dS o).all (·.oneCell')=true:=rfl
def jP (A:HP) (v:Value) (os:List (ByteArray×Int)):Prop:=∃ a cap,v=.slice a os.length cap∧(0 < os.length→∃ b o,a=some ⟨b,o,none⟩∧∀(i:Nat) t,os[i]?=some t→∀(j:Nat) x,(dS t)[j]?=some x→ct A ⟨b,o+i*2+j,none⟩ x)
theorem nf {A:HP} {os:List (ByteArray×Int)} {b o i:Nat} {t:ByteArray×Int} (h:∀(i:Nat) t,os[i]?=some t→∀(j:Nat) x,(dS t)[j]?=some x→ct A ⟨b,o+i*2+j,none⟩ x) (ht:os[i]?=some t):
  ct A ⟨b,o+(i:Int).toNat*2+0,none⟩ (.string t.1)∧∀ j x,[Value.string t.1,.int .u64 t.2][j]?=some x→ct A ((⟨b,o+(i:Int).toNat*2,none⟩:Addr).add j) x:=by
 rw[Int.toNat_natCast]
 exact⟨h i t ht 0 _ rfl,fun j x hx=>by rw[cz];exact h i t ht j x hx⟩
theorem tq {a:Option Addr} {cap:Nat} {os:List (ByteArray×Int)} (h:0 < os.length→∃ g,a=some ⟨g,0,none⟩):jP (aE 134 2 (.slice a os.length cap) os.length (rowOf dS os)) (.slice a os.length cap) os:=
 ⟨a,cap,rfl,fun q=>by
  obtain⟨g,rfl⟩:=h q
  refine⟨g,0,rfl,fun i t ht j x hx=>?_⟩
  have hj:j < 2:=by have:=(List.getElem?_eq_some_iff.1 hx).1;rwa [mx] at this
  rw[Nat.zero_add]
  exact ji (by rw[dA mx os i j t ht hj];exact hx)⟩
def okO (os:List (ByteArray×Int)) (i:Nat):Prop:=∀ o,os[i]?=some o→1≤o.1.size∧o.1.size≤128∧∀ j p,j < i→os[j]?=some p→p.1≠o.1
def kE (os:List (ByteArray×Int)):Prop:=os.length≤64∧∀ i,okO os i
def nx (os:List (ByteArray×Int)) (e:Int):Prop:=(64 < os.length∧e=40)∨(os.length≤64∧∃ i t,os[i]?=some t∧(∀ j,j < i→okO os j)∧
 (((t.1.size < 1∨128 < t.1.size)∧e=41)∨(1≤t.1.size∧t.1.size≤128∧(∃ j p,j < i∧os[j]?=some p∧p.1=t.1)∧e=42)))
theorem nx.pos {os:List (ByteArray×Int)} {e:Int} (h:nx os e):e≠0:=by
 rcases h with⟨_,rfl⟩ | ⟨_,i,t,_,_,⟨_,rfl⟩ | ⟨_,_,_,rfl⟩⟩ <;> decide
theorem nx.first {os:List (ByteArray×Int)} {i:Nat} {t:ByteArray×Int} (ht:os[i]?=some t) (hb:(t.1.size < 1∨128 < t.1.size)∨∃ j p,j < i∧os[j]?=some p∧p.1=t.1):¬ okO os i:=fun h=>by
 obtain⟨h1,h2,h3⟩:=h t ht
 rcases hb with q | ⟨j,p,hj,hp,he⟩
 ·omega
 exact h3 j p hj hp he
theorem nx.bad {os:List (ByteArray×Int)} {e:Int} (h:nx os e) (hg:kE os):False:=by
 rcases h with⟨h1,_⟩ | ⟨_,i,t,ht,_,h⟩
 ·have:=hg.1;omega
 refine nx.first ht ?_ (hg.2 i)
 rcases h with⟨h,_⟩ | ⟨_,_,h,_⟩
 ·exact .inl h
 exact .inr h
theorem nx.same {os:List (ByteArray×Int)} {e e':Int} (h:nx os e) (h':nx os e'):e=e':=by
 rcases h with⟨h1,rfl⟩ | ⟨h1,i,t,ht,hf,h⟩
 ·rcases h' with⟨_,rfl⟩ | ⟨h2,_⟩
  ·rfl
  omega
 rcases h' with⟨h2,_⟩ | ⟨_,i',t',ht',hf',h'⟩
 ·omega
 have hb:(t.1.size < 1∨128 < t.1.size)∨∃ j p,j < i∧os[j]?=some p∧p.1=t.1:=by rcases h with⟨h,_⟩ | ⟨_,_,h,_⟩;exact .inl h;exact .inr h
 have hb':(t'.1.size < 1∨128 < t'.1.size)∨∃ j p,j < i'∧os[j]?=some p∧p.1=t'.1:=by rcases h' with⟨h,_⟩ | ⟨_,_,h,_⟩;exact .inl h;exact .inr h
 obtain rfl:i=i':=by
  rcases Nat.lt_trichotomy i i' with q | q | q
  ·exact absurd (hf' i q) (nx.first ht hb)
  ·exact q
  exact absurd (hf i' q) (nx.first ht' hb')
 rw[ht] at ht';cases ht'
 rcases h with⟨h,rfl⟩ | ⟨a1,a2,_,rfl⟩ <;> rcases h' with⟨h',rfl⟩ | ⟨b1,b2,_,rfl⟩
 ·rfl
 ·omega
 ·omega
 rfl
theorem gU (A:HP) (v:Value) (os:List (ByteArray×Int)) (hO:jP A v os):
  aG Tryz.prog 40 #[v] [A] (fun r L=>(∃ e,nx os e∧r=.tuple #[.pointer none,.int .i64 e]∧L= [A])∨
   (kE os∧∃ b lv,r=.tuple #[.pointer (some ⟨b,0,none⟩),.int .i64 0]∧L= [A,pt b (.cells #[lv] 195 (0,0)),aE 134 2 lv os.length (rowOf dS os)])):=by
 obtain⟨a,cap,rfl,hO1⟩:=hO
 refine aq HO Tryz.func40 rfl rfl rfl fun Fr w0=>aR ?_
 refine sr<|asg rfl rfl<|asg rfl rfl<|lc<|ah<|sr<|mv rfl rfl<|l_q rfl (ql rfl jS)<|l_q rfl (qi rfl rfl (cU ·))<|lc<|aA rfl (fun h1=>?_) fun h1=>?_
 ·refine sr<|asg rfl rfl<|asg rfl rfl<|lc<|rt<|fr2 rfl ([A]) (.tmp rfl) (.tmp rfl) ?_
  exact .inl ⟨40,.inl ⟨by omega,rfl⟩,rfl,rfl⟩
 refine al<|nz ?_
 apply l_q rfl
 ·apply aQ rfl Es Ef
  exact aF.nil
 refine aP rfl rfl fun b11=>asg rfl rfl<|lc<|ah<|sr<|asg rfl rfl<|lc<|ax ?_
 refine fw (show Ent _ (pt b11 (.cells #[.slice none 0 0] 195 (0,0))::aE 134 2 (.slice none 0 0) 0 (rowOf dS (os.take 0))::A::Fr) from fun w h=>(eh h).perm (by simpa using .swap _ _ _)) ?_
 refine bw (fun x:Nat×Value=>x.1≤os.length∧∀ i,i < x.1→okO os i) (fun x=>[(0,.slice a os.length cap),(4,.pointer (some ⟨b11,0,none⟩)),(5,.int .i64 (x.1:Nat))]) (fun x=>pt b11 (.cells #[x.2] 195 (0,0))::aE 134 2 x.2 x.1 (rowOf dS (os.take x.1))::A::Fr) (fun x=>os.length-x.1) (0,.slice none 0 0) ⟨Nat.zero_le _,by omega⟩ ⟨rfl,rfl,rfl,trivial⟩ (by(exact en)) ?_
 rintro⟨i,lv⟩ ⟨hi,hok⟩
 dsimp only at hi hok ⊢
 refine ah<|sr<|mv rfl rfl<|mv rfl rfl<|l_q rfl (ql rfl jS)<|l_q rfl (qi rfl rfl (aU ·))<|lc<|aA rfl (fun h2=>?_) fun h2=>?_
 ·skip
  obtain⟨b,o,rfl,hO2⟩:=hO1 (by omega)
  obtain⟨t,ht⟩:∃ t,os[i]?=some t:=⟨os[i],List.getElem?_eq_getElem (by omega)⟩
  have hc:=nf hO2 ht
  have hrow:rowOf dS (os.take i) ++ ([Value.agg #[.string t.1,.int .u64 t.2]].flatMap fun x=>x.cells.toList).toArray.toList=rowOf dS (os.take (i+1)):=by rw[List.take_add_one,ht,jf];simp[rowOf,dS];rfl
  refine al<|ak<|ah<|ax<|ah<|sr<|mv rfl rfl<|mv rfl rfl<|l_q rfl (aT rfl rfl jS iF (by omega)) ?_
  refine l_q rfl (qfa 0 rfl jY rfl rfl yS9)<|l_q rfl (bI (A:=A) rfl yA9 tk hc.1) ?_
  refine l_q rfl (qls rfl yU9)<|l_q rfl (qi rfl rfl (aU ·))<|mv rfl rfl<|bD (t:=25) rfl (fun h3=>?_) fun h3=>?_
  ·refine ar rfl rfl rfl rfl<|ar rfl rfl rfl rfl<|ar rfl rfl rfl rfl<|ar rfl rfl rfl rfl<|ar rfl rfl rfl rfl<|ar rfl rfl rfl rfl<|ar rfl rfl rfl rfl<|l_q rfl (aL rfl rfl)<|lc<|aY rfl<|sr<|asg rfl rfl<|asg rfl rfl<|lc<|rt<|fr2 rfl ([A]) (.tmp rfl) (.tmp rfl) ?_
   exact .inl ⟨41,.inr ⟨by omega,i,t,ht,hok,.inl ⟨by omega,rfl⟩⟩,rfl,rfl⟩
  refine au rfl rfl<|mv rfl rfl<|au rfl rfl<|mv rfl rfl<|au rfl rfl<|l_q rfl (aT rfl rfl jS iF (by omega)) ?_
  refine au rfl rfl<|l_q rfl (qfa 0 rfl jY rfl rfl yS9)<|au rfl rfl<|l_q rfl (bI (A:=A) rfl yA9 tk hc.1) ?_
  refine au rfl rfl<|l_q rfl (qls rfl yU9)<|au rfl rfl<|l_q rfl (qi rfl rfl (cU ·))<|l_q rfl (aL rfl rfl)<|lc<|aA rfl (fun h4=>?_) fun h4=>?_
  ·refine sr<|asg rfl rfl<|asg rfl rfl<|lc<|rt<|fr2 rfl ([A]) (.tmp rfl) (.tmp rfl) ?_
   exact .inl ⟨41,.inr ⟨by omega,i,t,ht,hok,.inl ⟨by omega,rfl⟩⟩,rfl,rfl⟩
  refine al<|ak<|ah<|sr<|asg rfl rfl<|lc<|ax ?_
  refine bw (fun j:Nat=>j≤i∧∀ k p,k < j→os[k]?=some p→p.1≠t.1) (fun j=>[(0,.slice (some ⟨b,o,none⟩) os.length cap),(4,.pointer (some ⟨b11,0,none⟩)),(5,.int .i64 (i:Nat)),(6,.int .i64 (j:Nat))]) (fun _=>pt b11 (.cells #[lv] 195 (0,0))::aE 134 2 lv i (rowOf dS (os.take i))::A::Fr) (fun j=>i-j) 0 ⟨Nat.zero_le _,fun k p hk=>by omega⟩ ⟨rfl,rfl,rfl,rfl,trivial⟩ (by(exact en)) ?_
  rintro j ⟨hj,hno⟩
  refine ah<|sr<|mv rfl rfl<|mv rfl rfl<|l_q rfl (qi rfl rfl (aU ·))<|lc<|aA rfl (fun h5=>?_) fun h5=>?_
  ·skip
   obtain⟨u,hu⟩:∃ u,os[j]?=some u:=⟨os[j],List.getElem?_eq_getElem (by omega)⟩
   have hcj:=nf hO2 hu
   refine al<|ak<|ah<|ax<|ah<|aS mixed ?_
   apply dq 0 rfl
   ·exact yq (ai rfl)
   apply dq 1 rfl
   ·exact yq (ai rfl)
   apply dq 2 rfl
   ·exact yq (aT rfl rfl jS iF (by omega))
   apply dq 3 rfl
   ·exact yq (qfa 0 rfl jY rfl rfl yS9)
   apply dq 4 rfl
   ·exact yq (bI (A:=A) rfl yA9 tk hcj.1)
   apply dq 5 rfl
   ·exact yq (ai rfl)
   apply dq 6 rfl
   ·exact yq (ai rfl)
   apply dq 7 rfl
   ·exact yq (aT rfl rfl jS iF (by omega))
   apply dq 8 rfl
   ·exact yq (qfa 0 rfl jY rfl rfl yS9)
   apply dq 9 rfl
   ·exact yq (bI (A:=A) rfl yA9 tk hc.1)
   apply dq 10 rfl
   ·exact yq (qs rfl rfl (l8 ·))
   refine bd (by kernel_rfl) ?_
   refine ak<|aA rfl (fun h6=>?_) fun h6=>?_
   ·refine sr<|asg rfl rfl<|asg rfl rfl<|lc<|rt<|fr2 rfl ([A]) (.tmp rfl) (.tmp rfl) ?_
    exact .inl ⟨42,.inr ⟨by omega,i,t,ht,hok,.inr ⟨by omega,by omega,⟨j,u,by omega,hu,h6⟩,rfl⟩⟩,rfl,rfl⟩
   refine al<|aV<|ak<|aB<|mv rfl rfl<|l_q rfl (ba rfl rfl) ?_
   refine asg rfl rfl<|aj ?_
   apply aO ((j+1))
   ·exact⟨by omega,fun k p hk hp=>by rcases Nat.lt_succ_iff_lt_or_eq.1 hk with q | rfl;exact hno k p q hp;rw[hu] at hp;cases hp;exact h6⟩
   ·omega
   ·exact⟨rfl,rfl,rfl,rfl,trivial⟩
   exact en
  obtain rfl:j=i:=by omega
  refine xt rfl<|ak<|aS mixed ?_
  apply dq 0 rfl
  ·exact yq (ai rfl)
  apply dq 1 rfl
  ·exact yq (ai rfl)
  apply dq 2 rfl
  ·exact yq (ad rfl)
  apply dq 3 rfl
  ·exact yq (qfa 0 rfl pT rfl rfl mX)
  apply dq 4 rfl
  ·exact yq (qld rfl oe)
  apply dq 5 rfl
  ·exact yq (ai rfl)
  apply dq 6 rfl
  ·exact yq (ai rfl)
  apply dq 7 rfl
  ·exact yq (aT rfl rfl jS iF (by omega))
  apply dq 8 rfl
  ·exact yq (eu (A:=A) (us:=[.string t.1,.int .u64 t.2]) rfl CQ iF rfl tk hc.2)
  refine an [8,7,5,6] [4,3,2,1,0] 9 [(58,_)] gO ⟨rfl,trivial⟩ (by kernel_rfl) (by kernel_rfl) fun Ex=>?_
  refine ei (us:=[_]) rfl rfl jS iF vH rfl rfl rfl rfl rfl (fun b59=>?_)
  refine aj ?_
  apply n_d
  ·refine⟨?_,?_,?_,?_,?_,trivial⟩
   ·apply ya rfl rfl;exact yq (qld rfl oe)
   ·apply ya rfl rfl;exact yq (qfa 0 rfl pT rfl rfl mX)
   ·apply ya rfl rfl;exact yq (ad rfl)
   ·apply ya rfl rfl;exact yq (ai rfl)
   apply ya rfl rfl;exact yq (ai rfl)
  refine an [4,3,2,1] [0] 10 [(54,_),(59,_)] gO ⟨rfl,rfl,trivial⟩ (by kernel_rfl) (by kernel_rfl) fun Ex=>?_
  apply dV (sz:=2) rfl rfl rfl jS yD rfl rfl
  ·exact tk
  ·exact tk
  ·rfl
  ·rfl
  ·simp only[maxLen];omega
  ·omega
  intro v60
  refine db (v:=v60) tk fun _ hs60=>?_
  obtain⟨a60,cap60,rfl,hs60,_,_⟩:=hs60
  refine aj ?_
  apply n_d
  ·refine⟨?_,trivial⟩
   apply ya rfl rfl;exact yq (ai rfl)
  apply dq 11 rfl
  ·exact yq (ad rfl)
  apply dq 12 rfl
  ·exact yq (qfa 0 rfl pT rfl rfl mX)
  refine an [12,0,11] [] 13 [(62,_),(60,_)] gO ⟨rfl,rfl,trivial⟩ (by kernel_rfl) (by kernel_rfl) fun Ex=>?_
  refine st rfl rfl rfl mX rfl ?_
  refine aj ?_
  apply n_d
  ·exact trivial
  refine bd (by kernel_rfl) ?_
  refine aV<|ak<|aB<|mv rfl rfl<|l_q rfl (ba rfl rfl) ?_
  refine asg rfl rfl<|aj ?_
  rw[hrow]
  apply aO ((j+1,.slice a60 (j+1) cap60))
  ·exact⟨by dsimp only;omega,fun k hk=>by rcases Nat.lt_succ_iff_lt_or_eq.1 hk with q | rfl;exact hok k q;exact fun u hu=>by rw[ht] at hu;cases hu;exact⟨by omega,by omega,hno⟩⟩
  ·dsimp only;omega
  ·exact⟨rfl,rfl,rfl,trivial⟩
  exact en
 obtain rfl:i=os.length:=by omega
 rw[List.take_length]
 refine xt rfl<|nz<|mv rfl rfl<|asg rfl rfl<|asg rfl rfl<|lc<|rt<|fr2 rfl ([A,pt b11 (.cells #[lv] 195 (0,0)),aE 134 2 lv os.length (rowOf dS os)]) (.tmp rfl) (.tmp rfl) ?_
 exact .inr ⟨⟨by omega,fun k=>by rcases Nat.lt_or_ge k os.length with q | q;exact hok k q;exact fun o ho=>by rw[List.getElem?_eq_none q] at ho;cases ho⟩,b11,lv,rfl,rfl⟩
def bN (os:List (ByteArray×Int)):List (ByteArray×Value):=os.foldl (fun m o=>gG m o.1 (.int .u64 o.2)) []
theorem nj {os:List (ByteArray×Int)} {i:Nat} {t:ByteArray×Int} (ht:os[i]?=some t):bN (os.take (i+1))=gG (bN (os.take i)) t.1 (.int .u64 t.2):=by
 rw[List.take_add_one,ht];simp[bN]
theorem mD {os:List (ByteArray×Int)}:∀ {i:Nat} {k:ByteArray} {v:Value},i≤os.length→lkK (bN (os.take i)) k=some v→∃ j t,j < i∧os[j]?=some t∧t.1=k∧v=.int .u64 t.2
 | 0,k,v,_,h=>by simp[bN,lkK] at h
 | i+1,k,v,hi,h=>by
  obtain⟨t,ht⟩:∃ t,os[i]?=some t:=⟨os[i],List.getElem?_eq_getElem (by omega)⟩
  rw[nj ht,rJ] at h
  split at h
  ·next q=>exact⟨i,t,by omega,ht,q,by cases h;rfl⟩
  obtain⟨j,u,h1,h2⟩:=mD (by omega) h
  exact⟨j,u,by omega,h2⟩
theorem rI {os:List (ByteArray×Int)} (hw:∀ o∈os,0≤o.2∧o.2 < 18446744073709551616):sj (bN os):=fun k v h=>by
 rw[show bN os=bN (os.take os.length) by rw[List.take_length]] at h
 obtain⟨j,t,_,h2,_,rfl⟩:=mD (Nat.le_refl _) h
 exact⟨_,rfl,hw t (List.mem_of_getElem? h2)⟩
theorem oM {os:List (ByteArray×Int)} {j:Nat} {p:ByteArray×Int}:∀ {i:Nat},j < i→i≤os.length→os[j]?=some p→(lkK (bN (os.take i)) p.1).isSome=true
 | 0,h,_,_=>by omega
 | i+1,h,hi,hp=>by
  obtain⟨t,ht⟩:∃ t,os[i]?=some t:=⟨os[i],List.getElem?_eq_getElem (by omega)⟩
  rw[nj ht,rJ]
  split
  ·rfl
  next q=>
  rcases Nat.lt_succ_iff_lt_or_eq.1 h with q2 | rfl
  ·exact oM q2 (by omega) hp
  rw[ht] at hp;cases hp;exact absurd rfl q
theorem tA (A:HP) (v:Value) (os:List (ByteArray×Int)) (hO:jP A v os):
  aG Tryz.prog 39 #[v] [A] (fun r L=>(∃ e,nx os e∧r=.tuple #[.pointer none,.int .i64 e]∧L= [A])∨(kE os∧∃ po bm,r=.tuple #[.pointer (some ⟨po,0,none⟩),.int .i64 0]∧L= [pt po (.cells #[.map (some bm)] 192 (0,0)),cy (fun k:ByteArray=>Value.string k) bm (bN os),A])):=by
 obtain⟨a,cap,rfl,hO1⟩:=hO
 refine aq HQ Tryz.func39 rfl rfl rfl fun Fr w0=>aR ?_
 refine sr<|asg rfl rfl<|asg rfl rfl<|lc<|ah<|sr<|mv rfl rfl<|l_q rfl (ql rfl jS)<|l_q rfl (qi rfl rfl (cU ·))<|lc<|aA rfl (fun h1=>?_) fun h1=>?_
 ·refine sr<|asg rfl rfl<|asg rfl rfl<|lc<|rt<|fr2 rfl ([A]) (.tmp rfl) (.tmp rfl) ?_
  exact .inl ⟨40,.inl ⟨by omega,rfl⟩,rfl,rfl⟩
 refine al<|nz<|mv rfl rfl<|l_q rfl (ql rfl jS) ?_
 refine uX (fun k:ByteArray=>Value.string k) rfl rfl vJ (fun b14=>?_)
 apply l_q rfl
 ·apply aQ rfl Et Eg
  apply aF.one
  ·repeat (first | exact aH.here | apply aH.there)
  ·rfl
  ·exact sa
  exact aF.nil
 refine aP rfl rfl fun b16=>asg rfl rfl<|lc<|ah<|sr<|mv rfl rfl<|l_q rfl (ql rfl jS)<|mv rfl rfl<|lc<|ax ?_
 refine bw (fun i:Nat=>i≤os.length∧∀ j,j < i→okO os j) (fun i=>[(4,.pointer (some ⟨b16,0,none⟩)),(17,.slice a os.length cap),(18,.int .i64 (os.length:Nat)),(19,.int .i64 (i:Nat))]) (fun i=>pt b16 (.cells #[.map (some b14)] 192 (0,0))::cy (fun k:ByteArray=>Value.string k) b14 (bN (os.take i))::A::Fr) (fun i=>os.length-i) 0 ⟨Nat.zero_le _,by omega⟩ ⟨rfl,rfl,rfl,rfl,trivial⟩ (by(exact en)) ?_
 rintro i ⟨hi,hok⟩
 refine sr<|l_q rfl (qi rfl rfl (aU ·))<|lc<|ah<|aA rfl (fun h2=>?_) fun h2=>?_
 ·skip
  obtain⟨b,o,rfl,hO2⟩:=hO1 (by omega)
  obtain⟨t,ht⟩:∃ t,os[i]?=some t:=⟨os[i],List.getElem?_eq_getElem (by omega)⟩
  have hc:=nf hO2 ht
  refine al<|ak<|ah<|ax<|sr<|l_q rfl (aT rfl rfl jS iF (by omega)) ?_
  refine l_q rfl (eu (A:=A) (us:=[.string t.1,.int .u64 t.2]) rfl CQ iF rfl tk hc.2) ?_
  refine az rfl vH fun b6=>sta rfl rfl rfl iF rfl rfl ?_
  refine lc<|ah<|sr<|l_q rfl (qfa 0 rfl jY rfl rfl yS9)<|l_q rfl (qld rfl yA9) ?_
  refine l_q rfl (qs rfl rfl (l8 ·))<|mv rfl rfl<|bD (t:=26) rfl (fun h3=>?_) fun h3=>?_
  ·skip
   have h0:t.1.size=0:=by rw[h3];rfl
   refine ar rfl rfl rfl rfl<|ar rfl rfl rfl rfl<|ar rfl rfl rfl rfl<|ar rfl rfl rfl rfl<|l_q rfl (aL rfl rfl)<|lc<|aY rfl<|sr<|asg rfl rfl<|asg rfl rfl<|lc<|rt<|fr2 rfl ([A]) (.tmp rfl) (.tmp rfl) ?_
   exact .inl ⟨41,.inr ⟨by omega,i,t,ht,hok,.inl ⟨by omega,rfl⟩⟩,rfl,rfl⟩
  refine au rfl rfl<|l_q rfl (qfa 0 rfl jY rfl rfl yS9)<|au rfl rfl<|l_q rfl (qld rfl yA9) ?_
  refine au rfl rfl<|l_q rfl (qls rfl yU9)<|au rfl rfl<|l_q rfl (qi rfl rfl (cU ·))<|l_q rfl (aL rfl rfl)<|lc<|aA rfl (fun h4=>?_) fun h4=>?_
  ·refine sr<|asg rfl rfl<|asg rfl rfl<|lc<|rt<|fr2 rfl ([A]) (.tmp rfl) (.tmp rfl) ?_
   exact .inl ⟨41,.inr ⟨by omega,i,t,ht,hok,.inl ⟨by omega,rfl⟩⟩,rfl,rfl⟩
  have h1s:1≤t.1.size:=by
   rcases Nat.eq_zero_or_pos t.1.size with q | q
   ·exact absurd (by apply ByteArray.ext;apply Array.eq_empty_of_size_eq_zero;exact q) h3
   exact q
  refine al<|ak<|ah<|ah<|aS mixed ?_
  apply dq 0 rfl
  ·exact yq (ai rfl)
  apply dq 1 rfl
  ·exact yq (ad rfl)
  apply dq 2 rfl
  ·exact yq (qfa 0 rfl yx rfl rfl yA)
  apply dq 3 rfl
  ·exact yq (qld rfl yI)
  apply dq 4 rfl
  ·exact yq (qfa 0 rfl jY rfl rfl yS9)
  apply dq 5 rfl
  ·exact yq (qld rfl yA9)
  apply dq 6 rfl
  ·apply yq
   apply kY u2 rfl rfl vJ yU9 Ed
   exact tk
  apply dq 7 rfl
  ·exact yq (ai rfl)
  apply dq 8 rfl
  ·exact yq (aa rfl ga)
  apply dq 9 rfl
  ·exact yq (aa rfl ga)
  refine an [8,0,1,2,3,4,5,6,7] [9] 10 [(40,_)] gO ⟨rfl,trivial⟩ (by kernel_rfl) (by kernel_rfl) fun Ex=>?_
  refine asg rfl rfl<|aj ?_
  apply n_d
  ·refine⟨?_,trivial⟩
   apply ya rfl rfl;exact yq (aa rfl ga)
  refine an [9] [] 11 [(41,_)] gO ⟨rfl,trivial⟩ (by kernel_rfl) (by kernel_rfl) fun Ex=>?_
  refine asg rfl rfl<|aj ?_
  apply n_d
  ·exact trivial
  refine bd (by kernel_rfl) ?_
  refine nz<|mv rfl rfl<|lc<|aA rfl (fun h5=>?_) fun h5=>?_
  ·skip
   obtain⟨w,hw⟩:=Option.isSome_iff_exists.1 h5
   obtain⟨j,u,j1,j2,j3,_⟩:=mD (by omega) hw
   refine sr<|asg rfl rfl<|asg rfl rfl<|lc<|rt<|fr2 rfl ([A]) (.tmp rfl) (.tmp rfl) ?_
   exact .inl ⟨42,.inr ⟨by omega,i,t,ht,hok,.inr ⟨h1s,by omega,⟨j,u,j1,j2,j3⟩,rfl⟩⟩,rfl,rfl⟩
  have hno:okO os i:=fun o ho=>by
   rw[ht] at ho;cases ho
   exact⟨h1s,by omega,fun j p hj hp he=>by have h6:=oM hj (by omega) hp;rw[he,h5] at h6;cases h6⟩
  refine al<|ak<|aS mixed ?_
  apply dq 0 rfl
  ·exact yq (ai rfl)
  apply dq 1 rfl
  ·exact yq (ad rfl)
  apply dq 2 rfl
  ·exact yq (qfa 0 rfl yx rfl rfl yA)
  apply dq 3 rfl
  ·exact yq (qld rfl yI)
  apply dq 4 rfl
  ·exact yq (qfa 0 rfl jY rfl rfl yS9)
  apply dq 5 rfl
  ·exact yq (qld rfl yA9)
  apply dq 6 rfl
  ·exact yq (qfa 1 rfl jY rfl rfl oc)
  apply dq 7 rfl
  ·exact yq (qld rfl j4)
  refine an [3,5,7,0,1,2,4,6] [] 8 [(46,_),(48,_),(50,_)] gO ⟨rfl,rfl,rfl,trivial⟩ (by kernel_rfl) (by kernel_rfl) fun Ex=>?_
  apply gz u2 rfl rfl rfl rfl vJ yU9
  ·exact tk
  refine aj ?_
  apply n_d
  ·exact trivial
  refine bd (by kernel_rfl) ?_
  refine aV<|ak<|aB<|l_q rfl (ba rfl rfl) ?_
  refine mv rfl rfl<|aj ?_
  rw[← nj ht]
  apply aO ((i+1))
  ·exact⟨by omega,fun j hj=>by rcases Nat.lt_succ_iff_lt_or_eq.1 hj with q | rfl;exact hok j q;exact hno⟩
  ·omega
  ·exact⟨rfl,rfl,rfl,rfl,trivial⟩
  exact en
 obtain rfl:i=os.length:=by omega
 rw[List.take_length]
 refine xt rfl<|nz<|mv rfl rfl<|asg rfl rfl<|asg rfl rfl<|lc<|rt<|fr2 rfl ([pt b16 (.cells #[.map (some b14)] 192 (0,0)),cy (fun k:ByteArray=>Value.string k) b14 (bN os),A]) (.tmp rfl) (.tmp rfl) ?_
 exact .inr ⟨⟨by omega,fun k=>by rcases Nat.lt_or_ge k os.length with q | q;exact hok k q;exact fun o ho=>by rw[List.getElem?_eq_none q] at ho;cases ho⟩,b16,b14,rfl,rfl⟩
end Oracle
end Go.Proofs.YthkajgkagnenbaaGreatDoor
