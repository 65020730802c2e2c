import Derived.Test.YthkajgkagnenbaaGreatDoorPromo
set_option linter.unusedVariables false
set_option linter.unusedSimpArgs false
set_option linter.unusedSectionVars false
set_option maxRecDepth 100000
namespace Go.Proofs.YthkajgkagnenbaaGreatDoor
namespace Oracle
open Go.RowKit Go.Proofs Eng Ty Bits Mem CtrlB Ctrl
def dP (o:ByteArray×Int):List Value:=[.string o.1,.int .u64 o.2]
theorem ml (o:ByteArray×Int):(dP o).length=2:=rfl
theorem CN (o:ByteArray×Int):(dP o).all (·.oneCell')=true:=rfl
def jO (A:HP) (v:Value) (os:List (ByteArray×Int)):Prop:=∃ a cap,v=.slice a os.length cap∧(0 < os.length→∃ b o,a=some ⟨b,o,none⟩∧∀(i:Nat) t,os[i]?=some t→∀(j:Nat) x,(dP t)[j]?=some x→cr A ⟨b,o+i*2+j,none⟩ x)
theorem m7 {A:HP} {os:List (ByteArray×Int)} {b o i:Nat} {t:ByteArray×Int} (h:∀(i:Nat) t,os[i]?=some t→∀(j:Nat) x,(dP t)[j]?=some x→cr A ⟨b,o+i*2+j,none⟩ x) (ht:os[i]?=some t):
  cr A ⟨b,o+(i:Int).toNat*2+0,none⟩ (.string t.1)∧∀ j x,[Value.string t.1,.int .u64 t.2][j]?=some x→cr A ((⟨b,o+(i:Int).toNat*2,none⟩:Addr).add j) x:=by
 rw[Int.toNat_natCast]
 exact⟨h i t ht 0 _ rfl,fun j x hx=>by rw[cD];exact h i t ht j x hx⟩
theorem ti {a:Option Addr} {cap:Nat} {os:List (ByteArray×Int)} (h:0 < os.length→∃ g,a=some ⟨g,0,none⟩):jO (aE 134 2 (.slice a os.length cap) os.length (rowOf dP os)) (.slice a os.length cap) os:=
 ⟨a,cap,rfl,fun q=>by
  obtain⟨g,rfl⟩:=h q
  refine⟨g,0,rfl,fun i t ht j x hx=>?_⟩
  have hj:j < 2:=by have:=(List.getElem?_eq_some_iff.1 hx).1;rwa [ml] at this
  rw[Nat.zero_add]
  exact ko (by rw[dy ml os i j t ht hj];exact hx)⟩
def okO (os:List (ByteArray×Int)) (i:Nat):Prop:=∀ o,os[i]?=some o→1≤o.1.size∧o.1.size≤128∧∀ j p,j < i→os[j]?=some p→p.1≠o.1
def kB (os:List (ByteArray×Int)):Prop:=os.length≤64∧∀ i,okO os i
def np (os:List (ByteArray×Int)) (e:Int):Prop:=(64 < os.length∧e=40)∨(os.length≤64∧∃ i t,os[i]?=some t∧(∀ j,j < i→okO os j)∧
 (((t.1.size < 1∨128 < t.1.size)∧e=41)∨(1≤t.1.size∧t.1.size≤128∧(∃ j p,j < i∧os[j]?=some p∧p.1=t.1)∧e=42)))
theorem np.pos {os:List (ByteArray×Int)} {e:Int} (h:np os e):e≠0:=by
 rcases h with⟨_,rfl⟩ | ⟨_,i,t,_,_,⟨_,rfl⟩ | ⟨_,_,_,rfl⟩⟩ <;> decide
theorem np.first {os:List (ByteArray×Int)} {i:Nat} {t:ByteArray×Int} (ht:os[i]?=some t) (hb:(t.1.size < 1∨128 < t.1.size)∨∃ j p,j < i∧os[j]?=some p∧p.1=t.1):¬ okO os i:=fun h=>by
 obtain⟨h1,h2,h3⟩:=h t ht
 rcases hb with q | ⟨j,p,hj,hp,he⟩
 ·omega
 exact h3 j p hj hp he
theorem np.bad {os:List (ByteArray×Int)} {e:Int} (h:np os e) (hg:kB os):False:=by
 rcases h with⟨h1,_⟩ | ⟨_,i,t,ht,_,h⟩
 ·have:=hg.1;omega
 refine np.first ht ?_ (hg.2 i)
 rcases h with⟨h,_⟩ | ⟨_,_,h,_⟩
 ·exact .inl h
 exact .inr h
theorem np.same {os:List (ByteArray×Int)} {e e':Int} (h:np os e) (h':np os e'):e=e':=by
 rcases h with⟨h1,rfl⟩ | ⟨h1,i,t,ht,hf,h⟩
 ·rcases h' with⟨_,rfl⟩ | ⟨h2,_⟩
  ·rfl
  omega
 rcases h' with⟨h2,_⟩ | ⟨_,i',t',ht',hf',h'⟩
 ·omega
 have hb:(t.1.size < 1∨128 < t.1.size)∨∃ j p,j < i∧os[j]?=some p∧p.1=t.1:=by rcases h with⟨h,_⟩ | ⟨_,_,h,_⟩;exact .inl h;exact .inr h
 have hb':(t'.1.size < 1∨128 < t'.1.size)∨∃ j p,j < i'∧os[j]?=some p∧p.1=t'.1:=by rcases h' with⟨h,_⟩ | ⟨_,_,h,_⟩;exact .inl h;exact .inr h
 obtain rfl:i=i':=by
  rcases Nat.lt_trichotomy i i' with q | q | q
  ·exact absurd (hf' i q) (np.first ht hb)
  ·exact q
  exact absurd (hf i' q) (np.first ht' hb')
 rw[ht] at ht';cases ht'
 rcases h with⟨h,rfl⟩ | ⟨a1,a2,_,rfl⟩ <;> rcases h' with⟨h',rfl⟩ | ⟨b1,b2,_,rfl⟩
 ·rfl
 ·omega
 ·omega
 rfl
theorem gR (A:HP) (v:Value) (os:List (ByteArray×Int)) (hO:jO A v os):
  aG Tryz.prog 40 #[v] [A] (fun r L=>(∃ e,np os e∧r=.tuple #[.pointer none,.int .i64 e]∧L= [A])∨
   (kB os∧∃ b lv,r=.tuple #[.pointer (some ⟨b,0,none⟩),.int .i64 0]∧L= [A,pt b (.cells #[lv] 195 (0,0)),aE 134 2 lv os.length (rowOf dP os)])):=by
 obtain⟨a,cap,rfl,hO1⟩:=hO
 refine aq HG Tryz.func40 rfl rfl rfl fun Fr w0=>aR ?_
 refine sr<|asg rfl rfl<|asg rfl rfl<|lc<|ah<|sr<|mv rfl rfl<|l_q rfl (ql rfl jR)<|l_q rfl (qi rfl rfl (cT ·))<|lc<|aA rfl (fun h1=>?_) fun h1=>?_
 ·refine sr<|asg rfl rfl<|asg rfl rfl<|lc<|rt<|fr2 rfl ([A]) (.tmp rfl) (.tmp rfl) ?_
  exact .inl ⟨40,.inl ⟨by omega,rfl⟩,rfl,rfl⟩
 refine al<|nz ?_
 apply l_q rfl
 ·apply aQ rfl Ej D7
  exact aF.nil
 refine aP rfl rfl fun b11=>asg rfl rfl<|lc<|ah<|sr<|asg rfl rfl<|lc<|ay ?_
 refine fG (show Ent _ (pt b11 (.cells #[.slice none 0 0] 195 (0,0))::aE 134 2 (.slice none 0 0) 0 (rowOf dP (os.take 0))::A::Fr) from fun w h=>(ew h).perm (by simpa using .swap _ _ _)) ?_
 refine bw (fun x:Nat×Value=>x.1≤os.length∧∀ i,i < x.1→okO os i) (fun x=>[(0,.slice a os.length cap),(4,.pointer (some ⟨b11,0,none⟩)),(5,.int .i64 (x.1:Nat))]) (fun x=>pt b11 (.cells #[x.2] 195 (0,0))::aE 134 2 x.2 x.1 (rowOf dP (os.take x.1))::A::Fr) (fun x=>os.length-x.1) (0,.slice none 0 0) ⟨Nat.zero_le _,by omega⟩ ⟨rfl,rfl,rfl,trivial⟩ (by(exact en)) ?_
 rintro⟨i,lv⟩ ⟨hi,hok⟩
 dsimp only at hi hok ⊢
 refine ah<|sr<|mv rfl rfl<|mv rfl rfl<|l_q rfl (ql rfl jR)<|l_q rfl (qi rfl rfl (aS ·))<|lc<|aA rfl (fun h2=>?_) fun h2=>?_
 ·skip
  obtain⟨b,o,rfl,hO2⟩:=hO1 (by omega)
  obtain⟨t,ht⟩:∃ t,os[i]?=some t:=⟨os[i],List.getElem?_eq_getElem (by omega)⟩
  have hc:=m7 hO2 ht
  have hrow:rowOf dP (os.take i) ++ ([Value.agg #[.string t.1,.int .u64 t.2]].flatMap fun x=>x.cells.toList).toArray.toList=rowOf dP (os.take (i+1)):=by rw[List.take_add_one,ht,jd];simp[rowOf,dP];rfl
  refine al<|ak<|ah<|ay<|ah<|sr<|mv rfl rfl<|mv rfl rfl<|l_q rfl (aU rfl rfl jR iE (by omega)) ?_
  refine l_q rfl (qfa 0 rfl jW rfl rfl yS9)<|l_q rfl (bH (A:=A) rfl yA9 tk hc.1) ?_
  refine l_q rfl (qls rfl yU9)<|l_q rfl (qi rfl rfl (aS ·))<|mv rfl rfl<|bE (t:=25) rfl (fun h3=>?_) fun h3=>?_
  ·refine ar rfl rfl rfl rfl<|ar rfl rfl rfl rfl<|ar rfl rfl rfl rfl<|ar rfl rfl rfl rfl<|ar rfl rfl rfl rfl<|ar rfl rfl rfl rfl<|ar rfl rfl rfl rfl<|l_q rfl (aL rfl rfl)<|lc<|aX rfl<|sr<|asg rfl rfl<|asg rfl rfl<|lc<|rt<|fr2 rfl ([A]) (.tmp rfl) (.tmp rfl) ?_
   exact .inl ⟨41,.inr ⟨by omega,i,t,ht,hok,.inl ⟨by omega,rfl⟩⟩,rfl,rfl⟩
  refine au rfl rfl<|mv rfl rfl<|au rfl rfl<|mv rfl rfl<|au rfl rfl<|l_q rfl (aU rfl rfl jR iE (by omega)) ?_
  refine au rfl rfl<|l_q rfl (qfa 0 rfl jW rfl rfl yS9)<|au rfl rfl<|l_q rfl (bH (A:=A) rfl yA9 tk hc.1) ?_
  refine au rfl rfl<|l_q rfl (qls rfl yU9)<|au rfl rfl<|l_q rfl (qi rfl rfl (cT ·))<|l_q rfl (aL rfl rfl)<|lc<|aA rfl (fun h4=>?_) fun h4=>?_
  ·refine sr<|asg rfl rfl<|asg rfl rfl<|lc<|rt<|fr2 rfl ([A]) (.tmp rfl) (.tmp rfl) ?_
   exact .inl ⟨41,.inr ⟨by omega,i,t,ht,hok,.inl ⟨by omega,rfl⟩⟩,rfl,rfl⟩
  refine al<|ak<|ah<|sr<|asg rfl rfl<|lc<|ay ?_
  refine bw (fun j:Nat=>j≤i∧∀ k p,k < j→os[k]?=some p→p.1≠t.1) (fun j=>[(0,.slice (some ⟨b,o,none⟩) os.length cap),(4,.pointer (some ⟨b11,0,none⟩)),(5,.int .i64 (i:Nat)),(6,.int .i64 (j:Nat))]) (fun _=>pt b11 (.cells #[lv] 195 (0,0))::aE 134 2 lv i (rowOf dP (os.take i))::A::Fr) (fun j=>i-j) 0 ⟨Nat.zero_le _,fun k p hk=>by omega⟩ ⟨rfl,rfl,rfl,rfl,trivial⟩ (by(exact en)) ?_
  rintro j ⟨hj,hno⟩
  refine ah<|sr<|mv rfl rfl<|mv rfl rfl<|l_q rfl (qi rfl rfl (aS ·))<|lc<|aA rfl (fun h5=>?_) fun h5=>?_
  ·skip
   obtain⟨u,hu⟩:∃ u,os[j]?=some u:=⟨os[j],List.getElem?_eq_getElem (by omega)⟩
   have hcj:=m7 hO2 hu
   refine al<|ak<|ah<|ay<|ah<|aT mixed ?_
   apply dq 0 rfl
   ·exact yq (ai rfl)
   apply dq 1 rfl
   ·exact yq (ai rfl)
   apply dq 2 rfl
   ·exact yq (aU rfl rfl jR iE (by omega))
   apply dq 3 rfl
   ·exact yq (qfa 0 rfl jW rfl rfl yS9)
   apply dq 4 rfl
   ·exact yq (bH (A:=A) rfl yA9 tk hcj.1)
   apply dq 5 rfl
   ·exact yq (ai rfl)
   apply dq 6 rfl
   ·exact yq (ai rfl)
   apply dq 7 rfl
   ·exact yq (aU rfl rfl jR iE (by omega))
   apply dq 8 rfl
   ·exact yq (qfa 0 rfl jW rfl rfl yS9)
   apply dq 9 rfl
   ·exact yq (bH (A:=A) rfl yA9 tk hc.1)
   apply dq 10 rfl
   ·exact yq (qs rfl rfl (lY ·))
   refine bj (by kernel_rfl) ?_
   refine ak<|aA rfl (fun h6=>?_) fun h6=>?_
   ·refine sr<|asg rfl rfl<|asg rfl rfl<|lc<|rt<|fr2 rfl ([A]) (.tmp rfl) (.tmp rfl) ?_
    exact .inl ⟨42,.inr ⟨by omega,i,t,ht,hok,.inr ⟨by omega,by omega,⟨j,u,by omega,hu,h6⟩,rfl⟩⟩,rfl,rfl⟩
   refine al<|aV<|ak<|aB<|mv rfl rfl<|l_q rfl (ba rfl rfl) ?_
   refine asg rfl rfl<|aj ?_
   apply aO ((j+1))
   ·exact⟨by omega,fun k p hk hp=>by rcases Nat.lt_succ_iff_lt_or_eq.1 hk with q | rfl;exact hno k p q hp;rw[hu] at hp;cases hp;exact h6⟩
   ·omega
   ·exact⟨rfl,rfl,rfl,rfl,trivial⟩
   exact en
  obtain rfl:j=i:=by omega
  refine xt rfl<|ak<|aT mixed ?_
  apply dq 0 rfl
  ·exact yq (ai rfl)
  apply dq 1 rfl
  ·exact yq (ai rfl)
  apply dq 2 rfl
  ·exact yq (ad rfl)
  apply dq 3 rfl
  ·exact yq (qfa 0 rfl pS rfl rfl mO)
  apply dq 4 rfl
  ·exact yq (qld rfl n8)
  apply dq 5 rfl
  ·exact yq (ai rfl)
  apply dq 6 rfl
  ·exact yq (ai rfl)
  apply dq 7 rfl
  ·exact yq (aU rfl rfl jR iE (by omega))
  apply dq 8 rfl
  ·exact yq (eF (A:=A) (us:=[.string t.1,.int .u64 t.2]) rfl CH iE rfl tk hc.2)
  refine an [8,7,5,6] [4,3,2,1,0] 9 [(58,_)] gO ⟨rfl,trivial⟩ (by kernel_rfl) (by kernel_rfl) fun Ex=>?_
  refine ee (us:=[_]) rfl rfl jR iE vD rfl rfl rfl rfl rfl (fun b59=>?_)
  refine aj ?_
  apply n_d
  ·refine⟨?_,?_,?_,?_,?_,trivial⟩
   ·apply ya rfl rfl;exact yq (qld rfl n8)
   ·apply ya rfl rfl;exact yq (qfa 0 rfl pS rfl rfl mO)
   ·apply ya rfl rfl;exact yq (ad rfl)
   ·apply ya rfl rfl;exact yq (ai rfl)
   apply ya rfl rfl;exact yq (ai rfl)
  refine an [4,3,2,1] [0] 10 [(54,_),(59,_)] gO ⟨rfl,rfl,trivial⟩ (by kernel_rfl) (by kernel_rfl) fun Ex=>?_
  apply dT (sz:=2) rfl rfl rfl jR yz rfl rfl
  ·exact tk
  ·exact tk
  ·rfl
  ·rfl
  ·simp only[maxLen];omega
  ·omega
  intro v60
  refine du (v:=v60) tk fun _ hs60=>?_
  obtain⟨a60,cap60,rfl,hs60,_,_⟩:=hs60
  refine aj ?_
  apply n_d
  ·refine⟨?_,trivial⟩
   apply ya rfl rfl;exact yq (ai rfl)
  apply dq 11 rfl
  ·exact yq (ad rfl)
  apply dq 12 rfl
  ·exact yq (qfa 0 rfl pS rfl rfl mO)
  refine an [12,0,11] [] 13 [(62,_),(60,_)] gO ⟨rfl,rfl,trivial⟩ (by kernel_rfl) (by kernel_rfl) fun Ex=>?_
  refine st rfl rfl rfl mO rfl ?_
  refine aj ?_
  apply n_d
  ·exact trivial
  refine bj (by kernel_rfl) ?_
  refine aV<|ak<|aB<|mv rfl rfl<|l_q rfl (ba rfl rfl) ?_
  refine asg rfl rfl<|aj ?_
  rw[hrow]
  apply aO ((j+1,.slice a60 (j+1) cap60))
  ·exact⟨by dsimp only;omega,fun k hk=>by rcases Nat.lt_succ_iff_lt_or_eq.1 hk with q | rfl;exact hok k q;exact fun u hu=>by rw[ht] at hu;cases hu;exact⟨by omega,by omega,hno⟩⟩
  ·dsimp only;omega
  ·exact⟨rfl,rfl,rfl,trivial⟩
  exact en
 obtain rfl:i=os.length:=by omega
 rw[List.take_length]
 refine xt rfl<|nz<|mv rfl rfl<|asg rfl rfl<|asg rfl rfl<|lc<|rt<|fr2 rfl ([A,pt b11 (.cells #[lv] 195 (0,0)),aE 134 2 lv os.length (rowOf dP os)]) (.tmp rfl) (.tmp rfl) ?_
 exact .inr ⟨⟨by omega,fun k=>by rcases Nat.lt_or_ge k os.length with q | q;exact hok k q;exact fun o ho=>by rw[List.getElem?_eq_none q] at ho;cases ho⟩,b11,lv,rfl,rfl⟩
def bO (os:List (ByteArray×Int)):List (ByteArray×Value):=os.foldl (fun m o=>gF m o.1 (.int .u64 o.2)) []
theorem nb {os:List (ByteArray×Int)} {i:Nat} {t:ByteArray×Int} (ht:os[i]?=some t):bO (os.take (i+1))=gF (bO (os.take i)) t.1 (.int .u64 t.2):=by
 rw[List.take_add_one,ht];simp[bO]
theorem mu {os:List (ByteArray×Int)}:∀ {i:Nat} {k:ByteArray} {v:Value},i≤os.length→lkK (bO (os.take i)) k=some v→∃ j t,j < i∧os[j]?=some t∧t.1=k∧v=.int .u64 t.2
 | 0,k,v,_,h=>by simp[bO,lkK] at h
 | i+1,k,v,hi,h=>by
  obtain⟨t,ht⟩:∃ t,os[i]?=some t:=⟨os[i],List.getElem?_eq_getElem (by omega)⟩
  rw[nb ht,rE] at h
  split at h
  ·next q=>exact⟨i,t,by omega,ht,q,by cases h;rfl⟩
  obtain⟨j,u,h1,h2⟩:=mu (by omega) h
  exact⟨j,u,by omega,h2⟩
theorem rD {os:List (ByteArray×Int)} (hw:∀ o∈os,0≤o.2∧o.2 < 18446744073709551616):r9 (bO os):=fun k v h=>by
 rw[show bO os=bO (os.take os.length) by rw[List.take_length]] at h
 obtain⟨j,t,_,h2,_,rfl⟩:=mu (Nat.le_refl _) h
 exact⟨_,rfl,hw t (List.mem_of_getElem? h2)⟩
theorem oJ {os:List (ByteArray×Int)} {j:Nat} {p:ByteArray×Int}:∀ {i:Nat},j < i→i≤os.length→os[j]?=some p→(lkK (bO (os.take i)) p.1).isSome=true
 | 0,h,_,_=>by omega
 | i+1,h,hi,hp=>by
  obtain⟨t,ht⟩:∃ t,os[i]?=some t:=⟨os[i],List.getElem?_eq_getElem (by omega)⟩
  rw[nb ht,rE]
  split
  ·rfl
  next q=>
  rcases Nat.lt_succ_iff_lt_or_eq.1 h with q2 | rfl
  ·exact oJ q2 (by omega) hp
  rw[ht] at hp;cases hp;exact absurd rfl q
theorem tr (A:HP) (v:Value) (os:List (ByteArray×Int)) (hO:jO A v os):
  aG Tryz.prog 39 #[v] [A] (fun r L=>(∃ e,np os e∧r=.tuple #[.pointer none,.int .i64 e]∧L= [A])∨(kB os∧∃ po bm,r=.tuple #[.pointer (some ⟨po,0,none⟩),.int .i64 0]∧L= [pt po (.cells #[.map (some bm)] 192 (0,0)),cB (fun k:ByteArray=>Value.string k) bm (bO os),A])):=by
 obtain⟨a,cap,rfl,hO1⟩:=hO
 refine aq HH Tryz.func39 rfl rfl rfl fun Fr w0=>aR ?_
 refine sr<|asg rfl rfl<|asg rfl rfl<|lc<|ah<|sr<|mv rfl rfl<|l_q rfl (ql rfl jR)<|l_q rfl (qi rfl rfl (cT ·))<|lc<|aA rfl (fun h1=>?_) fun h1=>?_
 ·refine sr<|asg rfl rfl<|asg rfl rfl<|lc<|rt<|fr2 rfl ([A]) (.tmp rfl) (.tmp rfl) ?_
  exact .inl ⟨40,.inl ⟨by omega,rfl⟩,rfl,rfl⟩
 refine al<|nz<|mv rfl rfl<|l_q rfl (ql rfl jR) ?_
 refine uT (fun k:ByteArray=>Value.string k) rfl rfl vF (fun b14=>?_)
 apply l_q rfl
 ·apply aQ rfl Ek D8
  apply aF.one
  ·repeat (first | exact aH.here | apply aH.there)
  ·rfl
  ·exact sa
  exact aF.nil
 refine aP rfl rfl fun b16=>asg rfl rfl<|lc<|ah<|sr<|mv rfl rfl<|l_q rfl (ql rfl jR)<|mv rfl rfl<|lc<|ay ?_
 refine bw (fun i:Nat=>i≤os.length∧∀ j,j < i→okO os j) (fun i=>[(4,.pointer (some ⟨b16,0,none⟩)),(17,.slice a os.length cap),(18,.int .i64 (os.length:Nat)),(19,.int .i64 (i:Nat))]) (fun i=>pt b16 (.cells #[.map (some b14)] 192 (0,0))::cB (fun k:ByteArray=>Value.string k) b14 (bO (os.take i))::A::Fr) (fun i=>os.length-i) 0 ⟨Nat.zero_le _,by omega⟩ ⟨rfl,rfl,rfl,rfl,trivial⟩ (by(exact en)) ?_
 rintro i ⟨hi,hok⟩
 refine sr<|l_q rfl (qi rfl rfl (aS ·))<|lc<|ah<|aA rfl (fun h2=>?_) fun h2=>?_
 ·skip
  obtain⟨b,o,rfl,hO2⟩:=hO1 (by omega)
  obtain⟨t,ht⟩:∃ t,os[i]?=some t:=⟨os[i],List.getElem?_eq_getElem (by omega)⟩
  have hc:=m7 hO2 ht
  refine al<|ak<|ah<|ay<|sr<|l_q rfl (aU rfl rfl jR iE (by omega)) ?_
  refine l_q rfl (eF (A:=A) (us:=[.string t.1,.int .u64 t.2]) rfl CH iE rfl tk hc.2) ?_
  refine az rfl vD fun b6=>sta rfl rfl rfl iE rfl rfl ?_
  refine lc<|ah<|sr<|l_q rfl (qfa 0 rfl jW rfl rfl yS9)<|l_q rfl (qld rfl yA9) ?_
  refine l_q rfl (qs rfl rfl (lY ·))<|mv rfl rfl<|bE (t:=26) rfl (fun h3=>?_) fun h3=>?_
  ·skip
   have h0:t.1.size=0:=by rw[h3];rfl
   refine ar rfl rfl rfl rfl<|ar rfl rfl rfl rfl<|ar rfl rfl rfl rfl<|ar rfl rfl rfl rfl<|l_q rfl (aL rfl rfl)<|lc<|aX rfl<|sr<|asg rfl rfl<|asg rfl rfl<|lc<|rt<|fr2 rfl ([A]) (.tmp rfl) (.tmp rfl) ?_
   exact .inl ⟨41,.inr ⟨by omega,i,t,ht,hok,.inl ⟨by omega,rfl⟩⟩,rfl,rfl⟩
  refine au rfl rfl<|l_q rfl (qfa 0 rfl jW rfl rfl yS9)<|au rfl rfl<|l_q rfl (qld rfl yA9) ?_
  refine au rfl rfl<|l_q rfl (qls rfl yU9)<|au rfl rfl<|l_q rfl (qi rfl rfl (cT ·))<|l_q rfl (aL rfl rfl)<|lc<|aA rfl (fun h4=>?_) fun h4=>?_
  ·refine sr<|asg rfl rfl<|asg rfl rfl<|lc<|rt<|fr2 rfl ([A]) (.tmp rfl) (.tmp rfl) ?_
   exact .inl ⟨41,.inr ⟨by omega,i,t,ht,hok,.inl ⟨by omega,rfl⟩⟩,rfl,rfl⟩
  have h1s:1≤t.1.size:=by
   rcases Nat.eq_zero_or_pos t.1.size with q | q
   ·exact absurd (by apply ByteArray.ext;apply Array.eq_empty_of_size_eq_zero;exact q) h3
   exact q
  refine al<|ak<|ah<|ah<|aT mixed ?_
  apply dq 0 rfl
  ·exact yq (ai rfl)
  apply dq 1 rfl
  ·exact yq (ad rfl)
  apply dq 2 rfl
  ·exact yq (qfa 0 rfl yt rfl rfl yv)
  apply dq 3 rfl
  ·exact yq (qld rfl yD)
  apply dq 4 rfl
  ·exact yq (qfa 0 rfl jW rfl rfl yS9)
  apply dq 5 rfl
  ·exact yq (qld rfl yA9)
  apply dq 6 rfl
  ·apply yq
   apply kU uY rfl rfl vF yU9 D5
   exact tk
  apply dq 7 rfl
  ·exact yq (ai rfl)
  apply dq 8 rfl
  ·exact yq (aa rfl ga)
  apply dq 9 rfl
  ·exact yq (aa rfl ga)
  refine an [8,0,1,2,3,4,5,6,7] [9] 10 [(40,_)] gO ⟨rfl,trivial⟩ (by kernel_rfl) (by kernel_rfl) fun Ex=>?_
  refine asg rfl rfl<|aj ?_
  apply n_d
  ·refine⟨?_,trivial⟩
   apply ya rfl rfl;exact yq (aa rfl ga)
  refine an [9] [] 11 [(41,_)] gO ⟨rfl,trivial⟩ (by kernel_rfl) (by kernel_rfl) fun Ex=>?_
  refine asg rfl rfl<|aj ?_
  apply n_d
  ·exact trivial
  refine bj (by kernel_rfl) ?_
  refine nz<|mv rfl rfl<|lc<|aA rfl (fun h5=>?_) fun h5=>?_
  ·skip
   obtain⟨w,hw⟩:=Option.isSome_iff_exists.1 h5
   obtain⟨j,u,j1,j2,j3,_⟩:=mu (by omega) hw
   refine sr<|asg rfl rfl<|asg rfl rfl<|lc<|rt<|fr2 rfl ([A]) (.tmp rfl) (.tmp rfl) ?_
   exact .inl ⟨42,.inr ⟨by omega,i,t,ht,hok,.inr ⟨h1s,by omega,⟨j,u,j1,j2,j3⟩,rfl⟩⟩,rfl,rfl⟩
  have hno:okO os i:=fun o ho=>by
   rw[ht] at ho;cases ho
   exact⟨h1s,by omega,fun j p hj hp he=>by have h6:=oJ hj (by omega) hp;rw[he,h5] at h6;cases h6⟩
  refine al<|ak<|aT mixed ?_
  apply dq 0 rfl
  ·exact yq (ai rfl)
  apply dq 1 rfl
  ·exact yq (ad rfl)
  apply dq 2 rfl
  ·exact yq (qfa 0 rfl yt rfl rfl yv)
  apply dq 3 rfl
  ·exact yq (qld rfl yD)
  apply dq 4 rfl
  ·exact yq (qfa 0 rfl jW rfl rfl yS9)
  apply dq 5 rfl
  ·exact yq (qld rfl yA9)
  apply dq 6 rfl
  ·exact yq (qfa 1 rfl jW rfl rfl n4)
  apply dq 7 rfl
  ·exact yq (qld rfl jZ)
  refine an [3,5,7,0,1,2,4,6] [] 8 [(46,_),(48,_),(50,_)] gO ⟨rfl,rfl,rfl,trivial⟩ (by kernel_rfl) (by kernel_rfl) fun Ex=>?_
  apply gz uY rfl rfl rfl rfl vF yU9
  ·exact tk
  refine aj ?_
  apply n_d
  ·exact trivial
  refine bj (by kernel_rfl) ?_
  refine aV<|ak<|aB<|l_q rfl (ba rfl rfl) ?_
  refine mv rfl rfl<|aj ?_
  rw[← nb ht]
  apply aO ((i+1))
  ·exact⟨by omega,fun j hj=>by rcases Nat.lt_succ_iff_lt_or_eq.1 hj with q | rfl;exact hok j q;exact hno⟩
  ·omega
  ·exact⟨rfl,rfl,rfl,rfl,trivial⟩
  exact en
 obtain rfl:i=os.length:=by omega
 rw[List.take_length]
 refine xt rfl<|nz<|mv rfl rfl<|asg rfl rfl<|asg rfl rfl<|lc<|rt<|fr2 rfl ([pt b16 (.cells #[.map (some b14)] 192 (0,0)),cB (fun k:ByteArray=>Value.string k) b14 (bO os),A]) (.tmp rfl) (.tmp rfl) ?_
 exact .inr ⟨⟨by omega,fun k=>by rcases Nat.lt_or_ge k os.length with q | q;exact hok k q;exact fun o ho=>by rw[List.getElem?_eq_none q] at ho;cases ho⟩,b16,b14,rfl,rfl⟩
end Oracle
end Go.Proofs.YthkajgkagnenbaaGreatDoor
