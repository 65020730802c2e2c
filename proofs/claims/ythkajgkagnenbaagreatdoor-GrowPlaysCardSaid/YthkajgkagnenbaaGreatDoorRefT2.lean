/- The contracts of the document's own table. -/
import Derived.Test.YthkajgkagnenbaaGreatDoorRefT
set_option linter.unusedVariables false
set_option linter.unusedSimpArgs false
set_option linter.unusedSectionVars false
set_option maxRecDepth 100000
namespace Go.Proofs.YthkajgkagnenbaaGreatDoor
namespace RefT
open Go.RowKit Go.Proofs Eng Ty Bits Arena CtrlB Layout GroupB Probe TableB TableI Table Cells Exact RefA Ref03
theorem oj (s:Int) (h:0<=s/\s<=1048576):aK Tryz.prog 146 #[.int .i64 s] [] (fun v L=>v=.int .i64 (s / 8*7)/\L= []):=by
 refine au IL Tryz.func146 rfl rfl rfl fun Fr w0=>aZ ?_
 refine sr<|ar O O<|lz<|mv O O<|ad O (eT O O) ?_
 refine ad O (dA O O) ?_
 exact ar O O<|lc<|rt<|cN O ([]) (.tmp rfl) ⟨rfl,rfl⟩
section
variable (pr:Nat) (l:Lay) (x:PR) (hn:x.n<=8192) (hr:fu x.n x.T)
include hn hr
theorem D8 (hn0:0 < x.n) (h:Int) (hh:0<=h/\h < 18446744073709551616) (key:ByteArray):aK Tryz.prog 83 #[.pointer (some ⟨x.p,0,none⟩),.int .u64 h,.string key] [cz pr l x] (fun v L=>v=.tuple #[.bool (mr l x h key).1,.int .i64 (mr l x h key).2.1]/\L= [cz pr l {x with T:=(mr l x h key).2.2}]):=by
 have hus:=hr.used
 have hl0:=hr.left0
 have hl1:=hr.left1
 have hcle:=lM isFull x.T.cells (8*x.n)
 refine au JU Tryz.func83 rfl rfl rfl fun Fr w0=>aZ ?_
 refine sr<|ar O O<|ar O O<|lz<|mv O O<|mv O O<|mv O O<|bF O O O (CA pr l x hn hn0 h hh key) ?_
 refine mv O O<|ad O (aa O ga) ?_
 refine ad O (aa O ga) ?_
 refine ar O O<|ar O O<|lc<|al<|sr<|mv O O<|ad O (qi O O (bf ·))<|mv O O ?_
 have hfx:(kr l x h key).2=0->x.dead=false/\¬ (key.size:Int)≠l.key/\(kr l x h key).1=(bB (h / 128) x.n x.T.cells (h % 128) key).slot:=fun e=>by
  unfold kr at e ⊢
  cases hd:x.dead with
  | true=>rw[hd] at e;simp at e
  | false=>
   rw[hd] at e
   by_cases hk:(key.size:Int)≠l.key
   ·simp[hk] at e
   exact⟨rfl,hk,by simp[hk]⟩
 have hfy:¬ (kr l x h key).2=0->mr l x h key=(false,(kr l x h key).2,x.T):=fun e=>by
  unfold kr mr at *
  cases hd:x.dead with
  | true=>simp
  | false=>
   by_cases hk:(key.size:Int)≠l.key
   ·simp[hk]
   rw[hd] at e;simp[hk] at e
 refine bQ (t:=20) rfl (fun z1=>?_) fun z1=>?_
 ·skip
  rw[hfy z1]
  exact ax O O O O<|ax O O O O<|ad O (aS O O)<|lc<|bk O<|sr<|mv O O<|ar O O<|ar O O<|lc<|rt<|ft O ([cz pr l x]) (.tmp rfl) (.tmp rfl) ⟨rfl,rfl⟩
 refine aA O O<|mv O O<|aA O O<|ad O (qi O O (bj ·))<|ad O (aS O O)<|lc<|aG O (fun z2=>?_) fun z2=>?_
 ·skip
  obtain⟨a1,a2,a3⟩:=hfx (by simpa using z1)
  have e2:(kr l x h key).2=0:=by simpa using z1
  have hg:mr l x h key=(false,(kr l x h key).2,x.T):=by
   rw[a3] at z2
   unfold mr nw
   rw[e2]
   simp only[a1,if_neg a2,Bool.false_eq_true,if_false,if_neg (show ¬ 0<=(bB (h / 128) x.n x.T.cells (h % 128) key).slot by omega)]
  rw[hg]
  exact sr<|mv O O<|ar O O<|ar O O<|lc<|rt<|ft O ([cz pr l x]) (.tmp rfl) (.tmp rfl) ⟨rfl,rfl⟩
 obtain⟨a1,a2,a3⟩:=hfx (by simpa using z1)
 obtain⟨k,hk,hks,e0,b0,hcf⟩:=tZ x hn h key hn0 (by omega)
 have hko:(kr l x h key).1=((k:Nat):Int):=a3.trans hks
 have hpe:decide (cm (eh (ck x.T.cells (k / 8))) < 8)= !dK x.T.cells k:=by
  unfold dK
  cases e:bE (eh (ck x.T.cells (k / 8))) with
  | nil=>unfold cm;rw[e];rfl
  | cons a r=>
   have:=(dB (s:=eh (ck x.T.cells (k / 8))) (i:=a)).1 (by rw[e];simp)
   unfold cm;rw[e];simp;omega
 rw[hko]
 refine aq<|nz<|mv O O<|mv O O<|ad O (eT O O) ?_
 refine bF O O O (ox pr l x hn (k / 8) (by omega)) ?_
 rw[hpe]
 have hdt:mr l x h key=(true,0,{x.T with used:=x.T.used-1,left:=if dK x.T.cells k then x.T.left else x.T.left+1,cells:=cW x.T.cells k (if dK x.T.cells k then .deleted else .empty)}):=by
  unfold mr nw
  simp only[a1,if_neg a2,Bool.false_eq_true,if_false,hks,if_pos (show(0:Int)<=((k:Nat):Int) by omega),Int.toNat_natCast]
 rw[hdt]
 refine AX .here fun vc=>?_
 refine gM (.there .here) fun _ hvc=>?_
 obtain⟨a0,cap,rfl,ha,_,_⟩:=hvc
 obtain⟨g0,rfl⟩:=ha (by omega)
 have hlay:lay (rowOf cj (bO x.T.cells (8*x.n))) (0+((k:Nat):Int).toNat*5) (cj .deleted)=rowOf cj (bO (cW x.T.cells k .deleted) (8*x.n)):=by
  rw[Nat.zero_add,Int.toNat_natCast]
  exact AW x hn hr (g0:=g0) (cap:=cap) hk _
 have hupd:cW (cW x.T.cells k .deleted) k .empty=cW x.T.cells k .empty:=by
  funext j
  by_cases q:j=k
  ·subst q;rw[ek,ek]
  rw[fm _ q,fm _ q,fm _ q]
 have hset:(rowOf cj (bO (cW x.T.cells k .deleted) (8*x.n))).set (0+((k:Nat):Int).toNat*5+0) (.int .i64 0)=rowOf cj (bO (cW x.T.cells k .empty) (8*x.n)):=by
  rw[Nat.zero_add,Int.toNat_natCast,g7 mO (by decide) (bO (cW x.T.cells k .deleted) (8*x.n)) k (cW x.T.cells k .deleted k) (eV hk) (a':=.empty) (by rw[ek];rfl),k5 _ hk,hupd]
 cases hpb:dK x.T.cells k with
 | true=>
  refine ar O O<|lz<|mv O O<|ad O (ae O)<|ad O (aE 19 O bT O O eH)<|ad O (aI O eI) ?_
  refine mv O O ?_
  apply ad O
  ·apply bp O j9 dF
   apply aP.one
   ·repeat (first | exact ba.here | apply ba.there)
   ·rfl
   ·exact sa
   exact aP.nil
  refine ad O (aL O O ef bV (by omega)) ?_
  refine jI (us:=cj .deleted) rfl rfl rfl bV rfl rfl tk (by omega) hlay ?_
  refine lc<|al<|sr<|mv O O<|lc<|aG O (fun q=>?_) fun q=>?_
  ·cases q
  refine aq<|nz<|mv O O<|ad O (ae O)<|ad O (aE 12 O bT O O aN)<|ad O (aI O aX) ?_
  refine ad O (eJ O O) ?_
  refine ad O (ae O)<|ad O (aE 12 O bT O O aN)<|st O O O aN O ?_
  refine lz<|ar O O<|ar O O<|lc<|rt ?_
  apply aR (.inl rfl) ([cz pr l {x with T:={x.T with used:=x.T.used-1,cells:=cW x.T.cells k .deleted}}])
  ·apply cF O
   ·exact .tmp rfl
   exact .tmp rfl
  ·exact⟨rfl,rfl⟩
  refine bC (.slice (some ⟨g0,0,none⟩) (8*x.n) cap) ?_;(exact en)
 | false=>
  refine ar O O<|lz<|mv O O<|ad O (ae O)<|ad O (aE 19 O bT O O eH)<|ad O (aI O eI) ?_
  refine mv O O ?_
  apply ad O
  ·apply bp O j9 dF
   apply aP.one
   ·repeat (first | exact ba.here | apply ba.there)
   ·rfl
   ·exact sa
   exact aP.nil
  refine ad O (aL O O ef bV (by omega)) ?_
  refine jI (us:=cj .deleted) rfl rfl rfl bV rfl rfl tk (by omega) hlay ?_
  refine lc<|al<|sr<|mv O O<|lc<|aG O (fun q=>?_) fun q=>?_
  ·refine sr<|mv O O<|ad O (ae O)<|ad O (aE 19 O bT O O eH)<|ad O (aI O eI) ?_
   refine mv O O<|ad O (aL O O ef bV (by omega)) ?_
   refine ad O (aE 0 O cq O O aN) ?_
   refine ee O O O aN O tk (by omega) hset ?_
   refine lr<|mv O O<|ad O (ae O)<|ad O (aE 13 O bT O O aN)<|ad O (aI O aX) ?_
   refine ad O (bn O O) ?_
   refine ad O (ae O)<|ad O (aE 13 O bT O O aN)<|st O O O aN O ?_
   refine lz<|mv O O<|ad O (ae O)<|ad O (aE 12 O bT O O aN)<|ad O (aI O aX) ?_
   refine ad O (eJ O O) ?_
   refine ad O (ae O)<|ad O (aE 12 O bT O O aN)<|st O O O aN O ?_
   refine lz<|ar O O<|ar O O<|lc<|rt ?_
   apply aR (.inl rfl) ([cz pr l {x with T:={x.T with used:=x.T.used-1,left:=x.T.left+1,cells:=cW x.T.cells k .empty}}])
   ·apply cF O
    ·exact .tmp rfl
    exact .tmp rfl
   ·exact⟨rfl,rfl⟩
   refine bC (.slice (some ⟨g0,0,none⟩) (8*x.n) cap) ?_;(exact en)
  cases q
theorem vC (k:Int):aK Tryz.prog 67 #[.pointer (some ⟨x.p,0,none⟩),.int .i64 k] [cz pr l x] (fun v L=>v=.tuple #[.agg #[.int .i64 (fP x k).1.kind,.int .i64 (fP x k).1.tagI,.string (fP x k).1.keyS,.string (fP x k).1.elemS,.int .i64 (fP x k).1.birthI],.int .i64 (fP x k).2]/\L= [cz pr l x]):=by
 refine au J5 Tryz.func67 rfl rfl rfl fun Fr w0=>aZ ?_
 refine cL .here fun vc=>?_
 refine bU (.there .here) fun _ hvc=>?_
 obtain⟨a0,cap,rfl,ha,_,_⟩:=hvc
 refine sr<|ay O dF fun b4=>ar O O<|lc<|al<|sr<|mv O O<|ad O (ae O)<|ad O (aE 18 O bT O O j6)<|ad O (aI O nH) ?_
 refine lc<|aG O (fun z=>?_) fun z=>?_
 ·skip
  have hc:fP x k=(.empty,24):=by unfold fP;rw[if_pos z]
  rw[hc]
  refine sr ?_
  apply ad O
  ·apply bp O j9 dF
   exact aP.nil
  refine bZ O O O bV O O ?_
  refine ar O O<|lc<|rt ?_
  apply aR (.inl rfl) ([cz pr l x])
  ·apply cF O
   ·apply Rv.agg rfl
    ·exact tk
    exact aJ fj bV O
   exact .tmp rfl
  ·exact⟨rfl,rfl⟩
  refine bC (.slice a0 (8*x.n) cap) ?_;(exact en)
 refine aq<|an<|al<|sr<|mv O O<|ad O (qi O O (bj ·))<|mv O O<|bQ (t:=13) rfl (fun z1=>?_) fun z1=>?_
 ·skip
  have hc:fP x k=(.empty,60):=by unfold fP;rw[if_neg (by simp[z]),if_pos (.inl z1)]
  rw[hc]
  refine ax O O O O<|ax O O O O<|ax O O O O<|ax O O O O<|ax O O O O<|ax O O O O<|ax O O O O<|ad O (aS O O)<|lc<|bk O<|sr ?_
  apply ad O
  ·apply bp O j9 dF
   exact aP.nil
  refine bZ O O O bV O O ?_
  refine ar O O<|lc<|rt ?_
  apply aR (.inl rfl) ([cz pr l x])
  ·apply cF O
   ·apply Rv.agg rfl
    ·exact tk
    exact aJ fj bV O
   exact .tmp rfl
  ·exact⟨rfl,rfl⟩
  refine bC (.slice a0 (8*x.n) cap) ?_;(exact en)
 refine aA O O<|mv O O<|aA O O<|mv O O<|aA O O<|ad O (ae O)<|aA O O<|ad O (aE 19 O bT O O eH)<|aA O O<|ad O (aI O eI) ?_
 refine aA O O<|ad O (ql O ef)<|aA O O<|ad O (qi O O (iC ·))<|ad O (aS O O)<|lc<|aG O (fun z2=>?_) fun z2=>?_
 ·skip
  have hc:fP x k=(.empty,60):=by unfold fP;rw[if_neg (by simp[z]),if_pos (.inr (by omega))]
  rw[hc]
  refine sr ?_
  apply ad O
  ·apply bp O j9 dF
   exact aP.nil
  refine bZ O O O bV O O ?_
  refine ar O O<|lc<|rt ?_
  apply aR (.inl rfl) ([cz pr l x])
  ·apply cF O
   ·apply Rv.agg rfl
    ·exact tk
    exact aJ fj bV O
   exact .tmp rfl
  ·exact⟨rfl,rfl⟩
  refine bC (.slice a0 (8*x.n) cap) ?_;(exact en)
 obtain⟨j,rfl⟩:=Int.eq_ofNat_of_zero_le (show 0<=k by omega)
 obtain⟨g0,rfl⟩:=ha (by omega)
 have hc:fP x ((j:Nat):Int)=(x.T.cells j,0):=by unfold fP;rw[if_neg (by simp[z]),if_neg (by omega),Int.toNat_natCast]
 rw[hc]
 refine aq<|nz<|mv O O<|ad O (ae O)<|ad O (aE 19 O bT O O eH)<|ad O (aI O eI) ?_
 refine mv O O<|ad O (aL O O ef bV (by omega)) ?_
 apply ad O
 ·apply cg (A:=aF 142 5 (.slice (some ⟨g0,0,none⟩) (8*x.n) cap) (8*x.n) (rowOf cj (bO x.T.cells (8*x.n)))) (us:=[.int .i64 (x.T.cells j).kind,.int .i64 (x.T.cells j).tagI,.string (x.T.cells j).keyS,.string (x.T.cells j).elemS,.int .i64 (x.T.cells j).birthI]) rfl fj bV rfl
  ·exact tk
  exact tg x hn (k:=j) (by omega) _ (by omega)
 refine bZ O O O bV O O ?_
 refine ar O O<|lc<|rt ?_
 apply aR (.inl rfl) ([cz pr l x])
 ·apply cF O
  ·apply Rv.agg rfl
   ·exact tk
   exact aJ fj bV O
  exact .tmp rfl
 ·exact⟨rfl,rfl⟩
 refine bC (.slice (some ⟨g0,0,none⟩) (8*x.n) cap) ?_;(exact en)
theorem vt:aK Tryz.prog 66 #[.pointer (some ⟨x.p,0,none⟩)] [cz pr l x] (fun v L=>v=.tuple #[.agg (kg x).1,.int .i64 (kg x).2]/\L= [cz pr l x]):=by
 refine au J6 Tryz.func66 rfl rfl rfl fun Fr w0=>aZ ?_
 refine cL .here fun vc=>?_
 refine bU (.there .here) fun _ hvc=>?_
 obtain⟨a0,cap,rfl,ha,_,_⟩:=hvc
 refine sr<|ay O da fun b2=>ar O O<|lc<|al<|sr<|mv O O<|ad O (ae O)<|ad O (aE 18 O bT O O j6)<|ad O (aI O nH) ?_
 refine lc<|aG O (fun z=>?_) fun z=>?_
 ·skip
  have hc:kg x=(#[.int .i64 0,.int .i64 0,.int .i64 0,.int .i64 0,.int .i64 0,.int .i64 0,.bool false,.int .i64 0],24):=by unfold kg;rw[if_pos z]
  rw[hc]
  refine sr ?_
  apply ad O
  ·apply bp O tI da
   exact aP.nil
  refine bZ O O O cl O O ?_
  refine ar O O<|lc<|rt ?_
  apply aR (.inl rfl) ([cz pr l x])
  ·apply cF O
   ·apply Rv.agg rfl
    ·exact tk
    exact aJ eY cl O
   exact .tmp rfl
  ·exact⟨rfl,rfl⟩
  refine bC (.slice a0 (8*x.n) cap) ?_;(exact en)
 have hc:kg x=(#[.int .i64 x.T.used,.int .i64 ((8*x.n:Nat):Int),.int .i64 x.T.left,.int .i64 x.T.depth,.int .i64 x.T.pins,.int .i64 x.T.next,.bool (decide (x.T.kind=4)),.int .i64 (x.go:Nat)],0):=by unfold kg;rw[if_neg (by simp[z])];rfl
 rw[hc]
 refine aq<|an<|al<|aY mixed ?_
 apply dq 0 O (yq (ah O))
 apply dq 1 O (yq (ae O))
 apply dq 2 O (yq (aE 12 O bT O O aN))
 apply dq 3 O (yq (aI O aX))
 apply dq 4 O (yq (ah O))
 apply dq 5 O (yq (ae O))
 apply dq 6 O (yq (aE 19 O bT O O eH))
 apply dq 7 O (yq (aI O eI))
 apply dq 8 O (yq (ql O ef))
 apply dq 9 O (yq (ah O))
 apply dq 10 O (yq (ae O))
 apply dq 11 O (yq (aE 13 O bT O O aN))
 apply dq 12 O (yq (aI O aX))
 apply dq 13 O (yq (ah O))
 apply dq 14 O (yq (ae O))
 apply dq 15 O (yq (aE 14 O bT O O aN))
 apply dq 16 O (yq (aI O aX))
 apply dq 17 O (yq (ah O))
 apply dq 18 O (yq (ae O))
 apply dq 19 O (yq (aE 15 O bT O O aN))
 apply dq 20 O (yq (aI O aX))
 apply dq 21 O (yq (ah O))
 apply dq 22 O (yq (ae O))
 apply dq 23 O (yq (aE 16 O bT O O aN))
 apply dq 24 O (yq (aI O aX))
 apply dq 25 O (yq (ah O))
 apply dq 26 O (yq (ae O))
 apply dq 27 O (yq (aE 17 O bT O O j6))
 apply dq 28 O (yq (aI O nH))
 apply dq 29 O (yq (ah O))
 apply dq 30 O (yq (ae O))
 apply dq 31 O (yq (aE 11 O bT O O aN))
 apply dq 32 O (yq (aI O aX))
 apply dq 33 O
 ·apply yq
  apply bp O tI da
  apply aP.one
  ·repeat (first | exact ba.here | apply ba.there)
  ·rfl
  ·exact sa
  apply aP.one
  ·repeat (first | exact ba.here | apply ba.there)
  ·rfl
  ·exact sa
  apply aP.one
  ·repeat (first | exact ba.here | apply ba.there)
  ·rfl
  ·exact sa
  apply aP.one
  ·repeat (first | exact ba.here | apply ba.there)
  ·rfl
  ·exact sa
  apply aP.one
  ·repeat (first | exact ba.here | apply ba.there)
  ·rfl
  ·exact sa
  apply aP.one
  ·repeat (first | exact ba.here | apply ba.there)
  ·rfl
  ·exact sa
  apply aP.one
  ·repeat (first | exact ba.here | apply ba.there)
  ·rfl
  ·exact sa
  apply aP.one
  ·repeat (first | exact ba.here | apply ba.there)
  ·rfl
  ·exact sa
  exact aP.nil
 refine ak [33,0,1,2,3,4,5,6,7,8,9,10,11,12,13,14,15,16,17,18,19,20,21,22,23,24,25,26,27,28,29,30,31,32] [] 34 [(2,_),(42,_)] gO ⟨rfl,rfl,trivial⟩ (by kernel_rfl) (by kernel_rfl) fun Ex=>?_
 refine bZ O O O cl O O ?_
 refine ai ?_
 refine aQ trivial ?_
 refine ak [] [] 35 [] gO trivial (by kernel_rfl) (by kernel_rfl) fun Ex=>?_
 refine ar O O<|ai ?_
 refine aQ trivial ?_
 refine aV (by kernel_rfl) ?_
 refine an<|rt ?_
 apply aR (.inl rfl) ([cz pr l x])
 ·apply cF O
  ·apply Rv.agg rfl
   ·exact tk
   exact aJ eY cl O
  exact .tmp rfl
 ·exact⟨rfl,rfl⟩
 refine bC (.slice a0 (8*x.n) cap) ?_;(exact en)
theorem D6 (v:Int) (hv:-9223372036854775808<=v/\v<=9223372036854775807):aK Tryz.prog 87 #[.pointer (some ⟨x.p,0,none⟩),.int .i64 v] [cz pr l x] (fun r L=>r=.tuple #[.int .i64 (jG x v).1,.int .i64 (jG x v).2.1]/\L= [cz pr l {x with T:=(jG x v).2.2}]):=by
 have hp:=hr.pins
 have hneg:IntKind.i64.wrap (0-x.T.pins)= -x.T.pins:=by rw[wrap_i64 (by omega)];omega
 refine au JS Tryz.func87 rfl rfl rfl fun Fr w0=>aZ ?_
 refine cL .here fun vc=>?_
 refine sr<|ar O O<|ar O O<|lc<|al<|sr<|mv O O<|ad O (ae O)<|ad O (aE 18 O bT O O j6)<|ad O (aI O nH) ?_
 refine lc<|aG O (fun z=>?_) fun z=>?_
 ·skip
  have hc:jG x v=(0,24,x.T):=by unfold jG;rw[if_pos z]
  rw[hc]
  refine sr<|ar O O<|ar O O<|lc<|rt ?_
  apply aR (.inl rfl) ([cz pr l x])
  ·apply cF O
   ·exact .tmp rfl
   exact .tmp rfl
  ·exact⟨rfl,rfl⟩
  refine bC vc ?_;(exact en)
 refine aq<|an<|al<|sr<|mv O O<|mv O O<|ad O (ae O)<|ad O (aE 15 O bT O O aN)<|ad O (aI O aX) ?_
 refine ad O (db O (tT ·))<|ad O (qi O O (bj ·))<|mv O O<|bQ (t:=17) rfl (fun z1=>?_) fun z1=>?_
 ·skip
  rw[hneg] at z1
  have hc:jG x v=(0,83,x.T):=by unfold jG;rw[if_neg (by simp[z]),if_pos (.inl z1)]
  rw[hc]
  refine ax O O O O<|ax O O O O<|ax O O O O<|ax O O O O<|ax O O O O<|ax O O O O<|ax O O O O<|ad O (aS O O)<|lc<|bk O<|sr<|ar O O<|ar O O<|lc<|rt ?_
  apply aR (.inl rfl) ([cz pr l x])
  ·apply cF O
   ·exact .tmp rfl
   exact .tmp rfl
  ·exact⟨rfl,rfl⟩
  refine bC vc ?_;(exact en)
 rw[hneg] at z1
 refine aA O O<|mv O O<|aA O O<|mv O O<|aA O O<|ad O (ae O)<|aA O O<|ad O (aE 15 O bT O O aN)<|aA O O<|ad O (aI O aX) ?_
 refine aA O O<|ad O (eJ O O) ?_
 refine aA O O<|ad O (qi O O (di ·))<|ad O (aS O O)<|lc<|aG O (fun z2=>?_) fun z2=>?_
 ·skip
  have hc:jG x v=(0,83,x.T):=by unfold jG;rw[if_neg (by simp[z]),if_pos (.inr z2)]
  rw[hc]
  refine sr<|ar O O<|ar O O<|lc<|rt ?_
  apply aR (.inl rfl) ([cz pr l x])
  ·apply cF O
   ·exact .tmp rfl
   exact .tmp rfl
  ·exact⟨rfl,rfl⟩
  refine bC vc ?_;(exact en)
 have hc:jG x v=(x.T.pins+v,0,{x.T with pins:=x.T.pins+v}):=by unfold jG;rw[if_neg (by simp[z]),if_neg (by omega)]
 rw[hc]
 refine aq<|nz<|mv O O<|mv O O<|ad O (ae O)<|ad O (aE 15 O bT O O aN)<|ad O (aI O aX) ?_
 refine mv O O<|ad O (bn O O) ?_
 refine ad O (ae O)<|ad O (aE 15 O bT O O aN)<|st O O O aN O ?_
 refine lz<|mv O O<|ad O (ae O)<|ad O (aE 15 O bT O O aN)<|ad O (aI O aX) ?_
 refine ar O O<|ar O O<|lc<|rt ?_
 apply aR (.inl rfl) ([cz pr l {x with T:={x.T with pins:=x.T.pins+v}}])
 ·apply cF O
  ·exact .tmp rfl
  exact .tmp rfl
 ·exact⟨rfl,rfl⟩
 refine bC vc ?_;(exact en)
theorem xo (v:Int):aK Tryz.prog 89 #[.pointer (some ⟨x.p,0,none⟩),.int .i64 v] [cz pr l x] (fun r L=>r=.int .i64 (fT x v).1/\L= [cz pr l {x with T:=(fT x v).2}]):=by
 refine au JR Tryz.func89 rfl rfl rfl fun Fr w0=>aZ ?_
 refine cL .here fun vc=>?_
 refine sr<|ar O O<|lc<|al<|sr<|mv O O<|ad O (ae O)<|ad O (aE 18 O bT O O j6)<|ad O (aI O nH) ?_
 refine lc<|aG O (fun z=>?_) fun z=>?_
 ·skip
  have hc:fT x v=(24,x.T):=by unfold fT;rw[if_pos z]
  rw[hc]
  refine sr<|ar O O<|lc<|rt ?_
  apply aR (.inl rfl) ([cz pr l x])
  ·apply cP O
   exact .tmp rfl
  ·exact⟨rfl,rfl⟩
  refine bC vc ?_;(exact en)
 have hc:fT x v=(0,{x.T with next:=v,kind:=4}):=by unfold fT;rw[if_neg (by simp[z])]
 rw[hc]
 refine aq<|nz<|mv O O<|ad O (ae O)<|ad O (aE 17 O bT O O j6)<|st O O O j6 O ?_
 refine lz<|mv O O<|mv O O<|ad O (ae O)<|ad O (aE 16 O bT O O aN)<|st O O O aN O ?_
 refine lz<|ar O O<|lc<|rt ?_
 apply aR (.inl rfl) ([cz pr l {x with T:={x.T with next:=v,kind:=4}}])
 ·apply cP O
  exact .tmp rfl
 ·exact⟨rfl,rfl⟩
 refine bC vc ?_;(exact en)
theorem Cw (v:Int) (hv:-9223372036854775808<=v/\v<=9223372036854775807):aK Tryz.prog 85 #[.pointer (some ⟨x.p,0,none⟩),.int .i64 v] [cz pr l x] (fun r L=>r=.int .i64 (iL x v).1/\L= [cz pr l {x with T:=(iL x v).2}]):=by
 have hl0:=hr.left0
 have hl1:=hr.left1
 have hneg:IntKind.i64.wrap (0-x.T.left)= -x.T.left:=by rw[wrap_i64 (by omega)];omega
 refine au JT Tryz.func85 rfl rfl rfl fun Fr w0=>aZ ?_
 refine cL .here fun vc=>?_
 refine bU (.there .here) fun _ hvc=>?_
 obtain⟨a0,cap,rfl,ha,_,_⟩:=hvc
 refine sr<|ar O O<|lc<|al<|sr<|mv O O<|ad O (ae O)<|ad O (aE 18 O bT O O j6)<|ad O (aI O nH) ?_
 refine lc<|aG O (fun z=>?_) fun z=>?_
 ·skip
  have hc:iL x v=(24,x.T):=by unfold iL;rw[if_pos z]
  rw[hc]
  refine sr<|ar O O<|lc<|rt ?_
  apply aR (.inl rfl) ([cz pr l x])
  ·apply cP O
   exact .tmp rfl
  ·exact⟨rfl,rfl⟩
  refine bC (.slice a0 (8*x.n) cap) ?_;(exact en)
 refine aq<|nz<|ar O O<|lc<|al<|sr<|ar O O<|lc<|aB ?_
 refine bK (fun i:Nat=>i<=8*x.n) (fun i=>[(0,.pointer (some ⟨x.p,0,none⟩)),(1,.int .i64 v),(5,.int .i64 (nK x.T.cells i:Nat)),(6,.int .i64 (i:Nat))]) (fun _=>pt x.p (.cells #[.pointer (some ⟨pr,0,none⟩),.int .i64 l.key,.int .i64 l.elem,.int .i64 l.ka,.int .i64 l.ea,.int .i64 l.cap,.int .i64 l.eo,.int .i64 l.bo,.int .i64 l.slot,.int .i64 l.group,.int .i64 (x.off:Nat),.int .i64 (x.go:Nat),.int .i64 x.T.used,.int .i64 x.T.left,.int .i64 x.T.depth,.int .i64 x.T.pins,.int .i64 x.T.next,.bool (decide (x.T.kind=4)),.bool x.dead,(.slice a0 (8*x.n) cap)] 45 (0,0))::aF 142 5 (.slice a0 (8*x.n) cap) (8*x.n) (rowOf cj (bO x.T.cells (8*x.n)))::Fr) (fun i=>8*x.n-i) 0 (Nat.zero_le _) ⟨rfl,rfl,rfl,rfl,trivial⟩ (by(exact en)) ?_
 intro i hi
 refine al<|sr<|mv O O<|mv O O<|ad O (ae O)<|ad O (aE 19 O bT O O eH)<|ad O (aI O eI) ?_
 refine ad O (ql O ef)<|ad O (qi O O (bj ·))<|lc<|aG O (fun h1=>?_) fun h1=>?_
 ·skip
  obtain⟨g0,rfl⟩:=ha (by omega)
  have hkind:(rowOf cj (bO x.T.cells (8*x.n)))[0+((i:Nat):Int).toNat*5+0]?=some (.int .i64 (x.T.cells i).kind):=by
   rw[show 0+((i:Nat):Int).toNat*5+0=i*5+0 by omega,fI x.T.cells (by omega) 0 (by decide)]
   rfl
  have hts:nK x.T.cells (i+1)=nK x.T.cells i+if(!dz (x.T.cells i))=true then 1 else 0:=cI _ _ _
  have htl:=lM (fun c=>!dz c) x.T.cells i
  have hts2:nK x.T.cells i<=i:=htl
  refine aq<|an<|al<|aB<|sr<|mv O O<|ad O (ae O)<|ad O (aE 19 O bT O O eH)<|ad O (aI O eI) ?_
  refine mv O O<|ad O (aL O O ef bV (by omega)) ?_
  refine ad O (aE 0 O cq O O aN) ?_
  apply ad O
  ·apply aT O aX
   ·exact tk
   exact hkind
  refine ad O (qi O O (bf ·))<|lc<|aG O (fun q=>?_) fun q=>?_
  ·skip
   have hne:dz (x.T.cells i)=false:=by cases he:dz (x.T.cells i) with | false=>rfl | true=>exact absurd (kX.2 he) q
   rw[hne] at hts
   simp only[Bool.not_false,if_true] at hts
   refine aD<|mv O O<|ad O (bn O O) ?_
   refine ar O O<|ai<|bz<|an<|aD<|mv O O<|ad O (bn O O) ?_
   refine ar O O<|ai ?_
   apply aU ((i+1))
   ·exact by omega
   ·omega
   ·exact⟨rfl,rfl,congrArg (fun z=>some (Value.int .i64 z)) (by omega),rfl,trivial⟩
   exact en
  have hne:dz (x.T.cells i)=true:=kX.1 (by simpa using q)
  rw[hne] at hts
  simp only[Bool.not_true,Bool.false_eq_true,if_false] at hts
  refine aq<|bz<|an<|aD<|mv O O<|ad O (bn O O) ?_
  refine ar O O<|ai ?_
  apply aU ((i+1))
  ·exact by omega
  ·omega
  ·exact⟨rfl,rfl,congrArg (fun z=>some (Value.int .i64 z)) (by omega),rfl,trivial⟩
  exact en
 obtain rfl:i=8*x.n:=by omega
 have hte:=AG x.T.cells (8*x.n)
 refine xt O<|an<|al<|al<|aY mixed ?_
 apply dq 0 O (yq (ah O))
 apply dq 1 O (yq (ah O))
 apply dq 2 O (yq (ae O))
 apply dq 3 O (yq (aE 13 O bT O O aN))
 apply dq 4 O (yq (aI O aX))
 apply dq 5 O (yq (db O (tT ·)))
 apply dq 6 O (yq (qi O O (bj ·)))
 apply dq 7 O (yq (ah O))
 rw[hneg]
 refine n6 (t:=38) rfl (fun p1=>?_) fun p1=>?_
 ·skip
  have hc:iL x v=(82,x.T):=by unfold iL;rw[if_neg (by simp[z]),if_pos (.inl p1)]
  rw[hc]
  apply dq 8 O (bW O O O (by intro k;simp))
  apply dq 9 O (bW O O O (by intro k;simp))
  apply dq 10 O (bW O O O (by intro k;simp))
  apply dq 11 O (bW O O O (by intro k;simp))
  apply dq 12 O (bW O O O (by intro k;simp))
  apply dq 13 O (bW O O O (by intro k;simp))
  apply dq 15 O (bW O O O (by intro k;simp))
  apply dq 17 O (bW O O O (by intro k;simp))
  apply dq 18 O (bW O O O (by intro k;simp))
  apply dq 19 O (bW O O O (by intro k;simp))
  apply dq 20 O (bW O O O (by intro k;simp))
  refine ak [13,7,12,6,11,0,5,10,4,9,3,2,1] [20,19,18,17,15,8] 14 [(44,_),(38,_)] gO ⟨rfl,rfl,trivial⟩ (by kernel_rfl) (by kernel_rfl) fun Ex=>?_
  refine ax O O O O<|ai ?_
  refine aQ ⟨ya O O (bW O O O (by intro k;simp)),ya O O (bW O O O (by intro k;simp)),ya O O (bW O O O (by intro k;simp)),ya O O (bW O O O (by intro k;simp)),ya O O (bW O O O (by intro k;simp)),ya O O (bW O O O (by intro k;simp)),trivial⟩ ?_
  apply dq 16 O (bW O O O (by intro k;simp))
  apply dq 21 O (bW O O O (by intro k;simp))
  apply dq 22 O (bW O O O (by intro k;simp))
  apply dq 23 O (yq (aS O O))
  refine aV (by kernel_rfl) ?_
  refine an<|bk O<|sr<|ar O O<|lc<|rt ?_
  apply aR (.inl rfl) ([cz pr l x])
  ·apply cP O
   exact .tmp rfl
  ·exact⟨rfl,rfl⟩
  refine bC (.slice a0 (8*x.n) cap) ?_;(exact en)
 apply dq 8 O (bD O O (ah O))
 apply dq 9 O (bD O O (ah O))
 apply dq 10 O (bD O O (ae O))
 apply dq 11 O (bD O O (aE 19 O bT O O eH))
 apply dq 12 O (bD O O (aI O eI))
 apply dq 13 O (bD O O (ql O ef))
 apply dq 15 O (bD O O (ah O))
 apply dq 17 O (bD O O (ah O))
 apply dq 18 O (bD O O (ae O))
 apply dq 19 O (bD O O (aE 13 O bT O O aN))
 apply dq 20 O (bD O O (aI O aX))
 refine ak [13,7,12,6,11,0,5,10,4,9,3,2,1] [20,19,18,17,15,8] 14 [(44,_),(38,_)] gO ⟨rfl,rfl,trivial⟩ (by kernel_rfl) (by kernel_rfl) fun Ex=>?_
 refine aA O O<|cT O O O (oj _ (by omega)) ?_
 rintro v2 L' ⟨rfl,rfl⟩
 refine bx ?_
 refine ai ?_
 refine aQ ⟨ya O O (bD O O (aI O aX)),ya O O (bD O O (aE 13 O bT O O aN)),ya O O (bD O O (ae O)),ya O O (bD O O (ah O)),ya O O (bD O O (ah O)),ya O O (bD O O (ah O)),trivial⟩ ?_
 apply dq 16 O (bD O O (eJ O O))
 apply dq 21 O (bD O O (eJ O O))
 apply dq 22 O (bD O O (qi O O (di ·)))
 apply dq 23 O (yq (aS O O))
 refine aV (by kernel_rfl) ?_
 refine an<|aG O (fun p2=>?_) fun p2=>?_
 ·skip
  have hc:iL x v=(82,x.T):=by unfold iL;rw[if_neg (by simp[z]),if_pos (.inr (by omega))]
  rw[hc]
  refine sr<|ar O O<|lc<|rt ?_
  apply aR (.inl rfl) ([cz pr l x])
  ·apply cP O
   exact .tmp rfl
  ·exact⟨rfl,rfl⟩
  refine bC (.slice a0 (8*x.n) cap) ?_;(exact en)
 have hc:iL x v=(0,{x.T with left:=x.T.left+v}):=by unfold iL;rw[if_neg (by simp[z]),if_neg (by omega)]
 rw[hc]
 refine aq<|nz<|mv O O<|mv O O<|ad O (ae O)<|ad O (aE 13 O bT O O aN)<|ad O (aI O aX) ?_
 refine mv O O<|ad O (bn O O) ?_
 refine ad O (ae O)<|ad O (aE 13 O bT O O aN)<|st O O O aN O ?_
 refine lz<|ar O O<|lc<|rt ?_
 apply aR (.inl rfl) ([cz pr l {x with T:={x.T with left:=x.T.left+v}}])
 ·apply cP O
  exact .tmp rfl
 ·exact⟨rfl,rfl⟩
 refine bC (.slice a0 (8*x.n) cap) ?_;(exact en)
theorem oh (s:ArS) (hs:s.ok) (hlv:x.dead=false->x.off≠x.go/\(∃ c,(((x.off:Nat):Int),c)∈s.bl)/\∃ c,(((x.go:Nat):Int),c)∈s.bl):aK Tryz.prog 93 #[.pointer (some ⟨x.p,0,none⟩)] [cz pr l x,bd pr s] (fun v L=>v=.int .i64 (qq x)/\((x.dead=true/\L= [cz pr l x,bd pr s])\/(x.dead=false/\L= [cz pr l {x with dead:=true},bd pr (s.gives [((x.off:Nat):Int),((x.go:Nat):Int)])]))):=by
 refine au JQ Tryz.func93 rfl rfl rfl fun Fr w0=>aZ ?_
 refine cL .here fun vc=>?_
 refine sr<|ar O O<|lc<|al<|sr<|mv O O<|ad O (ae O)<|ad O (aE 18 O bT O O j6)<|ad O (aI O nH) ?_
 refine lc<|aG O (fun z=>?_) fun z=>?_
 ·skip
  have hc:qq x=24:=by unfold qq;rw[if_pos z]
  rw[hc]
  refine sr<|ar O O<|lc<|rt ?_
  apply aR (.inl rfl) ([cz pr l x,bd pr s])
  ·apply cP O
   exact .tmp rfl
  ·exact⟨rfl,.inl ⟨z,rfl⟩⟩
  refine bC vc ?_;(exact en)
 have hc:qq x=0:=by unfold qq;rw[if_neg (by simp[z])]
 rw[hc]
 obtain⟨hne,h1,h2⟩:=hlv (by simpa using z)
 refine aq<|nz<|mv O O<|ad O (ae O)<|ad O (aE 18 O bT O O j6)<|st O O O j6 O ?_
 refine lc<|al<|aY mixed ?_
 apply dq 0 O (yq (ah O))
 apply dq 1 O (yq (ae O))
 apply dq 2 O (yq (aE 0 O bT O O kF))
 apply dq 3 O (yq (aI O kH))
 apply dq 4 O (yq (ah O))
 apply dq 5 O (yq (ae O))
 apply dq 6 O (yq (aE 10 O bT O O aN))
 apply dq 7 O (yq (aI O aX))
 apply dq 8 O (yq (ah O))
 apply dq 9 O (yq (ae O))
 apply dq 10 O (yq (aE 11 O bT O O aN))
 apply dq 11 O (yq (aI O aX))
 refine ak [7,11,6,10,5,9,4,8] [3,2,1,0] 12 [(17,_),(21,_)] gO ⟨rfl,rfl,trivial⟩ (by kernel_rfl) (by kernel_rfl) fun Ex=>?_
 refine bR [_,_] rfl rfl bI aN sj rfl rfl rfl rfl (fun b22=>?_)
 refine ai ?_
 refine aQ ⟨ya O O (yq (aI O kH)),ya O O (yq (aE 0 O bT O O kF)),ya O O (yq (ae O)),ya O O (yq (ah O)),trivial⟩ ?_
 refine ak [3,2,1,0] [] 13 [(13,_),(22,_)] gO ⟨rfl,rfl,trivial⟩ (by kernel_rfl) (by kernel_rfl) fun Ex=>?_
 refine bF O O O (zQ pr s hs b22 ((x.off:Nat):Int) ((x.go:Nat):Int) (by omega) h1 h2) ?_
 refine ai ?_
 refine aQ trivial ?_
 refine ak [] [] 14 [(23,_)] gO ⟨rfl,trivial⟩ (by kernel_rfl) (by kernel_rfl) fun Ex=>?_
 refine ar O O<|ai ?_
 refine aQ trivial ?_
 refine aV (by kernel_rfl) ?_
 refine an<|rt ?_
 apply aR (.inl rfl) ([cz pr l {x with dead:=true},bd pr (s.gives [((x.off:Nat):Int),((x.go:Nat):Int)])])
 ·apply cP O
  exact .tmp rfl
 ·exact⟨rfl,.inr ⟨by simpa using z,rfl⟩⟩
 refine bC vc ?_;(exact en)
end
theorem Ba {b o:Nat} {cs:Array Value} {t:TypeId} {r:Nat×Nat} {v:Value} (hv:cs[o]?=some v):dt (pt b (.cells cs t r)) ⟨b,o,none⟩ v:=fun w hs=>by
 have:=lE hs
 simp[World.cell?,this,hv]
theorem zV (b:Nat) (l:Lay) (hl:l.err=0):aK Tryz.prog 25 #[.slice (some ⟨b,0,none⟩) 5 5] [pt b (.cells #[.int .i64 l.key,.int .i64 l.elem,.int .i64 l.ka,.int .i64 l.ea,.int .i64 l.cap] 3 (0,0))] (fun v L=>v=.tuple #[.agg #[.int .i64 l.key,.int .i64 l.elem,.int .i64 l.ka,.int .i64 l.ea,.int .i64 l.cap,.int .i64 l.eo,.int .i64 l.bo,.int .i64 l.slot,.int .i64 l.group],.int .i64 0]/\L= [pt b (.cells #[.int .i64 l.key,.int .i64 l.elem,.int .i64 l.ka,.int .i64 l.ea,.int .i64 l.cap] 3 (0,0))]):=by
 refine aK.mono (Ref03.fiveParse_ok (pt b (.cells #[.int .i64 l.key,.int .i64 l.elem,.int .i64 l.ka,.int .i64 l.ea,.int .i64 l.cap] 3 (0,0))) b 0 5 l fun i x hx=>Ba ?_) fun v L h=>?_
 ·rw[Nat.zero_add]
  match i,hx with
  | 0,hx | 1,hx | 2,hx | 3,hx | 4,hx=>cases hx;rfl
  | i+5,hx=>simp at hx
 obtain⟨rfl,rfl⟩:=h
 have ho:∀ x,l.o x=x:=fun x=>if_pos hl
 simp only[ho,hl]
 exact⟨trivial,trivial⟩
theorem qY {p:Prop} {i:Decidable p} (h:p):decide p=true:=by simp[h]
theorem Valid_ok (l:Lay) (hl:l.err=0):aK Tryz.prog 204 #[.agg #[.int .i64 l.key,.int .i64 l.elem,.int .i64 l.ka,.int .i64 l.ea,.int .i64 l.cap,.int .i64 l.eo,.int .i64 l.bo,.int .i64 l.slot,.int .i64 l.group]] [] (fun v L=>v=.bool true/\L= []):=by
 refine au HZ Tryz.func204 rfl rfl rfl fun Fr w0=>aZ ?_
 refine sr<|bw O O fun b1=>ar O O<|lz<|ad O (aE 0 O cB O O aN)<|ad O (aI O aX) ?_
 refine ad O (aE 1 O cB O O aN)<|ad O (aI O aX) ?_
 refine ad O (aE 2 O cB O O aN)<|ad O (aI O aX) ?_
 refine ad O (aE 3 O cB O O aN)<|ad O (aI O aX) ?_
 refine ad O (aE 4 O cB O O aN)<|ad O (aI O aX) ?_
 refine bR [_,_,_,_,_] rfl rfl bI aN sj rfl rfl rfl rfl (fun b16=>?_)
 refine bF O O O (zV b16 l hl) ?_
 refine mv O O<|ad O (aa O ga) ?_
 refine ad O (aa O ga) ?_
 refine ay O gB fun b3=>bZ O O O bH O O ?_
 refine ar O O<|lz<|mv O O<|ad O (qi O O (bN ·))<|mv O O<|bQ (t:=22) rfl (fun z1=>?_) fun z1=>?_
 ·refine aA O O<|ad O (aO O cZ bH) ?_
  refine aA O O<|ad O (aO O cZ bH) ?_
  refine aA O O<|ad O (gI O O (mJ · E9) fun w=>r9 w cB E8 (by kernel_rfl) (by kernel_rfl)) ?_
  refine ad O (aS O O)<|ar O O<|lc<|rt<|cN O ([]) (.tmp rfl) ?_
  exact⟨by rw[qY rfl],rfl⟩
 exact absurd rfl z1
theorem xq (l:Lay) (hl:l.err=0) (n e:Nat) (he:e<=13) (hn:n=2 ^ e) (sl:Int) (hsl:sl=8*(n:Int)):aK Tryz.prog 145 #[.agg #[.int .i64 l.key,.int .i64 l.elem,.int .i64 l.ka,.int .i64 l.ea,.int .i64 l.cap,.int .i64 l.eo,.int .i64 l.bo,.int .i64 l.slot,.int .i64 l.group],.int .i64 sl] [] (fun v L=>v=.int .i64 ((n*gN l:Nat):Int)/\L= []):=by
 have hN:=eK hl
 have hbd:=Lay.bnd hl
 have hg:=hN.g
 have h13:2 ^ e<=2 ^ 13:=Nat.pow_le_pow_right (by decide) he
 refine au IM Tryz.func145 rfl rfl rfl fun Fr w0=>aZ ?_
 refine sr<|bw O O fun b2=>ar O O<|lz<|ad O (aO O cZ bH) ?_
 refine bF O O O (Valid_ok l hl) ?_
 refine ar O O<|lc<|al<|sr<|mv O O<|ad O (db O (cy ·))<|lc<|aG O (fun z=>?_) fun z=>?_
 ·simp at z
 refine aq<|nz<|ad O (aE 8 O cB O O aN)<|ad O (aI O aX) ?_
 refine ar O O<|lc<|al<|sr<|ar O O<|lc<|aB ?_
 refine bK (fun j:Nat=>j<=e) (fun j=>[(1,.int .i64 sl),(6,.int .i64 ((gN l*2 ^ j:Nat):Int)),(7,.int .i64 ((8*2 ^ j:Nat):Int))]) (fun _=>Fr) (fun j=>e-j) 0 (Nat.zero_le _) ⟨rfl,congrArg (fun z=>some (Value.int .i64 z)) (by rw[<- hg];simp),rfl,trivial⟩ (by(exact en)) ?_
 intro j hj
 have hj13:2 ^ j<=2 ^ e:=Nat.pow_le_pow_right (by decide) hj
 have hgj:gN l*2 ^ j<=gN l*8192:=Nat.mul_le_mul_left _ (by omega)
 have hp1:2 ^ (j+1)=2*2 ^ j:=by rw[Nat.pow_succ];omega
 have hp2:gN l*2 ^ (j+1)=2*(gN l*2 ^ j):=by rw[hp1,Nat.mul_left_comm]
 have hp0:=Nat.two_pow_pos j
 refine al<|sr<|mv O O<|ad O (qi O O (iB ·))<|lc<|aG O (fun h1=>?_) fun h1=>?_
 ·refine aq<|an<|al<|aB<|al<|sr<|mv O O<|mv O O<|ad O (qi O O (bN ·))<|lc<|aG O (fun h2=>?_) fun h2=>?_
  ·skip
   have hje:n=2 ^ j:=by omega
   refine sr<|mv O O<|ar O O<|lc<|rt<|cN O ([]) (.tmp rfl) ?_
   exact⟨by rw[hje,Nat.mul_comm],rfl⟩
  have hjl:j < e:=by
   rcases Nat.lt_or_ge j e with q | q
   ·exact q
   have:j=e:=by omega
   subst this
   omega
  refine aq<|an<|aD<|mv O O<|ad O (dA O O) ?_
  refine ar O O<|ai<|bz<|an<|aD<|mv O O<|ad O (dA O O) ?_
  refine ar O O<|ai ?_
  apply aU ((j+1))
  ·exact by omega
  ·omega
  ·exact⟨rfl,congrArg (fun z=>some (Value.int .i64 z)) (by omega),congrArg (fun z=>some (Value.int .i64 z)) (by omega),trivial⟩
  exact en
 omega
theorem vA (pr:Nat) (s:ArS) (hs:s.ok) (l:Lay) (hl:l.err=0) (slots depth:Int) (hsl:-9223372036854775808<=slots/\slots<=9223372036854775807):
  aK Tryz.prog 58 #[.pointer (some ⟨pr,0,none⟩),.agg #[.int .i64 l.key,.int .i64 l.elem,.int .i64 l.ka,.int .i64 l.ea,.int .i64 l.cap,.int .i64 l.eo,.int .i64 l.bo,.int .i64 l.slot,.int .i64 l.group],.int .i64 slots,.int .i64 depth] [bd pr s] (fun v L=>
   (Probe.powB slots 8 65536=false/\v=.tuple #[.pointer none,.int .i64 80]/\L= [bd pr s])\/
   (Probe.powB slots 8 65536=true/\(depth < 0\/6 < depth)/\v=.tuple #[.pointer none,.int .i64 81]/\L= [bd pr s])\/
   ∃ n e:Nat,n=2 ^ e/\e<=13/\slots=8*(n:Int)/\(0<=depth/\depth<=6)/\
    (((1048576 < ((n*gN l:Nat):Int)\/s.limit-s.live < 64+aH ((n*gN l:Nat):Int))/\v=.tuple #[.pointer none,.int .i64 22]/\L= [bd pr s])\/
    (((n*gN l:Nat):Int)<=1048576/\s.live+(64+aH ((n*gN l:Nat):Int))<=s.limit/\∃ p,v=.tuple #[.pointer (some ⟨p,0,none⟩),.int .i64 0]/\L= [cz pr l (⟨p,s.at 64,(s.take 64).at (aH ((n*gN l:Nat):Int)),n,e,cR n depth,false,false⟩:PR),bd pr ((s.take 64).take (aH ((n*gN l:Nat):Int)))]))):=by
 have hN:=eK hl
 have hbd:=Lay.bnd hl
 have hpw:=Probe.powB_iff slots 8 3 16 65536 (by decide) (by decide) (by decide)
 refine au Ka Tryz.func58 rfl rfl rfl fun Fr w0=>aZ ?_
 refine sr<|bw O O fun b5=>ar O O<|ar O O<|lz<|ar O O<|lc<|al<|sr<|ar O O<|lc<|aB ?_
 refine bK (fun j:Nat=>j<=14) (fun j=>[(0,.pointer (some ⟨pr,0,none⟩)),(2,.int .i64 slots),(3,.int .i64 depth),(5,.pointer (some ⟨b5,0,none⟩)),(10,.bool (decide (∃ i,i < j/\slots=8*((2 ^ i:Nat):Int)))),(11,.int .i64 ((8*2 ^ j:Nat):Int))]) (fun _=>pt b5 (.cells #[.int .i64 l.key,.int .i64 l.elem,.int .i64 l.ka,.int .i64 l.ea,.int .i64 l.cap,.int .i64 l.eo,.int .i64 l.bo,.int .i64 l.slot,.int .i64 l.group] 34 (0,0))::bd pr s::Fr) (fun j=>14-j) 0 (Nat.zero_le _) ⟨rfl,rfl,rfl,rfl,congrArg (fun z=>some (Value.bool z)) (by simp),rfl,trivial⟩ (by(exact en)) ?_
 intro j hj
 have hj13:2 ^ j<=2 ^ 14:=Nat.pow_le_pow_right (by decide) hj
 have hp1:2 ^ (j+1)=2*2 ^ j:=by rw[Nat.pow_succ];omega
 have hp0:=Nat.two_pow_pos j
 refine al<|sr<|mv O O<|ad O (qi O O (iB ·))<|lc<|aG O (fun h1=>?_) fun h1=>?_
 ·skip
  have hjl:j < 14:=by
   rcases Nat.lt_or_ge j 14 with q | q
   ·exact q
   have:j=14:=by omega
   subst this
   omega
  refine aq<|an<|al<|aB<|sr<|mv O O<|mv O O<|ad O (qi O O (bN ·))<|lc<|aG O (fun h2=>?_) fun h2=>?_
  ·skip
   have he:decide (∃ i,i < j+1/\slots=8*((2 ^ i:Nat):Int))=true:=decide_eq_true ⟨j,by omega,by omega⟩
   refine aD<|ar O O<|ai<|bz<|an<|aD<|mv O O<|ad O (dA O O) ?_
   refine ar O O<|ai ?_
   apply aU ((j+1))
   ·exact by omega
   ·omega
   ·exact⟨rfl,rfl,rfl,rfl,congrArg (fun z=>some (Value.bool z)) he.symm,congrArg (fun z=>some (Value.int .i64 z)) (by omega),trivial⟩
   exact en
  have he:decide (∃ i,i < j+1/\slots=8*((2 ^ i:Nat):Int))=decide (∃ i,i < j/\slots=8*((2 ^ i:Nat):Int)):=by
   refine decide_eq_decide.2 ⟨fun⟨i,h1,h2⟩=>?_,fun⟨i,h1,h2⟩=>⟨i,by omega,h2⟩⟩
   rcases Nat.lt_or_ge i j with q | q
   ·exact⟨i,q,h2⟩
   obtain rfl:i=j:=by omega
   omega
  refine aq<|bz<|an<|aD<|mv O O<|ad O (dA O O) ?_
  refine ar O O<|ai ?_
  apply aU ((j+1))
  ·exact by omega
  ·omega
  ·exact⟨rfl,rfl,rfl,rfl,congrArg (fun z=>some (Value.bool z)) he.symm,congrArg (fun z=>some (Value.int .i64 z)) (by omega),trivial⟩
  exact en
 have hj14:j=14:=by
  rcases Nat.lt_or_ge j 14 with q | q
  ·have:2 ^ j<=2 ^ 13:=Nat.pow_le_pow_right (by decide) (by omega)
   omega
  omega
 subst hj14
 have hpd:decide (∃ i,i < 14/\slots=8*((2 ^ i:Nat):Int))=Probe.powB slots 8 65536:=by
  cases hb:Probe.powB slots 8 65536 with
  | true=>
   obtain⟨k,k1,k2,k3⟩:=hpw.1 hb
   refine decide_eq_true ⟨k-3,by omega,?_⟩
   have hc:=cr (k-3)
   have h3:(2:Int) ^ k=2 ^ (k-3)*2 ^ 3:=by rw[<- Int.pow_add];congr 1;omega
   omega
  | false=>
   refine decide_eq_false fun⟨i,h1,h2⟩=>?_
   have:=hpw.2 ⟨i+3,by omega,by omega,by have hc:=cr i;rw[Int.pow_add];omega⟩
   exact absurd (hb.symm.trans this) (by decide)
 rw[hpd]
 refine xt O<|an<|al<|sr<|mv O O<|ad O (db O (cy ·))<|lc<|aG O (fun z1=>?_) fun z1=>?_
 ·skip
  have hz:Probe.powB slots 8 65536=false:=by simpa using z1
  exact sr<|ar O O<|ar O O<|lc<|rt<|ft O ([bd pr s]) (.tmp rfl) (.tmp rfl) (.inl ⟨hz,rfl,rfl⟩)
 have hz:Probe.powB slots 8 65536=true:=by simpa using z1
 refine aq<|an<|al<|sr<|mv O O<|ad O (qi O O (bj ·))<|mv O O<|bQ (t:=25) rfl (fun d1=>?_) fun d1=>?_
 ·exact ax O O O O<|ax O O O O<|ad O (aS O O)<|lc<|bk O<|sr<|ar O O<|ar O O<|lc<|rt<|ft O ([bd pr s]) (.tmp rfl) (.tmp rfl) (.inr (.inl ⟨hz,.inl d1,rfl,rfl⟩))
 refine aA O O<|mv O O<|aA O O<|ad O (qi O O (di ·))<|ad O (aS O O)<|lc<|aG O (fun d2=>?_) fun d2=>?_
 ·exact sr<|ar O O<|ar O O<|lc<|rt<|ft O ([bd pr s]) (.tmp rfl) (.tmp rfl) (.inr (.inl ⟨hz,.inr d2,rfl,rfl⟩))
 obtain⟨k,k1,k2,k3⟩:=hpw.1 hz
 obtain⟨e,rfl⟩:∃ e,k=e+3:=⟨k-3,by omega⟩
 obtain⟨n,hn⟩:∃ n,n=2 ^ e:=⟨_,rfl⟩
 have hc:=cr e
 rw[<- hn] at hc
 have hsn:slots=8*(n:Int):=by rw[k3,Int.pow_add];omega
 subst hsn
 have hn0:0 < n:=by rw[hn];exact Nat.two_pow_pos e
 have hn8:n<=8192:=by rw[hn];exact(Nat.pow_le_pow_right (by decide:0 < 2) (by omega):2 ^ e<=2 ^ 13)
 have hng:1<=n*gN l:=by have:=hN.g_eq;have:=Nat.mul_le_mul_right (gN l) hn0;omega
 refine aq<|nz<|mv O O<|ad O (aO O cZ bH) ?_
 refine mv O O<|bF O O O (xq l hl n e (by omega) hn _ rfl) ?_
 refine bR [_,_] rfl rfl bI aN sj rfl rfl rfl rfl (fun b34=>?_)
 refine cT O O O (xu pr s hs b34 64 ((n*gN l:Nat):Int) (by decide) (by omega)) ?_
 rintro v L' (⟨hb,rfl,rfl⟩ | ⟨_,hsm,hfit,vo,rfl,rfl⟩)
 refine bx ?_
 ·skip
  refine mv O O<|ad O (aa O ga) ?_
  refine ad O (aa O ga) ?_
  refine ar O O<|ar O O<|lc<|al<|sr<|mv O O<|ad O (qi O O (bf ·))<|lc<|aG O (fun y=>?_) fun y=>?_
  ·refine sr<|mv O O<|ar O O<|ar O O<|lc<|rt<|ft O ([bd pr s]) (.tmp rfl) (.tmp rfl) ?_
   exact .inr (.inr ⟨n,e,hn,by omega,rfl,by omega,.inl ⟨by rw[nA] at hb;omega,rfl,rfl⟩⟩)
  exact absurd y (by decide)
 rw[nA] at hfit ⊢
 refine BB fun M hM=>?_
 simp only[List.cons_append,List.nil_append] at hM
 subst M
 refine gM .here fun _ hvo=>?_
 obtain⟨ao,co,rfl,hao,_,_⟩:=hvo
 obtain⟨go0,rfl⟩:=hao (by decide)
 refine mv O O<|ad O (aa O ga) ?_
 refine ad O (aa O ga) ?_
 refine ar O O<|ar O O<|lc<|al<|sr<|mv O O<|ad O (qi O O (bf ·))<|lc<|aG O (fun y=>?_) fun y=>?_
 ·exact absurd rfl y
 have hmade:(madeCells (#[.int .i64 0,.int .i64 0,.string ⟨#[]⟩,.string ⟨#[]⟩,.int .i64 0]) ((8*(n:Int)).toNat*5)).toList=rowOf cj (bO (cR n depth).cells (8*n)):=by
  refine(y8 (n:=(8*(n:Int)).toNat) Cell.empty #[.int .i64 0,.int .i64 0,.string ⟨#[]⟩,.string ⟨#[]⟩,.int .i64 0] rfl mO (by decide)).trans ?_
  rw[show(8*(n:Int)).toNat=8*n by omega]
  congr 1
  refine List.ext_getElem? fun i=>?_
  by_cases h:i < 8*n
  ·rw[eV h];simp[h];rfl
  rw[List.getElem?_eq_none (by simp;omega),List.getElem?_eq_none (by rw[jr];omega)]
 refine aq<|an<|al<|aY mixed ?_
 apply dq 0 O (yq (ah O))
 apply dq 1 O (yq (aO O cZ bH))
 apply dq 2 O (yq (ah O))
 apply dq 3 O
 ·apply yq
  first | exact aW 0 O O bI aN (by omega) | exact az O O bI aN (by omega)
 apply dq 4 O
 ·apply yq
  apply aT O aX
  ·exact tk
  exact rfl
 apply dq 5 O (yq (ah O))
 apply dq 6 O
 ·apply yq
  first | exact aW 1 O O bI aN (by omega) | exact az O O bI aN (by omega)
 apply dq 7 O
 ·apply yq
  apply aT O aX
  ·exact tk
  exact rfl
 apply dq 8 O (yq (ah O))
 apply dq 10 O (yq (ah O))
 apply dq 11 O (yq (ah O))
 apply dI 9 12
 ·kernel_rfl
 ·refine cA (q1:=[8]) (q2:=[11,10,7,6,5,4,3,2,1,0]) [(49,_)] gO ⟨O,trivial⟩ (by kernel_rfl) fun Ex=>?_
  refine bF O O O (oj _ (by omega)) ?_
  refine ai ?_
  apply aQ
  ·refine⟨?_,?_,?_,?_,?_,?_,?_,?_,?_,?_,trivial⟩
   ·apply ya O O;exact yq (ah O)
   ·apply ya O O;exact yq (ah O)
   ·apply ya O O
    apply yq
    apply aT O aX
    ·exact tk
    exact rfl
   ·apply ya O O
    apply yq
    first | exact aW 1 O O bI aN (by omega) | exact az O O bI aN (by omega)
   ·apply ya O O;exact yq (ah O)
   ·apply ya O O
    apply yq
    apply aT O aX
    ·exact tk
    exact rfl
   ·apply ya O O
    apply yq
    first | exact aW 0 O O bI aN (by omega) | exact az O O bI aN (by omega)
   ·apply ya O O;exact yq (ah O)
   ·apply ya O O;exact yq (aO O cZ bH)
   apply ya O O;exact yq (ah O)
  refine ak [11] [10,7,6,5,4,3,2,1,0] 12 [(52,_)] gO ⟨rfl,trivial⟩ (by kernel_rfl) (by kernel_rfl) fun Ex=>?_
  refine nf (sz:=5) (rowOf cj (bO (cR n depth).cells (8*n))) rfl rfl rfl Tryz.underlying43 xF (by omega) (by omega) hmade fun b53=>?_
  refine ai ?_
  apply aQ
  ·refine⟨?_,?_,?_,?_,?_,?_,?_,?_,?_,trivial⟩
   ·apply ya O O;exact yq (ah O)
   ·apply ya O O
    apply yq
    apply aT O aX
    ·exact tk
    exact rfl
   ·apply ya O O
    apply yq
    first | exact aW 1 O O bI aN (by omega) | exact az O O bI aN (by omega)
   ·apply ya O O;exact yq (ah O)
   ·apply ya O O
    apply yq
    apply aT O aX
    ·exact tk
    exact rfl
   ·apply ya O O
    apply yq
    first | exact aW 0 O O bI aN (by omega) | exact az O O bI aN (by omega)
   ·apply ya O O;exact yq (ah O)
   ·apply ya O O;exact yq (aO O cZ bH)
   apply ya O O;exact yq (ah O)
  apply dq 13 O
  ·apply yq
   apply bp O GA Gm
   apply aP.one
   ·repeat (first | exact ba.here | apply ba.there)
   ·rfl
   ·exact sa
   apply aP.all
   ·repeat (first | exact ba.here | apply ba.there)
   ·rfl
   ·simp
   ·exact Dj
   apply aP.one
   ·repeat (first | exact ba.here | apply ba.there)
   ·rfl
   ·exact sa
   apply aP.one
   ·repeat (first | exact ba.here | apply ba.there)
   ·rfl
   ·exact sa
   apply aP.one
   ·repeat (first | exact ba.here | apply ba.there)
   ·rfl
   ·exact sa
   apply aP.one
   ·repeat (first | exact ba.here | apply ba.there)
   ·rfl
   ·exact sa
   apply aP.one
   ·repeat (first | exact ba.here | apply ba.there)
   ·rfl
   ·exact sa
   exact aP.nil
  refine ak [13,0,1,4,7,10,3,6,2,5] [] 14 [(54,_)] gO ⟨rfl,trivial⟩ (by kernel_rfl) (by kernel_rfl) fun Ex=>?_
  refine bw O O fun b55=>ai ?_
  refine aQ trivial ?_
  refine ak [] [] 15 [(55,_)] gO ⟨rfl,trivial⟩ (by kernel_rfl) (by kernel_rfl) fun Ex=>?_
  refine ar O O<|ai ?_
  refine aQ trivial ?_
  refine ak [] [] 16 [] gO trivial (by kernel_rfl) (by kernel_rfl) fun Ex=>?_
  refine ar O O<|ai ?_
  refine aQ trivial ?_
  refine aV (by kernel_rfl) ?_
  refine an<|rt ?_
  apply aR (.inl rfl) ([cz pr l (⟨b55,s.at 64,(s.take 64).at (aH ((n*gN l:Nat):Int)),n,e,cR n depth,false,false⟩:PR),bd pr ((s.take 64).take (aH ((n*gN l:Nat):Int)))])
  ·apply cF O
   ·exact .tmp rfl
   exact .tmp rfl
  ·exact .inr (.inr ⟨n,e,hn,by omega,rfl,by omega,.inr ⟨hsm,by omega,_,rfl,rfl⟩⟩)
  rw[show(8*(n:Int)).toNat=8*n by omega,show 8*(n:Int) / 8*7=7*(n:Int) by omega];refine bC (x:=(⟨b55,s.at 64,(s.take 64).at (aH ((n*gN l:Nat):Int)),n,e,cR n depth,false,false⟩:PR)) (.slice (some ⟨b53,0,none⟩) (8*n) (8*n)) ?_;show dS _ (pt b55 (.cells #[.pointer (some ⟨pr,0,none⟩),.int .i64 l.key,.int .i64 l.elem,.int .i64 l.ka,.int .i64 l.ea,.int .i64 l.cap,.int .i64 l.eo,.int .i64 l.bo,.int .i64 l.slot,.int .i64 l.group,.int .i64 (s.at 64:Nat),.int .i64 ((s.take 64).at (aH ((n*gN l:Nat):Int)):Nat),.int .i64 0,.int .i64 (7*(n:Int)),.int .i64 depth,.int .i64 0,.int .i64 0,.bool false,.bool false,.slice (some ⟨b53,0,none⟩) (8*n) (8*n)] 45 (0,0))::aF 142 5 (.slice (some ⟨b53,0,none⟩) (8*n) (8*n)) (8*n) (rowOf cj (bO (cR n depth).cells (8*n)))::_);(exact en)
 refine cA (q1:=[11]) (q2:=[10,8,7,6,5,4,3,2,1,0]) [(52,_)] gO ⟨O,trivial⟩ (by kernel_rfl) fun Ex=>?_
 refine nf (sz:=5) (rowOf cj (bO (cR n depth).cells (8*n))) rfl rfl rfl Tryz.underlying43 xF (by omega) (by omega) hmade fun b53=>?_
 refine ai ?_
 apply aQ
 ·refine⟨?_,?_,?_,?_,?_,?_,?_,?_,?_,?_,trivial⟩
  ·apply ya O O;exact yq (ah O)
  ·apply ya O O;exact yq (ah O)
  ·apply ya O O
   apply yq
   apply aT O aX
   ·exact tk
   exact rfl
  ·apply ya O O
   apply yq
   first | exact aW 1 O O bI aN (by omega) | exact az O O bI aN (by omega)
  ·apply ya O O;exact yq (ah O)
  ·apply ya O O
   apply yq
   apply aT O aX
   ·exact tk
   exact rfl
  ·apply ya O O
   apply yq
   first | exact aW 0 O O bI aN (by omega) | exact az O O bI aN (by omega)
  ·apply ya O O;exact yq (ah O)
  ·apply ya O O;exact yq (aO O cZ bH)
  apply ya O O;exact yq (ah O)
 refine ak [8] [10,7,6,5,4,3,2,1,0] 9 [(49,_)] gO ⟨rfl,trivial⟩ (by kernel_rfl) (by kernel_rfl) fun Ex=>?_
 refine bF O O O (oj _ (by omega)) ?_
 refine ai ?_
 apply aQ
 ·refine⟨?_,?_,?_,?_,?_,?_,?_,?_,?_,trivial⟩
  ·apply ya O O;exact yq (ah O)
  ·apply ya O O
   apply yq
   apply aT O aX
   ·exact tk
   exact rfl
  ·apply ya O O
   apply yq
   first | exact aW 1 O O bI aN (by omega) | exact az O O bI aN (by omega)
  ·apply ya O O;exact yq (ah O)
  ·apply ya O O
   apply yq
   apply aT O aX
   ·exact tk
   exact rfl
  ·apply ya O O
   apply yq
   first | exact aW 0 O O bI aN (by omega) | exact az O O bI aN (by omega)
  ·apply ya O O;exact yq (ah O)
  ·apply ya O O;exact yq (aO O cZ bH)
  apply ya O O;exact yq (ah O)
 apply dq 13 O
 ·apply yq
  apply bp O GA Gm
  apply aP.one
  ·repeat (first | exact ba.here | apply ba.there)
  ·rfl
  ·exact sa
  apply aP.all
  ·repeat (first | exact ba.here | apply ba.there)
  ·rfl
  ·simp
  ·exact Dj
  apply aP.one
  ·repeat (first | exact ba.here | apply ba.there)
  ·rfl
  ·exact sa
  apply aP.one
  ·repeat (first | exact ba.here | apply ba.there)
  ·rfl
  ·exact sa
  apply aP.one
  ·repeat (first | exact ba.here | apply ba.there)
  ·rfl
  ·exact sa
  apply aP.one
  ·repeat (first | exact ba.here | apply ba.there)
  ·rfl
  ·exact sa
  apply aP.one
  ·repeat (first | exact ba.here | apply ba.there)
  ·rfl
  ·exact sa
  exact aP.nil
 refine ak [13,0,1,4,7,10,3,6,2,5] [] 14 [(54,_)] gO ⟨rfl,trivial⟩ (by kernel_rfl) (by kernel_rfl) fun Ex=>?_
 refine bw O O fun b55=>ai ?_
 refine aQ trivial ?_
 refine ak [] [] 15 [(55,_)] gO ⟨rfl,trivial⟩ (by kernel_rfl) (by kernel_rfl) fun Ex=>?_
 refine ar O O<|ai ?_
 refine aQ trivial ?_
 refine ak [] [] 16 [] gO trivial (by kernel_rfl) (by kernel_rfl) fun Ex=>?_
 refine ar O O<|ai ?_
 refine aQ trivial ?_
 refine aV (by kernel_rfl) ?_
 refine an<|rt ?_
 apply aR (.inl rfl) ([cz pr l (⟨b55,s.at 64,(s.take 64).at (aH ((n*gN l:Nat):Int)),n,e,cR n depth,false,false⟩:PR),bd pr ((s.take 64).take (aH ((n*gN l:Nat):Int)))])
 ·apply cF O
  ·exact .tmp rfl
  exact .tmp rfl
 ·exact .inr (.inr ⟨n,e,hn,by omega,rfl,by omega,.inr ⟨hsm,by omega,_,rfl,rfl⟩⟩)
 rw[show(8*(n:Int)).toNat=8*n by omega,show 8*(n:Int) / 8*7=7*(n:Int) by omega];refine bC (x:=(⟨b55,s.at 64,(s.take 64).at (aH ((n*gN l:Nat):Int)),n,e,cR n depth,false,false⟩:PR)) (.slice (some ⟨b53,0,none⟩) (8*n) (8*n)) ?_;show dS _ (pt b55 (.cells #[.pointer (some ⟨pr,0,none⟩),.int .i64 l.key,.int .i64 l.elem,.int .i64 l.ka,.int .i64 l.ea,.int .i64 l.cap,.int .i64 l.eo,.int .i64 l.bo,.int .i64 l.slot,.int .i64 l.group,.int .i64 (s.at 64:Nat),.int .i64 ((s.take 64).at (aH ((n*gN l:Nat):Int)):Nat),.int .i64 0,.int .i64 (7*(n:Int)),.int .i64 depth,.int .i64 0,.int .i64 0,.bool false,.bool false,.slice (some ⟨b53,0,none⟩) (8*n) (8*n)] 45 (0,0))::aF 142 5 (.slice (some ⟨b53,0,none⟩) (8*n) (8*n)) (8*n) (rowOf cj (bO (cR n depth).cells (8*n)))::_);(exact en)
end RefT
end Go.Proofs.YthkajgkagnenbaaGreatDoor
