import Derived.Test.YthkajgkagnenbaaGreatDoorInsert
set_option linter.unusedVariables false
set_option linter.unusedSimpArgs false
set_option linter.unusedSectionVars false
set_option maxRecDepth 100000
namespace Go.Proofs.YthkajgkagnenbaaGreatDoor.Layout
open Go.RowKit Go.Proofs Go.Proofs.YthkajgkagnenbaaGreatDoor.Eng Go.Proofs.YthkajgkagnenbaaGreatDoor.Ty Go.Proofs.YthkajgkagnenbaaGreatDoor.Bits
def powB (n lo hi:Int):Bool:=decide (lo<=n) && decide (n<=hi) && uB n
theorem pow2_eq {n:Int} (h1:1<=n) (h2:n<=1073741824):decide (bits .and .i64 n (n-1)=0)=uB n:=by
 unfold uB
 rw[show wrap64 (n-1)=n-1 by unfold wrap64;omega]
 by_cases h:bits .and .i64 n (n-1)=0 <;> simp[h]
theorem powB_le {n lo hi:Int} (h:powB n lo hi=true):lo<=n/\n<=hi:=by simp only[powB,Bool.and_eq_true,decide_eq_true_eq] at h;omega
theorem power_ok (n lo hi:Int) (h1:1<=lo) (h2:hi<=1073741824):
  aK Tryz.prog 180 #[.int .i64 n,.int .i64 lo,.int .i64 hi] [] (fun v L=>v=.bool (powB n lo hi)/\L= []):=by
 refine au Iq Tryz.func180 rfl rfl rfl fun Fr w0=>aZ ?_
 refine sr<|ar O O<|lz<|mv O O<|mv O O<|ad O (qi O O (iC ·))<|mv O O<|bQ (t:=10) rfl (fun h=>?_) fun h=>?_
 ·refine aA O O<|mv O O<|aA O O<|mv O O<|aA O O<|ad O (qi O O (iB ·))<|ad O (aS O O)<|mv O O<|bQ (t:=15) rfl (fun k=>?_) fun k=>?_
  ·refine aA O O<|mv O O<|aA O O<|mv O O<|aA O O<|ad O (eJ O O) ?_
   refine aA O O<|ad O (fh O O O)<|aA O O<|ad O (qi O O (bN ·))<|ad O (aS O O)<|ar O O<|lc<|rt<|cN O ([]) (.tmp rfl) ?_
   exact⟨by rw[pow2_eq (by omega) (by omega)];simp[powB,h,k],rfl⟩
  refine ax O O O O<|ax O O O O<|ax O O O O<|ax O O O O<|ax O O O O<|ad O (aS O O)<|ar O O<|lc<|rt<|cN O ([]) (.tmp rfl) ?_
  exact⟨by simp[powB,k],rfl⟩
 refine ax O O O O<|ax O O O O<|ax O O O O<|ad O (aS O O)<|mv O O<|ax O O O O<|ax O O O O<|ax O O O O<|ax O O O O<|ax O O O O<|ad O (aS O O)<|ar O O<|lc<|rt<|cN O ([]) (.tmp rfl) ?_
 exact⟨by simp[powB,h],rfl⟩
def fi (w a:Int):Bool:=powB a 1 8 && decide (w % a=0)
theorem qH (w a:Int) (hw:0<=w):aK Tryz.prog 244 #[.int .i64 w,.int .i64 a] [] (fun v L=>v=.bool (fi w a)/\L= []):=by
 refine au Hq Tryz.func244 rfl rfl rfl fun Fr w0=>aZ ?_
 refine sr<|ar O O<|lz<|mv O O<|bF O O O (power_ok _ _ _ (by omega) (by omega)) ?_
 refine mv O O<|bQ (t:=7) rfl (fun h=>?_) fun h=>?_
 ·have hb:=powB_le h
  refine aA O O<|mv O O<|aA O O<|mv O O<|aA O O<|ad O (iQ O O) ?_
  refine aA O O<|ad O (qi O O (bN ·))<|ad O (aS O O)<|ar O O<|lc<|rt<|cN O ([]) (.tmp rfl) ?_
  exact⟨by simp[fi,h],rfl⟩
 refine ax O O O O<|ax O O O O<|ax O O O O<|ax O O O O<|ad O (aS O O)<|ar O O<|lc<|rt<|cN O ([]) (.tmp rfl) ?_
 exact⟨by simp[fi,h],rfl⟩
def gH (n a:Int):Int:=(n+a-1) / a*a
theorem iW {n a:Int} (h0:0<=n) (h1:1<=a):n<=gH n a/\gH n a<=n+a-1:=by
 unfold gH
 have x1:=Int.mul_ediv_add_emod (n+a-1) a
 have x2:=Int.emod_nonneg (n+a-1) (by omega:a≠0)
 have x3:=Int.emod_lt_of_pos (n+a-1) (by omega:0 < a)
 rw[Int.mul_comm] at x1
 omega
theorem uq (n a:Int) (h0:0<=n/\n<=1000000) (h1:1<=a/\a<=1000):aK Tryz.prog 245 #[.int .i64 n,.int .i64 a] [] (fun v L=>v=.int .i64 (gH n a)/\L= []):=by
 have hb:=iW h0.1 h1.1
 unfold gH at hb ⊢
 refine au Ho Tryz.func245 rfl rfl rfl fun Fr w0=>aZ ?_
 refine sr<|ar O O<|lz<|mv O O<|mv O O<|ad O (bn O O) ?_
 refine ad O (eJ O O) ?_
 refine mv O O<|ad O (eT O O) ?_
 refine mv O O<|ad O (dA O O) ?_
 exact ar O O<|lc<|rt<|cN O ([]) (.tmp rfl) ⟨rfl,rfl⟩
structure Lay where
 key:Int
 elem:Int
 ka:Int
 ea:Int
 cap:Int
 deriving DecidableEq
namespace Lay
def eo (l:Lay):Int:=gH l.key l.ea
def bo (l:Lay):Int:=gH (l.eo+l.elem) 8
def slot (l:Lay):Int:=l.bo+8
def group (l:Lay):Int:=8+8*l.slot
def err (l:Lay):Int:=if l.key < 1\/128 < l.key then 31 else if l.elem < 0\/128 < l.elem then 32 else if !fi l.key l.ka || !fi l.elem l.ea then 33 else if !powB l.cap 16 1024 then 34 else 0
def o (l:Lay) (x:Int):Int:=if l.err=0 then x else 0
@[reducible] def cells (l:Lay):Array Value:=#[.int .i64 l.key,.int .i64 l.elem,.int .i64 l.ka,.int .i64 l.ea,.int .i64 l.cap,.int .i64 l.eo,.int .i64 l.bo,.int .i64 l.slot,.int .i64 l.group]
@[reducible] def zeros:Array Value:=#[.int .i64 0,.int .i64 0,.int .i64 0,.int .i64 0,.int .i64 0,.int .i64 0,.int .i64 0,.int .i64 0,.int .i64 0]
theorem bnd {l:Lay} (h:l.err=0):1<=l.key/\l.key<=128/\0<=l.elem/\l.elem<=128/\1<=l.ea/\l.ea<=8/\l.key<=l.eo/\l.eo<=135/\l.eo+l.elem<=l.bo/\l.bo<=270/\l.slot=l.bo+8/\l.group=8+8*l.slot/\fi l.key l.ka=true/\fi l.elem l.ea=true/\powB l.cap 16 1024=true:=by
 unfold err at h
 split at h
 ·omega
 split at h
 ·omega
 split at h
 ·omega
 next h3=>
 split at h
 ·omega
 next h4=>
 simp only[Bool.or_eq_true,Bool.not_eq_true',not_or,Bool.not_eq_false] at h3 h4
 have ha:powB l.ea 1 8=true:=by have:=h3.2;simp only[fi,Bool.and_eq_true] at this;exact this.1
 have hb:=powB_le ha
 have e1:=iW (n:=l.key) (a:=l.ea) (by omega) (by omega)
 have e2:=iW (n:=l.eo+l.elem) (a:=8) (by unfold eo;omega) (by omega)
 refine⟨by omega,by omega,by omega,by omega,by omega,by omega,e1.1,by unfold eo;omega,e2.1,?_,rfl,rfl,h3.1,h3.2,by simpa using h4⟩
 unfold bo
 unfold eo at e2 ⊢
 omega
end Lay
theorem Lay.e31 {l:Lay} (h:l.key < 1\/128 < l.key):l.err=31:=by unfold Lay.err;rw[if_pos h]
theorem Lay.e32 {l:Lay} (h1:¬ l.key < 1) (h2:¬ 128 < l.key) (h:l.elem < 0\/128 < l.elem):l.err=32:=by unfold Lay.err;rw[if_neg (by omega),if_pos h]
theorem Lay.e33 {l:Lay} (h1:¬ l.key < 1) (h2:¬ 128 < l.key) (h3:¬ l.elem < 0) (h4:¬ 128 < l.elem) (h:fi l.key l.ka=false\/fi l.elem l.ea=false):l.err=33:=by
 unfold Lay.err;rw[if_neg (by omega),if_neg (by omega),if_pos (by rcases h with h | h <;> simp[h])]
theorem Lay.e34 {l:Lay} (h1:¬ l.key < 1) (h2:¬ 128 < l.key) (h3:¬ l.elem < 0) (h4:¬ 128 < l.elem) (h5:fi l.key l.ka=true) (h6:fi l.elem l.ea=true) (h:powB l.cap 16 1024=false):l.err=34:=by
 unfold Lay.err;rw[if_neg (by omega),if_neg (by omega),if_neg (by simp[h5,h6]),if_pos (by simp[h])]
theorem Lay.e0 {l:Lay} (h1:¬ l.key < 1) (h2:¬ 128 < l.key) (h3:¬ l.elem < 0) (h4:¬ 128 < l.elem) (h5:fi l.key l.ka=true) (h6:fi l.elem l.ea=true) (h:powB l.cap 16 1024=true):l.err=0:=by
 unfold Lay.err;rw[if_neg (by omega),if_neg (by omega),if_neg (by simp[h5,h6]),if_neg (by simp[h])]
theorem Lay.eo_ok (l:Lay) (h0:0<=l.key/\l.key<=1000000) (h1:1<=l.ea/\l.ea<=1000):aK Tryz.prog 245 #[.int .i64 l.key,.int .i64 l.ea] [] (fun v L=>v=.int .i64 l.eo/\L= []):=uq _ _ h0 h1
theorem Lay.bo_ok (l:Lay) (h0:0<=l.eo+l.elem/\l.eo+l.elem<=1000000):aK Tryz.prog 245 #[.int .i64 (l.eo+l.elem),.int .i64 8] [] (fun v L=>v=.int .i64 l.bo/\L= []):=uq _ _ h0 (by omega)
theorem Parse_ok (b:Nat) (l:Lay):aK Tryz.prog 222 #[.slice (some ⟨b,0,none⟩) 5 5] [pt b (.cells #[.int .i64 l.key,.int .i64 l.elem,.int .i64 l.ka,.int .i64 l.ea,.int .i64 l.cap] 3 (0,0))]
  (fun v L=>v=.tuple #[.agg #[.int .i64 (l.o l.key),.int .i64 (l.o l.elem),.int .i64 (l.o l.ka),.int .i64 (l.o l.ea),.int .i64 (l.o l.cap),.int .i64 (l.o l.eo),.int .i64 (l.o l.bo),.int .i64 (l.o l.slot),.int .i64 (l.o l.group)],.int .i64 l.err]/\L= [pt b (.cells #[.int .i64 l.key,.int .i64 l.elem,.int .i64 l.ka,.int .i64 l.ea,.int .i64 l.cap] 3 (0,0))]):=by
 refine au HK Tryz.func222 rfl rfl rfl fun Fr w0=>aZ ?_
 refine sr<|ay O gB fun b2=>ar O O<|lc<|al<|sr<|mv O O<|ad O (ql O bI)<|ad O (qi O O (bf ·))<|lc<|aG O (fun h=>?_) fun h=>?_
 ·exact absurd rfl h
 refine aq<|an<|al<|aY mixed ?_
 apply dq 0 O (yq (ah O))
 apply dq 1 O
 ·apply yq
  first | exact aW 0 O O bI aN (by omega) | exact az O O bI aN (by omega)
 apply dq 2 O (yq (aI O aX))
 apply dq 3 O (yq (ah O))
 apply dq 4 O
 ·apply yq
  first | exact aW 1 O O bI aN (by omega) | exact az O O bI aN (by omega)
 apply dq 5 O (yq (aI O aX))
 apply dq 6 O (yq (ah O))
 apply dq 7 O
 ·apply yq
  first | exact aW 2 O O bI aN (by omega) | exact az O O bI aN (by omega)
 apply dq 8 O (yq (aI O aX))
 apply dq 9 O (yq (ah O))
 apply dq 10 O
 ·apply yq
  first | exact aW 3 O O bI aN (by omega) | exact az O O bI aN (by omega)
 apply dq 11 O (yq (aI O aX))
 apply dq 12 O (yq (ah O))
 apply dq 13 O
 ·apply yq
  first | exact aW 4 O O bI aN (by omega) | exact az O O bI aN (by omega)
 apply dq 14 O (yq (aI O aX))
 apply dq 15 O
 ·apply yq
  apply bp O kG gB
  apply aP.one
  ·repeat (first | exact ba.here | apply ba.there)
  ·rfl
  ·exact sa
  apply aP.one
  ·repeat (first | exact ba.here | apply ba.there)
  ·rfl
  ·exact sa
  apply aP.one
  ·repeat (first | exact ba.here | apply ba.there)
  ·rfl
  ·exact sa
  apply aP.one
  ·repeat (first | exact ba.here | apply ba.there)
  ·rfl
  ·exact sa
  apply aP.one
  ·repeat (first | exact ba.here | apply ba.there)
  ·rfl
  ·exact sa
  exact aP.nil
 refine ak [] [15,14,13,12,11,10,9,8,7,6,5,4,3,2,1,0] 16 [] gO trivial (by kernel_rfl) (by kernel_rfl) fun Ex=>?_
 refine ay O gB fun b4=>ai ?_
 apply aQ
 ·refine⟨?_,?_,?_,?_,?_,?_,?_,?_,?_,?_,?_,?_,?_,?_,?_,?_,trivial⟩
  ·apply ya O O
   apply yq
   apply bp O kG gB
   apply aP.one
   ·repeat (first | exact ba.here | apply ba.there)
   ·rfl
   ·exact sa
   apply aP.one
   ·repeat (first | exact ba.here | apply ba.there)
   ·rfl
   ·exact sa
   apply aP.one
   ·repeat (first | exact ba.here | apply ba.there)
   ·rfl
   ·exact sa
   apply aP.one
   ·repeat (first | exact ba.here | apply ba.there)
   ·rfl
   ·exact sa
   apply aP.one
   ·repeat (first | exact ba.here | apply ba.there)
   ·rfl
   ·exact sa
   exact aP.nil
  ·apply ya O O;exact yq (aI O aX)
  ·apply ya O O
   apply yq
   first | exact aW 4 O O bI aN (by omega) | exact az O O bI aN (by omega)
  ·apply ya O O;exact yq (ah O)
  ·apply ya O O;exact yq (aI O aX)
  ·apply ya O O
   apply yq
   first | exact aW 3 O O bI aN (by omega) | exact az O O bI aN (by omega)
  ·apply ya O O;exact yq (ah O)
  ·apply ya O O;exact yq (aI O aX)
  ·apply ya O O
   apply yq
   first | exact aW 2 O O bI aN (by omega) | exact az O O bI aN (by omega)
  ·apply ya O O;exact yq (ah O)
  ·apply ya O O;exact yq (aI O aX)
  ·apply ya O O
   apply yq
   first | exact aW 1 O O bI aN (by omega) | exact az O O bI aN (by omega)
  ·apply ya O O;exact yq (ah O)
  ·apply ya O O;exact yq (aI O aX)
  ·apply ya O O
   apply yq
   first | exact aW 0 O O bI aN (by omega) | exact az O O bI aN (by omega)
  apply ya O O;exact yq (ah O)
 refine ak [15,0,1,2,3,4,5,6,7,8,9,10,11,12,13,14] [] 17 [(4,_),(24,_)] gO ⟨rfl,rfl,trivial⟩ (by kernel_rfl) (by kernel_rfl) fun Ex=>?_
 refine bZ O O O bH O O ?_
 refine ai ?_
 refine aQ trivial ?_
 refine aV (by kernel_rfl) ?_
 refine an<|al<|aB<|sr<|ad O (aE 0 O cB O O aN)<|ad O (aI O aX) ?_
 refine ad O (qi O O (bj ·))<|mv O O<|bQ (t:=29) rfl (fun p1=>?_) fun p1=>?_
 ·refine ax O O O O<|ax O O O O<|ax O O O O<|ad O (aS O O)<|ar O O<|lc<|bk O<|sr ?_
  apply ad O
  ·apply bp O kG gB
   exact aP.nil
  refine bZ O O O bH O O ?_
  refine ar O O<|lc<|rt ?_
  apply aR (.inl rfl) ([pt b (.cells #[.int .i64 l.key,.int .i64 l.elem,.int .i64 l.ka,.int .i64 l.ea,.int .i64 l.cap] 3 (0,0))])
  ·apply cF O
   ·apply Rv.agg rfl
    ·exact tk
    exact aJ cZ bH O
   exact .tmp rfl
  ·have he:=Lay.e31 (.inl p1);have ho:∀ x,l.o x=0:=fun x=>(by unfold Lay.o;simp[he]);exact⟨by simp only[ho,he],rfl⟩
  exact en
 refine aA O O<|ad O (aE 0 O cB O O aN)<|aA O O<|ad O (aI O aX) ?_
 refine aA O O<|ad O (qi O O (di ·))<|ad O (aS O O)<|ar O O<|lc<|aG O (fun p2=>?_) fun p2=>?_
 ·refine sr ?_
  apply ad O
  ·apply bp O kG gB
   exact aP.nil
  refine bZ O O O bH O O ?_
  refine ar O O<|lc<|rt ?_
  apply aR (.inl rfl) ([pt b (.cells #[.int .i64 l.key,.int .i64 l.elem,.int .i64 l.ka,.int .i64 l.ea,.int .i64 l.cap] 3 (0,0))])
  ·apply cF O
   ·apply Rv.agg rfl
    ·exact tk
    exact aJ cZ bH O
   exact .tmp rfl
  ·have he:=Lay.e31 (.inr p2);have ho:∀ x,l.o x=0:=fun x=>(by unfold Lay.o;simp[he]);exact⟨by simp only[ho,he],rfl⟩
  exact en
 refine sr<|ad O (aE 1 O cB O O aN)<|ad O (aI O aX) ?_
 refine ad O (qi O O (bj ·))<|mv O O<|bQ (t:=39) rfl (fun p3=>?_) fun p3=>?_
 ·refine ax O O O O<|ax O O O O<|ax O O O O<|ad O (aS O O)<|ar O O<|lc<|bk O<|sr ?_
  apply ad O
  ·apply bp O kG gB
   exact aP.nil
  refine bZ O O O bH O O ?_
  refine ar O O<|lc<|rt ?_
  apply aR (.inl rfl) ([pt b (.cells #[.int .i64 l.key,.int .i64 l.elem,.int .i64 l.ka,.int .i64 l.ea,.int .i64 l.cap] 3 (0,0))])
  ·apply cF O
   ·apply Rv.agg rfl
    ·exact tk
    exact aJ cZ bH O
   exact .tmp rfl
  ·have he:=Lay.e32 p1 p2 (.inl p3);have ho:∀ x,l.o x=0:=fun x=>(by unfold Lay.o;simp[he]);exact⟨by simp only[ho,he],rfl⟩
  exact en
 refine aA O O<|ad O (aE 1 O cB O O aN)<|aA O O<|ad O (aI O aX) ?_
 refine aA O O<|ad O (qi O O (di ·))<|ad O (aS O O)<|ar O O<|lc<|aG O (fun p4=>?_) fun p4=>?_
 ·refine sr ?_
  apply ad O
  ·apply bp O kG gB
   exact aP.nil
  refine bZ O O O bH O O ?_
  refine ar O O<|lc<|rt ?_
  apply aR (.inl rfl) ([pt b (.cells #[.int .i64 l.key,.int .i64 l.elem,.int .i64 l.ka,.int .i64 l.ea,.int .i64 l.cap] 3 (0,0))])
  ·apply cF O
   ·apply Rv.agg rfl
    ·exact tk
    exact aJ cZ bH O
   exact .tmp rfl
  ·have he:=Lay.e32 p1 p2 (.inr p4);have ho:∀ x,l.o x=0:=fun x=>(by unfold Lay.o;simp[he]);exact⟨by simp only[ho,he],rfl⟩
  exact en
 refine sr<|ad O (aE 0 O cB O O aN)<|ad O (aI O aX) ?_
 refine ad O (aE 2 O cB O O aN)<|ad O (aI O aX) ?_
 refine bF O O O (qH _ _ (by omega)) ?_
 refine ad O (db O (cy ·))<|mv O O<|bQ (t:=52) rfl (fun p5=>?_) fun p5=>?_
 ·refine ax O O O O<|ax O O O O<|ax O O O O<|ax O O O O<|ax O O O O<|ax O O O O<|ad O (aS O O)<|ar O O<|lc<|bk O<|sr ?_
  apply ad O
  ·apply bp O kG gB
   exact aP.nil
  refine bZ O O O bH O O ?_
  refine ar O O<|lc<|rt ?_
  apply aR (.inl rfl) ([pt b (.cells #[.int .i64 l.key,.int .i64 l.elem,.int .i64 l.ka,.int .i64 l.ea,.int .i64 l.cap] 3 (0,0))])
  ·apply cF O
   ·apply Rv.agg rfl
    ·exact tk
    exact aJ cZ bH O
   exact .tmp rfl
  ·have he:=Lay.e33 p1 p2 p3 p4 (.inl (by simpa using p5));have ho:∀ x,l.o x=0:=fun x=>(by unfold Lay.o;simp[he]);exact⟨by simp only[ho,he],rfl⟩
  exact en
 refine aA O O<|ad O (aE 1 O cB O O aN)<|aA O O<|ad O (aI O aX) ?_
 refine aA O O<|ad O (aE 3 O cB O O aN)<|aA O O<|ad O (aI O aX) ?_
 refine aA O O<|bF O O O (qH _ _ (by omega)) ?_
 refine aA O O<|ad O (db O (cy ·))<|ad O (aS O O)<|ar O O<|lc<|aG O (fun p6=>?_) fun p6=>?_
 ·refine sr ?_
  apply ad O
  ·apply bp O kG gB
   exact aP.nil
  refine bZ O O O bH O O ?_
  refine ar O O<|lc<|rt ?_
  apply aR (.inl rfl) ([pt b (.cells #[.int .i64 l.key,.int .i64 l.elem,.int .i64 l.ka,.int .i64 l.ea,.int .i64 l.cap] 3 (0,0))])
  ·apply cF O
   ·apply Rv.agg rfl
    ·exact tk
    exact aJ cZ bH O
   exact .tmp rfl
  ·have he:=Lay.e33 p1 p2 p3 p4 (.inr (by simpa using p6));have ho:∀ x,l.o x=0:=fun x=>(by unfold Lay.o;simp[he]);exact⟨by simp only[ho,he],rfl⟩
  exact en
 refine sr<|ad O (aE 4 O cB O O aN)<|ad O (aI O aX) ?_
 refine bF O O O (power_ok _ _ _ (by omega) (by omega)) ?_
 refine ad O (db O (cy ·))<|ar O O<|lc<|aG O (fun p7=>?_) fun p7=>?_
 ·refine sr ?_
  apply ad O
  ·apply bp O kG gB
   exact aP.nil
  refine bZ O O O bH O O ?_
  refine ar O O<|lc<|rt ?_
  apply aR (.inl rfl) ([pt b (.cells #[.int .i64 l.key,.int .i64 l.elem,.int .i64 l.ka,.int .i64 l.ea,.int .i64 l.cap] 3 (0,0))])
  ·apply cF O
   ·apply Rv.agg rfl
    ·exact tk
    exact aJ cZ bH O
   exact .tmp rfl
  ·have he:=Lay.e34 p1 p2 p3 p4 (by simpa using p5) (by simpa using p6) (by simpa using p7);have ho:∀ x,l.o x=0:=fun x=>(by unfold Lay.o;simp[he]);exact⟨by simp only[ho,he],rfl⟩
  exact en
 refine aq<|bz<|nz<|ad O (aE 0 O cB O O aN)<|ad O (aI O aX) ?_
 refine ad O (aE 3 O cB O O aN)<|ad O (aI O aX) ?_
 have he:=Lay.e0 p1 p2 p3 p4 (by simpa using p5) (by simpa using p6) (by simpa using p7)
 have hb:=Lay.bnd he
 refine bF O O O (Lay.eo_ok l (by omega) (by omega)) ?_
 refine ad O (aE 5 O cB O O aN)<|st O O O aN O ?_
 refine lz<|ad O (aE 5 O cB O O aN)<|ad O (aI O aX) ?_
 refine ad O (aE 1 O cB O O aN)<|ad O (aI O aX) ?_
 refine ad O (bn O O) ?_
 refine bF O O O (Lay.bo_ok l (by omega)) ?_
 refine ad O (aE 6 O cB O O aN)<|st O O O aN O ?_
 refine lz<|ad O (aE 6 O cB O O aN)<|ad O (aI O aX) ?_
 refine ad O (bn O O) ?_
 refine ad O (aE 7 O cB O O aN)<|st O O O aN O ?_
 refine lz<|ad O (aE 7 O cB O O aN)<|ad O (aI O aX) ?_
 refine ad O (dA O O) ?_
 refine ad O (bn O O) ?_
 refine ad O (aE 8 O cB O O aN)<|st O O O aN O ?_
 refine lz<|ad O (aO O cZ bH) ?_
 refine bZ O O O bH O O ?_
 refine ar O O<|lc<|rt ?_
 apply aR (.inl rfl) ([pt b (.cells #[.int .i64 l.key,.int .i64 l.elem,.int .i64 l.ka,.int .i64 l.ea,.int .i64 l.cap] 3 (0,0))])
 ·apply cF O
  ·apply Rv.agg rfl
   ·exact tk
   exact aJ cZ bH O
  exact .tmp rfl
 ·have ho:∀ x,l.o x=x:=fun x=>(by unfold Lay.o;simp[he]);exact⟨by simp only[ho,he];rfl,rfl⟩
 exact en
def G1 (cs:List Value):Prop:=∃ l:Lay,l.err=0/\cs=l.cells.toList
theorem Valid_ok (k e ka ea cp eo bo sl g:Int):aK Tryz.prog 181 #[.agg #[.int .i64 k,.int .i64 e,.int .i64 ka,.int .i64 ea,.int .i64 cp,.int .i64 eo,.int .i64 bo,.int .i64 sl,.int .i64 g]] []
  (fun v L=>∃ b:Bool,v=.bool b/\L= []/\(b=true↔G1 [.int .i64 k,.int .i64 e,.int .i64 ka,.int .i64 ea,.int .i64 cp,.int .i64 eo,.int .i64 bo,.int .i64 sl,.int .i64 g])):=by
 refine au Ip Tryz.func181 rfl rfl rfl fun Fr w0=>aZ ?_
 refine sr<|bw O O fun b1=>ar O O<|lz<|ad O (aE 0 O cB O O aN)<|ad O (aI O aX) ?_
 refine ad O (aE 1 O cB O O aN)<|ad O (aI O aX) ?_
 refine ad O (aE 2 O cB O O aN)<|ad O (aI O aX) ?_
 refine ad O (aE 3 O cB O O aN)<|ad O (aI O aX) ?_
 refine ad O (aE 4 O cB O O aN)<|ad O (aI O aX) ?_
 refine bR [_,_,_,_,_] rfl rfl bI aN sj rfl rfl rfl rfl (fun b16=>?_)
 refine bF O O O (Parse_ok _ ⟨k,e,ka,ea,cp⟩) ?_
 refine mv O O<|ad O (aa O ga) ?_
 refine ad O (aa O ga) ?_
 refine ay O gB fun b3=>bZ O O O bH O O ?_
 refine ar O O<|lz<|mv O O<|ad O (qi O O (bN ·))<|mv O O<|bQ (t:=22) rfl (fun h=>?_) fun h=>?_
 ·refine aA O O<|ad O (aO O cZ bH) ?_
  refine aA O O<|ad O (aO O cZ bH) ?_
  refine aA O O<|ad O (gI O O (mJ · E9) fun w=>r9 w cB E8 (by kernel_rfl) (by kernel_rfl)) ?_
  refine ad O (aS O O)<|ar O O<|lc<|rt ?_
  have ho:∀ x,(⟨k,e,ka,ea,cp⟩:Lay).o x=x:=fun x=>(by unfold Lay.o;simp[h])
  refine cN O ([]) (.tmp rfl) ?_
  (refine⟨_,rfl,rfl,?_⟩;simp only[ho,decide_eq_true_eq];exact⟨fun q=>⟨⟨k,e,ka,ea,cp⟩,h,q.symm⟩,fun⟨l,hl,q⟩=>(by simp only[List.cons.injEq,Value.int.injEq,true_and] at q;obtain⟨rfl,rfl,rfl,rfl,rfl,rfl,rfl,rfl,rfl,_⟩:=q;rfl)⟩)
 refine ax O O O O<|ax O O O O<|ax O O O O<|ad O (aS O O)<|ar O O<|lc<|rt<|cN O ([]) (.tmp rfl) ?_
 exact⟨false,rfl,rfl,by simp;rintro⟨l,hl,q⟩;simp only[List.cons.injEq,Value.int.injEq,true_and] at q;obtain⟨rfl,rfl,rfl,rfl,rfl,_⟩:=q;exact h hl⟩
theorem ob (l:Lay) (hl:l.err=0):aK Tryz.prog 181 #[.agg l.cells] [] (fun v L=>v=.bool true/\L= []):=
 (Valid_ok l.key l.elem l.ka l.ea l.cap l.eo l.bo l.slot l.group).mono fun v L ⟨b,hv,hL,hb⟩=>⟨by rw[hv,hb.2 ⟨l,hl,rfl⟩],hL⟩
def fX (l:Lay) (i off:Int):Int:=if i < 0\/8<=i then -1 else 8+i*l.slot+off
theorem pY (l:Lay) (hl:l.err=0) (i off:Int) (ho:0<=off/\off<=1000):aK Tryz.prog 228 #[.agg l.cells,.int .i64 i,.int .i64 off] [] (fun v L=>v=.int .i64 (fX l i off)/\L= []):=by
 have hb:=Lay.bnd hl
 refine au HG Tryz.func228 rfl rfl rfl fun Fr w0=>aZ ?_
 refine sr<|bw O O fun b3=>ar O O<|lc<|al<|sr<|mv O O<|ad O (qi O O (bj ·))<|mv O O<|bQ (t:=9) rfl (fun h=>?_) fun h=>?_
 ·refine ax O O O O<|ax O O O O<|ad O (aS O O)<|mv O O<|ax O O O O<|ax O O O O<|ax O O O O<|ad O (aS O O)<|lc<|bk O<|sr<|ar O O<|lc<|rt<|cN O ([]) (.tmp rfl) ?_
  exact⟨by unfold fX;rw[if_pos (.inl h)],rfl⟩
 refine aA O O<|mv O O<|aA O O<|ad O (qi O O (iC ·))<|ad O (aS O O)<|mv O O<|bQ (t:=13) rfl (fun k=>?_) fun k=>?_
 ·refine ax O O O O<|ax O O O O<|ax O O O O<|ad O (aS O O)<|lc<|bk O<|sr<|ar O O<|lc<|rt<|cN O ([]) (.tmp rfl) ?_
  exact⟨by unfold fX;rw[if_pos (.inr k)],rfl⟩
 refine aA O O<|ad O (aO O cZ bH) ?_
 refine aA O O ?_
 have hm:0<=i*l.slot/\i*l.slot<=7*278:=⟨Int.mul_nonneg (by omega) (by omega),Int.mul_le_mul (by omega) (by omega) (by omega) (by omega)⟩
 refine bF O O O (ob l hl) ?_
 refine aA O O<|ad O (db O (cy ·))<|ad O (aS O O)<|lc<|aG O (fun z=>?_) fun z=>?_
 ·exact absurd z (by simp)
 refine aq<|nz<|mv O O<|ad O (aE 7 O cB O O aN)<|ad O (aI O aX) ?_
 refine ad O (dA O O) ?_
 refine ad O (bn O O) ?_
 refine mv O O<|ad O (bn O O) ?_
 refine ar O O<|lc<|rt<|cN O ([]) (.tmp rfl) ?_
 exact⟨by unfold fX;rw[if_neg (by omega)],rfl⟩
theorem qL (l:Lay) (hl:l.err=0) (i:Int):aK Tryz.prog 197 #[.agg l.cells,.int .i64 i] [] (fun v L=>v=.int .i64 (fX l i 0)/\L= []):=by
 refine au H6 Tryz.func197 rfl rfl rfl fun Fr w0=>aZ ?_
 refine sr<|bw O O fun b2=>ar O O<|lz<|ad O (aO O cZ bH) ?_
 refine mv O O<|bF O O O (pY l hl _ _ (by omega)) ?_
 exact ar O O<|lc<|rt<|cN O ([]) (.tmp rfl) ⟨rfl,rfl⟩
theorem om (l:Lay) (hl:l.err=0) (i:Int):aK Tryz.prog 196 #[.agg l.cells,.int .i64 i] [] (fun v L=>v=.int .i64 (fX l i l.eo)/\L= []):=by
 have hb:=Lay.bnd hl
 refine au H7 Tryz.func196 rfl rfl rfl fun Fr w0=>aZ ?_
 refine sr<|bw O O fun b2=>ar O O<|lz<|ad O (aO O cZ bH) ?_
 refine mv O O<|ad O (aE 5 O cB O O aN)<|ad O (aI O aX) ?_
 refine bF O O O (pY l hl _ _ (by omega)) ?_
 exact ar O O<|lc<|rt<|cN O ([]) (.tmp rfl) ⟨rfl,rfl⟩
theorem xC (l:Lay) (hl:l.err=0) (i:Int):aK Tryz.prog 230 #[.agg l.cells,.int .i64 i] [] (fun v L=>v=.int .i64 (fX l i l.bo)/\L= []):=by
 have hb:=Lay.bnd hl
 refine au HE Tryz.func230 rfl rfl rfl fun Fr w0=>aZ ?_
 refine sr<|bw O O fun b2=>ar O O<|lz<|ad O (aO O cZ bH) ?_
 refine mv O O<|ad O (aE 6 O cB O O aN)<|ad O (aI O aX) ?_
 refine bF O O O (pY l hl _ _ (by omega)) ?_
 exact ar O O<|lc<|rt<|cN O ([]) (.tmp rfl) ⟨rfl,rfl⟩
theorem Ab (l:Lay) (hl:l.err=0) (n:Int) (hn:powB n 8 65536=true):aK Tryz.prog 130 #[.agg l.cells,.int .i64 n] [] (fun v L=>v=.int .i64 (n / 8*l.group)/\L= []):=by
 have hb:=Lay.bnd hl
 have hn1:=powB_le hn
 have hm:0<=n / 8*l.group/\n / 8*l.group<=8192*2232:=⟨Int.mul_nonneg (by omega) (by omega),Int.mul_le_mul (by omega) (by omega) (by omega) (by omega)⟩
 refine au I0 Tryz.func130 rfl rfl rfl fun Fr w0=>aZ ?_
 refine sr<|bw O O fun b2=>ar O O<|lc<|al<|sr<|mv O O<|bF O O O (power_ok _ _ _ (by omega) (by omega)) ?_
 refine ad O (db O (cy ·))<|mv O O<|bQ (t:=8) rfl (fun h=>?_) fun h=>?_
 ·rw[hn] at h;cases h
 refine aA O O<|ad O (aO O cZ bH) ?_
 refine aA O O<|bF O O O (ob l hl) ?_
 refine aA O O<|ad O (db O (cy ·))<|ad O (aS O O)<|lc<|aG O (fun z=>?_) fun z=>?_
 ·exact absurd z (by simp)
 refine aq<|nz<|mv O O<|ad O (eT O O) ?_
 refine ad O (aE 8 O cB O O aN)<|ad O (aI O aX) ?_
 refine ad O (dA O O) ?_
 exact ar O O<|lc<|rt<|cN O ([]) (.tmp rfl) ⟨rfl,rfl⟩
end Go.Proofs.YthkajgkagnenbaaGreatDoor.Layout
