import Derived.Test.YthkajgkagnenbaaGreatDoorCtrlB
import Derived.Laws.IdiomCopy
import Derived.Shelf.Spec.SlicesInsert
import Derived.Shelf.Spec.SlicesInsertGrow
set_option linter.unusedVariables false
set_option linter.unusedSimpArgs false
set_option linter.unusedSectionVars false
namespace Go.Proofs.YthkajgkagnenbaaGreatDoor
section
namespace Eng
open Go.RowKit
section
variable {c:Cx} {fin:Exit→Act→World→Prop} {ds:List Deferred} {E:Env} {L:List HP} {ks:List KI} {ops:Array Oper} {rest:List Oper}
variable {d:Option Tmp} {ty:TypeId} {pos:String} {af:Array Edge} {gd:Option (Nat×Bool)}
theorem fw {L':List HP} {x:Code} (hl:Ent L L') (h:TC c fin ds E L' x ks):TC c fin ds E L x ks:=fun a w hs=>h a w ⟨hs.size,hs.defs,hs.agree,hl _ hs.sat,hs.ext⟩
theorem lF {L':List HP} {x:Exit} (hl:Ent L L') (h:TN c fin ds E L' x ks):TN c fin ds E L x ks:=fun a w hs=>h a w ⟨hs.size,hs.defs,hs.agree,hl _ hs.sat,hs.ext⟩
theorem wk {L':List HP} {l:List Oper} (hl:Ent L L') (h:TL c fin ds E L' ops l ks):TL c fin ds E L ops l ks:=fun a w hs=>h a w ⟨hs.size,hs.defs,hs.agree,hl _ hs.sat,hs.ext⟩
def ct (A:HP) (a:Addr) (v:Value):Prop:=∀ w,Sat A w→w.cell? a=some v
theorem bI {A:HP} {t:TypeId} {x:Operand} {a0:Addr} {v:Value} {M:List HP} (hx:ev E x=some (.pointer (some a0)))
  (ha:∀ w,(isAgg t).run c.P w=.ok false w) (ht:Take A L M) (hv:ct A a0 v):QV c ds E L ⟨d,.load t x,ty,pos,af,gd⟩ v:=
 ⟨by intro k;simp,fun a w hs=>by
  have hb:=hv w (hs.sat.take ht).left
  simp only[execOp,Instr.loadAt,Instr.sureAddr,hs.ev hx,Sem.run_bind,Sem.run_pure,Result.andThen,loadVar,ha]
  simp[load,Sem.run,hb]⟩
theorem ki {P:Program} {w:World} {a0:Addr}:∀(n i:Nat) (acc:Array Value) (us:List Value),us.length=n→(∀ j u,us[j]?=some u→w.cell? (a0.add (i+j))=some u)→
  (loadCellsFrom a0 i n acc).run P w=.ok (acc ++ us.toArray) w
 | 0,i,acc,us,hl,h=>by
  have:us= []:=List.eq_nil_of_length_eq_zero hl
  subst this
  simp only[loadCellsFrom,Sem.run_pure];simp
 | n+1,i,acc,us,hl,h=>by
  cases us with
  | nil=>simp at hl
  | cons u us=>
   simp only[loadCellsFrom,Sem.run_bind]
   have h0:=h 0 u rfl
   rw[Nat.add_zero] at h0
   have hl0:(load (a0.add i)).run P w=.ok u w:=by simp[load,Sem.run,h0]
   rw[hl0]
   simp only[Result.andThen]
   rw[ki n (i+1) _ us (by simpa using hl) fun j v hv=>by
    have:=h (j+1) v (by simpa using hv)
    rw[show i+1+j=i+(j+1) by omega];exact this]
   simp
theorem eu {A:HP} {t:TypeId} {x:Operand} {a0:Addr} {n:Nat} {us:List Value} {M:List HP} (hx:ev E x=some (.pointer (some a0)))
  (ha:∀ w,(isAgg t).run c.P w=.ok true w) (hn:∀ w,(sizeOf t).run c.P w=.ok n w) (hl:us.length=n) (ht:Take A L M) (hv:∀ j u,us[j]?=some u→ct A (a0.add j) u):QV c ds E L ⟨d,.load t x,ty,pos,af,gd⟩ (.agg us.toArray):=
 ⟨by intro k;simp,fun a w hs=>by
  have hb:=(hs.sat.take ht).left
  have hr:(loadCells a0 n).run c.P w=.ok us.toArray w:=by
   unfold loadCells
   rw[ki n 0 #[] us hl fun j u hu=>by rw[Nat.zero_add];exact hv j u hu w hb]
   simp
  simp only[execOp,Instr.loadAt,Instr.sureAddr,hs.ev hx,Sem.run_bind,Sem.run_pure,Result.andThen,loadVar,ha,hn,if_true,hr]⟩
end
end Eng
end
section
set_option maxRecDepth 100000
namespace Ctrl
open Go.RowKit Go.Proofs Eng Ty Bits CtrlB
def dz (G:HP):Prop:=∀ i b,dbt[i]?=some b→ct G ⟨1,i,none⟩ (.int .u8 (b:Nat))
abbrev iP (s:Nat→Bool):Value:=.agg #[.int .u64 (fP s)]
abbrev wI (f:Byt):Int:=((wd f:Nat):Int)
theorem Be:aG Tryz.prog 184 #[] [] (fun v L=>v=.int .u64 (wI fun _=>128)∧L= []):=by
 refine aq FX Tryz.func184 rfl rfl rfl fun Fr w0=>aR ?_
 refine sr<|asg rfl rfl<|lz<|asg rfl rfl<|lc<|rt<|fr1 rfl ([]) (.tmp rfl) ?_
 exact⟨by rw[show wI (fun _=>128)=9259542123273814144 from rfl],rfl⟩
theorem n5 (w:Int) (s:Nat→Bool) (h:n8 w=fP s):aG Tryz.prog 212 #[.int .u64 w] [] (fun v L=>v=iP s∧L= []):=by
 refine aq Fy Tryz.func212 rfl rfl rfl fun Fr w0=>aR ?_
 refine sr<|az rfl jQ fun b2=>lz<|mv rfl rfl<|l_q rfl (gn rfl rfl rfl)<|l_q rfl (ba rfl rfl) ?_
 refine mv rfl rfl<|l_q rfl (gn rfl rfl rfl)<|l_q rfl (cX rfl (CS ·))<|l_q rfl (gn rfl rfl rfl) ?_
 apply l_q rfl
 ·apply aQ rfl vK jQ
  apply aF.one
  ·repeat (first | exact aH.here | apply aH.there)
  ·rfl
  ·exact sa
  exact aF.nil
 refine sta rfl rfl rfl fI rfl rfl ?_
 refine lc<|rt ?_
 apply aJ (.inl rfl) ([])
 ·apply cO rfl
  apply Rv.agg rfl
  ·exact tk
  exact aD lB fI rfl
 ·exact⟨by show Value.agg #[Value.int .u64 (n8 w)]=_;rw[h],rfl⟩
 exact en
theorem uk (f:Byt) (hf:okB f) (tag:Nat) (ht:tag < 128):aG Tryz.prog 188 #[.int .u64 (wI f),.int .i64 tag] [] (fun v L=>v=iP (fun i=>f i == tag)∧L= []):=by
 refine aq FR Tryz.func188 rfl rfl rfl fun Fr w0=>aR ?_
 refine sr<|az rfl jQ fun b4=>lc<|ah<|sr<|mv rfl rfl<|l_q rfl (qi rfl rfl (aU ·))<|mv rfl rfl<|bD (t:=7) rfl (fun h=>?_) fun h=>?_
 ·omega
 refine au rfl rfl<|mv rfl rfl<|au rfl rfl<|l_q rfl (qi rfl rfl (cU ·))<|l_q rfl (aL rfl rfl)<|lc<|aA rfl (fun h2=>?_) fun h2=>?_
 ·omega
 refine al<|nz<|mv rfl rfl<|mv rfl rfl<|l_q rfl (qcv rfl yU3 fF) ?_
 refine l_q rfl (dF rfl rfl) ?_
 refine l_q rfl (gn rfl rfl rfl) ?_
 rw[xz (by omega)]
 refine lc1 rfl rfl rfl (n5 _ _ (ri hf (by omega))) ?_
 refine sta rfl rfl rfl fI rfl rfl ?_
 refine lc<|rt ?_
 apply aJ (.inl rfl) ([])
 ·apply cO rfl
  apply Rv.agg rfl
  ·exact tk
  exact aD lB fI rfl
 ·exact⟨rfl,rfl⟩
 exact en
theorem lJ (f:Byt) (hf:okB f):aG Tryz.prog 161 #[.int .u64 (wI f)] [] (fun v L=>v=iP (fun i=>f i == 128)∧L= []):=by
 refine aq Gg Tryz.func161 rfl rfl rfl fun Fr w0=>aR ?_
 refine sr<|az rfl jQ fun b2=>lz<|mv rfl rfl<|l_q rfl (gn rfl rfl rfl)<|lc1 rfl rfl rfl (n5 _ _ (ri hf (c:=128) (by decide))) ?_
 refine sta rfl rfl rfl fI rfl rfl ?_
 refine lc<|rt ?_
 apply aJ (.inl rfl) ([])
 ·apply cO rfl
  apply Rv.agg rfl
  ·exact tk
  exact aD lB fI rfl
 ·exact⟨rfl,rfl⟩
 exact en
theorem pE (f:Byt) (hf:okB f):aG Tryz.prog 174 #[.int .u64 (wI f)] [] (fun v L=>v=iP (fun i=>f i == 128 || f i == 254)∧L= []):=by
 refine aq F7 Tryz.func174 rfl rfl rfl fun Fr w0=>aR ?_
 refine sr<|az rfl jQ fun b2=>lz<|mv rfl rfl<|lc1 rfl rfl rfl (lJ f hf) ?_
 refine l_q rfl (qq 0 rfl ob rfl j4 rfl ga) ?_
 refine mv rfl rfl<|l_q rfl (gn rfl rfl rfl)<|lc1 rfl rfl rfl (n5 _ _ (ri hf (c:=254) (by decide))) ?_
 refine l_q rfl (qq 0 rfl ob rfl j4 rfl ga) ?_
 refine l_q rfl (gn rfl rfl rfl) ?_
 apply l_q rfl
 ·apply aQ rfl vK jQ
  apply aF.one
  ·repeat (first | exact aH.here | apply aH.there)
  ·rfl
  ·exact sa
  exact aF.nil
 refine sta rfl rfl rfl fI rfl rfl ?_
 refine lc<|rt ?_
 rw[DE]
 apply aJ (.inl rfl) ([])
 ·apply cO rfl
  apply Rv.agg rfl
  ·exact tk
  exact aD lB fI rfl
 ·exact⟨rfl,rfl⟩
 exact en
theorem sn (f:Byt) (hf:okB f):aG Tryz.prog 194 #[.int .u64 (wI f)] [] (fun v L=>v=iP (fun i=>decide (f i < 128))∧L= []):=by
 refine aq FM Tryz.func194 rfl rfl rfl fun Fr w0=>aR ?_
 refine sr<|az rfl jQ fun b2=>lz<|mv rfl rfl<|l_q rfl (cX rfl (CS ·))<|l_q rfl (gn rfl rfl rfl) ?_
 apply l_q rfl
 ·apply aQ rfl vK jQ
  apply aF.one
  ·repeat (first | exact aH.here | apply aH.there)
  ·rfl
  ·exact sa
  exact aF.nil
 refine sta rfl rfl rfl fI rfl rfl ?_
 refine lc<|rt ?_
 rw[Ah hf]
 apply aJ (.inl rfl) ([])
 ·apply cO rfl
  apply Rv.agg rfl
  ·exact tk
  exact aD lB fI rfl
 ·exact⟨rfl,rfl⟩
 exact en
theorem zJ {i:Nat} (hi:i < 8):(2:Int) ^ min (8*(i:Int)).toNat IntKind.u64.bits=((2 ^ (8*i):Nat):Int):=by
 rw[show min (8*(i:Int)).toNat IntKind.u64.bits=8*i by show min _ 64=_;omega,Int.natCast_pow];rfl
theorem D9 (f:Byt) (hf:okB f) (i:Nat) (hi:i < 8):aG Tryz.prog 202 #[.int .u64 (wI f),.int .i64 i] [] (fun v L=>v=.int .i64 (f i:Nat)∧L= []):=by
 have hfi:=hf i hi
 refine aq FE Tryz.func202 rfl rfl rfl fun Fr w0=>aR ?_
 refine sr<|asg rfl rfl<|lc<|ah<|sr<|mv rfl rfl<|l_q rfl (qi rfl rfl (aU ·))<|mv rfl rfl<|bD (t:=7) rfl (fun h=>?_) fun h=>?_
 ·omega
 refine au rfl rfl<|mv rfl rfl<|au rfl rfl<|l_q rfl (qi rfl rfl (cU ·))<|l_q rfl (aL rfl rfl)<|lc<|aA rfl (fun h2=>?_) fun h2=>?_
 ·omega
 refine al<|nz<|mv rfl rfl<|mv rfl rfl<|l_q rfl (dF rfl rfl) ?_
 apply l_q rfl
 ·apply qi rfl rfl;exact fun w=>jR w (by omega)
 refine l_q rfl (gn rfl rfl rfl)<|l_q rfl (qcv rfl fF yU3) ?_
 refine asg rfl rfl<|lc<|rt<|fr1 rfl ([]) (.tmp rfl) ?_
 refine⟨?_,rfl⟩;rw[zJ hi,Int.fdiv_eq_ediv_of_nonneg _ (Int.natCast_nonneg _),DP hf hi,wrap_i64 (by omega)]
theorem D3 (f:Byt) (hf:okB f) (i c:Nat) (hi:i < 8) (hc:c < 256):aG Tryz.prog 229 #[.int .u64 (wI f),.int .i64 i,.int .i64 c] [] (fun v L=>v=.int .u64 (wI (lR f i c))∧L= []):=by
 refine aq Fk Tryz.func229 rfl rfl rfl fun Fr w0=>aR ?_
 refine sr<|asg rfl rfl<|lc<|ah<|sr<|mv rfl rfl<|l_q rfl (qi rfl rfl (aU ·))<|mv rfl rfl<|bD (t:=9) rfl (fun h=>?_) fun h=>?_
 ·omega
 refine au rfl rfl<|mv rfl rfl<|au rfl rfl<|l_q rfl (qi rfl rfl (cU ·))<|l_q rfl (aL rfl rfl)<|mv rfl rfl<|bD (t:=13) rfl (fun h2=>?_) fun h2=>?_
 ·omega
 refine au rfl rfl<|mv rfl rfl<|au rfl rfl<|l_q rfl (qi rfl rfl (aU ·))<|l_q rfl (aL rfl rfl)<|mv rfl rfl<|bD (t:=17) rfl (fun h3=>?_) fun h3=>?_
 ·omega
 refine au rfl rfl<|mv rfl rfl<|au rfl rfl<|l_q rfl (qi rfl rfl (cU ·))<|l_q rfl (aL rfl rfl)<|lc<|aA rfl (fun h4=>?_) fun h4=>?_
 ·omega
 refine al<|ak<|ah<|aS mixed ?_
 apply dq 0 rfl
 ·exact yq (ai rfl)
 apply dq 1 rfl
 ·exact yq (ai rfl)
 apply dq 2 rfl
 ·exact yq (dF rfl rfl)
 apply dq 3 rfl
 ·apply yq
  apply qi rfl rfl;exact fun w=>Az w (by omega)
 apply dq 4 rfl
 ·exact yq (gn rfl rfl rfl)
 apply dq 5 rfl
 ·exact yq (ai rfl)
 apply dq 6 rfl
 ·exact yq (qcv rfl yU3 fF)
 apply dq 7 rfl
 ·exact yq (ai rfl)
 apply dq 8 rfl
 ·exact yq (dF rfl rfl)
 apply dq 9 rfl
 ·apply yq
  apply qi rfl rfl;exact fun w=>Az w (by omega)
 apply dq 10 rfl
 ·exact yq (gn rfl rfl rfl)
 refine an [10,0,1,2,3,4,5,6,7,8,9] [] 11 [(32,_)] gO ⟨rfl,trivial⟩ (by kernel_rfl) (by kernel_rfl) fun Ex=>?_
 refine asg rfl rfl<|aj ?_
 apply n_d
 ·exact trivial
 refine bd (by kernel_rfl) ?_
 refine ak<|rt<|fr1 rfl ([]) (.tmp rfl) ?_
 refine⟨?_,rfl⟩;rw[zJ hi,Dv hf hi hc]
theorem A7 (s:Nat→Bool) (i:Nat) (hi:i < 8):aG Tryz.prog 190 #[iP s,.int .i64 i] [] (fun v L=>v=.bool (s i)∧L= []):=by
 refine aq FP Tryz.func190 rfl rfl rfl fun Fr w0=>aR ?_
 refine sr<|aP rfl rfl fun b2=>asg rfl rfl<|lz<|mv rfl rfl<|l_q rfl (qi rfl rfl (gM ·))<|mv rfl rfl<|bD (t:=7) rfl (fun h=>?_) fun h=>?_
 ·refine au rfl rfl<|mv rfl rfl<|au rfl rfl<|l_q rfl (qi rfl rfl (iw ·))<|l_q rfl (aL rfl rfl)<|mv rfl rfl<|bD (t:=11) rfl (fun h2=>?_) fun h2=>?_
  ·refine au rfl rfl<|l_q rfl (qfa 0 rfl ob rfl rfl oc)<|au rfl rfl<|l_q rfl (qld rfl j4) ?_
   refine au rfl rfl<|mv rfl rfl<|au rfl rfl<|l_q rfl (dF rfl rfl) ?_
   refine au rfl rfl ?_
   apply l_q rfl
   ·apply qi rfl rfl;exact fun w=>jR w (by omega)
   refine au rfl rfl<|l_q rfl (gn rfl rfl rfl)<|au rfl rfl<|l_q rfl (qi rfl rfl (aI ·))<|l_q rfl (aL rfl rfl)<|asg rfl rfl<|lc<|rt<|fr1 rfl ([]) (.tmp rfl) ?_
   refine⟨?_,rfl⟩;rw[zJ hi,Int.fdiv_eq_ediv_of_nonneg _ (Int.natCast_nonneg _),B5 s hi];cases s i <;> rfl
  omega
 omega
theorem nu (G:HP) (hG:dz G) (s:Nat→Bool):aG Tryz.prog 220 #[.int .u64 (fP s)] [G] (fun v L=>v=.int .i64 (if bA s < 8 then 8*(bA s:Nat)+7 else 64)∧L= [G]):=by
 refine aq Ft Tryz.func220 rfl rfl rfl fun Fr w0=>aR ?_
 refine sr<|asg rfl rfl<|lc<|ah<|sr<|mv rfl rfl<|l_q rfl (qi rfl rfl (aZ ·))<|lc<|aA rfl (fun h=>?_) fun h=>?_
 ·refine sr<|asg rfl rfl<|lc<|rt ?_
  have h0:bA s=8:=by
   have:bz s= []:=(gY s).1 (by rw[gH] at h;omega)
   unfold bA;rw[this];rfl
  refine fr1 rfl ([G]) (.tmp rfl) ?_
  exact⟨by rw[if_neg (by omega)],rfl⟩
 have hne:bz s≠[]:=fun q=>h (by rw[gH,(gY s).2 q];rfl)
 have htz:=Bz (x:=gT s) (fun q=>hne ((gY s).1 q)) (rv s)
 rw[← gH] at htz
 have hf8:=(yT s hne).2
 have hw:∀ x,0≤IntKind.u64.wrap x∧IntKind.u64.wrap x < 18446744073709551616:=fun x=>by rw[IntKind.wrap_u64];omega
 have hw2:=hw (bits .and .u64 (fP s) (IntKind.u64.wrap (0-fP s))*285870213051353865)
 refine al<|nz<|mv rfl rfl<|mv rfl rfl<|l_q rfl (cX rfl (yS ·))<|l_q rfl (gn rfl rfl rfl)<|l_q rfl (dF rfl rfl) ?_
 apply l_q rfl
 ·apply qi rfl rfl;first | exact fun w=>jN (m:=288230376151711744) w (by decide) (by decide) (by omega) | exact fun w=>jR w (by decide)
 refine l_q rfl (bk rfl rfl El yS5 (by omega)) ?_
 apply l_q rfl
 ·apply bI rfl yA5
  ·exact tk
  refine hG (tzI (gT s)) (8*bA s+7) (yT s hne).1 |> fun h=>?_;rw[Nat.zero_add,Nat.mul_one,htz,Int.toNat_natCast];exact h
 refine l_q rfl (qcv rfl yU5 yU3) ?_
 refine asg rfl rfl<|lc<|rt<|fr1 rfl ([G]) (.tmp rfl) ?_
 exact⟨by rw[if_pos hf8];congr 1,rfl⟩
theorem ju (G:HP) (hG:dz G) (s:Nat→Bool):aG Tryz.prog 175 #[iP s] [G] (fun v L=>v=.int .i64 (bA s:Nat)∧L= [G]):=by
 have h8:bA s≤8:=by
  unfold bA
  cases h:bz s with
  | nil=>simp
  | cons a r=>
   have:=(dn (s:=s) (i:=a)).1 (by rw[h];simp)
   simp;omega
 refine aq F6 Tryz.func175 rfl rfl rfl fun Fr w0=>aR ?_
 refine sr<|aP rfl rfl fun b1=>asg rfl rfl<|lz<|l_q rfl (qfa 0 rfl ob rfl rfl oc)<|l_q rfl (qld rfl j4) ?_
 refine lc1 rfl rfl rfl (nu G hG s) ?_
 refine l_q rfl (gI rfl rfl) ?_
 refine asg rfl rfl<|lc<|rt<|fr1 rfl ([G]) (.tmp rfl) ?_
 exact⟨by congr 1;split <;> omega,rfl⟩
theorem Cy (s:Nat→Bool) (h:bz s≠[]):aG Tryz.prog 226 #[iP s] [] (fun v L=>v=iP (lE s)∧L= []):=by
 refine aq Fo Tryz.func226 rfl rfl rfl fun Fr w0=>aR ?_
 refine sr<|aP rfl rfl fun b1=>az rfl jQ fun b2=>lz<|l_q rfl (qfa 0 rfl ob rfl rfl oc)<|l_q rfl (qld rfl j4) ?_
 refine l_q rfl (qfa 0 rfl ob rfl rfl oc)<|l_q rfl (qld rfl j4) ?_
 refine l_q rfl (e9 rfl rfl) ?_
 refine l_q rfl (gn rfl rfl rfl) ?_
 apply l_q rfl
 ·apply aQ rfl vK jQ
  apply aF.one
  ·repeat (first | exact aH.here | apply aH.there)
  ·rfl
  ·exact sa
  exact aF.nil
 refine sta rfl rfl rfl fI rfl rfl ?_
 refine lc<|rt ?_
 apply aJ (.inl rfl) ([])
 ·apply cO rfl
  apply Rv.agg rfl
  ·exact tk
  exact aD lB fI rfl
 ·refine⟨?_,rfl⟩;rw[(s6 s h).1]
 exact en
theorem Bg (s:Nat→Bool):aG Tryz.prog 189 #[iP s] [] (fun v L=>∃ b,v=.func (.func 225) #[] #[.pointer (some ⟨b,0,none⟩)]∧L= [pt b (.cells #[.int .u64 (fP s)] 247 (0,0))]):=by
 refine aq FQ Tryz.func189 rfl rfl rfl fun Fr w0=>aR ?_
 exact sr<|aP rfl rfl fun b1=>asg rfl rfl<|lz<|l_q rfl (jF rfl rfl)<|asg rfl rfl<|lc<|rt<|fr1 rfl ([pt b1 (.cells #[.int .u64 (fP s)] 247 (0,0))]) (.tmp rfl) ⟨_,rfl,rfl⟩
def hX (s:Nat→Bool):List (List Value):=(bz s).map fun i=>[.int .i64 (i:Nat)]
theorem Bh (G:HP) (hG:dz G) (b:Nat) (s:Nat→Bool):iZ Tryz.prog 225 #[.pointer (some ⟨b,0,none⟩)] [pt b (.cells #[.int .u64 (fP s)] 247 (0,0)),G] (hX s) [G] [G]:=by
 refine⟨C0,fun l B S hY=>?_⟩
 show aG _ _ #[.func (.yield l) #[] #[],.pointer (some ⟨b,0,none⟩)] _ _
 refine aq C0 Tryz.func225 rfl rfl rfl fun Fr w0=>aR ?_
 refine sr<|l_q rfl (aK rfl lB fI) ?_
 refine az rfl jQ fun b3=>sta rfl rfl rfl fI rfl rfl ?_
 refine lc<|ax ?_
 refine bw (fun x:Nat×Nat×(Nat→Bool)=>x.1≤(bz s).length∧bz x.2.2=(bz s).drop x.1) (fun x=>[(0,.func (.yield l) #[] #[]),(3,.pointer (some ⟨x.2.1,0,none⟩))]) (fun x=>pt x.2.1 (.cells #[.int .u64 (fP x.2.2)] 247 (0,0))::G::B x.1::Fr) (fun x=>(bz s).length-x.1) (0,b3,s) ⟨by omega,by simp⟩ ⟨rfl,rfl,trivial⟩ (by(exact en)) ?_
 rintro⟨k,b',t⟩ ⟨hk,ht⟩
 dsimp only at hk ht ⊢
 refine ah<|sr<|l_q rfl (qfa 0 rfl ob rfl rfl oc)<|l_q rfl (qld rfl j4) ?_
 refine l_q rfl (qi rfl rfl (aI ·))<|lc<|aA rfl (fun h=>?_) fun h=>?_
 ·have hne:bz t≠[]:=fun q=>h (by rw[gH,(gY t).2 q];rfl)
  have hlt:k < (bz s).length:=by
   rcases Nat.lt_or_ge k (bz s).length with q | q
   ·exact q
   rw[List.drop_eq_nil_of_le q] at ht;exact absurd ht hne
  have hat:(hX s)[k]?=some [.int .i64 (bA t:Nat)]:=by
   simp only[hX,List.getElem?_map]
   rw[List.getElem?_eq_getElem hlt]
   have:bA t=(bz s)[k]:=by
    unfold bA;rw[ht,List.drop_eq_getElem_cons hlt];rfl
   simp[this]
  refine al<|ak<|ah<|ax<|sr<|mv rfl rfl<|l_q rfl (aK rfl lB fI) ?_
  refine lc1 rfl rfl rfl (ju G hG t) ?_
  apply rK rfl rfl rfl ((hY k _ hat))
  ·exact pk
  ·exact pk
  rintro bb L' (⟨rfl,rfl⟩ | ⟨rfl,rfl⟩)
  ·refine bF ?_
   refine l_q rfl (cX rfl (bY ·))<|lc<|bR rfl<|al<|aV<|ak<|ah<|sr<|l_q rfl (aK rfl lB fI) ?_
   refine lr<|az rfl jQ fun b3=>sta rfl rfl rfl fI rfl rfl ?_
   refine lr<|l_q rfl (aK rfl lB fI) ?_
   refine lc1 rfl rfl rfl (Cy t hne) ?_
   refine sta rfl rfl rfl fI rfl rfl ?_
   refine aj ?_
   apply aO ((k+1,b3,lE t))
   ·exact⟨by dsimp only;omega,by dsimp only;rw[(s6 t hne).2,ht,List.tail_drop]⟩
   ·dsimp only;omega
   ·exact⟨rfl,rfl,trivial⟩
   exact en
  refine bF ?_
  refine l_q rfl (cX rfl (bY ·))<|lc<|aY rfl<|rt ?_
  apply aJ (.inl rfl) ([G,S (k+1)])
  ·exact pM rfl
  ·exact .inr ⟨k,by simp[hX];exact hlt,rfl⟩
  exact en
 refine xt rfl ?_
 have hnil:bz t= []:=(gY t).1 (by rw[gH] at h;omega)
 have hkk:k=(bz s).length:=by
  rw[hnil] at ht
  have:=congrArg List.length ht
  simp at this;omega
 subst hkk
 apply aJ (.inr rfl) ([G,B (bz s).length])
 ·exact pM rfl
 ·exact .inl (by simp[hX])
 exact en
theorem D2 (h:Int) (hh:0≤h∧h < 18446744073709551616):aG Tryz.prog 139 #[.int .u64 h] [] (fun v L=>v=.int .i64 (h % 128)∧L= []):=by
 refine aq Gt Tryz.func139 rfl rfl rfl fun Fr w0=>aR ?_
 refine sr<|asg rfl rfl<|lz<|mv rfl rfl<|l_q rfl (gn rfl rfl rfl)<|l_q rfl (qcv rfl fF yU3) ?_
 refine asg rfl rfl<|lc<|rt<|fr1 rfl ([]) (.tmp rfl) ?_
 refine⟨?_,rfl⟩;have:=tC h hh.1 hh.2 7 (by decide);rw[show(2:Int) ^ 7-1=127 by decide,show(2:Int) ^ 7=128 by decide] at this;rw[this,wrap_i64 (by omega)]
theorem CD (h:Int) (hh:0≤h∧h < 18446744073709551616):aG Tryz.prog 187 #[.int .u64 h] [] (fun v L=>v=.int .u64 (h / 128)∧L= []):=by
 refine aq FT Tryz.func187 rfl rfl rfl fun Fr w0=>aR ?_
 refine sr<|asg rfl rfl<|lz<|mv rfl rfl ?_
 apply l_q rfl
 ·apply qi rfl rfl;first | exact fun w=>jN (m:=128) w (by decide) (by decide) (by omega) | exact fun w=>jR w (by decide)
 exact asg rfl rfl<|lc<|rt<|fr1 rfl ([]) (.tmp rfl) ⟨rfl,rfl⟩
end Ctrl
end
section
namespace Eng
open Go.RowKit
structure TX where
 g:Nat
 o:Nat
 cap:Nat
 cur:Array Value
def TX.ok (v:Value) (xs:List Value):Option TX→Prop
 | none=>v=.slice none 0 0∧xs= []
 | some t=>v=.slice (some ⟨t.g,t.o,none⟩) xs.length t.cap∧xs.length≤t.cap∧t.cap≤maxLen∧t.o+t.cap≤t.cur.size∧∀ i u,xs[i]?=some u→t.cur[t.o+i]?=some u
def TX.ps (e:TypeId):Option TX→List HP
 | none=>[]
 | some t=>[pt t.g (.cells t.cur e (0,0))]
def eK (e:TypeId) (v:Value) (xs:List Value):HP:=exP (TX.ok v xs) (TX.ps e)
theorem zw {e:TypeId} {L:List HP}:Ent L (eK e (.slice none 0 0) []::L):=fun w h=>bZ.2 ⟨none,⟨rfl,rfl⟩,h⟩
theorem oH {e:TypeId} {v:Value} {xs:List Value} {L:List HP} {w:World} (h:Sat (stars (eK e v xs::L)) w):∃ a cap,v=.slice a xs.length cap∧(0 < xs.length→∃ g o,a=some ⟨g,o,none⟩)∧xs.length≤cap∧cap≤maxLen:=by
 obtain⟨x,hx,_⟩:=bZ.1 h
 cases x with
 | none=>obtain⟨rfl,rfl⟩:=hx;exact⟨none,0,rfl,fun q=>absurd q (by decide),Nat.le_refl _,by decide⟩
 | some t=>obtain⟨rfl,h1,h2,_⟩:=hx;exact⟨_,_,rfl,fun _=>⟨_,_,rfl⟩,h1,h2⟩
theorem nd {e:TypeId} {g o n cap:Nat} {xs:List Value} {i:Nat} {u:Value} (hu:xs[i]?=some u):ct (eK e (.slice (some ⟨g,o,none⟩) n cap) xs) ⟨g,o+i,none⟩ u:=fun w h=>by
 have h':Sat (stars [eK e (.slice (some ⟨g,o,none⟩) n cap) xs]) w:=by
  obtain⟨f,hf,k⟩:=h
  exact⟨f,hf,f,Part.none,k,rfl,Part.disj_none _,(Part.join_none _).symm⟩
 obtain⟨x,hx,hs⟩:=bZ.1 h'
 cases x with
 | none=>obtain⟨q,_⟩:=hx;cases q
 | some t=>
  obtain⟨q,_,_,_,hc⟩:=hx
  cases q
  have hg:=hs.block (b:=t.g) .here
  have:=hc i u hu
  simp[World.cell?,hg,this]
theorem fT {g:Nat} {e:TypeId} {M:List HP}:∀(ys:List Value) (o:Nat) (cur:Array Value) (w:World),Sat (stars (pt g (.cells cur e (0,0))::M)) w→o+ys.length≤cur.size→
  ∃ cur':Array Value,Sat (stars (pt g (.cells cur' e (0,0))::M)) (w.setCells g o ys)∧cur'.size=cur.size∧(∀ k,cur'[k]?=if o≤k∧k < o+ys.length then ys[k-o]? else cur[k]?)∧Ext w (w.setCells g o ys)
 | [],o,cur,w,h,_=>⟨cur,h,rfl,fun k=>by rw[if_neg (by simp only[List.length_nil];omega)],Ext.refl w⟩
 | v::r,o,cur,w,h,hl=>by
  simp only[List.length_cons] at hl
  have hg:=h.block (b:=g) .here
  have h1:Sat (stars (pt g (.cells (cur.setIfInBounds o v) e (0,0))::M)) (w.setCell ⟨g,o,none⟩ v):=
   Sat.setCell (A:=stars M) h v
  obtain⟨cur',a1,a2,a3,a4⟩:=fT r (o+1) (cur.setIfInBounds o v) (w.setCell ⟨g,o,none⟩ v) h1 (by simp;omega)
  refine⟨cur',a1,by simpa using a2,fun k=>?_,((Ext.refl w).setCell _ _).trans a4⟩
  rw[a3 k]
  by_cases q:k=o
  ·subst q
   rw[if_neg (by omega),if_pos (by simp),Array.getElem?_setIfInBounds_self_of_lt (by omega)]
   simp
  by_cases q2:o+1≤k∧k < o+1+r.length
  ·rw[if_pos q2,if_pos (by simp;omega),show k-o=(k-(o+1))+1 by omega]
   simp
  rw[if_neg q2,if_neg (by simp;omega),Array.getElem?_setIfInBounds_ne (Ne.symm q)]
def l3 (xs:List Int) (i:Nat) (x:Int):List Int:=xs.take i ++ x::xs.drop i
theorem zY {xs:List Int} {i:Nat} (h:i≤xs.length) (x:Int):(l3 xs i x).length=xs.length+1:=by simp[l3];omega
theorem zZ {xs:List Int} {i:Nat} (h:i≤xs.length) (x:Int) (k:Nat):(l3 xs i x)[k]?=if k < i then xs[k]? else if k=i then some x else xs[k-1]?:=by
 unfold l3
 by_cases h1:k < i
 ·rw[if_pos h1,List.getElem?_append_left (by simp;omega),List.getElem?_take,if_pos h1]
 rw[if_neg h1,List.getElem?_append_right (by simp;omega)]
 simp only[List.length_take,Nat.min_eq_left h]
 by_cases h2:k=i
 ·rw[if_pos h2,h2,Nat.sub_self];rfl
 rw[if_neg h2,show k-i=(k-1-i)+1 by omega,List.getElem?_cons_succ,List.getElem?_drop]
 congr 1;omega
end Eng
end
section
set_option maxRecDepth 100000
namespace Search
open Go.RowKit Go.Proofs Go.Shelf Eng Ty
def EM:Ren where
 f:=fun n=>match n with | 21=>215 | 27=>241 | 28=>242 | 35=>247 | 39=>248 | _=>0
 t:=fun n=>match n with | 3=>3 | 4=>4 | 22=>22 | _=>0
 g:=fun _=>0
theorem tG:Lays2.n21 Tryz.prog EM where
 mixed:=by kernel_rfl
 f21:=by kernel_rfl
 f27:=by kernel_rfl
 f28:=by kernel_rfl
 f35:=by kernel_rfl
 f39:=by kernel_rfl
 t0:=by kernel_rfl
 a0:=fun w=>by kernel_rfl
 z0:=fun w=>by kernel_rfl
 v0:=fun w=>by kernel_rfl
 t3:=by kernel_rfl
 a3:=fun w=>by kernel_rfl
 z3:=fun w=>by kernel_rfl
 v3:=fun w=>by kernel_rfl
 t4:=by kernel_rfl
 a4:=fun w=>by kernel_rfl
 z4:=fun w=>by kernel_rfl
 v4:=fun w=>by kernel_rfl
 t22:=by kernel_rfl
 a22:=fun w=>by kernel_rfl
 z22:=fun w=>by kernel_rfl
 v22:=fun w=>by kernel_rfl
 i3:=by kernel_rfl
theorem gA (xs:List Int) (k:Nat):(ints xs)[k]?=xs[k]?.map fun x=>.int .i64 x:=by simp[ints]
theorem tH (xs:List Int):∀ v∈ints xs,v.oneCell'=true:=fun v hv=>by
 simp only[ints,List.mem_map] at hv
 obtain⟨x,_,rfl⟩:=hv
 rfl
theorem yn (v:Value) (xs:List Int) (i:Nat) (x:Int) (vb:Nat) (hi:i≤xs.length) (hlen:xs.length≤100000000):
  aG Tryz.prog 215 #[v,.int .i64 (i:Nat),.slice (some ⟨vb,0,none⟩) 1 1] [eK 3 v (ints xs),pt vb (.cells #[.int .i64 x] 3 (0,0))] (fun r L=>L= [eK 3 r (ints (l3 xs i x))]):=by
 refine⟨Fw,fun Fr w0 w hs he=>callsIn_wide.2 ?_⟩
 simp only[List.cons_append,List.nil_append] at hs
 obtain⟨y,hy,hs1⟩:=bZ.1 hs
 have ht3:EM.t 3=3:=rfl
 have hvs:∀ j u,[Value.int .i64 x][j]?=some u→w.cell? ⟨vb,0+j,none⟩=some u:=fun j u hu=>by
  have hb:=(hs1.perm List.perm_append_comm).block (b:=vb) .here
  simp only[World.cell?,hb,Nat.zero_add]
  simpa using hu
 have h1v:∀ u∈[Value.int .i64 x],u.oneCell'=true:=fun u hu=>by rw[List.mem_singleton.1 hu];rfl
 have hml:maxLen=9223372036854775807:=rfl
 have hil:(l3 xs i x).length=xs.length+1:=zY hi x
 -- the pieces at the end
 have fin:∀(w':World) (g o cap:Nat) (cur':Array Value),Sat (stars (pt g (.cells cur' 3 (0,0))::Fr)) w'→Ext w w'→xs.length+1≤cap→cap≤maxLen→o+cap≤cur'.size→
   (∀ k,k < xs.length+1→cur'[o+k]?=if k < i then xs[k]?.map fun x=>Value.int .i64 x else if k=i then some (.int .i64 x) else xs[k-1]?.map fun x=>Value.int .i64 x)→
   ∃ r L',Ending.returned (.slice (some ⟨g,o,none⟩) (xs.length+1) cap)=.returned r∧L'= [eK 3 r (ints (l3 xs i x))]∧Sat (stars (L' ++ Fr)) w'∧Ext w0 w':=fun w' g o cap cur' hsat hext h1 h2 h3 h4=>
  ⟨_,_,rfl,rfl,bZ.2 ⟨some ⟨g,o,cap,cur'⟩,⟨by rw[cY,hil],by rw[cY,hil];exact h1,h2,h3,fun k u hu=>by
   have hk:k < xs.length+1:=by rw[← hil,← cY];exact(List.getElem?_eq_some_iff.1 hu).1
   dsimp only
   rw[h4 k hk,← hu,gA,zZ hi]
   split
   ·rfl
   split <;> rfl⟩,hsat⟩,he.trans hext⟩
 cases y with
 | none=>
  obtain⟨rfl,hnil⟩:=hy
  have hx:xs= []:=by simpa [ints] using hnil
  subst hx
  obtain rfl:i=0:=by simpa using hi
  refine(Any2.slices_Insert_int_end_grow tG none 0 0 vb 0 1 1 [] [.int .i64 x] w (by decide) (by decide) (by decide) (by decide) rfl rfl (fun _=>rfl) (fun a h=>by cases h) hvs h1v).mono fun e w' ⟨h1,h2⟩=>?_
  rw[ht3] at h1 h2
  subst h1 h2
  have hF:Sat (stars Fr) w:=(show Sat (stars (pt vb (.cells #[.int .i64 x] 3 (0,0))::Fr)) w from hs1).tail
  have hge:=grownCap_ge w 1 0 3
  have hle:=grownCap_le_maxLen w 1 0 3 (by decide)
  refine fin _ w.heap.size 0 _ _ (Sat.alloc (A:=stars Fr) hF.drew _) ((Ext.refl w).drew.alloc _) hge hle (by simp[size_zeroCells,Value.cells];omega) fun k hk=>?_
  obtain rfl:k=0:=by simpa using hk
  rw[Nat.zero_add,Array.getElem?_append_left (by simp)]
  rfl
 | some t=>
  obtain⟨g,o,cap,cur⟩:=t
  obtain⟨rfl,y1,y2,y3,y4⟩:=hy
  rw[cY] at y1 ⊢
  dsimp only at y1 y2 y3 y4 ⊢
  have hs2:Sat (stars (pt g (.cells cur 3 (0,0))::pt vb (.cells #[.int .i64 x] 3 (0,0))::Fr)) w:=hs1
  have hg:=hs2.block (b:=g) .here
  have hv:=hs2.block (b:=vb) (.there .here)
  have hne:vb≠g:=by
   obtain⟨_,_,f1,f2,rfl,⟨f3,f4,rfl,_,_,rfl⟩,d,_⟩:=hs2
   rintro rfl
   rcases d vb with q | q
   ·simp[Part.one] at q
   rw[Part.join_eq_none] at q
   simp[Part.one] at q
  have hs3:Sat (stars (pt g (.cells cur 3 (0,0))::Fr)) w:=(hs2.perm (.swap _ _ _)).tail
  have hF:Sat (stars Fr) w:=hs3.tail
  have hcs:∀ j v,(ints xs)[j]?=some v→w.cell? ⟨g,o+j,none⟩=some v:=fun j v hj=>by
   simp only[World.cell?,hg]
   simpa using y4 j v hj
  have hsome:∀ k,k < cur.size→(w.cell? ⟨g,k,none⟩).isSome=true:=fun k hk=>by
   simp only[World.cell?,hg]
   simp[hk]
  have hfz:∀ k,w.frozen? ⟨g,k,none⟩=false:=fun k=>by simp[World.frozen?,hg]
  have hfv:∀ k,w.frozen? ⟨vb,k,none⟩=false:=fun k=>by simp[World.frozen?,hv]
  have hold:∀ k,k < xs.length→cur[o+k]?=xs[k]?.map fun x=>Value.int .i64 x:=fun k hk=>by
   rw[← gA,y4 k _ (ints_at hk),ints_at hk]
  by_cases hroom:xs.length+1≤cap
  ·by_cases hin:i=xs.length
   ·subst hin
    refine(Any2.slices_Insert_int_end_room tG g o xs.length cap vb 0 1 1 [.int .i64 x] w (by decide) hroom (by omega) rfl (fun j hj=>hsome _ (by omega)) (fun j _=>hfz _) hvs h1v).mono fun e w' ⟨h1,h2⟩=>?_
    subst h1 h2
    obtain⟨cur',a1,a2,a3,a4⟩:=fT [.int .i64 x] (o+xs.length) cur w hs3 (by simp only[List.length_cons,List.length_nil];omega)
    refine fin _ g o cap cur' a1 a4 hroom y2 (by omega) fun k hk=>?_
    rw[a3]
    by_cases q:k < xs.length
    ·rw[if_neg (by simp only[List.length_cons,List.length_nil];omega),if_pos q];exact hold k q
    obtain rfl:k=xs.length:=by omega
    rw[if_pos (by simp),if_neg q,if_pos rfl,Nat.sub_self];rfl
   have hlt:i < xs.length:=by omega
   refine(Any2.slices_Insert_int_shift tG g o xs.length cap i vb 0 1 1 (ints xs) [.int .i64 x] w hlt (by decide) hroom (by omega) hne (cY xs) rfl hcs (fun j hj=>hsome _ (by omega)) (fun j _=>hfz _) hvs (tH xs) h1v 3 3 1 cur.size (by simp[World.shape?,hv]) (by simp[World.shape?,hg]) (by omega) (hfv _) (hfv _)).mono fun e w' ⟨h1,h2⟩=>?_
   subst h1 h2
   have hdl:((ints xs).drop i).length=xs.length-i:=by rw[List.length_drop,cY]
   obtain⟨c1,a1,a2,a3,a4⟩:=fT ((ints xs).drop i) (o+(i+1)) cur w.drew hs3.drew (by rw[hdl];omega)
   obtain⟨c2,b1,b2,b3,b4⟩:=fT [.int .i64 x] (o+i) c1 _ a1 (by simp only[List.length_cons,List.length_nil];omega)
   refine fin _ g o cap c2 b1 (((Ext.refl w).drew.trans a4).trans b4) hroom y2 (by omega) fun k hk=>?_
   rw[b3,a3,hdl]
   simp only[List.length_cons,List.length_nil]
   by_cases q:k < i
   ·rw[if_neg (by omega),if_neg (by omega),if_pos q];exact hold k (by omega)
   rw[if_neg q]
   by_cases q2:k=i
   ·rw[if_pos (by omega),if_pos q2,show o+k-(o+i)=0 by omega];rfl
   rw[if_neg (by omega),if_pos (by omega),if_neg q2,List.getElem?_drop,gA]
   congr 2;omega
  have hge:=grownCap_ge w (xs.length+1) cap 3
  have hle:=grownCap_le_maxLen w (xs.length+1) cap 3 (by omega)
  by_cases hin:i=xs.length
  ·subst hin
   refine(Any2.slices_Insert_int_end_grow tG (some ⟨g,o,none⟩) xs.length cap vb 0 1 1 (ints xs) [.int .i64 x] w (by decide) y1 (by omega) (by omega) (cY xs) rfl (fun h=>by cases h) (fun a h j v hj=>by cases h;rw[cz];exact hcs j v hj) hvs h1v).mono fun e w' ⟨h1,h2⟩=>?_
   rw[ht3] at h1 h2
   subst h1 h2
   refine fin _ w.heap.size 0 _ _ (Sat.alloc (A:=stars Fr) hF.drew _) ((Ext.refl w).drew.alloc _) hge hle (by simp[size_zeroCells,Value.cells,cY];omega) fun k hk=>?_
   rw[Nat.zero_add]
   rw[Array.getElem?_append_left (by simp[cY];omega)]
   rw[List.getElem?_toArray]
   by_cases q:k < xs.length
   ·rw[if_pos q,List.getElem?_append_left (by rw[cY];exact q),gA]
   obtain rfl:k=xs.length:=by omega
   rw[if_neg q,if_pos rfl,List.getElem?_append_right (by rw[cY];omega),cY,Nat.sub_self];rfl
  have hlt:i < xs.length:=by omega
  refine(Any2.slices_Insert_int_grow tG g o xs.length cap i vb 0 1 1 (ints xs) [.int .i64 x] w hlt (by decide) y1 (by omega) (by omega) (cY xs) rfl hcs hvs (tH xs) h1v).mono fun e w' ⟨h1,h2⟩=>?_
  rw[ht3] at h1 h2
  subst h1 h2
  have hdl:((ints xs).drop i).length=xs.length-i:=by rw[List.length_drop,cY]
  have hA:=(Sat.alloc (A:=stars Fr) hF (.cells (((ints xs).take i).toArray ++ Builtin.zeroCells (Value.int .i64 0).cells (xs.length+1-i) ++ Builtin.zeroCells (Value.int .i64 0).cells (grownCap w (xs.length+1) cap 3-(xs.length+1))) 3)).drew
  obtain⟨cur0,hcur0⟩:∃ cur0,cur0=((ints xs).take i).toArray ++ Builtin.zeroCells (Value.int .i64 0).cells (xs.length+1-i) ++ Builtin.zeroCells (Value.int .i64 0).cells (grownCap w (xs.length+1) cap 3-(xs.length+1)):=⟨_,rfl⟩
  have hsz:cur0.size=grownCap w (xs.length+1) cap 3:=by
   rw[hcur0]
   simp[size_zeroCells,Value.cells,cY]
   omega
  have hfst:∀ k,k < i→cur0[k]?=xs[k]?.map fun x=>Value.int .i64 x:=fun k hk=>by
   rw[hcur0,Array.append_assoc,Array.getElem?_append_left (by simp[cY];omega),List.getElem?_toArray,List.getElem?_take,if_pos hk,gA]
  rw[← hcur0] at hA ⊢
  obtain⟨c1,a1,a2,a3,a4⟩:=fT [.int .i64 x] i cur0 _ hA (by simp only[List.length_cons,List.length_nil];omega)
  obtain⟨c2,b1,b2,b3,b4⟩:=fT ((ints xs).drop i) (i+1) c1 _ a1.drew (by rw[hdl];omega)
  refine fin _ w.heap.size 0 _ c2 b1 ((((Ext.refl w).alloc _).drew.trans a4).drew.trans b4) hge hle (by omega) fun k hk=>?_
  rw[Nat.zero_add,b3,a3,hdl]
  simp only[List.length_cons,List.length_nil]
  by_cases q:k < i
  ·rw[if_neg (by omega),if_neg (by omega),if_pos q];exact hfst k q
  rw[if_neg q]
  by_cases q2:k=i
  ·rw[if_neg (by omega),if_pos (by omega),if_pos q2,show k-i=0 by omega];rfl
  rw[if_pos (by omega),if_neg q2,List.getElem?_drop,gA]
  congr 2;omega
end Search
end
end Go.Proofs.YthkajgkagnenbaaGreatDoor
