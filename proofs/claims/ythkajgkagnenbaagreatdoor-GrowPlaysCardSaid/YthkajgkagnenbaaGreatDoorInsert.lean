import Derived.Laws.BitsAllLaws
import Derived.Laws.BitsLemmas
import Derived.RowKit
import Derived.IntWalk
import Derived.Test.YthkajgkagnenbaaGreatDoorTypes
import Derived.Laws.IdiomCopy
import Derived.Shelf.Spec.SlicesInsert
import Derived.Shelf.Spec.SlicesInsertGrow
set_option linter.unusedVariables false
set_option linter.unusedSimpArgs false
set_option linter.unusedSectionVars false
set_option maxRecDepth 100000
namespace Go.Proofs.YthkajgkagnenbaaGreatDoor
section
namespace Bits
open Go.RowKit
theorem l4 (a:Nat) (ha:a < 9223372036854775808):(BitVec.ofInt 64 (a:Int)).toNat=a:=by
 rw[BitVec.ofInt_natCast,BitVec.toNat_ofNat];exact Nat.mod_eq_of_lt (by omega)
theorem uU (a b:Nat) (ha:a < 9223372036854775808) (hb:b < 9223372036854775808):bits .and .i64 (a:Int) (b:Int)=((a &&& b:Nat):Int):=by
 have hx:a &&& b < 2 ^ 63:=Nat.and_lt_two_pow _ (by omega)
 show IntKind.i64.wrap ((BitVec.ofInt 64 (a:Int) &&& BitVec.ofInt 64 (b:Int)).toNat:Int)=_
 rw[BitVec.toNat_and,l4 a ha,l4 b hb,IntKind.wrap_i64]
 omega
def uB (a:Int):Bool:=bits .and .i64 a (wrap64 (a-1)) == 0
theorem uA (a:Nat) (h1:1<=a) (h2:a<=1048576):uB (a:Int)=true↔∃ k,a=2 ^ k:=by
 unfold uB
 have e:wrap64 ((a:Int)-1)=((a-1:Nat):Int):=by unfold wrap64;omega
 rw[e,uU a (a-1) (by omega) (by omega)]
 have hz:a≠0:=by omega
 have:=Nat.and_sub_one_eq_zero_iff_isPowerOfTwo hz
 rw[beq_iff_eq]
 constructor
 ·intro h
  exact this.1 (by exact_mod_cast h)
 rintro⟨k,hk⟩
 exact_mod_cast this.2 ⟨k,hk⟩
theorem xS {k n:Nat} (h:2 ^ k<=2 ^ n):k<=n:=(Nat.pow_le_pow_iff_right (by decide)).1 h
theorem qf (x:Int) (h0:0<=x) (h1:x < 18446744073709551616) (k:Nat) (hk:k<=63):bits .and .u64 x ((2:Int) ^ k-1)=x % (2:Int) ^ k:=by
 obtain⟨n,rfl⟩:=Int.eq_ofNat_of_zero_le h0
 have hp:2 ^ k<=9223372036854775808:=(Nat.pow_le_pow_right (by decide:0 < 2) hk:2 ^ k<=2 ^ 63)
 have hq:0 < 2 ^ k:=Nat.two_pow_pos k
 have e:(2:Int) ^ k-1=((2 ^ k-1:Nat):Int):=by
  have:((2 ^ k:Nat):Int)=(2:Int) ^ k:=Int.natCast_pow 2 k
  omega
 rw[e,u64_and_nat n _ (by omega) (by omega),Nat.and_two_pow_sub_one_eq_mod,Int.natCast_emod,Int.natCast_pow]
 rfl
theorem cr (k:Nat):((2 ^ k:Nat):Int)=(2:Int) ^ k:=Int.natCast_pow 2 k
end Bits
end
section
namespace Probe
open Go.RowKit Go.Proofs Eng Ty Bits
def powB (n lo hi:Int):Bool:=decide (lo<=n) && decide (n<=hi) && uB n
theorem pow2_eq {n:Int} (h1:1<=n) (h2:n<=1073741824):decide (bits .and .i64 n (n-1)=0)=uB n:=by
 unfold uB
 rw[show wrap64 (n-1)=n-1 by unfold wrap64;omega]
 by_cases h:bits .and .i64 n (n-1)=0 <;> simp[h]
theorem power_ok (n lo hi:Int) (h1:1<=lo) (h2:hi<=1073741824):
  aK Tryz.prog 185 #[.int .i64 n,.int .i64 lo,.int .i64 hi] [] (fun v L=>v=.bool (powB n lo hi)/\L= []):=by
 refine au Ik Tryz.func185 rfl rfl rfl fun Fr w0=>aZ ?_
 refine sr<|ar O O<|lz<|mv O O<|mv O O<|ad O (qi O O (iC ·))<|mv O O<|bQ (t:=10) rfl (fun h=>?_) fun h=>?_
 ·refine aA O O<|mv O O<|aA O O<|mv O O<|aA O O<|ad O (qi O O (iB ·))<|ad O (aS O O)<|mv O O<|bQ (t:=15) rfl (fun k=>?_) fun k=>?_
  ·refine aA O O<|mv O O<|aA O O<|mv O O<|aA O O<|ad O (eJ O O) ?_
   refine aA O O<|ad O (fh O O O)<|aA O O<|ad O (qi O O (bN ·))<|ad O (aS O O)<|ar O O<|lc<|rt<|cN O ([]) (.tmp rfl) ?_
   exact⟨by rw[pow2_eq (by omega) (by omega)];simp[powB,h,k],rfl⟩
  refine ax O O O O<|ax O O O O<|ax O O O O<|ax O O O O<|ax O O O O<|ad O (aS O O)<|ar O O<|lc<|rt<|cN O ([]) (.tmp rfl) ?_
  exact⟨by simp[powB,k],rfl⟩
 refine ax O O O O<|ax O O O O<|ax O O O O<|ad O (aS O O)<|mv O O<|ax O O O O<|ax O O O O<|ax O O O O<|ax O O O O<|ax O O O O<|ad O (aS O O)<|ar O O<|lc<|rt<|cN O ([]) (.tmp rfl) ?_
 exact⟨by simp[powB,h],rfl⟩
theorem powB_iff (n:Int) (lo k0 k1:Nat) (hi:Int) (h0:(lo:Int)=2 ^ k0) (h1:hi=2 ^ k1) (hk:k1<=20):powB n lo hi=true↔∃ k:Nat,k0<=k/\k<=k1/\n=2 ^ k:=by
 have e1:=cr k1
 have e0:=cr k0
 have hb:2 ^ k1<=1048576:=(Nat.pow_le_pow_right (by decide:0 < 2) hk:2 ^ k1<=2 ^ 20)
 have hp:0 < 2 ^ k0:=Nat.two_pow_pos k0
 unfold powB
 simp only[Bool.and_eq_true,decide_eq_true_eq]
 constructor
 ·rintro⟨⟨a,b⟩,c⟩
  obtain⟨m,rfl⟩:=Int.eq_ofNat_of_zero_le (by omega:0<=n)
  obtain⟨k,rfl⟩:=(uA m (by omega) (by omega)).1 c
  exact⟨k,xS (by omega),xS (by omega),cr k⟩
 rintro⟨k,a,b,rfl⟩
 have e:=cr k
 have c1:2 ^ k0<=2 ^ k:=Nat.pow_le_pow_right (by decide) a
 have c2:2 ^ k<=2 ^ k1:=Nat.pow_le_pow_right (by decide) b
 refine⟨⟨by omega,by omega⟩,?_⟩
 rw[<- e]
 exact(uA _ (by omega) (by omega)).2 ⟨k,rfl⟩
def ord (home:Int) (g k:Nat):Int:=(home+((k*(k+1) / 2:Nat):Int)) % (g:Int)
def grp (groups:Int):Nat:=if powB groups 1 8192 then groups.toNat else 0
theorem BO (groups:Int):grp groups<=8192:=by
 unfold grp
 split
 ·next h=>simp only[powB,Bool.and_eq_true,decide_eq_true_eq] at h;omega
 omega
theorem DH {groups:Int} (h:grp groups≠0):powB groups 1 8192=true/\∃ e:Nat,e<=13/\grp groups=2 ^ e/\groups=2 ^ e:=by
 unfold grp at h ⊢
 split at h
 ·next hp=>
  obtain⟨e,_,h2,h3⟩:=(powB_iff groups 1 0 13 8192 (by decide) (by decide) (by decide)).1 hp
  rw[if_pos hp]
  refine⟨hp,e,h2,?_,h3⟩
  rw[h3,<- cr];exact Int.toNat_natCast _
 omega
theorem tU (k:Nat):(k+1)*(k+1+1) / 2=k*(k+1) / 2+(k+1):=by
 have:(k+1)*(k+1+1)=k*(k+1)+2*(k+1):=by simp only[Nat.add_mul,Nat.mul_add];omega
 rw[this];omega
theorem I3 (k:Nat) (hk:k<=13):(2:Int) ^ k ∣ 18446744073709551616:=by
 have:(18446744073709551616:Int)=2 ^ k*2 ^ (64-k):=by
  rw[<- Int.pow_add,show k+(64-k)=64 by omega];decide
 exact⟨_,this⟩
def Ah (home:Int) (g:Nat):List (List Value):=(List.range g).map fun k=>[.int .i64 (ord home g k)]
theorem xJ {home:Int} {g k:Nat} {x:List Value} (h:(Ah home g)[k]?=some x):k < g/\x= [.int .i64 (ord home g k)]:=by
 simp only[Ah,List.getElem?_map,List.getElem?_range'] at h
 by_cases hk:k < g
 ·simp[hk] at h;exact⟨hk,h.symm⟩
 simp[hk] at h
theorem kK (home:Int) (g:Nat):(Ah home g).length=g:=by simp[Ah]
theorem Ff {home:Int} {g k:Nat} (h:k < g):(Ah home g)[k]?=some [.int .i64 (ord home g k)]:=by simp[Ah,h]
theorem D1 (home:Int) (g e k:Nat) (he:e<=13) (hg:g=2 ^ e) (acc:Int) (ha:acc=(home+((k*(k+1) / 2:Nat):Int)) % 18446744073709551616):
  IntKind.i64.wrap (bits .and .u64 acc ((g:Int)-1))=ord home g k:=by
 subst hg
 have hb:2 ^ e<=8192:=(Nat.pow_le_pow_right (by decide:0 < 2) he:2 ^ e<=2 ^ 13)
 have hp:0 < 2 ^ e:=Nat.two_pow_pos e
 have hc:=cr e
 rw[hc,qf acc (by omega) (by omega) e (by omega),ha,Int.emod_emod_of_dvd _ (I3 e he)]
 unfold ord
 rw[hc]
 have l0:=Int.emod_nonneg (home+((k*(k+1) / 2:Nat):Int)) (by omega:(2:Int) ^ e≠0)
 have l1:=Int.emod_lt_of_pos (home+((k*(k+1) / 2:Nat):Int)) (by omega:0 < (2:Int) ^ e)
 exact wrap_i64 (by omega)
theorem yY (bh bg:Nat) (home:Int) (hh:0<=home/\home < 18446744073709551616) (groups:Int):
  j4 Tryz.prog 224 #[.pointer (some ⟨bh,0,none⟩),.pointer (some ⟨bg,0,none⟩)] [pt bh (.cells #[.int .u64 home] 27 (0,0)),pt bg (.cells #[.int .i64 (grp groups)] 3 (0,0))]
   (Ah home (grp groups)) [pt bh (.cells #[.int .u64 home] 27 (0,0)),pt bg (.cells #[.int .i64 (grp groups)] 3 (0,0))] [pt bh (.cells #[.int .u64 home] 27 (0,0)),pt bg (.cells #[.int .i64 (grp groups)] 3 (0,0))]:=by
 refine⟨EG,fun l B S hY=>?_⟩
 have hle:=BO groups
 show aK _ _ #[.func (.yield l) #[] #[],.pointer (some ⟨bh,0,none⟩),.pointer (some ⟨bg,0,none⟩)] _ _
 refine au EG Tryz.func224 rfl rfl rfl fun Fr w0=>aZ ?_
 refine sr<|ad O (aI O fV) ?_
 refine ar O O<|lz<|ad O (aI O aX) ?_
 refine mv O O<|lc<|aB ?_
 refine bK (fun x:Nat×Int=>x.1<=grp groups/\0<=x.2/\x.2 < 18446744073709551616/\(x.2+x.1) % 18446744073709551616=(home+((x.1*(x.1+1) / 2:Nat):Int)) % 18446744073709551616) (fun x=>[(0,.func (.yield l) #[] #[]),(2,.pointer (some ⟨bg,0,none⟩)),(4,.int .u64 x.2),(7,.int .i64 (grp groups)),(8,.int .i64 x.1)]) (fun x=>pt bh (.cells #[.int .u64 home] 27 (0,0))::pt bg (.cells #[.int .i64 (grp groups)] 3 (0,0))::B x.1::Fr) (fun x=>grp groups-x.1) (0,home) ⟨by omega,by omega,by omega,by simp⟩ ⟨rfl,rfl,rfl,rfl,rfl,trivial⟩ (dS.refl _) ?_
 rintro⟨k,acc⟩ ⟨hk,ha0,ha1,hacc⟩
 dsimp only at hk ha0 ha1 hacc ⊢
 refine sr<|ad O (qi O O (bj ·))<|lc<|al<|aG O (fun h=>?_) fun h=>?_
 ·refine aq<|an<|al<|aB<|sr<|mv O O<|ar O O<|lz<|mv O O<|mv O O<|ad O (km O j5 fv) ?_
  refine ad O (bn O O) ?_
  refine ar O O<|lz<|mv O O<|mv O O<|ad O (aI O aX) ?_
  refine ad O (eJ O O) ?_
  refine ad O (km O j5 fv) ?_
  refine ad O (fh O O O)<|ad O (km O fv j5) ?_
  have hacc2:IntKind.u64.wrap (acc+(k:Int))=(home+((k*(k+1) / 2:Nat):Int)) % 18446744073709551616:=by rw[IntKind.wrap_u64];exact hacc
  have hv:IntKind.i64.wrap (bits .and .u64 (IntKind.u64.wrap (acc+(k:Int))) (((grp groups:Nat):Int)-1))=ord home (grp groups) k:=by
   obtain⟨_,e,he,hg,_⟩:=DH (groups:=groups) (by omega)
   exact D1 home _ e k he hg _ hacc2
  apply sX O O O ((by rw[hv];exact hY k _ (Ff (by omega))))
  ·exact pk
  ·exact pk
  rintro b L' (⟨rfl,rfl⟩ | ⟨rfl,rfl⟩)
  ·refine bx ?_
   refine ad O (db O (cy ·))<|lc<|cQ O<|aq<|bz<|an<|aD<|ad O (bn O O) ?_
   refine mv O O<|ai ?_
   apply aU ((k+1,IntKind.u64.wrap (acc+(k:Int))))
   ·exact⟨by dsimp only;omega,by rw[IntKind.wrap_u64];dsimp only;omega,by rw[IntKind.wrap_u64];dsimp only;omega,by dsimp only;rw[IntKind.wrap_u64,tU];omega⟩
   ·dsimp only;omega
   ·exact⟨O,O,O,O,O,trivial⟩
   exact en
  refine bx ?_
  refine ad O (db O (cy ·))<|lc<|bk O<|rt ?_
  apply aR (.inl rfl) (_)
  ·exact pP O
  ·exact .inr ⟨k,by rw[kK];omega,rfl⟩
  exact en
 refine xt O ?_
 obtain rfl:k=grp groups:=by omega
 apply aR (.inr rfl) (_)
 ·exact pP O
 ·exact .inl (by rw[kK])
 exact en
theorem Bf (bh bg:Nat) (home:Int) (hh:0<=home/\home < 18446744073709551616) (groups:Int):
  j4 Tryz.prog 224 #[.pointer (some ⟨bh,0,none⟩),.pointer (some ⟨bg,0,none⟩)] [pt bh (.cells #[.int .u64 home] 27 (0,0)),pt bg (.cells #[.int .i64 (grp groups)] 3 (0,0))]
   (Ah home (grp groups)) [pt bh (.cells #[.int .u64 home] 27 (0,0)),pt bg (.cells #[.int .i64 (grp groups)] 3 (0,0))]:=(yY bh bg home hh groups).plain
theorem pf (n:Int):powB n 1 8192=true↔∃ k:Nat,k<=13/\n=2 ^ k:=by
 have:=powB_iff n 1 0 13 8192 (by decide) (by decide) (by decide)
 exact this.trans ⟨fun⟨k,_,a,b⟩=>⟨k,a,b⟩,fun⟨k,a,b⟩=>⟨k,by omega,a,b⟩⟩
theorem BN {groups:Int} (h:powB groups 1 8192=false):grp groups=0:=by unfold grp;rw[h];rfl
theorem oV {groups:Int} (h:powB groups 1 8192=true):groups=((grp groups:Nat):Int)/\∃ e:Nat,e<=13/\grp groups=2 ^ e:=by
 obtain⟨e,he,hg⟩:=(pf groups).1 h
 have hc:=cr e
 have hgr:grp groups=2 ^ e:=by unfold grp;rw[if_pos h,hg,<- hc];exact Int.toNat_natCast _
 exact⟨by rw[hgr,hg,hc],e,he,hgr⟩
theorem CF (home groups:Int):
  aK Tryz.prog 186 #[.int .u64 home,.int .i64 groups] [] (fun v L=>∃ bh bg,v=.func (.func 224) #[] #[.pointer (some ⟨bh,0,none⟩),.pointer (some ⟨bg,0,none⟩)]/\
   L= [pt bh (.cells #[.int .u64 home] 27 (0,0)),pt bg (.cells #[.int .i64 (grp groups)] 3 (0,0))]):=by
 refine au Ij Tryz.func186 rfl rfl rfl fun Fr w0=>aZ ?_
 refine sr<|eQ O O O fun b2=>eQ O O O fun b3=>ar O O<|lc<|al<|sr<|ad O (aI O aX) ?_
 refine bF O O O (power_ok _ _ _ (by omega) (by omega)) ?_
 refine ad O (db O (cy ·))<|lc<|aG O (fun h=>?_) fun h=>?_
 ·refine aD<|st O O O aN O ?_
  refine lz<|ad O (ji O O)<|ar O O<|lc<|rt ?_
  have hz:=BN (groups:=groups) (by simpa using h)
  apply aR (.inl rfl) ([pt b2 (.cells #[.int .u64 home] 27 (0,0)),pt b3 (.cells #[.int .i64 (grp groups)] 3 (0,0))])
  ·apply cP O
   exact .tmp rfl
  ·exact⟨_,_,rfl,rfl⟩
  rw[hz];first | exact dS.refl _ | (apply oZ.ent;(repeat (first | apply oZ.cons | with_reducible exact oZ.nil | apply oZ.rest | exact Take.here | apply Take.there | exact Drop.refl | apply Drop.skip)))
 refine aq<|nz<|ad O (ji O O)<|ar O O<|lc<|rt ?_
 have hz:=(oV (groups:=groups) (by simpa using h)).1
 apply aR (.inl rfl) ([pt b2 (.cells #[.int .u64 home] 27 (0,0)),pt b3 (.cells #[.int .i64 (grp groups)] 3 (0,0))])
 ·apply cP O
  exact .tmp rfl
 ·exact⟨_,_,rfl,rfl⟩
 rw[<- hz];first | exact dS.refl _ | (apply oZ.ent;(repeat (first | apply oZ.cons | with_reducible exact oZ.nil | apply oZ.rest | exact Take.here | apply Take.there | exact Drop.refl | apply Drop.skip)))
end Probe
end
section
namespace Eng
open Go.RowKit
section
variable {c:Cx} {fin:Exit->Act->World->Prop} {ds:List Deferred} {E:Env} {L:List HP} {ks:List KI} {ops:Array Oper} {rest:List Oper}
variable {d:Option Tmp} {ty:TypeId} {pos:String} {af:Array Edge} {gd:Option (Nat×Bool)}
theorem il {L':List HP} {x:Code} (hl:dS L L') (h:TC c fin ds E L' x ks):TC c fin ds E L x ks:=fun a w hs=>h a w ⟨hs.size,hs.defs,hs.agree,hl _ hs.sat,hs.ext⟩
theorem xY {L':List HP} {x:Exit} (hl:dS L L') (h:TN c fin ds E L' x ks):TN c fin ds E L x ks:=fun a w hs=>h a w ⟨hs.size,hs.defs,hs.agree,hl _ hs.sat,hs.ext⟩
theorem GZ {L':List HP} {l:List Oper} (hl:dS L L') (h:TL c fin ds E L' ops l ks):TL c fin ds E L ops l ks:=fun a w hs=>h a w ⟨hs.size,hs.defs,hs.agree,hl _ hs.sat,hs.ext⟩
def dt (A:HP) (a:Addr) (v:Value):Prop:=∀ w,Sat A w->w.cell? a=some v
theorem cf {A:HP} {t:TypeId} {x:Operand} {a0:Addr} {v:Value} {M:List HP} (hx:ev E x=some (.pointer (some a0)))
  (ha:∀ w,(isAgg t).run c.P w=.ok false w) (ht:Take A L M) (hv:dt A a0 v):QV c ds E L ⟨d,.load t x,ty,pos,af,gd⟩ v:=
 ⟨by intro k;simp,fun a w hs=>by
  have hb:=hv w (hs.sat.take ht).left
  simp only[execOp,Instr.loadAt,Instr.sureAddr,hs.ev hx,Sem.run_bind,Sem.run_pure,Result.andThen,loadVar,ha]
  simp[load,Sem.run,hb]⟩
theorem lB {P:Program} {w:World} {a0:Addr}:∀(n i:Nat) (acc:Array Value) (us:List Value),us.length=n->(∀ j u,us[j]?=some u->w.cell? (a0.add (i+j))=some u)->
  (loadCellsFrom a0 i n acc).run P w=.ok (acc ++ us.toArray) w
 | 0,i,acc,us,hl,h=>by
  have:us= []:=List.eq_nil_of_length_eq_zero hl
  subst this
  simp only[loadCellsFrom,Sem.run_pure];simp
 | n+1,i,acc,us,hl,h=>by
  cases us with
  | nil=>simp at hl
  | cons u us=>
   simp only[loadCellsFrom,Sem.run_bind]
   have h0:=h 0 u rfl
   rw[Nat.add_zero] at h0
   have hl0:(load (a0.add i)).run P w=.ok u w:=by simp[load,Sem.run,h0]
   rw[hl0]
   simp only[Result.andThen]
   rw[lB n (i+1) _ us (by simpa using hl) fun j v hv=>by
    have:=h (j+1) v (by simpa using hv)
    rw[show i+1+j=i+(j+1) by omega];exact this]
   simp
theorem cg {A:HP} {t:TypeId} {x:Operand} {a0:Addr} {n:Nat} {us:List Value} {M:List HP} (hx:ev E x=some (.pointer (some a0)))
  (ha:∀ w,(isAgg t).run c.P w=.ok true w) (hn:∀ w,(sizeOf t).run c.P w=.ok n w) (hl:us.length=n) (ht:Take A L M) (hv:∀ j u,us[j]?=some u->dt A (a0.add j) u):QV c ds E L ⟨d,.load t x,ty,pos,af,gd⟩ (.agg us.toArray):=
 ⟨by intro k;simp,fun a w hs=>by
  have hb:=(hs.sat.take ht).left
  have hr:(loadCells a0 n).run c.P w=.ok us.toArray w:=by
   unfold loadCells
   rw[lB n 0 #[] us hl fun j u hu=>by rw[Nat.zero_add];exact hv j u hu w hb]
   simp
  simp only[execOp,Instr.loadAt,Instr.sureAddr,hs.ev hx,Sem.run_bind,Sem.run_pure,Result.andThen,loadVar,ha,hn,if_true,hr]⟩
end
end Eng
end
section
namespace Search
open Go.RowKit Go.Proofs Eng Ty
def ints (xs:List Int):List Value:=xs.map fun x=>.int .i64 x
theorem ints_at {xs:List Int} {i:Nat} (h:i < xs.length):(ints xs)[i]?=some (.int .i64 xs[i]):=by simp[ints,h]
theorem dD (xs:List Int):(ints xs).length=xs.length:=by simp[ints]
theorem zi (x:Int):aK Tryz.prog 221 #[.int .i64 x] [] (fun v L=>v=.bool false/\L= []):=by
 refine au HL Tryz.func221 rfl rfl rfl fun Fr w0=>aZ ?_
 refine sr<|ar O O<|lz<|mv O O<|mv O O<|ad O (qi O O (bf ·))<|ar O O<|lc<|rt<|cN O ([]) (.tmp rfl) ?_
 exact⟨by simp,rfl⟩
theorem rK (x:Int):aK Tryz.prog 179 #[.int .i64 x] [] (fun v L=>v=.bool false/\L= []):=by
 refine au Ir Tryz.func179 rfl rfl rfl fun Fr w0=>aZ ?_
 refine sr<|ar O O<|lz<|mv O O<|mv O O<|ad O (qi O O (bf ·))<|ar O O<|lc<|rt<|cN O ([]) (.tmp rfl) ?_
 exact⟨by simp,rfl⟩
theorem yp (x y:Int):aK Tryz.prog 178 #[.int .i64 x,.int .i64 y] [] (fun v L=>v=.bool (decide (x < y))/\L= []):=by
 refine au Is Tryz.func178 rfl rfl rfl fun Fr w0=>aZ ?_
 refine sr<|ar O O<|lz<|mv O O<|bF O O O (zi _) ?_
 refine mv O O<|bQ (t:=7) rfl (fun h=>?_) fun h=>?_
 ·cases h
 exact ax O O O O<|ax O O O O<|ax O O O O<|ad O (aS O O)<|mv O O<|aA O O<|mv O O<|aA O O<|mv O O<|aA O O<|ad O (qi O O (bj ·))<|ad O (aS O O)<|ar O O<|lc<|rt<|cN O ([]) (.tmp rfl) ⟨rfl,rfl⟩
def nQ (xs:List Int) (t:Int) (i:Nat):Prop:=i<=xs.length/\(∀ j (h:j < xs.length),j < i->xs[j] < t)/\(∀ j (h:j < xs.length),i<=j->t<=xs[j])
theorem zM (xs:List Int) (g k cap:Nat) (t:Int) (hk:xs.length=k) (hkb:k<=4611686018427387904) (hs:∀ i j (hi:i < xs.length) (hj:j < xs.length),i < j->xs[i] < xs[j]):
  aK Tryz.prog 127 #[.slice (some ⟨g,0,none⟩) k cap,.int .i64 t] [aF 3 1 (.slice (some ⟨g,0,none⟩) k cap) k (ints xs)]
   (fun v L=>(∃ i:Nat,v=.tuple #[.int .i64 i,.bool (decide (xs[i]?=some t))]/\nQ xs t i)/\L= [aF 3 1 (.slice (some ⟨g,0,none⟩) k cap) k (ints xs)]):=by
 refine au ET Tryz.func127 rfl rfl rfl fun Fr w0=>aZ ?_
 refine sr<|ar O O<|ar O O<|lz<|mv O O<|ad O (ql O bI)<|ar O O<|lz<|mv O O<|ar O O<|ar O O<|lc<|al<|aB ?_
 refine bK (fun x:Nat×Nat=>x.1<=x.2/\x.2<=k/\(∀ j (h:j < xs.length),j < x.1->xs[j] < t)/\(∀ j (h:j < xs.length),x.2<=j->t<=xs[j])) (fun x=>[(0,.slice (some ⟨g,0,none⟩) k cap),(1,.int .i64 t),(6,.int .i64 k),(7,.int .i64 x.1),(8,.int .i64 x.2)]) (fun _=>aF 3 1 (.slice (some ⟨g,0,none⟩) k cap) k (ints xs)::Fr) (fun x=>x.2-x.1) (0,k) ⟨by omega,by omega,by omega,fun j h h2=>by omega⟩ ⟨rfl,rfl,rfl,rfl,rfl,trivial⟩ (dS.refl _) ?_
 rintro⟨i,j⟩ ⟨hij,hjk,hlo,hhi⟩
 dsimp only at hij hjk hlo hhi ⊢
 refine al<|sr<|mv O O<|mv O O<|ad O (qi O O (bj ·))<|lc<|aG O (fun h=>?_) fun h=>?_
 ·have hm:(((i:Int)+(j:Int)) / 2).toNat=(i+j) / 2:=by omega
  refine aq<|an<|aB<|sr<|mv O O<|mv O O<|ad O (bn O O) ?_
  refine ad O (km O j5 xD) ?_
  apply ad O
  ·apply qi O O;first | exact fun w=>fp (m:=2) w (by decide) (by decide) (by omega) | exact fun w=>gA w (by decide)
  refine ad O (km O xD j5) ?_
  refine ar O O<|lz<|mv O O<|mv O O<|ad O (az O O bI aN (by omega)) ?_
  apply ad O
  ·apply aT O aX
   ·exact tk
   rw[Nat.zero_add,hm,ints_at (by omega)]
  refine mv O O<|bF O O O (yp _ _) ?_
  refine lc<|aG O (fun q=>?_) fun q=>?_
  ·refine aD<|mv O O<|ad O (bn O O) ?_
   refine ar O O<|ai<|bz ?_
   apply aU (((i+j) / 2+1,j))
   ·exact⟨by dsimp only;omega,hjk,fun a ha hai=>by by_cases e:a=(i+j) / 2;(subst e;exact q);exact Int.lt_trans (hs a ((i+j) / 2) ha (by omega) (by dsimp only at hai;omega)) q,hhi⟩
   ·dsimp only;omega
   ·exact⟨rfl,rfl,rfl,congrArg (fun z=>some (Value.int .i64 z)) (by omega:((i:Int)+(j:Int)) / 2+1=(((i+j) / 2+1:Nat):Int)),rfl,trivial⟩
   exact en
  refine aD<|mv O O<|ar O O<|ai<|bz ?_
  apply aU ((i,(i+j) / 2))
  ·exact⟨by dsimp only;omega,by dsimp only;omega,hlo,fun a ha hai=>by by_cases e:a=(i+j) / 2;(subst e;omega);have:=hs ((i+j) / 2) a (by omega) ha (by dsimp only at hai;omega);omega⟩
  ·dsimp only;omega
  ·exact⟨rfl,rfl,rfl,rfl,congrArg (fun z=>some (Value.int .i64 z)) (by omega:((i:Int)+(j:Int)) / 2=(((i+j) / 2:Nat):Int)),trivial⟩
  exact en
 refine xt O<|nz<|mv O O<|mv O O<|mv O O<|ad O (qi O O (bj ·))<|mv O O ?_
 obtain rfl:i=j:=by omega
 have hpl:nQ xs t i:=⟨by omega,hlo,hhi⟩
 refine bQ (t:=35) rfl (fun a=>?_) fun a=>?_
 ·refine aA O O<|mv O O<|aA O O<|mv O O<|aA O O<|ad O (az O O bI aN (by omega)) ?_
  refine aA O O ?_
  apply ad O
  ·apply aT O aX
   ·exact tk
   rw[Nat.zero_add,Int.toNat_natCast,ints_at (by omega)]
  refine aA O O<|mv O O<|aA O O<|ad O (qi O O (bN ·))<|aA O O<|mv O O ?_
  have hil:i < xs.length:=by omega
  refine bQ (t:=42) rfl (fun b=>?_) fun b=>?_
  ·refine ax O O O O<|ax O O O O<|ax O O O O<|ax O O O O<|ax O O O O<|ax O O O O<|cJ O O O<|cJ O O O<|ax O O O O<|aA O O<|ad O (aS O O)<|ad O (aS O O)<|ar O O<|ar O O<|lc<|rt<|ft O ([aF 3 1 (.slice (some ⟨g,0,none⟩) k cap) k (ints xs)]) (.tmp rfl) (.tmp rfl) ?_
   exact⟨⟨i,by rw[List.getElem?_eq_getElem hil,b,decide_eq_true rfl],hpl⟩,rfl⟩
  refine aA O O<|mv O O<|aA O O<|mv O O<|aA O O<|ad O (az O O bI aN (by omega)) ?_
  refine aA O O ?_
  apply ad O
  ·apply aT O aX
   ·exact tk
   rw[Nat.zero_add,Int.toNat_natCast,ints_at (by omega)]
  refine aA O O<|bF O O O (rK _) ?_
  refine aA O O<|mv O O<|bQ (t:=48) rfl (fun e=>?_) fun e=>?_
  ·cases e
  refine ax O O O O<|ax O O O O<|aA O O<|ad O (aS O O)<|aA O O<|ad O (aS O O)<|ad O (aS O O)<|ar O O<|ar O O<|lc<|rt<|ft O ([aF 3 1 (.slice (some ⟨g,0,none⟩) k cap) k (ints xs)]) (.tmp rfl) (.tmp rfl) ?_
  exact⟨⟨i,by rw[List.getElem?_eq_getElem hil,decide_eq_false (by simpa using b)],hpl⟩,rfl⟩
 refine ax O O O O<|ax O O O O<|ax O O O O<|ax O O O O<|ax O O O O<|ax O O O O<|ax O O O O<|cJ O O O<|cJ O O O<|cJ O O O<|cJ O O O<|cJ O O O<|cJ O O O<|cJ O O O<|cJ O O O<|cJ O O O<|ax O O O O<|ad O (aS O O)<|ar O O<|ar O O<|lc<|rt<|ft O ([aF 3 1 (.slice (some ⟨g,0,none⟩) k cap) k (ints xs)]) (.tmp rfl) (.tmp rfl) ?_
 exact⟨⟨i,by rw[List.getElem?_eq_none (by omega)];rfl,hpl⟩,rfl⟩
end Search
end
section
namespace Eng
open Go.RowKit
structure TX where
 g:Nat
 o:Nat
 cap:Nat
 cur:Array Value
def TX.ok (v:Value) (xs:List Value):Option TX->Prop
 | none=>v=.slice none 0 0/\xs= []
 | some t=>v=.slice (some ⟨t.g,t.o,none⟩) xs.length t.cap/\xs.length<=t.cap/\t.cap<=maxLen/\t.o+t.cap<=t.cur.size/\∀ i u,xs[i]?=some u->t.cur[t.o+i]?=some u
def TX.ps (e:TypeId):Option TX->List HP
 | none=>[]
 | some t=>[pt t.g (.cells t.cur e (0,0))]
def fy (e:TypeId) (v:Value) (xs:List Value):HP:=wS (TX.ok v xs) (TX.ps e)
theorem Bd {e:TypeId} {L:List HP}:dS L (fy e (.slice none 0 0) []::L):=fun w h=>cV.2 ⟨none,⟨rfl,rfl⟩,h⟩
theorem qa {e:TypeId} {v:Value} {xs:List Value} {L:List HP} {w:World} (h:Sat (stars (fy e v xs::L)) w):∃ a cap,v=.slice a xs.length cap/\(0 < xs.length->∃ g o,a=some ⟨g,o,none⟩)/\xs.length<=cap/\cap<=maxLen:=by
 obtain⟨x,hx,_⟩:=cV.1 h
 cases x with
 | none=>obtain⟨rfl,rfl⟩:=hx;exact⟨none,0,rfl,fun q=>absurd q (by decide),Nat.le_refl _,by decide⟩
 | some t=>obtain⟨rfl,h1,h2,_⟩:=hx;exact⟨_,_,rfl,fun _=>⟨_,_,rfl⟩,h1,h2⟩
theorem nR {e:TypeId} {g o n cap:Nat} {xs:List Value} {i:Nat} {u:Value} (hu:xs[i]?=some u):dt (fy e (.slice (some ⟨g,o,none⟩) n cap) xs) ⟨g,o+i,none⟩ u:=fun w h=>by
 have h':Sat (stars [fy e (.slice (some ⟨g,o,none⟩) n cap) xs]) w:=by
  obtain⟨f,hf,k⟩:=h
  exact⟨f,hf,f,Part.none,k,rfl,Part.disj_none _,(Part.join_none _).symm⟩
 obtain⟨x,hx,hs⟩:=cV.1 h'
 cases x with
 | none=>obtain⟨q,_⟩:=hx;cases q
 | some t=>
  obtain⟨q,_,_,_,hc⟩:=hx
  cases q
  have hg:=hs.block (b:=t.g) .here
  have:=hc i u hu
  simp[World.cell?,hg,this]
theorem g6 {g:Nat} {e:TypeId} {M:List HP}:∀(ys:List Value) (o:Nat) (cur:Array Value) (w:World),Sat (stars (pt g (.cells cur e (0,0))::M)) w->o+ys.length<=cur.size->
  ∃ cur':Array Value,Sat (stars (pt g (.cells cur' e (0,0))::M)) (w.setCells g o ys)/\cur'.size=cur.size/\(∀ k,cur'[k]?=if o<=k/\k < o+ys.length then ys[k-o]? else cur[k]?)/\Ext w (w.setCells g o ys)
 | [],o,cur,w,h,_=>⟨cur,h,rfl,fun k=>by rw[if_neg (by simp only[List.length_nil];omega)],Ext.refl w⟩
 | v::r,o,cur,w,h,hl=>by
  simp only[List.length_cons] at hl
  have hg:=h.block (b:=g) .here
  have h1:Sat (stars (pt g (.cells (cur.setIfInBounds o v) e (0,0))::M)) (w.setCell ⟨g,o,none⟩ v):=
   Sat.setCell (A:=stars M) h v
  obtain⟨cur',a1,a2,a3,a4⟩:=g6 r (o+1) (cur.setIfInBounds o v) (w.setCell ⟨g,o,none⟩ v) h1 (by simp;omega)
  refine⟨cur',a1,by simpa using a2,fun k=>?_,((Ext.refl w).setCell _ _).trans a4⟩
  rw[a3 k]
  by_cases q:k=o
  ·subst q
   rw[if_neg (by omega),if_pos (by simp),Array.getElem?_setIfInBounds_self_of_lt (by omega)]
   simp
  by_cases q2:o+1<=k/\k < o+1+r.length
  ·rw[if_pos q2,if_pos (by simp;omega),show k-o=(k-(o+1))+1 by omega]
   simp
  rw[if_neg q2,if_neg (by simp;omega),Array.getElem?_setIfInBounds_ne (Ne.symm q)]
def mI (xs:List Int) (i:Nat) (x:Int):List Int:=xs.take i ++ x::xs.drop i
theorem BJ {xs:List Int} {i:Nat} (h:i<=xs.length) (x:Int):(mI xs i x).length=xs.length+1:=by simp[mI];omega
theorem BK {xs:List Int} {i:Nat} (h:i<=xs.length) (x:Int) (k:Nat):(mI xs i x)[k]?=if k < i then xs[k]? else if k=i then some x else xs[k-1]?:=by
 unfold mI
 by_cases h1:k < i
 ·rw[if_pos h1,List.getElem?_append_left (by simp;omega),List.getElem?_take,if_pos h1]
 rw[if_neg h1,List.getElem?_append_right (by simp;omega)]
 simp only[List.length_take,Nat.min_eq_left h]
 by_cases h2:k=i
 ·rw[if_pos h2,h2,Nat.sub_self];rfl
 rw[if_neg h2,show k-i=(k-1-i)+1 by omega,List.getElem?_cons_succ,List.getElem?_drop]
 congr 1;omega
end Eng
end
section
namespace Search
open Go.RowKit Go.Proofs Go.Shelf Eng Ty
def GQ:Ren where
 f:=fun n=>match n with | 21=>215 | 27=>241 | 28=>242 | 35=>247 | 39=>248 | _=>0
 t:=fun n=>match n with | 3=>3 | 4=>4 | 22=>22 | _=>0
 g:=fun _=>0
theorem uQ:Lays2.n21 Tryz.prog GQ where
 mixed:=by kernel_rfl
 f21:=by kernel_rfl
 f27:=by kernel_rfl
 f28:=by kernel_rfl
 f35:=by kernel_rfl
 f39:=by kernel_rfl
 t0:=by kernel_rfl
 a0:=fun w=>by kernel_rfl
 z0:=fun w=>by kernel_rfl
 v0:=fun w=>by kernel_rfl
 t3:=by kernel_rfl
 a3:=fun w=>by kernel_rfl
 z3:=fun w=>by kernel_rfl
 v3:=fun w=>by kernel_rfl
 t4:=by kernel_rfl
 a4:=fun w=>by kernel_rfl
 z4:=fun w=>by kernel_rfl
 v4:=fun w=>by kernel_rfl
 t22:=by kernel_rfl
 a22:=fun w=>by kernel_rfl
 z22:=fun w=>by kernel_rfl
 v22:=fun w=>by kernel_rfl
 i3:=by kernel_rfl
theorem iw (xs:List Int) (k:Nat):(ints xs)[k]?=xs[k]?.map fun x=>.int .i64 x:=by simp[ints]
theorem uT (xs:List Int):∀ v∈ints xs,v.oneCell'=true:=fun v hv=>by
 simp only[ints,List.mem_map] at hv
 obtain⟨x,_,rfl⟩:=hv
 rfl
theorem Aa (v:Value) (xs:List Int) (i:Nat) (x:Int) (vb:Nat) (hi:i<=xs.length) (hlen:xs.length<=100000000):
  aK Tryz.prog 215 #[v,.int .i64 (i:Nat),.slice (some ⟨vb,0,none⟩) 1 1] [fy 3 v (ints xs),pt vb (.cells #[.int .i64 x] 3 (0,0))] (fun r L=>L= [fy 3 r (ints (mI xs i x))]):=by
 refine⟨HQ,fun Fr w0 w hs he=>callsIn_wide.2 ?_⟩
 simp only[List.cons_append,List.nil_append] at hs
 obtain⟨y,hy,hs1⟩:=cV.1 hs
 have ht3:GQ.t 3=3:=rfl
 have hvs:∀ j u,[Value.int .i64 x][j]?=some u->w.cell? ⟨vb,0+j,none⟩=some u:=fun j u hu=>by
  have hb:=(hs1.perm List.perm_append_comm).block (b:=vb) .here
  simp only[World.cell?,hb,Nat.zero_add]
  simpa using hu
 have h1v:∀ u∈[Value.int .i64 x],u.oneCell'=true:=fun u hu=>by rw[List.mem_singleton.1 hu];rfl
 have hml:maxLen=9223372036854775807:=rfl
 have hil:(mI xs i x).length=xs.length+1:=BJ hi x
 -- the pieces at the end
 have fin:∀(w':World) (g o cap:Nat) (cur':Array Value),Sat (stars (pt g (.cells cur' 3 (0,0))::Fr)) w'->Ext w w'->xs.length+1<=cap->cap<=maxLen->o+cap<=cur'.size->
   (∀ k,k < xs.length+1->cur'[o+k]?=if k < i then xs[k]?.map fun x=>Value.int .i64 x else if k=i then some (.int .i64 x) else xs[k-1]?.map fun x=>Value.int .i64 x)->
   ∃ r L',Ending.returned (.slice (some ⟨g,o,none⟩) (xs.length+1) cap)=.returned r/\L'= [fy 3 r (ints (mI xs i x))]/\Sat (stars (L' ++ Fr)) w'/\Ext w0 w':=fun w' g o cap cur' hsat hext h1 h2 h3 h4=>
  ⟨_,_,rfl,rfl,cV.2 ⟨some ⟨g,o,cap,cur'⟩,⟨by rw[dD,hil],by rw[dD,hil];exact h1,h2,h3,fun k u hu=>by
   have hk:k < xs.length+1:=by rw[<- hil,<- dD];exact(List.getElem?_eq_some_iff.1 hu).1
   dsimp only
   rw[h4 k hk,<- hu,iw,BK hi]
   split
   ·rfl
   split <;> rfl⟩,hsat⟩,he.trans hext⟩
 cases y with
 | none=>
  obtain⟨rfl,hnil⟩:=hy
  have hx:xs= []:=by simpa [ints] using hnil
  subst hx
  obtain rfl:i=0:=by simpa using hi
  refine(Any2.slices_Insert_int_end_grow uQ none 0 0 vb 0 1 1 [] [.int .i64 x] w (by decide) (by decide) (by decide) (by decide) rfl rfl (fun _=>rfl) (fun a h=>by cases h) hvs h1v).mono fun e w' ⟨h1,h2⟩=>?_
  rw[ht3] at h1 h2
  subst h1 h2
  have hF:Sat (stars Fr) w:=(show Sat (stars (pt vb (.cells #[.int .i64 x] 3 (0,0))::Fr)) w from hs1).tail
  have hge:=grownCap_ge w 1 0 3
  have hle:=grownCap_le_maxLen w 1 0 3 (by decide)
  refine fin _ w.heap.size 0 _ _ (Sat.alloc (A:=stars Fr) hF.drew _) ((Ext.refl w).drew.alloc _) hge hle (by simp[size_zeroCells,Value.cells];omega) fun k hk=>?_
  obtain rfl:k=0:=by simpa using hk
  rw[Nat.zero_add,Array.getElem?_append_left (by simp)]
  rfl
 | some t=>
  obtain⟨g,o,cap,cur⟩:=t
  obtain⟨rfl,y1,y2,y3,y4⟩:=hy
  rw[dD] at y1 ⊢
  dsimp only at y1 y2 y3 y4 ⊢
  have hs2:Sat (stars (pt g (.cells cur 3 (0,0))::pt vb (.cells #[.int .i64 x] 3 (0,0))::Fr)) w:=hs1
  have hg:=hs2.block (b:=g) .here
  have hv:=hs2.block (b:=vb) (.there .here)
  have hne:vb≠g:=by
   obtain⟨_,_,f1,f2,rfl,⟨f3,f4,rfl,_,_,rfl⟩,d,_⟩:=hs2
   rintro rfl
   rcases d vb with q | q
   ·simp[Part.one] at q
   rw[Part.join_eq_none] at q
   simp[Part.one] at q
  have hs3:Sat (stars (pt g (.cells cur 3 (0,0))::Fr)) w:=(hs2.perm (.swap _ _ _)).tail
  have hF:Sat (stars Fr) w:=hs3.tail
  have hcs:∀ j v,(ints xs)[j]?=some v->w.cell? ⟨g,o+j,none⟩=some v:=fun j v hj=>by
   simp only[World.cell?,hg]
   simpa using y4 j v hj
  have hsome:∀ k,k < cur.size->(w.cell? ⟨g,k,none⟩).isSome=true:=fun k hk=>by
   simp only[World.cell?,hg]
   simp[hk]
  have hfz:∀ k,w.frozen? ⟨g,k,none⟩=false:=fun k=>by simp[World.frozen?,hg]
  have hfv:∀ k,w.frozen? ⟨vb,k,none⟩=false:=fun k=>by simp[World.frozen?,hv]
  have hold:∀ k,k < xs.length->cur[o+k]?=xs[k]?.map fun x=>Value.int .i64 x:=fun k hk=>by
   rw[<- iw,y4 k _ (ints_at hk),ints_at hk]
  by_cases hroom:xs.length+1<=cap
  ·by_cases hin:i=xs.length
   ·subst hin
    refine(Any2.slices_Insert_int_end_room uQ g o xs.length cap vb 0 1 1 [.int .i64 x] w (by decide) hroom (by omega) rfl (fun j hj=>hsome _ (by omega)) (fun j _=>hfz _) hvs h1v).mono fun e w' ⟨h1,h2⟩=>?_
    subst h1 h2
    obtain⟨cur',a1,a2,a3,a4⟩:=g6 [.int .i64 x] (o+xs.length) cur w hs3 (by simp only[List.length_cons,List.length_nil];omega)
    refine fin _ g o cap cur' a1 a4 hroom y2 (by omega) fun k hk=>?_
    rw[a3]
    by_cases q:k < xs.length
    ·rw[if_neg (by simp only[List.length_cons,List.length_nil];omega),if_pos q];exact hold k q
    obtain rfl:k=xs.length:=by omega
    rw[if_pos (by simp),if_neg q,if_pos rfl,Nat.sub_self];rfl
   have hlt:i < xs.length:=by omega
   refine(Any2.slices_Insert_int_shift uQ g o xs.length cap i vb 0 1 1 (ints xs) [.int .i64 x] w hlt (by decide) hroom (by omega) hne (dD xs) rfl hcs (fun j hj=>hsome _ (by omega)) (fun j _=>hfz _) hvs (uT xs) h1v 3 3 1 cur.size (by simp[World.shape?,hv]) (by simp[World.shape?,hg]) (by omega) (hfv _) (hfv _)).mono fun e w' ⟨h1,h2⟩=>?_
   subst h1 h2
   have hdl:((ints xs).drop i).length=xs.length-i:=by rw[List.length_drop,dD]
   obtain⟨c1,a1,a2,a3,a4⟩:=g6 ((ints xs).drop i) (o+(i+1)) cur w.drew hs3.drew (by rw[hdl];omega)
   obtain⟨c2,b1,b2,b3,b4⟩:=g6 [.int .i64 x] (o+i) c1 _ a1 (by simp only[List.length_cons,List.length_nil];omega)
   refine fin _ g o cap c2 b1 (((Ext.refl w).drew.trans a4).trans b4) hroom y2 (by omega) fun k hk=>?_
   rw[b3,a3,hdl]
   simp only[List.length_cons,List.length_nil]
   by_cases q:k < i
   ·rw[if_neg (by omega),if_neg (by omega),if_pos q];exact hold k (by omega)
   rw[if_neg q]
   by_cases q2:k=i
   ·rw[if_pos (by omega),if_pos q2,show o+k-(o+i)=0 by omega];rfl
   rw[if_neg (by omega),if_pos (by omega),if_neg q2,List.getElem?_drop,iw]
   congr 2;omega
  have hge:=grownCap_ge w (xs.length+1) cap 3
  have hle:=grownCap_le_maxLen w (xs.length+1) cap 3 (by omega)
  by_cases hin:i=xs.length
  ·subst hin
   refine(Any2.slices_Insert_int_end_grow uQ (some ⟨g,o,none⟩) xs.length cap vb 0 1 1 (ints xs) [.int .i64 x] w (by decide) y1 (by omega) (by omega) (dD xs) rfl (fun h=>by cases h) (fun a h j v hj=>by cases h;rw[dr];exact hcs j v hj) hvs h1v).mono fun e w' ⟨h1,h2⟩=>?_
   rw[ht3] at h1 h2
   subst h1 h2
   refine fin _ w.heap.size 0 _ _ (Sat.alloc (A:=stars Fr) hF.drew _) ((Ext.refl w).drew.alloc _) hge hle (by simp[size_zeroCells,Value.cells,dD];omega) fun k hk=>?_
   rw[Nat.zero_add]
   rw[Array.getElem?_append_left (by simp[dD];omega)]
   rw[List.getElem?_toArray]
   by_cases q:k < xs.length
   ·rw[if_pos q,List.getElem?_append_left (by rw[dD];exact q),iw]
   obtain rfl:k=xs.length:=by omega
   rw[if_neg q,if_pos rfl,List.getElem?_append_right (by rw[dD];omega),dD,Nat.sub_self];rfl
  have hlt:i < xs.length:=by omega
  refine(Any2.slices_Insert_int_grow uQ g o xs.length cap i vb 0 1 1 (ints xs) [.int .i64 x] w hlt (by decide) y1 (by omega) (by omega) (dD xs) rfl hcs hvs (uT xs) h1v).mono fun e w' ⟨h1,h2⟩=>?_
  rw[ht3] at h1 h2
  subst h1 h2
  have hdl:((ints xs).drop i).length=xs.length-i:=by rw[List.length_drop,dD]
  have hA:=(Sat.alloc (A:=stars Fr) hF (.cells (((ints xs).take i).toArray ++ Builtin.zeroCells (Value.int .i64 0).cells (xs.length+1-i) ++ Builtin.zeroCells (Value.int .i64 0).cells (grownCap w (xs.length+1) cap 3-(xs.length+1))) 3)).drew
  obtain⟨cur0,hcur0⟩:∃ cur0,cur0=((ints xs).take i).toArray ++ Builtin.zeroCells (Value.int .i64 0).cells (xs.length+1-i) ++ Builtin.zeroCells (Value.int .i64 0).cells (grownCap w (xs.length+1) cap 3-(xs.length+1)):=⟨_,rfl⟩
  have hsz:cur0.size=grownCap w (xs.length+1) cap 3:=by
   rw[hcur0]
   simp[size_zeroCells,Value.cells,dD]
   omega
  have hfst:∀ k,k < i->cur0[k]?=xs[k]?.map fun x=>Value.int .i64 x:=fun k hk=>by
   rw[hcur0,Array.append_assoc,Array.getElem?_append_left (by simp[dD];omega),List.getElem?_toArray,List.getElem?_take,if_pos hk,iw]
  rw[<- hcur0] at hA ⊢
  obtain⟨c1,a1,a2,a3,a4⟩:=g6 [.int .i64 x] i cur0 _ hA (by simp only[List.length_cons,List.length_nil];omega)
  obtain⟨c2,b1,b2,b3,b4⟩:=g6 ((ints xs).drop i) (i+1) c1 _ a1.drew (by rw[hdl];omega)
  refine fin _ w.heap.size 0 _ c2 b1 ((((Ext.refl w).alloc _).drew.trans a4).drew.trans b4) hge hle (by omega) fun k hk=>?_
  rw[Nat.zero_add,b3,a3,hdl]
  simp only[List.length_cons,List.length_nil]
  by_cases q:k < i
  ·rw[if_neg (by omega),if_neg (by omega),if_pos q];exact hfst k q
  rw[if_neg q]
  by_cases q2:k=i
  ·rw[if_neg (by omega),if_pos (by omega),if_pos q2,show k-i=0 by omega];rfl
  rw[if_pos (by omega),if_neg q2,List.getElem?_drop,iw]
  congr 2;omega
end Search
end
end Go.Proofs.YthkajgkagnenbaaGreatDoor
