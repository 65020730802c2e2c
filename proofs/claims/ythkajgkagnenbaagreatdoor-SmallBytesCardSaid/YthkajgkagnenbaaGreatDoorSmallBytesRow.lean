import Derived.Test.YthkajgkagnenbaaGreatDoorExact11V
import Derived.Test.YthkajgkagnenbaaGreatDoorTie
import Derived.Test.YthkajgkagnenbaaGreatDoorCards
import Derived.SevenTiedAt
set_option linter.unusedVariables false
set_option linter.unusedSimpArgs false
set_option linter.unusedSectionVars false
namespace Go.Proofs.YthkajgkagnenbaaGreatDoor
namespace smallBytes
open Go.ChangeShapes Go.WideShapes Go.ChangeAt Go.RowKit Go.Proofs Eng RowKit Ref03 Exact11 Oracle
theorem own:ownKnob Tryz.prog.godebug=none:=by kernel_rfl
set_option maxRecDepth 100000 in
theorem lifted (os:Os) (started:os.Started) (H:Type) (enc:TypeId×Value→H):
  ReturnsInHanded {} Tryz.checked os 5 .any (fun w args=>(Rows.smallBytesSpec.pre enc Tryz.prog Tryz.f5 Rows.smallBytesRow.domain false w args∧laidMetH Tryz.prog Rows.smallBytesRow.laid w)∧sizedMet enc Tryz.prog Tryz.f5 (OpenSpec.ofChange Rows.smallBytesSpec) false w args)
   (Rows.smallBytesSpec.post enc Tryz.prog Tryz.f5 false true false false):=by
 refine returnsInHanded_of_change_and (C:=Tryz.checked) (X:=fun w _=>laidMetH Tryz.prog Rows.smallBytesRow.laid w) (fun _ _ _ hh h=>h.of_heap hh) own started (by kernel_rfl) Tryz.func5
  (ChangeSpec.witness_shaped (enc:=enc) (C:=Tryz.checked) (os:=os) (X:=fun w _=>laidMetH Tryz.prog Rows.smallBytesRow.laid w) false (World.laidAll Tryz.prog os Rows.smallBytesRow.laid) #[.agg #[.slice none 0 0,.int .i64 0,.slice none 0 0],.slice none 0 0] 8 (World.laidAll_os _ _ _)
   (World.shaped_of_ZipB (by kernel_rfl) (by kernel_rfl)) (by kernel_rfl) (by kernel_rfl) (by kernel_rfl)
   (by rw[MakeChecks.laidMetH_plain _ _ _ (by kernel_rfl)];exact laidMet_laidAll _ (by kernel_rfl) (by kernel_rfl))) ?_
 intro W base args ds gs before hval0 hW hc hsz hL _
 have hval:∀(j:Nat) t v,Tryz.f5.params[j]?=some t→args[j]?=some v→Value.okWide Tryz.prog W .any base t v:=hval0
 have hW':=hW
 obtain⟨p,q,hA0,hV,rfl,hfz,hnd⟩:=hW
 have hA:DataW.TrodAll enc Tryz.prog W 0 (fun _=>true) true Tryz.f5.params.toList args.toList ds p:=hA0
 rw[Tryz.params5] at hA hval
 obtain⟨v0,v1,d0,d1,p0,p1,rfl,rfl,rfl,h0,h1⟩:=trodAll_two hA
 obtain⟨rfl,rfl⟩:=trodVars_none hV
 have h0k:=h0
 have h1k:=h1
 obtain⟨a1,l1,c1,rfl⟩:=okWide_slice Tryz.underlying55 (hval 1 55 v1 rfl rfl)
 obtain⟨fuel1,hf1⟩:=h1
 obtain⟨vs,ops,e1,hOps,_,how,hlen⟩:=xr hf1
 obtain rfl:Value.slice a1 l1 c1=vs:=by simpa [Value.cells] using e1
 obtain⟨cs,rfl,hcs⟩:=okWide_struct Tryz.underlying54 (hval 0 54 v0 rfl rfl)
 obtain⟨fuel,hf⟩:=h0
 obtain⟨vf,vo,lim,xs,os',rfl,hA1,hO,hn0,hov,hol⟩:=w9 (cs:=cs) (by rw[Array.length_toList];exact hcs) rfl hf
 have hr:reachBytes=140737488351232:=by decide
 have hmx:ops.length*72≤140737488351232:=by
  rcases hlen with h | ⟨es,sp',h,hl⟩
  ·rw[h];decide
  obtain rfl:d1=.slice es sp':=h
  have h72:Tryz.prog.bytesOf 60=72:=by kernel_rfl
  have hw:(es.length+sp'.length)*Tryz.prog.bytesOf 60≤reachBytes:=sized_slice hsz (j:=1) (t:=55) (e:=60) (by rw[Tryz.params5];rfl) rfl Tryz.underlying55
  rw[h72,hr,hl] at hw
  have:ops.length*72≤(ops.length+sp'.length)*72:=Nat.mul_le_mul_right _ (by omega)
  omega
 have hos:os'.length*24≤140737488351232:=by
  rcases hol with h | ⟨fs,es,sp',h,h2,hl⟩
  ·rw[h];decide
  obtain rfl:d0=.agg fs:=h
  have h24:Tryz.prog.bytesOf 134=24:=by kernel_rfl
  have hw:(es.length+sp'.length)*Tryz.prog.bytesOf 134≤reachBytes:=sQ hsz (j:=0) (i:=2) (t:=54) (u:=52) (e:=134) (by rw[Tryz.params5];rfl) rfl Tryz.underlying54 rfl h2 Tryz.underlying52
  rw[h24,hr,hl] at hw
  have:os'.length*24≤(os'.length+sp'.length)*24:=Nat.mul_le_mul_right _ (by omega)
  omega
 obtain⟨hodd,htab⟩:=xG hL
 have hlt:∀ x∈p0,x.block < W.heap.size:=fun x hx=>hW'.lt x (by simp[hx])
 have hlt1:∀ x∈p1,x.block < W.heap.size:=fun x hx=>hW'.lt x (by simp[hx])
 refine(DR (pO (Eng.old W) htab hodd vf vo _ xs os' ops hA1 hO hn0 hos hov hOps hmx how lim)).mono fun e W' ⟨he,bel⟩=>?_
 subst he
 exact⟨_,rfl,_,_,_,[],_,[],hW',trodAll_mk1 (shut_bool Tryz.underlying4 _),trodAll_mk2 (Below.trod laidOut (by kernel_rfl) (of_decide_eq_true (by kernel_rfl)) h0k bel hlt) (Below.trod laidOut (by kernel_rfl) (of_decide_eq_true (by kernel_rfl)) h1k bel hlt1),rfl,bel.frame _,fun h=>by cases h⟩
theorem over:Rows.SmallBytesSaid:=
 OpenClaim.holds_of_wide 5 Tryz.f5 rfl rfl rfl rfl rfl rfl rfl ⟨rfl,rfl,rfl,rfl,rfl⟩ rfl rfl rfl rfl rfl (by kernel_rfl) Tryz.func5 (by kernel_rfl)
  (of_decide_eq_true (by kernel_rfl)) (by unfold Func.isWrapper;first | (rw[if_pos (by decide +kernel)];kernel_rfl) | (rw[if_neg (by decide +kernel)];exact⟨rfl,rfl⟩))
  (fun os started H enc _=>lifted os started H enc)
theorem proved:Rows.SmallBytesCardSaid:=
 Claim7.holds_tied_plain_at .later [] Rows.smallBytesCard.laidKinds true Rows.smallBytesCard.stood.harness false over (fun _ h=>by cases h) (by kernel_rfl) (fun _ h=>by cases h) smallBytes_row_tie rfl ⟨rfl,rfl⟩ (by kernel_rfl) rfl
  (fun f fn hf hfn=>by
   obtain rfl : f = 5 := Option.some.inj ((show Tryz.prog.funcNamed "larder/larderlaw11.SmallBytes" = some 5 by kernel_rfl).symm.trans hf) |>.symm
   obtain rfl:fn=Tryz.f5:=(Option.some.inj (Tryz.func5.symm.trans hfn)).symm
   exact⟨by kernel_rfl,fun j t ht=>by
    rw[Tryz.params5] at ht
    have hm:t∈[54,55]:=by simpa using Array.mem_of_getElem? ht
    have hall:([54,55].all fun u=>!Tryz.prog.wantsStandIn u)=true:=by kernel_rfl
    exact(show Tryz.prog.wantsStandIn t=false by simpa using List.all_eq_true.1 hall t hm)⟩)
  (by kernel_rfl)
#print axioms proved
end smallBytes
theorem smallBytes_holds:Rows.SmallBytesCardSaid:=smallBytes.proved
end Go.Proofs.YthkajgkagnenbaaGreatDoor
