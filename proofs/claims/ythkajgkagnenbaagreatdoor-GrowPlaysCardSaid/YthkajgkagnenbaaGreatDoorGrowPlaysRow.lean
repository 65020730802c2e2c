/- GrowPlays answers true, whatever its arguments; no condition but that the package variables larder/oracle.odd and math/bits.deBruijn64tab start as the text lays them (both of which the card ties). -/
import Derived.Test.YthkajgkagnenbaaGreatDoorRow09P
import Derived.Test.YthkajgkagnenbaaGreatDoorTie
import Derived.Test.YthkajgkagnenbaaGreatDoorCards
import Derived.SevenTiedAt
set_option linter.unusedVariables false
set_option linter.unusedSimpArgs false
set_option linter.unusedSectionVars false
namespace Go.Proofs.YthkajgkagnenbaaGreatDoor
namespace growPlays
open Go.ChangeShapes Go.WideShapes Go.ChangeAt Go.RowKit Go.Proofs Eng RowKit Plays
theorem own:ownKnob Tryz.prog.godebug=none:=by kernel_rfl
set_option maxRecDepth 100000 in
theorem lifted (os:Os) (started:os.Started) (H:Type) (enc:TypeId×Value->H):
  ReturnsInHanded {} Tryz.checked os 7 .any (fun w args=>(Rows.growPlaysSpec.pre enc Tryz.prog Tryz.f7 Rows.growPlaysRow.domain false w args/\laidMetH Tryz.prog Rows.growPlaysRow.laid w)/\sizedMet enc Tryz.prog Tryz.f7 (OpenSpec.ofChange Rows.growPlaysSpec) false w args)
   (Rows.growPlaysSpec.post enc Tryz.prog Tryz.f7 false true false false):=by
 refine returnsInHanded_of_change_and (C:=Tryz.checked) (X:=fun w _=>laidMetH Tryz.prog Rows.growPlaysRow.laid w) (fun _ _ _ hh h=>h.of_heap hh) own started (by kernel_rfl) Tryz.func7
  (ChangeSpec.witness_shaped (enc:=enc) (C:=Tryz.checked) (os:=os) (X:=fun w _=>laidMetH Tryz.prog Rows.growPlaysRow.laid w) false (World.laidAll Tryz.prog os Rows.growPlaysRow.laid) #[.agg #[.int .i64 0,.slice none 0 0,.int .u64 0,.slice none 0 0],.slice none 0 0] 8 (World.laidAll_os _ _ _)
   (World.shaped_of_ZipB (by kernel_rfl) (by kernel_rfl)) (by kernel_rfl) (by kernel_rfl) (by kernel_rfl)
   (by rw[MakeChecks.laidMetH_plain _ _ _ (by kernel_rfl)];exact laidMet_laidAll _ (by kernel_rfl) (by kernel_rfl))) ?_
 intro W base args ds gs before hval0 hW hc hsz hL _
 have hval:∀(j:Nat) t v,Tryz.f7.params[j]?=some t->args[j]?=some v->Value.okWide Tryz.prog W .any base t v:=hval0
 have hW':=hW
 obtain⟨p,q,hA0,hV,rfl,hfz,hnd⟩:=hW
 have hA:DataW.TrodAll enc Tryz.prog W 0 (fun _=>true) true Tryz.f7.params.toList args.toList ds p:=hA0
 rw[Tryz.params7] at hA hval
 obtain⟨v0,v1,d0,d1,p0,p1,rfl,rfl,rfl,h0,h1⟩:=trodAll_two hA
 obtain⟨rfl,rfl⟩:=trodVars_none hV
 have h0k:=h0
 have h1k:=h1
 obtain⟨a1,l1,c1,rfl⟩:=okWide_slice Tryz.underlying84 (hval 1 84 v1 rfl rfl)
 obtain⟨fuel1,hf1⟩:=h1
 obtain⟨vs,ops,e1,hOps,_,how,hlen⟩:=Bi hf1
 obtain rfl:Value.slice a1 l1 c1=vs:=by simpa [Value.cells] using e1
 obtain⟨cs,rfl,hcs⟩:=okWide_struct Tryz.underlying83 (hval 0 83 v0 rfl rfl)
 obtain⟨fuel,hf⟩:=h0
 obtain⟨vf,vo,lim,sd,xs,os',rfl,hA1,hO,hov,hsd⟩:=wa (cs:=cs) (by rw[Array.length_toList];exact hcs) rfl hf
 have hr:reachBytes=140737488351232:=by decide
 have hmx:ops.length*64<=140737488351232:=by
  rcases hlen with h | ⟨es,sp',h,hl⟩
  ·rw[h];decide
  obtain rfl:d1=.slice es sp':=h
  have h64:Tryz.prog.bytesOf 90=64:=by kernel_rfl
  have hw:(es.length+sp'.length)*Tryz.prog.bytesOf 90<=reachBytes:=sized_slice hsz (j:=1) (t:=84) (e:=90) (by rw[Tryz.params7];rfl) rfl Tryz.underlying84
  rw[h64,hr,hl] at hw
  have:ops.length*64<=(ops.length+sp'.length)*64:=Nat.mul_le_mul_right _ (by omega)
  omega
 have how2:∀ o∈ops,o.wf:=fun o ho=>by
  obtain⟨hwf,hpt⟩:=how o ho
  refine hwf ?_
  rcases hlen with h | ⟨es,sp',h,hl⟩
  ·exact absurd (List.length_pos_of_mem ho) (by omega)
  obtain⟨parts,hm,hp⟩:=hpt es sp' h
  obtain rfl:d1=.slice es sp':=h
  have hw:o.key.data.toList.length<=reachBytes:=yE hsz (j:=1) (i:=4) (t:=84) (e:=90) (u:=9) (by rw[Tryz.params7];rfl) rfl Tryz.underlying84 hm Tryz.underlying90 rfl hp
  rw[hr] at hw
  have:o.key.size=o.key.data.toList.length:=(Array.length_toList (xs:=o.key.data)).symm
  omega
 obtain⟨hodd,htab⟩:=zh hL
 have hlt:∀ x∈p0,x.block < W.heap.size:=fun x hx=>hW'.lt x (by simp[hx])
 have hlt1:∀ x∈p1,x.block < W.heap.size:=fun x hx=>hW'.lt x (by simp[hx])
 refine(FO (tz (Eng.old W) htab hodd vf vo _ xs os' ops hA1 hO hov hOps hmx how2 lim sd hsd)).mono fun e W' ⟨he,bel⟩=>?_
 subst he
 exact⟨_,rfl,_,_,_,[],_,[],hW',trodAll_mk1 (shut_bool Tryz.underlying4 _),trodAll_mk2 (Below.trod laidOut (by kernel_rfl) (of_decide_eq_true (by kernel_rfl)) h0k bel hlt) (Below.trod laidOut (by kernel_rfl) (of_decide_eq_true (by kernel_rfl)) h1k bel hlt1),rfl,bel.frame _,fun h=>by cases h⟩
theorem over:Rows.GrowPlaysSaid:=
 OpenClaim.holds_of_wide 7 Tryz.f7 rfl rfl rfl rfl rfl rfl rfl ⟨rfl,rfl,rfl,rfl,rfl⟩ rfl rfl rfl rfl rfl (by kernel_rfl) Tryz.func7 (by kernel_rfl)
  (of_decide_eq_true (by kernel_rfl)) (by unfold Func.isWrapper;first | (rw[if_pos (by decide +kernel)];kernel_rfl) | (rw[if_neg (by decide +kernel)];exact⟨rfl,rfl⟩))
  (fun os started H enc _=>lifted os started H enc)
theorem proved:Rows.GrowPlaysCardSaid:=
 Claim7.holds_tied_plain_at .later [] Rows.growPlaysCard.laidKinds true Rows.growPlaysCard.stood.harness false over (fun _ h=>by cases h) (by kernel_rfl) (fun _ h=>by cases h) growPlays_row_tie rfl ⟨rfl,rfl⟩ (by kernel_rfl) rfl
  (fun f fn hf hfn=>by
   obtain rfl : f = 7 := Option.some.inj ((show Tryz.prog.funcNamed "larder/larderlaw09.GrowPlays" = some 7 by kernel_rfl).symm.trans hf) |>.symm
   obtain rfl:fn=Tryz.f7:=(Option.some.inj (Tryz.func7.symm.trans hfn)).symm
   exact⟨by kernel_rfl,fun j t ht=>by
    rw[Tryz.params7] at ht
    have hm:t∈[83,84]:=by simpa using Array.mem_of_getElem? ht
    have hall:([83,84].all fun u=>!Tryz.prog.wantsStandIn u)=true:=by kernel_rfl
    exact(show Tryz.prog.wantsStandIn t=false by simpa using List.all_eq_true.1 hall t hm)⟩)
  (by kernel_rfl)
#print axioms proved
end growPlays
theorem growPlays_holds:Rows.GrowPlaysCardSaid:=growPlays.proved
end Go.Proofs.YthkajgkagnenbaaGreatDoor
