/- Joining moving Booleans. -/
import Derived.SevenTiedAt
import Derived.Lay
import Derived.MakeChecks
import Derived.LaidLaws
import Derived.Test.YtejegogbhpmgfaaGreatDoorA38
import Derived.Test.YtejegogbhpmgfaaGreatDoorTA8
import Derived.Test.YtejegogbhpmgfaaGreatDoorChecked
import Derived.Test.YtejegogbhpmgfaaGreatDoorCards
import Derived.Test.YtejegogbhpmgfaaGreatDoorTie
set_option linter.unusedVariables false
set_option linter.unusedSimpArgs false
set_option maxRecDepth 100000
set_option maxHeartbeats 8000000
namespace Go.Proofs.YtejegogbhpmgfaaGreatDoor
open Go.RowKit
open Classical
open Go.ChangeShapes Go.WideShapes Go.ChangeAt
theorem jwalk (v0:Value) (v1:Value) (v2:Value) (w:World) (m0:MovArg w v0) (m1:MovArg w v1) (m2:SpArg w v2) :
  Calls Tryz.prog 10 #[v0,v1,v2] w fun e w'=>e = .returned (.bool true)∧Below w.heap.size w w' :=
 (movingboolJoins_c w v0 v1 v2 m0 m1 m2).mono fun e w' ⟨he,hk⟩=>⟨he,⟨hk.os,hk.tape,hk.output,hk.size,fun k h=>hk.block k h (by simp)⟩⟩
theorem jown:ownKnob Tryz.prog.godebug=none:=by kernel_rfl
theorem jlaidOut:laidOutB Tryz.prog=true:=by kernel_rfl
theorem jlifted (os:Os) (started:os.Started) (H:Type) (enc:TypeId × Value→H) :
  ReturnsInHanded {} Tryz.checked os 10 .any (fun w args=>(Rows.movingboolJoinsSpec.pre enc Tryz.prog Tryz.f10 Rows.movingboolJoinsRow.domain false w args∧laidMetH Tryz.prog Rows.movingboolJoinsRow.laid w)∧sizedMet enc Tryz.prog Tryz.f10 (OpenSpec.ofChange Rows.movingboolJoinsSpec) false w args)
   (Rows.movingboolJoinsSpec.post enc Tryz.prog Tryz.f10 false true false false):=by
 refine returnsInHanded_of_change_and (C:=Tryz.checked) (X:=fun w _=>laidMetH Tryz.prog Rows.movingboolJoinsRow.laid w) (fun _ _ _ hh h=>h.of_heap hh) jown started (by kernel_rfl) Tryz.func10
  (ChangeSpec.witness_shaped (enc:=enc) (C:=Tryz.checked) (os:=os) (X:=fun w _=>laidMetH Tryz.prog Rows.movingboolJoinsRow.laid w) false (World.laidAll Tryz.prog os Rows.movingboolJoinsRow.laid) #[.agg #[.slice none 0 0,.slice none 0 0],.agg #[.slice none 0 0,.slice none 0 0],.slice none 0 0] 8 (World.laidAll_os _ _ _)
   (World.shaped_of_ZipB (by kernel_rfl) (by kernel_rfl)) (by kernel_rfl) (by kernel_rfl) (by kernel_rfl)
   (by rw [MakeChecks.laidMetH_plain _ _ _ (by kernel_rfl)];exact laidMet_laidAll _ (by kernel_rfl) (by kernel_rfl))) ?_
 intro W base args ds gs before hval0 hW hcnd _ _ _
 have hval:∀ (j:Nat) t v,Tryz.f10.params[j]? = some t→args[j]? = some v→Value.okWide Tryz.prog W .any base t v:=hval0
 have hW':=hW
 obtain⟨p,q,hA0,hV,rfl,hfz,hnd⟩:=hW
 have hA:DataW.TrodAll enc Tryz.prog W 0 (fun _=>true) true Tryz.f10.params.toList args.toList ds p:=hA0
 rw [Tryz.params10] at hA hval
 obtain⟨v0,vs0,d0,ds0,p0,q0,hargs,rfl,rfl,h0,r0⟩:=trodAll_cons hA
 obtain⟨v1,vs1,d1,ds1,p1,q1,rfl,rfl,rfl,h1,r1⟩:=trodAll_cons r0
 obtain⟨v2,vs2,d2,ds2,p2,q2,rfl,rfl,rfl,h2,r2⟩:=trodAll_cons r1
 obtain⟨rfl,rfl,rfl⟩:=trodAll_nil r2
 obtain rfl:args = #[v0,v1,v2]:=by cases args;simp_all
 obtain⟨rfl,rfl⟩:=trodVars_none hV
 have k0:=h0
 have lt0:∀ x∈p0,x.block<W.heap.size:=by obtain⟨m,hm⟩:=k0;exact DataW.trod_lt m _ _ _ hm
 have k1:=h1
 have lt1:∀ x∈p1,x.block<W.heap.size:=by obtain⟨m,hm⟩:=k1;exact DataW.trod_lt m _ _ _ hm
 have k2:=h2
 have lt2:∀ x∈p2,x.block<W.heap.size:=by obtain⟨m,hm⟩:=k2;exact DataW.trod_lt m _ _ _ hm
 have m0:MovArg W v0:=MovArg_open (hval 0 24 v0 rfl rfl) h0
 have m1:MovArg W v1:=MovArg_open (hval 1 24 v1 rfl rfl) h1
 have m2:SpArg W v2:=SpArg_open (hval 2 22 v2 rfl rfl) h2
 clear hA0 hval0
 refine (jwalk v0 v1 v2 W m0 m1 m2).mono fun e W' ⟨he,bel⟩=>?_
 subst he
 exact ⟨_,rfl,_,_,_,[],_,[],hW',trodAll_mk1 (shut_bool Tryz.underlying4 _),(trodAll_cons_mk (Below.trod jlaidOut (by kernel_rfl) (of_decide_eq_true (by kernel_rfl)) k0 bel lt0) (trodAll_cons_mk (Below.trod jlaidOut (by kernel_rfl) (of_decide_eq_true (by kernel_rfl)) k1 bel lt1) (trodAll_cons_mk (Below.trod jlaidOut (by kernel_rfl) (of_decide_eq_true (by kernel_rfl)) k2 bel lt2) trodAll_mk0))),rfl,bel.frame _,fun h=>by cases h⟩
theorem jf0:(laidOutB Tryz.pinned.checked.prog)=true:=by kernel_rfl
theorem jf1:(mapsRowed Tryz.pinned.checked.prog)=true:=by kernel_rfl
theorem jf2:((Rows.movingboolJoinsRow.inPlace == Tryz.pinned.checked.prog.inPlace 10))=true:=by kernel_rfl
theorem jf3:((Rows.movingboolJoinsRow.unfollowed == Tryz.pinned.checked.prog.unfollowed 10))=true:=by kernel_rfl
theorem jf4:((Rows.movingboolJoinsRow.recurses == Tryz.pinned.checked.prog.recurses 10))=true:=by kernel_rfl
theorem jf5:((Rows.movingboolJoinsRow.named == Tryz.pinned.checked.prog.varsNamed 10))=true:=by kernel_rfl
theorem jfacts:joinedFacts Tryz.pinned.checked.prog 10 Tryz.f10 Rows.movingboolJoinsSpec Rows.movingboolJoinsRow=true:=by
 unfold joinedFacts
 rw [jf0,jf1,jf2,jf3,jf4,jf5]
 kernel_rfl
theorem jover:Rows.movingboolJoinsRow.holds Tryz.pinned (OpenSpec.ofChange Rows.movingboolJoinsSpec) :=
 OpenClaim.holds_of_wide 10 Tryz.f10 rfl rfl rfl rfl rfl rfl rfl ⟨rfl,rfl,rfl,rfl,rfl⟩ rfl rfl rfl rfl rfl (by kernel_rfl) Tryz.func10 jfacts
  (of_decide_eq_true (by kernel_rfl)) (by unfold Func.isWrapper;first|(rw [if_pos (by decide +kernel)];kernel_rfl)|(rw [if_neg (by decide +kernel)];exact ⟨rfl,rfl⟩))
  (fun os started H enc _=>jlifted os started H enc)
theorem jw:Rows.movingboolJoinsRow.wfByText (OpenSpec.ofChange Rows.movingboolJoinsSpec)=true:=by kernel_rfl
theorem jm:Tryz.pinned.checked.prog.mainIs=some (Rows.movingboolJoinsCard.stood.harness.1,Rows.movingboolJoinsCard.stood.harness.2.toList):=by kernel_rfl
theorem jk:false=Tryz.pinned.checked.prog.looks []:=by kernel_rfl
theorem jg:false=Rows.movingboolJoinsRow.goesBy Tryz.pinned.checked.prog:=by kernel_rfl
theorem jn:Tryz.prog.funcNamed Rows.movingboolJoinsRow.func=some 10:=by kernel_rfl
theorem js:([24,24,22].all fun u=>!Tryz.prog.wantsStandIn u)=true:=by kernel_rfl
theorem movingboolJoins_proved:Rows.MovingboolJoinsCardSaid :=
 Claim7.holds_tied_plain_at .later [] [.data,.pinned] true Rows.movingboolJoinsCard.stood.harness false jover (fun _ h=>by cases h) jw (fun _ h=>by cases h) movingboolJoins_row_tie rfl ⟨rfl,rfl⟩ jm rfl
  (fun f fn hf hfn=>by
   obtain rfl:f=10:=Option.some.inj (jn.symm.trans hf) |>.symm
   obtain rfl:fn=Tryz.f10:=(Option.some.inj (Tryz.func10.symm.trans hfn)).symm
   exact ⟨jk,fun j t ht=>by
    rw [Tryz.params10] at ht
    have hm:t∈[24,24,22]:=by simpa using Array.mem_of_getElem? ht
    have hall:=js
    exact (show Tryz.prog.wantsStandIn t=false by simpa using List.all_eq_true.1 hall t hm)⟩)
  jg
end Go.Proofs.YtejegogbhpmgfaaGreatDoor
