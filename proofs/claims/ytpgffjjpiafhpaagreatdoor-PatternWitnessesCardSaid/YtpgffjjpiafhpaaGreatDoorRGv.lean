/- Witness: the law, in its frame. -/
import Derived.SevenTiedAt
import Derived.Lay
import Derived.MakeChecks
import Derived.LaidLaws
import Derived.Test.YtpgffjjpiafhpaaGreatDoorS44
import Derived.Test.YtpgffjjpiafhpaaGreatDoorChecked
import Derived.Test.YtpgffjjpiafhpaaGreatDoorCards
import Derived.Test.YtpgffjjpiafhpaaGreatDoorTie
set_option linter.unusedVariables false
set_option linter.unusedSimpArgs false
set_option maxRecDepth 100000
set_option maxHeartbeats 8000000
namespace Go.Proofs.YtpgffjjpiafhpaaGreatDoor
open Go.RowKit
section
open Classical
open Go.ChangeShapes Go.WideShapes Go.ChangeAt
open Go.ChangeMaps (open_string shut_string)
theorem ycO (v0:Value) (w:World) (m0:EvsArg w v0) :
  Calls Tryz.prog 13 #[v0] w fun e w'=>e = .returned (.bool true)∧Below w.heap.size w w' :=
 ydD w v0 m0
theorem patternWitnesses_own:ownKnob Tryz.prog.godebug=none:=by kernel_rfl
theorem patternWitnesses_laidOut:laidOutB Tryz.prog=true:=by kernel_rfl
set_option maxRecDepth 100000 in
theorem yct (os:Os) (started:os.Started) (H:Type) (enc:TypeId × Value→H) :
  ReturnsInHanded {} Tryz.checked os 13 .any (fun w args=>(Rows.patternWitnessesSpec.pre enc Tryz.prog Tryz.f13 Rows.patternWitnessesRow.domain false w args∧laidMetH Tryz.prog Rows.patternWitnessesRow.laid w)∧sizedMet enc Tryz.prog Tryz.f13 (OpenSpec.ofChange Rows.patternWitnessesSpec) false w args)
   (Rows.patternWitnessesSpec.post enc Tryz.prog Tryz.f13 false true false false):=by
 refine returnsInHanded_of_change_and (C:=Tryz.checked) (X:=fun w _=>laidMetH Tryz.prog Rows.patternWitnessesRow.laid w) (fun _ _ _ hh h=>h.of_heap hh) patternWitnesses_own started (by kernel_rfl) Tryz.func13
  (ChangeSpec.witness_shaped (enc:=enc) (C:=Tryz.checked) (os:=os) (X:=fun w _=>laidMetH Tryz.prog Rows.patternWitnessesRow.laid w) false (World.laidAll Tryz.prog os Rows.patternWitnessesRow.laid) #[.slice none 0 0] 8 (World.laidAll_os _ _ _)
   (World.shaped_of_ZipB (by kernel_rfl) (by kernel_rfl)) (by kernel_rfl) (by kernel_rfl) (by kernel_rfl)
   (by rw [MakeChecks.laidMetH_plain _ _ _ (by kernel_rfl)];exact laidMet_laidAll _ (by kernel_rfl) (by kernel_rfl))) ?_
 intro W base args ds gs before hval0 hW hcnd _ _ _;have hval:∀ (j:Nat) t v,Tryz.f13.params[j]? = some t→args[j]? = some v→Value.okWide Tryz.prog W .any base t v:=hval0;have hW':=hW;obtain⟨p,q,hA0,hV,rfl,hfz,hnd⟩:=hW;have hA:DataW.TrodAll enc Tryz.prog W 0 (fun _=>true) true Tryz.f13.params.toList args.toList ds p:=hA0;rw [Tryz.params13] at hA hval;obtain⟨v0,vs0,d0,ds0,p0,q0,hargs,rfl,rfl,h0,r0⟩:=trodAll_cons hA;obtain⟨rfl,rfl,rfl⟩:=trodAll_nil r0;obtain rfl:args = #[v0]:=by cases args;simp_all
 obtain⟨rfl,rfl⟩:=trodVars_none hV;have k0:=h0;have lt0:∀ x∈p0,x.block<W.heap.size:=by obtain⟨m,hm⟩:=k0;exact DataW.trod_lt m _ _ _ hm
 have m0:EvsArg W v0:=EvsArg_open (hval 0 60 v0 rfl rfl) h0;clear hA0 hval0;refine (ycO v0 W m0).mono fun e W' ⟨he,bel⟩=>?_;subst he;exact ⟨_,rfl,_,_,_,[],_,[],hW',trodAll_mk1 (shut_bool Tryz.underlying4 _),(trodAll_cons_mk (Below.trod patternWitnesses_laidOut (by kernel_rfl) (of_decide_eq_true (by kernel_rfl)) k0 bel lt0) trodAll_mk0),rfl,bel.frame _,fun h=>by cases h⟩
theorem patternWitnesses_f0:(laidOutB Tryz.pinned.checked.prog)=true:=by kernel_rfl
theorem patternWitnesses_f1:(mapsRowed Tryz.pinned.checked.prog)=true:=by kernel_rfl
theorem patternWitnesses_f2:((Rows.patternWitnessesRow.inPlace == Tryz.pinned.checked.prog.inPlace 13))=true:=by kernel_rfl
theorem patternWitnesses_f3:((Rows.patternWitnessesRow.unfollowed == Tryz.pinned.checked.prog.unfollowed 13))=true:=by kernel_rfl
theorem patternWitnesses_f4:((Rows.patternWitnessesRow.recurses == Tryz.pinned.checked.prog.recurses 13))=true:=by kernel_rfl
theorem patternWitnesses_f5:((Rows.patternWitnessesRow.named == Tryz.pinned.checked.prog.varsNamed 13))=true:=by kernel_rfl
theorem patternWitnesses_facts:joinedFacts Tryz.pinned.checked.prog 13 Tryz.f13 Rows.patternWitnessesSpec Rows.patternWitnessesRow=true:=by
 unfold joinedFacts;rw [patternWitnesses_f0,patternWitnesses_f1,patternWitnesses_f2,patternWitnesses_f3,patternWitnesses_f4,patternWitnesses_f5];kernel_rfl
theorem patternWitnesses_over:Rows.patternWitnessesRow.holds Tryz.pinned (OpenSpec.ofChange Rows.patternWitnessesSpec) :=
 OpenClaim.holds_of_wide 13 Tryz.f13 rfl rfl rfl rfl rfl rfl rfl ⟨rfl,rfl,rfl,rfl,rfl⟩ rfl rfl rfl rfl rfl (by kernel_rfl) Tryz.func13 patternWitnesses_facts
  (of_decide_eq_true (by kernel_rfl)) (by unfold Func.isWrapper;first|(rw [if_pos (by decide +kernel)];kernel_rfl)|(rw [if_neg (by decide +kernel)];exact ⟨rfl,rfl⟩))
  (fun os started H enc _=>yct os started H enc)
theorem patternWitnesses_w:Rows.patternWitnessesRow.wfByText (OpenSpec.ofChange Rows.patternWitnessesSpec)=true:=by kernel_rfl
theorem patternWitnesses_m:Tryz.pinned.checked.prog.mainIs=some (Rows.patternWitnessesCard.stood.harness.1,Rows.patternWitnessesCard.stood.harness.2.toList):=by kernel_rfl
theorem patternWitnesses_k:false=Tryz.pinned.checked.prog.looks []:=by kernel_rfl
theorem patternWitnesses_g:false=Rows.patternWitnessesRow.goesBy Tryz.pinned.checked.prog:=by kernel_rfl
theorem patternWitnesses_n:Tryz.prog.funcNamed Rows.patternWitnessesRow.func=some 13:=by kernel_rfl
theorem patternWitnesses_s:([60].all fun u=>!Tryz.prog.wantsStandIn u)=true:=by kernel_rfl
theorem patternWitnesses_proved:Rows.PatternWitnessesCardSaid :=
 Claim7.holds_tied_plain_at .later [] [.data,.pinned] true Rows.patternWitnessesCard.stood.harness false patternWitnesses_over (fun _ h=>by cases h) patternWitnesses_w (fun _ h=>by cases h) patternWitnesses_row_tie rfl ⟨rfl,rfl⟩ patternWitnesses_m rfl
  (fun f fn hf hfn=>by
   obtain rfl:f=13:=Option.some.inj (patternWitnesses_n.symm.trans hf) |>.symm;obtain rfl:fn=Tryz.f13:=(Option.some.inj (Tryz.func13.symm.trans hfn)).symm
   exact ⟨patternWitnesses_k,fun j t ht=>by
    rw [Tryz.params13] at ht;have hm:t∈[60]:=by simpa using Array.mem_of_getElem? ht
    have hall:=patternWitnesses_s
    exact (show Tryz.prog.wantsStandIn t=false by simpa using List.all_eq_true.1 hall t hm)⟩)
  patternWitnesses_g
end
end Go.Proofs.YtpgffjjpiafhpaaGreatDoor
