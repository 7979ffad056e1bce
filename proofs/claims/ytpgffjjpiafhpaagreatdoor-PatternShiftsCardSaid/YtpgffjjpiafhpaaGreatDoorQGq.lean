/- Shifting all periods shifts the live instants. -/
import Derived.SevenTiedAt
import Derived.Lay
import Derived.MakeChecks
import Derived.LaidLaws
import Derived.Test.YtpgffjjpiafhpaaGreatDoorP23
import Derived.Test.YtpgffjjpiafhpaaGreatDoorP15
import Derived.Test.YtpgffjjpiafhpaaGreatDoorTPq
import Derived.Test.YtpgffjjpiafhpaaGreatDoorP14
import Derived.Test.YtpgffjjpiafhpaaGreatDoorP32
import Derived.Test.YtpgffjjpiafhpaaGreatDoorChecked
import Derived.Test.YtpgffjjpiafhpaaGreatDoorCards
import Derived.Test.YtpgffjjpiafhpaaGreatDoorTie
set_option linter.unusedVariables false
set_option linter.unusedSimpArgs false
set_option maxRecDepth 100000
set_option maxHeartbeats 8000000
namespace Go.Proofs.YtpgffjjpiafhpaaGreatDoor
open Go.RowKit
section
open Classical
open Go.ChangeShapes Go.WideShapes Go.ChangeAt
open Go.ChangeMaps (open_string shut_string)
theorem patternShifts_walk (v0:Value) (v1:Value) (w:World) (m0:EvsArg w v0) (m1:RFArg w v1) :
  Calls Tryz.prog 6 #[v0,v1] w fun e w'=>e = .returned (.bool true)∧Below w.heap.size w w' :=
 patternShifts_c w v0 v1 m0 m1
theorem patternShifts_own:ownKnob Tryz.prog.godebug=none:=by kernel_rfl
theorem patternShifts_laidOut:laidOutB Tryz.prog=true:=by kernel_rfl
set_option maxRecDepth 100000 in
theorem patternShifts_lifted (os:Os) (started:os.Started) (H:Type) (enc:TypeId × Value→H) :
  ReturnsInHanded {} Tryz.checked os 6 .any (fun w args=>(Rows.patternShiftsSpec.pre enc Tryz.prog Tryz.f6 Rows.patternShiftsRow.domain false w args∧laidMetH Tryz.prog Rows.patternShiftsRow.laid w)∧sizedMet enc Tryz.prog Tryz.f6 (OpenSpec.ofChange Rows.patternShiftsSpec) false w args)
   (Rows.patternShiftsSpec.post enc Tryz.prog Tryz.f6 false true false false):=by
 refine returnsInHanded_of_change_and (C:=Tryz.checked) (X:=fun w _=>laidMetH Tryz.prog Rows.patternShiftsRow.laid w) (fun _ _ _ hh h=>h.of_heap hh) patternShifts_own started (by kernel_rfl) Tryz.func6
  (ChangeSpec.witness_shaped (enc:=enc) (C:=Tryz.checked) (os:=os) (X:=fun w _=>laidMetH Tryz.prog Rows.patternShiftsRow.laid w) false (World.laidAll Tryz.prog os Rows.patternShiftsRow.laid) #[.slice none 0 0,.agg #[.bool false,.string ByteArray.empty,.bool false,.string ByteArray.empty]] 8 (World.laidAll_os _ _ _)
   (World.shaped_of_ZipB (by kernel_rfl) (by kernel_rfl)) (by kernel_rfl) (by kernel_rfl) (by kernel_rfl)
   (by rw [MakeChecks.laidMetH_plain _ _ _ (by kernel_rfl)];exact laidMet_laidAll _ (by kernel_rfl) (by kernel_rfl))) ?_
 intro W base args ds gs before hval0 hW hcnd hwt _ _;have hval:∀ (j:Nat) t v,Tryz.f6.params[j]? = some t→args[j]? = some v→Value.okWide Tryz.prog W .any base t v:=hval0;have hW':=hW;obtain⟨p,q,hA0,hV,rfl,hfz,hnd⟩:=hW;have hA:DataW.TrodAll enc Tryz.prog W 0 (fun _=>true) true Tryz.f6.params.toList args.toList ds p:=hA0;rw [Tryz.params6] at hA hval hwt;obtain⟨v0,vs0,d0,ds0,p0,q0,hargs,rfl,rfl,h0,r0⟩:=trodAll_cons hA;obtain⟨v1,vs1,d1,ds1,p1,q1,rfl,rfl,rfl,h1,r1⟩:=trodAll_cons r0;obtain⟨rfl,rfl,rfl⟩:=trodAll_nil r1;obtain rfl:args = #[v0,v1]:=by cases args;simp_all
 obtain⟨rfl,rfl⟩:=trodVars_none hV;have k0:=h0;have lt0:∀ x∈p0,x.block<W.heap.size:=by obtain⟨m,hm⟩:=k0;exact DataW.trod_lt m _ _ _ hm
 have k1:=h1;have lt1:∀ x∈p1,x.block<W.heap.size:=by obtain⟨m,hm⟩:=k1;exact DataW.trod_lt m _ _ _ hm
 have m0:EvsArg W v0:=EvsArg_open (hval 0 60 v0 rfl rfl) h0;have m1:RFArg W v1:=RFArg_open (hval 1 28 v1 rfl rfl) h1 (wt_head (wt_tail hwt));clear hA0 hval0;refine (patternShifts_walk v0 v1 W m0 m1).mono fun e W' ⟨he,bel⟩=>?_;subst he;exact ⟨_,rfl,_,_,_,[],_,[],hW',trodAll_mk1 (shut_bool Tryz.underlying4 _),(trodAll_cons_mk (Below.trod patternShifts_laidOut (by kernel_rfl) (of_decide_eq_true (by kernel_rfl)) k0 bel lt0) (trodAll_cons_mk (Below.trod patternShifts_laidOut (by kernel_rfl) (of_decide_eq_true (by kernel_rfl)) k1 bel lt1) trodAll_mk0)),rfl,bel.frame _,fun h=>by cases h⟩
theorem patternShifts_f0:(laidOutB Tryz.pinned.checked.prog)=true:=by kernel_rfl
theorem patternShifts_f1:(mapsRowed Tryz.pinned.checked.prog)=true:=by kernel_rfl
theorem patternShifts_f2:((Rows.patternShiftsRow.inPlace == Tryz.pinned.checked.prog.inPlace 6))=true:=by kernel_rfl
theorem patternShifts_f3:((Rows.patternShiftsRow.unfollowed == Tryz.pinned.checked.prog.unfollowed 6))=true:=by kernel_rfl
theorem patternShifts_f4:((Rows.patternShiftsRow.recurses == Tryz.pinned.checked.prog.recurses 6))=true:=by kernel_rfl
theorem patternShifts_f5:((Rows.patternShiftsRow.named == Tryz.pinned.checked.prog.varsNamed 6))=true:=by kernel_rfl
theorem patternShifts_facts:joinedFacts Tryz.pinned.checked.prog 6 Tryz.f6 Rows.patternShiftsSpec Rows.patternShiftsRow=true:=by
 unfold joinedFacts;rw [patternShifts_f0,patternShifts_f1,patternShifts_f2,patternShifts_f3,patternShifts_f4,patternShifts_f5];kernel_rfl
theorem patternShifts_over:Rows.patternShiftsRow.holds Tryz.pinned (OpenSpec.ofChange Rows.patternShiftsSpec) :=
 OpenClaim.holds_of_wide 6 Tryz.f6 rfl rfl rfl rfl rfl rfl rfl ⟨rfl,rfl,rfl,rfl,rfl⟩ rfl rfl rfl rfl rfl (by kernel_rfl) Tryz.func6 patternShifts_facts
  (of_decide_eq_true (by kernel_rfl)) (by unfold Func.isWrapper;first|(rw [if_pos (by decide +kernel)];kernel_rfl)|(rw [if_neg (by decide +kernel)];exact ⟨rfl,rfl⟩))
  (fun os started H enc _=>patternShifts_lifted os started H enc)
theorem patternShifts_w:Rows.patternShiftsRow.wfByText (OpenSpec.ofChange Rows.patternShiftsSpec)=true:=by kernel_rfl
theorem patternShifts_m:Tryz.pinned.checked.prog.mainIs=some (Rows.patternShiftsCard.stood.harness.1,Rows.patternShiftsCard.stood.harness.2.toList):=by kernel_rfl
theorem patternShifts_k:false=Tryz.pinned.checked.prog.looks []:=by kernel_rfl
theorem patternShifts_g:false=Rows.patternShiftsRow.goesBy Tryz.pinned.checked.prog:=by kernel_rfl
theorem patternShifts_n:Tryz.prog.funcNamed Rows.patternShiftsRow.func=some 6:=by kernel_rfl
theorem patternShifts_s:([60,28].all fun u=>!Tryz.prog.wantsStandIn u)=true:=by kernel_rfl
theorem patternShifts_proved:Rows.PatternShiftsCardSaid :=
 Claim7.holds_tied_plain_at .later [] [.data,.pinned] true Rows.patternShiftsCard.stood.harness false patternShifts_over (fun _ h=>by cases h) patternShifts_w (fun _ h=>by cases h) patternShifts_row_tie rfl ⟨rfl,rfl⟩ patternShifts_m rfl
  (fun f fn hf hfn=>by
   obtain rfl:f=6:=Option.some.inj (patternShifts_n.symm.trans hf) |>.symm;obtain rfl:fn=Tryz.f6:=(Option.some.inj (Tryz.func6.symm.trans hfn)).symm
   exact ⟨patternShifts_k,fun j t ht=>by
    rw [Tryz.params6] at ht;have hm:t∈[60,28]:=by simpa using Array.mem_of_getElem? ht
    have hall:=patternShifts_s
    exact (show Tryz.prog.wantsStandIn t=false by simpa using List.all_eq_true.1 hall t hm)⟩)
  patternShifts_g
end
end Go.Proofs.YtpgffjjpiafhpaaGreatDoor
