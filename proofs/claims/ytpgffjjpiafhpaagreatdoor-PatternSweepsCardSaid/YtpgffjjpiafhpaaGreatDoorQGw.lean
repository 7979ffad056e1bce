/- For the period of an event and any two fractions of at most 8 bytes, Sweep returns the instants of the definition, and says whether the period has an instant so much earlier than a given one. -/
import Derived.SevenTiedAt
import Derived.Lay
import Derived.MakeChecks
import Derived.LaidLaws
import Derived.Test.YtpgffjjpiafhpaaGreatDoorP23
import Derived.Test.YtpgffjjpiafhpaaGreatDoorP15
import Derived.Test.YtpgffjjpiafhpaaGreatDoorTPw
import Derived.Test.YtpgffjjpiafhpaaGreatDoorP14
import Derived.Test.YtpgffjjpiafhpaaGreatDoorP32
import Derived.Test.YtpgffjjpiafhpaaGreatDoorChecked
import Derived.Test.YtpgffjjpiafhpaaGreatDoorCards
import Derived.Test.YtpgffjjpiafhpaaGreatDoorTie
set_option linter.unusedVariables false
set_option linter.unusedSimpArgs false
set_option maxRecDepth 100000
set_option maxHeartbeats 8000000
namespace Go.Proofs.YtpgffjjpiafhpaaGreatDoor
open Go.RowKit
section
open Classical
open Go.ChangeShapes Go.WideShapes Go.ChangeAt
open Go.ChangeMaps (open_string shut_string)
theorem patternSweeps_walk (v0:Value) (v1:Value) (v2:Value) (w:World) (m0:EvArg w v0) (m1:R2Arg w v1) (m2:RRArg w v2) :
  Calls Tryz.prog 10 #[v0,v1,v2] w fun e w'=>e = .returned (.bool true)∧Below w.heap.size w w' :=
 patternSweeps_c w v0 v1 v2 m0 m1 m2
theorem patternSweeps_own:ownKnob Tryz.prog.godebug=none:=by kernel_rfl
theorem patternSweeps_laidOut:laidOutB Tryz.prog=true:=by kernel_rfl
set_option maxRecDepth 100000 in
theorem patternSweeps_lifted (os:Os) (started:os.Started) (H:Type) (enc:TypeId × Value→H) :
  ReturnsInHanded {} Tryz.checked os 10 .any (fun w args=>(Rows.patternSweepsSpec.pre enc Tryz.prog Tryz.f10 Rows.patternSweepsRow.domain false w args∧laidMetH Tryz.prog Rows.patternSweepsRow.laid w)∧sizedMet enc Tryz.prog Tryz.f10 (OpenSpec.ofChange Rows.patternSweepsSpec) false w args)
   (Rows.patternSweepsSpec.post enc Tryz.prog Tryz.f10 false true false false):=by
 refine returnsInHanded_of_change_and (C:=Tryz.checked) (X:=fun w _=>laidMetH Tryz.prog Rows.patternSweepsRow.laid w) (fun _ _ _ hh h=>h.of_heap hh) patternSweeps_own started (by kernel_rfl) Tryz.func10
  (ChangeSpec.witness_shaped (enc:=enc) (C:=Tryz.checked) (os:=os) (X:=fun w _=>laidMetH Tryz.prog Rows.patternSweepsRow.laid w) false (World.laidAll Tryz.prog os Rows.patternSweepsRow.laid) #[.agg #[.slice none 0 0,.int .u8 0,.int .u8 0,.int .u8 0,.int .u8 0],.agg #[.bool false,.string ByteArray.empty,.bool false,.string ByteArray.empty,.bool false,.string ByteArray.empty,.bool false,.string ByteArray.empty],.agg #[.bool false,.string ByteArray.empty,.bool false,.string ByteArray.empty,.bool false,.string ByteArray.empty,.bool false,.string ByteArray.empty,.bool false]] 8 (World.laidAll_os _ _ _)
   (World.shaped_of_ZipB (by kernel_rfl) (by kernel_rfl)) (by kernel_rfl) (by kernel_rfl) (by kernel_rfl)
   (by rw [MakeChecks.laidMetH_plain _ _ _ (by kernel_rfl)];exact laidMet_laidAll _ (by kernel_rfl) (by kernel_rfl))) ?_
 intro W base args ds gs before hval0 hW hcnd hwt _ _;have hval:∀ (j:Nat) t v,Tryz.f10.params[j]? = some t→args[j]? = some v→Value.okWide Tryz.prog W .any base t v:=hval0;have hW':=hW;obtain⟨p,q,hA0,hV,rfl,hfz,hnd⟩:=hW;have hA:DataW.TrodAll enc Tryz.prog W 0 (fun _=>true) true Tryz.f10.params.toList args.toList ds p:=hA0;rw [Tryz.params10] at hA hval hwt;obtain⟨v0,vs0,d0,ds0,p0,q0,hargs,rfl,rfl,h0,r0⟩:=trodAll_cons hA;obtain⟨v1,vs1,d1,ds1,p1,q1,rfl,rfl,rfl,h1,r1⟩:=trodAll_cons r0;obtain⟨v2,vs2,d2,ds2,p2,q2,rfl,rfl,rfl,h2,r2⟩:=trodAll_cons r1;obtain⟨rfl,rfl,rfl⟩:=trodAll_nil r2;obtain rfl:args = #[v0,v1,v2]:=by cases args;simp_all
 obtain⟨rfl,rfl⟩:=trodVars_none hV;have k0:=h0;have lt0:∀ x∈p0,x.block<W.heap.size:=by obtain⟨m,hm⟩:=k0;exact DataW.trod_lt m _ _ _ hm
 have k1:=h1;have lt1:∀ x∈p1,x.block<W.heap.size:=by obtain⟨m,hm⟩:=k1;exact DataW.trod_lt m _ _ _ hm
 have k2:=h2;have lt2:∀ x∈p2,x.block<W.heap.size:=by obtain⟨m,hm⟩:=k2;exact DataW.trod_lt m _ _ _ hm
 have m0:EvArg W v0:=EvArg_open (hval 0 80 v0 rfl rfl) h0;have m1:R2Arg W v1:=R2Arg_open (hval 1 91 v1 rfl rfl) h1 (wt_head (wt_tail hwt));have m2:RRArg W v2:=RRArg_open (hval 2 30 v2 rfl rfl) h2 (wt_head (wt_tail (wt_tail hwt)));clear hA0 hval0;refine (patternSweeps_walk v0 v1 v2 W m0 m1 m2).mono fun e W' ⟨he,bel⟩=>?_;subst he;exact ⟨_,rfl,_,_,_,[],_,[],hW',trodAll_mk1 (shut_bool Tryz.underlying4 _),(trodAll_cons_mk (Below.trod patternSweeps_laidOut (by kernel_rfl) (of_decide_eq_true (by kernel_rfl)) k0 bel lt0) (trodAll_cons_mk (Below.trod patternSweeps_laidOut (by kernel_rfl) (of_decide_eq_true (by kernel_rfl)) k1 bel lt1) (trodAll_cons_mk (Below.trod patternSweeps_laidOut (by kernel_rfl) (of_decide_eq_true (by kernel_rfl)) k2 bel lt2) trodAll_mk0))),rfl,bel.frame _,fun h=>by cases h⟩
theorem patternSweeps_f0:(laidOutB Tryz.pinned.checked.prog)=true:=by kernel_rfl
theorem patternSweeps_f1:(mapsRowed Tryz.pinned.checked.prog)=true:=by kernel_rfl
theorem patternSweeps_f2:((Rows.patternSweepsRow.inPlace == Tryz.pinned.checked.prog.inPlace 10))=true:=by kernel_rfl
theorem patternSweeps_f3:((Rows.patternSweepsRow.unfollowed == Tryz.pinned.checked.prog.unfollowed 10))=true:=by kernel_rfl
theorem patternSweeps_f4:((Rows.patternSweepsRow.recurses == Tryz.pinned.checked.prog.recurses 10))=true:=by kernel_rfl
theorem patternSweeps_f5:((Rows.patternSweepsRow.named == Tryz.pinned.checked.prog.varsNamed 10))=true:=by kernel_rfl
theorem patternSweeps_facts:joinedFacts Tryz.pinned.checked.prog 10 Tryz.f10 Rows.patternSweepsSpec Rows.patternSweepsRow=true:=by
 unfold joinedFacts;rw [patternSweeps_f0,patternSweeps_f1,patternSweeps_f2,patternSweeps_f3,patternSweeps_f4,patternSweeps_f5];kernel_rfl
theorem patternSweeps_over:Rows.patternSweepsRow.holds Tryz.pinned (OpenSpec.ofChange Rows.patternSweepsSpec) :=
 OpenClaim.holds_of_wide 10 Tryz.f10 rfl rfl rfl rfl rfl rfl rfl ⟨rfl,rfl,rfl,rfl,rfl⟩ rfl rfl rfl rfl rfl (by kernel_rfl) Tryz.func10 patternSweeps_facts
  (of_decide_eq_true (by kernel_rfl)) (by unfold Func.isWrapper;first|(rw [if_pos (by decide +kernel)];kernel_rfl)|(rw [if_neg (by decide +kernel)];exact ⟨rfl,rfl⟩))
  (fun os started H enc _=>patternSweeps_lifted os started H enc)
theorem patternSweeps_w:Rows.patternSweepsRow.wfByText (OpenSpec.ofChange Rows.patternSweepsSpec)=true:=by kernel_rfl
theorem patternSweeps_m:Tryz.pinned.checked.prog.mainIs=some (Rows.patternSweepsCard.stood.harness.1,Rows.patternSweepsCard.stood.harness.2.toList):=by kernel_rfl
theorem patternSweeps_k:false=Tryz.pinned.checked.prog.looks []:=by kernel_rfl
theorem patternSweeps_g:false=Rows.patternSweepsRow.goesBy Tryz.pinned.checked.prog:=by kernel_rfl
theorem patternSweeps_n:Tryz.prog.funcNamed Rows.patternSweepsRow.func=some 10:=by kernel_rfl
theorem patternSweeps_s:([80,91,30].all fun u=>!Tryz.prog.wantsStandIn u)=true:=by kernel_rfl
theorem patternSweeps_proved:Rows.PatternSweepsCardSaid :=
 Claim7.holds_tied_plain_at .later [] [.data,.pinned] true Rows.patternSweepsCard.stood.harness false patternSweeps_over (fun _ h=>by cases h) patternSweeps_w (fun _ h=>by cases h) patternSweeps_row_tie rfl ⟨rfl,rfl⟩ patternSweeps_m rfl
  (fun f fn hf hfn=>by
   obtain rfl:f=10:=Option.some.inj (patternSweeps_n.symm.trans hf) |>.symm;obtain rfl:fn=Tryz.f10:=(Option.some.inj (Tryz.func10.symm.trans hfn)).symm
   exact ⟨patternSweeps_k,fun j t ht=>by
    rw [Tryz.params10] at ht;have hm:t∈[80,91,30]:=by simpa using Array.mem_of_getElem? ht
    have hall:=patternSweeps_s
    exact (show Tryz.prog.wantsStandIn t=false by simpa using List.all_eq_true.1 hall t hm)⟩)
  patternSweeps_g
end
end Go.Proofs.YtpgffjjpiafhpaaGreatDoor
