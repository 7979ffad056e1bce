/- For the period of an event and any length from 0 to 15 in halves, Erode returns the instants of the definition, and says whether the period covers what follows an instant. -/
import Derived.SevenTiedAt
import Derived.Lay
import Derived.MakeChecks
import Derived.LaidLaws
import Derived.Test.YtpgffjjpiafhpaaGreatDoorP23
import Derived.Test.YtpgffjjpiafhpaaGreatDoorP15
import Derived.Test.YtpgffjjpiafhpaaGreatDoorTPe
import Derived.Test.YtpgffjjpiafhpaaGreatDoorP14
import Derived.Test.YtpgffjjpiafhpaaGreatDoorP32
import Derived.Test.YtpgffjjpiafhpaaGreatDoorChecked
import Derived.Test.YtpgffjjpiafhpaaGreatDoorCards
import Derived.Test.YtpgffjjpiafhpaaGreatDoorTie
set_option linter.unusedVariables false
set_option linter.unusedSimpArgs false
set_option maxRecDepth 100000
set_option maxHeartbeats 8000000
namespace Go.Proofs.YtpgffjjpiafhpaaGreatDoor
open Go.RowKit
section
open Classical
open Go.ChangeShapes Go.WideShapes Go.ChangeAt
open Go.ChangeMaps (open_string shut_string)
theorem patternErodes_walk (v0:Value) (a1:Int) (w1:(Lit.int .u8 a1).wf=true) (v2:Value) (w:World) (m0:EvArg w v0) (m2:RRArg w v2) :
  Calls Tryz.prog 9 #[v0,.int .u8 a1,v2] w fun e w'=>e = .returned (.bool true)∧Below w.heap.size w w' :=
 patternErodes_c w v0 a1 w1 v2 m0 m2
theorem patternErodes_own:ownKnob Tryz.prog.godebug=none:=by kernel_rfl
theorem patternErodes_laidOut:laidOutB Tryz.prog=true:=by kernel_rfl
set_option maxRecDepth 100000 in
theorem patternErodes_lifted (os:Os) (started:os.Started) (H:Type) (enc:TypeId × Value→H) :
  ReturnsInHanded {} Tryz.checked os 9 .any (fun w args=>(Rows.patternErodesSpec.pre enc Tryz.prog Tryz.f9 Rows.patternErodesRow.domain false w args∧laidMetH Tryz.prog Rows.patternErodesRow.laid w)∧sizedMet enc Tryz.prog Tryz.f9 (OpenSpec.ofChange Rows.patternErodesSpec) false w args)
   (Rows.patternErodesSpec.post enc Tryz.prog Tryz.f9 false true false false):=by
 refine returnsInHanded_of_change_and (C:=Tryz.checked) (X:=fun w _=>laidMetH Tryz.prog Rows.patternErodesRow.laid w) (fun _ _ _ hh h=>h.of_heap hh) patternErodes_own started (by kernel_rfl) Tryz.func9
  (ChangeSpec.witness_shaped (enc:=enc) (C:=Tryz.checked) (os:=os) (X:=fun w _=>laidMetH Tryz.prog Rows.patternErodesRow.laid w) false (World.laidAll Tryz.prog os Rows.patternErodesRow.laid) #[.agg #[.slice none 0 0,.int .u8 0,.int .u8 0,.int .u8 0,.int .u8 0],.int .u8 0,.agg #[.bool false,.string ByteArray.empty,.bool false,.string ByteArray.empty,.bool false,.string ByteArray.empty,.bool false,.string ByteArray.empty,.bool false]] 8 (World.laidAll_os _ _ _)
   (World.shaped_of_ZipB (by kernel_rfl) (by kernel_rfl)) (by kernel_rfl) (by kernel_rfl) (by kernel_rfl)
   (by rw [MakeChecks.laidMetH_plain _ _ _ (by kernel_rfl)];exact laidMet_laidAll _ (by kernel_rfl) (by kernel_rfl))) ?_
 intro W base args ds gs before hval0 hW hcnd hwt _ _;have hval:∀ (j:Nat) t v,Tryz.f9.params[j]? = some t→args[j]? = some v→Value.okWide Tryz.prog W .any base t v:=hval0;have hW':=hW;obtain⟨p,q,hA0,hV,rfl,hfz,hnd⟩:=hW;have hA:DataW.TrodAll enc Tryz.prog W 0 (fun _=>true) true Tryz.f9.params.toList args.toList ds p:=hA0;rw [Tryz.params9] at hA hval hwt;obtain⟨v0,vs0,d0,ds0,p0,q0,hargs,rfl,rfl,h0,r0⟩:=trodAll_cons hA;obtain⟨v1,vs1,d1,ds1,p1,q1,rfl,rfl,rfl,h1,r1⟩:=trodAll_cons r0;obtain⟨v2,vs2,d2,ds2,p2,q2,rfl,rfl,rfl,h2,r2⟩:=trodAll_cons r1;obtain⟨rfl,rfl,rfl⟩:=trodAll_nil r2;obtain rfl:args = #[v0,v1,v2]:=by cases args;simp_all
 obtain⟨rfl,rfl⟩:=trodVars_none hV;have k0:=h0;have lt0:∀ x∈p0,x.block<W.heap.size:=by obtain⟨m,hm⟩:=k0;exact DataW.trod_lt m _ _ _ hm
 have k1:=h1;have lt1:∀ x∈p1,x.block<W.heap.size:=by obtain⟨m,hm⟩:=k1;exact DataW.trod_lt m _ _ _ hm
 have k2:=h2;have lt2:∀ x∈p2,x.block<W.heap.size:=by obtain⟨m,hm⟩:=k2;exact DataW.trod_lt m _ _ _ hm
 have m0:EvArg W v0:=EvArg_open (hval 0 80 v0 rfl rfl) h0;obtain⟨a1,rfl,rfl,rfl,w1⟩:=open_int Tryz.underlying5 (hval 1 5 v1 rfl rfl) h1;have m2:RRArg W v2:=RRArg_open (hval 2 30 v2 rfl rfl) h2 (wt_head (wt_tail (wt_tail hwt)));clear hA0 hval0;refine (patternErodes_walk v0 a1 w1 v2 W m0 m2).mono fun e W' ⟨he,bel⟩=>?_;subst he;exact ⟨_,rfl,_,_,_,[],_,[],hW',trodAll_mk1 (shut_bool Tryz.underlying4 _),(trodAll_cons_mk (Below.trod patternErodes_laidOut (by kernel_rfl) (of_decide_eq_true (by kernel_rfl)) k0 bel lt0) (trodAll_cons_mk (Below.trod patternErodes_laidOut (by kernel_rfl) (of_decide_eq_true (by kernel_rfl)) k1 bel lt1) (trodAll_cons_mk (Below.trod patternErodes_laidOut (by kernel_rfl) (of_decide_eq_true (by kernel_rfl)) k2 bel lt2) trodAll_mk0))),rfl,bel.frame _,fun h=>by cases h⟩
theorem patternErodes_f0:(laidOutB Tryz.pinned.checked.prog)=true:=by kernel_rfl
theorem patternErodes_f1:(mapsRowed Tryz.pinned.checked.prog)=true:=by kernel_rfl
theorem patternErodes_f2:((Rows.patternErodesRow.inPlace == Tryz.pinned.checked.prog.inPlace 9))=true:=by kernel_rfl
theorem patternErodes_f3:((Rows.patternErodesRow.unfollowed == Tryz.pinned.checked.prog.unfollowed 9))=true:=by kernel_rfl
theorem patternErodes_f4:((Rows.patternErodesRow.recurses == Tryz.pinned.checked.prog.recurses 9))=true:=by kernel_rfl
theorem patternErodes_f5:((Rows.patternErodesRow.named == Tryz.pinned.checked.prog.varsNamed 9))=true:=by kernel_rfl
theorem patternErodes_facts:joinedFacts Tryz.pinned.checked.prog 9 Tryz.f9 Rows.patternErodesSpec Rows.patternErodesRow=true:=by
 unfold joinedFacts;rw [patternErodes_f0,patternErodes_f1,patternErodes_f2,patternErodes_f3,patternErodes_f4,patternErodes_f5];kernel_rfl
theorem patternErodes_over:Rows.patternErodesRow.holds Tryz.pinned (OpenSpec.ofChange Rows.patternErodesSpec) :=
 OpenClaim.holds_of_wide 9 Tryz.f9 rfl rfl rfl rfl rfl rfl rfl ⟨rfl,rfl,rfl,rfl,rfl⟩ rfl rfl rfl rfl rfl (by kernel_rfl) Tryz.func9 patternErodes_facts
  (of_decide_eq_true (by kernel_rfl)) (by unfold Func.isWrapper;first|(rw [if_pos (by decide +kernel)];kernel_rfl)|(rw [if_neg (by decide +kernel)];exact ⟨rfl,rfl⟩))
  (fun os started H enc _=>patternErodes_lifted os started H enc)
theorem patternErodes_w:Rows.patternErodesRow.wfByText (OpenSpec.ofChange Rows.patternErodesSpec)=true:=by kernel_rfl
theorem patternErodes_m:Tryz.pinned.checked.prog.mainIs=some (Rows.patternErodesCard.stood.harness.1,Rows.patternErodesCard.stood.harness.2.toList):=by kernel_rfl
theorem patternErodes_k:false=Tryz.pinned.checked.prog.looks []:=by kernel_rfl
theorem patternErodes_g:false=Rows.patternErodesRow.goesBy Tryz.pinned.checked.prog:=by kernel_rfl
theorem patternErodes_n:Tryz.prog.funcNamed Rows.patternErodesRow.func=some 9:=by kernel_rfl
theorem patternErodes_s:([80,5,30].all fun u=>!Tryz.prog.wantsStandIn u)=true:=by kernel_rfl
theorem patternErodes_proved:Rows.PatternErodesCardSaid :=
 Claim7.holds_tied_plain_at .later [] [.data,.pinned] true Rows.patternErodesCard.stood.harness false patternErodes_over (fun _ h=>by cases h) patternErodes_w (fun _ h=>by cases h) patternErodes_row_tie rfl ⟨rfl,rfl⟩ patternErodes_m rfl
  (fun f fn hf hfn=>by
   obtain rfl:f=9:=Option.some.inj (patternErodes_n.symm.trans hf) |>.symm;obtain rfl:fn=Tryz.f9:=(Option.some.inj (Tryz.func9.symm.trans hfn)).symm
   exact ⟨patternErodes_k,fun j t ht=>by
    rw [Tryz.params9] at ht;have hm:t∈[80,5,30]:=by simpa using Array.mem_of_getElem? ht
    have hall:=patternErodes_s
    exact (show Tryz.prog.wantsStandIn t=false by simpa using List.all_eq_true.1 hall t hm)⟩)
  patternErodes_g
end
end Go.Proofs.YtpgffjjpiafhpaaGreatDoor
