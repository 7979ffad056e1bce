/- For any pattern of 1 to 4 events and any up to 5 instants with fractions of at most 8 bytes, Holds reports whether they are an occurrence, or ErrRange. -/
import Derived.SevenTiedAt
import Derived.Lay
import Derived.MakeChecks
import Derived.LaidLaws
import Derived.Test.YtpgffjjpiafhpaaGreatDoorP23
import Derived.Test.YtpgffjjpiafhpaaGreatDoorP15
import Derived.Test.YtpgffjjpiafhpaaGreatDoorTPh
import Derived.Test.YtpgffjjpiafhpaaGreatDoorP14
import Derived.Test.YtpgffjjpiafhpaaGreatDoorP32
import Derived.Test.YtpgffjjpiafhpaaGreatDoorChecked
import Derived.Test.YtpgffjjpiafhpaaGreatDoorCards
import Derived.Test.YtpgffjjpiafhpaaGreatDoorTie
set_option linter.unusedVariables false
set_option linter.unusedSimpArgs false
set_option maxRecDepth 100000
set_option maxHeartbeats 8000000
namespace Go.Proofs.YtpgffjjpiafhpaaGreatDoor
open Go.RowKit
section
open Classical
open Go.ChangeShapes Go.WideShapes Go.ChangeAt
open Go.ChangeMaps (open_string shut_string)
theorem patternHolds_walk (v0:Value) (v1:Value) (w:World) (m0:EvsArg w v0) (m1:RLArg w v1) :
  Calls Tryz.prog 11 #[v0,v1] w fun e w'=>e = .returned (.bool true)∧Below w.heap.size w w' :=
 patternHolds_c w v0 v1 m0 m1
theorem patternHolds_own:ownKnob Tryz.prog.godebug=none:=by kernel_rfl
theorem patternHolds_laidOut:laidOutB Tryz.prog=true:=by kernel_rfl
set_option maxRecDepth 100000 in
theorem patternHolds_lifted (os:Os) (started:os.Started) (H:Type) (enc:TypeId × Value→H) :
  ReturnsInHanded {} Tryz.checked os 11 .any (fun w args=>(Rows.patternHoldsSpec.pre enc Tryz.prog Tryz.f11 Rows.patternHoldsRow.domain false w args∧laidMetH Tryz.prog Rows.patternHoldsRow.laid w)∧sizedMet enc Tryz.prog Tryz.f11 (OpenSpec.ofChange Rows.patternHoldsSpec) false w args)
   (Rows.patternHoldsSpec.post enc Tryz.prog Tryz.f11 false true false false):=by
 refine returnsInHanded_of_change_and (C:=Tryz.checked) (X:=fun w _=>laidMetH Tryz.prog Rows.patternHoldsRow.laid w) (fun _ _ _ hh h=>h.of_heap hh) patternHolds_own started (by kernel_rfl) Tryz.func11
  (ChangeSpec.witness_shaped (enc:=enc) (C:=Tryz.checked) (os:=os) (X:=fun w _=>laidMetH Tryz.prog Rows.patternHoldsRow.laid w) false (World.laidAll Tryz.prog os Rows.patternHoldsRow.laid) #[.slice none 0 0,.slice none 0 0] 8 (World.laidAll_os _ _ _)
   (World.shaped_of_ZipB (by kernel_rfl) (by kernel_rfl)) (by kernel_rfl) (by kernel_rfl) (by kernel_rfl)
   (by rw [MakeChecks.laidMetH_plain _ _ _ (by kernel_rfl)];exact laidMet_laidAll _ (by kernel_rfl) (by kernel_rfl))) ?_
 intro W base args ds gs before hval0 hW hcnd hwt _ _;have hval:∀ (j:Nat) t v,Tryz.f11.params[j]? = some t→args[j]? = some v→Value.okWide Tryz.prog W .any base t v:=hval0;have hW':=hW;obtain⟨p,q,hA0,hV,rfl,hfz,hnd⟩:=hW;have hA:DataW.TrodAll enc Tryz.prog W 0 (fun _=>true) true Tryz.f11.params.toList args.toList ds p:=hA0;rw [Tryz.params11] at hA hval hwt;obtain⟨v0,vs0,d0,ds0,p0,q0,hargs,rfl,rfl,h0,r0⟩:=trodAll_cons hA;obtain⟨v1,vs1,d1,ds1,p1,q1,rfl,rfl,rfl,h1,r1⟩:=trodAll_cons r0;obtain⟨rfl,rfl,rfl⟩:=trodAll_nil r1;obtain rfl:args = #[v0,v1]:=by cases args;simp_all
 obtain⟨rfl,rfl⟩:=trodVars_none hV;have k0:=h0;have lt0:∀ x∈p0,x.block<W.heap.size:=by obtain⟨m,hm⟩:=k0;exact DataW.trod_lt m _ _ _ hm
 have k1:=h1;have lt1:∀ x∈p1,x.block<W.heap.size:=by obtain⟨m,hm⟩:=k1;exact DataW.trod_lt m _ _ _ hm
 have m0:EvsArg W v0:=EvsArg_open (hval 0 60 v0 rfl rfl) h0;have m1:RLArg W v1:=RLArg_open (hval 1 55 v1 rfl rfl) h1 (wt_head (wt_tail hwt));clear hA0 hval0;refine (patternHolds_walk v0 v1 W m0 m1).mono fun e W' ⟨he,bel⟩=>?_;subst he;exact ⟨_,rfl,_,_,_,[],_,[],hW',trodAll_mk1 (shut_bool Tryz.underlying4 _),(trodAll_cons_mk (Below.trod patternHolds_laidOut (by kernel_rfl) (of_decide_eq_true (by kernel_rfl)) k0 bel lt0) (trodAll_cons_mk (Below.trod patternHolds_laidOut (by kernel_rfl) (of_decide_eq_true (by kernel_rfl)) k1 bel lt1) trodAll_mk0)),rfl,bel.frame _,fun h=>by cases h⟩
theorem patternHolds_f0:(laidOutB Tryz.pinned.checked.prog)=true:=by kernel_rfl
theorem patternHolds_f1:(mapsRowed Tryz.pinned.checked.prog)=true:=by kernel_rfl
theorem patternHolds_f2:((Rows.patternHoldsRow.inPlace == Tryz.pinned.checked.prog.inPlace 11))=true:=by kernel_rfl
theorem patternHolds_f3:((Rows.patternHoldsRow.unfollowed == Tryz.pinned.checked.prog.unfollowed 11))=true:=by kernel_rfl
theorem patternHolds_f4:((Rows.patternHoldsRow.recurses == Tryz.pinned.checked.prog.recurses 11))=true:=by kernel_rfl
theorem patternHolds_f5:((Rows.patternHoldsRow.named == Tryz.pinned.checked.prog.varsNamed 11))=true:=by kernel_rfl
theorem patternHolds_facts:joinedFacts Tryz.pinned.checked.prog 11 Tryz.f11 Rows.patternHoldsSpec Rows.patternHoldsRow=true:=by
 unfold joinedFacts;rw [patternHolds_f0,patternHolds_f1,patternHolds_f2,patternHolds_f3,patternHolds_f4,patternHolds_f5];kernel_rfl
theorem patternHolds_over:Rows.patternHoldsRow.holds Tryz.pinned (OpenSpec.ofChange Rows.patternHoldsSpec) :=
 OpenClaim.holds_of_wide 11 Tryz.f11 rfl rfl rfl rfl rfl rfl rfl ⟨rfl,rfl,rfl,rfl,rfl⟩ rfl rfl rfl rfl rfl (by kernel_rfl) Tryz.func11 patternHolds_facts
  (of_decide_eq_true (by kernel_rfl)) (by unfold Func.isWrapper;first|(rw [if_pos (by decide +kernel)];kernel_rfl)|(rw [if_neg (by decide +kernel)];exact ⟨rfl,rfl⟩))
  (fun os started H enc _=>patternHolds_lifted os started H enc)
theorem patternHolds_w:Rows.patternHoldsRow.wfByText (OpenSpec.ofChange Rows.patternHoldsSpec)=true:=by kernel_rfl
theorem patternHolds_m:Tryz.pinned.checked.prog.mainIs=some (Rows.patternHoldsCard.stood.harness.1,Rows.patternHoldsCard.stood.harness.2.toList):=by kernel_rfl
theorem patternHolds_k:false=Tryz.pinned.checked.prog.looks []:=by kernel_rfl
theorem patternHolds_g:false=Rows.patternHoldsRow.goesBy Tryz.pinned.checked.prog:=by kernel_rfl
theorem patternHolds_n:Tryz.prog.funcNamed Rows.patternHoldsRow.func=some 11:=by kernel_rfl
theorem patternHolds_s:([60,55].all fun u=>!Tryz.prog.wantsStandIn u)=true:=by kernel_rfl
theorem patternHolds_proved:Rows.PatternHoldsCardSaid :=
 Claim7.holds_tied_plain_at .later [] [.data,.pinned] true Rows.patternHoldsCard.stood.harness false patternHolds_over (fun _ h=>by cases h) patternHolds_w (fun _ h=>by cases h) patternHolds_row_tie rfl ⟨rfl,rfl⟩ patternHolds_m rfl
  (fun f fn hf hfn=>by
   obtain rfl:f=11:=Option.some.inj (patternHolds_n.symm.trans hf) |>.symm;obtain rfl:fn=Tryz.f11:=(Option.some.inj (Tryz.func11.symm.trans hfn)).symm
   exact ⟨patternHolds_k,fun j t ht=>by
    rw [Tryz.params11] at ht;have hm:t∈[60,55]:=by simpa using Array.mem_of_getElem? ht
    have hall:=patternHolds_s
    exact (show Tryz.prog.wantsStandIn t=false by simpa using List.all_eq_true.1 hall t hm)⟩)
  patternHolds_g
end
end Go.Proofs.YtpgffjjpiafhpaaGreatDoor
