/- For any pattern of 1 to 4 events and the period of another event, Between returns the pattern with what is left, which has no occurrence that the pattern does not have. -/
import Derived.SevenTiedAt
import Derived.Lay
import Derived.MakeChecks
import Derived.LaidLaws
import Derived.Test.YtpgffjjpiafhpaaGreatDoorP23
import Derived.Test.YtpgffjjpiafhpaaGreatDoorP15
import Derived.Test.YtpgffjjpiafhpaaGreatDoorTPb
import Derived.Test.YtpgffjjpiafhpaaGreatDoorP14
import Derived.Test.YtpgffjjpiafhpaaGreatDoorP32
import Derived.Test.YtpgffjjpiafhpaaGreatDoorChecked
import Derived.Test.YtpgffjjpiafhpaaGreatDoorCards
import Derived.Test.YtpgffjjpiafhpaaGreatDoorTie
set_option linter.unusedVariables false
set_option linter.unusedSimpArgs false
set_option maxRecDepth 100000
set_option maxHeartbeats 8000000
namespace Go.Proofs.YtpgffjjpiafhpaaGreatDoor
open Go.RowKit
section
open Classical
open Go.ChangeShapes Go.WideShapes Go.ChangeAt
open Go.ChangeMaps (open_string shut_string)
theorem patternBetween_walk (v0:Value) (v1:Value) (w:World) (m0:EvsArg w v0) (m1:EvArg w v1) :
  Calls Tryz.prog 8 #[v0,v1] w fun e w'=>e = .returned (.bool true)∧Below w.heap.size w w' :=
 patternBetween_c w v0 v1 m0 m1
theorem patternBetween_own:ownKnob Tryz.prog.godebug=none:=by kernel_rfl
theorem patternBetween_laidOut:laidOutB Tryz.prog=true:=by kernel_rfl
set_option maxRecDepth 100000 in
theorem patternBetween_lifted (os:Os) (started:os.Started) (H:Type) (enc:TypeId × Value→H) :
  ReturnsInHanded {} Tryz.checked os 8 .any (fun w args=>(Rows.patternBetweenSpec.pre enc Tryz.prog Tryz.f8 Rows.patternBetweenRow.domain false w args∧laidMetH Tryz.prog Rows.patternBetweenRow.laid w)∧sizedMet enc Tryz.prog Tryz.f8 (OpenSpec.ofChange Rows.patternBetweenSpec) false w args)
   (Rows.patternBetweenSpec.post enc Tryz.prog Tryz.f8 false true false false):=by
 refine returnsInHanded_of_change_and (C:=Tryz.checked) (X:=fun w _=>laidMetH Tryz.prog Rows.patternBetweenRow.laid w) (fun _ _ _ hh h=>h.of_heap hh) patternBetween_own started (by kernel_rfl) Tryz.func8
  (ChangeSpec.witness_shaped (enc:=enc) (C:=Tryz.checked) (os:=os) (X:=fun w _=>laidMetH Tryz.prog Rows.patternBetweenRow.laid w) false (World.laidAll Tryz.prog os Rows.patternBetweenRow.laid) #[.slice none 0 0,.agg #[.slice none 0 0,.int .u8 0,.int .u8 0,.int .u8 0,.int .u8 0]] 8 (World.laidAll_os _ _ _)
   (World.shaped_of_ZipB (by kernel_rfl) (by kernel_rfl)) (by kernel_rfl) (by kernel_rfl) (by kernel_rfl)
   (by rw [MakeChecks.laidMetH_plain _ _ _ (by kernel_rfl)];exact laidMet_laidAll _ (by kernel_rfl) (by kernel_rfl))) ?_
 intro W base args ds gs before hval0 hW hcnd _ _ _;have hval:∀ (j:Nat) t v,Tryz.f8.params[j]? = some t→args[j]? = some v→Value.okWide Tryz.prog W .any base t v:=hval0;have hW':=hW;obtain⟨p,q,hA0,hV,rfl,hfz,hnd⟩:=hW;have hA:DataW.TrodAll enc Tryz.prog W 0 (fun _=>true) true Tryz.f8.params.toList args.toList ds p:=hA0;rw [Tryz.params8] at hA hval;obtain⟨v0,vs0,d0,ds0,p0,q0,hargs,rfl,rfl,h0,r0⟩:=trodAll_cons hA;obtain⟨v1,vs1,d1,ds1,p1,q1,rfl,rfl,rfl,h1,r1⟩:=trodAll_cons r0;obtain⟨rfl,rfl,rfl⟩:=trodAll_nil r1;obtain rfl:args = #[v0,v1]:=by cases args;simp_all
 obtain⟨rfl,rfl⟩:=trodVars_none hV;have k0:=h0;have lt0:∀ x∈p0,x.block<W.heap.size:=by obtain⟨m,hm⟩:=k0;exact DataW.trod_lt m _ _ _ hm
 have k1:=h1;have lt1:∀ x∈p1,x.block<W.heap.size:=by obtain⟨m,hm⟩:=k1;exact DataW.trod_lt m _ _ _ hm
 have m0:EvsArg W v0:=EvsArg_open (hval 0 60 v0 rfl rfl) h0;have m1:EvArg W v1:=EvArg_open (hval 1 80 v1 rfl rfl) h1;clear hA0 hval0;refine (patternBetween_walk v0 v1 W m0 m1).mono fun e W' ⟨he,bel⟩=>?_;subst he;exact ⟨_,rfl,_,_,_,[],_,[],hW',trodAll_mk1 (shut_bool Tryz.underlying4 _),(trodAll_cons_mk (Below.trod patternBetween_laidOut (by kernel_rfl) (of_decide_eq_true (by kernel_rfl)) k0 bel lt0) (trodAll_cons_mk (Below.trod patternBetween_laidOut (by kernel_rfl) (of_decide_eq_true (by kernel_rfl)) k1 bel lt1) trodAll_mk0)),rfl,bel.frame _,fun h=>by cases h⟩
theorem patternBetween_f0:(laidOutB Tryz.pinned.checked.prog)=true:=by kernel_rfl
theorem patternBetween_f1:(mapsRowed Tryz.pinned.checked.prog)=true:=by kernel_rfl
theorem patternBetween_f2:((Rows.patternBetweenRow.inPlace == Tryz.pinned.checked.prog.inPlace 8))=true:=by kernel_rfl
theorem patternBetween_f3:((Rows.patternBetweenRow.unfollowed == Tryz.pinned.checked.prog.unfollowed 8))=true:=by kernel_rfl
theorem patternBetween_f4:((Rows.patternBetweenRow.recurses == Tryz.pinned.checked.prog.recurses 8))=true:=by kernel_rfl
theorem patternBetween_f5:((Rows.patternBetweenRow.named == Tryz.pinned.checked.prog.varsNamed 8))=true:=by kernel_rfl
theorem patternBetween_facts:joinedFacts Tryz.pinned.checked.prog 8 Tryz.f8 Rows.patternBetweenSpec Rows.patternBetweenRow=true:=by
 unfold joinedFacts;rw [patternBetween_f0,patternBetween_f1,patternBetween_f2,patternBetween_f3,patternBetween_f4,patternBetween_f5];kernel_rfl
theorem patternBetween_over:Rows.patternBetweenRow.holds Tryz.pinned (OpenSpec.ofChange Rows.patternBetweenSpec) :=
 OpenClaim.holds_of_wide 8 Tryz.f8 rfl rfl rfl rfl rfl rfl rfl ⟨rfl,rfl,rfl,rfl,rfl⟩ rfl rfl rfl rfl rfl (by kernel_rfl) Tryz.func8 patternBetween_facts
  (of_decide_eq_true (by kernel_rfl)) (by unfold Func.isWrapper;first|(rw [if_pos (by decide +kernel)];kernel_rfl)|(rw [if_neg (by decide +kernel)];exact ⟨rfl,rfl⟩))
  (fun os started H enc _=>patternBetween_lifted os started H enc)
theorem patternBetween_w:Rows.patternBetweenRow.wfByText (OpenSpec.ofChange Rows.patternBetweenSpec)=true:=by kernel_rfl
theorem patternBetween_m:Tryz.pinned.checked.prog.mainIs=some (Rows.patternBetweenCard.stood.harness.1,Rows.patternBetweenCard.stood.harness.2.toList):=by kernel_rfl
theorem patternBetween_k:false=Tryz.pinned.checked.prog.looks []:=by kernel_rfl
theorem patternBetween_g:false=Rows.patternBetweenRow.goesBy Tryz.pinned.checked.prog:=by kernel_rfl
theorem patternBetween_n:Tryz.prog.funcNamed Rows.patternBetweenRow.func=some 8:=by kernel_rfl
theorem patternBetween_s:([60,80].all fun u=>!Tryz.prog.wantsStandIn u)=true:=by kernel_rfl
theorem patternBetween_proved:Rows.PatternBetweenCardSaid :=
 Claim7.holds_tied_plain_at .later [] [.data,.pinned] true Rows.patternBetweenCard.stood.harness false patternBetween_over (fun _ h=>by cases h) patternBetween_w (fun _ h=>by cases h) patternBetween_row_tie rfl ⟨rfl,rfl⟩ patternBetween_m rfl
  (fun f fn hf hfn=>by
   obtain rfl:f=8:=Option.some.inj (patternBetween_n.symm.trans hf) |>.symm;obtain rfl:fn=Tryz.f8:=(Option.some.inj (Tryz.func8.symm.trans hfn)).symm
   exact ⟨patternBetween_k,fun j t ht=>by
    rw [Tryz.params8] at ht;have hm:t∈[60,80]:=by simpa using Array.mem_of_getElem? ht
    have hall:=patternBetween_s
    exact (show Tryz.prog.wantsStandIn t=false by simpa using List.all_eq_true.1 hall t hm)⟩)
  patternBetween_g
end
end Go.Proofs.YtpgffjjpiafhpaaGreatDoor
