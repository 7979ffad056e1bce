/- The first and the last instant. -/
import Derived.SevenTiedAt
import Derived.Lay
import Derived.MakeChecks
import Derived.LaidLaws
import Derived.Test.YtejegogbhpmgfaaGreatDoorA38
import Derived.Test.YtejegogbhpmgfaaGreatDoorA13
import Derived.Test.YtejegogbhpmgfaaGreatDoorTA2
import Derived.Test.YtejegogbhpmgfaaGreatDoorChecked
import Derived.Test.YtejegogbhpmgfaaGreatDoorCards
import Derived.Test.YtejegogbhpmgfaaGreatDoorTie
set_option linter.unusedVariables false
set_option linter.unusedSimpArgs false
set_option maxRecDepth 100000
set_option maxHeartbeats 8000000
namespace Go.Proofs.YtejegogbhpmgfaaGreatDoor
open Go.RowKit
open Classical
open Go.ChangeShapes Go.WideShapes Go.ChangeAt
open Go.ChangeMaps (open_string shut_string)
theorem movingboolFirsts_walk (v0:Value) (w:World) (m0:MovArg w v0) :
  Calls Tryz.prog 4 #[v0] w fun e w'=>e = .returned (.bool true)∧Below w.heap.size w w' :=
 (movingboolFirsts_c w v0 m0).mono fun e w' ⟨he,hk⟩=>⟨he,⟨hk.os,hk.tape,hk.output,hk.size,fun k h=>hk.block k h (by simp)⟩⟩
theorem movingboolFirsts_own:ownKnob Tryz.prog.godebug=none:=by kernel_rfl
theorem movingboolFirsts_laidOut:laidOutB Tryz.prog=true:=by kernel_rfl
set_option maxRecDepth 100000 in
theorem movingboolFirsts_lifted (os:Os) (started:os.Started) (H:Type) (enc:TypeId × Value→H) :
  ReturnsInHanded {} Tryz.checked os 4 .any (fun w args=>(Rows.movingboolFirstsSpec.pre enc Tryz.prog Tryz.f4 Rows.movingboolFirstsRow.domain false w args∧laidMetH Tryz.prog Rows.movingboolFirstsRow.laid w)∧sizedMet enc Tryz.prog Tryz.f4 (OpenSpec.ofChange Rows.movingboolFirstsSpec) false w args)
   (Rows.movingboolFirstsSpec.post enc Tryz.prog Tryz.f4 false true false false):=by
 refine returnsInHanded_of_change_and (C:=Tryz.checked) (X:=fun w _=>laidMetH Tryz.prog Rows.movingboolFirstsRow.laid w) (fun _ _ _ hh h=>h.of_heap hh) movingboolFirsts_own started (by kernel_rfl) Tryz.func4
  (ChangeSpec.witness_shaped (enc:=enc) (C:=Tryz.checked) (os:=os) (X:=fun w _=>laidMetH Tryz.prog Rows.movingboolFirstsRow.laid w) false (World.laidAll Tryz.prog os Rows.movingboolFirstsRow.laid) #[.agg #[.slice none 0 0,.slice none 0 0]] 8 (World.laidAll_os _ _ _)
   (World.shaped_of_ZipB (by kernel_rfl) (by kernel_rfl)) (by kernel_rfl) (by kernel_rfl) (by kernel_rfl)
   (by rw [MakeChecks.laidMetH_plain _ _ _ (by kernel_rfl)];exact laidMet_laidAll _ (by kernel_rfl) (by kernel_rfl))) ?_
 intro W base args ds gs before hval0 hW hcnd _ _ _
 have hval:∀ (j:Nat) t v,Tryz.f4.params[j]? = some t→args[j]? = some v→Value.okWide Tryz.prog W .any base t v:=hval0
 have hW':=hW
 obtain⟨p,q,hA0,hV,rfl,hfz,hnd⟩:=hW
 have hA:DataW.TrodAll enc Tryz.prog W 0 (fun _=>true) true Tryz.f4.params.toList args.toList ds p:=hA0
 rw [Tryz.params4] at hA hval
 obtain⟨v0,vs0,d0,ds0,p0,q0,hargs,rfl,rfl,h0,r0⟩:=trodAll_cons hA
 obtain⟨rfl,rfl,rfl⟩:=trodAll_nil r0
 obtain rfl:args = #[v0]:=by cases args;simp_all
 obtain⟨rfl,rfl⟩:=trodVars_none hV
 have k0:=h0
 have lt0:∀ x∈p0,x.block<W.heap.size:=by obtain⟨m,hm⟩:=k0;exact DataW.trod_lt m _ _ _ hm
 have m0:MovArg W v0:=MovArg_open (hval 0 24 v0 rfl rfl) h0
 clear hA0 hval0
 refine (movingboolFirsts_walk v0 W m0).mono fun e W' ⟨he,bel⟩=>?_
 subst he
 exact ⟨_,rfl,_,_,_,[],_,[],hW',trodAll_mk1 (shut_bool Tryz.underlying4 _),(trodAll_cons_mk (Below.trod movingboolFirsts_laidOut (by kernel_rfl) (of_decide_eq_true (by kernel_rfl)) k0 bel lt0) trodAll_mk0),rfl,bel.frame _,fun h=>by cases h⟩
theorem movingboolFirsts_f0:(laidOutB Tryz.pinned.checked.prog)=true:=by kernel_rfl
theorem movingboolFirsts_f1:(mapsRowed Tryz.pinned.checked.prog)=true:=by kernel_rfl
theorem movingboolFirsts_f2:((Rows.movingboolFirstsRow.inPlace == Tryz.pinned.checked.prog.inPlace 4))=true:=by kernel_rfl
theorem movingboolFirsts_f3:((Rows.movingboolFirstsRow.unfollowed == Tryz.pinned.checked.prog.unfollowed 4))=true:=by kernel_rfl
theorem movingboolFirsts_f4:((Rows.movingboolFirstsRow.recurses == Tryz.pinned.checked.prog.recurses 4))=true:=by kernel_rfl
theorem movingboolFirsts_f5:((Rows.movingboolFirstsRow.named == Tryz.pinned.checked.prog.varsNamed 4))=true:=by kernel_rfl
theorem movingboolFirsts_facts:joinedFacts Tryz.pinned.checked.prog 4 Tryz.f4 Rows.movingboolFirstsSpec Rows.movingboolFirstsRow=true:=by
 unfold joinedFacts
 rw [movingboolFirsts_f0,movingboolFirsts_f1,movingboolFirsts_f2,movingboolFirsts_f3,movingboolFirsts_f4,movingboolFirsts_f5]
 kernel_rfl
theorem movingboolFirsts_over:Rows.movingboolFirstsRow.holds Tryz.pinned (OpenSpec.ofChange Rows.movingboolFirstsSpec) :=
 OpenClaim.holds_of_wide 4 Tryz.f4 rfl rfl rfl rfl rfl rfl rfl ⟨rfl,rfl,rfl,rfl,rfl⟩ rfl rfl rfl rfl rfl (by kernel_rfl) Tryz.func4 movingboolFirsts_facts
  (of_decide_eq_true (by kernel_rfl)) (by unfold Func.isWrapper;first|(rw [if_pos (by decide +kernel)];kernel_rfl)|(rw [if_neg (by decide +kernel)];exact ⟨rfl,rfl⟩))
  (fun os started H enc _=>movingboolFirsts_lifted os started H enc)
theorem movingboolFirsts_w:Rows.movingboolFirstsRow.wfByText (OpenSpec.ofChange Rows.movingboolFirstsSpec)=true:=by kernel_rfl
theorem movingboolFirsts_m:Tryz.pinned.checked.prog.mainIs=some (Rows.movingboolFirstsCard.stood.harness.1,Rows.movingboolFirstsCard.stood.harness.2.toList):=by kernel_rfl
theorem movingboolFirsts_k:false=Tryz.pinned.checked.prog.looks []:=by kernel_rfl
theorem movingboolFirsts_g:false=Rows.movingboolFirstsRow.goesBy Tryz.pinned.checked.prog:=by kernel_rfl
theorem movingboolFirsts_n:Tryz.prog.funcNamed Rows.movingboolFirstsRow.func=some 4:=by kernel_rfl
theorem movingboolFirsts_s:([24].all fun u=>!Tryz.prog.wantsStandIn u)=true:=by kernel_rfl
theorem movingboolFirsts_proved:Rows.MovingboolFirstsCardSaid :=
 Claim7.holds_tied_plain_at .later [] [.data,.pinned] true Rows.movingboolFirstsCard.stood.harness false movingboolFirsts_over (fun _ h=>by cases h) movingboolFirsts_w (fun _ h=>by cases h) movingboolFirsts_row_tie rfl ⟨rfl,rfl⟩ movingboolFirsts_m rfl
  (fun f fn hf hfn=>by
   obtain rfl:f=4:=Option.some.inj (movingboolFirsts_n.symm.trans hf) |>.symm
   obtain rfl:fn=Tryz.f4:=(Option.some.inj (Tryz.func4.symm.trans hfn)).symm
   exact ⟨movingboolFirsts_k,fun j t ht=>by
    rw [Tryz.params4] at ht
    have hm:t∈[24]:=by simpa using Array.mem_of_getElem? ht
    have hall:=movingboolFirsts_s
    exact (show Tryz.prog.wantsStandIn t=false by simpa using List.all_eq_true.1 hall t hm)⟩)
  movingboolFirsts_g
end Go.Proofs.YtejegogbhpmgfaaGreatDoor
