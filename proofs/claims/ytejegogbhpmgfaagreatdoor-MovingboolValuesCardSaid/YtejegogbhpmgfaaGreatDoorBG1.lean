/- The value at an instant. -/
import Derived.SevenTiedAt
import Derived.Lay
import Derived.MakeChecks
import Derived.LaidLaws
import Derived.Test.YtejegogbhpmgfaaGreatDoorA38
import Derived.Test.YtejegogbhpmgfaaGreatDoorTA1
import Derived.Test.YtejegogbhpmgfaaGreatDoorA13
import Derived.Test.YtejegogbhpmgfaaGreatDoorChecked
import Derived.Test.YtejegogbhpmgfaaGreatDoorCards
import Derived.Test.YtejegogbhpmgfaaGreatDoorTie
set_option linter.unusedVariables false
set_option linter.unusedSimpArgs false
set_option maxRecDepth 100000
set_option maxHeartbeats 8000000
namespace Go.Proofs.YtejegogbhpmgfaaGreatDoor
open Go.RowKit
open Classical
open Go.ChangeShapes Go.WideShapes Go.ChangeAt
open Go.ChangeMaps (open_string shut_string)
theorem movingboolValues_walk (v0:Value) (v1:Value) (w:World) (m0:MovArg w v0) (m1:InsArg w v1) :
  Calls Tryz.prog 3 #[v0,v1] w fun e w'=>e = .returned (.bool true)∧Below w.heap.size w w' :=
 (movingboolValues_c w v0 v1 m0 m1).mono fun e w' ⟨he,hk⟩=>⟨he,⟨hk.os,hk.tape,hk.output,hk.size,fun k h=>hk.block k h (by simp)⟩⟩
theorem movingboolValues_own:ownKnob Tryz.prog.godebug=none:=by kernel_rfl
theorem movingboolValues_laidOut:laidOutB Tryz.prog=true:=by kernel_rfl
set_option maxRecDepth 100000 in
theorem movingboolValues_lifted (os:Os) (started:os.Started) (H:Type) (enc:TypeId × Value→H) :
  ReturnsInHanded {} Tryz.checked os 3 .any (fun w args=>(Rows.movingboolValuesSpec.pre enc Tryz.prog Tryz.f3 Rows.movingboolValuesRow.domain false w args∧laidMetH Tryz.prog Rows.movingboolValuesRow.laid w)∧sizedMet enc Tryz.prog Tryz.f3 (OpenSpec.ofChange Rows.movingboolValuesSpec) false w args)
   (Rows.movingboolValuesSpec.post enc Tryz.prog Tryz.f3 false true false false):=by
 refine returnsInHanded_of_change_and (C:=Tryz.checked) (X:=fun w _=>laidMetH Tryz.prog Rows.movingboolValuesRow.laid w) (fun _ _ _ hh h=>h.of_heap hh) movingboolValues_own started (by kernel_rfl) Tryz.func3
  (ChangeSpec.witness_shaped (enc:=enc) (C:=Tryz.checked) (os:=os) (X:=fun w _=>laidMetH Tryz.prog Rows.movingboolValuesRow.laid w) false (World.laidAll Tryz.prog os Rows.movingboolValuesRow.laid) #[.agg #[.slice none 0 0,.slice none 0 0],.agg #[.int .u8 0,.int .u8 0,.int .u8 0,.int .u8 0,.bool false]] 8 (World.laidAll_os _ _ _)
   (World.shaped_of_ZipB (by kernel_rfl) (by kernel_rfl)) (by kernel_rfl) (by kernel_rfl) (by kernel_rfl)
   (by rw [MakeChecks.laidMetH_plain _ _ _ (by kernel_rfl)];exact laidMet_laidAll _ (by kernel_rfl) (by kernel_rfl))) ?_
 intro W base args ds gs before hval0 hW hcnd _ _ _
 have hval:∀ (j:Nat) t v,Tryz.f3.params[j]? = some t→args[j]? = some v→Value.okWide Tryz.prog W .any base t v:=hval0
 have hW':=hW
 obtain⟨p,q,hA0,hV,rfl,hfz,hnd⟩:=hW
 have hA:DataW.TrodAll enc Tryz.prog W 0 (fun _=>true) true Tryz.f3.params.toList args.toList ds p:=hA0
 rw [Tryz.params3] at hA hval
 obtain⟨v0,vs0,d0,ds0,p0,q0,hargs,rfl,rfl,h0,r0⟩:=trodAll_cons hA
 obtain⟨v1,vs1,d1,ds1,p1,q1,rfl,rfl,rfl,h1,r1⟩:=trodAll_cons r0
 obtain⟨rfl,rfl,rfl⟩:=trodAll_nil r1
 obtain rfl:args = #[v0,v1]:=by cases args;simp_all
 obtain⟨rfl,rfl⟩:=trodVars_none hV
 have k0:=h0
 have lt0:∀ x∈p0,x.block<W.heap.size:=by obtain⟨m,hm⟩:=k0;exact DataW.trod_lt m _ _ _ hm
 have k1:=h1
 have lt1:∀ x∈p1,x.block<W.heap.size:=by obtain⟨m,hm⟩:=k1;exact DataW.trod_lt m _ _ _ hm
 have m0:MovArg W v0:=MovArg_open (hval 0 24 v0 rfl rfl) h0
 have m1:InsArg W v1:=InsArg_open (hval 1 26 v1 rfl rfl) h1
 clear hA0 hval0
 refine (movingboolValues_walk v0 v1 W m0 m1).mono fun e W' ⟨he,bel⟩=>?_
 subst he
 exact ⟨_,rfl,_,_,_,[],_,[],hW',trodAll_mk1 (shut_bool Tryz.underlying4 _),(trodAll_cons_mk (Below.trod movingboolValues_laidOut (by kernel_rfl) (of_decide_eq_true (by kernel_rfl)) k0 bel lt0) (trodAll_cons_mk (Below.trod movingboolValues_laidOut (by kernel_rfl) (of_decide_eq_true (by kernel_rfl)) k1 bel lt1) trodAll_mk0)),rfl,bel.frame _,fun h=>by cases h⟩
theorem movingboolValues_f0:(laidOutB Tryz.pinned.checked.prog)=true:=by kernel_rfl
theorem movingboolValues_f1:(mapsRowed Tryz.pinned.checked.prog)=true:=by kernel_rfl
theorem movingboolValues_f2:((Rows.movingboolValuesRow.inPlace == Tryz.pinned.checked.prog.inPlace 3))=true:=by kernel_rfl
theorem movingboolValues_f3:((Rows.movingboolValuesRow.unfollowed == Tryz.pinned.checked.prog.unfollowed 3))=true:=by kernel_rfl
theorem movingboolValues_f4:((Rows.movingboolValuesRow.recurses == Tryz.pinned.checked.prog.recurses 3))=true:=by kernel_rfl
theorem movingboolValues_f5:((Rows.movingboolValuesRow.named == Tryz.pinned.checked.prog.varsNamed 3))=true:=by kernel_rfl
theorem movingboolValues_facts:joinedFacts Tryz.pinned.checked.prog 3 Tryz.f3 Rows.movingboolValuesSpec Rows.movingboolValuesRow=true:=by
 unfold joinedFacts
 rw [movingboolValues_f0,movingboolValues_f1,movingboolValues_f2,movingboolValues_f3,movingboolValues_f4,movingboolValues_f5]
 kernel_rfl
theorem movingboolValues_over:Rows.movingboolValuesRow.holds Tryz.pinned (OpenSpec.ofChange Rows.movingboolValuesSpec) :=
 OpenClaim.holds_of_wide 3 Tryz.f3 rfl rfl rfl rfl rfl rfl rfl ⟨rfl,rfl,rfl,rfl,rfl⟩ rfl rfl rfl rfl rfl (by kernel_rfl) Tryz.func3 movingboolValues_facts
  (of_decide_eq_true (by kernel_rfl)) (by unfold Func.isWrapper;first|(rw [if_pos (by decide +kernel)];kernel_rfl)|(rw [if_neg (by decide +kernel)];exact ⟨rfl,rfl⟩))
  (fun os started H enc _=>movingboolValues_lifted os started H enc)
theorem movingboolValues_w:Rows.movingboolValuesRow.wfByText (OpenSpec.ofChange Rows.movingboolValuesSpec)=true:=by kernel_rfl
theorem movingboolValues_m:Tryz.pinned.checked.prog.mainIs=some (Rows.movingboolValuesCard.stood.harness.1,Rows.movingboolValuesCard.stood.harness.2.toList):=by kernel_rfl
theorem movingboolValues_k:false=Tryz.pinned.checked.prog.looks []:=by kernel_rfl
theorem movingboolValues_g:false=Rows.movingboolValuesRow.goesBy Tryz.pinned.checked.prog:=by kernel_rfl
theorem movingboolValues_n:Tryz.prog.funcNamed Rows.movingboolValuesRow.func=some 3:=by kernel_rfl
theorem movingboolValues_s:([24,26].all fun u=>!Tryz.prog.wantsStandIn u)=true:=by kernel_rfl
theorem movingboolValues_proved:Rows.MovingboolValuesCardSaid :=
 Claim7.holds_tied_plain_at .later [] [.data,.pinned] true Rows.movingboolValuesCard.stood.harness false movingboolValues_over (fun _ h=>by cases h) movingboolValues_w (fun _ h=>by cases h) movingboolValues_row_tie rfl ⟨rfl,rfl⟩ movingboolValues_m rfl
  (fun f fn hf hfn=>by
   obtain rfl:f=3:=Option.some.inj (movingboolValues_n.symm.trans hf) |>.symm
   obtain rfl:fn=Tryz.f3:=(Option.some.inj (Tryz.func3.symm.trans hfn)).symm
   exact ⟨movingboolValues_k,fun j t ht=>by
    rw [Tryz.params3] at ht
    have hm:t∈[24,26]:=by simpa using Array.mem_of_getElem? ht
    have hall:=movingboolValues_s
    exact (show Tryz.prog.wantsStandIn t=false by simpa using List.all_eq_true.1 hall t hm)⟩)
  movingboolValues_g
end Go.Proofs.YtejegogbhpmgfaaGreatDoor
