/- Restricting and extending. -/
import Derived.SevenTiedAt
import Derived.Lay
import Derived.MakeChecks
import Derived.LaidLaws
import Derived.Test.YtejegogbhpmgfaaGreatDoorA38
import Derived.Test.YtejegogbhpmgfaaGreatDoorTA9
import Derived.Test.YtejegogbhpmgfaaGreatDoorChecked
import Derived.Test.YtejegogbhpmgfaaGreatDoorCards
import Derived.Test.YtejegogbhpmgfaaGreatDoorTie
set_option linter.unusedVariables false
set_option linter.unusedSimpArgs false
set_option maxRecDepth 100000
set_option maxHeartbeats 8000000
namespace Go.Proofs.YtejegogbhpmgfaaGreatDoor
open Go.RowKit
open Classical
open Go.ChangeShapes Go.WideShapes Go.ChangeAt
open Go.ChangeMaps (open_string shut_string)
theorem movingboolRestricts_walk (v0:Value) (v1:Value) (a2:Bool) (w:World) (m0:MovArg w v0) (m1:SpArg w v1) :
  Calls Tryz.prog 11 #[v0,v1,.bool a2] w fun e w'=>e = .returned (.bool true)∧Below w.heap.size w w' :=
 (movingboolRestricts_c w v0 v1 (.bool a2) m0 m1 ⟨a2,rfl⟩).mono fun e w' ⟨he,hk⟩=>⟨he,⟨hk.os,hk.tape,hk.output,hk.size,fun k h=>hk.block k h (by simp)⟩⟩
theorem movingboolRestricts_own:ownKnob Tryz.prog.godebug=none:=by kernel_rfl
theorem movingboolRestricts_laidOut:laidOutB Tryz.prog=true:=by kernel_rfl
set_option maxRecDepth 100000 in
theorem movingboolRestricts_lifted (os:Os) (started:os.Started) (H:Type) (enc:TypeId × Value→H) :
  ReturnsInHanded {} Tryz.checked os 11 .any (fun w args=>(Rows.movingboolRestrictsSpec.pre enc Tryz.prog Tryz.f11 Rows.movingboolRestrictsRow.domain false w args∧laidMetH Tryz.prog Rows.movingboolRestrictsRow.laid w)∧sizedMet enc Tryz.prog Tryz.f11 (OpenSpec.ofChange Rows.movingboolRestrictsSpec) false w args)
   (Rows.movingboolRestrictsSpec.post enc Tryz.prog Tryz.f11 false true false false):=by
 refine returnsInHanded_of_change_and (C:=Tryz.checked) (X:=fun w _=>laidMetH Tryz.prog Rows.movingboolRestrictsRow.laid w) (fun _ _ _ hh h=>h.of_heap hh) movingboolRestricts_own started (by kernel_rfl) Tryz.func11
  (ChangeSpec.witness_shaped (enc:=enc) (C:=Tryz.checked) (os:=os) (X:=fun w _=>laidMetH Tryz.prog Rows.movingboolRestrictsRow.laid w) false (World.laidAll Tryz.prog os Rows.movingboolRestrictsRow.laid) #[.agg #[.slice none 0 0,.slice none 0 0],.slice none 0 0,.bool false] 8 (World.laidAll_os _ _ _)
   (World.shaped_of_ZipB (by kernel_rfl) (by kernel_rfl)) (by kernel_rfl) (by kernel_rfl) (by kernel_rfl)
   (by rw [MakeChecks.laidMetH_plain _ _ _ (by kernel_rfl)];exact laidMet_laidAll _ (by kernel_rfl) (by kernel_rfl))) ?_
 intro W base args ds gs before hval0 hW hcnd _ _ _
 have hval:∀ (j:Nat) t v,Tryz.f11.params[j]? = some t→args[j]? = some v→Value.okWide Tryz.prog W .any base t v:=hval0
 have hW':=hW
 obtain⟨p,q,hA0,hV,rfl,hfz,hnd⟩:=hW
 have hA:DataW.TrodAll enc Tryz.prog W 0 (fun _=>true) true Tryz.f11.params.toList args.toList ds p:=hA0
 rw [Tryz.params11] at hA hval
 obtain⟨v0,vs0,d0,ds0,p0,q0,hargs,rfl,rfl,h0,r0⟩:=trodAll_cons hA
 obtain⟨v1,vs1,d1,ds1,p1,q1,rfl,rfl,rfl,h1,r1⟩:=trodAll_cons r0
 obtain⟨v2,vs2,d2,ds2,p2,q2,rfl,rfl,rfl,h2,r2⟩:=trodAll_cons r1
 obtain⟨rfl,rfl,rfl⟩:=trodAll_nil r2
 obtain rfl:args = #[v0,v1,v2]:=by cases args;simp_all
 obtain⟨rfl,rfl⟩:=trodVars_none hV
 have k0:=h0
 have lt0:∀ x∈p0,x.block<W.heap.size:=by obtain⟨m,hm⟩:=k0;exact DataW.trod_lt m _ _ _ hm
 have k1:=h1
 have lt1:∀ x∈p1,x.block<W.heap.size:=by obtain⟨m,hm⟩:=k1;exact DataW.trod_lt m _ _ _ hm
 have k2:=h2
 have lt2:∀ x∈p2,x.block<W.heap.size:=by obtain⟨m,hm⟩:=k2;exact DataW.trod_lt m _ _ _ hm
 have m0:MovArg W v0:=MovArg_open (hval 0 24 v0 rfl rfl) h0
 have m1:SpArg W v1:=SpArg_open (hval 1 22 v1 rfl rfl) h1
 obtain⟨a2,rfl,rfl,rfl⟩:=open_bool Tryz.underlying4 (hval 2 4 v2 rfl rfl) h2
 clear hA0 hval0
 refine (movingboolRestricts_walk v0 v1 a2 W m0 m1).mono fun e W' ⟨he,bel⟩=>?_
 subst he
 exact ⟨_,rfl,_,_,_,[],_,[],hW',trodAll_mk1 (shut_bool Tryz.underlying4 _),(trodAll_cons_mk (Below.trod movingboolRestricts_laidOut (by kernel_rfl) (of_decide_eq_true (by kernel_rfl)) k0 bel lt0) (trodAll_cons_mk (Below.trod movingboolRestricts_laidOut (by kernel_rfl) (of_decide_eq_true (by kernel_rfl)) k1 bel lt1) (trodAll_cons_mk (Below.trod movingboolRestricts_laidOut (by kernel_rfl) (of_decide_eq_true (by kernel_rfl)) k2 bel lt2) trodAll_mk0))),rfl,bel.frame _,fun h=>by cases h⟩
theorem movingboolRestricts_f0:(laidOutB Tryz.pinned.checked.prog)=true:=by kernel_rfl
theorem movingboolRestricts_f1:(mapsRowed Tryz.pinned.checked.prog)=true:=by kernel_rfl
theorem movingboolRestricts_f2:((Rows.movingboolRestrictsRow.inPlace == Tryz.pinned.checked.prog.inPlace 11))=true:=by kernel_rfl
theorem movingboolRestricts_f3:((Rows.movingboolRestrictsRow.unfollowed == Tryz.pinned.checked.prog.unfollowed 11))=true:=by kernel_rfl
theorem movingboolRestricts_f4:((Rows.movingboolRestrictsRow.recurses == Tryz.pinned.checked.prog.recurses 11))=true:=by kernel_rfl
theorem movingboolRestricts_f5:((Rows.movingboolRestrictsRow.named == Tryz.pinned.checked.prog.varsNamed 11))=true:=by kernel_rfl
theorem movingboolRestricts_facts:joinedFacts Tryz.pinned.checked.prog 11 Tryz.f11 Rows.movingboolRestrictsSpec Rows.movingboolRestrictsRow=true:=by
 unfold joinedFacts
 rw [movingboolRestricts_f0,movingboolRestricts_f1,movingboolRestricts_f2,movingboolRestricts_f3,movingboolRestricts_f4,movingboolRestricts_f5]
 kernel_rfl
theorem movingboolRestricts_over:Rows.movingboolRestrictsRow.holds Tryz.pinned (OpenSpec.ofChange Rows.movingboolRestrictsSpec) :=
 OpenClaim.holds_of_wide 11 Tryz.f11 rfl rfl rfl rfl rfl rfl rfl ⟨rfl,rfl,rfl,rfl,rfl⟩ rfl rfl rfl rfl rfl (by kernel_rfl) Tryz.func11 movingboolRestricts_facts
  (of_decide_eq_true (by kernel_rfl)) (by unfold Func.isWrapper;first|(rw [if_pos (by decide +kernel)];kernel_rfl)|(rw [if_neg (by decide +kernel)];exact ⟨rfl,rfl⟩))
  (fun os started H enc _=>movingboolRestricts_lifted os started H enc)
theorem movingboolRestricts_w:Rows.movingboolRestrictsRow.wfByText (OpenSpec.ofChange Rows.movingboolRestrictsSpec)=true:=by kernel_rfl
theorem movingboolRestricts_m:Tryz.pinned.checked.prog.mainIs=some (Rows.movingboolRestrictsCard.stood.harness.1,Rows.movingboolRestrictsCard.stood.harness.2.toList):=by kernel_rfl
theorem movingboolRestricts_k:false=Tryz.pinned.checked.prog.looks []:=by kernel_rfl
theorem movingboolRestricts_g:false=Rows.movingboolRestrictsRow.goesBy Tryz.pinned.checked.prog:=by kernel_rfl
theorem movingboolRestricts_n:Tryz.prog.funcNamed Rows.movingboolRestrictsRow.func=some 11:=by kernel_rfl
theorem movingboolRestricts_s:([24,22,4].all fun u=>!Tryz.prog.wantsStandIn u)=true:=by kernel_rfl
theorem movingboolRestricts_proved:Rows.MovingboolRestrictsCardSaid :=
 Claim7.holds_tied_plain_at .later [] [.data,.pinned] true Rows.movingboolRestrictsCard.stood.harness false movingboolRestricts_over (fun _ h=>by cases h) movingboolRestricts_w (fun _ h=>by cases h) movingboolRestricts_row_tie rfl ⟨rfl,rfl⟩ movingboolRestricts_m rfl
  (fun f fn hf hfn=>by
   obtain rfl:f=11:=Option.some.inj (movingboolRestricts_n.symm.trans hf) |>.symm
   obtain rfl:fn=Tryz.f11:=(Option.some.inj (Tryz.func11.symm.trans hfn)).symm
   exact ⟨movingboolRestricts_k,fun j t ht=>by
    rw [Tryz.params11] at ht
    have hm:t∈[24,22,4]:=by simpa using Array.mem_of_getElem? ht
    have hall:=movingboolRestricts_s
    exact (show Tryz.prog.wantsStandIn t=false by simpa using List.all_eq_true.1 hall t hm)⟩)
  movingboolRestricts_g
end Go.Proofs.YtejegogbhpmgfaaGreatDoor
