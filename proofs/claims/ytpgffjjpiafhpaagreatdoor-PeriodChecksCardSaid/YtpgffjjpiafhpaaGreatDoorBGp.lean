/- Valid periods. -/
import Derived.SevenTiedAt
import Derived.Lay
import Derived.MakeChecks
import Derived.LaidLaws
import Derived.Test.YtpgffjjpiafhpaaGreatDoorA33
import Derived.Test.YtpgffjjpiafhpaaGreatDoorChecked
import Derived.Test.YtpgffjjpiafhpaaGreatDoorCards
import Derived.Test.YtpgffjjpiafhpaaGreatDoorTie
set_option linter.unusedVariables false
set_option linter.unusedSimpArgs false
set_option maxRecDepth 100000
set_option maxHeartbeats 8000000
namespace Go.Proofs.YtpgffjjpiafhpaaGreatDoor
open Go.RowKit
section
open Classical
open Go.ChangeShapes Go.WideShapes Go.ChangeAt
open Go.ChangeMaps (open_string shut_string)
theorem periodChecks_walk (v0 v1:Value) (w:World) (m0:RIArg w v0) (m1:RIArg w v1) :
  Calls Tryz.prog 3 #[v0,v1] w fun e w'=>e = .returned (.bool true)∧Below w.heap.size w w' :=
 periodChecks_c w v0 v1 m0 m1
theorem periodChecks_own:ownKnob Tryz.prog.godebug=none:=by kernel_rfl
theorem periodChecks_laidOut:laidOutB Tryz.prog=true:=by kernel_rfl
set_option maxRecDepth 100000 in
theorem periodChecks_lifted (os:Os) (started:os.Started) (H:Type) (enc:TypeId × Value→H) :
  ReturnsInHanded {} Tryz.checked os 3 .any (fun w args=>(Rows.periodChecksSpec.pre enc Tryz.prog Tryz.f3 Rows.periodChecksRow.domain false w args∧laidMetH Tryz.prog Rows.periodChecksRow.laid w)∧sizedMet enc Tryz.prog Tryz.f3 (OpenSpec.ofChange Rows.periodChecksSpec) false w args)
   (Rows.periodChecksSpec.post enc Tryz.prog Tryz.f3 false true false false):=by
 refine returnsInHanded_of_change_and (C:=Tryz.checked) (X:=fun w _=>laidMetH Tryz.prog Rows.periodChecksRow.laid w) (fun _ _ _ hh h=>h.of_heap hh) periodChecks_own started (by kernel_rfl) Tryz.func3
  (ChangeSpec.witness_shaped (enc:=enc) (C:=Tryz.checked) (os:=os) (X:=fun w _=>laidMetH Tryz.prog Rows.periodChecksRow.laid w) false (World.laidAll Tryz.prog os Rows.periodChecksRow.laid) #[.slice none 0 0,.slice none 0 0] 8 (World.laidAll_os _ _ _)
   (World.shaped_of_ZipB (by kernel_rfl) (by kernel_rfl)) (by kernel_rfl) (by kernel_rfl) (by kernel_rfl)
   (by rw [MakeChecks.laidMetH_plain _ _ _ (by kernel_rfl)];exact laidMet_laidAll _ (by kernel_rfl) (by kernel_rfl))) ?_
 intro W base args ds gs before hval0 hW hcnd hwt _ _
 have hval:∀ (j:Nat) t v,Tryz.f3.params[j]? = some t→args[j]? = some v→Value.okWide Tryz.prog W .any base t v:=hval0
 have hW':=hW
 obtain⟨p,q,hA0,hV,rfl,hfz,hnd⟩:=hW
 have hA:DataW.TrodAll enc Tryz.prog W 0 (fun _=>true) true Tryz.f3.params.toList args.toList ds p:=hA0
 rw [Tryz.params3] at hA hval hwt
 obtain⟨v0,vs0,d0,ds0,p0,q0,hargs,rfl,rfl,h0,r0⟩:=trodAll_cons hA
 obtain⟨v1,vs1,d1,ds1,p1,q1,rfl,rfl,rfl,h1,r1⟩:=trodAll_cons r0
 obtain⟨rfl,rfl,rfl⟩:=trodAll_nil r1
 obtain rfl:args = #[v0,v1]:=by cases args;simp_all
 obtain⟨rfl,rfl⟩:=trodVars_none hV
 have k0:=h0
 have lt0:∀ x∈p0,x.block<W.heap.size:=by obtain⟨m,hm⟩:=k0;exact DataW.trod_lt m _ _ _ hm
 have k1:=h1
 have lt1:∀ x∈p1,x.block<W.heap.size:=by obtain⟨m,hm⟩:=k1;exact DataW.trod_lt m _ _ _ hm
 have m0:RIArg W v0:=RIArg_open (hval 0 22 v0 rfl rfl) h0 (wt_head hwt)
 have m1:RIArg W v1:=RIArg_open (hval 1 22 v1 rfl rfl) h1 (wt_head (wt_tail hwt))
 clear hA0 hval0
 refine (periodChecks_walk v0 v1 W m0 m1).mono fun e W' ⟨he,bel⟩=>?_
 subst he
 exact ⟨_,rfl,_,_,_,[],_,[],hW',trodAll_mk1 (shut_bool Tryz.underlying4 _),(trodAll_cons_mk (Below.trod periodChecks_laidOut (by kernel_rfl) (of_decide_eq_true (by kernel_rfl)) k0 bel lt0) (trodAll_cons_mk (Below.trod periodChecks_laidOut (by kernel_rfl) (of_decide_eq_true (by kernel_rfl)) k1 bel lt1) trodAll_mk0)),rfl,bel.frame _,fun h=>by cases h⟩
theorem periodChecks_f0:(laidOutB Tryz.pinned.checked.prog)=true:=by kernel_rfl
theorem periodChecks_f1:(mapsRowed Tryz.pinned.checked.prog)=true:=by kernel_rfl
theorem periodChecks_f2:((Rows.periodChecksRow.inPlace == Tryz.pinned.checked.prog.inPlace 3))=true:=by kernel_rfl
theorem periodChecks_f3:((Rows.periodChecksRow.unfollowed == Tryz.pinned.checked.prog.unfollowed 3))=true:=by kernel_rfl
theorem periodChecks_f4:((Rows.periodChecksRow.recurses == Tryz.pinned.checked.prog.recurses 3))=true:=by kernel_rfl
theorem periodChecks_f5:((Rows.periodChecksRow.named == Tryz.pinned.checked.prog.varsNamed 3))=true:=by kernel_rfl
theorem periodChecks_facts:joinedFacts Tryz.pinned.checked.prog 3 Tryz.f3 Rows.periodChecksSpec Rows.periodChecksRow=true:=by
 unfold joinedFacts
 rw [periodChecks_f0,periodChecks_f1,periodChecks_f2,periodChecks_f3,periodChecks_f4,periodChecks_f5]
 kernel_rfl
theorem periodChecks_over:Rows.periodChecksRow.holds Tryz.pinned (OpenSpec.ofChange Rows.periodChecksSpec) :=
 OpenClaim.holds_of_wide 3 Tryz.f3 rfl rfl rfl rfl rfl rfl rfl ⟨rfl,rfl,rfl,rfl,rfl⟩ rfl rfl rfl rfl rfl (by kernel_rfl) Tryz.func3 periodChecks_facts
  (of_decide_eq_true (by kernel_rfl)) (by unfold Func.isWrapper;first|(rw [if_pos (by decide +kernel)];kernel_rfl)|(rw [if_neg (by decide +kernel)];exact ⟨rfl,rfl⟩))
  (fun os started H enc _=>periodChecks_lifted os started H enc)
theorem periodChecks_w:Rows.periodChecksRow.wfByText (OpenSpec.ofChange Rows.periodChecksSpec)=true:=by kernel_rfl
theorem periodChecks_m:Tryz.pinned.checked.prog.mainIs=some (Rows.periodChecksCard.stood.harness.1,Rows.periodChecksCard.stood.harness.2.toList):=by kernel_rfl
theorem periodChecks_k:false=Tryz.pinned.checked.prog.looks []:=by kernel_rfl
theorem periodChecks_g:false=Rows.periodChecksRow.goesBy Tryz.pinned.checked.prog:=by kernel_rfl
theorem periodChecks_n:Tryz.prog.funcNamed Rows.periodChecksRow.func=some 3:=by kernel_rfl
theorem periodChecks_s:([22,22].all fun u=>!Tryz.prog.wantsStandIn u)=true:=by kernel_rfl
theorem periodChecks_proved:Rows.PeriodChecksCardSaid :=
 Claim7.holds_tied_plain_at .later [] [.data,.pinned] true Rows.periodChecksCard.stood.harness false periodChecks_over (fun _ h=>by cases h) periodChecks_w (fun _ h=>by cases h) periodChecks_row_tie rfl ⟨rfl,rfl⟩ periodChecks_m rfl
  (fun f fn hf hfn=>by
   obtain rfl:f=3:=Option.some.inj (periodChecks_n.symm.trans hf) |>.symm
   obtain rfl:fn=Tryz.f3:=(Option.some.inj (Tryz.func3.symm.trans hfn)).symm
   exact ⟨periodChecks_k,fun j t ht=>by
    rw [Tryz.params3] at ht
    have hm:t∈[22,22]:=by simpa using Array.mem_of_getElem? ht
    have hall:=periodChecks_s
    exact (show Tryz.prog.wantsStandIn t=false by simpa using List.all_eq_true.1 hall t hm)⟩)
  periodChecks_g
end
end Go.Proofs.YtpgffjjpiafhpaaGreatDoor
