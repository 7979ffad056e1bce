/- The first error of a moving Boolean of any cells. -/
import Derived.SevenTiedAt
import Derived.Lay
import Derived.MakeChecks
import Derived.LaidLaws
import Derived.Test.YtejegogbhpmgfaaGreatDoorC42
import Derived.Test.YtejegogbhpmgfaaGreatDoorChecked
import Derived.Test.YtejegogbhpmgfaaGreatDoorCards
import Derived.Test.YtejegogbhpmgfaaGreatDoorTie
set_option linter.unusedVariables false
set_option linter.unusedSimpArgs false
set_option maxRecDepth 100000
set_option maxHeartbeats 8000000
namespace Go.Proofs.YtejegogbhpmgfaaGreatDoor
open Go.RowKit
section
open Classical
open Go.ChangeShapes Go.WideShapes Go.ChangeAt
open Go.ChangeMaps (open_string shut_string)
theorem movingboolChecks_walk (v0:Value) (w:World) (m0:RBArg w v0) :
  Calls Tryz.prog 12 #[v0] w fun e w'=>e = .returned (.bool true)∧Below w.heap.size w w' :=
 movingboolChecks_c w v0 m0
theorem movingboolChecks_own:ownKnob Tryz.prog.godebug=none:=by kernel_rfl
theorem movingboolChecks_laidOut:laidOutB Tryz.prog=true:=by kernel_rfl
set_option maxRecDepth 100000 in
theorem movingboolChecks_lifted (os:Os) (started:os.Started) (H:Type) (enc:TypeId × Value→H) :
  ReturnsInHanded {} Tryz.checked os 12 .any (fun w args=>(Rows.movingboolChecksSpec.pre enc Tryz.prog Tryz.f12 Rows.movingboolChecksRow.domain false w args∧laidMetH Tryz.prog Rows.movingboolChecksRow.laid w)∧sizedMet enc Tryz.prog Tryz.f12 (OpenSpec.ofChange Rows.movingboolChecksSpec) false w args)
   (Rows.movingboolChecksSpec.post enc Tryz.prog Tryz.f12 false true false false):=by
 refine returnsInHanded_of_change_and (C:=Tryz.checked) (X:=fun w _=>laidMetH Tryz.prog Rows.movingboolChecksRow.laid w) (fun _ _ _ hh h=>h.of_heap hh) movingboolChecks_own started (by kernel_rfl) Tryz.func12
  (ChangeSpec.witness_shaped (enc:=enc) (C:=Tryz.checked) (os:=os) (X:=fun w _=>laidMetH Tryz.prog Rows.movingboolChecksRow.laid w) false (World.laidAll Tryz.prog os Rows.movingboolChecksRow.laid) #[.agg #[.slice none 0 0,.slice none 0 0]] 8 (World.laidAll_os _ _ _)
   (World.shaped_of_ZipB (by kernel_rfl) (by kernel_rfl)) (by kernel_rfl) (by kernel_rfl) (by kernel_rfl)
   (by rw [MakeChecks.laidMetH_plain _ _ _ (by kernel_rfl)];exact laidMet_laidAll _ (by kernel_rfl) (by kernel_rfl))) ?_
 intro W base args ds gs before hval0 hW hcnd hwt _ _
 have hval:∀ (j:Nat) t v,Tryz.f12.params[j]? = some t→args[j]? = some v→Value.okWide Tryz.prog W .any base t v:=hval0
 have hW':=hW
 obtain⟨p,q,hA0,hV,rfl,hfz,hnd⟩:=hW
 have hA:DataW.TrodAll enc Tryz.prog W 0 (fun _=>true) true Tryz.f12.params.toList args.toList ds p:=hA0
 rw [Tryz.params12] at hA hval hwt
 obtain⟨v0,vs0,d0,ds0,p0,q0,hargs,rfl,rfl,h0,r0⟩:=trodAll_cons hA
 obtain⟨rfl,rfl,rfl⟩:=trodAll_nil r0
 obtain rfl:args = #[v0]:=by cases args;simp_all
 obtain⟨rfl,rfl⟩:=trodVars_none hV
 have k0:=h0
 have lt0:∀ x∈p0,x.block<W.heap.size:=by obtain⟨m,hm⟩:=k0;exact DataW.trod_lt m _ _ _ hm
 have m0:RBArg W v0:=RBArg_open (hval 0 29 v0 rfl rfl) h0 (wt_head hwt)
 clear hA0 hval0
 refine (movingboolChecks_walk v0 W m0).mono fun e W' ⟨he,bel⟩=>?_
 subst he
 exact ⟨_,rfl,_,_,_,[],_,[],hW',trodAll_mk1 (shut_bool Tryz.underlying4 _),(trodAll_cons_mk (Below.trod movingboolChecks_laidOut (by kernel_rfl) (of_decide_eq_true (by kernel_rfl)) k0 bel lt0) trodAll_mk0),rfl,bel.frame _,fun h=>by cases h⟩
theorem movingboolChecks_f0:(laidOutB Tryz.pinned.checked.prog)=true:=by kernel_rfl
theorem movingboolChecks_f1:(mapsRowed Tryz.pinned.checked.prog)=true:=by kernel_rfl
theorem movingboolChecks_f2:((Rows.movingboolChecksRow.inPlace == Tryz.pinned.checked.prog.inPlace 12))=true:=by kernel_rfl
theorem movingboolChecks_f3:((Rows.movingboolChecksRow.unfollowed == Tryz.pinned.checked.prog.unfollowed 12))=true:=by kernel_rfl
theorem movingboolChecks_f4:((Rows.movingboolChecksRow.recurses == Tryz.pinned.checked.prog.recurses 12))=true:=by kernel_rfl
theorem movingboolChecks_f5:((Rows.movingboolChecksRow.named == Tryz.pinned.checked.prog.varsNamed 12))=true:=by kernel_rfl
theorem movingboolChecks_facts:joinedFacts Tryz.pinned.checked.prog 12 Tryz.f12 Rows.movingboolChecksSpec Rows.movingboolChecksRow=true:=by
 unfold joinedFacts
 rw [movingboolChecks_f0,movingboolChecks_f1,movingboolChecks_f2,movingboolChecks_f3,movingboolChecks_f4,movingboolChecks_f5]
 kernel_rfl
theorem movingboolChecks_over:Rows.movingboolChecksRow.holds Tryz.pinned (OpenSpec.ofChange Rows.movingboolChecksSpec) :=
 OpenClaim.holds_of_wide 12 Tryz.f12 rfl rfl rfl rfl rfl rfl rfl ⟨rfl,rfl,rfl,rfl,rfl⟩ rfl rfl rfl rfl rfl (by kernel_rfl) Tryz.func12 movingboolChecks_facts
  (of_decide_eq_true (by kernel_rfl)) (by unfold Func.isWrapper;first|(rw [if_pos (by decide +kernel)];kernel_rfl)|(rw [if_neg (by decide +kernel)];exact ⟨rfl,rfl⟩))
  (fun os started H enc _=>movingboolChecks_lifted os started H enc)
theorem movingboolChecks_w:Rows.movingboolChecksRow.wfByText (OpenSpec.ofChange Rows.movingboolChecksSpec)=true:=by kernel_rfl
theorem movingboolChecks_m:Tryz.pinned.checked.prog.mainIs=some (Rows.movingboolChecksCard.stood.harness.1,Rows.movingboolChecksCard.stood.harness.2.toList):=by kernel_rfl
theorem movingboolChecks_k:false=Tryz.pinned.checked.prog.looks []:=by kernel_rfl
theorem movingboolChecks_g:false=Rows.movingboolChecksRow.goesBy Tryz.pinned.checked.prog:=by kernel_rfl
theorem movingboolChecks_n:Tryz.prog.funcNamed Rows.movingboolChecksRow.func=some 12:=by kernel_rfl
theorem movingboolChecks_s:([29].all fun u=>!Tryz.prog.wantsStandIn u)=true:=by kernel_rfl
theorem movingboolChecks_proved:Rows.MovingboolChecksCardSaid :=
 Claim7.holds_tied_plain_at .later [] [.data,.pinned] true Rows.movingboolChecksCard.stood.harness false movingboolChecks_over (fun _ h=>by cases h) movingboolChecks_w (fun _ h=>by cases h) movingboolChecks_row_tie rfl ⟨rfl,rfl⟩ movingboolChecks_m rfl
  (fun f fn hf hfn=>by
   obtain rfl:f=12:=Option.some.inj (movingboolChecks_n.symm.trans hf) |>.symm
   obtain rfl:fn=Tryz.f12:=(Option.some.inj (Tryz.func12.symm.trans hfn)).symm
   exact ⟨movingboolChecks_k,fun j t ht=>by
    rw [Tryz.params12] at ht
    have hm:t∈[29]:=by simpa using Array.mem_of_getElem? ht
    have hall:=movingboolChecks_s
    exact (show Tryz.prog.wantsStandIn t=false by simpa using List.all_eq_true.1 hall t hm)⟩)
  movingboolChecks_g
end
end Go.Proofs.YtejegogbhpmgfaaGreatDoor
