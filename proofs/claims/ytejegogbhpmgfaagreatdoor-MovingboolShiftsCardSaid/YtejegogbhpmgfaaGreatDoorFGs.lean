/- Moving in time, and back. -/
import Derived.SevenTiedAt
import Derived.Lay
import Derived.MakeChecks
import Derived.LaidLaws
import Derived.Test.YtejegogbhpmgfaaGreatDoorE42
import Derived.Test.YtejegogbhpmgfaaGreatDoorChecked
import Derived.Test.YtejegogbhpmgfaaGreatDoorCards
import Derived.Test.YtejegogbhpmgfaaGreatDoorTie
set_option linter.unusedVariables false
set_option linter.unusedSimpArgs false
set_option maxRecDepth 100000
set_option maxHeartbeats 8000000
namespace Go.Proofs.YtejegogbhpmgfaaGreatDoor
open Go.RowKit
section
open Classical
open Go.ChangeShapes Go.WideShapes Go.ChangeAt
open Go.ChangeMaps (open_string shut_string)
theorem movingboolShifts_walk (v0:Value) (v1:Value) (v2:Value) (w:World) (m0:MovArg w v0) (m1:FrArg w v1) (m2:InsArg w v2) :
  Calls Tryz.prog 14 #[v0,v1,v2] w fun e w'=>e = .returned (.bool true)∧Below w.heap.size w w' :=
 movingboolShifts_c w v0 v1 v2 m0 m1 m2
theorem movingboolShifts_own:ownKnob Tryz.prog.godebug=none:=by kernel_rfl
theorem movingboolShifts_laidOut:laidOutB Tryz.prog=true:=by kernel_rfl
set_option maxRecDepth 100000 in
theorem movingboolShifts_lifted (os:Os) (started:os.Started) (H:Type) (enc:TypeId × Value→H) :
  ReturnsInHanded {} Tryz.checked os 14 .any (fun w args=>(Rows.movingboolShiftsSpec.pre enc Tryz.prog Tryz.f14 Rows.movingboolShiftsRow.domain false w args∧laidMetH Tryz.prog Rows.movingboolShiftsRow.laid w)∧sizedMet enc Tryz.prog Tryz.f14 (OpenSpec.ofChange Rows.movingboolShiftsSpec) false w args)
   (Rows.movingboolShiftsSpec.post enc Tryz.prog Tryz.f14 false true false false):=by
 refine returnsInHanded_of_change_and (C:=Tryz.checked) (X:=fun w _=>laidMetH Tryz.prog Rows.movingboolShiftsRow.laid w) (fun _ _ _ hh h=>h.of_heap hh) movingboolShifts_own started (by kernel_rfl) Tryz.func14
  (ChangeSpec.witness_shaped (enc:=enc) (C:=Tryz.checked) (os:=os) (X:=fun w _=>laidMetH Tryz.prog Rows.movingboolShiftsRow.laid w) false (World.laidAll Tryz.prog os Rows.movingboolShiftsRow.laid) #[.agg #[.slice none 0 0,.slice none 0 0],.agg #[.int .i64 0,.int .i64 0,.int .u8 0,.int .u8 0],.agg #[.int .u8 0,.int .u8 0,.int .u8 0,.int .u8 0,.bool false]] 8 (World.laidAll_os _ _ _)
   (World.shaped_of_ZipB (by kernel_rfl) (by kernel_rfl)) (by kernel_rfl) (by kernel_rfl) (by kernel_rfl)
   (by rw [MakeChecks.laidMetH_plain _ _ _ (by kernel_rfl)];exact laidMet_laidAll _ (by kernel_rfl) (by kernel_rfl))) ?_
 intro W base args ds gs before hval0 hW hcnd _ _ _;have hval:∀ (j:Nat) t v,Tryz.f14.params[j]? = some t→args[j]? = some v→Value.okWide Tryz.prog W .any base t v:=hval0;have hW':=hW;obtain⟨p,q,hA0,hV,rfl,hfz,hnd⟩:=hW;have hA:DataW.TrodAll enc Tryz.prog W 0 (fun _=>true) true Tryz.f14.params.toList args.toList ds p:=hA0;rw [Tryz.params14] at hA hval;obtain⟨v0,vs0,d0,ds0,p0,q0,hargs,rfl,rfl,h0,r0⟩:=trodAll_cons hA;obtain⟨v1,vs1,d1,ds1,p1,q1,rfl,rfl,rfl,h1,r1⟩:=trodAll_cons r0;obtain⟨v2,vs2,d2,ds2,p2,q2,rfl,rfl,rfl,h2,r2⟩:=trodAll_cons r1;obtain⟨rfl,rfl,rfl⟩:=trodAll_nil r2;obtain rfl:args = #[v0,v1,v2]:=by cases args;simp_all
 obtain⟨rfl,rfl⟩:=trodVars_none hV;have k0:=h0;have lt0:∀ x∈p0,x.block<W.heap.size:=by obtain⟨m,hm⟩:=k0;exact DataW.trod_lt m _ _ _ hm
 have k1:=h1;have lt1:∀ x∈p1,x.block<W.heap.size:=by obtain⟨m,hm⟩:=k1;exact DataW.trod_lt m _ _ _ hm
 have k2:=h2;have lt2:∀ x∈p2,x.block<W.heap.size:=by obtain⟨m,hm⟩:=k2;exact DataW.trod_lt m _ _ _ hm
 have m0:MovArg W v0:=MovArg_open (hval 0 24 v0 rfl rfl) h0;have m1:FrArg W v1:=FrArg_open (hval 1 61 v1 rfl rfl) h1;have m2:InsArg W v2:=InsArg_open (hval 2 26 v2 rfl rfl) h2;clear hA0 hval0;refine (movingboolShifts_walk v0 v1 v2 W m0 m1 m2).mono fun e W' ⟨he,bel⟩=>?_;subst he;exact ⟨_,rfl,_,_,_,[],_,[],hW',trodAll_mk1 (shut_bool Tryz.underlying4 _),(trodAll_cons_mk (Below.trod movingboolShifts_laidOut (by kernel_rfl) (of_decide_eq_true (by kernel_rfl)) k0 bel lt0) (trodAll_cons_mk (Below.trod movingboolShifts_laidOut (by kernel_rfl) (of_decide_eq_true (by kernel_rfl)) k1 bel lt1) (trodAll_cons_mk (Below.trod movingboolShifts_laidOut (by kernel_rfl) (of_decide_eq_true (by kernel_rfl)) k2 bel lt2) trodAll_mk0))),rfl,bel.frame _,fun h=>by cases h⟩
theorem movingboolShifts_f0:(laidOutB Tryz.pinned.checked.prog)=true:=by kernel_rfl
theorem movingboolShifts_f1:(mapsRowed Tryz.pinned.checked.prog)=true:=by kernel_rfl
theorem movingboolShifts_f2:((Rows.movingboolShiftsRow.inPlace == Tryz.pinned.checked.prog.inPlace 14))=true:=by kernel_rfl
theorem movingboolShifts_f3:((Rows.movingboolShiftsRow.unfollowed == Tryz.pinned.checked.prog.unfollowed 14))=true:=by kernel_rfl
theorem movingboolShifts_f4:((Rows.movingboolShiftsRow.recurses == Tryz.pinned.checked.prog.recurses 14))=true:=by kernel_rfl
theorem movingboolShifts_f5:((Rows.movingboolShiftsRow.named == Tryz.pinned.checked.prog.varsNamed 14))=true:=by kernel_rfl
theorem movingboolShifts_facts:joinedFacts Tryz.pinned.checked.prog 14 Tryz.f14 Rows.movingboolShiftsSpec Rows.movingboolShiftsRow=true:=by
 unfold joinedFacts;rw [movingboolShifts_f0,movingboolShifts_f1,movingboolShifts_f2,movingboolShifts_f3,movingboolShifts_f4,movingboolShifts_f5];kernel_rfl
theorem movingboolShifts_over:Rows.movingboolShiftsRow.holds Tryz.pinned (OpenSpec.ofChange Rows.movingboolShiftsSpec) :=
 OpenClaim.holds_of_wide 14 Tryz.f14 rfl rfl rfl rfl rfl rfl rfl ⟨rfl,rfl,rfl,rfl,rfl⟩ rfl rfl rfl rfl rfl (by kernel_rfl) Tryz.func14 movingboolShifts_facts
  (of_decide_eq_true (by kernel_rfl)) (by unfold Func.isWrapper;first|(rw [if_pos (by decide +kernel)];kernel_rfl)|(rw [if_neg (by decide +kernel)];exact ⟨rfl,rfl⟩))
  (fun os started H enc _=>movingboolShifts_lifted os started H enc)
theorem movingboolShifts_w:Rows.movingboolShiftsRow.wfByText (OpenSpec.ofChange Rows.movingboolShiftsSpec)=true:=by kernel_rfl
theorem movingboolShifts_m:Tryz.pinned.checked.prog.mainIs=some (Rows.movingboolShiftsCard.stood.harness.1,Rows.movingboolShiftsCard.stood.harness.2.toList):=by kernel_rfl
theorem movingboolShifts_k:false=Tryz.pinned.checked.prog.looks []:=by kernel_rfl
theorem movingboolShifts_g:false=Rows.movingboolShiftsRow.goesBy Tryz.pinned.checked.prog:=by kernel_rfl
theorem movingboolShifts_n:Tryz.prog.funcNamed Rows.movingboolShiftsRow.func=some 14:=by kernel_rfl
theorem movingboolShifts_s:([24,61,26].all fun u=>!Tryz.prog.wantsStandIn u)=true:=by kernel_rfl
theorem movingboolShifts_proved:Rows.MovingboolShiftsCardSaid :=
 Claim7.holds_tied_plain_at .later [] [.data,.pinned] true Rows.movingboolShiftsCard.stood.harness false movingboolShifts_over (fun _ h=>by cases h) movingboolShifts_w (fun _ h=>by cases h) movingboolShifts_row_tie rfl ⟨rfl,rfl⟩ movingboolShifts_m rfl
  (fun f fn hf hfn=>by
   obtain rfl:f=14:=Option.some.inj (movingboolShifts_n.symm.trans hf) |>.symm;obtain rfl:fn=Tryz.f14:=(Option.some.inj (Tryz.func14.symm.trans hfn)).symm
   exact ⟨movingboolShifts_k,fun j t ht=>by
    rw [Tryz.params14] at ht;have hm:t∈[24,61,26]:=by simpa using Array.mem_of_getElem? ht
    have hall:=movingboolShifts_s
    exact (show Tryz.prog.wantsStandIn t=false by simpa using List.all_eq_true.1 hall t hm)⟩)
  movingboolShifts_g
end
end Go.Proofs.YtejegogbhpmgfaaGreatDoor
