/- Instants of intervals. -/
import Derived.SevenTiedAt
import Derived.Lay
import Derived.MakeChecks
import Derived.LaidLaws
import Derived.Test.YtpgffjjpiafhpaaGreatDoorJ39
import Derived.Test.YtpgffjjpiafhpaaGreatDoorChecked
import Derived.Test.YtpgffjjpiafhpaaGreatDoorCards
import Derived.Test.YtpgffjjpiafhpaaGreatDoorTie
set_option linter.unusedVariables false
set_option linter.unusedSimpArgs false
set_option maxRecDepth 100000
set_option maxHeartbeats 8000000
namespace Go.Proofs.YtpgffjjpiafhpaaGreatDoor
open Go.RowKit
section
open Classical
open Go.ChangeShapes Go.WideShapes Go.ChangeAt
open Go.ChangeMaps (open_string shut_string)
theorem periodPicks_walk (v0:Value) (v1:Value) (v2:Value) (w:World) (m0:SpnArg w v0) (m1:FrArg w v1) (m2:FrArg w v2) :
  Calls Tryz.prog 4 #[v0,v1,v2] w fun e w'=>e = .returned (.bool true)∧Below w.heap.size w w' :=
 by
 obtain⟨s,rfl⟩:=m0;obtain⟨x,rfl⟩:=m1;obtain⟨y,rfl⟩:=m2;exact periodPicks_c s x y w
theorem periodPicks_own:ownKnob Tryz.prog.godebug=none:=by kernel_rfl
theorem periodPicks_laidOut:laidOutB Tryz.prog=true:=by kernel_rfl
set_option maxRecDepth 100000 in
theorem periodPicks_lifted (os:Os) (started:os.Started) (H:Type) (enc:TypeId × Value→H) :
  ReturnsInHanded {} Tryz.checked os 4 .any (fun w args=>(Rows.periodPicksSpec.pre enc Tryz.prog Tryz.f4 Rows.periodPicksRow.domain false w args∧laidMetH Tryz.prog Rows.periodPicksRow.laid w)∧sizedMet enc Tryz.prog Tryz.f4 (OpenSpec.ofChange Rows.periodPicksSpec) false w args)
   (Rows.periodPicksSpec.post enc Tryz.prog Tryz.f4 false true false false):=by
 refine returnsInHanded_of_change_and (C:=Tryz.checked) (X:=fun w _=>laidMetH Tryz.prog Rows.periodPicksRow.laid w) (fun _ _ _ hh h=>h.of_heap hh) periodPicks_own started (by kernel_rfl) Tryz.func4
  (ChangeSpec.witness_shaped (enc:=enc) (C:=Tryz.checked) (os:=os) (X:=fun w _=>laidMetH Tryz.prog Rows.periodPicksRow.laid w) false (World.laidAll Tryz.prog os Rows.periodPicksRow.laid) #[.agg #[.int .u8 0,.int .u8 0,.int .u8 0,.int .u8 0,.bool false,.int .u8 0,.int .u8 0,.int .u8 0,.int .u8 0,.bool false,.bool false,.bool false],.agg #[.int .i64 0,.int .i64 0,.int .u8 0,.int .u8 0],.agg #[.int .i64 0,.int .i64 0,.int .u8 0,.int .u8 0]] 8 (World.laidAll_os _ _ _)
   (World.shaped_of_ZipB (by kernel_rfl) (by kernel_rfl)) (by kernel_rfl) (by kernel_rfl) (by kernel_rfl)
   (by rw [MakeChecks.laidMetH_plain _ _ _ (by kernel_rfl)];exact laidMet_laidAll _ (by kernel_rfl) (by kernel_rfl))) ?_
 intro W base args ds gs before hval0 hW hcnd _ _ _;have hval:∀ (j:Nat) t v,Tryz.f4.params[j]? = some t→args[j]? = some v→Value.okWide Tryz.prog W .any base t v:=hval0;have hW':=hW;obtain⟨p,q,hA0,hV,rfl,hfz,hnd⟩:=hW;have hA:DataW.TrodAll enc Tryz.prog W 0 (fun _=>true) true Tryz.f4.params.toList args.toList ds p:=hA0;rw [Tryz.params4] at hA hval;obtain⟨v0,vs0,d0,ds0,p0,q0,hargs,rfl,rfl,h0,r0⟩:=trodAll_cons hA;obtain⟨v1,vs1,d1,ds1,p1,q1,rfl,rfl,rfl,h1,r1⟩:=trodAll_cons r0;obtain⟨v2,vs2,d2,ds2,p2,q2,rfl,rfl,rfl,h2,r2⟩:=trodAll_cons r1;obtain⟨rfl,rfl,rfl⟩:=trodAll_nil r2;obtain rfl:args = #[v0,v1,v2]:=by cases args;simp_all
 obtain⟨rfl,rfl⟩:=trodVars_none hV;have k0:=h0;have lt0:∀ x∈p0,x.block<W.heap.size:=by obtain⟨m,hm⟩:=k0;exact DataW.trod_lt m _ _ _ hm
 have k1:=h1;have lt1:∀ x∈p1,x.block<W.heap.size:=by obtain⟨m,hm⟩:=k1;exact DataW.trod_lt m _ _ _ hm
 have k2:=h2;have lt2:∀ x∈p2,x.block<W.heap.size:=by obtain⟨m,hm⟩:=k2;exact DataW.trod_lt m _ _ _ hm
 have m0:SpnArg W v0:=SpnArg_open (hval 0 40 v0 rfl rfl) h0;have m1:FrArg W v1:=FrArg_open (hval 1 42 v1 rfl rfl) h1;have m2:FrArg W v2:=FrArg_open (hval 2 42 v2 rfl rfl) h2;clear hA0 hval0;refine (periodPicks_walk v0 v1 v2 W m0 m1 m2).mono fun e W' ⟨he,bel⟩=>?_;subst he;exact ⟨_,rfl,_,_,_,[],_,[],hW',trodAll_mk1 (shut_bool Tryz.underlying4 _),(trodAll_cons_mk (Below.trod periodPicks_laidOut (by kernel_rfl) (of_decide_eq_true (by kernel_rfl)) k0 bel lt0) (trodAll_cons_mk (Below.trod periodPicks_laidOut (by kernel_rfl) (of_decide_eq_true (by kernel_rfl)) k1 bel lt1) (trodAll_cons_mk (Below.trod periodPicks_laidOut (by kernel_rfl) (of_decide_eq_true (by kernel_rfl)) k2 bel lt2) trodAll_mk0))),rfl,bel.frame _,fun h=>by cases h⟩
theorem periodPicks_f0:(laidOutB Tryz.pinned.checked.prog)=true:=by kernel_rfl
theorem periodPicks_f1:(mapsRowed Tryz.pinned.checked.prog)=true:=by kernel_rfl
theorem periodPicks_f2:((Rows.periodPicksRow.inPlace == Tryz.pinned.checked.prog.inPlace 4))=true:=by kernel_rfl
theorem periodPicks_f3:((Rows.periodPicksRow.unfollowed == Tryz.pinned.checked.prog.unfollowed 4))=true:=by kernel_rfl
theorem periodPicks_f4:((Rows.periodPicksRow.recurses == Tryz.pinned.checked.prog.recurses 4))=true:=by kernel_rfl
theorem periodPicks_f5:((Rows.periodPicksRow.named == Tryz.pinned.checked.prog.varsNamed 4))=true:=by kernel_rfl
theorem periodPicks_facts:joinedFacts Tryz.pinned.checked.prog 4 Tryz.f4 Rows.periodPicksSpec Rows.periodPicksRow=true:=by
 unfold joinedFacts;rw [periodPicks_f0,periodPicks_f1,periodPicks_f2,periodPicks_f3,periodPicks_f4,periodPicks_f5];kernel_rfl
theorem periodPicks_over:Rows.periodPicksRow.holds Tryz.pinned (OpenSpec.ofChange Rows.periodPicksSpec) :=
 OpenClaim.holds_of_wide 4 Tryz.f4 rfl rfl rfl rfl rfl rfl rfl ⟨rfl,rfl,rfl,rfl,rfl⟩ rfl rfl rfl rfl rfl (by kernel_rfl) Tryz.func4 periodPicks_facts
  (of_decide_eq_true (by kernel_rfl)) (by unfold Func.isWrapper;first|(rw [if_pos (by decide +kernel)];kernel_rfl)|(rw [if_neg (by decide +kernel)];exact ⟨rfl,rfl⟩))
  (fun os started H enc _=>periodPicks_lifted os started H enc)
theorem periodPicks_w:Rows.periodPicksRow.wfByText (OpenSpec.ofChange Rows.periodPicksSpec)=true:=by kernel_rfl
theorem periodPicks_m:Tryz.pinned.checked.prog.mainIs=some (Rows.periodPicksCard.stood.harness.1,Rows.periodPicksCard.stood.harness.2.toList):=by kernel_rfl
theorem periodPicks_k:false=Tryz.pinned.checked.prog.looks []:=by kernel_rfl
theorem periodPicks_g:false=Rows.periodPicksRow.goesBy Tryz.pinned.checked.prog:=by kernel_rfl
theorem periodPicks_n:Tryz.prog.funcNamed Rows.periodPicksRow.func=some 4:=by kernel_rfl
theorem periodPicks_s:([40,42,42].all fun u=>!Tryz.prog.wantsStandIn u)=true:=by kernel_rfl
theorem periodPicks_proved:Rows.PeriodPicksCardSaid :=
 Claim7.holds_tied_plain_at .later [] [.data,.pinned] true Rows.periodPicksCard.stood.harness false periodPicks_over (fun _ h=>by cases h) periodPicks_w (fun _ h=>by cases h) periodPicks_row_tie rfl ⟨rfl,rfl⟩ periodPicks_m rfl
  (fun f fn hf hfn=>by
   obtain rfl:f=4:=Option.some.inj (periodPicks_n.symm.trans hf) |>.symm;obtain rfl:fn=Tryz.f4:=(Option.some.inj (Tryz.func4.symm.trans hfn)).symm
   exact ⟨periodPicks_k,fun j t ht=>by
    rw [Tryz.params4] at ht;have hm:t∈[40,42,42]:=by simpa using Array.mem_of_getElem? ht
    have hall:=periodPicks_s
    exact (show Tryz.prog.wantsStandIn t=false by simpa using List.all_eq_true.1 hall t hm)⟩)
  periodPicks_g
end
end Go.Proofs.YtpgffjjpiafhpaaGreatDoor
