/- Live instants: the law, in its frame. -/
import Derived.SevenTiedAt
import Derived.Lay
import Derived.MakeChecks
import Derived.LaidLaws
import Derived.Test.YtpgffjjpiafhpaaGreatDoorU40
import Derived.Test.YtpgffjjpiafhpaaGreatDoorChecked
import Derived.Test.YtpgffjjpiafhpaaGreatDoorCards
import Derived.Test.YtpgffjjpiafhpaaGreatDoorTie
set_option linter.unusedVariables false
set_option linter.unusedSimpArgs false
set_option maxRecDepth 100000
set_option maxHeartbeats 8000000
namespace Go.Proofs.YtpgffjjpiafhpaaGreatDoor
open Go.RowKit
section
open Classical
open Go.ChangeShapes Go.WideShapes Go.ChangeAt
open Go.ChangeMaps (open_string shut_string)
theorem yeb (v0:Value) (a1:Int) (w1:(Lit.int .u8 a1).wf=true) (v2:Value) (w:World) (m0:EvsArg w v0) (m2:RRArg w v2) :
  Calls Tryz.prog 12 #[v0,.int .u8 a1,v2] w fun e w'=>e = .returned (.bool true)∧Below w.heap.size w w' :=
 yfp w v0 a1 w1 v2 m0 m2
theorem patternLives_own:ownKnob Tryz.prog.godebug=none:=by kernel_rfl
theorem patternLives_laidOut:laidOutB Tryz.prog=true:=by kernel_rfl
set_option maxRecDepth 100000 in
theorem ydk (os:Os) (started:os.Started) (H:Type) (enc:TypeId × Value→H) :
  ReturnsInHanded {} Tryz.checked os 12 .any (fun w args=>(Rows.patternLivesSpec.pre enc Tryz.prog Tryz.f12 Rows.patternLivesRow.domain false w args∧laidMetH Tryz.prog Rows.patternLivesRow.laid w)∧sizedMet enc Tryz.prog Tryz.f12 (OpenSpec.ofChange Rows.patternLivesSpec) false w args)
   (Rows.patternLivesSpec.post enc Tryz.prog Tryz.f12 false true false false):=by
 refine returnsInHanded_of_change_and (C:=Tryz.checked) (X:=fun w _=>laidMetH Tryz.prog Rows.patternLivesRow.laid w) (fun _ _ _ hh h=>h.of_heap hh) patternLives_own started (by kernel_rfl) Tryz.func12
  (ChangeSpec.witness_shaped (enc:=enc) (C:=Tryz.checked) (os:=os) (X:=fun w _=>laidMetH Tryz.prog Rows.patternLivesRow.laid w) false (World.laidAll Tryz.prog os Rows.patternLivesRow.laid) #[.slice none 0 0,.int .u8 0,.agg #[.bool false,.string ByteArray.empty,.bool false,.string ByteArray.empty,.bool false,.string ByteArray.empty,.bool false,.string ByteArray.empty,.bool false]] 8 (World.laidAll_os _ _ _)
   (World.shaped_of_ZipB (by kernel_rfl) (by kernel_rfl)) (by kernel_rfl) (by kernel_rfl) (by kernel_rfl)
   (by rw [MakeChecks.laidMetH_plain _ _ _ (by kernel_rfl)];exact laidMet_laidAll _ (by kernel_rfl) (by kernel_rfl))) ?_
 intro W base args ds gs before hval0 hW hcnd hwt _ _;have hval:∀ (j:Nat) t v,Tryz.f12.params[j]? = some t→args[j]? = some v→Value.okWide Tryz.prog W .any base t v:=hval0;have hW':=hW;obtain⟨p,q,hA0,hV,rfl,hfz,hnd⟩:=hW;have hA:DataW.TrodAll enc Tryz.prog W 0 (fun _=>true) true Tryz.f12.params.toList args.toList ds p:=hA0;rw [Tryz.params12] at hA hval hwt;obtain⟨v0,vs0,d0,ds0,p0,q0,hargs,rfl,rfl,h0,r0⟩:=trodAll_cons hA;obtain⟨v1,vs1,d1,ds1,p1,q1,rfl,rfl,rfl,h1,r1⟩:=trodAll_cons r0;obtain⟨v2,vs2,d2,ds2,p2,q2,rfl,rfl,rfl,h2,r2⟩:=trodAll_cons r1;obtain⟨rfl,rfl,rfl⟩:=trodAll_nil r2;obtain rfl:args = #[v0,v1,v2]:=by cases args;simp_all
 obtain⟨rfl,rfl⟩:=trodVars_none hV;have k0:=h0;have lt0:∀ x∈p0,x.block<W.heap.size:=by obtain⟨m,hm⟩:=k0;exact DataW.trod_lt m _ _ _ hm
 have k1:=h1;have lt1:∀ x∈p1,x.block<W.heap.size:=by obtain⟨m,hm⟩:=k1;exact DataW.trod_lt m _ _ _ hm
 have k2:=h2;have lt2:∀ x∈p2,x.block<W.heap.size:=by obtain⟨m,hm⟩:=k2;exact DataW.trod_lt m _ _ _ hm
 have m0:EvsArg W v0:=EvsArg_open (hval 0 60 v0 rfl rfl) h0;obtain⟨a1,rfl,rfl,rfl,w1⟩:=open_int Tryz.underlying5 (hval 1 5 v1 rfl rfl) h1;have m2:RRArg W v2:=RRArg_open (hval 2 30 v2 rfl rfl) h2 (wt_head (wt_tail (wt_tail hwt)));clear hA0 hval0;refine (yeb v0 a1 w1 v2 W m0 m2).mono fun e W' ⟨he,bel⟩=>?_;subst he;exact ⟨_,rfl,_,_,_,[],_,[],hW',trodAll_mk1 (shut_bool Tryz.underlying4 _),(trodAll_cons_mk (Below.trod patternLives_laidOut (by kernel_rfl) (of_decide_eq_true (by kernel_rfl)) k0 bel lt0) (trodAll_cons_mk (Below.trod patternLives_laidOut (by kernel_rfl) (of_decide_eq_true (by kernel_rfl)) k1 bel lt1) (trodAll_cons_mk (Below.trod patternLives_laidOut (by kernel_rfl) (of_decide_eq_true (by kernel_rfl)) k2 bel lt2) trodAll_mk0))),rfl,bel.frame _,fun h=>by cases h⟩
theorem patternLives_f0:(laidOutB Tryz.pinned.checked.prog)=true:=by kernel_rfl
theorem patternLives_f1:(mapsRowed Tryz.pinned.checked.prog)=true:=by kernel_rfl
theorem patternLives_f2:((Rows.patternLivesRow.inPlace == Tryz.pinned.checked.prog.inPlace 12))=true:=by kernel_rfl
theorem patternLives_f3:((Rows.patternLivesRow.unfollowed == Tryz.pinned.checked.prog.unfollowed 12))=true:=by kernel_rfl
theorem patternLives_f4:((Rows.patternLivesRow.recurses == Tryz.pinned.checked.prog.recurses 12))=true:=by kernel_rfl
theorem patternLives_f5:((Rows.patternLivesRow.named == Tryz.pinned.checked.prog.varsNamed 12))=true:=by kernel_rfl
theorem patternLives_facts:joinedFacts Tryz.pinned.checked.prog 12 Tryz.f12 Rows.patternLivesSpec Rows.patternLivesRow=true:=by
 unfold joinedFacts;rw [patternLives_f0,patternLives_f1,patternLives_f2,patternLives_f3,patternLives_f4,patternLives_f5];kernel_rfl
theorem patternLives_over:Rows.patternLivesRow.holds Tryz.pinned (OpenSpec.ofChange Rows.patternLivesSpec) :=
 OpenClaim.holds_of_wide 12 Tryz.f12 rfl rfl rfl rfl rfl rfl rfl ⟨rfl,rfl,rfl,rfl,rfl⟩ rfl rfl rfl rfl rfl (by kernel_rfl) Tryz.func12 patternLives_facts
  (of_decide_eq_true (by kernel_rfl)) (by unfold Func.isWrapper;first|(rw [if_pos (by decide +kernel)];kernel_rfl)|(rw [if_neg (by decide +kernel)];exact ⟨rfl,rfl⟩))
  (fun os started H enc _=>ydk os started H enc)
theorem patternLives_w:Rows.patternLivesRow.wfByText (OpenSpec.ofChange Rows.patternLivesSpec)=true:=by kernel_rfl
theorem patternLives_m:Tryz.pinned.checked.prog.mainIs=some (Rows.patternLivesCard.stood.harness.1,Rows.patternLivesCard.stood.harness.2.toList):=by kernel_rfl
theorem patternLives_k:false=Tryz.pinned.checked.prog.looks []:=by kernel_rfl
theorem patternLives_g:false=Rows.patternLivesRow.goesBy Tryz.pinned.checked.prog:=by kernel_rfl
theorem patternLives_n:Tryz.prog.funcNamed Rows.patternLivesRow.func=some 12:=by kernel_rfl
theorem patternLives_s:([60,5,30].all fun u=>!Tryz.prog.wantsStandIn u)=true:=by kernel_rfl
theorem patternLives_proved:Rows.PatternLivesCardSaid :=
 Claim7.holds_tied_plain_at .later [] [.data,.pinned] true Rows.patternLivesCard.stood.harness false patternLives_over (fun _ h=>by cases h) patternLives_w (fun _ h=>by cases h) patternLives_row_tie rfl ⟨rfl,rfl⟩ patternLives_m rfl
  (fun f fn hf hfn=>by
   obtain rfl:f=12:=Option.some.inj (patternLives_n.symm.trans hf) |>.symm;obtain rfl:fn=Tryz.f12:=(Option.some.inj (Tryz.func12.symm.trans hfn)).symm
   exact ⟨patternLives_k,fun j t ht=>by
    rw [Tryz.params12] at ht;have hm:t∈[60,5,30]:=by simpa using Array.mem_of_getElem? ht
    have hall:=patternLives_s
    exact (show Tryz.prog.wantsStandIn t=false by simpa using List.all_eq_true.1 hall t hm)⟩)
  patternLives_g
end
end Go.Proofs.YtpgffjjpiafhpaaGreatDoor
