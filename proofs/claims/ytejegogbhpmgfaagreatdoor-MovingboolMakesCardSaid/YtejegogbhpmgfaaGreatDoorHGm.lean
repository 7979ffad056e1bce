/- Making a moving Boolean out of two lists of intervals. -/
import Derived.SevenTiedAt
import Derived.Lay
import Derived.MakeChecks
import Derived.LaidLaws
import Derived.Test.YtejegogbhpmgfaaGreatDoorG42
import Derived.Test.YtejegogbhpmgfaaGreatDoorChecked
import Derived.Test.YtejegogbhpmgfaaGreatDoorCards
import Derived.Test.YtejegogbhpmgfaaGreatDoorTie
set_option linter.unusedVariables false
set_option maxRecDepth 100000
set_option maxHeartbeats 8000000
namespace Go.Proofs.YtejegogbhpmgfaaGreatDoor
open Go.RowKit
section
open Classical
open Go.ChangeShapes Go.WideShapes Go.ChangeAt
open Go.ChangeMaps (open_string shut_string)
theorem za (v0 v1 v2:Value) (w:World) (m0:RIArg w v0) (m1:RIArg w v1) (m2:SpArg w v2) :
  Calls Tryz.prog 13 #[v0,v1,v2] w fun e w'=>e = .returned (.bool true)∧Below w.heap.size w w' :=
 movingboolMakes_c w v0 v1 v2 m0 m1 m2
theorem zo:ownKnob Tryz.prog.godebug=none:=by kernel_rfl
theorem zl:laidOutB Tryz.prog=true:=by kernel_rfl
set_option maxRecDepth 100000 in
theorem zi (os:Os) (started:os.Started) (H:Type) (enc:TypeId × Value→H) :
  ReturnsInHanded {} Tryz.checked os 13 .any (fun w args=>(Rows.movingboolMakesSpec.pre enc Tryz.prog Tryz.f13 Rows.movingboolMakesRow.domain false w args∧laidMetH Tryz.prog Rows.movingboolMakesRow.laid w)∧sizedMet enc Tryz.prog Tryz.f13 (OpenSpec.ofChange Rows.movingboolMakesSpec) false w args)
   (Rows.movingboolMakesSpec.post enc Tryz.prog Tryz.f13 false true false false):=by
 refine returnsInHanded_of_change_and (C:=Tryz.checked) (X:=fun w _=>laidMetH Tryz.prog Rows.movingboolMakesRow.laid w) (fun _ _ _ hh h=>h.of_heap hh) zo started (by kernel_rfl) Tryz.func13
  (ChangeSpec.witness_shaped (enc:=enc) (C:=Tryz.checked) (os:=os) (X:=fun w _=>laidMetH Tryz.prog Rows.movingboolMakesRow.laid w) false (World.laidAll Tryz.prog os Rows.movingboolMakesRow.laid) #[.slice none 0 0,.slice none 0 0,.slice none 0 0] 8 (World.laidAll_os _ _ _)
   (World.shaped_of_ZipB (by kernel_rfl) (by kernel_rfl)) (by kernel_rfl) (by kernel_rfl) (by kernel_rfl)
   (by rw [MakeChecks.laidMetH_plain _ _ _ (by kernel_rfl)];exact laidMet_laidAll _ (by kernel_rfl) (by kernel_rfl))) ?_
 intro W base args ds gs before hval0 hW hcnd hwt _ _;have hval:∀ (j:Nat) t v,Tryz.f13.params[j]? = some t→args[j]? = some v→Value.okWide Tryz.prog W .any base t v:=hval0;have hW':=hW;obtain⟨p,q,hA0,hV,rfl,hfz,hnd⟩:=hW;have hA:DataW.TrodAll enc Tryz.prog W 0 (fun _=>true) true Tryz.f13.params.toList args.toList ds p:=hA0;rw [Tryz.params13] at hA hval hwt;obtain⟨v0,vs0,d0,ds0,p0,q0,hargs,rfl,rfl,h0,r0⟩:=trodAll_cons hA;obtain⟨v1,vs1,d1,ds1,p1,q1,rfl,rfl,rfl,h1,r1⟩:=trodAll_cons r0;obtain⟨v2,vs2,d2,ds2,p2,q2,rfl,rfl,rfl,h2,r2⟩:=trodAll_cons r1;obtain⟨rfl,rfl,rfl⟩:=trodAll_nil r2;obtain rfl:args = #[v0,v1,v2]:=by cases args;simp_all
 obtain⟨rfl,rfl⟩:=trodVars_none hV;have k0:=h0;have lt0:∀ x∈p0,x.block<W.heap.size:=by obtain⟨m,hm⟩:=k0;exact DataW.trod_lt m _ _ _ hm
 have k1:=h1;have lt1:∀ x∈p1,x.block<W.heap.size:=by obtain⟨m,hm⟩:=k1;exact DataW.trod_lt m _ _ _ hm
 have k2:=h2;have lt2:∀ x∈p2,x.block<W.heap.size:=by obtain⟨m,hm⟩:=k2;exact DataW.trod_lt m _ _ _ hm
 have m0:RIArg W v0:=RIArg_open (hval 0 27 v0 rfl rfl) h0 (wt_head hwt);have m1:RIArg W v1:=RIArg_open (hval 1 27 v1 rfl rfl) h1 (wt_head (wt_tail hwt));have m2:SpArg W v2:=SpArg_open (hval 2 22 v2 rfl rfl) h2;clear hA0 hval0;refine (za v0 v1 v2 W m0 m1 m2).mono fun e W' ⟨he,bel⟩=>?_;subst he;exact ⟨_,rfl,_,_,_,[],_,[],hW',trodAll_mk1 (shut_bool Tryz.underlying4 _),(trodAll_cons_mk (Below.trod zl (by kernel_rfl) (of_decide_eq_true (by kernel_rfl)) k0 bel lt0) (trodAll_cons_mk (Below.trod zl (by kernel_rfl) (of_decide_eq_true (by kernel_rfl)) k1 bel lt1) (trodAll_cons_mk (Below.trod zl (by kernel_rfl) (of_decide_eq_true (by kernel_rfl)) k2 bel lt2) trodAll_mk0))),rfl,bel.frame _,fun h=>by cases h⟩
theorem z0:(laidOutB Tryz.pinned.checked.prog)=true:=by kernel_rfl
theorem z1:(mapsRowed Tryz.pinned.checked.prog)=true:=by kernel_rfl
theorem z2:((Rows.movingboolMakesRow.inPlace == Tryz.pinned.checked.prog.inPlace 13))=true:=by kernel_rfl
theorem z3:((Rows.movingboolMakesRow.unfollowed == Tryz.pinned.checked.prog.unfollowed 13))=true:=by kernel_rfl
theorem z4:((Rows.movingboolMakesRow.recurses == Tryz.pinned.checked.prog.recurses 13))=true:=by kernel_rfl
theorem z5:((Rows.movingboolMakesRow.named == Tryz.pinned.checked.prog.varsNamed 13))=true:=by kernel_rfl
theorem zf:joinedFacts Tryz.pinned.checked.prog 13 Tryz.f13 Rows.movingboolMakesSpec Rows.movingboolMakesRow=true:=by
 unfold joinedFacts;rw [z0,z1,z2,z3,z4,z5];kernel_rfl
theorem zV:Rows.movingboolMakesRow.holds Tryz.pinned (OpenSpec.ofChange Rows.movingboolMakesSpec) :=
 OpenClaim.holds_of_wide 13 Tryz.f13 rfl rfl rfl rfl rfl rfl rfl ⟨rfl,rfl,rfl,rfl,rfl⟩ rfl rfl rfl rfl rfl (by kernel_rfl) Tryz.func13 zf
  (of_decide_eq_true (by kernel_rfl)) (by unfold Func.isWrapper;first|(rw [if_pos (by decide +kernel)];kernel_rfl)|(rw [if_neg (by decide +kernel)];exact ⟨rfl,rfl⟩))
  (fun os started H enc _=>zi os started H enc)
theorem zw:Rows.movingboolMakesRow.wfByText (OpenSpec.ofChange Rows.movingboolMakesSpec)=true:=by kernel_rfl
theorem zm:Tryz.pinned.checked.prog.mainIs=some (Rows.movingboolMakesCard.stood.harness.1,Rows.movingboolMakesCard.stood.harness.2.toList):=by kernel_rfl
theorem zk:false=Tryz.pinned.checked.prog.looks []:=by kernel_rfl
theorem zg:false=Rows.movingboolMakesRow.goesBy Tryz.pinned.checked.prog:=by kernel_rfl
theorem zn:Tryz.prog.funcNamed Rows.movingboolMakesRow.func=some 13:=by kernel_rfl
theorem zs:([27,27,22].all fun u=>!Tryz.prog.wantsStandIn u)=true:=by kernel_rfl
theorem movingboolMakes_proved:Rows.MovingboolMakesCardSaid :=
 Claim7.holds_tied_plain_at .later [] [.data,.pinned] true Rows.movingboolMakesCard.stood.harness false zV (fun _ h=>by cases h) zw (fun _ h=>by cases h) movingboolMakes_row_tie rfl ⟨rfl,rfl⟩ zm rfl
  (fun f fn hf hfn=>by
   obtain rfl:f=13:=Option.some.inj (zn.symm.trans hf) |>.symm;obtain rfl:fn=Tryz.f13:=(Option.some.inj (Tryz.func13.symm.trans hfn)).symm
   exact ⟨zk,fun j t ht=>by
    rw [Tryz.params13] at ht;have hm:t∈[27,27,22]:=by simpa using Array.mem_of_getElem? ht
    have hall:=zs
    exact (show Tryz.prog.wantsStandIn t=false by simpa using List.all_eq_true.1 hall t hm)⟩)
  zg
end
end Go.Proofs.YtejegogbhpmgfaaGreatDoor
