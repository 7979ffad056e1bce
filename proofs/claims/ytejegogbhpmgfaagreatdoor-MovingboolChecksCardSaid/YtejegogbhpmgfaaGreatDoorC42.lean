/- Parts of a proof about this translation: Hc. -/
import Derived.Test.YtejegogbhpmgfaaGreatDoorC37
import Derived.Test.YtejegogbhpmgfaaGreatDoorC41
set_option linter.unusedVariables false
set_option linter.unusedSimpArgs false
set_option maxRecDepth 100000
set_option maxHeartbeats 8000000
namespace Go.Proofs.YtejegogbhpmgfaaGreatDoor
open Go.RowKit
section
open Classical
theorem movingboolChecks_c (w:World) (v0:Value) (m0:RBArg w v0):Calls Tryz.prog 12 #[v0] w fun e w'=>e = .returned (.bool true)∧Below w.heap.size w w':=by
 obtain⟨dv,tv,rfl,⟨l,hr,hl9,hls⟩,⟨m,hq,hm9,hms⟩⟩:=m0
 have H1:=jX (fun u (hk:Keep [] w u)=>short12_c l hls u dv (RIR.riq (hr.later hk)) hl9)
 have H2:=jX (fun u (hk:Keep [] w u)=>short12_c m hms u tv (RIR.riq (hq.later hk)) hm9)
 have H3:=jX (fun u (hk:Keep [] w u) (h1:shortL l=true) (h2:shortL m=true)=>mcheckB_p l m (shortL_sz h1) (shortL_sz h2) (of_decide_eq_true h1).1 (of_decide_eq_true h2).1 u dv tv (hr.later hk) (hq.later hk))
 have H4:=jX (fun u (hk:Below w.heap.size w u) (h1:shortL l=true) (h2:shortL m=true)=>rcheckB_c l m (shortL_sz h1) (shortL_sz h2) (of_decide_eq_true h1).1 (of_decide_eq_true h2).1 u dv tv (hr.laterB hk) (hq.laterB hk))
 obtain⟨da,dc,rfl,_⟩:=hr.form
 obtain⟨ta,tc,rfl,_⟩:=hq.form
 clear hr hq hls hms hl9 hm9
 generalize shortL l=x at *
 generalize shortL m=y at *
 generalize chkB l m=z at *
 go_enter Tryz.func12,Tryz.ntmps12
 go_upto_region 1 with (fail)
 obtain⟨W,ga,hW,ega,Bga,hga,hgW,HkW⟩:=al1h w (.cells #[.slice da l.length dc,.slice ta m.length tc] 29)
 rw [← hW]
 try rw [ega]
 clear hW ega
 have HK:=jX HkW.out
 have pga:=cell_of Bga.out
 clear HkW
 go_wp2_with fail
 refine (known12_c _).mono ?_
 rintro e w1 ⟨rfl,hk⟩
 dsimp only
 have HK:=jX (HK.out.trans0 hk)
 have Bga:=jX (hk.heap Bga.out (by simp))
 clear hk pga
 have pga:=cell_of Bga.out
 cases x with
 | false =>
  go_wp2_with fail
  refine (H1.out _ HK.out).mono ?_
  rintro e w2 ⟨rfl,hk⟩
  dsimp only
  have HK:=jX (HK.out.trans0 hk)
  have Bga:=jX (hk.heap Bga.out (by simp))
  clear hk pga
  have pga:=cell_of Bga.out
  go_wp2_with fail
  refine (known12_c _).mono ?_
  rintro e w3 ⟨rfl,hk⟩
  dsimp only
  have HK:=jX (HK.out.trans0 hk)
  have Bga:=jX (hk.heap Bga.out (by simp))
  clear hk pga
  have pga:=cell_of Bga.out
  go_wp2_with fail
  go_ret
  exact ⟨rfl,HK.out.below0⟩
 | true =>
  cases y with
  | false =>
   go_wp2_with fail
   refine (H1.out _ HK.out).mono ?_
   rintro e w2 ⟨rfl,hk⟩
   dsimp only
   have HK:=jX (HK.out.trans0 hk)
   have Bga:=jX (hk.heap Bga.out (by simp))
   clear hk pga
   have pga:=cell_of Bga.out
   go_wp2_with fail
   refine (H2.out _ HK.out).mono ?_
   rintro e w3 ⟨rfl,hk⟩
   dsimp only
   have HK:=jX (HK.out.trans0 hk)
   have Bga:=jX (hk.heap Bga.out (by simp))
   clear hk pga
   have pga:=cell_of Bga.out
   go_wp2_with fail
   refine (known12_c _).mono ?_
   rintro e w4 ⟨rfl,hk⟩
   dsimp only
   have HK:=jX (HK.out.trans0 hk)
   have Bga:=jX (hk.heap Bga.out (by simp))
   clear hk pga
   have pga:=cell_of Bga.out
   go_wp2_with fail
   go_ret
   exact ⟨rfl,HK.out.below0⟩
  | true =>
   go_wp2_with fail
   refine (H1.out _ HK.out).mono ?_
   rintro e w2 ⟨rfl,hk⟩
   dsimp only
   have HK:=jX (HK.out.trans0 hk)
   have Bga:=jX (hk.heap Bga.out (by simp))
   clear hk pga
   have pga:=cell_of Bga.out
   go_wp2_with fail
   refine (H2.out _ HK.out).mono ?_
   rintro e w3 ⟨rfl,hk⟩
   dsimp only
   have HK:=jX (HK.out.trans0 hk)
   have Bga:=jX (hk.heap Bga.out (by simp))
   clear hk pga
   have pga:=cell_of Bga.out
   clear pga
   go_upto_region 3 with (fail)
   refine wp_region_heldT (S:=fun u=>Below w3.heap.size w3 u∧u.heap[ga]? = some (.cells #[.slice da l.length dc,.slice ta m.length tc] 29)) 5 (by kernel_rfl) (by kernel_rfl) (fun _ _ d _ _ h=>by cases d<;>exact h) ?_
   have hk0:=Keep.drew [] w3
   have hS0:=And.intro hk0.below0 (hk0.heap Bga.out (by simp))
   have HK:=jX (HK.out.trans0 hk0)
   clear hk0
   generalize World.drew w3=u at *
   refine' jV (v:=_) 0 hS0 (fun w hw=>?h0) (fun K hK=>?n0)
   case h0=>(have pga:=cell_of hw.2;go_simp;try rfl)
   go_simp
   refine hK _ ?_
   clear hK K
   refine' jV (v:=_) 2 hS0 (fun w hw=>?h2) (fun K hK=>?n2)
   case h2=>(have pga:=cell_of hw.2;go_simp;try rfl)
   go_simp
   refine hK _ ?_
   clear hK K
   refine jO 1 (fun K hK=>?_)
   refine wp_enter 55 #[.agg #[.slice da l.length dc,.slice ta m.length tc]] (by go_simp) ?_
   refine (H3.out u HK.out (by trivial) (by trivial)).mono ?_
   rintro e w4 ⟨rfl,hb⟩
   have HB:=jX (HK.out.below0.trans (Below.mono hb HK.out.size))
   have hS0:=And.intro (hS0.1.trans (Below.mono hb hS0.1.size)) ((hb.block ga (lt_of_heap hS0.2)).trans hS0.2)
   clear hb
   refine ⟨_,rfl,?_⟩
   go_simp
   refine hK _ _ hS0 ?_
   clear hK K
   refine jO 3 (fun K hK=>?_)
   refine wp_enter 56 #[.agg #[.slice da l.length dc,.slice ta m.length tc]] (by go_simp) ?_
   refine (H4.out w4 HB.out (by trivial) (by trivial)).mono ?_
   rintro e w5 ⟨rfl,hk⟩
   have HB:=jX (HB.out.trans (Below.mono hk.below0 HB.out.size))
   have hS0:=And.intro (hS0.1.trans (Below.mono hk.below0 hS0.1.size)) (hk.heap hS0.2 (by simp))
   clear hk
   refine ⟨_,rfl,?_⟩
   go_simp
   refine hK _ _ hS0 ?_
   clear hK K
   refine' jV (v:=_) 4 hS0 (fun w hw=>?h4) (fun K hK=>?n4)
   case h4=>(go_simp;try rfl)
   go_simp
   refine hK _ ?_
   clear hK K
   refine ⟨by kernel_rfl,?_⟩
   simp only [List.drop_succ_cons,List.drop_zero]
   go_wp2_with fail
   go_ret
   exact ⟨rfl,HB.out⟩
end
end Go.Proofs.YtejegogbhpmgfaaGreatDoor
