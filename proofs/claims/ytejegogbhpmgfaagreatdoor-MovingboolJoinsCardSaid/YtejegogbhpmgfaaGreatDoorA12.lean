/- Parts of a proof about this translation: Re, Rl. -/
import Derived.Test.YtejegogbhpmgfaaGreatDoorA11
import Derived.Test.YtejegogbhpmgfaaGreatDoorA01
set_option linter.unusedVariables false
set_option linter.unusedSimpArgs false
set_option maxRecDepth 100000
set_option maxHeartbeats 8000000
namespace Go.Proofs.YtejegogbhpmgfaaGreatDoor
open Go.RowKit
theorem zsgn_sgn (q:Rat):zsgn q.num=sgn q:=by
 unfold zsgn sgn
 by_cases h:q<0
 ·have h1:¬ 0≤q.num:=fun e=>absurd (Rat.num_nonneg.1 e) (by grind)
  rw [if_pos (by omega),if_pos h]
 ·have h1:0≤q.num:=Rat.num_nonneg.2 (Rat.not_lt.1 h)
  rw [if_neg (by omega),if_neg h]
  by_cases h2:q.num=0
  ·rw [if_pos h2]
   have:q=0:=Rat.num_eq_zero.1 h2
   subst this
   rfl
  ·have h3:q≠0:=fun e=>h2 (Rat.num_eq_zero.2 e)
   have h4:0<q:=by grind
   rw [if_neg h2,if_pos h4]
theorem qcmp_sgn (a b:Rat):qcmp a b=sgn (a-b):=by
 unfold qcmp sgn Lib.compareInt
 have h1:=Rat.lt_iff a b
 have h2:=Rat.lt_iff b a
 by_cases h:a<b
 ·have e1:a-b<0:=by grind
  rw [if_pos (h1.1 h),if_pos e1]
 ·have e1:¬ a-b<0:=by grind
  rw [if_neg (fun e=>h (h1.2 e)),if_neg e1]
  by_cases h':b<a
  ·have e2:0<a-b:=by grind
   rw [if_pos (h2.1 h'),if_pos e2]
  ·have e2:¬ 0<a-b:=by grind
   rw [if_neg (fun e=>h' (h2.2 e)),if_neg e2]
theorem sgn_range (q:Rat) : -1≤sgn q∧sgn q≤1:=by
 unfold sgn;split
 ·omega
 ·split<;>omega
theorem QSub_c (a b:Rat) (ha:FitQ 10000000000 a) (hb:FitQ 10000000000 b) (w:World) :
  Calls Tryz.prog 116 #[rv a,rv b] w fun e w'=>e = .returned (rv (a-b))∧Keep [] w w':=by
 have Hn:=jX (QNeg_c b)
 have Hs:=jX (QAdd_c a (-b) ha hb.neg)
 rw [← Rat.sub_eq_add_neg] at Hs
 unfold rv at *
 generalize sgB (a-b).num=nr at *
 generalize mgS (a-b).num=sr at *
 generalize dnS (a-b).den=dr at *
 generalize sgB (-b).num=nc at *
 generalize mgS (-b).num=sc at *
 generalize dnS (-b).den=dc at *
 generalize sgB (a).num=na at *
 generalize mgS (a).num=sa at *
 generalize dnS (a).den=da at *
 generalize sgB (b).num=nb at *
 generalize mgS (b).num=sb at *
 generalize dnS (b).den=db at *
 clear ha hb
 go_enter Tryz.func116,Tryz.ntmps116
 go_wp2_with fail
 obtain⟨W,ga,gb,gc,hW,ega,egb,egc,bga,bgb,bgc,hga,hgb,hgc,hgW,hkW⟩:=al3 w (.cells #[.bool na,.string sa,.bool false,.string da] 34) (.cells #[.bool nb,.string sb,.bool false,.string db] 34) (.cells #[.bool false,.string ⟨#[]⟩,.bool false,.string ⟨#[]⟩] 34)
 rw [← hW]
 try rw [egc]
 try rw [egb]
 try rw [ega]
 have Bga:=jX bga
 have Bgb:=jX bgb
 have Bgc:=jX bgc
 have HkW:=jX hkW
 clear hW hkW ega egb egc bga bgb bgc
 have kga:=kw_cells Bga.out
 have kgb:=kw_cells Bgb.out
 have Q1:Hid (∀ m:KW W,Calls Tryz.prog 118 #[.agg #[.bool nb,.string sb,.bool false,.string db]] (Wk W m) fun e w'=>e = .returned (.agg #[.bool nc,.string sc,.bool false,.string dc])∧∃ m,w'=Wk W m):=fun m=>qk m (Hn.out _)
 have Q2:Hid (∀ m:KW W,Calls Tryz.prog 120 #[.agg #[.bool na,.string sa,.bool false,.string da],.agg #[.bool nc,.string sc,.bool false,.string dc]] (Wk W m) fun e w'=>e = .returned (.agg #[.bool nr,.string sr,.bool false,.string dr])∧∃ m,w'=Wk W m):=fun m=>qk m (Hs.out _)
 clear Hn Hs
 refine wp_region_keep_tail 4 (by kernel_rfl) (by kernel_rfl) ?_
 simp only [List.take_succ_cons,List.take_zero,List.drop_succ_cons,List.drop_zero]
 repeat (first
  | go_big_quiet_skip
  | (go_big_quiet_want;go_big_quiet_op;first|go_big_quiet_on|go_big_quiet_call (first
   | (go_at_call 118;with_reducible exact (Q1).out _)|(go_at_call 120;with_reducible exact (Q2).out _))))
 refine wpQuiet_nil ?_
 rintro wz ⟨⟨_,hk_wz⟩,rfl⟩
 clear kga kgb Q1 Q2
 have B2ga:=jX (hk_wz.heap Bga.out (by simp))
 have B2gb:=jX (hk_wz.heap Bgb.out (by simp))
 have B2gc:=jX (hk_wz.heap Bgc.out (by simp))
 have HkW2:=jX (HkW.out.trans0 hk_wz)
 clear HkW hk_wz Bga Bgb Bgc
 have Bga:=B2ga
 have Bgb:=B2gb
 have Bgc:=B2gc
 have HkW:=HkW2
 clear HkW2 B2ga B2gb B2gc
 have pgc:=cell_of Bgc.out
 have fgc:=frozen_of Bgc.out
 have lgc:=lt_of_heap Bgc.out
 go_wp2_with fail
 refine bodyPost_ret (v:=.agg #[.bool nr,.string sr,.bool false,.string dr]) ?_ rfl ⟨rfl,by repeat (first|(with_reducible exact HkW.out)|(refine Keep.setPast ?_ _ _ _ (by omega))|(refine Keep.allocPast ?_ _)|(refine Keep.drewPast ?_))⟩
 rw [results_cell1 rfl];go_simp
theorem QSign_c (a:Rat) (w:World) :
  Calls Tryz.prog 85 #[rv a] w fun e w'=>e = .returned (.int .i64 (sgn a))∧Keep [] w w':=by
 have Hs:=jX (Sign_c a.num)
 rw [zsgn_sgn] at Hs
 unfold rv zv at *
 generalize sgB (a).num=na at *
 generalize mgS (a).num=sa at *
 generalize dnS (a).den=da at *
 generalize sgn a=c at *
 go_enter Tryz.func85,Tryz.ntmps85
 go_wp2_with fail
 have HkW:=jX (Keep.alloc [] w (.cells #[.bool na,.string sa,.bool false,.string da] 34))
 refine (Hs.out _).mono ?_
 rintro e w1 ⟨rfl,hk1⟩
 dsimp only
 have Hk:=jX (HkW.out.trans0 hk1)
 clear hk1 Hs
 go_wp2_with fail
 go_ret
 exact ⟨rfl,Hk.out⟩
theorem QFromInt_c (n:Int) (h1 : -9223372036854775808≤n) (h2:n≤9223372036854775807) (w:World) :
  Calls Tryz.prog 122 #[.int .i64 n] w fun e w'=>e = .returned (rv (n:Rat))∧Keep [] w w':=by
 have Hs:=jX (FromInt_c n h1 h2)
 unfold rv zv at *
 rw [show ((n:Rat)).num=n from rfl,show ((n:Rat)).den=1 from rfl,dn_one rfl]
 generalize sgB (n)=nr at *
 generalize mgS (n)=sr at *
 clear h1 h2
 go_enter Tryz.func122,Tryz.ntmps122
 go_wp2_with fail
 obtain⟨W,ga,hW,ega,bga,hga,hgW,hkW⟩:=al1 w (.cells #[.bool false,.string ⟨#[]⟩,.bool false,.string ⟨#[]⟩] 34)
 rw [← hW]
 try rw [ega]
 have Bga:=jX bga
 have HkW:=jX hkW
 clear hW hkW ega bga
 refine (Hs.out _).mono ?_
 rintro e wz ⟨rfl,hk_wz⟩
 dsimp only
 clear Hs
 have B2ga:=jX (hk_wz.heap Bga.out (by simp))
 have HkW2:=jX (HkW.out.trans0 hk_wz)
 clear HkW hk_wz Bga
 have Bga:=B2ga
 have HkW:=HkW2
 clear HkW2 B2ga
 have pga:=cell_of Bga.out
 have fga:=frozen_of Bga.out
 have lga:=lt_of_heap Bga.out
 go_wp2_with fail
 refine bodyPost_ret (v:=.agg #[.bool nr,.string sr,.bool false,.string ⟨#[]⟩]) ?_ rfl ⟨rfl,by repeat (first|(with_reducible exact HkW.out)|(refine Keep.setPast ?_ _ _ _ (by omega))|(refine Keep.allocPast ?_ _)|(refine Keep.drewPast ?_))⟩
 rw [results_cell1 rfl];go_simp
theorem QCompare_c (a b:Rat) (ha:FitQ 10000000000 a) (hb:FitQ 10000000000 b) (w:World) :
  Calls Tryz.prog 158 #[rv a,rv b] w fun e w'=>e = .returned (.int .i64 (sgn (a-b)))∧Keep [] w w':=by
 have hgd:=eqQ_g
 have heq:=eqQ_run a b
 by_cases hab:a=b
 ·rw [show decide (a=b)=true by simpa using hab] at heq
  have e0:sgn (a-b)=0:=by rw [hab,Rat.sub_self];rfl
  rw [e0]
  unfold rv at *
  generalize sgB (a).num=na at *
  generalize mgS (a).num=sa at *
  generalize dnS (a).den=da at *
  generalize sgB (b).num=nb at *
  generalize mgS (b).num=sb at *
  generalize dnS (b).den=db at *
  clear hab e0 ha hb
  go_enter Tryz.func158,Tryz.ntmps158
  go_wp2_with fail
  go_ret
  exact ⟨rfl,(Keep.alloc [] _ _).allocPast _⟩
 ·rw [show decide (a=b)=false by simpa using hab] at heq
  have Hc:=jX (cross_c a b ha hb)
  have hcm:=Compare_c (crX a b) (crY a b)
  rw [cr_cmp] at hcm
  have e0:=qcmp_sgn a b
  unfold qcmp at e0
  rw [e0] at hcm
  have Hm:=jX hcm
  unfold rv zv at *
  generalize sgn (a-b)=c at *
  generalize crX a b=x at *
  generalize crY a b=y at *
  generalize crD a b=d at *
  generalize sgB (x)=nx at *
  generalize mgS (x)=sx at *
  generalize sgB (y)=ny at *
  generalize mgS (y)=sy at *
  generalize sgB (d)=nd at *
  generalize mgS (d)=sd at *
  generalize sgB (a).num=na at *
  generalize mgS (a).num=sa at *
  generalize dnS (a).den=da at *
  generalize sgB (b).num=nb at *
  generalize mgS (b).num=sb at *
  generalize dnS (b).den=db at *
  clear hab e0 ha hb hcm
  go_enter Tryz.func158,Tryz.ntmps158
  go_wp2_with fail
  obtain⟨W,ga,gb,hW,ega,egb,bga,bgb,hga,hgb,hgW,hkW⟩:=al2 w (.cells #[.bool na,.string sa,.bool false,.string da] 34) (.cells #[.bool nb,.string sb,.bool false,.string db] 34)
  rw [← hW]
  try rw [egb]
  try rw [ega]
  have Bga:=jX bga
  have Bgb:=jX bgb
  have HkW:=jX hkW
  clear hW hkW ega egb bga bgb
  refine (Hc.out W).mono ?_
  rintro e w1 ⟨rfl,hk1⟩
  dsimp only
  clear Hc
  have B2ga:=jX (hk1.heap Bga.out (by simp))
  have B2gb:=jX (hk1.heap Bgb.out (by simp))
  have HkW2:=jX (HkW.out.trans0 hk1)
  clear HkW hk1 Bga Bgb
  have Bga:=B2ga
  have Bgb:=B2gb
  have HkW:=HkW2
  clear HkW2 B2ga B2gb
  go_wp2_with fail
  refine (Hm.out _).mono ?_
  rintro e w2 ⟨rfl,hk2⟩
  dsimp only
  clear Hm
  have Hk:=jX ((((HkW.out.allocPast _).allocPast _).allocPast _).trans0 hk2)
  clear hk2
  go_wp2_with fail
  go_ret
  exact ⟨rfl,Hk.out⟩
theorem sign_low (na nb nr:Bool) (sa sb sr da db dr:ByteArray) (ma mb mr n:Int) (hn:mb*mr=n) (hm : -1≤ma∧ma≤1) (hn1 : -1≤n∧n≤1) (hc:n=0∨ma=n∨ma=0)
  (Ha:Hid (∀ w,Calls Tryz.prog 85 #[.agg #[.bool na,.string sa,.bool false,.string da]] w fun e w'=>e = .returned (.int .i64 ma)∧Keep [] w w'))
  (Hb:Hid (∀ w,Calls Tryz.prog 85 #[.agg #[.bool nb,.string sb,.bool false,.string db]] w fun e w'=>e = .returned (.int .i64 mb)∧Keep [] w w'))
  (Hr:Hid (∀ w,Calls Tryz.prog 85 #[.agg #[.bool nr,.string sr,.bool false,.string dr]] w fun e w'=>e = .returned (.int .i64 mr)∧Keep [] w w')) (w:World) :
  Calls Tryz.prog 119 #[.agg #[.bool na,.string sa,.bool false,.string da],.agg #[.bool nb,.string sb,.bool false,.string db],.agg #[.bool nr,.string sr,.bool false,.string dr]] w fun e w'=>e = .returned (.int .i64 (if n=0∨ma=n then ma else n))∧Keep [] w w':=by
 have hw:IntKind.i64.wrap n=n:=by simp [IntKind.wrap,IntKind.bits,IntKind.signed];omega
 by_cases h0:n=0
 ·rw [if_pos (.inl h0)]
  have t0:(n == 0)=true:=by simpa using h0
  clear hc
  go_enter Tryz.func119,Tryz.ntmps119
  go_wp2_with fail
  obtain⟨W,ga,gb,gc,hW,ega,egb,egc,bga,bgb,bgc,hga,hgb,hgc,hgW,hkW⟩:=al3 w (.cells #[.bool na,.string sa,.bool false,.string da] 34) (.cells #[.bool nb,.string sb,.bool false,.string db] 34) (.cells #[.bool nr,.string sr,.bool false,.string dr] 34)
  rw [← hW]
  try rw [egc]
  try rw [egb]
  try rw [ega]
  have Bga:=jX bga
  have Bgb:=jX bgb
  have Bgc:=jX bgc
  have HkW:=jX hkW
  clear hW hkW ega egb egc bga bgb bgc
  have kga:=kw_cells Bga.out
  have kgb:=kw_cells Bgb.out
  have kgc:=kw_cells Bgc.out
  have Q1:Hid (∀ m:KW W,Calls Tryz.prog 85 #[.agg #[.bool na,.string sa,.bool false,.string da]] (Wk W m) fun e w'=>e = .returned (.int .i64 ma)∧∃ m,w'=Wk W m):=fun m=>qk m (Ha.out _)
  have Q2:Hid (∀ m:KW W,Calls Tryz.prog 85 #[.agg #[.bool nb,.string sb,.bool false,.string db]] (Wk W m) fun e w'=>e = .returned (.int .i64 mb)∧∃ m,w'=Wk W m):=fun m=>qk m (Hb.out _)
  have Q3:Hid (∀ m:KW W,Calls Tryz.prog 85 #[.agg #[.bool nr,.string sr,.bool false,.string dr]] (Wk W m) fun e w'=>e = .returned (.int .i64 mr)∧∃ m,w'=Wk W m):=fun m=>qk m (Hr.out _)
  clear Ha Hb Hr
  refine wp_region_keep (by kernel_rfl) (by kernel_rfl) ?_
  repeat (first
   | go_big_quiet_skip
   | (go_big_quiet_want;go_big_quiet_op;first|go_big_quiet_on|go_big_quiet_call (first
    | (go_at_call 85;with_reducible exact (Q1).out _)|(go_at_call 85;with_reducible exact (Q2).out _)|(go_at_call 85;with_reducible exact (Q3).out _))))
  refine wpQuiet_nil ?_
  rintro w1 ⟨⟨_,hk_w1⟩,rfl⟩
  clear Q1 Q2 Q3 kga kgb kgc
  have Hk:=jX (HkW.out.trans0 hk_w1)
  clear hk_w1
  go_wp2_with fail
  go_ret
  exact ⟨rfl,Hk.out⟩
 ·have t0:(n == 0)=false:=by simpa using h0
  by_cases h1:ma=n
  ·rw [if_pos (.inr h1)]
   have t1:(ma == n)=true:=by simpa using h1
   have H1:=jX h1
   clear hc h1
   go_enter Tryz.func119,Tryz.ntmps119
   go_wp2_with fail
   obtain⟨W,ga,gb,gc,hW,ega,egb,egc,bga,bgb,bgc,hga,hgb,hgc,hgW,hkW⟩:=al3 w (.cells #[.bool na,.string sa,.bool false,.string da] 34) (.cells #[.bool nb,.string sb,.bool false,.string db] 34) (.cells #[.bool nr,.string sr,.bool false,.string dr] 34)
   rw [← hW]
   try rw [egc]
   try rw [egb]
   try rw [ega]
   have Bga:=jX bga
   have Bgb:=jX bgb
   have Bgc:=jX bgc
   have HkW:=jX hkW
   clear hW hkW ega egb egc bga bgb bgc
   have kga:=kw_cells Bga.out
   have kgb:=kw_cells Bgb.out
   have kgc:=kw_cells Bgc.out
   have Q1:Hid (∀ m:KW W,Calls Tryz.prog 85 #[.agg #[.bool na,.string sa,.bool false,.string da]] (Wk W m) fun e w'=>e = .returned (.int .i64 ma)∧∃ m,w'=Wk W m):=fun m=>qk m (Ha.out _)
   have Q2:Hid (∀ m:KW W,Calls Tryz.prog 85 #[.agg #[.bool nb,.string sb,.bool false,.string db]] (Wk W m) fun e w'=>e = .returned (.int .i64 mb)∧∃ m,w'=Wk W m):=fun m=>qk m (Hb.out _)
   have Q3:Hid (∀ m:KW W,Calls Tryz.prog 85 #[.agg #[.bool nr,.string sr,.bool false,.string dr]] (Wk W m) fun e w'=>e = .returned (.int .i64 mr)∧∃ m,w'=Wk W m):=fun m=>qk m (Hr.out _)
   clear Ha Hb Hr
   refine wp_region_keep (by kernel_rfl) (by kernel_rfl) ?_
   repeat (first
    | go_big_quiet_skip
    | (go_big_quiet_want;go_big_quiet_op;first|go_big_quiet_on|go_big_quiet_call (first
     | (go_at_call 85;with_reducible exact (Q1).out _)|(go_at_call 85;with_reducible exact (Q2).out _)|(go_at_call 85;with_reducible exact (Q3).out _))))
   refine wpQuiet_nil ?_
   rintro w1 ⟨⟨_,hk_w1⟩,rfl⟩
   clear Q1 Q2 Q3 kga kgb kgc
   have Hk:=jX (HkW.out.trans0 hk_w1)
   clear hk_w1
   go_wp2_with fail
   go_ret
   exact ⟨rfl,Hk.out⟩
  ·have h2:ma=0:=by rcases hc with h|h|h<;>simp_all
   rw [if_neg (by rintro (h|h)<;>simp_all)]
   have t1:(ma == n)=false:=by simpa using h1
   have t2:(ma == 0)=true:=by simpa using h2
   clear hc h1 h0 h2
   go_enter Tryz.func119,Tryz.ntmps119
   go_wp2_with fail
   obtain⟨W,ga,gb,gc,hW,ega,egb,egc,bga,bgb,bgc,hga,hgb,hgc,hgW,hkW⟩:=al3 w (.cells #[.bool na,.string sa,.bool false,.string da] 34) (.cells #[.bool nb,.string sb,.bool false,.string db] 34) (.cells #[.bool nr,.string sr,.bool false,.string dr] 34)
   rw [← hW]
   try rw [egc]
   try rw [egb]
   try rw [ega]
   have Bga:=jX bga
   have Bgb:=jX bgb
   have Bgc:=jX bgc
   have HkW:=jX hkW
   clear hW hkW ega egb egc bga bgb bgc
   have kga:=kw_cells Bga.out
   have kgb:=kw_cells Bgb.out
   have kgc:=kw_cells Bgc.out
   have Q1:Hid (∀ m:KW W,Calls Tryz.prog 85 #[.agg #[.bool na,.string sa,.bool false,.string da]] (Wk W m) fun e w'=>e = .returned (.int .i64 ma)∧∃ m,w'=Wk W m):=fun m=>qk m (Ha.out _)
   have Q2:Hid (∀ m:KW W,Calls Tryz.prog 85 #[.agg #[.bool nb,.string sb,.bool false,.string db]] (Wk W m) fun e w'=>e = .returned (.int .i64 mb)∧∃ m,w'=Wk W m):=fun m=>qk m (Hb.out _)
   have Q3:Hid (∀ m:KW W,Calls Tryz.prog 85 #[.agg #[.bool nr,.string sr,.bool false,.string dr]] (Wk W m) fun e w'=>e = .returned (.int .i64 mr)∧∃ m,w'=Wk W m):=fun m=>qk m (Hr.out _)
   clear Ha Hb Hr
   refine wp_region_keep (by kernel_rfl) (by kernel_rfl) ?_
   repeat (first
    | go_big_quiet_skip
    | (go_big_quiet_want;go_big_quiet_op;first|go_big_quiet_on|go_big_quiet_call (first
     | (go_at_call 85;with_reducible exact (Q1).out _)|(go_at_call 85;with_reducible exact (Q2).out _)|(go_at_call 85;with_reducible exact (Q3).out _))))
   refine wpQuiet_nil ?_
   rintro w1 ⟨⟨_,hk_w1⟩,rfl⟩
   clear Q1 Q2 Q3 kga kgb kgc
   have Hk:=jX (HkW.out.trans0 hk_w1)
   clear hk_w1
   go_wp2_with fail
   go_ret
   exact ⟨rfl,Hk.out⟩
theorem sign_high (na nb nr n1 n2 n3:Bool) (sa sb sr da db dr s1 s2 s3 d1 d2 d3:ByteArray) (ma mb mr n c k:Int) (hn:mb*mr=n) (hm : -1≤ma∧ma≤1) (hn1 : -1≤n∧n≤1) (h0:n≠0) (h1:ma≠n) (h2:ma≠0) (hk:ma*c=k) (hk1 : -1≤k∧k≤1)
  (Ha:Hid (∀ w,Calls Tryz.prog 85 #[.agg #[.bool na,.string sa,.bool false,.string da]] w fun e w'=>e = .returned (.int .i64 ma)∧Keep [] w w'))
  (Hb:Hid (∀ w,Calls Tryz.prog 85 #[.agg #[.bool nb,.string sb,.bool false,.string db]] w fun e w'=>e = .returned (.int .i64 mb)∧Keep [] w w'))
  (Hr:Hid (∀ w,Calls Tryz.prog 85 #[.agg #[.bool nr,.string sr,.bool false,.string dr]] w fun e w'=>e = .returned (.int .i64 mr)∧Keep [] w w'))
  (Hm1:Hid (∀ w,Calls Tryz.prog 121 #[.agg #[.bool na,.string sa,.bool false,.string da],.agg #[.bool na,.string sa,.bool false,.string da]] w fun e w'=>e = .returned (.agg #[.bool n1,.string s1,.bool false,.string d1])∧Keep [] w w'))
  (Hm2:Hid (∀ w,Calls Tryz.prog 121 #[.agg #[.bool nb,.string sb,.bool false,.string db],.agg #[.bool nb,.string sb,.bool false,.string db]] w fun e w'=>e = .returned (.agg #[.bool n2,.string s2,.bool false,.string d2])∧Keep [] w w'))
  (Hm3:Hid (∀ w,Calls Tryz.prog 121 #[.agg #[.bool n2,.string s2,.bool false,.string d2],.agg #[.bool nr,.string sr,.bool false,.string dr]] w fun e w'=>e = .returned (.agg #[.bool n3,.string s3,.bool false,.string d3])∧Keep [] w w'))
  (Hcm:Hid (∀ w,Calls Tryz.prog 158 #[.agg #[.bool n1,.string s1,.bool false,.string d1],.agg #[.bool n3,.string s3,.bool false,.string d3]] w fun e w'=>e = .returned (.int .i64 c)∧Keep [] w w')) (w:World) :
  Calls Tryz.prog 119 #[.agg #[.bool na,.string sa,.bool false,.string da],.agg #[.bool nb,.string sb,.bool false,.string db],.agg #[.bool nr,.string sr,.bool false,.string dr]] w fun e w'=>e = .returned (.int .i64 k)∧Keep [] w w':=by
 have hw:IntKind.i64.wrap n=n:=by simp [IntKind.wrap,IntKind.bits,IntKind.signed];omega
 have hw2:IntKind.i64.wrap k=k:=by simp [IntKind.wrap,IntKind.bits,IntKind.signed];omega
 have t0:(n == 0)=false:=by simpa using h0
 have t1:(ma == n)=false:=by simpa using h1
 have t2:(ma == 0)=false:=by simpa using h2
 clear h0 h1 h2
 go_enter Tryz.func119,Tryz.ntmps119
 go_wp2_with fail
 obtain⟨W,ga,gb,gc,hW,ega,egb,egc,bga,bgb,bgc,hga,hgb,hgc,hgW,hkW⟩:=al3 w (.cells #[.bool na,.string sa,.bool false,.string da] 34) (.cells #[.bool nb,.string sb,.bool false,.string db] 34) (.cells #[.bool nr,.string sr,.bool false,.string dr] 34)
 rw [← hW]
 try rw [egc]
 try rw [egb]
 try rw [ega]
 have Bga:=jX bga
 have Bgb:=jX bgb
 have Bgc:=jX bgc
 have HkW:=jX hkW
 clear hW hkW ega egb egc bga bgb bgc
 have kga:=kw_cells Bga.out
 have kgb:=kw_cells Bgb.out
 have kgc:=kw_cells Bgc.out
 have Q1:Hid (∀ m:KW W,Calls Tryz.prog 85 #[.agg #[.bool na,.string sa,.bool false,.string da]] (Wk W m) fun e w'=>e = .returned (.int .i64 ma)∧∃ m,w'=Wk W m):=fun m=>qk m (Ha.out _)
 have Q2:Hid (∀ m:KW W,Calls Tryz.prog 85 #[.agg #[.bool nb,.string sb,.bool false,.string db]] (Wk W m) fun e w'=>e = .returned (.int .i64 mb)∧∃ m,w'=Wk W m):=fun m=>qk m (Hb.out _)
 have Q3:Hid (∀ m:KW W,Calls Tryz.prog 85 #[.agg #[.bool nr,.string sr,.bool false,.string dr]] (Wk W m) fun e w'=>e = .returned (.int .i64 mr)∧∃ m,w'=Wk W m):=fun m=>qk m (Hr.out _)
 clear Ha Hb Hr
 refine wp_region_keep (by kernel_rfl) (by kernel_rfl) ?_
 repeat (first
  | go_big_quiet_skip
  | (go_big_quiet_want;go_big_quiet_op;first|go_big_quiet_on|go_big_quiet_call (first
   | (go_at_call 85;with_reducible exact (Q1).out _)|(go_at_call 85;with_reducible exact (Q2).out _)|(go_at_call 85;with_reducible exact (Q3).out _))))
 refine wpQuiet_nil ?_
 rintro w1 ⟨⟨_,hk_w1⟩,rfl⟩
 clear Q1 Q2 Q3 kga kgb kgc
 have B2ga:=jX (hk_w1.heap Bga.out (by simp))
 have B2gb:=jX (hk_w1.heap Bgb.out (by simp))
 have B2gc:=jX (hk_w1.heap Bgc.out (by simp))
 have HkW2:=jX (HkW.out.trans0 hk_w1)
 clear HkW hk_w1 Bga Bgb Bgc
 have Bga:=B2ga
 have Bgb:=B2gb
 have Bgc:=B2gc
 have HkW:=HkW2
 clear HkW2 B2ga B2gb B2gc
 go_wp2_with fail
 have kga:=kw_cells Bga.out
 have kgb:=kw_cells Bgb.out
 have kgc:=kw_cells Bgc.out
 have Q1:Hid (∀ m:KW w1,Calls Tryz.prog 121 #[.agg #[.bool na,.string sa,.bool false,.string da],.agg #[.bool na,.string sa,.bool false,.string da]] (Wk w1 m) fun e w'=>e = .returned (.agg #[.bool n1,.string s1,.bool false,.string d1])∧∃ m,w'=Wk w1 m):=fun m=>qk m (Hm1.out _)
 have Q2:Hid (∀ m:KW w1,Calls Tryz.prog 121 #[.agg #[.bool nb,.string sb,.bool false,.string db],.agg #[.bool nb,.string sb,.bool false,.string db]] (Wk w1 m) fun e w'=>e = .returned (.agg #[.bool n2,.string s2,.bool false,.string d2])∧∃ m,w'=Wk w1 m):=fun m=>qk m (Hm2.out _)
 have Q3:Hid (∀ m:KW w1,Calls Tryz.prog 121 #[.agg #[.bool n2,.string s2,.bool false,.string d2],.agg #[.bool nr,.string sr,.bool false,.string dr]] (Wk w1 m) fun e w'=>e = .returned (.agg #[.bool n3,.string s3,.bool false,.string d3])∧∃ m,w'=Wk w1 m):=fun m=>qk m (Hm3.out _)
 have Q4:Hid (∀ m:KW w1,Calls Tryz.prog 158 #[.agg #[.bool n1,.string s1,.bool false,.string d1],.agg #[.bool n3,.string s3,.bool false,.string d3]] (Wk w1 m) fun e w'=>e = .returned (.int .i64 c)∧∃ m,w'=Wk w1 m):=fun m=>qk m (Hcm.out _)
 clear Hm1 Hm2 Hm3 Hcm
 refine wp_region_keep (by kernel_rfl) (by kernel_rfl) ?_
 repeat (first
  | go_big_quiet_skip
  | (go_big_quiet_want;go_big_quiet_op;first|go_big_quiet_on|go_big_quiet_call (first
   | (go_at_call 121;with_reducible exact (Q1).out _)|(go_at_call 121;with_reducible exact (Q2).out _)|(go_at_call 121;with_reducible exact (Q3).out _)|(go_at_call 158;with_reducible exact (Q4).out _))))
 refine wpQuiet_nil ?_
 rintro w2 ⟨⟨_,hk_w2⟩,rfl⟩
 have Hk:=jX (HkW.out.trans0 hk_w2)
 clear hk_w2 Q1 Q2 Q3 Q4 kga kgb kgc
 go_wp2_with fail
 go_ret
 exact ⟨rfl,Hk.out⟩
theorem sgn_mul_range (a b:Rat) : -1≤sgn a*sgn b∧sgn a*sgn b≤1:=by
 rcases sgn_cases a with ⟨_,h⟩|⟨_,h⟩|⟨_,h⟩<;>rcases sgn_cases b with ⟨_,h'⟩|⟨_,h'⟩|⟨_,h'⟩<;>rw [h,h']<;>decide
theorem sign_c (a b r:Rat) (ha:FitQ 1000000000 a) (hb:FitQ 1000000000 b) (hr:FitQ 1000000000 r) (w:World) :
  Calls Tryz.prog 119 #[rv a,rv b,rv r] w fun e w'=>e = .returned (.int .i64 (sg1 a b r))∧Keep [] w w':=by
 have hma:=sgn_range a
 have hmn:=sgn_mul_range b r
 unfold sg1
 by_cases hc:sgn b*sgn r=0∨sgn a=sgn b*sgn r∨sgn a=0
 ·have:=sign_low _ _ _ _ _ _ _ _ _ (sgn a) (sgn b) (sgn r) _ rfl hma hmn hc (QSign_c a) (QSign_c b) (QSign_c r) w
  refine this.mono fun e w' h=>⟨?_,h.2⟩
  rw [h.1]
  by_cases h1:sgn b*sgn r=0∨sgn a=sgn b*sgn r
  ·rw [if_pos h1,if_pos h1]
  ·rw [if_neg h1,if_neg h1,if_pos (by rcases hc with h|h|h;exact absurd (.inl h) h1;exact absurd (.inr h) h1;exact h)]
 ·have h0:sgn b*sgn r≠0:=fun h=>hc (.inl h)
  have h1:sgn a≠sgn b*sgn r:=fun h=>hc (.inr (.inl h))
  have h2:sgn a≠0:=fun h=>hc (.inr (.inr h))
  rw [if_neg (by rintro (h|h);exact h0 h;exact h1 h),if_neg h2]
  exact sign_high _ _ _ _ _ _ _ _ _ _ _ _ _ _ _ _ _ _ (sgn a) (sgn b) (sgn r) _ _ _ rfl hma hmn h0 h1 h2 rfl (sgn_mul_range _ _) (QSign_c a) (QSign_c b) (QSign_c r)
   (QMul_c a a (ha.mono (by decide)) (ha.mono (by decide))) (QMul_c b b (hb.mono (by decide)) (hb.mono (by decide))) (QMul_c (b*b) r ((hb.mul hb).mono (by decide)) (hr.mono (by decide)))
   (QCompare_c (a*a) (b*b*r) ((ha.mul ha).mono (by decide)) (((hb.mul hb).mul hr).mono (by decide))) w
def qv (x:Qn):Value:=.agg #[.bool (sgB x.p.num),.string (mgS x.p.num),.bool false,.string (dnS x.p.den),.bool (sgB x.r.num),.string (mgS x.r.num),.bool false,.string (dnS x.r.den),.bool x.neg]
def FitR (k:Nat) (x:Qn):Prop:=FitQ k x.p∧FitQ k x.r
theorem factor_c (x:Qn) (w:World) :
  Calls Tryz.prog 117 #[qv x] w fun e w'=>e = .returned (rv x.u)∧Keep [] w w':=by
 unfold Qn.u qv
 cases hx:x.neg with
 | true =>
  have Hs:=jX (QFromInt_c (-1) (by decide) (by decide))
  rw [if_pos rfl]
  rw [show ((-1:Int):Rat)=(-1:Rat) from rfl] at Hs
  unfold rv at *
  generalize sgB ((-1:Rat)).num=nr at *
  generalize mgS ((-1:Rat)).num=sr at *
  generalize dnS ((-1:Rat)).den=dr at *
  generalize sgB (x.p).num=a1 at *
  generalize mgS (x.p).num=a2 at *
  generalize dnS (x.p).den=a3 at *
  generalize sgB (x.r).num=a4 at *
  generalize mgS (x.r).num=a5 at *
  generalize dnS (x.r).den=a6 at *
  clear hx
  go_enter Tryz.func117,Tryz.ntmps117
  go_wp2_with fail
  obtain⟨W,ga,gb,hW,ega,egb,bga,bgb,hga,hgb,hgW,hkW⟩:=al2 w (.cells #[.bool a1,.string a2,.bool false,.string a3,.bool a4,.string a5,.bool false,.string a6,.bool true] 36) (.cells #[.bool false,.string ⟨#[]⟩,.bool false,.string ⟨#[]⟩] 34)
  rw [← hW]
  try rw [egb]
  try rw [ega]
  have Bga:=jX bga
  have Bgb:=jX bgb
  have HkW:=jX hkW
  clear hW hkW ega egb bga bgb
  refine (Hs.out W).mono ?_
  rintro e wz ⟨rfl,hk_wz⟩
  dsimp only
  clear Hs
  have B2ga:=jX (hk_wz.heap Bga.out (by simp))
  have B2gb:=jX (hk_wz.heap Bgb.out (by simp))
  have HkW2:=jX (HkW.out.trans0 hk_wz)
  clear HkW hk_wz Bga Bgb
  have Bga:=B2ga
  have Bgb:=B2gb
  have HkW:=HkW2
  clear HkW2 B2ga B2gb
  have pgb:=cell_of Bgb.out
  have fgb:=frozen_of Bgb.out
  have lgb:=lt_of_heap Bgb.out
  go_wp2_with fail
  refine bodyPost_ret (v:=.agg #[.bool nr,.string sr,.bool false,.string dr]) ?_ rfl ⟨rfl,by repeat (first|(with_reducible exact HkW.out)|(refine Keep.setPast ?_ _ _ _ (by omega))|(refine Keep.allocPast ?_ _)|(refine Keep.drewPast ?_))⟩
  rw [results_cell1 rfl];go_simp
 | false =>
  have Hs:=jX (QFromInt_c 1 (by decide) (by decide))
  rw [if_neg (by decide)]
  rw [show ((1:Int):Rat)=(1:Rat) from rfl] at Hs
  unfold rv at *
  generalize sgB ((1:Rat)).num=nr at *
  generalize mgS ((1:Rat)).num=sr at *
  generalize dnS ((1:Rat)).den=dr at *
  generalize sgB (x.p).num=a1 at *
  generalize mgS (x.p).num=a2 at *
  generalize dnS (x.p).den=a3 at *
  generalize sgB (x.r).num=a4 at *
  generalize mgS (x.r).num=a5 at *
  generalize dnS (x.r).den=a6 at *
  clear hx
  go_enter Tryz.func117,Tryz.ntmps117
  go_wp2_with fail
  obtain⟨W,ga,gb,hW,ega,egb,bga,bgb,hga,hgb,hgW,hkW⟩:=al2 w (.cells #[.bool a1,.string a2,.bool false,.string a3,.bool a4,.string a5,.bool false,.string a6,.bool false] 36) (.cells #[.bool false,.string ⟨#[]⟩,.bool false,.string ⟨#[]⟩] 34)
  rw [← hW]
  try rw [egb]
  try rw [ega]
  have Bga:=jX bga
  have Bgb:=jX bgb
  have HkW:=jX hkW
  clear hW hkW ega egb bga bgb
  refine (Hs.out W).mono ?_
  rintro e wz ⟨rfl,hk_wz⟩
  dsimp only
  clear Hs
  have B2ga:=jX (hk_wz.heap Bga.out (by simp))
  have B2gb:=jX (hk_wz.heap Bgb.out (by simp))
  have HkW2:=jX (HkW.out.trans0 hk_wz)
  clear HkW hk_wz Bga Bgb
  have Bga:=B2ga
  have Bgb:=B2gb
  have HkW:=HkW2
  clear HkW2 B2ga B2gb
  have pgb:=cell_of Bgb.out
  have fgb:=frozen_of Bgb.out
  have lgb:=lt_of_heap Bgb.out
  go_wp2_with fail
  refine bodyPost_ret (v:=.agg #[.bool nr,.string sr,.bool false,.string dr]) ?_ rfl ⟨rfl,by repeat (first|(with_reducible exact HkW.out)|(refine Keep.setPast ?_ _ _ _ (by omega))|(refine Keep.allocPast ?_ _)|(refine Keep.drewPast ?_))⟩
  rw [results_cell1 rfl];go_simp
end Go.Proofs.YtejegogbhpmgfaaGreatDoor
