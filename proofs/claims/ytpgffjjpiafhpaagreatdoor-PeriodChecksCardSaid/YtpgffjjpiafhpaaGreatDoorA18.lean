/- Parts of a proof about this translation: Rl, Rk. -/
import Derived.Test.YtpgffjjpiafhpaaGreatDoorA17
import Derived.Test.YtpgffjjpiafhpaaGreatDoorA10
set_option linter.unusedVariables false
set_option linter.unusedSimpArgs false
set_option maxRecDepth 100000
set_option maxHeartbeats 8000000
namespace Go.Proofs.YtpgffjjpiafhpaaGreatDoor
open Go.RowKit
theorem sign_low (na nb nr:Bool) (sa sb sr da db dr:ByteArray) (ma mb mr n:Int) (hn:mb*mr=n) (hm : -1≤ma∧ma≤1) (hn1 : -1≤n∧n≤1) (hc:n=0∨ma=n∨ma=0)
  (Ha:Hid (∀ w,Calls Tryz.prog 121 #[.agg #[.bool na,.string sa,.bool false,.string da]] w fun e w'=>e = .returned (.int .i64 ma)∧Keep [] w w'))
  (Hb:Hid (∀ w,Calls Tryz.prog 121 #[.agg #[.bool nb,.string sb,.bool false,.string db]] w fun e w'=>e = .returned (.int .i64 mb)∧Keep [] w w'))
  (Hr:Hid (∀ w,Calls Tryz.prog 121 #[.agg #[.bool nr,.string sr,.bool false,.string dr]] w fun e w'=>e = .returned (.int .i64 mr)∧Keep [] w w')) (w:World) :
  Calls Tryz.prog 130 #[.agg #[.bool na,.string sa,.bool false,.string da],.agg #[.bool nb,.string sb,.bool false,.string db],.agg #[.bool nr,.string sr,.bool false,.string dr]] w fun e w'=>e = .returned (.int .i64 (if n=0∨ma=n then ma else n))∧Keep [] w w':=by
 have hw:IntKind.i64.wrap n=n:=by simp [IntKind.wrap,IntKind.bits,IntKind.signed];omega
 by_cases h0:n=0
 ·rw [if_pos (.inl h0)]
  have t0:(n == 0)=true:=by simpa using h0
  clear hc
  go_enter Tryz.func130,Tryz.ntmps130
  go_wp2_with fail
  obtain⟨W,ga,gb,gc,hW,ega,egb,egc,Bga,Bgb,Bgc,hga,hgb,hgc,hgW,HkW⟩:=al3h w (.cells #[.bool na,.string sa,.bool false,.string da] 28) (.cells #[.bool nb,.string sb,.bool false,.string db] 28) (.cells #[.bool nr,.string sr,.bool false,.string dr] 28)
  rw [← hW]
  try rw [egc]
  try rw [egb]
  try rw [ega]
  clear hW ega egb egc
  have kga:=kw_cells Bga.out
  have kgb:=kw_cells Bgb.out
  have kgc:=kw_cells Bgc.out
  have Q1:Hid (∀ m:KW W,Calls Tryz.prog 121 #[.agg #[.bool na,.string sa,.bool false,.string da]] (Wk W m) fun e w'=>e = .returned (.int .i64 ma)∧∃ m,w'=Wk W m):=fun m=>qk m (Ha.out _)
  have Q2:Hid (∀ m:KW W,Calls Tryz.prog 121 #[.agg #[.bool nb,.string sb,.bool false,.string db]] (Wk W m) fun e w'=>e = .returned (.int .i64 mb)∧∃ m,w'=Wk W m):=fun m=>qk m (Hb.out _)
  have Q3:Hid (∀ m:KW W,Calls Tryz.prog 121 #[.agg #[.bool nr,.string sr,.bool false,.string dr]] (Wk W m) fun e w'=>e = .returned (.int .i64 mr)∧∃ m,w'=Wk W m):=fun m=>qk m (Hr.out _)
  clear Ha Hb Hr
  refine wp_region_keep (by kernel_rfl) (by kernel_rfl) ?_
  repeat (first
   | go_big_quiet_skip
   | (go_big_quiet_want;go_big_quiet_op;first|go_big_quiet_on|go_big_quiet_call (first
    | (go_at_call 121;with_reducible exact (Q1).out _)|(go_at_call 121;with_reducible exact (Q2).out _)|(go_at_call 121;with_reducible exact (Q3).out _))))
  refine wpQuiet_nil ?_
  rintro w1 ⟨⟨_,hk_w1⟩,rfl⟩
  clear Q1 Q2 Q3 kga kgb kgc
  have Hk:=jX (HkW.out.trans0 hk_w1)
  clear hk_w1
  go_wp2_with fail
  go_ret
  exact ⟨rfl,Hk.out⟩
 have t0:(n == 0)=false:=by simpa using h0
 by_cases h1:ma=n
 ·rw [if_pos (.inr h1)]
  have t1:(ma == n)=true:=by simpa using h1
  have H1:=jX h1
  clear hc h1
  go_enter Tryz.func130,Tryz.ntmps130
  go_wp2_with fail
  obtain⟨W,ga,gb,gc,hW,ega,egb,egc,Bga,Bgb,Bgc,hga,hgb,hgc,hgW,HkW⟩:=al3h w (.cells #[.bool na,.string sa,.bool false,.string da] 28) (.cells #[.bool nb,.string sb,.bool false,.string db] 28) (.cells #[.bool nr,.string sr,.bool false,.string dr] 28)
  rw [← hW]
  try rw [egc]
  try rw [egb]
  try rw [ega]
  clear hW ega egb egc
  have kga:=kw_cells Bga.out
  have kgb:=kw_cells Bgb.out
  have kgc:=kw_cells Bgc.out
  have Q1:Hid (∀ m:KW W,Calls Tryz.prog 121 #[.agg #[.bool na,.string sa,.bool false,.string da]] (Wk W m) fun e w'=>e = .returned (.int .i64 ma)∧∃ m,w'=Wk W m):=fun m=>qk m (Ha.out _)
  have Q2:Hid (∀ m:KW W,Calls Tryz.prog 121 #[.agg #[.bool nb,.string sb,.bool false,.string db]] (Wk W m) fun e w'=>e = .returned (.int .i64 mb)∧∃ m,w'=Wk W m):=fun m=>qk m (Hb.out _)
  have Q3:Hid (∀ m:KW W,Calls Tryz.prog 121 #[.agg #[.bool nr,.string sr,.bool false,.string dr]] (Wk W m) fun e w'=>e = .returned (.int .i64 mr)∧∃ m,w'=Wk W m):=fun m=>qk m (Hr.out _)
  clear Ha Hb Hr
  refine wp_region_keep (by kernel_rfl) (by kernel_rfl) ?_
  repeat (first
   | go_big_quiet_skip
   | (go_big_quiet_want;go_big_quiet_op;first|go_big_quiet_on|go_big_quiet_call (first
    | (go_at_call 121;with_reducible exact (Q1).out _)|(go_at_call 121;with_reducible exact (Q2).out _)|(go_at_call 121;with_reducible exact (Q3).out _))))
  refine wpQuiet_nil ?_
  rintro w1 ⟨⟨_,hk_w1⟩,rfl⟩
  clear Q1 Q2 Q3 kga kgb kgc
  have Hk:=jX (HkW.out.trans0 hk_w1)
  clear hk_w1
  go_wp2_with fail
  go_ret
  exact ⟨rfl,Hk.out⟩
 have h2:ma=0:=by rcases hc with h|h|h<;>simp_all
 rw [if_neg (by rintro (h|h)<;>simp_all)]
 have t1:(ma == n)=false:=by simpa using h1
 have t2:(ma == 0)=true:=by simpa using h2
 clear hc h1 h0 h2
 go_enter Tryz.func130,Tryz.ntmps130
 go_wp2_with fail
 obtain⟨W,ga,gb,gc,hW,ega,egb,egc,Bga,Bgb,Bgc,hga,hgb,hgc,hgW,HkW⟩:=al3h w (.cells #[.bool na,.string sa,.bool false,.string da] 28) (.cells #[.bool nb,.string sb,.bool false,.string db] 28) (.cells #[.bool nr,.string sr,.bool false,.string dr] 28)
 rw [← hW]
 try rw [egc]
 try rw [egb]
 try rw [ega]
 clear hW ega egb egc
 have kga:=kw_cells Bga.out
 have kgb:=kw_cells Bgb.out
 have kgc:=kw_cells Bgc.out
 have Q1:Hid (∀ m:KW W,Calls Tryz.prog 121 #[.agg #[.bool na,.string sa,.bool false,.string da]] (Wk W m) fun e w'=>e = .returned (.int .i64 ma)∧∃ m,w'=Wk W m):=fun m=>qk m (Ha.out _)
 have Q2:Hid (∀ m:KW W,Calls Tryz.prog 121 #[.agg #[.bool nb,.string sb,.bool false,.string db]] (Wk W m) fun e w'=>e = .returned (.int .i64 mb)∧∃ m,w'=Wk W m):=fun m=>qk m (Hb.out _)
 have Q3:Hid (∀ m:KW W,Calls Tryz.prog 121 #[.agg #[.bool nr,.string sr,.bool false,.string dr]] (Wk W m) fun e w'=>e = .returned (.int .i64 mr)∧∃ m,w'=Wk W m):=fun m=>qk m (Hr.out _)
 clear Ha Hb Hr
 refine wp_region_keep (by kernel_rfl) (by kernel_rfl) ?_
 repeat (first
  | go_big_quiet_skip
  | (go_big_quiet_want;go_big_quiet_op;first|go_big_quiet_on|go_big_quiet_call (first
   | (go_at_call 121;with_reducible exact (Q1).out _)|(go_at_call 121;with_reducible exact (Q2).out _)|(go_at_call 121;with_reducible exact (Q3).out _))))
 refine wpQuiet_nil ?_
 rintro w1 ⟨⟨_,hk_w1⟩,rfl⟩
 clear Q1 Q2 Q3 kga kgb kgc
 have Hk:=jX (HkW.out.trans0 hk_w1)
 clear hk_w1
 go_wp2_with fail
 go_ret
 exact ⟨rfl,Hk.out⟩
theorem sign_high (na nb nr n1 n2 n3:Bool) (sa sb sr da db dr s1 s2 s3 d1 d2 d3:ByteArray) (ma mb mr n c k:Int) (hn:mb*mr=n) (hm : -1≤ma∧ma≤1) (hn1 : -1≤n∧n≤1) (h0:n≠0) (h1:ma≠n) (h2:ma≠0) (hk:ma*c=k) (hk1 : -1≤k∧k≤1)
  (Ha:Hid (∀ w,Calls Tryz.prog 121 #[.agg #[.bool na,.string sa,.bool false,.string da]] w fun e w'=>e = .returned (.int .i64 ma)∧Keep [] w w'))
  (Hb:Hid (∀ w,Calls Tryz.prog 121 #[.agg #[.bool nb,.string sb,.bool false,.string db]] w fun e w'=>e = .returned (.int .i64 mb)∧Keep [] w w'))
  (Hr:Hid (∀ w,Calls Tryz.prog 121 #[.agg #[.bool nr,.string sr,.bool false,.string dr]] w fun e w'=>e = .returned (.int .i64 mr)∧Keep [] w w'))
  (Hm1:Hid (∀ w,Calls Tryz.prog 131 #[.agg #[.bool na,.string sa,.bool false,.string da],.agg #[.bool na,.string sa,.bool false,.string da]] w fun e w'=>e = .returned (.agg #[.bool n1,.string s1,.bool false,.string d1])∧Keep [] w w'))
  (Hm2:Hid (∀ w,Calls Tryz.prog 131 #[.agg #[.bool nb,.string sb,.bool false,.string db],.agg #[.bool nb,.string sb,.bool false,.string db]] w fun e w'=>e = .returned (.agg #[.bool n2,.string s2,.bool false,.string d2])∧Keep [] w w'))
  (Hm3:Hid (∀ w,Calls Tryz.prog 131 #[.agg #[.bool n2,.string s2,.bool false,.string d2],.agg #[.bool nr,.string sr,.bool false,.string dr]] w fun e w'=>e = .returned (.agg #[.bool n3,.string s3,.bool false,.string d3])∧Keep [] w w'))
  (Hcm:Hid (∀ w,Calls Tryz.prog 116 #[.agg #[.bool n1,.string s1,.bool false,.string d1],.agg #[.bool n3,.string s3,.bool false,.string d3]] w fun e w'=>e = .returned (.int .i64 c)∧Keep [] w w')) (w:World) :
  Calls Tryz.prog 130 #[.agg #[.bool na,.string sa,.bool false,.string da],.agg #[.bool nb,.string sb,.bool false,.string db],.agg #[.bool nr,.string sr,.bool false,.string dr]] w fun e w'=>e = .returned (.int .i64 k)∧Keep [] w w':=by
 have hw:IntKind.i64.wrap n=n:=by simp [IntKind.wrap,IntKind.bits,IntKind.signed];omega
 have hw2:IntKind.i64.wrap k=k:=by simp [IntKind.wrap,IntKind.bits,IntKind.signed];omega
 have t0:(n == 0)=false:=by simpa using h0
 have t1:(ma == n)=false:=by simpa using h1
 have t2:(ma == 0)=false:=by simpa using h2
 clear h0 h1 h2
 go_enter Tryz.func130,Tryz.ntmps130
 go_wp2_with fail
 obtain⟨W,ga,gb,gc,hW,ega,egb,egc,Bga,Bgb,Bgc,hga,hgb,hgc,hgW,HkW⟩:=al3h w (.cells #[.bool na,.string sa,.bool false,.string da] 28) (.cells #[.bool nb,.string sb,.bool false,.string db] 28) (.cells #[.bool nr,.string sr,.bool false,.string dr] 28)
 rw [← hW]
 try rw [egc]
 try rw [egb]
 try rw [ega]
 clear hW ega egb egc
 have kga:=kw_cells Bga.out
 have kgb:=kw_cells Bgb.out
 have kgc:=kw_cells Bgc.out
 have Q1:Hid (∀ m:KW W,Calls Tryz.prog 121 #[.agg #[.bool na,.string sa,.bool false,.string da]] (Wk W m) fun e w'=>e = .returned (.int .i64 ma)∧∃ m,w'=Wk W m):=fun m=>qk m (Ha.out _)
 have Q2:Hid (∀ m:KW W,Calls Tryz.prog 121 #[.agg #[.bool nb,.string sb,.bool false,.string db]] (Wk W m) fun e w'=>e = .returned (.int .i64 mb)∧∃ m,w'=Wk W m):=fun m=>qk m (Hb.out _)
 have Q3:Hid (∀ m:KW W,Calls Tryz.prog 121 #[.agg #[.bool nr,.string sr,.bool false,.string dr]] (Wk W m) fun e w'=>e = .returned (.int .i64 mr)∧∃ m,w'=Wk W m):=fun m=>qk m (Hr.out _)
 clear Ha Hb Hr
 refine wp_region_keep (by kernel_rfl) (by kernel_rfl) ?_
 repeat (first
  | go_big_quiet_skip
  | (go_big_quiet_want;go_big_quiet_op;first|go_big_quiet_on|go_big_quiet_call (first
   | (go_at_call 121;with_reducible exact (Q1).out _)|(go_at_call 121;with_reducible exact (Q2).out _)|(go_at_call 121;with_reducible exact (Q3).out _))))
 refine wpQuiet_nil ?_
 rintro w1 ⟨⟨_,hk_w1⟩,rfl⟩
 clear Q1 Q2 Q3 kga kgb kgc
 replace Bga:=jH hk_w1 Bga
 replace Bgb:=jH hk_w1 Bgb
 replace Bgc:=jH hk_w1 Bgc
 replace HkW:=jX (HkW.out.trans0 hk_w1)
 clear hk_w1
 go_wp2_with fail
 have kga:=kw_cells Bga.out
 have kgb:=kw_cells Bgb.out
 have kgc:=kw_cells Bgc.out
 have Q1:Hid (∀ m:KW w1,Calls Tryz.prog 131 #[.agg #[.bool na,.string sa,.bool false,.string da],.agg #[.bool na,.string sa,.bool false,.string da]] (Wk w1 m) fun e w'=>e = .returned (.agg #[.bool n1,.string s1,.bool false,.string d1])∧∃ m,w'=Wk w1 m):=fun m=>qk m (Hm1.out _)
 have Q2:Hid (∀ m:KW w1,Calls Tryz.prog 131 #[.agg #[.bool nb,.string sb,.bool false,.string db],.agg #[.bool nb,.string sb,.bool false,.string db]] (Wk w1 m) fun e w'=>e = .returned (.agg #[.bool n2,.string s2,.bool false,.string d2])∧∃ m,w'=Wk w1 m):=fun m=>qk m (Hm2.out _)
 have Q3:Hid (∀ m:KW w1,Calls Tryz.prog 131 #[.agg #[.bool n2,.string s2,.bool false,.string d2],.agg #[.bool nr,.string sr,.bool false,.string dr]] (Wk w1 m) fun e w'=>e = .returned (.agg #[.bool n3,.string s3,.bool false,.string d3])∧∃ m,w'=Wk w1 m):=fun m=>qk m (Hm3.out _)
 have Q4:Hid (∀ m:KW w1,Calls Tryz.prog 116 #[.agg #[.bool n1,.string s1,.bool false,.string d1],.agg #[.bool n3,.string s3,.bool false,.string d3]] (Wk w1 m) fun e w'=>e = .returned (.int .i64 c)∧∃ m,w'=Wk w1 m):=fun m=>qk m (Hcm.out _)
 clear Hm1 Hm2 Hm3 Hcm
 refine wp_region_keep (by kernel_rfl) (by kernel_rfl) ?_
 repeat (first
  | go_big_quiet_skip
  | (go_big_quiet_want;go_big_quiet_op;first|go_big_quiet_on|go_big_quiet_call (first
   | (go_at_call 131;with_reducible exact (Q1).out _)|(go_at_call 131;with_reducible exact (Q2).out _)|(go_at_call 131;with_reducible exact (Q3).out _)|(go_at_call 116;with_reducible exact (Q4).out _))))
 refine wpQuiet_nil ?_
 rintro w2 ⟨⟨_,hk_w2⟩,rfl⟩
 have Hk:=jX (HkW.out.trans0 hk_w2)
 clear hk_w2 Q1 Q2 Q3 Q4 kga kgb kgc
 go_wp2_with fail
 go_ret
 exact ⟨rfl,Hk.out⟩
theorem sgn_mul_range (a b:Rat) : -1≤sgn a*sgn b∧sgn a*sgn b≤1:=by
 rcases sgn_cases a with ⟨_,h⟩|⟨_,h⟩|⟨_,h⟩<;>rcases sgn_cases b with ⟨_,h'⟩|⟨_,h'⟩|⟨_,h'⟩<;>rw [h,h']<;>decide
theorem sign_c (a b r:Rat) (ha:FitQ 1000000000 a) (hb:FitQ 1000000000 b) (hr:FitQ 1000000000 r) (w:World) :
  Calls Tryz.prog 130 #[rv a,rv b,rv r] w fun e w'=>e = .returned (.int .i64 (sg1 a b r))∧Keep [] w w':=by
 have hma:=sgn_range a
 have hmn:=sgn_mul_range b r
 unfold sg1
 by_cases hc:sgn b*sgn r=0∨sgn a=sgn b*sgn r∨sgn a=0
 ·have:=sign_low _ _ _ _ _ _ _ _ _ (sgn a) (sgn b) (sgn r) _ rfl hma hmn hc (QSign_c a) (QSign_c b) (QSign_c r) w
  refine this.mono fun e w' h=>⟨?_,h.2⟩
  rw [h.1]
  by_cases h1:sgn b*sgn r=0∨sgn a=sgn b*sgn r
  ·rw [if_pos h1,if_pos h1]
  rw [if_neg h1,if_neg h1,if_pos (by rcases hc with h|h|h;exact absurd (.inl h) h1;exact absurd (.inr h) h1;exact h)]
 have h0:sgn b*sgn r≠0:=fun h=>hc (.inl h)
 have h1:sgn a≠sgn b*sgn r:=fun h=>hc (.inr (.inl h))
 have h2:sgn a≠0:=fun h=>hc (.inr (.inr h))
 rw [if_neg (by rintro (h|h);exact h0 h;exact h1 h),if_neg h2]
 exact sign_high _ _ _ _ _ _ _ _ _ _ _ _ _ _ _ _ _ _ (sgn a) (sgn b) (sgn r) _ _ _ rfl hma hmn h0 h1 h2 rfl (sgn_mul_range _ _) (QSign_c a) (QSign_c b) (QSign_c r)
  (QMul_c a a (ha.mono (by decide)) (ha.mono (by decide))) (QMul_c b b (hb.mono (by decide)) (hb.mono (by decide))) (QMul_c (b*b) r ((hb.mul hb).mono (by decide)) (hr.mono (by decide)))
  (QCompare_c (a*a) (b*b*r) ((ha.mul ha).mono (by decide)) (((hb.mul hb).mul hr).mono (by decide))) w
def qv (x:Qn):Value:=.agg #[.bool (sgB x.p.num),.string (mgS x.p.num),.bool false,.string (dnS x.p.den),.bool (sgB x.r.num),.string (mgS x.r.num),.bool false,.string (dnS x.r.den),.bool x.neg]
def FitR (k:Nat) (x:Qn):Prop:=FitQ k x.p∧FitQ k x.r
theorem factor_c (x:Qn) (w:World) :
  Calls Tryz.prog 129 #[qv x] w fun e w'=>e = .returned (rv x.u)∧Keep [] w w':=by
 unfold Qn.u qv
 cases hx:x.neg with
 | true =>
  have Hs:=jX (QFromInt_c (-1) (by decide) (by decide))
  rw [if_pos rfl]
  rw [show ((-1:Int):Rat)=(-1:Rat) from rfl] at Hs
  unfold rv at *
  generalize sgB ((-1:Rat)).num=nr at *
  generalize mgS ((-1:Rat)).num=sr at *
  generalize dnS ((-1:Rat)).den=dr at *
  generalize sgB (x.p).num=a1 at *
  generalize mgS (x.p).num=a2 at *
  generalize dnS (x.p).den=a3 at *
  generalize sgB (x.r).num=a4 at *
  generalize mgS (x.r).num=a5 at *
  generalize dnS (x.r).den=a6 at *
  clear hx
  go_enter Tryz.func129,Tryz.ntmps129
  go_wp2_with fail
  obtain⟨W,ga,gb,hW,ega,egb,Bga,Bgb,hga,hgb,hgW,HkW⟩:=al2h w (.cells #[.bool a1,.string a2,.bool false,.string a3,.bool a4,.string a5,.bool false,.string a6,.bool true] 30) (.cells #[.bool false,.string ⟨#[]⟩,.bool false,.string ⟨#[]⟩] 28)
  rw [← hW]
  try rw [egb]
  try rw [ega]
  clear hW ega egb
  refine (Hs.out W).mono ?_
  rintro e wz ⟨rfl,hk_wz⟩
  dsimp only
  clear Hs
  replace Bga:=jH hk_wz Bga
  replace Bgb:=jH hk_wz Bgb
  replace HkW:=jX (HkW.out.trans0 hk_wz)
  clear hk_wz
  obtain⟨pgb,fgb,lgb⟩:=jQ Bgb
  go_wp2_with fail
  refine bodyPost_ret (v:=.agg #[.bool nr,.string sr,.bool false,.string dr]) ?_ rfl ⟨rfl,by repeat (first|(with_reducible exact HkW.out)|(refine Keep.setPast ?_ _ _ _ (by omega))|(refine Keep.allocPast ?_ _)|(refine Keep.drewPast ?_))⟩
  rw [results_cell1 rfl];go_simp
 | false =>
  have Hs:=jX (QFromInt_c 1 (by decide) (by decide))
  rw [if_neg (by decide)]
  rw [show ((1:Int):Rat)=(1:Rat) from rfl] at Hs
  unfold rv at *
  generalize sgB ((1:Rat)).num=nr at *
  generalize mgS ((1:Rat)).num=sr at *
  generalize dnS ((1:Rat)).den=dr at *
  generalize sgB (x.p).num=a1 at *
  generalize mgS (x.p).num=a2 at *
  generalize dnS (x.p).den=a3 at *
  generalize sgB (x.r).num=a4 at *
  generalize mgS (x.r).num=a5 at *
  generalize dnS (x.r).den=a6 at *
  clear hx
  go_enter Tryz.func129,Tryz.ntmps129
  go_wp2_with fail
  obtain⟨W,ga,gb,hW,ega,egb,Bga,Bgb,hga,hgb,hgW,HkW⟩:=al2h w (.cells #[.bool a1,.string a2,.bool false,.string a3,.bool a4,.string a5,.bool false,.string a6,.bool false] 30) (.cells #[.bool false,.string ⟨#[]⟩,.bool false,.string ⟨#[]⟩] 28)
  rw [← hW]
  try rw [egb]
  try rw [ega]
  clear hW ega egb
  refine (Hs.out W).mono ?_
  rintro e wz ⟨rfl,hk_wz⟩
  dsimp only
  clear Hs
  replace Bga:=jH hk_wz Bga
  replace Bgb:=jH hk_wz Bgb
  replace HkW:=jX (HkW.out.trans0 hk_wz)
  clear hk_wz
  obtain⟨pgb,fgb,lgb⟩:=jQ Bgb
  go_wp2_with fail
  refine bodyPost_ret (v:=.agg #[.bool nr,.string sr,.bool false,.string dr]) ?_ rfl ⟨rfl,by repeat (first|(with_reducible exact HkW.out)|(refine Keep.setPast ?_ _ _ _ (by omega))|(refine Keep.allocPast ?_ _)|(refine Keep.drewPast ?_))⟩
  rw [results_cell1 rfl];go_simp
theorem al_rat (ev:Operand→Value) (w:World) (o:Oper) (ho:o.op = .alloc 28):(execOp ev o).run Tryz.prog w = .ok (.value (.pointer (some ⟨w.heap.size,0,none⟩))) (w.alloc (.cells #[.bool false,.string ⟨#[]⟩,.bool false,.string ⟨#[]⟩] 28)):=by
 unfold execOp
 simp only [ho]
 go_simp
theorem cmp_low (xa xd xg ya yd yg da ua va ta:Bool) (xb xc xe xf yb yc ye yf db dc ub uc vb vc tb tc:ByteArray) (ma mb mr n:Int) (hn:mb*mr=n) (hm : -1≤ma∧ma≤1) (hn1 : -1≤n∧n≤1) (hc:n=0∨ma=n∨ma=0)
  (Hsub:Hid (∀ w,Calls Tryz.prog 128 #[.agg #[.bool xa,.string xb,.bool false,.string xc],.agg #[.bool ya,.string yb,.bool false,.string yc]] w fun e w'=>e = .returned (.agg #[.bool da,.string db,.bool false,.string dc])∧Keep [] w w'))
  (Hfx:Hid (∀ w,Calls Tryz.prog 129 #[.agg #[.bool xa,.string xb,.bool false,.string xc,.bool xd,.string xe,.bool false,.string xf,.bool xg]] w fun e w'=>e = .returned (.agg #[.bool ua,.string ub,.bool false,.string uc])∧Keep [] w w'))
  (Hfy:Hid (∀ w,Calls Tryz.prog 129 #[.agg #[.bool ya,.string yb,.bool false,.string yc,.bool yd,.string ye,.bool false,.string yf,.bool yg]] w fun e w'=>e = .returned (.agg #[.bool va,.string vb,.bool false,.string vc])∧Keep [] w w'))
  (Hng:Hid (∀ w,Calls Tryz.prog 60 #[.agg #[.bool va,.string vb,.bool false,.string vc]] w fun e w'=>e = .returned (.agg #[.bool ta,.string tb,.bool false,.string tc])∧Keep [] w w'))
  (Hsg:Hid (∀ w,Calls Tryz.prog 130 #[.agg #[.bool da,.string db,.bool false,.string dc],.agg #[.bool ua,.string ub,.bool false,.string uc],.agg #[.bool xd,.string xe,.bool false,.string xf]] w fun e w'=>e = .returned (.int .i64 ma)∧Keep [] w w'))
  (Hst:Hid (∀ w,Calls Tryz.prog 121 #[.agg #[.bool ta,.string tb,.bool false,.string tc]] w fun e w'=>e = .returned (.int .i64 mb)∧Keep [] w w'))
  (Hsy:Hid (∀ w,Calls Tryz.prog 121 #[.agg #[.bool yd,.string ye,.bool false,.string yf]] w fun e w'=>e = .returned (.int .i64 mr)∧Keep [] w w'))
  (w:World) :
  Calls Tryz.prog 81 #[.agg #[.bool xa,.string xb,.bool false,.string xc,.bool xd,.string xe,.bool false,.string xf,.bool xg],.agg #[.bool ya,.string yb,.bool false,.string yc,.bool yd,.string ye,.bool false,.string yf,.bool yg]] w fun e w'=>e = .returned (.int .i64 (if n=0∨ma=n then ma else n))∧Keep [] w w':=by
 have hw:IntKind.i64.wrap n=n:=by simp [IntKind.wrap,IntKind.bits,IntKind.signed];omega
 by_cases h0:n=0
 ·rw [if_pos (.inl h0)]
  have t0:(n == 0)=true:=by simpa using h0
  clear hc
  go_enter Tryz.func81,Tryz.ntmps81
  go_wp2_with fail
  obtain⟨W,ga,gb,hW,ega,egb,Bga,Bgb,hga,hgb,hgW,HkW⟩:=al2h w (.cells #[.bool xa,.string xb,.bool false,.string xc,.bool xd,.string xe,.bool false,.string xf,.bool xg] 30) (.cells #[.bool ya,.string yb,.bool false,.string yc,.bool yd,.string ye,.bool false,.string yf,.bool yg] 30)
  rw [← hW]
  try rw [egb]
  try rw [ega]
  clear hW ega egb
  refine wp_region_new 13 [(5,28),(6,28),(7,28)] (fun _=>.cells #[.bool false,.string ⟨#[]⟩,.bool false,.string ⟨#[]⟩] 28) (by kernel_rfl) (by kernel_rfl) (by kernel_rfl) (fun t ht ev w o ho=>by simp at ht;subst ht;exact al_rat ev w o ho) ?_
  intro U hU
  have kga:=kw_cells (hU.heap Bga.out (by simp))
  have kgb:=kw_cells (hU.heap Bgb.out (by simp))
  have Q1:Hid (∀ m:KW U,Calls Tryz.prog 128 #[.agg #[.bool xa,.string xb,.bool false,.string xc],.agg #[.bool ya,.string yb,.bool false,.string yc]] (Wk U m) fun e w'=>e = .returned (.agg #[.bool da,.string db,.bool false,.string dc])∧∃ m,w'=Wk U m):=fun m=>qk m (Hsub.out _)
  have Q2:Hid (∀ m:KW U,Calls Tryz.prog 129 #[.agg #[.bool xa,.string xb,.bool false,.string xc,.bool xd,.string xe,.bool false,.string xf,.bool xg]] (Wk U m) fun e w'=>e = .returned (.agg #[.bool ua,.string ub,.bool false,.string uc])∧∃ m,w'=Wk U m):=fun m=>qk m (Hfx.out _)
  have Q3:Hid (∀ m:KW U,Calls Tryz.prog 129 #[.agg #[.bool ya,.string yb,.bool false,.string yc,.bool yd,.string ye,.bool false,.string yf,.bool yg]] (Wk U m) fun e w'=>e = .returned (.agg #[.bool va,.string vb,.bool false,.string vc])∧∃ m,w'=Wk U m):=fun m=>qk m (Hfy.out _)
  have Q4:Hid (∀ m:KW U,Calls Tryz.prog 60 #[.agg #[.bool va,.string vb,.bool false,.string vc]] (Wk U m) fun e w'=>e = .returned (.agg #[.bool ta,.string tb,.bool false,.string tc])∧∃ m,w'=Wk U m):=fun m=>qk m (Hng.out _)
  clear Hsub Hfx Hfy Hng
  simp only [List.map_cons,List.map_nil,unal,isAl,if_true,if_false,Bool.false_eq_true,List.take_succ_cons,List.take_zero]
  repeat (first
   | go_big_quiet_skip
   | (go_big_quiet_want;go_big_quiet_op;first|go_big_quiet_on|go_big_quiet_call (first
    | (go_at_call 128;with_reducible exact (Q1).out _)|(go_at_call 129;with_reducible exact (Q2).out _)|(go_at_call 129;with_reducible exact (Q3).out _)|(go_at_call 60;with_reducible exact (Q4).out _))))
  refine wpQuiet_nil ?_
  intro p hp1 hp2 w1 hk_w1 hz
  have bgc:=hz (5,28) (by simp)
  have bgd:=hz (6,28) (by simp)
  have bge:=hz (7,28) (by simp)
  have hgc:=hp1 5 (by simp)
  have hgd:=hp1 6 (by simp)
  have hge:=hp1 7 (by simp)
  have n1:p 5≠p 6:=fun h=>absurd (hp2 5 (by simp) 6 (by simp) h) (by decide)
  have n2:p 5≠p 7:=fun h=>absurd (hp2 5 (by simp) 7 (by simp) h) (by decide)
  have n3:p 6≠p 7:=fun h=>absurd (hp2 6 (by simp) 7 (by simp) h) (by decide)
  simp only [List.map_cons,List.map_nil,pl,List.drop_succ_cons,List.drop_zero]
  dsimp only at bgc bgd bge
  generalize p 5=gc at *
  generalize p 6=gd at *
  generalize p 7=ge at *
  have Bgc:=jX bgc
  have Bgd:=jX bgd
  have Bge:=jX bge
  clear kga kgb Q1 Q2 Q3 Q4 hz hp1 hp2 bgc bgd bge hU p U
  replace Bga:=jH hk_w1 Bga
  replace Bgb:=jH hk_w1 Bgb
  replace HkW:=jX (HkW.out.trans0 hk_w1)
  clear hk_w1
  obtain⟨pgc,fgc,lgc⟩:=jQ Bgc
  obtain⟨pgd,fgd,lgd⟩:=jQ Bgd
  obtain⟨pge,fge,lge⟩:=jQ Bge
  have e1:gd≠gc:=Ne.symm n1
  have e2:ge≠gc:=Ne.symm n2
  have e3:ge≠gd:=Ne.symm n3
  go_simp
  go_wp2_with fail
  clear pgc pgd pge fgc fgd fge lgc lgd lge
  obtain⟨X1,hW2,bgc,hkW2⟩:=st4 (x:=.bool da) (y:=.string db) (z:=.bool false) (u:=.string dc) (Bgc.out:(w1).heap[gc]? = _)
  rw [← hW2]
  clear Bgc
  have Bgc:=jX bgc
  clear hW2 bgc
  have B2ga:=jX (hkW2.heap Bga.out (by simp;omega))
  clear Bga
  have Bga:=B2ga
  clear B2ga
  have B2gb:=jX (hkW2.heap Bgb.out (by simp;omega))
  clear Bgb
  have Bgb:=B2gb
  clear B2gb
  have B2gd:=jX (hkW2.heap Bgd.out (by simp;omega))
  clear Bgd
  have Bgd:=B2gd
  clear B2gd
  have B2ge:=jX (hkW2.heap Bge.out (by simp;omega))
  clear Bge
  have Bge:=B2ge
  clear B2ge
  have HkW2:=jX (HkW.out.trans hkW2 (by simp;omega))
  clear HkW hkW2
  have HkW:=HkW2
  clear HkW2
  obtain⟨X2,hW2,bgd,hkW2⟩:=st4 (x:=.bool ua) (y:=.string ub) (z:=.bool false) (u:=.string uc) (Bgd.out:(X1).heap[gd]? = _)
  rw [← hW2]
  clear Bgd
  have Bgd:=jX bgd
  clear hW2 bgd
  have B2ga:=jX (hkW2.heap Bga.out (by simp;omega))
  clear Bga
  have Bga:=B2ga
  clear B2ga
  have B2gb:=jX (hkW2.heap Bgb.out (by simp;omega))
  clear Bgb
  have Bgb:=B2gb
  clear B2gb
  have B2gc:=jX (hkW2.heap Bgc.out (by simp;omega))
  clear Bgc
  have Bgc:=B2gc
  clear B2gc
  have B2ge:=jX (hkW2.heap Bge.out (by simp;omega))
  clear Bge
  have Bge:=B2ge
  clear B2ge
  have HkW2:=jX (HkW.out.trans hkW2 (by simp;omega))
  clear HkW hkW2
  have HkW:=HkW2
  clear HkW2
  obtain⟨W2,hW2,bge,hkW2⟩:=st4 (x:=.bool ta) (y:=.string tb) (z:=.bool false) (u:=.string tc) (Bge.out:(X2).heap[ge]? = _)
  rw [← hW2]
  clear Bge
  have Bge:=jX bge
  clear hW2 bge
  have B2ga:=jX (hkW2.heap Bga.out (by simp;omega))
  clear Bga
  have Bga:=B2ga
  clear B2ga
  have B2gb:=jX (hkW2.heap Bgb.out (by simp;omega))
  clear Bgb
  have Bgb:=B2gb
  clear B2gb
  have B2gc:=jX (hkW2.heap Bgc.out (by simp;omega))
  clear Bgc
  have Bgc:=B2gc
  clear B2gc
  have B2gd:=jX (hkW2.heap Bgd.out (by simp;omega))
  clear Bgd
  have Bgd:=B2gd
  clear B2gd
  have HkW2:=jX (HkW.out.trans hkW2 (by simp;omega))
  clear HkW hkW2
  have HkW:=HkW2
  clear HkW2
  have kga:=kw_cells Bga.out
  have kgb:=kw_cells Bgb.out
  have kgc:=kw_cells Bgc.out
  have kgd:=kw_cells Bgd.out
  have kge:=kw_cells Bge.out
  have Q1:Hid (∀ m:KW W2,Calls Tryz.prog 130 #[.agg #[.bool da,.string db,.bool false,.string dc],.agg #[.bool ua,.string ub,.bool false,.string uc],.agg #[.bool xd,.string xe,.bool false,.string xf]] (Wk W2 m) fun e w'=>e = .returned (.int .i64 ma)∧∃ m,w'=Wk W2 m):=fun m=>qk m (Hsg.out _)
  have Q2:Hid (∀ m:KW W2,Calls Tryz.prog 121 #[.agg #[.bool ta,.string tb,.bool false,.string tc]] (Wk W2 m) fun e w'=>e = .returned (.int .i64 mb)∧∃ m,w'=Wk W2 m):=fun m=>qk m (Hst.out _)
  have Q3:Hid (∀ m:KW W2,Calls Tryz.prog 121 #[.agg #[.bool yd,.string ye,.bool false,.string yf]] (Wk W2 m) fun e w'=>e = .returned (.int .i64 mr)∧∃ m,w'=Wk W2 m):=fun m=>qk m (Hsy.out _)
  clear Hsg Hst Hsy
  refine wp_region_keep (by kernel_rfl) (by kernel_rfl) ?_
  repeat (first
   | go_big_quiet_skip
   | (go_big_quiet_want;go_big_quiet_op;first|go_big_quiet_on|go_big_quiet_call (first
    | (go_at_call 130;with_reducible exact (Q1).out _)|(go_at_call 121;with_reducible exact (Q2).out _)|(go_at_call 121;with_reducible exact (Q3).out _))))
  refine wpQuiet_nil ?_
  rintro w3 ⟨⟨_,hk_w3⟩,rfl⟩
  clear kga kgb kgc kgd kge Q1 Q2 Q3
  have Hk:=jX (HkW.out.trans0 hk_w3)
  clear hk_w3
  go_wp2_with fail
  go_ret
  exact ⟨rfl,Hk.out⟩
 have t0:(n == 0)=false:=by simpa using h0
 by_cases h1:ma=n
 ·rw [if_pos (.inr h1)]
  have t1:(ma == n)=true:=by simpa using h1
  have H1:=jX h1
  clear hc h1
  go_enter Tryz.func81,Tryz.ntmps81
  go_wp2_with fail
  obtain⟨W,ga,gb,hW,ega,egb,Bga,Bgb,hga,hgb,hgW,HkW⟩:=al2h w (.cells #[.bool xa,.string xb,.bool false,.string xc,.bool xd,.string xe,.bool false,.string xf,.bool xg] 30) (.cells #[.bool ya,.string yb,.bool false,.string yc,.bool yd,.string ye,.bool false,.string yf,.bool yg] 30)
  rw [← hW]
  try rw [egb]
  try rw [ega]
  clear hW ega egb
  refine wp_region_new 13 [(5,28),(6,28),(7,28)] (fun _=>.cells #[.bool false,.string ⟨#[]⟩,.bool false,.string ⟨#[]⟩] 28) (by kernel_rfl) (by kernel_rfl) (by kernel_rfl) (fun t ht ev w o ho=>by simp at ht;subst ht;exact al_rat ev w o ho) ?_
  intro U hU
  have kga:=kw_cells (hU.heap Bga.out (by simp))
  have kgb:=kw_cells (hU.heap Bgb.out (by simp))
  have Q1:Hid (∀ m:KW U,Calls Tryz.prog 128 #[.agg #[.bool xa,.string xb,.bool false,.string xc],.agg #[.bool ya,.string yb,.bool false,.string yc]] (Wk U m) fun e w'=>e = .returned (.agg #[.bool da,.string db,.bool false,.string dc])∧∃ m,w'=Wk U m):=fun m=>qk m (Hsub.out _)
  have Q2:Hid (∀ m:KW U,Calls Tryz.prog 129 #[.agg #[.bool xa,.string xb,.bool false,.string xc,.bool xd,.string xe,.bool false,.string xf,.bool xg]] (Wk U m) fun e w'=>e = .returned (.agg #[.bool ua,.string ub,.bool false,.string uc])∧∃ m,w'=Wk U m):=fun m=>qk m (Hfx.out _)
  have Q3:Hid (∀ m:KW U,Calls Tryz.prog 129 #[.agg #[.bool ya,.string yb,.bool false,.string yc,.bool yd,.string ye,.bool false,.string yf,.bool yg]] (Wk U m) fun e w'=>e = .returned (.agg #[.bool va,.string vb,.bool false,.string vc])∧∃ m,w'=Wk U m):=fun m=>qk m (Hfy.out _)
  have Q4:Hid (∀ m:KW U,Calls Tryz.prog 60 #[.agg #[.bool va,.string vb,.bool false,.string vc]] (Wk U m) fun e w'=>e = .returned (.agg #[.bool ta,.string tb,.bool false,.string tc])∧∃ m,w'=Wk U m):=fun m=>qk m (Hng.out _)
  clear Hsub Hfx Hfy Hng
  simp only [List.map_cons,List.map_nil,unal,isAl,if_true,if_false,Bool.false_eq_true,List.take_succ_cons,List.take_zero]
  repeat (first
   | go_big_quiet_skip
   | (go_big_quiet_want;go_big_quiet_op;first|go_big_quiet_on|go_big_quiet_call (first
    | (go_at_call 128;with_reducible exact (Q1).out _)|(go_at_call 129;with_reducible exact (Q2).out _)|(go_at_call 129;with_reducible exact (Q3).out _)|(go_at_call 60;with_reducible exact (Q4).out _))))
  refine wpQuiet_nil ?_
  intro p hp1 hp2 w1 hk_w1 hz
  have bgc:=hz (5,28) (by simp)
  have bgd:=hz (6,28) (by simp)
  have bge:=hz (7,28) (by simp)
  have hgc:=hp1 5 (by simp)
  have hgd:=hp1 6 (by simp)
  have hge:=hp1 7 (by simp)
  have n1:p 5≠p 6:=fun h=>absurd (hp2 5 (by simp) 6 (by simp) h) (by decide)
  have n2:p 5≠p 7:=fun h=>absurd (hp2 5 (by simp) 7 (by simp) h) (by decide)
  have n3:p 6≠p 7:=fun h=>absurd (hp2 6 (by simp) 7 (by simp) h) (by decide)
  simp only [List.map_cons,List.map_nil,pl,List.drop_succ_cons,List.drop_zero]
  dsimp only at bgc bgd bge
  generalize p 5=gc at *
  generalize p 6=gd at *
  generalize p 7=ge at *
  have Bgc:=jX bgc
  have Bgd:=jX bgd
  have Bge:=jX bge
  clear kga kgb Q1 Q2 Q3 Q4 hz hp1 hp2 bgc bgd bge hU p U
  replace Bga:=jH hk_w1 Bga
  replace Bgb:=jH hk_w1 Bgb
  replace HkW:=jX (HkW.out.trans0 hk_w1)
  clear hk_w1
  obtain⟨pgc,fgc,lgc⟩:=jQ Bgc
  obtain⟨pgd,fgd,lgd⟩:=jQ Bgd
  obtain⟨pge,fge,lge⟩:=jQ Bge
  have e1:gd≠gc:=Ne.symm n1
  have e2:ge≠gc:=Ne.symm n2
  have e3:ge≠gd:=Ne.symm n3
  go_simp
  go_wp2_with fail
  clear pgc pgd pge fgc fgd fge lgc lgd lge
  obtain⟨X1,hW2,bgc,hkW2⟩:=st4 (x:=.bool da) (y:=.string db) (z:=.bool false) (u:=.string dc) (Bgc.out:(w1).heap[gc]? = _)
  rw [← hW2]
  clear Bgc
  have Bgc:=jX bgc
  clear hW2 bgc
  have B2ga:=jX (hkW2.heap Bga.out (by simp;omega))
  clear Bga
  have Bga:=B2ga
  clear B2ga
  have B2gb:=jX (hkW2.heap Bgb.out (by simp;omega))
  clear Bgb
  have Bgb:=B2gb
  clear B2gb
  have B2gd:=jX (hkW2.heap Bgd.out (by simp;omega))
  clear Bgd
  have Bgd:=B2gd
  clear B2gd
  have B2ge:=jX (hkW2.heap Bge.out (by simp;omega))
  clear Bge
  have Bge:=B2ge
  clear B2ge
  have HkW2:=jX (HkW.out.trans hkW2 (by simp;omega))
  clear HkW hkW2
  have HkW:=HkW2
  clear HkW2
  obtain⟨X2,hW2,bgd,hkW2⟩:=st4 (x:=.bool ua) (y:=.string ub) (z:=.bool false) (u:=.string uc) (Bgd.out:(X1).heap[gd]? = _)
  rw [← hW2]
  clear Bgd
  have Bgd:=jX bgd
  clear hW2 bgd
  have B2ga:=jX (hkW2.heap Bga.out (by simp;omega))
  clear Bga
  have Bga:=B2ga
  clear B2ga
  have B2gb:=jX (hkW2.heap Bgb.out (by simp;omega))
  clear Bgb
  have Bgb:=B2gb
  clear B2gb
  have B2gc:=jX (hkW2.heap Bgc.out (by simp;omega))
  clear Bgc
  have Bgc:=B2gc
  clear B2gc
  have B2ge:=jX (hkW2.heap Bge.out (by simp;omega))
  clear Bge
  have Bge:=B2ge
  clear B2ge
  have HkW2:=jX (HkW.out.trans hkW2 (by simp;omega))
  clear HkW hkW2
  have HkW:=HkW2
  clear HkW2
  obtain⟨W2,hW2,bge,hkW2⟩:=st4 (x:=.bool ta) (y:=.string tb) (z:=.bool false) (u:=.string tc) (Bge.out:(X2).heap[ge]? = _)
  rw [← hW2]
  clear Bge
  have Bge:=jX bge
  clear hW2 bge
  have B2ga:=jX (hkW2.heap Bga.out (by simp;omega))
  clear Bga
  have Bga:=B2ga
  clear B2ga
  have B2gb:=jX (hkW2.heap Bgb.out (by simp;omega))
  clear Bgb
  have Bgb:=B2gb
  clear B2gb
  have B2gc:=jX (hkW2.heap Bgc.out (by simp;omega))
  clear Bgc
  have Bgc:=B2gc
  clear B2gc
  have B2gd:=jX (hkW2.heap Bgd.out (by simp;omega))
  clear Bgd
  have Bgd:=B2gd
  clear B2gd
  have HkW2:=jX (HkW.out.trans hkW2 (by simp;omega))
  clear HkW hkW2
  have HkW:=HkW2
  clear HkW2
  have kga:=kw_cells Bga.out
  have kgb:=kw_cells Bgb.out
  have kgc:=kw_cells Bgc.out
  have kgd:=kw_cells Bgd.out
  have kge:=kw_cells Bge.out
  have Q1:Hid (∀ m:KW W2,Calls Tryz.prog 130 #[.agg #[.bool da,.string db,.bool false,.string dc],.agg #[.bool ua,.string ub,.bool false,.string uc],.agg #[.bool xd,.string xe,.bool false,.string xf]] (Wk W2 m) fun e w'=>e = .returned (.int .i64 ma)∧∃ m,w'=Wk W2 m):=fun m=>qk m (Hsg.out _)
  have Q2:Hid (∀ m:KW W2,Calls Tryz.prog 121 #[.agg #[.bool ta,.string tb,.bool false,.string tc]] (Wk W2 m) fun e w'=>e = .returned (.int .i64 mb)∧∃ m,w'=Wk W2 m):=fun m=>qk m (Hst.out _)
  have Q3:Hid (∀ m:KW W2,Calls Tryz.prog 121 #[.agg #[.bool yd,.string ye,.bool false,.string yf]] (Wk W2 m) fun e w'=>e = .returned (.int .i64 mr)∧∃ m,w'=Wk W2 m):=fun m=>qk m (Hsy.out _)
  clear Hsg Hst Hsy
  refine wp_region_keep (by kernel_rfl) (by kernel_rfl) ?_
  repeat (first
   | go_big_quiet_skip
   | (go_big_quiet_want;go_big_quiet_op;first|go_big_quiet_on|go_big_quiet_call (first
    | (go_at_call 130;with_reducible exact (Q1).out _)|(go_at_call 121;with_reducible exact (Q2).out _)|(go_at_call 121;with_reducible exact (Q3).out _))))
  refine wpQuiet_nil ?_
  rintro w3 ⟨⟨_,hk_w3⟩,rfl⟩
  clear kga kgb kgc kgd kge Q1 Q2 Q3
  have Hk:=jX (HkW.out.trans0 hk_w3)
  clear hk_w3
  go_wp2_with fail
  go_ret
  exact ⟨rfl,Hk.out⟩
 have h2:ma=0:=by rcases hc with h|h|h<;>simp_all
 rw [if_neg (by rintro (h|h)<;>simp_all)]
 have t1:(ma == n)=false:=by simpa using h1
 have t2:(ma == 0)=true:=by simpa using h2
 clear hc h1 h0 h2
 go_enter Tryz.func81,Tryz.ntmps81
 go_wp2_with fail
 obtain⟨W,ga,gb,hW,ega,egb,Bga,Bgb,hga,hgb,hgW,HkW⟩:=al2h w (.cells #[.bool xa,.string xb,.bool false,.string xc,.bool xd,.string xe,.bool false,.string xf,.bool xg] 30) (.cells #[.bool ya,.string yb,.bool false,.string yc,.bool yd,.string ye,.bool false,.string yf,.bool yg] 30)
 rw [← hW]
 try rw [egb]
 try rw [ega]
 clear hW ega egb
 refine wp_region_new 13 [(5,28),(6,28),(7,28)] (fun _=>.cells #[.bool false,.string ⟨#[]⟩,.bool false,.string ⟨#[]⟩] 28) (by kernel_rfl) (by kernel_rfl) (by kernel_rfl) (fun t ht ev w o ho=>by simp at ht;subst ht;exact al_rat ev w o ho) ?_
 intro U hU
 have kga:=kw_cells (hU.heap Bga.out (by simp))
 have kgb:=kw_cells (hU.heap Bgb.out (by simp))
 have Q1:Hid (∀ m:KW U,Calls Tryz.prog 128 #[.agg #[.bool xa,.string xb,.bool false,.string xc],.agg #[.bool ya,.string yb,.bool false,.string yc]] (Wk U m) fun e w'=>e = .returned (.agg #[.bool da,.string db,.bool false,.string dc])∧∃ m,w'=Wk U m):=fun m=>qk m (Hsub.out _)
 have Q2:Hid (∀ m:KW U,Calls Tryz.prog 129 #[.agg #[.bool xa,.string xb,.bool false,.string xc,.bool xd,.string xe,.bool false,.string xf,.bool xg]] (Wk U m) fun e w'=>e = .returned (.agg #[.bool ua,.string ub,.bool false,.string uc])∧∃ m,w'=Wk U m):=fun m=>qk m (Hfx.out _)
 have Q3:Hid (∀ m:KW U,Calls Tryz.prog 129 #[.agg #[.bool ya,.string yb,.bool false,.string yc,.bool yd,.string ye,.bool false,.string yf,.bool yg]] (Wk U m) fun e w'=>e = .returned (.agg #[.bool va,.string vb,.bool false,.string vc])∧∃ m,w'=Wk U m):=fun m=>qk m (Hfy.out _)
 have Q4:Hid (∀ m:KW U,Calls Tryz.prog 60 #[.agg #[.bool va,.string vb,.bool false,.string vc]] (Wk U m) fun e w'=>e = .returned (.agg #[.bool ta,.string tb,.bool false,.string tc])∧∃ m,w'=Wk U m):=fun m=>qk m (Hng.out _)
 clear Hsub Hfx Hfy Hng
 simp only [List.map_cons,List.map_nil,unal,isAl,if_true,if_false,Bool.false_eq_true,List.take_succ_cons,List.take_zero]
 repeat (first
  | go_big_quiet_skip
  | (go_big_quiet_want;go_big_quiet_op;first|go_big_quiet_on|go_big_quiet_call (first
   | (go_at_call 128;with_reducible exact (Q1).out _)|(go_at_call 129;with_reducible exact (Q2).out _)|(go_at_call 129;with_reducible exact (Q3).out _)|(go_at_call 60;with_reducible exact (Q4).out _))))
 refine wpQuiet_nil ?_
 intro p hp1 hp2 w1 hk_w1 hz
 have bgc:=hz (5,28) (by simp)
 have bgd:=hz (6,28) (by simp)
 have bge:=hz (7,28) (by simp)
 have hgc:=hp1 5 (by simp)
 have hgd:=hp1 6 (by simp)
 have hge:=hp1 7 (by simp)
 have n1:p 5≠p 6:=fun h=>absurd (hp2 5 (by simp) 6 (by simp) h) (by decide)
 have n2:p 5≠p 7:=fun h=>absurd (hp2 5 (by simp) 7 (by simp) h) (by decide)
 have n3:p 6≠p 7:=fun h=>absurd (hp2 6 (by simp) 7 (by simp) h) (by decide)
 simp only [List.map_cons,List.map_nil,pl,List.drop_succ_cons,List.drop_zero]
 dsimp only at bgc bgd bge
 generalize p 5=gc at *
 generalize p 6=gd at *
 generalize p 7=ge at *
 have Bgc:=jX bgc
 have Bgd:=jX bgd
 have Bge:=jX bge
 clear kga kgb Q1 Q2 Q3 Q4 hz hp1 hp2 bgc bgd bge hU p U
 replace Bga:=jH hk_w1 Bga
 replace Bgb:=jH hk_w1 Bgb
 replace HkW:=jX (HkW.out.trans0 hk_w1)
 clear hk_w1
 obtain⟨pgc,fgc,lgc⟩:=jQ Bgc
 obtain⟨pgd,fgd,lgd⟩:=jQ Bgd
 obtain⟨pge,fge,lge⟩:=jQ Bge
 have e1:gd≠gc:=Ne.symm n1
 have e2:ge≠gc:=Ne.symm n2
 have e3:ge≠gd:=Ne.symm n3
 go_simp
 go_wp2_with fail
 clear pgc pgd pge fgc fgd fge lgc lgd lge
 obtain⟨X1,hW2,bgc,hkW2⟩:=st4 (x:=.bool da) (y:=.string db) (z:=.bool false) (u:=.string dc) (Bgc.out:(w1).heap[gc]? = _)
 rw [← hW2]
 clear Bgc
 have Bgc:=jX bgc
 clear hW2 bgc
 have B2ga:=jX (hkW2.heap Bga.out (by simp;omega))
 clear Bga
 have Bga:=B2ga
 clear B2ga
 have B2gb:=jX (hkW2.heap Bgb.out (by simp;omega))
 clear Bgb
 have Bgb:=B2gb
 clear B2gb
 have B2gd:=jX (hkW2.heap Bgd.out (by simp;omega))
 clear Bgd
 have Bgd:=B2gd
 clear B2gd
 have B2ge:=jX (hkW2.heap Bge.out (by simp;omega))
 clear Bge
 have Bge:=B2ge
 clear B2ge
 have HkW2:=jX (HkW.out.trans hkW2 (by simp;omega))
 clear HkW hkW2
 have HkW:=HkW2
 clear HkW2
 obtain⟨X2,hW2,bgd,hkW2⟩:=st4 (x:=.bool ua) (y:=.string ub) (z:=.bool false) (u:=.string uc) (Bgd.out:(X1).heap[gd]? = _)
 rw [← hW2]
 clear Bgd
 have Bgd:=jX bgd
 clear hW2 bgd
 have B2ga:=jX (hkW2.heap Bga.out (by simp;omega))
 clear Bga
 have Bga:=B2ga
 clear B2ga
 have B2gb:=jX (hkW2.heap Bgb.out (by simp;omega))
 clear Bgb
 have Bgb:=B2gb
 clear B2gb
 have B2gc:=jX (hkW2.heap Bgc.out (by simp;omega))
 clear Bgc
 have Bgc:=B2gc
 clear B2gc
 have B2ge:=jX (hkW2.heap Bge.out (by simp;omega))
 clear Bge
 have Bge:=B2ge
 clear B2ge
 have HkW2:=jX (HkW.out.trans hkW2 (by simp;omega))
 clear HkW hkW2
 have HkW:=HkW2
 clear HkW2
 obtain⟨W2,hW2,bge,hkW2⟩:=st4 (x:=.bool ta) (y:=.string tb) (z:=.bool false) (u:=.string tc) (Bge.out:(X2).heap[ge]? = _)
 rw [← hW2]
 clear Bge
 have Bge:=jX bge
 clear hW2 bge
 have B2ga:=jX (hkW2.heap Bga.out (by simp;omega))
 clear Bga
 have Bga:=B2ga
 clear B2ga
 have B2gb:=jX (hkW2.heap Bgb.out (by simp;omega))
 clear Bgb
 have Bgb:=B2gb
 clear B2gb
 have B2gc:=jX (hkW2.heap Bgc.out (by simp;omega))
 clear Bgc
 have Bgc:=B2gc
 clear B2gc
 have B2gd:=jX (hkW2.heap Bgd.out (by simp;omega))
 clear Bgd
 have Bgd:=B2gd
 clear B2gd
 have HkW2:=jX (HkW.out.trans hkW2 (by simp;omega))
 clear HkW hkW2
 have HkW:=HkW2
 clear HkW2
 have kga:=kw_cells Bga.out
 have kgb:=kw_cells Bgb.out
 have kgc:=kw_cells Bgc.out
 have kgd:=kw_cells Bgd.out
 have kge:=kw_cells Bge.out
 have Q1:Hid (∀ m:KW W2,Calls Tryz.prog 130 #[.agg #[.bool da,.string db,.bool false,.string dc],.agg #[.bool ua,.string ub,.bool false,.string uc],.agg #[.bool xd,.string xe,.bool false,.string xf]] (Wk W2 m) fun e w'=>e = .returned (.int .i64 ma)∧∃ m,w'=Wk W2 m):=fun m=>qk m (Hsg.out _)
 have Q2:Hid (∀ m:KW W2,Calls Tryz.prog 121 #[.agg #[.bool ta,.string tb,.bool false,.string tc]] (Wk W2 m) fun e w'=>e = .returned (.int .i64 mb)∧∃ m,w'=Wk W2 m):=fun m=>qk m (Hst.out _)
 have Q3:Hid (∀ m:KW W2,Calls Tryz.prog 121 #[.agg #[.bool yd,.string ye,.bool false,.string yf]] (Wk W2 m) fun e w'=>e = .returned (.int .i64 mr)∧∃ m,w'=Wk W2 m):=fun m=>qk m (Hsy.out _)
 clear Hsg Hst Hsy
 refine wp_region_keep (by kernel_rfl) (by kernel_rfl) ?_
 repeat (first
  | go_big_quiet_skip
  | (go_big_quiet_want;go_big_quiet_op;first|go_big_quiet_on|go_big_quiet_call (first
   | (go_at_call 130;with_reducible exact (Q1).out _)|(go_at_call 121;with_reducible exact (Q2).out _)|(go_at_call 121;with_reducible exact (Q3).out _))))
 refine wpQuiet_nil ?_
 rintro w3 ⟨⟨_,hk_w3⟩,rfl⟩
 clear kga kgb kgc kgd kge Q1 Q2 Q3
 have Hk:=jX (HkW.out.trans0 hk_w3)
 clear hk_w3
 go_wp2_with fail
 go_ret
 exact ⟨rfl,Hk.out⟩
theorem cmp_high (xa xd xg ya yd yg da ua va ta:Bool) (xb xc xe xf yb yc ye yf db dc ub uc vb vc tb tc:ByteArray) (qa ra sa twa pa oa:Bool) (qb qc rb rc sb sc twb twc pb pc ob oc:ByteArray) (ma mb mr n c k:Int) (hn:mb*mr=n) (hm : -1≤ma∧ma≤1) (hn1 : -1≤n∧n≤1) (h0:n≠0) (h1:ma≠n) (h2:ma≠0) (hk:ma*c=k) (hk1 : -1≤k∧k≤1)
  (Hsub:Hid (∀ w,Calls Tryz.prog 128 #[.agg #[.bool xa,.string xb,.bool false,.string xc],.agg #[.bool ya,.string yb,.bool false,.string yc]] w fun e w'=>e = .returned (.agg #[.bool da,.string db,.bool false,.string dc])∧Keep [] w w'))
  (Hfx:Hid (∀ w,Calls Tryz.prog 129 #[.agg #[.bool xa,.string xb,.bool false,.string xc,.bool xd,.string xe,.bool false,.string xf,.bool xg]] w fun e w'=>e = .returned (.agg #[.bool ua,.string ub,.bool false,.string uc])∧Keep [] w w'))
  (Hfy:Hid (∀ w,Calls Tryz.prog 129 #[.agg #[.bool ya,.string yb,.bool false,.string yc,.bool yd,.string ye,.bool false,.string yf,.bool yg]] w fun e w'=>e = .returned (.agg #[.bool va,.string vb,.bool false,.string vc])∧Keep [] w w'))
  (Hng:Hid (∀ w,Calls Tryz.prog 60 #[.agg #[.bool va,.string vb,.bool false,.string vc]] w fun e w'=>e = .returned (.agg #[.bool ta,.string tb,.bool false,.string tc])∧Keep [] w w'))
  (Hsg:Hid (∀ w,Calls Tryz.prog 130 #[.agg #[.bool da,.string db,.bool false,.string dc],.agg #[.bool ua,.string ub,.bool false,.string uc],.agg #[.bool xd,.string xe,.bool false,.string xf]] w fun e w'=>e = .returned (.int .i64 ma)∧Keep [] w w'))
  (Hst:Hid (∀ w,Calls Tryz.prog 121 #[.agg #[.bool ta,.string tb,.bool false,.string tc]] w fun e w'=>e = .returned (.int .i64 mb)∧Keep [] w w'))
  (Hsy:Hid (∀ w,Calls Tryz.prog 121 #[.agg #[.bool yd,.string ye,.bool false,.string yf]] w fun e w'=>e = .returned (.int .i64 mr)∧Keep [] w w'))
  (Hm1:Hid (∀ w,Calls Tryz.prog 131 #[.agg #[.bool da,.string db,.bool false,.string dc],.agg #[.bool da,.string db,.bool false,.string dc]] w fun e w'=>e = .returned (.agg #[.bool qa,.string qb,.bool false,.string qc])∧Keep [] w w'))
  (Ha1:Hid (∀ w,Calls Tryz.prog 106 #[.agg #[.bool qa,.string qb,.bool false,.string qc],.agg #[.bool xd,.string xe,.bool false,.string xf]] w fun e w'=>e = .returned (.agg #[.bool ra,.string rb,.bool false,.string rc])∧Keep [] w w'))
  (Hs1:Hid (∀ w,Calls Tryz.prog 128 #[.agg #[.bool ra,.string rb,.bool false,.string rc],.agg #[.bool yd,.string ye,.bool false,.string yf]] w fun e w'=>e = .returned (.agg #[.bool sa,.string sb,.bool false,.string sc])∧Keep [] w w'))
  (Htw:Hid (∀ w,Calls Tryz.prog 102 #[.int .i64 2] w fun e w'=>e = .returned (.agg #[.bool twa,.string twb,.bool false,.string twc])∧Keep [] w w'))
  (Hm2:Hid (∀ w,Calls Tryz.prog 131 #[.agg #[.bool da,.string db,.bool false,.string dc],.agg #[.bool ua,.string ub,.bool false,.string uc]] w fun e w'=>e = .returned (.agg #[.bool pa,.string pb,.bool false,.string pc])∧Keep [] w w'))
  (Hm3:Hid (∀ w,Calls Tryz.prog 131 #[.agg #[.bool twa,.string twb,.bool false,.string twc],.agg #[.bool pa,.string pb,.bool false,.string pc]] w fun e w'=>e = .returned (.agg #[.bool oa,.string ob,.bool false,.string oc])∧Keep [] w w'))
  (Hsg2:Hid (∀ w,Calls Tryz.prog 130 #[.agg #[.bool sa,.string sb,.bool false,.string sc],.agg #[.bool oa,.string ob,.bool false,.string oc],.agg #[.bool xd,.string xe,.bool false,.string xf]] w fun e w'=>e = .returned (.int .i64 c)∧Keep [] w w'))
  (w:World) :
  Calls Tryz.prog 81 #[.agg #[.bool xa,.string xb,.bool false,.string xc,.bool xd,.string xe,.bool false,.string xf,.bool xg],.agg #[.bool ya,.string yb,.bool false,.string yc,.bool yd,.string ye,.bool false,.string yf,.bool yg]] w fun e w'=>e = .returned (.int .i64 k)∧Keep [] w w':=by
 have hw:IntKind.i64.wrap n=n:=by simp [IntKind.wrap,IntKind.bits,IntKind.signed];omega
 have hw2:IntKind.i64.wrap k=k:=by simp [IntKind.wrap,IntKind.bits,IntKind.signed];omega
 have t0:(n == 0)=false:=by simpa using h0
 have t1:(ma == n)=false:=by simpa using h1
 have t2:(ma == 0)=false:=by simpa using h2
 clear h0 h1 h2
 go_enter Tryz.func81,Tryz.ntmps81
 go_wp2_with fail
 obtain⟨W,ga,gb,hW,ega,egb,Bga,Bgb,hga,hgb,hgW,HkW⟩:=al2h w (.cells #[.bool xa,.string xb,.bool false,.string xc,.bool xd,.string xe,.bool false,.string xf,.bool xg] 30) (.cells #[.bool ya,.string yb,.bool false,.string yc,.bool yd,.string ye,.bool false,.string yf,.bool yg] 30)
 rw [← hW]
 try rw [egb]
 try rw [ega]
 clear hW ega egb
 refine wp_region_new 13 [(5,28),(6,28),(7,28)] (fun _=>.cells #[.bool false,.string ⟨#[]⟩,.bool false,.string ⟨#[]⟩] 28) (by kernel_rfl) (by kernel_rfl) (by kernel_rfl) (fun t ht ev w o ho=>by simp at ht;subst ht;exact al_rat ev w o ho) ?_
 intro U hU
 have kga:=kw_cells (hU.heap Bga.out (by simp))
 have kgb:=kw_cells (hU.heap Bgb.out (by simp))
 have Q1:Hid (∀ m:KW U,Calls Tryz.prog 128 #[.agg #[.bool xa,.string xb,.bool false,.string xc],.agg #[.bool ya,.string yb,.bool false,.string yc]] (Wk U m) fun e w'=>e = .returned (.agg #[.bool da,.string db,.bool false,.string dc])∧∃ m,w'=Wk U m):=fun m=>qk m (Hsub.out _)
 have Q2:Hid (∀ m:KW U,Calls Tryz.prog 129 #[.agg #[.bool xa,.string xb,.bool false,.string xc,.bool xd,.string xe,.bool false,.string xf,.bool xg]] (Wk U m) fun e w'=>e = .returned (.agg #[.bool ua,.string ub,.bool false,.string uc])∧∃ m,w'=Wk U m):=fun m=>qk m (Hfx.out _)
 have Q3:Hid (∀ m:KW U,Calls Tryz.prog 129 #[.agg #[.bool ya,.string yb,.bool false,.string yc,.bool yd,.string ye,.bool false,.string yf,.bool yg]] (Wk U m) fun e w'=>e = .returned (.agg #[.bool va,.string vb,.bool false,.string vc])∧∃ m,w'=Wk U m):=fun m=>qk m (Hfy.out _)
 have Q4:Hid (∀ m:KW U,Calls Tryz.prog 60 #[.agg #[.bool va,.string vb,.bool false,.string vc]] (Wk U m) fun e w'=>e = .returned (.agg #[.bool ta,.string tb,.bool false,.string tc])∧∃ m,w'=Wk U m):=fun m=>qk m (Hng.out _)
 clear Hsub Hfx Hfy Hng
 simp only [List.map_cons,List.map_nil,unal,isAl,if_true,if_false,Bool.false_eq_true,List.take_succ_cons,List.take_zero]
 repeat (first
  | go_big_quiet_skip
  | (go_big_quiet_want;go_big_quiet_op;first|go_big_quiet_on|go_big_quiet_call (first
   | (go_at_call 128;with_reducible exact (Q1).out _)|(go_at_call 129;with_reducible exact (Q2).out _)|(go_at_call 129;with_reducible exact (Q3).out _)|(go_at_call 60;with_reducible exact (Q4).out _))))
 refine wpQuiet_nil ?_
 intro p hp1 hp2 w1 hk_w1 hz
 have bgc:=hz (5,28) (by simp)
 have bgd:=hz (6,28) (by simp)
 have bge:=hz (7,28) (by simp)
 have hgc:=hp1 5 (by simp)
 have hgd:=hp1 6 (by simp)
 have hge:=hp1 7 (by simp)
 have n1:p 5≠p 6:=fun h=>absurd (hp2 5 (by simp) 6 (by simp) h) (by decide)
 have n2:p 5≠p 7:=fun h=>absurd (hp2 5 (by simp) 7 (by simp) h) (by decide)
 have n3:p 6≠p 7:=fun h=>absurd (hp2 6 (by simp) 7 (by simp) h) (by decide)
 simp only [List.map_cons,List.map_nil,pl,List.drop_succ_cons,List.drop_zero]
 dsimp only at bgc bgd bge
 generalize p 5=gc at *
 generalize p 6=gd at *
 generalize p 7=ge at *
 have Bgc:=jX bgc
 have Bgd:=jX bgd
 have Bge:=jX bge
 clear kga kgb Q1 Q2 Q3 Q4 hz hp1 hp2 bgc bgd bge hU p U
 replace Bga:=jH hk_w1 Bga
 replace Bgb:=jH hk_w1 Bgb
 replace HkW:=jX (HkW.out.trans0 hk_w1)
 clear hk_w1
 obtain⟨pgc,fgc,lgc⟩:=jQ Bgc
 obtain⟨pgd,fgd,lgd⟩:=jQ Bgd
 obtain⟨pge,fge,lge⟩:=jQ Bge
 have e1:gd≠gc:=Ne.symm n1
 have e2:ge≠gc:=Ne.symm n2
 have e3:ge≠gd:=Ne.symm n3
 go_simp
 go_wp2_with fail
 clear pgc pgd pge fgc fgd fge lgc lgd lge
 obtain⟨X1,hW2,bgc,hkW2⟩:=st4 (x:=.bool da) (y:=.string db) (z:=.bool false) (u:=.string dc) (Bgc.out:(w1).heap[gc]? = _)
 rw [← hW2]
 clear Bgc
 have Bgc:=jX bgc
 clear hW2 bgc
 have B2ga:=jX (hkW2.heap Bga.out (by simp;omega))
 clear Bga
 have Bga:=B2ga
 clear B2ga
 have B2gb:=jX (hkW2.heap Bgb.out (by simp;omega))
 clear Bgb
 have Bgb:=B2gb
 clear B2gb
 have B2gd:=jX (hkW2.heap Bgd.out (by simp;omega))
 clear Bgd
 have Bgd:=B2gd
 clear B2gd
 have B2ge:=jX (hkW2.heap Bge.out (by simp;omega))
 clear Bge
 have Bge:=B2ge
 clear B2ge
 have HkW2:=jX (HkW.out.trans hkW2 (by simp;omega))
 clear HkW hkW2
 have HkW:=HkW2
 clear HkW2
 obtain⟨X2,hW2,bgd,hkW2⟩:=st4 (x:=.bool ua) (y:=.string ub) (z:=.bool false) (u:=.string uc) (Bgd.out:(X1).heap[gd]? = _)
 rw [← hW2]
 clear Bgd
 have Bgd:=jX bgd
 clear hW2 bgd
 have B2ga:=jX (hkW2.heap Bga.out (by simp;omega))
 clear Bga
 have Bga:=B2ga
 clear B2ga
 have B2gb:=jX (hkW2.heap Bgb.out (by simp;omega))
 clear Bgb
 have Bgb:=B2gb
 clear B2gb
 have B2gc:=jX (hkW2.heap Bgc.out (by simp;omega))
 clear Bgc
 have Bgc:=B2gc
 clear B2gc
 have B2ge:=jX (hkW2.heap Bge.out (by simp;omega))
 clear Bge
 have Bge:=B2ge
 clear B2ge
 have HkW2:=jX (HkW.out.trans hkW2 (by simp;omega))
 clear HkW hkW2
 have HkW:=HkW2
 clear HkW2
 obtain⟨W2,hW2,bge,hkW2⟩:=st4 (x:=.bool ta) (y:=.string tb) (z:=.bool false) (u:=.string tc) (Bge.out:(X2).heap[ge]? = _)
 rw [← hW2]
 clear Bge
 have Bge:=jX bge
 clear hW2 bge
 have B2ga:=jX (hkW2.heap Bga.out (by simp;omega))
 clear Bga
 have Bga:=B2ga
 clear B2ga
 have B2gb:=jX (hkW2.heap Bgb.out (by simp;omega))
 clear Bgb
 have Bgb:=B2gb
 clear B2gb
 have B2gc:=jX (hkW2.heap Bgc.out (by simp;omega))
 clear Bgc
 have Bgc:=B2gc
 clear B2gc
 have B2gd:=jX (hkW2.heap Bgd.out (by simp;omega))
 clear Bgd
 have Bgd:=B2gd
 clear B2gd
 have HkW2:=jX (HkW.out.trans hkW2 (by simp;omega))
 clear HkW hkW2
 have HkW:=HkW2
 clear HkW2
 have kga:=kw_cells Bga.out
 have kgb:=kw_cells Bgb.out
 have kgc:=kw_cells Bgc.out
 have kgd:=kw_cells Bgd.out
 have kge:=kw_cells Bge.out
 have Q1:Hid (∀ m:KW W2,Calls Tryz.prog 130 #[.agg #[.bool da,.string db,.bool false,.string dc],.agg #[.bool ua,.string ub,.bool false,.string uc],.agg #[.bool xd,.string xe,.bool false,.string xf]] (Wk W2 m) fun e w'=>e = .returned (.int .i64 ma)∧∃ m,w'=Wk W2 m):=fun m=>qk m (Hsg.out _)
 have Q2:Hid (∀ m:KW W2,Calls Tryz.prog 121 #[.agg #[.bool ta,.string tb,.bool false,.string tc]] (Wk W2 m) fun e w'=>e = .returned (.int .i64 mb)∧∃ m,w'=Wk W2 m):=fun m=>qk m (Hst.out _)
 have Q3:Hid (∀ m:KW W2,Calls Tryz.prog 121 #[.agg #[.bool yd,.string ye,.bool false,.string yf]] (Wk W2 m) fun e w'=>e = .returned (.int .i64 mr)∧∃ m,w'=Wk W2 m):=fun m=>qk m (Hsy.out _)
 clear Hsg Hst Hsy
 refine wp_region_keep (by kernel_rfl) (by kernel_rfl) ?_
 repeat (first
  | go_big_quiet_skip
  | (go_big_quiet_want;go_big_quiet_op;first|go_big_quiet_on|go_big_quiet_call (first
   | (go_at_call 130;with_reducible exact (Q1).out _)|(go_at_call 121;with_reducible exact (Q2).out _)|(go_at_call 121;with_reducible exact (Q3).out _))))
 refine wpQuiet_nil ?_
 rintro w3 ⟨⟨_,hk_w3⟩,rfl⟩
 clear kga kgb kgc kgd kge Q1 Q2 Q3
 replace Bga:=jH hk_w3 Bga
 replace Bgb:=jH hk_w3 Bgb
 replace Bgc:=jH hk_w3 Bgc
 replace Bgd:=jH hk_w3 Bgd
 replace Bge:=jH hk_w3 Bge
 replace HkW:=jX (HkW.out.trans0 hk_w3)
 clear hk_w3
 have hgW3:ge<w3.heap.size∧gd<w3.heap.size∧gc<w3.heap.size:=⟨lt_of_heap Bge.out,lt_of_heap Bgd.out,lt_of_heap Bgc.out⟩
 have hgW4:gb<w3.heap.size:=lt_of_heap Bgb.out
 go_wp2_with fail
 refine wp_region_new 10 [(10,28)] (fun _=>.cells #[.bool false,.string ⟨#[]⟩,.bool false,.string ⟨#[]⟩] 28) (by kernel_rfl) (by kernel_rfl) (by kernel_rfl) (fun t ht ev w o ho=>by simp at ht;subst ht;exact al_rat ev w o ho) ?_
 intro U hU
 have kga:=kw_cells (hU.heap Bga.out (by simp))
 have kgb:=kw_cells (hU.heap Bgb.out (by simp))
 have kgc:=kw_cells (hU.heap Bgc.out (by simp))
 have Q1:Hid (∀ m:KW U,Calls Tryz.prog 131 #[.agg #[.bool da,.string db,.bool false,.string dc],.agg #[.bool da,.string db,.bool false,.string dc]] (Wk U m) fun e w'=>e = .returned (.agg #[.bool qa,.string qb,.bool false,.string qc])∧∃ m,w'=Wk U m):=fun m=>qk m (Hm1.out _)
 have Q2:Hid (∀ m:KW U,Calls Tryz.prog 106 #[.agg #[.bool qa,.string qb,.bool false,.string qc],.agg #[.bool xd,.string xe,.bool false,.string xf]] (Wk U m) fun e w'=>e = .returned (.agg #[.bool ra,.string rb,.bool false,.string rc])∧∃ m,w'=Wk U m):=fun m=>qk m (Ha1.out _)
 have Q3:Hid (∀ m:KW U,Calls Tryz.prog 128 #[.agg #[.bool ra,.string rb,.bool false,.string rc],.agg #[.bool yd,.string ye,.bool false,.string yf]] (Wk U m) fun e w'=>e = .returned (.agg #[.bool sa,.string sb,.bool false,.string sc])∧∃ m,w'=Wk U m):=fun m=>qk m (Hs1.out _)
 clear Hm1 Ha1 Hs1
 simp only [List.map_cons,List.map_nil,unal,isAl,if_true,if_false,Bool.false_eq_true,List.take_succ_cons,List.take_zero]
 repeat (first
  | go_big_quiet_skip
  | (go_big_quiet_want;go_big_quiet_op;first|go_big_quiet_on|go_big_quiet_call (first
   | (go_at_call 131;with_reducible exact (Q1).out _)|(go_at_call 106;with_reducible exact (Q2).out _)|(go_at_call 128;with_reducible exact (Q3).out _))))
 refine wpQuiet_nil ?_
 intro p hp1 hp2 w4 hk_w4 hz
 have bgf:=hz (10,28) (by simp)
 have hgf:=hp1 10 (by simp)
 simp only [List.map_cons,List.map_nil,pl,List.drop_succ_cons,List.drop_zero]
 dsimp only at bgf
 generalize p 10=gf at *
 have Bgf:=jX bgf
 clear kga kgb kgc Q1 Q2 Q3 hz hp1 hp2 bgf hU p U
 replace Bga:=jH hk_w4 Bga
 replace Bgb:=jH hk_w4 Bgb
 replace Bgc:=jH hk_w4 Bgc
 replace Bgd:=jH hk_w4 Bgd
 replace Bge:=jH hk_w4 Bge
 replace HkW:=jX (HkW.out.trans0 hk_w4)
 clear hk_w4
 obtain⟨pgf,fgf,lgf⟩:=jQ Bgf
 go_simp
 go_wp2_with fail
 clear pgf fgf lgf
 obtain⟨W5,hW2,bgf,hkW2⟩:=st4 (x:=.bool sa) (y:=.string sb) (z:=.bool false) (u:=.string sc) (Bgf.out:(w4).heap[gf]? = _)
 rw [← hW2]
 clear Bgf
 have Bgf:=jX bgf
 clear hW2 bgf
 have B2ga:=jX (hkW2.heap Bga.out (by simp;omega))
 clear Bga
 have Bga:=B2ga
 clear B2ga
 have B2gb:=jX (hkW2.heap Bgb.out (by simp;omega))
 clear Bgb
 have Bgb:=B2gb
 clear B2gb
 have B2gc:=jX (hkW2.heap Bgc.out (by simp;omega))
 clear Bgc
 have Bgc:=B2gc
 clear B2gc
 have B2gd:=jX (hkW2.heap Bgd.out (by simp;omega))
 clear Bgd
 have Bgd:=B2gd
 clear B2gd
 have B2ge:=jX (hkW2.heap Bge.out (by simp;omega))
 clear Bge
 have Bge:=B2ge
 clear B2ge
 have HkW2:=jX (HkW.out.trans hkW2 (by simp;omega))
 clear HkW hkW2
 have HkW:=HkW2
 clear HkW2
 have kga:=kw_cells Bga.out
 have kgb:=kw_cells Bgb.out
 have kgc:=kw_cells Bgc.out
 have kgd:=kw_cells Bgd.out
 have kge:=kw_cells Bge.out
 have kgf:=kw_cells Bgf.out
 have Q1:Hid (∀ m:KW W5,Calls Tryz.prog 102 #[.int .i64 2] (Wk W5 m) fun e w'=>e = .returned (.agg #[.bool twa,.string twb,.bool false,.string twc])∧∃ m,w'=Wk W5 m):=fun m=>qk m (Htw.out _)
 have Q2:Hid (∀ m:KW W5,Calls Tryz.prog 131 #[.agg #[.bool da,.string db,.bool false,.string dc],.agg #[.bool ua,.string ub,.bool false,.string uc]] (Wk W5 m) fun e w'=>e = .returned (.agg #[.bool pa,.string pb,.bool false,.string pc])∧∃ m,w'=Wk W5 m):=fun m=>qk m (Hm2.out _)
 have Q3:Hid (∀ m:KW W5,Calls Tryz.prog 131 #[.agg #[.bool twa,.string twb,.bool false,.string twc],.agg #[.bool pa,.string pb,.bool false,.string pc]] (Wk W5 m) fun e w'=>e = .returned (.agg #[.bool oa,.string ob,.bool false,.string oc])∧∃ m,w'=Wk W5 m):=fun m=>qk m (Hm3.out _)
 have Q4:Hid (∀ m:KW W5,Calls Tryz.prog 130 #[.agg #[.bool sa,.string sb,.bool false,.string sc],.agg #[.bool oa,.string ob,.bool false,.string oc],.agg #[.bool xd,.string xe,.bool false,.string xf]] (Wk W5 m) fun e w'=>e = .returned (.int .i64 c)∧∃ m,w'=Wk W5 m):=fun m=>qk m (Hsg2.out _)
 clear Htw Hm2 Hm3 Hsg2
 refine wp_region_keep (by kernel_rfl) (by kernel_rfl) ?_
 repeat (first
  | go_big_quiet_skip
  | (go_big_quiet_want;go_big_quiet_op;first|go_big_quiet_on|go_big_quiet_call (first
   | (go_at_call 102;with_reducible exact (Q1).out _)|(go_at_call 131;with_reducible exact (Q2).out _)|(go_at_call 131;with_reducible exact (Q3).out _)|(go_at_call 130;with_reducible exact (Q4).out _))))
 refine wpQuiet_nil ?_
 rintro w6 ⟨⟨_,hk_w6⟩,rfl⟩
 have Hk:=jX (HkW.out.trans0 hk_w6)
 clear hk_w6 kga kgb kgc kgd kge kgf Q1 Q2 Q3 Q4
 go_wp2_with fail
 go_ret
 exact ⟨rfl,Hk.out⟩
theorem sg1_range (a b r:Rat) : -1≤sg1 a b r∧sg1 a b r≤1:=by
 have h1:=sgn_range a
 have h2:=sgn_mul_range b r
 have h3:=sgn_mul_range a (a*a-b*b*r)
 unfold sg1
 split
 ·exact h1
 split
 ·exact h2
 exact h3
theorem u_fit (x:Qn):FitQ 100 x.u:=by
 rcases x.u_or with h|h<;>rw [h]<;>(refine ⟨?_,?_⟩<;>rw [Fit_iff]<;>decide)
theorem RCompare_c (x y:Qn) (hx:FitR 10000000 x) (hy:FitR 10000000 y) (w:World) :
  Calls Tryz.prog 81 #[qv x,qv y] w fun e w'=>e = .returned (.int .i64 (cmpQ x y))∧Keep [] w w':=by
 have hd:=FitQ.sub hx.1 hy.1
 have hu:=u_fit x
 have f1:=QSub_c x.p y.p (hx.1.mono (by decide)) (hy.1.mono (by decide))
 have f5:=sign_c (x.p-y.p) x.u x.r (hd.mono (by decide)) (hu.mono (by decide)) (hx.2.mono (by decide))
 have hma:=sg1_range (x.p-y.p) x.u x.r
 have hmn:=sgn_mul_range (-y.u) y.r
 unfold cmpQ
 by_cases hc:sgn (-y.u)*sgn y.r=0∨sg1 (x.p-y.p) x.u x.r=sgn (-y.u)*sgn y.r∨sg1 (x.p-y.p) x.u x.r=0
 ·have:=cmp_low _ _ _ _ _ _ _ _ _ _ _ _ _ _ _ _ _ _ _ _ _ _ _ _ _ _ (sg1 (x.p-y.p) x.u x.r) (sgn (-y.u)) (sgn y.r) _ rfl hma hmn hc f1 (factor_c x) (factor_c y) (QNeg_c y.u) f5 (QSign_c (-y.u)) (QSign_c y.r) w
  refine this.mono fun e w' h=>⟨?_,h.2⟩
  rw [h.1]
  by_cases h1:sgn (-y.u)*sgn y.r=0∨sg1 (x.p-y.p) x.u x.r=sgn (-y.u)*sgn y.r
  ·rw [if_pos h1,if_pos h1]
  rw [if_neg h1,if_neg h1,if_pos (by rcases hc with h|h|h;exact absurd (.inl h) h1;exact absurd (.inr h) h1;exact h)]
 have h0:sgn (-y.u)*sgn y.r≠0:=fun h=>hc (.inl h)
 have h1:sg1 (x.p-y.p) x.u x.r≠sgn (-y.u)*sgn y.r:=fun h=>hc (.inr (.inl h))
 have h2:sg1 (x.p-y.p) x.u x.r≠0:=fun h=>hc (.inr (.inr h))
 rw [if_neg (by rintro (h|h);exact h0 h;exact h1 h),if_neg h2]
 have hdd:=hd.mul hd
 have hsq:=(hdd.add hx.2).sub hy.2
 have h2f:FitQ 100 (2:Rat):=by refine ⟨?_,?_⟩<;>rw [Fit_iff]<;>decide
 have hdu:=hd.mul hu
 have h2du:=h2f.mul hdu
 have hc1:=sg1_range ((x.p-y.p)*(x.p-y.p)+x.r-y.r) (2*((x.p-y.p)*x.u)) x.r
 refine cmp_high _ _ _ _ _ _ _ _ _ _ _ _ _ _ _ _ _ _ _ _ _ _ _ _ _ _ _ _ _ _ _ _ _ _ _ _ _ _ _ _ _ _ _ _ (sg1 (x.p-y.p) x.u x.r) (sgn (-y.u)) (sgn y.r) _ (sg1 ((x.p-y.p)*(x.p-y.p)+x.r-y.r) (2*((x.p-y.p)*x.u)) x.r) _ rfl hma hmn h0 h1 h2 rfl ?_ f1 (factor_c x) (factor_c y) (QNeg_c y.u) f5 (QSign_c (-y.u)) (QSign_c y.r)
  (QMul_c _ _ (hd.mono (by decide)) (hd.mono (by decide))) (QAdd_c _ _ (hdd.mono (by decide)) (hx.2.mono (by decide))) (QSub_c _ _ ((hdd.add hx.2).mono (by decide)) (hy.2.mono (by decide))) (QFromInt_c 2 (by decide) (by decide))
  (QMul_c _ _ (hd.mono (by decide)) (hu.mono (by decide))) (QMul_c _ _ (h2f.mono (by decide)) (hdu.mono (by decide))) (sign_c _ _ _ (hsq.mono (by decide)) (h2du.mono (by decide)) (hx.2.mono (by decide))) w
 ·rcases hc1 with ⟨g1,g2⟩
  rcases hma with ⟨g3,g4⟩
  have ha:sg1 (x.p-y.p) x.u x.r = -1∨sg1 (x.p-y.p) x.u x.r=1:=by omega
  rcases ha with ha|ha<;>rw [ha]<;>omega
end Go.Proofs.YtpgffjjpiafhpaaGreatDoor
