/- Parts of a proof: Re Rl Pk Sq. -/
import Derived.Lib.ReflectliteSwap
import Derived.Test.YtejegogbhpmgfaaGreatDoorG10
import Derived.Test.YtejegogbhpmgfaaGreatDoorG01
set_option linter.unusedVariables false
set_option linter.unusedSimpArgs false
set_option maxRecDepth 100000
set_option maxHeartbeats 8000000
namespace Go.Proofs.YtejegogbhpmgfaaGreatDoor
open Go.RowKit Tryz
theorem ydL (q:Rat):zsgn q.num=sgn q:=by
 unfold zsgn sgn;by_cases h:q<0
 ·have h1:¬ 0≤q.num:=fun e=>absurd (Rat.num_nonneg.1 e) (by grind)
  rw [if_pos (by omega),if_pos h]
 have h1:0≤q.num:=Rat.num_nonneg.2 (Rat.not_lt.1 h);rw [if_neg (by omega),if_neg h];by_cases h2:q.num=0
 ·rw [if_pos h2]
  have:q=0:=Rat.num_eq_zero.1 h2;subst this;rfl
 have h3:q≠0:=fun e=>h2 (Rat.num_eq_zero.2 e);have h4:0<q:=by grind
 rw [if_neg h2,if_pos h4]
theorem qcmp_sgn (a b:Rat):qcmp a b=sgn (a-b):=by
 unfold qcmp sgn Lib.compareInt;have h1:=Rat.lt_iff a b;have h2:=Rat.lt_iff b a;by_cases h:a<b
 ·have e1:a-b<0:=by grind
  rw [if_pos (h1.1 h),if_pos e1]
 have e1:¬ a-b<0:=by grind
 rw [if_neg (fun e=>h (h1.2 e)),if_neg e1];by_cases h':b<a
 ·have e2:0<a-b:=by grind
  rw [if_pos (h2.1 h'),if_pos e2]
 have e2:¬ 0<a-b:=by grind
 rw [if_neg (fun e=>h' (h2.2 e)),if_neg e2]
theorem ygV (q:Rat) : -1≤sgn q∧sgn q≤1:=by
 unfold sgn;split
 ·omega
 split<;>omega
theorem QSub_c (a b:Rat) (ha:FitQ 10000000000 a) (hb:FitQ 10000000000 b) (w:World) :
  Calls prog 116 #[rv a,rv b] w fun e w'=>e = .returned (rv (a-b))∧Keep [] w w':=by
 have Hn:=jX (QNeg_c b);have Hs:=jX (QAdd_c a (-b) ha hb.neg);rw [← Rat.sub_eq_add_neg] at Hs;unfold rv at *;generalize sgB (a-b).num=nr at *;generalize mgS (a-b).num=sr at *;generalize dnS (a-b).den=dr at *;generalize sgB (-b).num=nc at *;generalize mgS (-b).num=sc at *;generalize dnS (-b).den=dc at *;generalize sgB (a).num=na at *;generalize mgS (a).num=sa at *;generalize dnS (a).den=da at *;generalize sgB (b).num=nb at *;generalize mgS (b).num=sb at *;generalize dnS (b).den=db at *;clear ha hb;go_enter func116,ntmps116
 go_wp2_with fail;obtain⟨W,ga,gb,gc,hW,ega,egb,egc,Bga,Bgb,Bgc,hga,hgb,hgc,hgW,HkW⟩:=al3h w (.cells #[.bool na,.string sa,.bool false,.string da] 34) (.cells #[.bool nb,.string sb,.bool false,.string db] 34) (.cells #[.bool false,.string ⟨#[]⟩,.bool false,.string ⟨#[]⟩] 34);rw [← hW];try rw [egc]
 try rw [egb]
 try rw [ega]
 clear hW ega egb egc;have kga:=yag Bga.out;have kgb:=yag Bgb.out;have Q1:Hid (∀ m:KW W,Calls prog 118 #[.agg #[.bool nb,.string sb,.bool false,.string db]] (Wk W m) fun e w'=>e = .returned (.agg #[.bool nc,.string sc,.bool false,.string dc])∧∃ m,w'=Wk W m):=fun m=>qk m (Hn.out _);have Q2:Hid (∀ m:KW W,Calls prog 120 #[.agg #[.bool na,.string sa,.bool false,.string da],.agg #[.bool nc,.string sc,.bool false,.string dc]] (Wk W m) fun e w'=>e = .returned (.agg #[.bool nr,.string sr,.bool false,.string dr])∧∃ m,w'=Wk W m):=fun m=>qk m (Hs.out _);clear Hn Hs;refine yan 4 (by kernel_rfl) (by kernel_rfl) ?_;simp only [List.take_succ_cons,List.take_zero,List.drop_succ_cons,List.drop_zero]
 repeat (first
  | go_big_quiet_skip
  | (go_big_quiet_want;go_big_quiet_op;first|go_big_quiet_on|go_big_quiet_call (first
   | (go_at_call 118;with_reducible exact (Q1).out _)|(go_at_call 120;with_reducible exact (Q2).out _))))
 refine wpQuiet_nil ?_;rintro wz ⟨⟨_,hk_wz⟩,rfl⟩;clear kga kgb Q1 Q2;replace Bga:=jH hk_wz Bga;replace Bgb:=jH hk_wz Bgb;replace Bgc:=jH hk_wz Bgc;replace HkW:=jX (HkW.out.tz hk_wz);clear hk_wz;obtain⟨pgc,fgc,lgc⟩:=jQ Bgc;go_wp2_with fail;refine bodyPost_ret (v:=.agg #[.bool nr,.string sr,.bool false,.string dr]) ?_ rfl ⟨rfl,by repeat (first|(with_reducible exact HkW.out)|(refine Keep.sP ?_ _ _ _ (by omega))|(refine Keep.aP ?_ _)|(refine Keep.dP ?_))⟩;rw [yah rfl];go_simp
theorem QSign_c (a:Rat) (w:World) :
  Calls prog 85 #[rv a] w fun e w'=>e = .returned (.int .i64 (sgn a))∧Keep [] w w':=by
 have Hs:=jX (Sign_c a.num);rw [ydL] at Hs;unfold rv zv at *;generalize sgB (a).num=na at *;generalize mgS (a).num=sa at *;generalize dnS (a).den=da at *;generalize sgn a=c at *;go_enter func85,ntmps85
 go_wp2_with fail;have HkW:=jX (Keep.alloc [] w (.cells #[.bool na,.string sa,.bool false,.string da] 34));refine (Hs.out _).mono ?_;rintro e w1 ⟨rfl,hk1⟩;dsimp only;have Hk:=jX (HkW.out.tz hk1);clear hk1 Hs;go_wp2_with fail;go_ret
 exact ⟨rfl,Hk.out⟩
theorem QFromInt_c (n:Int) (h1 : -9223372036854775808≤n) (h2:n≤9223372036854775807) (w:World) :
  Calls prog 122 #[.int .i64 n] w fun e w'=>e = .returned (rv (n:Rat))∧Keep [] w w':=by
 have Hs:=jX (FromInt_c n h1 h2);unfold rv zv at *;rw [show ((n:Rat)).num=n from rfl,show ((n:Rat)).den=1 from rfl,ycB rfl]
 generalize sgB (n)=nr at *;generalize mgS (n)=sr at *;clear h1 h2;go_enter func122,ntmps122
 go_wp2_with fail;obtain⟨W,ga,hW,ega,Bga,hga,hgW,HkW⟩:=al1h w (.cells #[.bool false,.string ⟨#[]⟩,.bool false,.string ⟨#[]⟩] 34);rw [← hW];try rw [ega]
 clear hW ega;refine (Hs.out _).mono ?_;rintro e wz ⟨rfl,hk_wz⟩;dsimp only;clear Hs;replace Bga:=jH hk_wz Bga;replace HkW:=jX (HkW.out.tz hk_wz);clear hk_wz;obtain⟨pga,fga,lga⟩:=jQ Bga;go_wp2_with fail;refine bodyPost_ret (v:=.agg #[.bool nr,.string sr,.bool false,.string ⟨#[]⟩]) ?_ rfl ⟨rfl,by repeat (first|(with_reducible exact HkW.out)|(refine Keep.sP ?_ _ _ _ (by omega))|(refine Keep.aP ?_ _)|(refine Keep.dP ?_))⟩;rw [yah rfl];go_simp
theorem QCompare_c (a b:Rat) (ha:FitQ 10000000000 a) (hb:FitQ 10000000000 b) (w:World) :
  Calls prog 158 #[rv a,rv b] w fun e w'=>e = .returned (.int .i64 (sgn (a-b)))∧Keep [] w w':=by
 have hgd:=eqQ_g;have heq:=eqQ_run a b;by_cases hab:a=b
 ·rw [show decide (a=b)=true by simpa using hab] at heq
  have e0:sgn (a-b)=0:=by rw [hab,Rat.sub_self];rfl
  rw [e0];unfold rv at *;generalize sgB (a).num=na at *;generalize mgS (a).num=sa at *;generalize dnS (a).den=da at *;generalize sgB (b).num=nb at *;generalize mgS (b).num=sb at *;generalize dnS (b).den=db at *;clear hab e0 ha hb;go_enter func158,ntmps158
  go_wp2_with fail;go_ret
  exact ⟨rfl,(Keep.alloc [] _ _).aP _⟩
 rw [show decide (a=b)=false by simpa using hab] at heq
 have Hc:=jX (cross_c a b ha hb);have hcm:=Compare_c (crX a b) (crY a b);rw [cr_cmp] at hcm;have e0:=qcmp_sgn a b;unfold qcmp at e0;rw [e0] at hcm;have Hm:=jX hcm;unfold rv zv at *;generalize sgn (a-b)=c at *;generalize crX a b=x at *;generalize crY a b=y at *;generalize crD a b=d at *;generalize sgB (x)=nx at *;generalize mgS (x)=sx at *;generalize sgB (y)=ny at *;generalize mgS (y)=sy at *;generalize sgB (d)=nd at *;generalize mgS (d)=sd at *;generalize sgB (a).num=na at *;generalize mgS (a).num=sa at *;generalize dnS (a).den=da at *;generalize sgB (b).num=nb at *;generalize mgS (b).num=sb at *;generalize dnS (b).den=db at *;clear hab e0 ha hb hcm;go_enter func158,ntmps158
 go_wp2_with fail;obtain⟨W,ga,gb,hW,ega,egb,Bga,Bgb,hga,hgb,hgW,HkW⟩:=al2h w (.cells #[.bool na,.string sa,.bool false,.string da] 34) (.cells #[.bool nb,.string sb,.bool false,.string db] 34);rw [← hW];try rw [egb]
 try rw [ega]
 clear hW ega egb;refine (Hc.out W).mono ?_;rintro e w1 ⟨rfl,hk1⟩;dsimp only;clear Hc;replace Bga:=jH hk1 Bga;replace Bgb:=jH hk1 Bgb;replace HkW:=jX (HkW.out.tz hk1);clear hk1;go_wp2_with fail;refine (Hm.out _).mono ?_;rintro e w2 ⟨rfl,hk2⟩;dsimp only;clear Hm;have Hk:=jX ((((HkW.out.aP _).aP _).aP _).tz hk2);clear hk2;go_wp2_with fail;go_ret
 exact ⟨rfl,Hk.out⟩
theorem sign_low (na nb nr:Bool) (sa sb sr da db dr:ByteArray) (ma mb mr n:Int) (hn:mb*mr=n) (hm : -1≤ma∧ma≤1) (hn1 : -1≤n∧n≤1) (hc:n=0∨ma=n∨ma=0)
  (Ha:Hid (∀ w,Calls prog 85 #[.agg #[.bool na,.string sa,.bool false,.string da]] w fun e w'=>e = .returned (.int .i64 ma)∧Keep [] w w'))
  (Hb:Hid (∀ w,Calls prog 85 #[.agg #[.bool nb,.string sb,.bool false,.string db]] w fun e w'=>e = .returned (.int .i64 mb)∧Keep [] w w'))
  (Hr:Hid (∀ w,Calls prog 85 #[.agg #[.bool nr,.string sr,.bool false,.string dr]] w fun e w'=>e = .returned (.int .i64 mr)∧Keep [] w w')) (w:World) :
  Calls prog 119 #[.agg #[.bool na,.string sa,.bool false,.string da],.agg #[.bool nb,.string sb,.bool false,.string db],.agg #[.bool nr,.string sr,.bool false,.string dr]] w fun e w'=>e = .returned (.int .i64 (if n=0∨ma=n then ma else n))∧Keep [] w w':=by
 have hw:IntKind.i64.wrap n=n:=by simp [IntKind.wrap,IntKind.bits,IntKind.signed];omega
 by_cases h0:n=0
 ·rw [if_pos (.inl h0)]
  have t0:(n == 0)=true:=by simpa using h0
  clear hc;go_enter func119,ntmps119
  go_wp2_with fail;obtain⟨W,ga,gb,gc,hW,ega,egb,egc,Bga,Bgb,Bgc,hga,hgb,hgc,hgW,HkW⟩:=al3h w (.cells #[.bool na,.string sa,.bool false,.string da] 34) (.cells #[.bool nb,.string sb,.bool false,.string db] 34) (.cells #[.bool nr,.string sr,.bool false,.string dr] 34);rw [← hW];try rw [egc]
  try rw [egb]
  try rw [ega]
  clear hW ega egb egc;have kga:=yag Bga.out;have kgb:=yag Bgb.out;have kgc:=yag Bgc.out;have Q1:Hid (∀ m:KW W,Calls prog 85 #[.agg #[.bool na,.string sa,.bool false,.string da]] (Wk W m) fun e w'=>e = .returned (.int .i64 ma)∧∃ m,w'=Wk W m):=fun m=>qk m (Ha.out _);have Q2:Hid (∀ m:KW W,Calls prog 85 #[.agg #[.bool nb,.string sb,.bool false,.string db]] (Wk W m) fun e w'=>e = .returned (.int .i64 mb)∧∃ m,w'=Wk W m):=fun m=>qk m (Hb.out _);have Q3:Hid (∀ m:KW W,Calls prog 85 #[.agg #[.bool nr,.string sr,.bool false,.string dr]] (Wk W m) fun e w'=>e = .returned (.int .i64 mr)∧∃ m,w'=Wk W m):=fun m=>qk m (Hr.out _);clear Ha Hb Hr;refine yac (by kernel_rfl) (by kernel_rfl) ?_
  repeat (first
   | go_big_quiet_skip
   | (go_big_quiet_want;go_big_quiet_op;first|go_big_quiet_on|go_big_quiet_call (first
    | (go_at_call 85;with_reducible exact (Q1).out _)|(go_at_call 85;with_reducible exact (Q2).out _)|(go_at_call 85;with_reducible exact (Q3).out _))))
  refine wpQuiet_nil ?_;rintro w1 ⟨⟨_,hk_w1⟩,rfl⟩;clear Q1 Q2 Q3 kga kgb kgc;have Hk:=jX (HkW.out.tz hk_w1);clear hk_w1;go_wp2_with fail;go_ret
  exact ⟨rfl,Hk.out⟩
 have t0:(n == 0)=false:=by simpa using h0
 by_cases h1:ma=n
 ·rw [if_pos (.inr h1)]
  have t1:(ma == n)=true:=by simpa using h1
  have H1:=jX h1;clear hc h1;go_enter func119,ntmps119
  go_wp2_with fail;obtain⟨W,ga,gb,gc,hW,ega,egb,egc,Bga,Bgb,Bgc,hga,hgb,hgc,hgW,HkW⟩:=al3h w (.cells #[.bool na,.string sa,.bool false,.string da] 34) (.cells #[.bool nb,.string sb,.bool false,.string db] 34) (.cells #[.bool nr,.string sr,.bool false,.string dr] 34);rw [← hW];try rw [egc]
  try rw [egb]
  try rw [ega]
  clear hW ega egb egc;have kga:=yag Bga.out;have kgb:=yag Bgb.out;have kgc:=yag Bgc.out;have Q1:Hid (∀ m:KW W,Calls prog 85 #[.agg #[.bool na,.string sa,.bool false,.string da]] (Wk W m) fun e w'=>e = .returned (.int .i64 ma)∧∃ m,w'=Wk W m):=fun m=>qk m (Ha.out _);have Q2:Hid (∀ m:KW W,Calls prog 85 #[.agg #[.bool nb,.string sb,.bool false,.string db]] (Wk W m) fun e w'=>e = .returned (.int .i64 mb)∧∃ m,w'=Wk W m):=fun m=>qk m (Hb.out _);have Q3:Hid (∀ m:KW W,Calls prog 85 #[.agg #[.bool nr,.string sr,.bool false,.string dr]] (Wk W m) fun e w'=>e = .returned (.int .i64 mr)∧∃ m,w'=Wk W m):=fun m=>qk m (Hr.out _);clear Ha Hb Hr;refine yac (by kernel_rfl) (by kernel_rfl) ?_
  repeat (first
   | go_big_quiet_skip
   | (go_big_quiet_want;go_big_quiet_op;first|go_big_quiet_on|go_big_quiet_call (first
    | (go_at_call 85;with_reducible exact (Q1).out _)|(go_at_call 85;with_reducible exact (Q2).out _)|(go_at_call 85;with_reducible exact (Q3).out _))))
  refine wpQuiet_nil ?_;rintro w1 ⟨⟨_,hk_w1⟩,rfl⟩;clear Q1 Q2 Q3 kga kgb kgc;have Hk:=jX (HkW.out.tz hk_w1);clear hk_w1;go_wp2_with fail;go_ret
  exact ⟨rfl,Hk.out⟩
 have h2:ma=0:=by rcases hc with h|h|h<;>simp_all
 rw [if_neg (by rintro (h|h)<;>simp_all)];have t1:(ma == n)=false:=by simpa using h1
 have t2:(ma == 0)=true:=by simpa using h2
 clear hc h1 h0 h2;go_enter func119,ntmps119
 go_wp2_with fail;obtain⟨W,ga,gb,gc,hW,ega,egb,egc,Bga,Bgb,Bgc,hga,hgb,hgc,hgW,HkW⟩:=al3h w (.cells #[.bool na,.string sa,.bool false,.string da] 34) (.cells #[.bool nb,.string sb,.bool false,.string db] 34) (.cells #[.bool nr,.string sr,.bool false,.string dr] 34);rw [← hW];try rw [egc]
 try rw [egb]
 try rw [ega]
 clear hW ega egb egc;have kga:=yag Bga.out;have kgb:=yag Bgb.out;have kgc:=yag Bgc.out;have Q1:Hid (∀ m:KW W,Calls prog 85 #[.agg #[.bool na,.string sa,.bool false,.string da]] (Wk W m) fun e w'=>e = .returned (.int .i64 ma)∧∃ m,w'=Wk W m):=fun m=>qk m (Ha.out _);have Q2:Hid (∀ m:KW W,Calls prog 85 #[.agg #[.bool nb,.string sb,.bool false,.string db]] (Wk W m) fun e w'=>e = .returned (.int .i64 mb)∧∃ m,w'=Wk W m):=fun m=>qk m (Hb.out _);have Q3:Hid (∀ m:KW W,Calls prog 85 #[.agg #[.bool nr,.string sr,.bool false,.string dr]] (Wk W m) fun e w'=>e = .returned (.int .i64 mr)∧∃ m,w'=Wk W m):=fun m=>qk m (Hr.out _);clear Ha Hb Hr;refine yac (by kernel_rfl) (by kernel_rfl) ?_
 repeat (first
  | go_big_quiet_skip
  | (go_big_quiet_want;go_big_quiet_op;first|go_big_quiet_on|go_big_quiet_call (first
   | (go_at_call 85;with_reducible exact (Q1).out _)|(go_at_call 85;with_reducible exact (Q2).out _)|(go_at_call 85;with_reducible exact (Q3).out _))))
 refine wpQuiet_nil ?_;rintro w1 ⟨⟨_,hk_w1⟩,rfl⟩;clear Q1 Q2 Q3 kga kgb kgc;have Hk:=jX (HkW.out.tz hk_w1);clear hk_w1;go_wp2_with fail;go_ret
 exact ⟨rfl,Hk.out⟩
theorem sign_high (na nb nr n1 n2 n3:Bool) (sa sb sr da db dr s1 s2 s3 d1 d2 d3:ByteArray) (ma mb mr n c k:Int) (hn:mb*mr=n) (hm : -1≤ma∧ma≤1) (hn1 : -1≤n∧n≤1) (h0:n≠0) (h1:ma≠n) (h2:ma≠0) (hk:ma*c=k) (hk1 : -1≤k∧k≤1)
  (Ha:Hid (∀ w,Calls prog 85 #[.agg #[.bool na,.string sa,.bool false,.string da]] w fun e w'=>e = .returned (.int .i64 ma)∧Keep [] w w'))
  (Hb:Hid (∀ w,Calls prog 85 #[.agg #[.bool nb,.string sb,.bool false,.string db]] w fun e w'=>e = .returned (.int .i64 mb)∧Keep [] w w'))
  (Hr:Hid (∀ w,Calls prog 85 #[.agg #[.bool nr,.string sr,.bool false,.string dr]] w fun e w'=>e = .returned (.int .i64 mr)∧Keep [] w w'))
  (Hm1:Hid (∀ w,Calls prog 121 #[.agg #[.bool na,.string sa,.bool false,.string da],.agg #[.bool na,.string sa,.bool false,.string da]] w fun e w'=>e = .returned (.agg #[.bool n1,.string s1,.bool false,.string d1])∧Keep [] w w'))
  (Hm2:Hid (∀ w,Calls prog 121 #[.agg #[.bool nb,.string sb,.bool false,.string db],.agg #[.bool nb,.string sb,.bool false,.string db]] w fun e w'=>e = .returned (.agg #[.bool n2,.string s2,.bool false,.string d2])∧Keep [] w w'))
  (Hm3:Hid (∀ w,Calls prog 121 #[.agg #[.bool n2,.string s2,.bool false,.string d2],.agg #[.bool nr,.string sr,.bool false,.string dr]] w fun e w'=>e = .returned (.agg #[.bool n3,.string s3,.bool false,.string d3])∧Keep [] w w'))
  (Hcm:Hid (∀ w,Calls prog 158 #[.agg #[.bool n1,.string s1,.bool false,.string d1],.agg #[.bool n3,.string s3,.bool false,.string d3]] w fun e w'=>e = .returned (.int .i64 c)∧Keep [] w w')) (w:World) :
  Calls prog 119 #[.agg #[.bool na,.string sa,.bool false,.string da],.agg #[.bool nb,.string sb,.bool false,.string db],.agg #[.bool nr,.string sr,.bool false,.string dr]] w fun e w'=>e = .returned (.int .i64 k)∧Keep [] w w':=by
 have hw:IntKind.i64.wrap n=n:=by simp [IntKind.wrap,IntKind.bits,IntKind.signed];omega
 have hw2:IntKind.i64.wrap k=k:=by simp [IntKind.wrap,IntKind.bits,IntKind.signed];omega
 have t0:(n == 0)=false:=by simpa using h0
 have t1:(ma == n)=false:=by simpa using h1
 have t2:(ma == 0)=false:=by simpa using h2
 clear h0 h1 h2;go_enter func119,ntmps119
 go_wp2_with fail;obtain⟨W,ga,gb,gc,hW,ega,egb,egc,Bga,Bgb,Bgc,hga,hgb,hgc,hgW,HkW⟩:=al3h w (.cells #[.bool na,.string sa,.bool false,.string da] 34) (.cells #[.bool nb,.string sb,.bool false,.string db] 34) (.cells #[.bool nr,.string sr,.bool false,.string dr] 34);rw [← hW];try rw [egc]
 try rw [egb]
 try rw [ega]
 clear hW ega egb egc;have kga:=yag Bga.out;have kgb:=yag Bgb.out;have kgc:=yag Bgc.out;have Q1:Hid (∀ m:KW W,Calls prog 85 #[.agg #[.bool na,.string sa,.bool false,.string da]] (Wk W m) fun e w'=>e = .returned (.int .i64 ma)∧∃ m,w'=Wk W m):=fun m=>qk m (Ha.out _);have Q2:Hid (∀ m:KW W,Calls prog 85 #[.agg #[.bool nb,.string sb,.bool false,.string db]] (Wk W m) fun e w'=>e = .returned (.int .i64 mb)∧∃ m,w'=Wk W m):=fun m=>qk m (Hb.out _);have Q3:Hid (∀ m:KW W,Calls prog 85 #[.agg #[.bool nr,.string sr,.bool false,.string dr]] (Wk W m) fun e w'=>e = .returned (.int .i64 mr)∧∃ m,w'=Wk W m):=fun m=>qk m (Hr.out _);clear Ha Hb Hr;refine yac (by kernel_rfl) (by kernel_rfl) ?_
 repeat (first
  | go_big_quiet_skip
  | (go_big_quiet_want;go_big_quiet_op;first|go_big_quiet_on|go_big_quiet_call (first
   | (go_at_call 85;with_reducible exact (Q1).out _)|(go_at_call 85;with_reducible exact (Q2).out _)|(go_at_call 85;with_reducible exact (Q3).out _))))
 refine wpQuiet_nil ?_;rintro w1 ⟨⟨_,hk_w1⟩,rfl⟩;clear Q1 Q2 Q3 kga kgb kgc;replace Bga:=jH hk_w1 Bga;replace Bgb:=jH hk_w1 Bgb;replace Bgc:=jH hk_w1 Bgc;replace HkW:=jX (HkW.out.tz hk_w1);clear hk_w1;go_wp2_with fail;have kga:=yag Bga.out;have kgb:=yag Bgb.out;have kgc:=yag Bgc.out;have Q1:Hid (∀ m:KW w1,Calls prog 121 #[.agg #[.bool na,.string sa,.bool false,.string da],.agg #[.bool na,.string sa,.bool false,.string da]] (Wk w1 m) fun e w'=>e = .returned (.agg #[.bool n1,.string s1,.bool false,.string d1])∧∃ m,w'=Wk w1 m):=fun m=>qk m (Hm1.out _);have Q2:Hid (∀ m:KW w1,Calls prog 121 #[.agg #[.bool nb,.string sb,.bool false,.string db],.agg #[.bool nb,.string sb,.bool false,.string db]] (Wk w1 m) fun e w'=>e = .returned (.agg #[.bool n2,.string s2,.bool false,.string d2])∧∃ m,w'=Wk w1 m):=fun m=>qk m (Hm2.out _);have Q3:Hid (∀ m:KW w1,Calls prog 121 #[.agg #[.bool n2,.string s2,.bool false,.string d2],.agg #[.bool nr,.string sr,.bool false,.string dr]] (Wk w1 m) fun e w'=>e = .returned (.agg #[.bool n3,.string s3,.bool false,.string d3])∧∃ m,w'=Wk w1 m):=fun m=>qk m (Hm3.out _);have Q4:Hid (∀ m:KW w1,Calls prog 158 #[.agg #[.bool n1,.string s1,.bool false,.string d1],.agg #[.bool n3,.string s3,.bool false,.string d3]] (Wk w1 m) fun e w'=>e = .returned (.int .i64 c)∧∃ m,w'=Wk w1 m):=fun m=>qk m (Hcm.out _);clear Hm1 Hm2 Hm3 Hcm;refine yac (by kernel_rfl) (by kernel_rfl) ?_
 repeat (first
  | go_big_quiet_skip
  | (go_big_quiet_want;go_big_quiet_op;first|go_big_quiet_on|go_big_quiet_call (first
   | (go_at_call 121;with_reducible exact (Q1).out _)|(go_at_call 121;with_reducible exact (Q2).out _)|(go_at_call 121;with_reducible exact (Q3).out _)|(go_at_call 158;with_reducible exact (Q4).out _))))
 refine wpQuiet_nil ?_;rintro w2 ⟨⟨_,hk_w2⟩,rfl⟩;have Hk:=jX (HkW.out.tz hk_w2);clear hk_w2 Q1 Q2 Q3 Q4 kga kgb kgc;go_wp2_with fail;go_ret
 exact ⟨rfl,Hk.out⟩
theorem ybo (a b:Rat) : -1≤sgn a*sgn b∧sgn a*sgn b≤1:=by
 rcases yaM a with ⟨_,h⟩|⟨_,h⟩|⟨_,h⟩<;>rcases yaM b with ⟨_,h'⟩|⟨_,h'⟩|⟨_,h'⟩<;>rw [h,h']<;>decide
theorem sign_c (a b r:Rat) (ha:FitQ 1000000000 a) (hb:FitQ 1000000000 b) (hr:FitQ 1000000000 r) (w:World) :
  Calls prog 119 #[rv a,rv b,rv r] w fun e w'=>e = .returned (.int .i64 (sg1 a b r))∧Keep [] w w':=by
 have hma:=ygV a;have hmn:=ybo b r;unfold sg1;by_cases hc:sgn b*sgn r=0∨sgn a=sgn b*sgn r∨sgn a=0
 ·have:=sign_low _ _ _ _ _ _ _ _ _ (sgn a) (sgn b) (sgn r) _ rfl hma hmn hc (QSign_c a) (QSign_c b) (QSign_c r) w
  refine this.mono fun e w' h=>⟨?_,h.2⟩;rw [h.1];by_cases h1:sgn b*sgn r=0∨sgn a=sgn b*sgn r
  ·rw [if_pos h1,if_pos h1]
  rw [if_neg h1,if_neg h1,if_pos (by rcases hc with h|h|h;exact absurd (.inl h) h1;exact absurd (.inr h) h1;exact h)]
 have h0:sgn b*sgn r≠0:=fun h=>hc (.inl h);have h1:sgn a≠sgn b*sgn r:=fun h=>hc (.inr (.inl h));have h2:sgn a≠0:=fun h=>hc (.inr (.inr h));rw [if_neg (by rintro (h|h);exact h0 h;exact h1 h),if_neg h2]
 exact sign_high _ _ _ _ _ _ _ _ _ _ _ _ _ _ _ _ _ _ (sgn a) (sgn b) (sgn r) _ _ _ rfl hma hmn h0 h1 h2 rfl (ybo _ _) (QSign_c a) (QSign_c b) (QSign_c r)
  (QMul_c a a (ha.mono (by decide)) (ha.mono (by decide))) (QMul_c b b (hb.mono (by decide)) (hb.mono (by decide))) (QMul_c (b*b) r ((hb.mul hb).mono (by decide)) (hr.mono (by decide)))
  (QCompare_c (a*a) (b*b*r) ((ha.mul ha).mono (by decide)) (((hb.mul hb).mul hr).mono (by decide))) w
def qv (x:Qn):Value:=.agg #[.bool (sgB x.p.num),.string (mgS x.p.num),.bool false,.string (dnS x.p.den),.bool (sgB x.r.num),.string (mgS x.r.num),.bool false,.string (dnS x.r.den),.bool x.neg]
def FitR (k:Nat) (x:Qn):Prop:=FitQ k x.p∧FitQ k x.r
theorem yer (x:Qn) (w:World) :
  Calls prog 117 #[qv x] w fun e w'=>e = .returned (rv x.u)∧Keep [] w w':=by
 unfold Qn.u qv;cases hx:x.neg with
 | true =>
  have Hs:=jX (QFromInt_c (-1) (by decide) (by decide));rw [if_pos rfl];rw [show ((-1:Int):Rat)=(-1:Rat) from rfl] at Hs
  unfold rv at *;generalize sgB ((-1:Rat)).num=nr at *;generalize mgS ((-1:Rat)).num=sr at *;generalize dnS ((-1:Rat)).den=dr at *;generalize sgB (x.p).num=a1 at *;generalize mgS (x.p).num=a2 at *;generalize dnS (x.p).den=a3 at *;generalize sgB (x.r).num=a4 at *;generalize mgS (x.r).num=a5 at *;generalize dnS (x.r).den=a6 at *;clear hx;go_enter func117,ntmps117
  go_wp2_with fail;obtain⟨W,ga,gb,hW,ega,egb,Bga,Bgb,hga,hgb,hgW,HkW⟩:=al2h w (.cells #[.bool a1,.string a2,.bool false,.string a3,.bool a4,.string a5,.bool false,.string a6,.bool true] 36) (.cells #[.bool false,.string ⟨#[]⟩,.bool false,.string ⟨#[]⟩] 34);rw [← hW];try rw [egb]
  try rw [ega]
  clear hW ega egb;refine (Hs.out W).mono ?_;rintro e wz ⟨rfl,hk_wz⟩;dsimp only;clear Hs;replace Bga:=jH hk_wz Bga;replace Bgb:=jH hk_wz Bgb;replace HkW:=jX (HkW.out.tz hk_wz);clear hk_wz;obtain⟨pgb,fgb,lgb⟩:=jQ Bgb;go_wp2_with fail;refine bodyPost_ret (v:=.agg #[.bool nr,.string sr,.bool false,.string dr]) ?_ rfl ⟨rfl,by repeat (first|(with_reducible exact HkW.out)|(refine Keep.sP ?_ _ _ _ (by omega))|(refine Keep.aP ?_ _)|(refine Keep.dP ?_))⟩;rw [yah rfl];go_simp
 | false =>
  have Hs:=jX (QFromInt_c 1 (by decide) (by decide));rw [if_neg (by decide)];rw [show ((1:Int):Rat)=(1:Rat) from rfl] at Hs
  unfold rv at *;generalize sgB ((1:Rat)).num=nr at *;generalize mgS ((1:Rat)).num=sr at *;generalize dnS ((1:Rat)).den=dr at *;generalize sgB (x.p).num=a1 at *;generalize mgS (x.p).num=a2 at *;generalize dnS (x.p).den=a3 at *;generalize sgB (x.r).num=a4 at *;generalize mgS (x.r).num=a5 at *;generalize dnS (x.r).den=a6 at *;clear hx;go_enter func117,ntmps117
  go_wp2_with fail;obtain⟨W,ga,gb,hW,ega,egb,Bga,Bgb,hga,hgb,hgW,HkW⟩:=al2h w (.cells #[.bool a1,.string a2,.bool false,.string a3,.bool a4,.string a5,.bool false,.string a6,.bool false] 36) (.cells #[.bool false,.string ⟨#[]⟩,.bool false,.string ⟨#[]⟩] 34);rw [← hW];try rw [egb]
  try rw [ega]
  clear hW ega egb;refine (Hs.out W).mono ?_;rintro e wz ⟨rfl,hk_wz⟩;dsimp only;clear Hs;replace Bga:=jH hk_wz Bga;replace Bgb:=jH hk_wz Bgb;replace HkW:=jX (HkW.out.tz hk_wz);clear hk_wz;obtain⟨pgb,fgb,lgb⟩:=jQ Bgb;go_wp2_with fail;refine bodyPost_ret (v:=.agg #[.bool nr,.string sr,.bool false,.string dr]) ?_ rfl ⟨rfl,by repeat (first|(with_reducible exact HkW.out)|(refine Keep.sP ?_ _ _ _ (by omega))|(refine Keep.aP ?_ _)|(refine Keep.dP ?_))⟩;rw [yah rfl];go_simp
abbrev K:={x:Qn // x.Ok∧FitR 100000 x}
instance:LT K:=⟨fun x y=>Lt x.1 y.1⟩
instance:LE K:=⟨fun x y=>¬ Lt y.1 x.1⟩
theorem K.lt_def {x y:K}:x<y↔Lt x.1 y.1:=Iff.rfl
theorem K.le_def {x y:K}:x≤y ↔ ¬ Lt y.1 x.1:=Iff.rfl
theorem K.tri (x y:K):(cmpQ x.1 y.1=1∧y<x)∨(cmpQ x.1 y.1 = -1∧x<y)∨(cmpQ x.1 y.1=0∧x=y):=by
 rcases yjE x.2.1 y.2.1 with h|h|⟨h,h2⟩
 ·exact .inl h
 ·exact .inr (.inl h)
 exact .inr (.inr ⟨h,Subtype.ext h2⟩)
theorem K.irrefl (x:K):¬ x<x:=fun h=>Lt.irrefl x.2.1.nn h
theorem K.trans {x y z:K} (h:x<y) (h2:y<z):x<z:=Lt.trans x.2.1.nn y.2.1.nn h h2
instance:Std.IsLinearOrder K where
 le_refl a:=K.irrefl a
 le_trans a b c h h2 h3:=by
  have h3:c<a:=h3;rcases K.tri a b with ⟨_,g⟩|⟨_,g⟩|⟨_,g⟩
  ·exact h g
  ·exact h2 (K.trans h3 g)
  subst g;exact h2 h3
 le_antisymm a b h h2:=by
  rcases K.tri a b with ⟨_,g⟩|⟨_,g⟩|⟨_,g⟩
  ·exact absurd g h
  ·exact absurd g h2
  exact g
 le_total a b:=by
  rcases K.tri a b with ⟨_,g⟩|⟨_,g⟩|⟨_,g⟩
  ·exact .inr (fun h=>K.irrefl _ (K.trans g h))
  ·exact .inl (fun h=>K.irrefl _ (K.trans g h))
  subst g;exact .inl (K.irrefl _)
instance:Std.LawfulOrderLT K where
 lt_iff a b:=by
  constructor
  ·intro h
   exact ⟨fun h2=>K.irrefl _ (K.trans h h2),fun h2=>h2 h⟩
  rintro ⟨h,h2⟩;exact Classical.not_not.1 h2
theorem K.cmp_neg {x y:K}:cmpQ x.1 y.1 = -1↔x<y:=by
 rcases K.tri x y with ⟨h,g⟩|⟨h,g⟩|⟨h,g⟩
 ·rw [h];constructor
  ·intro h;exact absurd h (by decide)
  intro h;exact absurd (K.trans g h) (K.irrefl _)
 ·rw [h];exact ⟨fun _=>g,fun _=>rfl⟩
 rw [h];subst g;constructor
 ·intro h;exact absurd h (by decide)
 intro h;exact absurd h (K.irrefl _)
def cmpB (a b:Bd K):Int:=if cmpQ a.pt.1 b.pt.1=0 then (if a.beh=b.beh then 0 else if b.beh then -1 else 1) else cmpQ a.pt.1 b.pt.1
theorem ydN (a b:Bd K):(cmpB a b=1∧b<a)∨(cmpB a b = -1∧a<b)∨(cmpB a b=0∧a=b):=by
 unfold cmpB;rw [Bd.lt_def,Bd.lt_def];rcases K.tri a.pt b.pt with ⟨h,g⟩|⟨h,g⟩|⟨h,g⟩
 ·rw [h];exact .inl ⟨if_neg (by decide),.inl g⟩
 ·rw [h];exact .inr (.inl ⟨if_neg (by decide),.inl g⟩)
 rw [h,if_pos rfl];by_cases h1:a.beh=b.beh
 ·rw [if_pos h1];exact .inr (.inr ⟨rfl,Bd.ext g h1⟩)
 rw [if_neg h1];by_cases h2:b.beh=true
 ·rw [if_pos h2];exact .inr (.inl ⟨rfl,.inr ⟨g,by simp_all,h2⟩⟩)
 rw [if_neg h2];exact .inl ⟨rfl,.inr ⟨g.symm,by simp_all,by simp_all⟩⟩
def kcells (x:Qn):List Value:=[.bool (sgB x.p.num),.string (mgS x.p.num),.bool false,.string (dnS x.p.den),.bool (sgB x.r.num),.string (mgS x.r.num),.bool false,.string (dnS x.r.den),.bool x.neg]
def kC (x:K):Array Value:=(kcells x.1).toArray
def kv (x:K):Value:=.agg (kC x)
theorem yaI (x:K):kv x = .agg #[.bool (sgB x.1.p.num),.string (mgS x.1.p.num),.bool false,.string (dnS x.1.p.den),.bool (sgB x.1.r.num),.string (mgS x.1.r.num),.bool false,.string (dnS x.1.r.den),.bool x.1.neg]:=rfl
def icells (i:Iv K):List Value:=kcells i.f.pt.1++kcells i.l.pt.1++[.bool i.f.beh,.bool (!i.l.beh)]
def iC (i:Iv K):Array Value:=(icells i).toArray
def iv (i:Iv K):Value:=.agg (iC i)
theorem ybk (i:Iv K):iv i = .agg #[.bool (sgB i.f.pt.1.p.num),.string (mgS i.f.pt.1.p.num),.bool false,.string (dnS i.f.pt.1.p.den),.bool (sgB i.f.pt.1.r.num),.string (mgS i.f.pt.1.r.num),.bool false,.string (dnS i.f.pt.1.r.den),.bool i.f.pt.1.neg,
 .bool (sgB i.l.pt.1.p.num),.string (mgS i.l.pt.1.p.num),.bool false,.string (dnS i.l.pt.1.p.den),.bool (sgB i.l.pt.1.r.num),.string (mgS i.l.pt.1.r.num),.bool false,.string (dnS i.l.pt.1.r.den),.bool i.l.pt.1.neg,.bool i.f.beh,.bool (!i.l.beh)]:=rfl
theorem yav (x:Qn):(kcells x).length=9:=rfl
theorem ycY (i:Iv K):(icells i).length=20:=rfl
theorem yaS (x:Qn):∀ v∈kcells x,v.oneCell'=true:=by
 intro v hv;simp only [kcells,List.mem_cons,List.not_mem_nil,or_false] at hv;rcases hv with rfl|rfl|rfl|rfl|rfl|rfl|rfl|rfl|rfl<;>rfl
theorem yfw (i:Iv K):∀ v∈icells i,v.oneCell'=true:=by
 intro v hv;unfold icells at hv;rcases List.mem_append.1 hv with hv|hv
 ·rcases List.mem_append.1 hv with hv|hv
  ·exact yaS _ v hv
  exact yaS _ v hv
 simp only [List.mem_cons,List.not_mem_nil,or_false] at hv;rcases hv with rfl|rfl<;>rfl
theorem infoReal:∃ ie,prog.info? 36=some ie∧ie.size=9:=by
 have h:(prog.info? 36).map (·.size)=some 9:=by kernel_rfl
 cases hi:prog.info? 36 with
 | none=>rw [hi] at h;cases h
 | some ie=>rw [hi] at h;exact ⟨ie,rfl,by simpa using h⟩
theorem infoIv:∃ ie,prog.info? 49=some ie∧ie.size=20:=by
 have h:(prog.info? 49).map (·.size)=some 20:=by kernel_rfl
 cases hi:prog.info? 49 with
 | none=>rw [hi] at h;cases h
 | some ie=>rw [hi] at h;exact ⟨ie,rfl,by simpa using h⟩
theorem yat (w:World) (b o:Nat) (x:Qn) (hc:∀ k v,(kcells x)[k]? = some v→w.cell? ⟨b,o+k,none⟩=some v):(loadVar 36 ⟨b,o,none⟩).run prog w = .ok (qv x) w:=by
 obtain⟨ie,hie,hs⟩:=infoReal;exact Go.Lib.rl_loadVar_cells 36 ie hie isAgg36 b o (kcells x) (by rw [hs];rfl) w hc
theorem ybH (w:World) (b o:Nat) (i:Iv K) (hc:∀ k v,(icells i)[k]? = some v→w.cell? ⟨b,o+k,none⟩=some v):(loadVar 49 ⟨b,o,none⟩).run prog w = .ok (iv i) w:=by
 obtain⟨ie,hie,hs⟩:=infoIv;exact Go.Lib.rl_loadVar_cells 49 ie hie isAgg49 b o (icells i) (by rw [hs];rfl) w hc
def IvAt (w:World) (b o:Nat) (i:Iv K):Prop:=∀ k v,(icells i)[k]? = some v→w.cell? ⟨b,o+k,none⟩=some v
def KAt (w:World) (b o:Nat) (x:Qn):Prop:=∀ k v,(kcells x)[k]? = some v→w.cell? ⟨b,o+k,none⟩=some v
theorem IvAt.frm {w:World} {b o:Nat} {i:Iv K} (h:IvAt w b o i):KAt w b o i.f.pt.1:=fun k v hk=>by
 refine h k v ?_;have hl:k<9:=by have:=(List.getElem?_eq_some_iff.1 hk).1;rwa [yav] at this
 unfold icells;rw [List.append_assoc,List.getElem?_append_left (by rw [yav];exact hl)];exact hk
theorem IvAt.upto {w:World} {b o:Nat} {i:Iv K} (h:IvAt w b o i):KAt w b (o+9) i.l.pt.1:=fun k v hk=>by
 have hl:k<9:=by have:=(List.getElem?_eq_some_iff.1 hk).1;rwa [yav] at this
 have:=h (9+k) v (by
  unfold icells;rw [List.append_assoc,List.getElem?_append_right (by rw [yav];omega),yav,List.getElem?_append_left (by rw [yav];omega),Nat.add_sub_cancel_left]
  exact hk)
 rwa [← Nat.add_assoc] at this
theorem IvAt.opt {w:World} {b o:Nat} {i:Iv K} (h:IvAt w b o i):w.cell? ⟨b,o+19,none⟩=some (.bool (!i.l.beh)):=h 19 _ rfl
theorem yaW {w:World} {g:Nat} {i:Iv K} {t:TypeId} (h:w.heap[g]? = some (.cells (iC i) t)):IvAt w g 0 i:=fun k v hk=>by
 rw [Nat.zero_add,yaa h];exact (List.getElem?_toArray ..).trans hk
theorem ycz {w:World} {g:Nat} {x:K} {t:TypeId} (h:w.heap[g]? = some (.cells (kC x) t)):KAt w g 0 x.1:=fun k v hk=>by
 rw [Nat.zero_add,yaa h];exact (List.getElem?_toArray ..).trans hk
theorem IvAt.keep {w w':World} {b o:Nat} {i:Iv K} (h:IvAt w b o i) (hb:w'.heap[b]? = w.heap[b]?):IvAt w' b o i:=fun k v hk=>by
 rw [World.cell?_of_block hb];exact h k v hk
theorem yeW (x y:K):cmpQ x.1 y.1 = -1∨cmpQ x.1 y.1=0∨cmpQ x.1 y.1=1:=by rcases K.tri x y with h|h|h<;>simp [h.1]
end Go.Proofs.YtejegogbhpmgfaaGreatDoor
