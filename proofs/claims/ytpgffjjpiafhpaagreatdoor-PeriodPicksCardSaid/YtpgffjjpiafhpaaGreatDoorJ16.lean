/- Parts of a proof: Re Rl Qa. -/
import Derived.Eval
import Derived.RangeFuncRecord
import Derived.Test.YtpgffjjpiafhpaaGreatDoorJ15
import Derived.Test.YtpgffjjpiafhpaaGreatDoorJ01
set_option linter.unusedVariables false
set_option linter.unusedSimpArgs false
set_option maxRecDepth 100000
set_option maxHeartbeats 8000000
namespace Go.Proofs.YtpgffjjpiafhpaaGreatDoor
open Go.RowKit Tryz
theorem ydO (q:Rat):zsgn q.num=sgn q:=by
 unfold zsgn sgn;by_cases h:q<0
 ·have h1:¬ 0≤q.num:=fun e=>absurd (Rat.num_nonneg.1 e) (by grind)
  rw [if_pos (by omega),if_pos h]
 have h1:0≤q.num:=Rat.num_nonneg.2 (Rat.not_lt.1 h);rw [if_neg (by omega),if_neg h];by_cases h2:q.num=0
 ·rw [if_pos h2]
  have:q=0:=Rat.num_eq_zero.1 h2;subst this;rfl
 have h3:q≠0:=fun e=>h2 (Rat.num_eq_zero.2 e);have h4:0<q:=by grind
 rw [if_neg h2,if_pos h4]
theorem qcmp_sgn (a b:Rat):qcmp a b=sgn (a-b):=by
 unfold qcmp sgn Lib.compareInt;have h1:=Rat.lt_iff a b;have h2:=Rat.lt_iff b a;by_cases h:a<b
 ·have e1:a-b<0:=by grind
  rw [if_pos (h1.1 h),if_pos e1]
 have e1:¬ a-b<0:=by grind
 rw [if_neg (fun e=>h (h1.2 e)),if_neg e1];by_cases h':b<a
 ·have e2:0<a-b:=by grind
  rw [if_pos (h2.1 h'),if_pos e2]
 have e2:¬ 0<a-b:=by grind
 rw [if_neg (fun e=>h' (h2.2 e)),if_neg e2]
theorem yhb (q:Rat) : -1≤sgn q∧sgn q≤1:=by
 unfold sgn;split
 ·omega
 split<;>omega
theorem QSub_c (a b:Rat) (ha:FitQ 10000000000 a) (hb:FitQ 10000000000 b) (w:World) :
  Calls prog 128 #[rv a,rv b] w fun e w'=>e = .returned (rv (a-b))∧Keep [] w w':=by
 have Hn:=jX (QNeg_c b);have Hs:=jX (QAdd_c a (-b) ha hb.neg);rw [← Rat.sub_eq_add_neg] at Hs;unfold rv at *;generalize sgB (a-b).num=nr at *;generalize mgS (a-b).num=sr at *;generalize dnS (a-b).den=dr at *;generalize sgB (-b).num=nc at *;generalize mgS (-b).num=sc at *;generalize dnS (-b).den=dc at *;generalize sgB (a).num=na at *;generalize mgS (a).num=sa at *;generalize dnS (a).den=da at *;generalize sgB (b).num=nb at *;generalize mgS (b).num=sb at *;generalize dnS (b).den=db at *;clear ha hb;go_enter func128,ntmps128
 go_wp2_with fail;obtain⟨W,ga,gb,gc,hW,ega,egb,egc,Bga,Bgb,Bgc,hga,hgb,hgc,hgW,HkW⟩:=al3h w (.cells #[.bool na,.string sa,.bool false,.string da] 28) (.cells #[.bool nb,.string sb,.bool false,.string db] 28) (.cells #[.bool false,.string ⟨#[]⟩,.bool false,.string ⟨#[]⟩] 28);rw [← hW];try rw [egc]
 try rw [egb]
 try rw [ega]
 clear hW ega egb egc;have kga:=yaf Bga.out;have kgb:=yaf Bgb.out;have Q1:Hid (∀ m:KW W,Calls prog 60 #[.agg #[.bool nb,.string sb,.bool false,.string db]] (Wk W m) fun e w'=>e = .returned (.agg #[.bool nc,.string sc,.bool false,.string dc])∧∃ m,w'=Wk W m):=fun m=>qk m (Hn.out _);have Q2:Hid (∀ m:KW W,Calls prog 106 #[.agg #[.bool na,.string sa,.bool false,.string da],.agg #[.bool nc,.string sc,.bool false,.string dc]] (Wk W m) fun e w'=>e = .returned (.agg #[.bool nr,.string sr,.bool false,.string dr])∧∃ m,w'=Wk W m):=fun m=>qk m (Hs.out _);clear Hn Hs;refine yai 4 (by kernel_rfl) (by kernel_rfl) ?_;simp only [List.take_succ_cons,List.take_zero,List.drop_succ_cons,List.drop_zero]
 repeat (first
  | go_big_quiet_skip
  | (go_big_quiet_want;go_big_quiet_op;first|go_big_quiet_on|go_big_quiet_call (first
   | (go_at_call 60;with_reducible exact (Q1).out _)|(go_at_call 106;with_reducible exact (Q2).out _))))
 refine wpQuiet_nil ?_;rintro wz ⟨⟨_,hk_wz⟩,rfl⟩;clear kga kgb Q1 Q2;replace Bga:=jH hk_wz Bga;replace Bgb:=jH hk_wz Bgb;replace Bgc:=jH hk_wz Bgc;replace HkW:=jX (HkW.out.tz hk_wz);clear hk_wz;obtain⟨pgc,fgc,lgc⟩:=jQ Bgc;go_wp2_with fail;refine bodyPost_ret (v:=.agg #[.bool nr,.string sr,.bool false,.string dr]) ?_ rfl ⟨rfl,by repeat (first|(with_reducible exact HkW.out)|(refine Keep.sP ?_ _ _ _ (by omega))|(refine Keep.aP ?_ _)|(refine Keep.dP ?_))⟩;rw [yac rfl];go_simp
theorem QSign_c (a:Rat) (w:World) :
  Calls prog 121 #[rv a] w fun e w'=>e = .returned (.int .i64 (sgn a))∧Keep [] w w':=by
 have Hs:=jX (Sign_c a.num);rw [ydO] at Hs;unfold rv zv at *;generalize sgB (a).num=na at *;generalize mgS (a).num=sa at *;generalize dnS (a).den=da at *;generalize sgn a=c at *;go_enter func121,ntmps121
 go_wp2_with fail;have HkW:=jX (Keep.alloc [] w (.cells #[.bool na,.string sa,.bool false,.string da] 28));refine (Hs.out _).mono ?_;rintro e w1 ⟨rfl,hk1⟩;dsimp only;have Hk:=jX (HkW.out.tz hk1);clear hk1 Hs;go_wp2_with fail;go_ret
 exact ⟨rfl,Hk.out⟩
theorem QFromInt_c (n:Int) (h1 : -9223372036854775808≤n) (h2:n≤9223372036854775807) (w:World) :
  Calls prog 102 #[.int .i64 n] w fun e w'=>e = .returned (rv (n:Rat))∧Keep [] w w':=by
 have Hs:=jX (FromInt_c n h1 h2);unfold rv zv at *;rw [show ((n:Rat)).num=n from rfl,show ((n:Rat)).den=1 from rfl,ycM rfl]
 generalize sgB (n)=nr at *;generalize mgS (n)=sr at *;clear h1 h2;go_enter func102,ntmps102
 go_wp2_with fail;obtain⟨W,ga,hW,ega,Bga,hga,hgW,HkW⟩:=al1h w (.cells #[.bool false,.string ⟨#[]⟩,.bool false,.string ⟨#[]⟩] 28);rw [← hW];try rw [ega]
 clear hW ega;refine (Hs.out _).mono ?_;rintro e wz ⟨rfl,hk_wz⟩;dsimp only;clear Hs;replace Bga:=jH hk_wz Bga;replace HkW:=jX (HkW.out.tz hk_wz);clear hk_wz;obtain⟨pga,fga,lga⟩:=jQ Bga;go_wp2_with fail;refine bodyPost_ret (v:=.agg #[.bool nr,.string sr,.bool false,.string ⟨#[]⟩]) ?_ rfl ⟨rfl,by repeat (first|(with_reducible exact HkW.out)|(refine Keep.sP ?_ _ _ _ (by omega))|(refine Keep.aP ?_ _)|(refine Keep.dP ?_))⟩;rw [yac rfl];go_simp
theorem QCompare_c (a b:Rat) (ha:FitQ 10000000000 a) (hb:FitQ 10000000000 b) (w:World) :
  Calls prog 116 #[rv a,rv b] w fun e w'=>e = .returned (.int .i64 (sgn (a-b)))∧Keep [] w w':=by
 have hgd:=eqQ_g;have heq:=eqQ_run a b;by_cases hab:a=b
 ·rw [show decide (a=b)=true by simpa using hab] at heq
  have e0:sgn (a-b)=0:=by rw [hab,Rat.sub_self];rfl
  rw [e0];unfold rv at *;generalize sgB (a).num=na at *;generalize mgS (a).num=sa at *;generalize dnS (a).den=da at *;generalize sgB (b).num=nb at *;generalize mgS (b).num=sb at *;generalize dnS (b).den=db at *;clear hab e0 ha hb;go_enter func116,ntmps116
  go_wp2_with fail;go_ret
  exact ⟨rfl,(Keep.alloc [] _ _).aP _⟩
 rw [show decide (a=b)=false by simpa using hab] at heq
 have Hc:=jX (cross_c a b ha hb);have hcm:=Compare_c (crX a b) (crY a b);rw [cr_cmp] at hcm;have e0:=qcmp_sgn a b;unfold qcmp at e0;rw [e0] at hcm;have Hm:=jX hcm;unfold rv zv at *;generalize sgn (a-b)=c at *;generalize crX a b=x at *;generalize crY a b=y at *;generalize crD a b=d at *;generalize sgB (x)=nx at *;generalize mgS (x)=sx at *;generalize sgB (y)=ny at *;generalize mgS (y)=sy at *;generalize sgB (d)=nd at *;generalize mgS (d)=sd at *;generalize sgB (a).num=na at *;generalize mgS (a).num=sa at *;generalize dnS (a).den=da at *;generalize sgB (b).num=nb at *;generalize mgS (b).num=sb at *;generalize dnS (b).den=db at *;clear hab e0 ha hb hcm;go_enter func116,ntmps116
 go_wp2_with fail;obtain⟨W,ga,gb,hW,ega,egb,Bga,Bgb,hga,hgb,hgW,HkW⟩:=al2h w (.cells #[.bool na,.string sa,.bool false,.string da] 28) (.cells #[.bool nb,.string sb,.bool false,.string db] 28);rw [← hW];try rw [egb]
 try rw [ega]
 clear hW ega egb;refine (Hc.out W).mono ?_;rintro e w1 ⟨rfl,hk1⟩;dsimp only;clear Hc;replace Bga:=jH hk1 Bga;replace Bgb:=jH hk1 Bgb;replace HkW:=jX (HkW.out.tz hk1);clear hk1;go_wp2_with fail;refine (Hm.out _).mono ?_;rintro e w2 ⟨rfl,hk2⟩;dsimp only;clear Hm;have Hk:=jX ((((HkW.out.aP _).aP _).aP _).tz hk2);clear hk2;go_wp2_with fail;go_ret
 exact ⟨rfl,Hk.out⟩
theorem sign_low (na nb nr:Bool) (sa sb sr da db dr:ByteArray) (ma mb mr n:Int) (hn:mb*mr=n) (hm : -1≤ma∧ma≤1) (hn1 : -1≤n∧n≤1) (hc:n=0∨ma=n∨ma=0)
  (Ha:Hid (∀ w,Calls prog 121 #[.agg #[.bool na,.string sa,.bool false,.string da]] w fun e w'=>e = .returned (.int .i64 ma)∧Keep [] w w'))
  (Hb:Hid (∀ w,Calls prog 121 #[.agg #[.bool nb,.string sb,.bool false,.string db]] w fun e w'=>e = .returned (.int .i64 mb)∧Keep [] w w'))
  (Hr:Hid (∀ w,Calls prog 121 #[.agg #[.bool nr,.string sr,.bool false,.string dr]] w fun e w'=>e = .returned (.int .i64 mr)∧Keep [] w w')) (w:World) :
  Calls prog 130 #[.agg #[.bool na,.string sa,.bool false,.string da],.agg #[.bool nb,.string sb,.bool false,.string db],.agg #[.bool nr,.string sr,.bool false,.string dr]] w fun e w'=>e = .returned (.int .i64 (if n=0∨ma=n then ma else n))∧Keep [] w w':=by
 have hw:IntKind.i64.wrap n=n:=by simp [IntKind.wrap,IntKind.bits,IntKind.signed];omega
 by_cases h0:n=0
 ·rw [if_pos (.inl h0)]
  have t0:(n == 0)=true:=by simpa using h0
  clear hc;go_enter func130,ntmps130
  go_wp2_with fail;obtain⟨W,ga,gb,gc,hW,ega,egb,egc,Bga,Bgb,Bgc,hga,hgb,hgc,hgW,HkW⟩:=al3h w (.cells #[.bool na,.string sa,.bool false,.string da] 28) (.cells #[.bool nb,.string sb,.bool false,.string db] 28) (.cells #[.bool nr,.string sr,.bool false,.string dr] 28);rw [← hW];try rw [egc]
  try rw [egb]
  try rw [ega]
  clear hW ega egb egc;have kga:=yaf Bga.out;have kgb:=yaf Bgb.out;have kgc:=yaf Bgc.out;have Q1:Hid (∀ m:KW W,Calls prog 121 #[.agg #[.bool na,.string sa,.bool false,.string da]] (Wk W m) fun e w'=>e = .returned (.int .i64 ma)∧∃ m,w'=Wk W m):=fun m=>qk m (Ha.out _);have Q2:Hid (∀ m:KW W,Calls prog 121 #[.agg #[.bool nb,.string sb,.bool false,.string db]] (Wk W m) fun e w'=>e = .returned (.int .i64 mb)∧∃ m,w'=Wk W m):=fun m=>qk m (Hb.out _);have Q3:Hid (∀ m:KW W,Calls prog 121 #[.agg #[.bool nr,.string sr,.bool false,.string dr]] (Wk W m) fun e w'=>e = .returned (.int .i64 mr)∧∃ m,w'=Wk W m):=fun m=>qk m (Hr.out _);clear Ha Hb Hr;refine yad (by kernel_rfl) (by kernel_rfl) ?_
  repeat (first
   | go_big_quiet_skip
   | (go_big_quiet_want;go_big_quiet_op;first|go_big_quiet_on|go_big_quiet_call (first
    | (go_at_call 121;with_reducible exact (Q1).out _)|(go_at_call 121;with_reducible exact (Q2).out _)|(go_at_call 121;with_reducible exact (Q3).out _))))
  refine wpQuiet_nil ?_;rintro w1 ⟨⟨_,hk_w1⟩,rfl⟩;clear Q1 Q2 Q3 kga kgb kgc;have Hk:=jX (HkW.out.tz hk_w1);clear hk_w1;go_wp2_with fail;go_ret
  exact ⟨rfl,Hk.out⟩
 have t0:(n == 0)=false:=by simpa using h0
 by_cases h1:ma=n
 ·rw [if_pos (.inr h1)]
  have t1:(ma == n)=true:=by simpa using h1
  have H1:=jX h1;clear hc h1;go_enter func130,ntmps130
  go_wp2_with fail;obtain⟨W,ga,gb,gc,hW,ega,egb,egc,Bga,Bgb,Bgc,hga,hgb,hgc,hgW,HkW⟩:=al3h w (.cells #[.bool na,.string sa,.bool false,.string da] 28) (.cells #[.bool nb,.string sb,.bool false,.string db] 28) (.cells #[.bool nr,.string sr,.bool false,.string dr] 28);rw [← hW];try rw [egc]
  try rw [egb]
  try rw [ega]
  clear hW ega egb egc;have kga:=yaf Bga.out;have kgb:=yaf Bgb.out;have kgc:=yaf Bgc.out;have Q1:Hid (∀ m:KW W,Calls prog 121 #[.agg #[.bool na,.string sa,.bool false,.string da]] (Wk W m) fun e w'=>e = .returned (.int .i64 ma)∧∃ m,w'=Wk W m):=fun m=>qk m (Ha.out _);have Q2:Hid (∀ m:KW W,Calls prog 121 #[.agg #[.bool nb,.string sb,.bool false,.string db]] (Wk W m) fun e w'=>e = .returned (.int .i64 mb)∧∃ m,w'=Wk W m):=fun m=>qk m (Hb.out _);have Q3:Hid (∀ m:KW W,Calls prog 121 #[.agg #[.bool nr,.string sr,.bool false,.string dr]] (Wk W m) fun e w'=>e = .returned (.int .i64 mr)∧∃ m,w'=Wk W m):=fun m=>qk m (Hr.out _);clear Ha Hb Hr;refine yad (by kernel_rfl) (by kernel_rfl) ?_
  repeat (first
   | go_big_quiet_skip
   | (go_big_quiet_want;go_big_quiet_op;first|go_big_quiet_on|go_big_quiet_call (first
    | (go_at_call 121;with_reducible exact (Q1).out _)|(go_at_call 121;with_reducible exact (Q2).out _)|(go_at_call 121;with_reducible exact (Q3).out _))))
  refine wpQuiet_nil ?_;rintro w1 ⟨⟨_,hk_w1⟩,rfl⟩;clear Q1 Q2 Q3 kga kgb kgc;have Hk:=jX (HkW.out.tz hk_w1);clear hk_w1;go_wp2_with fail;go_ret
  exact ⟨rfl,Hk.out⟩
 have h2:ma=0:=by rcases hc with h|h|h<;>simp_all
 rw [if_neg (by rintro (h|h)<;>simp_all)];have t1:(ma == n)=false:=by simpa using h1
 have t2:(ma == 0)=true:=by simpa using h2
 clear hc h1 h0 h2;go_enter func130,ntmps130
 go_wp2_with fail;obtain⟨W,ga,gb,gc,hW,ega,egb,egc,Bga,Bgb,Bgc,hga,hgb,hgc,hgW,HkW⟩:=al3h w (.cells #[.bool na,.string sa,.bool false,.string da] 28) (.cells #[.bool nb,.string sb,.bool false,.string db] 28) (.cells #[.bool nr,.string sr,.bool false,.string dr] 28);rw [← hW];try rw [egc]
 try rw [egb]
 try rw [ega]
 clear hW ega egb egc;have kga:=yaf Bga.out;have kgb:=yaf Bgb.out;have kgc:=yaf Bgc.out;have Q1:Hid (∀ m:KW W,Calls prog 121 #[.agg #[.bool na,.string sa,.bool false,.string da]] (Wk W m) fun e w'=>e = .returned (.int .i64 ma)∧∃ m,w'=Wk W m):=fun m=>qk m (Ha.out _);have Q2:Hid (∀ m:KW W,Calls prog 121 #[.agg #[.bool nb,.string sb,.bool false,.string db]] (Wk W m) fun e w'=>e = .returned (.int .i64 mb)∧∃ m,w'=Wk W m):=fun m=>qk m (Hb.out _);have Q3:Hid (∀ m:KW W,Calls prog 121 #[.agg #[.bool nr,.string sr,.bool false,.string dr]] (Wk W m) fun e w'=>e = .returned (.int .i64 mr)∧∃ m,w'=Wk W m):=fun m=>qk m (Hr.out _);clear Ha Hb Hr;refine yad (by kernel_rfl) (by kernel_rfl) ?_
 repeat (first
  | go_big_quiet_skip
  | (go_big_quiet_want;go_big_quiet_op;first|go_big_quiet_on|go_big_quiet_call (first
   | (go_at_call 121;with_reducible exact (Q1).out _)|(go_at_call 121;with_reducible exact (Q2).out _)|(go_at_call 121;with_reducible exact (Q3).out _))))
 refine wpQuiet_nil ?_;rintro w1 ⟨⟨_,hk_w1⟩,rfl⟩;clear Q1 Q2 Q3 kga kgb kgc;have Hk:=jX (HkW.out.tz hk_w1);clear hk_w1;go_wp2_with fail;go_ret
 exact ⟨rfl,Hk.out⟩
theorem sign_high (na nb nr n1 n2 n3:Bool) (sa sb sr da db dr s1 s2 s3 d1 d2 d3:ByteArray) (ma mb mr n c k:Int) (hn:mb*mr=n) (hm : -1≤ma∧ma≤1) (hn1 : -1≤n∧n≤1) (h0:n≠0) (h1:ma≠n) (h2:ma≠0) (hk:ma*c=k) (hk1 : -1≤k∧k≤1)
  (Ha:Hid (∀ w,Calls prog 121 #[.agg #[.bool na,.string sa,.bool false,.string da]] w fun e w'=>e = .returned (.int .i64 ma)∧Keep [] w w'))
  (Hb:Hid (∀ w,Calls prog 121 #[.agg #[.bool nb,.string sb,.bool false,.string db]] w fun e w'=>e = .returned (.int .i64 mb)∧Keep [] w w'))
  (Hr:Hid (∀ w,Calls prog 121 #[.agg #[.bool nr,.string sr,.bool false,.string dr]] w fun e w'=>e = .returned (.int .i64 mr)∧Keep [] w w'))
  (Hm1:Hid (∀ w,Calls prog 131 #[.agg #[.bool na,.string sa,.bool false,.string da],.agg #[.bool na,.string sa,.bool false,.string da]] w fun e w'=>e = .returned (.agg #[.bool n1,.string s1,.bool false,.string d1])∧Keep [] w w'))
  (Hm2:Hid (∀ w,Calls prog 131 #[.agg #[.bool nb,.string sb,.bool false,.string db],.agg #[.bool nb,.string sb,.bool false,.string db]] w fun e w'=>e = .returned (.agg #[.bool n2,.string s2,.bool false,.string d2])∧Keep [] w w'))
  (Hm3:Hid (∀ w,Calls prog 131 #[.agg #[.bool n2,.string s2,.bool false,.string d2],.agg #[.bool nr,.string sr,.bool false,.string dr]] w fun e w'=>e = .returned (.agg #[.bool n3,.string s3,.bool false,.string d3])∧Keep [] w w'))
  (Hcm:Hid (∀ w,Calls prog 116 #[.agg #[.bool n1,.string s1,.bool false,.string d1],.agg #[.bool n3,.string s3,.bool false,.string d3]] w fun e w'=>e = .returned (.int .i64 c)∧Keep [] w w')) (w:World) :
  Calls prog 130 #[.agg #[.bool na,.string sa,.bool false,.string da],.agg #[.bool nb,.string sb,.bool false,.string db],.agg #[.bool nr,.string sr,.bool false,.string dr]] w fun e w'=>e = .returned (.int .i64 k)∧Keep [] w w':=by
 have hw:IntKind.i64.wrap n=n:=by simp [IntKind.wrap,IntKind.bits,IntKind.signed];omega
 have hw2:IntKind.i64.wrap k=k:=by simp [IntKind.wrap,IntKind.bits,IntKind.signed];omega
 have t0:(n == 0)=false:=by simpa using h0
 have t1:(ma == n)=false:=by simpa using h1
 have t2:(ma == 0)=false:=by simpa using h2
 clear h0 h1 h2;go_enter func130,ntmps130
 go_wp2_with fail;obtain⟨W,ga,gb,gc,hW,ega,egb,egc,Bga,Bgb,Bgc,hga,hgb,hgc,hgW,HkW⟩:=al3h w (.cells #[.bool na,.string sa,.bool false,.string da] 28) (.cells #[.bool nb,.string sb,.bool false,.string db] 28) (.cells #[.bool nr,.string sr,.bool false,.string dr] 28);rw [← hW];try rw [egc]
 try rw [egb]
 try rw [ega]
 clear hW ega egb egc;have kga:=yaf Bga.out;have kgb:=yaf Bgb.out;have kgc:=yaf Bgc.out;have Q1:Hid (∀ m:KW W,Calls prog 121 #[.agg #[.bool na,.string sa,.bool false,.string da]] (Wk W m) fun e w'=>e = .returned (.int .i64 ma)∧∃ m,w'=Wk W m):=fun m=>qk m (Ha.out _);have Q2:Hid (∀ m:KW W,Calls prog 121 #[.agg #[.bool nb,.string sb,.bool false,.string db]] (Wk W m) fun e w'=>e = .returned (.int .i64 mb)∧∃ m,w'=Wk W m):=fun m=>qk m (Hb.out _);have Q3:Hid (∀ m:KW W,Calls prog 121 #[.agg #[.bool nr,.string sr,.bool false,.string dr]] (Wk W m) fun e w'=>e = .returned (.int .i64 mr)∧∃ m,w'=Wk W m):=fun m=>qk m (Hr.out _);clear Ha Hb Hr;refine yad (by kernel_rfl) (by kernel_rfl) ?_
 repeat (first
  | go_big_quiet_skip
  | (go_big_quiet_want;go_big_quiet_op;first|go_big_quiet_on|go_big_quiet_call (first
   | (go_at_call 121;with_reducible exact (Q1).out _)|(go_at_call 121;with_reducible exact (Q2).out _)|(go_at_call 121;with_reducible exact (Q3).out _))))
 refine wpQuiet_nil ?_;rintro w1 ⟨⟨_,hk_w1⟩,rfl⟩;clear Q1 Q2 Q3 kga kgb kgc;replace Bga:=jH hk_w1 Bga;replace Bgb:=jH hk_w1 Bgb;replace Bgc:=jH hk_w1 Bgc;replace HkW:=jX (HkW.out.tz hk_w1);clear hk_w1;go_wp2_with fail;have kga:=yaf Bga.out;have kgb:=yaf Bgb.out;have kgc:=yaf Bgc.out;have Q1:Hid (∀ m:KW w1,Calls prog 131 #[.agg #[.bool na,.string sa,.bool false,.string da],.agg #[.bool na,.string sa,.bool false,.string da]] (Wk w1 m) fun e w'=>e = .returned (.agg #[.bool n1,.string s1,.bool false,.string d1])∧∃ m,w'=Wk w1 m):=fun m=>qk m (Hm1.out _);have Q2:Hid (∀ m:KW w1,Calls prog 131 #[.agg #[.bool nb,.string sb,.bool false,.string db],.agg #[.bool nb,.string sb,.bool false,.string db]] (Wk w1 m) fun e w'=>e = .returned (.agg #[.bool n2,.string s2,.bool false,.string d2])∧∃ m,w'=Wk w1 m):=fun m=>qk m (Hm2.out _);have Q3:Hid (∀ m:KW w1,Calls prog 131 #[.agg #[.bool n2,.string s2,.bool false,.string d2],.agg #[.bool nr,.string sr,.bool false,.string dr]] (Wk w1 m) fun e w'=>e = .returned (.agg #[.bool n3,.string s3,.bool false,.string d3])∧∃ m,w'=Wk w1 m):=fun m=>qk m (Hm3.out _);have Q4:Hid (∀ m:KW w1,Calls prog 116 #[.agg #[.bool n1,.string s1,.bool false,.string d1],.agg #[.bool n3,.string s3,.bool false,.string d3]] (Wk w1 m) fun e w'=>e = .returned (.int .i64 c)∧∃ m,w'=Wk w1 m):=fun m=>qk m (Hcm.out _);clear Hm1 Hm2 Hm3 Hcm;refine yad (by kernel_rfl) (by kernel_rfl) ?_
 repeat (first
  | go_big_quiet_skip
  | (go_big_quiet_want;go_big_quiet_op;first|go_big_quiet_on|go_big_quiet_call (first
   | (go_at_call 131;with_reducible exact (Q1).out _)|(go_at_call 131;with_reducible exact (Q2).out _)|(go_at_call 131;with_reducible exact (Q3).out _)|(go_at_call 116;with_reducible exact (Q4).out _))))
 refine wpQuiet_nil ?_;rintro w2 ⟨⟨_,hk_w2⟩,rfl⟩;have Hk:=jX (HkW.out.tz hk_w2);clear hk_w2 Q1 Q2 Q3 Q4 kga kgb kgc;go_wp2_with fail;go_ret
 exact ⟨rfl,Hk.out⟩
theorem ybx (a b:Rat) : -1≤sgn a*sgn b∧sgn a*sgn b≤1:=by
 rcases yaJ a with ⟨_,h⟩|⟨_,h⟩|⟨_,h⟩<;>rcases yaJ b with ⟨_,h'⟩|⟨_,h'⟩|⟨_,h'⟩<;>rw [h,h']<;>decide
theorem sign_c (a b r:Rat) (ha:FitQ 1000000000 a) (hb:FitQ 1000000000 b) (hr:FitQ 1000000000 r) (w:World) :
  Calls prog 130 #[rv a,rv b,rv r] w fun e w'=>e = .returned (.int .i64 (sg1 a b r))∧Keep [] w w':=by
 have hma:=yhb a;have hmn:=ybx b r;unfold sg1;by_cases hc:sgn b*sgn r=0∨sgn a=sgn b*sgn r∨sgn a=0
 ·have:=sign_low _ _ _ _ _ _ _ _ _ (sgn a) (sgn b) (sgn r) _ rfl hma hmn hc (QSign_c a) (QSign_c b) (QSign_c r) w
  refine this.mono fun e w' h=>⟨?_,h.2⟩;rw [h.1];by_cases h1:sgn b*sgn r=0∨sgn a=sgn b*sgn r
  ·rw [if_pos h1,if_pos h1]
  rw [if_neg h1,if_neg h1,if_pos (by rcases hc with h|h|h;exact absurd (.inl h) h1;exact absurd (.inr h) h1;exact h)]
 have h0:sgn b*sgn r≠0:=fun h=>hc (.inl h);have h1:sgn a≠sgn b*sgn r:=fun h=>hc (.inr (.inl h));have h2:sgn a≠0:=fun h=>hc (.inr (.inr h));rw [if_neg (by rintro (h|h);exact h0 h;exact h1 h),if_neg h2]
 exact sign_high _ _ _ _ _ _ _ _ _ _ _ _ _ _ _ _ _ _ (sgn a) (sgn b) (sgn r) _ _ _ rfl hma hmn h0 h1 h2 rfl (ybx _ _) (QSign_c a) (QSign_c b) (QSign_c r)
  (QMul_c a a (ha.mono (by decide)) (ha.mono (by decide))) (QMul_c b b (hb.mono (by decide)) (hb.mono (by decide))) (QMul_c (b*b) r ((hb.mul hb).mono (by decide)) (hr.mono (by decide)))
  (QCompare_c (a*a) (b*b*r) ((ha.mul ha).mono (by decide)) (((hb.mul hb).mul hr).mono (by decide))) w
def qv (x:Qn):Value:=.agg #[.bool (sgB x.p.num),.string (mgS x.p.num),.bool false,.string (dnS x.p.den),.bool (sgB x.r.num),.string (mgS x.r.num),.bool false,.string (dnS x.r.den),.bool x.neg]
def FitR (k:Nat) (x:Qn):Prop:=FitQ k x.p∧FitQ k x.r
theorem ydQ (x:Qn) (w:World) :
  Calls prog 129 #[qv x] w fun e w'=>e = .returned (rv x.u)∧Keep [] w w':=by
 unfold Qn.u qv;cases hx:x.neg with
 | true =>
  have Hs:=jX (QFromInt_c (-1) (by decide) (by decide));rw [if_pos rfl];rw [show ((-1:Int):Rat)=(-1:Rat) from rfl] at Hs
  unfold rv at *;generalize sgB ((-1:Rat)).num=nr at *;generalize mgS ((-1:Rat)).num=sr at *;generalize dnS ((-1:Rat)).den=dr at *;generalize sgB (x.p).num=a1 at *;generalize mgS (x.p).num=a2 at *;generalize dnS (x.p).den=a3 at *;generalize sgB (x.r).num=a4 at *;generalize mgS (x.r).num=a5 at *;generalize dnS (x.r).den=a6 at *;clear hx;go_enter func129,ntmps129
  go_wp2_with fail;obtain⟨W,ga,gb,hW,ega,egb,Bga,Bgb,hga,hgb,hgW,HkW⟩:=al2h w (.cells #[.bool a1,.string a2,.bool false,.string a3,.bool a4,.string a5,.bool false,.string a6,.bool true] 30) (.cells #[.bool false,.string ⟨#[]⟩,.bool false,.string ⟨#[]⟩] 28);rw [← hW];try rw [egb]
  try rw [ega]
  clear hW ega egb;refine (Hs.out W).mono ?_;rintro e wz ⟨rfl,hk_wz⟩;dsimp only;clear Hs;replace Bga:=jH hk_wz Bga;replace Bgb:=jH hk_wz Bgb;replace HkW:=jX (HkW.out.tz hk_wz);clear hk_wz;obtain⟨pgb,fgb,lgb⟩:=jQ Bgb;go_wp2_with fail;refine bodyPost_ret (v:=.agg #[.bool nr,.string sr,.bool false,.string dr]) ?_ rfl ⟨rfl,by repeat (first|(with_reducible exact HkW.out)|(refine Keep.sP ?_ _ _ _ (by omega))|(refine Keep.aP ?_ _)|(refine Keep.dP ?_))⟩;rw [yac rfl];go_simp
 | false =>
  have Hs:=jX (QFromInt_c 1 (by decide) (by decide));rw [if_neg (by decide)];rw [show ((1:Int):Rat)=(1:Rat) from rfl] at Hs
  unfold rv at *;generalize sgB ((1:Rat)).num=nr at *;generalize mgS ((1:Rat)).num=sr at *;generalize dnS ((1:Rat)).den=dr at *;generalize sgB (x.p).num=a1 at *;generalize mgS (x.p).num=a2 at *;generalize dnS (x.p).den=a3 at *;generalize sgB (x.r).num=a4 at *;generalize mgS (x.r).num=a5 at *;generalize dnS (x.r).den=a6 at *;clear hx;go_enter func129,ntmps129
  go_wp2_with fail;obtain⟨W,ga,gb,hW,ega,egb,Bga,Bgb,hga,hgb,hgW,HkW⟩:=al2h w (.cells #[.bool a1,.string a2,.bool false,.string a3,.bool a4,.string a5,.bool false,.string a6,.bool false] 30) (.cells #[.bool false,.string ⟨#[]⟩,.bool false,.string ⟨#[]⟩] 28);rw [← hW];try rw [egb]
  try rw [ega]
  clear hW ega egb;refine (Hs.out W).mono ?_;rintro e wz ⟨rfl,hk_wz⟩;dsimp only;clear Hs;replace Bga:=jH hk_wz Bga;replace Bgb:=jH hk_wz Bgb;replace HkW:=jX (HkW.out.tz hk_wz);clear hk_wz;obtain⟨pgb,fgb,lgb⟩:=jQ Bgb;go_wp2_with fail;refine bodyPost_ret (v:=.agg #[.bool nr,.string sr,.bool false,.string dr]) ?_ rfl ⟨rfl,by repeat (first|(with_reducible exact HkW.out)|(refine Keep.sP ?_ _ _ _ (by omega))|(refine Keep.aP ?_ _)|(refine Keep.dP ?_))⟩;rw [yac rfl];go_simp
theorem Shift_c (x:Qn) (q:Rat) (hx:FitQ 10000000000 x.p) (hq:FitQ 10000000000 q) (w:World) :
  Calls prog 54 #[qv x,rv q] w fun e w'=>e = .returned (qv ⟨x.p+q,x.r,x.neg⟩)∧Keep [] w w':=by
 have Hs:=jX (QAdd_c x.p q hx hq);unfold qv rv at *;dsimp only;generalize sgB (x.p+q).num=nr at *;generalize mgS (x.p+q).num=sr at *;generalize dnS (x.p+q).den=dr at *;generalize sgB (x.p).num=a1 at *;generalize mgS (x.p).num=a2 at *;generalize dnS (x.p).den=a3 at *;generalize sgB (x.r).num=a4 at *;generalize mgS (x.r).num=a5 at *;generalize dnS (x.r).den=a6 at *;generalize sgB (q).num=b1 at *;generalize mgS (q).num=b2 at *;generalize dnS (q).den=b3 at *;generalize x.neg=a7 at *;clear hx hq;go_enter func54,ntmps54
 go_wp2_with fail;obtain⟨W,ga,gb,gc,hW,ega,egb,egc,Bga,Bgb,Bgc,hga,hgb,hgc,hgW,HkW⟩:=al3h w (.cells #[.bool a1,.string a2,.bool false,.string a3,.bool a4,.string a5,.bool false,.string a6,.bool a7] 30) (.cells #[.bool b1,.string b2,.bool false,.string b3] 28) (.cells #[.bool false,.string ⟨#[]⟩,.bool false,.string ⟨#[]⟩,.bool false,.string ⟨#[]⟩,.bool false,.string ⟨#[]⟩,.bool false] 30);rw [← hW];try rw [egc]
 try rw [egb]
 try rw [ega]
 clear hW ega egb egc;refine (Hs.out _).mono ?_;rintro e wz ⟨rfl,hk_wz⟩;dsimp only;clear Hs;replace Bga:=jH hk_wz Bga;replace Bgb:=jH hk_wz Bgb;replace Bgc:=jH hk_wz Bgc;replace HkW:=jX (HkW.out.tz hk_wz);clear hk_wz;obtain⟨pga,fga,lga⟩:=jQ Bga;obtain⟨pgc,fgc,lgc⟩:=jQ Bgc;go_wp2_with fail;refine bodyPost_ret (v:=.agg #[.bool nr,.string sr,.bool false,.string dr,.bool a4,.string a5,.bool false,.string a6,.bool a7]) ?_ rfl ⟨rfl,by repeat (first|(with_reducible exact HkW.out)|(refine Keep.sP ?_ _ _ _ (by omega))|(refine Keep.aP ?_ _)|(refine Keep.dP ?_))⟩;rw [yac rfl];go_simp
section
variable {P:Program}
theorem yhN {f:FuncId} {args:Array Value} {w:World} {v v':Value} {R R':World→Prop}
  (h:Calls P f args w fun e w'=>e = .returned v∧R w') (h':Calls P f args w fun e w'=>e = .returned v'∧R' w') (hi:P.inits.idxOf? f=none):v=v':=by
 have k:Calls P f args w fun | .returned u,w'=>u=v∧R w'|_,_=>False:=h.mono fun e w' ⟨he,hr⟩=>by subst he;exact ⟨rfl,hr⟩
 have k':Calls P f args w fun | .returned u,w'=>u=v'∧R' w'|_,_=>False:=h'.mono fun e w' ⟨he,hr⟩=>by subst he;exact ⟨rfl,hr⟩
 obtain⟨n,u,w1,e1,r1,_⟩:=k.done hi;obtain⟨m,u',w2,e2,r2,_⟩:=k'.done hi;have a:=runN_ended e1 m;have b:=runN_ended e2 n;rw [Nat.add_comm,a] at b;injection b with ho hw;injection ho with hv;rw [← r1,← r2,hv]
theorem ygb {s:Sem Value} {w w':World} {f:FuncId} {args:Array Value} (h:((do pure (Next.value (← s)):Sem Next)).run P w = .ok (.enter f args) w'):False:=by
 simp only [Sem.run_bind,Sem.run_pure] at h;generalize s.run P w=r at h;cases r with
 | ok v w2=>simp [Result.andThen] at h
 | halt x w2=>simp [Result.andThen] at h
def entB (P:Program) (o:Oper):Bool :=
 match o.op with
 | .move _ | .assign _ | .alloc _ | .build _ _ | .load _ _ | .binOp _ _ _ _ _ | .unOp _ _ _ | .convert _ _ _ | .fieldAddr _ _ _ | .field _ _ _ | .indexAddr _ _ _ | .index _ _ _ | .extract _ _=>true
 | .call c=>match c.callee with
  | .value (.func f)=>match P.funcs[f]? with
   | some fn=>fn.body.isSome&&fn.name != "runtime.NumGoroutine" && (P.inits.idxOf? f).isNone
   | none=>false
  | _=>false
 | _=>false
theorem ent_ok {o:Oper} (h:entB P o=true) (ev:Operand→Value) (hev:∀ f,ev (.func f) = .func (.func f) #[] #[]) {w w':World} {f:FuncId} {args:Array Value} (hr:(execOp ev o).run P w = .ok (.enter f args) w'):P.inits.idxOf? f=none:=by
 unfold entB at h;split at h
 case h_14 c hop =>
  split at h
  ·rename_i f' hc
   split at h
   ·rename_i fn hfn
    simp only [Bool.and_eq_true,Option.isNone_iff_eq_none] at h;obtain⟨⟨h1,h2⟩,h3⟩:=h;have h1':¬ fn.body=none:=fun e=>by simp [e] at h1
    have h2':¬ fn.name = "runtime.NumGoroutine" := by simpa using h2
    unfold execOp at hr;simp only [hop,Sem.run_bind] at hr;unfold resolve at hr;simp only [hc,hev] at hr;simp [Deferred.ofValue,Sem.run_pure,Result.andThen,invoke,callFunc,Sem.run_bind,hfn,h1',h2'] at hr;rw [← hr.1.1];exact h3
   cases h
  cases h
 all_goals first
  | (cases h;done)
  | (rename_i hop;unfold execOp at hr;simp only [hop] at hr;exact (ygb hr).elim)
  | (rename_i hop;unfold execOp at hr;simp only [hop,Sem.run_pure] at hr;cases hr)
theorem ydU {o:Oper} (he:entB P o=true) {a:Act} {C C':World→Prop} {w:World} {v v':Value} (h:o.quietAt P a C w v) (h':o.quietAt P a C' w v'):v=v':=by
 unfold Oper.quietAt at h h';generalize hr:(execOp a.eval o).run P w=r at h h';cases r with
 | ok n w1 =>
  cases n<;>simp only [Oper.quietUpon] at h h'
  case value u=>rw [← h.2,← h'.2]
  case skip=>rw [h.2,h'.2]
  case enter f args=>exact yhN h.2 h'.2 (ent_ok he a.eval (fun _=>rfl) hr)
 | halt x w1=>simp only [Oper.quietUpon] at h
def isAl (o:Oper):Bool:=match o.op with | .alloc _=>true|_=>false
def unal (o:Oper):Oper:=if isAl o then { o with op:=.move (.const undef) } else o
theorem yiX (o:Oper):(unal o).after=o.after:=by unfold unal;split<;>rfl
theorem ybT (md:Region.Mode) (ops:Array Oper) (listed:Array Bool):Region.ready md (ops.map unal) listed=Region.ready md ops listed:=by
 unfold Region.ready;rw [Array.size_map];apply List.filter_congr;intro i hi;rw [Array.getElem?_map,Option.map_map];simp only [Function.comp_def,yiX]
theorem yfi (md:Region.Mode) (ops:Array Oper):∀ (g k:Nat) (listed:Array Bool),Region.seqB md (ops.map unal) g k listed=Region.seqB md ops g k listed
 | 0,k,listed=>by unfold Region.seqB;rw [ybT]
 | g+1,k,listed=>by unfold Region.seqB;rw [ybT,yfi md ops g]
def pl:List (Tmp × Nat)→Act→Act
 | [],a=>a
 | (d,g) :: L,a=>(pl L a).put (some d) (.pointer (some ⟨g,0,none⟩))
theorem put_put (a:Act) (d:Tmp) (v u:Value):(a.put (some d) v).put (some d) u=a.put (some d) u:=by
 simp [Act.put]
theorem pl_put:∀ (L:List (Tmp × Nat)) (a:Act) (x:Option Tmp) (v:Value),(∀ d∈L.map (·.1),x≠some d)→pl L (a.put x v)=(pl L a).put x v
 | [],a,x,v,h=>rfl
 | (d,g) :: L,a,x,v,h=>by
  simp only [pl];rw [pl_put L a x v (fun d hd=>h d (by simp at hd ⊢;exact .inr hd))];exact Act.put_comm _ _ _ (fun e he hde=>h d (by simp) (by rw [he,← hde]))
theorem pl_over (L:List (Tmp × Nat)) (a:Act) (d:Tmp) (g:Nat) (v:Value) (h:d ∉ L.map (·.1)):pl ((d,g) :: L) (a.put (some d) v)=pl ((d,g) :: L) a:=by
 simp only [pl];rw [pl_put L a (some d) v (fun e he hde=>h (by injection hde with hde;rw [hde];exact he)),put_put]
theorem pl_exec {ops:Array Oper} {o:Oper} (hs:∀ cs b,o.op ≠ .select cs b):∀ (L:List (Tmp × Nat)) (a:Act),(∀ d∈L.map (·.1),d ∉ o.looksAt ops)→execOp (pl L a).eval o=execOp a.eval o
 | [],a,h=>rfl
 | (d,g) :: L,a,h=>by
  simp only [pl];rw [execOp_put (ops:=ops) o hs _ (some d) _ (fun e he=>by injection he with he;subst he;exact h d (by simp))];exact pl_exec hs L a (fun e he=>h e (by simp at he ⊢;exact .inr he))
theorem pl_perm {L L':List (Tmp × Nat)} (hp:L.Perm L'):(L.map (·.1)).Nodup→∀ a,pl L a=pl L' a:=by
 induction hp with
 | nil=>intro _ a;rfl
 | cons x h ih =>
  intro hn a;obtain⟨d,g⟩:=x;simp only [List.map_cons,List.nodup_cons] at hn;simp only [pl];rw [ih hn.2]
 | swap x y l =>
  intro hn a;obtain⟨d,g⟩:=x;obtain⟨e,k⟩:=y;simp only [List.map_cons,List.nodup_cons,List.mem_cons,not_or] at hn;simp only [pl];exact Act.put_comm _ _ _ (fun z hz hz2=>hn.1.1 (by injection hz with hz;injection hz2 with hz2;rw [hz,hz2]))
 | trans h1 h2 ih1 ih2 =>
  intro hn a;rw [ih1 hn,ih2 ((h1.map (·.1)).nodup_iff.1 hn)]
variable {ops:Array Oper} {md:Region.Mode} {W:World}
structure AInv (W:World) (D:Tmp→Option Obj) (ops:Array Oper) (n:Nat) (listed:Array Bool) (L:List (Tmp × Nat)) (w:World):Prop where
 keep:Keep [] W w
 heap:∀ e∈L,∃ z,D e.1=some z∧w.heap[e.2]? = some z∧W.heap.size≤e.2
 nd:(L.map (·.1)).Nodup
 ndb:(L.map (·.2)).Nodup
 cover:∀ i o d,i<n→ops[i]? = some o→isAl o=true→o.dst=some d→(listed.getD i false=true↔d∈L.map (·.1))
 size:listed.size=ops.size
structure ACond (P:Program) (D:Tmp→Option Obj) (ops:Array Oper) (n:Nat):Prop where
 al:∀ i o,i<n→ops[i]? = some o→isAl o=true→o.guard=none∧∃ d z,o.dst=some d∧D d=some z∧∀ ev w,(execOp ev o).run P w = .ok (.value (.pointer (some ⟨w.heap.size,0,none⟩))) (w.alloc z)
 qu:∀ i o,i<n→ops[i]? = some o→isAl o=false→entB P o=true∧o.guard=none∧∀ d,(D d).isSome=true→d ∉ o.looksAt ops∧o.dst≠some d
 ap:∀ i j o o' d,i<n→j<n→ops[i]? = some o→ops[j]? = some o'→isAl o=true→isAl o'=true→o.dst=some d→o'.dst=some d→i=j
theorem ent_nosel {o:Oper} (h:entB P o=true):∀ cs b,o.op ≠ .select cs b:=by
 intro cs b e;unfold entB at h;rw [e] at h;cases h
theorem sim {D:Tmp→Option Obj} {n g:Nat} {Lf:Array Bool→Act→Prop} {Q':Exit→Act→World→Prop} (hC:ACond P D ops n)
  (hL:∀ listed a L w,AInv W D ops n listed L w→HeadInv md (ops.map unal) n listed→Lf listed a→wpAny P md ops Q' g listed (pl L a) w) :
  ∀ (f:Nat) (listed:Array Bool) (a:Act) (L:List (Tmp × Nat)) (w:World),AInv W D ops n listed L w→HeadInv md (ops.map unal) n listed →
   (∀ U,Keep [] W U→ycI P md (ops.map unal) (fun w'=>∃ m,w'=Wk U m) n Lf f listed a)→wpAny P md ops Q' (f+g) listed (pl L a) w
 | 0,listed,a,L,w,inv,hI,H=>by rw [Nat.zero_add];exact hL _ _ _ _ inv hI (H W (Keep.refl _ _))
 | f+1,listed,a,L,w,inv,hI,H=>by
  rw [show f+1+g=(f+g)+1 by omega]
  have HW:=H W (Keep.refl _ _);refine ⟨fun h0=>absurd (by rw [ybT];exact h0) HW.1,fun i hi=>?_⟩;have hi':i∈Region.ready md (ops.map unal) listed:=by rw [ybT];exact hi
  obtain⟨hun,o,ho,_⟩:=mem_ready.1 hi;have hin:=(HW.2 i hi').1;have hlt:i<ops.size:=(Array.getElem?_eq_some_iff.1 ho).1;have ho':(ops.map unal)[i]? = some (unal o):=by rw [Array.getElem?_map,ho];rfl
  have hunf:listed.getD i false=false:=by
   have hs:=inv.size;simp [show i<listed.size by omega] at hun ⊢
   exact hun
  have hset:∀ j,j≠i→(listed.setIfInBounds i true).getD j false=listed.getD j false:=fun j hj=>by
   simp [Array.getElem?_setIfInBounds_ne (Ne.symm hj)]
  have hseti:(listed.setIfInBounds i true).getD i false=true:=by
   simp [show i<listed.size by rw [inv.size];exact hlt]
  unfold wpOp;simp only [ho];cases hal:isAl o with
  | true =>
   obtain⟨hg,d,z,hd,hz,hrun⟩:=hC.al i o hin ho hal;rw [if_pos (by simp [Region.wanted,hg])];refine .inl ?_;unfold Oper.wp;rw [hrun];simp only [Oper.upon];rw [hd]
   have hdL:d ∉ L.map (·.1):=fun hm=>by
    have:=(inv.cover i o d hin ho hal hd).2 hm;rw [hunf] at this;cases this
   have e:(pl L a).put (some d) (.pointer (some ⟨w.heap.size,0,none⟩))=pl ((d,w.heap.size) :: L) (a.put (some d) undef):=by
    rw [pl_over _ _ _ _ _ hdL];rfl
   rw [e]
   have hu:∀ U,Keep [] W U→ycI P md (ops.map unal) (fun w'=>∃ m,w'=Wk U m) n Lf f (listed.setIfInBounds i true) (a.put (some d) undef):=fun U hU=>by
    have h1:=((H U hU).2 i hi').2;unfold qOp at h1;simp only [ho'] at h1;have h2:unal o = { o with op:=.move (.const undef) }:=by unfold unal;rw [if_pos hal]
    rw [h2] at h1;rw [if_pos (by simp [Region.wanted,hg])] at h1;obtain⟨v,hv,hn⟩:=h1;have h3:=hv U ⟨⟨U,Keep.refl _ _⟩,rfl⟩;unfold Oper.quietAt execOp at h3;simp only [Sem.run_pure,Oper.quietUpon,Act.eval] at h3;rw [← h3.2] at hn
    simpa [hd] using hn
   refine sim hC hL f _ _ _ _ ⟨inv.keep.aP z,?_,?_,?_,?_,by simp [inv.size]⟩ (hI.set hi' hin) hu
   ·intro x hx
    rcases List.mem_cons.1 hx with rfl|hx
    ·exact ⟨z,hz,World.alloc_heap_new w z,inv.keep.size⟩
    obtain⟨z',h1,h2,h3⟩:=inv.heap x hx;exact ⟨z',h1,(Keep.alloc [] w z).heap h2 (by simp),h3⟩
   ·simp only [List.map_cons,List.nodup_cons];exact ⟨hdL,inv.nd⟩
   ·simp only [List.map_cons,List.nodup_cons]
    refine ⟨fun hm=>?_,inv.ndb⟩;obtain⟨x,hx,hxe⟩:=List.mem_map.1 hm;obtain⟨z',_,h2,_⟩:=inv.heap x hx;have:=yaa h2;omega
   intro j oj dj hj hoj hjal hdj;by_cases hji:j=i
   ·subst hji
    have:oj=o:=Option.some.inj (hoj.symm.trans ho);subst this;rw [hd] at hdj;injection hdj with hdj;subst hdj;rw [hseti];simp
   rw [hset j hji,inv.cover j oj dj hj hoj hjal hdj];simp only [List.map_cons,List.mem_cons];constructor
   ·exact fun h=>.inr h
   rintro (h|h)
   ·subst h
    exact absurd (hC.ap j i oj o dj hj hin hoj ho hjal hal hdj hd) hji
   exact h
  | false =>
   obtain⟨hent,hg,hlook⟩:=hC.qu i o hin ho hal;have h2:unal o=o:=by unfold unal;rw [hal];rfl
   rw [h2] at ho';rw [if_pos (by simp [Region.wanted,hg])];refine .inl ?_
   have hq:∀ U,Keep [] W U→∃ v,(∀ w',(∃ m,w'=Wk U m)→o.quietAt P a (fun w'=>∃ m,w'=Wk U m) w' v)∧ycI P md (ops.map unal) (fun w'=>∃ m,w'=Wk U m) n Lf f (listed.setIfInBounds i true) (a.put o.dst v):=fun U hU=>by
    have h1:=((H U hU).2 i hi').2;unfold qOp at h1;simp only [ho'] at h1;rw [if_pos (by simp [Region.wanted,hg])] at h1;exact h1
   obtain⟨v,hv,_⟩:=hq w inv.keep;obtain⟨vW,hvW,_⟩:=hq W (Keep.refl _ _);have hww:vW=v:=ydU hent (hvW w ⟨⟨w,inv.keep⟩,rfl⟩) (hv w ⟨⟨w,Keep.refl _ _⟩,rfl⟩)
   have hall:∀ U,Keep [] W U→ycI P md (ops.map unal) (fun w'=>∃ m,w'=Wk U m) n Lf f (listed.setIfInBounds i true) (a.put o.dst v):=fun U hU=>by
    obtain⟨u,hu,hn⟩:=hq U hU;have:vW=u:=ydU hent (hvW U ⟨⟨U,hU⟩,rfl⟩) (hu U ⟨⟨U,Keep.refl _ _⟩,rfl⟩);rw [← hww,this];exact hn
   have hDm:∀ d∈L.map (·.1),(D d).isSome=true:=fun d hd=>by
    obtain⟨x,hx,hxe⟩:=List.mem_map.1 hd;obtain⟨z,h1,_⟩:=inv.heap x hx;rw [← hxe,h1];rfl
   have hex:=pl_exec (ops:=ops) (o:=o) (ent_nosel hent) L a (fun d hd=>(hlook d (hDm d hd)).1);have hplp:(pl L a).put o.dst v=pl L (a.put o.dst v):=(pl_put L a o.dst v (fun d hd=>(hlook d (hDm d hd)).2)).symm;refine Oper.wp_of_quiet (C:=fun w'=>∃ m,w'=Wk w m) (K:=fun a'=>a'=(pl L a).put o.dst v) ⟨⟨w,Keep.refl _ _⟩,rfl⟩ ?_ ⟨v,?_,rfl⟩
   ·rintro a' w' ⟨m,rfl⟩ rfl
    rw [hplp];refine sim hC hL f _ _ _ _ ⟨inv.keep.tz m.k,?_,inv.nd,inv.ndb,?_,by simp [inv.size]⟩ (hI.set hi' hin) hall
    ·intro x hx
     obtain⟨z',h1,h2,h3⟩:=inv.heap x hx;exact ⟨z',h1,m.k.heap h2 (by simp),h3⟩
    intro j oj dj hj hoj hjal hdj;by_cases hji:j=i
    ·subst hji
     have:oj=o:=Option.some.inj (hoj.symm.trans ho);subst this;rw [hal] at hjal;cases hjal
    rw [hset j hji];exact inv.cover j oj dj hj hoj hjal hdj
   intro w' hw';have:=hv w' hw';unfold Oper.quietAt at this ⊢;rw [hex];exact this
theorem lookup_mem:∀ (L:List (Tmp × Nat)),(L.map (·.1)).Nodup→∀ e∈L,(L.lookup e.1).getD 0=e.2
 | [],_,e,he=>by cases he
 | (d,g) :: L,hn,e,he=>by
  simp only [List.map_cons,List.nodup_cons] at hn;rw [List.lookup_cons];rcases List.mem_cons.1 he with rfl|he
  ·simp
  have hne:¬ e.1=d:=fun h=>hn.1 (by rw [← h];exact List.mem_map_of_mem he);have:(e.1 == d)=false:=by simpa using hne
  rw [this];exact lookup_mem L hn.2 e he
theorem snd_inj:∀ {L:List (Tmp × Nat)},(L.map (·.2)).Nodup→∀ {x y:Tmp × Nat},x∈L→y∈L→x.2=y.2→x=y
 | [],_,x,y,hx,_,_=>by cases hx
 | e :: L,hn,x,y,hx,hy,h=>by
  simp only [List.map_cons,List.nodup_cons] at hn;rcases List.mem_cons.1 hx with hx'|hx'
  ·rcases List.mem_cons.1 hy with hy'|hy'
   ·rw [hx',hy']
   exact (hn.1 (List.mem_map.2 ⟨y,hy',by rw [← h,hx']⟩)).elim
  rcases List.mem_cons.1 hy with hy'|hy'
  ·exact (hn.1 (List.mem_map.2 ⟨x,hx',by rw [h,hy']⟩)).elim
  exact snd_inj hn.2 hx' hy' h
theorem nodup_perm:∀ {l l':List Tmp},l.Nodup→l'.Nodup→(∀ d,d∈l↔d∈l')→l.Perm l':=by
 intro l l' h h' hm;exact (List.perm_ext_iff_of_nodup h h').2 hm
theorem yfk {id:Nat} {Q:Exit→Act→World→Prop} {a:Act} {w:World} {l:List Oper} (n:Nat) (D:Tmp→Option Obj) (ds:List Tmp) (hm:P.follows .mixedOrders=true) (hB:Region.lexTailB .any (l.map unal).toArray n=true)
  (hC:ACond P D l.toArray n) (hds:ds.Nodup) (hD:∀ d,(D d).isSome=true↔d∈ds) (hall:∀ d∈ds,∃ i o,i<n∧l.toArray[i]? = some o∧isAl o=true∧o.dst=some d)
  (h:∀ U,Keep [] w U→wpQuiet P (l.map unal).toArray (fun w'=>∃ m,w'=Wk U m) (fun a'=>∀ p:Tmp→Nat,(∀ d∈ds,w.heap.size≤p d)→(∀ d∈ds,∀ e∈ds,p d=p e→d=e)→∀ w',Keep [] w w'→(∀ d∈ds,∀ z,D d=some z→w'.heap[p d]? = some z)→wpList P l.toArray Q (l.drop n) (pl (ds.map fun d=>(d,p d)) a') w') ((l.map unal).take n) a) :
  (Code.region id l.toArray true).wp P Q a w:=by
 have hB0:=hB;simp only [Region.lexTailB,Bool.and_eq_true,decide_eq_true_eq] at hB;obtain⟨⟨⟨⟨hsel,hn⟩,hs⟩,hc⟩,hlex⟩:=hB;have hn':n<l.length:=by simpa using hn
 have hmap:(l.map unal).toArray=l.toArray.map unal:=by simp
 have htl:((l.map unal).take n).length=n:=by simp;omega
 have hsz:(l.map unal).toArray.size-n=l.toArray.size-n:=by simp
 have hdl:(l.drop n).length=l.toArray.size-n:=by simp
 have inv0:HeadInv .any (l.map unal).toArray n (Array.replicate l.toArray.size false) :=
  ⟨by simp,fun j oj _ hl=>(by rw [getD_replicate_false] at hl;cases hl),fun t _ ht=>getD_in (by simpa using ht) (getD_replicate_false _ _)⟩
 rw [show (l.map unal).toArray.size=l.toArray.size by simp] at hlex
 have H:=fun U hU=>ydA (P:=P) (C:=fun w'=>∃ m,w'=Wk U m) (md:=.any) (g:=l.toArray.size-n) hsel hs hc hn ((l.map unal).take n) 0 (Array.replicate l.toArray.size false) a (fun j hj=>by
  have hj':j<n:=by rw [htl] at hj;exact hj
  simp [hj']) (by simpa using htl) inv0 (by rw [htl];exact hlex) (h U hU)
 rw [htl] at H;refine wp_region_any hm ?_
 have hsim:=sim (P:=P) (md:=.any) (W:=w) (ops:=l.toArray) (D:=D) (n:=n) (g:=l.toArray.size-n) (Q':=Q) hC (Lf:=fun listed' a'=>Region.seqB .any (l.map unal).toArray (l.toArray.size-n) n listed'=true∧∀ p:Tmp→Nat,(∀ d∈ds,w.heap.size≤p d)→(∀ d∈ds,∀ e∈ds,p d=p e→d=e)→∀ w',Keep [] w w'→(∀ d∈ds,∀ z,D d=some z→w'.heap[p d]? = some z)→wpList P l.toArray Q (l.drop n) (pl (ds.map fun d=>(d,p d)) a') w')
  (fun listed a' L w' inv hI hL=>by
   rw [← hmap] at hI;obtain⟨hseq,hq⟩:=hL
   -- all the head has come up
   have hdone:∀ i,i<n→listed.getD i false=true:=fun i hi=>by
    cases hb:listed.getD i true with
    | true =>
     have hs2:=inv.size;have:i<l.toArray.size:=by simp;omega
     simp [show i<listed.size by omega] at hb ⊢
     exact hb
    | false =>
     exfalso;have hw:=tail_waits hs hc hn hI _ i rfl hi hb n (Nat.le_refl _);obtain⟨g,hg⟩:∃ g,l.toArray.size-n=g+1:=⟨l.toArray.size-n-1,by simp at hn ⊢;omega⟩;rw [hg] at hseq;simp only [Region.seqB,Bool.and_eq_true,decide_eq_true_eq] at hseq;rw [hseq.1] at hw;simp at hw
   have hmem:∀ d,d∈L.map (·.1)↔d∈ds:=fun d=>by
    constructor
    ·intro hd
     obtain⟨x,hx,hxe⟩:=List.mem_map.1 hd;obtain⟨z,h1,_⟩:=inv.heap x hx;rw [← hD,← hxe,h1];rfl
    intro hd;obtain⟨i,o,hi,ho,hal,hod⟩:=hall d hd;exact (inv.cover i o d hi ho hal hod).1 (hdone i hi)
   have hlk:=lookup_mem L inv.nd
   have hLe:L=(L.map (·.1)).map fun d=>(d,(L.lookup d).getD 0):=by
    rw [List.map_map];conv=>lhs;rw [← List.map_id L]
    apply List.map_congr_left;intro x hx;show x=(x.1,(L.lookup x.1).getD 0)
    rw [hlk x hx]
   have hpm:L.Perm (ds.map fun d=>(d,(L.lookup d).getD 0)):=by
    have:=(nodup_perm inv.nd hds hmem).map (fun d=>(d,(L.lookup d).getD 0));rwa [← hLe] at this
   have hget:∀ d∈ds,∃ x∈L,x.1=d∧(L.lookup d).getD 0=x.2:=fun d hd=>by
    obtain⟨x,hx,hxe⟩:=List.mem_map.1 ((hmem d).2 hd);exact ⟨x,hx,hxe,by rw [← hxe];exact hlk x hx⟩
   rw [pl_perm hpm inv.nd]
   have hwl:=hq (fun d=>(L.lookup d).getD 0) (fun d hd=>by
    obtain⟨x,hx,hxe,e⟩:=hget d hd;obtain⟨z,_,_,h3⟩:=inv.heap x hx;show w.heap.size≤(L.lookup d).getD 0
    rw [e];exact h3) (fun d hd e he hde=>by
    obtain⟨x,hx,hxe,ex⟩:=hget d hd;obtain⟨y,hy,hye,ey⟩:=hget e he;rw [ex,ey] at hde;have hxy:x=y:=snd_inj inv.ndb hx hy hde
    rw [← hxe,← hye,hxy]) w' inv.keep (fun d hd z hz=>by
    obtain⟨x,hx,hxe,e⟩:=hget d hd;obtain⟨z',h1,h2,_⟩:=inv.heap x hx;rw [hxe,hz] at h1;injection h1 with h1;subst h1;show w'.heap[(L.lookup d).getD 0]? = _
    rw [e];exact h2)
   have:=wpAny_of_seq (md:=.any) (Q':=Q) (l.drop n) n listed _ w' (fun j=>by simp [List.getElem?_drop]) (by rw [hdl,← yfi,← hmap];exact hseq) hwl
   rwa [hdl] at this) n (Array.replicate l.toArray.size false) a [] w.drew
  ⟨Keep.drew _ _,by simp,by simp,by simp,fun i o d _ _ _ _=>by rw [getD_replicate_false];simp,by simp⟩ (by rw [← hmap];exact inv0) (by rw [← hmap];exact H)
 rw [show n+(l.toArray.size-n)=l.toArray.size by simp;omega] at hsim
 exact hsim
theorem ydy {ops:Array Oper} {C:World→Prop} {Q Q':Act→Prop} (h:∀ a,Q a→Q' a):∀ (l:List Oper) (a:Act),wpQuiet P ops C Q l a→wpQuiet P ops C Q' l a
 | [],a,hq=>h a hq
 | o :: l,a,hq=>by
  unfold wpQuiet at hq ⊢;split
  ·rename_i hw;rw [if_pos hw] at hq;exact Oper.quiet_mono (fun a' h'=>ydy h l a' h') hq
  rename_i hw;rw [if_neg hw] at hq;exact ydy h l _ hq
def yeq (ops:Array Oper) (i:Nat):Option (Tmp × TypeId) :=
 match ops[i]? with
 | some o=>match o.op with
  | .alloc t=>match o.dst with
   | some d=>some (d,t)
   | none=>none
  | _=>none
 | none=>none
def acB (P:Program) (ops:Array Oper) (n:Nat) (ds:List (Tmp × TypeId)):Bool :=
 decide ((List.range n).filterMap (yeq ops)=ds)&&decide ((ds.map (·.1)).Nodup) &&
 (List.range n).all fun i=>match ops[i]? with
  | some o=>o.guard.isNone&&(if isAl o then o.dst.isSome else (entB P o&&(ds.map (·.1)).all fun d=>!(o.looksAt ops).contains d&&o.dst != some d))
  | none=>true
theorem al_form {o:Oper} (h:isAl o=true):∃ t,o.op = .alloc t:=by
 unfold isAl at h;split at h
 ·rename_i t ht;exact ⟨t,ht⟩
 cases h
theorem yaI {id:Nat} {Q:Exit→Act→World→Prop} {a:Act} {w:World} {l:List Oper} (n:Nat) (ds:List (Tmp × TypeId)) (Z:TypeId→Obj) (hm:P.follows .mixedOrders=true) (hB:Region.lexTailB .any (l.map unal).toArray n=true)
  (hA:acB P l.toArray n ds=true) (hz:∀ t∈ds.map (·.2),∀ (ev:Operand→Value) (w:World) (o:Oper),o.op = .alloc t→(execOp ev o).run P w = .ok (.value (.pointer (some ⟨w.heap.size,0,none⟩))) (w.alloc (Z t)))
  (h:∀ U,Keep [] w U→wpQuiet P (l.map unal).toArray (fun w'=>∃ m,w'=Wk U m) (fun a'=>∀ p:Tmp→Nat,(∀ d∈ds.map (·.1),w.heap.size≤p d)→(∀ d∈ds.map (·.1),∀ e∈ds.map (·.1),p d=p e→d=e)→∀ w',Keep [] w w'→(∀ e∈ds,w'.heap[p e.1]? = some (Z e.2))→wpList P l.toArray Q (l.drop n) (pl ((ds.map (·.1)).map fun d=>(d,p d)) a') w') ((l.map unal).take n) a) :
  (Code.region id l.toArray true).wp P Q a w:=by
 unfold acB at hA;simp only [Bool.and_eq_true,decide_eq_true_eq,List.all_eq_true,List.mem_range] at hA;obtain⟨⟨hf,hnd⟩,hall⟩:=hA
 have hin:∀ i o,i<n→l.toArray[i]? = some o→isAl o=true→∃ d t,o.dst=some d∧o.op = .alloc t∧yeq l.toArray i=some (d,t)∧(d,t)∈ds∧o.guard=none:=fun i o hi ho hal=>by
  have h1:=hall i hi;simp only [ho,hal,if_true,Bool.and_eq_true,Option.isNone_iff_eq_none,Option.isSome_iff_exists] at h1;obtain⟨hg,d,hd⟩:=h1;obtain⟨t,ht⟩:=al_form hal;have e:yeq l.toArray i=some (d,t):=by unfold yeq;simp only [ho,ht,hd]
  exact ⟨d,t,hd,ht,e,by rw [← hf];exact List.mem_filterMap.2 ⟨i,List.mem_range.2 hi,e⟩,hg⟩
 have hlk:∀ d t,(d,t)∈ds→ds.lookup d=some t:=fun d t hm=>by
  have:∀ L:List (Tmp × TypeId),(L.map (·.1)).Nodup→(d,t)∈L→L.lookup d=some t:=by
   intro L;induction L with
   | nil=>intro _ h;cases h
   | cons e L ih =>
    intro hn hm;obtain⟨e1,e2⟩:=e;simp only [List.map_cons,List.nodup_cons] at hn;rw [List.lookup_cons];rcases List.mem_cons.1 hm with h|h
    ·injection h with h1 h2
     subst h1 h2;simp
    have hne:¬ d=e1:=fun h'=>hn.1 (by rw [← h'];exact List.mem_map.2 ⟨(d,t),h,rfl⟩);have:(d == e1)=false:=by simpa using hne
    rw [this];exact ih hn.2 h
  exact this ds hnd hm
 have hlk2:∀ d t,ds.lookup d=some t→(d,t)∈ds:=fun d t hm=>by
  have:∀ L:List (Tmp × TypeId),L.lookup d=some t→(d,t)∈L:=by
   intro L;induction L with
   | nil=>intro h;cases h
   | cons e L ih =>
    obtain⟨e1,e2⟩:=e;intro h;rw [List.lookup_cons] at h;by_cases hd:(d == e1)=true
    ·rw [hd] at h
     simp only [beq_iff_eq] at hd;injection h with h;subst hd h;exact List.mem_cons_self
    have hd':(d == e1)=false:=by simpa using hd
    rw [hd'] at h;exact List.mem_cons_of_mem _ (ih h)
  exact this ds hm
 refine yfk n (fun d=>(ds.lookup d).map Z) (ds.map (·.1)) hm hB ⟨?_,?_,?_⟩ hnd ?_ ?_ ?_
 ·intro i o hi ho hal
  obtain⟨d,t,hd,ht,_,hmem,hg⟩:=hin i o hi ho hal;exact ⟨hg,d,Z t,hd,by rw [hlk d t hmem];rfl,fun ev w=>hz t (List.mem_map.2 ⟨(d,t),hmem,rfl⟩) ev w o ht⟩
 ·intro i o hi ho hal
  have h1:=hall i hi;simp only [ho,hal,Bool.and_eq_true,Option.isNone_iff_eq_none,Bool.false_eq_true,if_false,List.all_eq_true] at h1;obtain⟨hg,he,hd⟩:=h1;refine ⟨he,hg,fun d hs=>?_⟩;rw [Option.isSome_map,Option.isSome_iff_exists] at hs;obtain⟨t,ht⟩:=hs;have:=hd d (List.mem_map.2 ⟨(d,t),hlk2 d t ht,rfl⟩);simp at this;exact ⟨this.1,this.2⟩
 ·intro i j o o' d hi hj ho ho' hal hal' hd hd'
  obtain⟨d1,t1,e1,ht1,f1,m1,_⟩:=hin i o hi ho hal;obtain⟨d2,t2,e2,ht2,f2,m2,_⟩:=hin j o' hj ho' hal';rw [hd] at e1;injection e1 with e1;subst e1;rw [hd'] at e2;injection e2 with e2;subst e2
  -- two places in a list without repetition
  have key:∀ (r:List Nat),r.Nodup→((r.filterMap (yeq l.toArray)).map (·.1)).Nodup→i∈r→j∈r→i=j:=by
   intro r;induction r with
   | nil=>intro _ _ h;cases h
   | cons k r ih =>
    intro hn hm hi hj;simp only [List.nodup_cons] at hn;rcases List.mem_cons.1 hi with hi'|hi'<;>rcases List.mem_cons.1 hj with hj'|hj'
    ·rw [hi',hj']
    ·exfalso
     subst hi';rw [List.filterMap_cons,f1] at hm;simp only [List.map_cons,List.nodup_cons] at hm;exact hm.1 (List.mem_map.2 ⟨(d,t2),List.mem_filterMap.2 ⟨j,hj',f2⟩,rfl⟩)
    ·exfalso
     subst hj';rw [List.filterMap_cons,f2] at hm;simp only [List.map_cons,List.nodup_cons] at hm;exact hm.1 (List.mem_map.2 ⟨(d,t1),List.mem_filterMap.2 ⟨i,hi',f1⟩,rfl⟩)
    refine ih hn.2 ?_ hi' hj';rw [List.filterMap_cons] at hm;split at hm
    ·exact hm
    simp only [List.map_cons,List.nodup_cons] at hm;exact hm.2
  exact key (List.range n) List.nodup_range (by rw [hf];exact hnd) (List.mem_range.2 hi) (List.mem_range.2 hj)
 ·intro d
  rw [Option.isSome_map,Option.isSome_iff_exists];constructor
  ·rintro ⟨t,ht⟩;exact List.mem_map.2 ⟨(d,t),hlk2 d t ht,rfl⟩
  intro hd;obtain⟨x,hx,hxe⟩:=List.mem_map.1 hd;exact ⟨x.2,by rw [← hxe];exact hlk x.1 x.2 hx⟩
 ·intro d hd
  obtain⟨x,hx,hxe⟩:=List.mem_map.1 hd;rw [← hf] at hx;obtain⟨i,hi,hal⟩:=List.mem_filterMap.1 hx;rw [List.mem_range] at hi;unfold yeq at hal;split at hal
  ·rename_i o ho
   split at hal
   ·rename_i t ht
    split at hal
    ·rename_i d' hd'
     injection hal with hal;refine ⟨i,o,hi,ho,by unfold isAl;rw [ht],?_⟩;rw [hd',← hxe,← hal]
    cases hal
   cases hal
  cases hal
 intro U hU;refine ydy (fun a' ha p h1 h2 w' h3 h4=>ha p h1 h2 w' h3 fun e he=>?_) _ _ (h U hU);exact h4 e.1 (List.mem_map.2 ⟨e,he,rfl⟩) (Z e.2) (by rw [hlk e.1 e.2 he];rfl)
end
end Go.Proofs.YtpgffjjpiafhpaaGreatDoor
