/- Parts of a proof: So Sp Pl. -/
import Derived.Test.YtpgffjjpiafhpaaGreatDoorJ20
import Derived.Test.YtpgffjjpiafhpaaGreatDoorJ15
set_option linter.unusedVariables false
set_option linter.unusedSimpArgs false
set_option linter.unusedSectionVars false
set_option maxRecDepth 100000
set_option maxHeartbeats 8000000
namespace Go.Proofs.YtpgffjjpiafhpaaGreatDoor
open Go.RowKit Tryz
theorem side_c (x:Qn) (w:World):Calls prog 127 #[qv x] w fun e w'=>e = .returned (.int .i64 (yci x))∧Keep [] w w':=by
 unfold yci qv;generalize sgB (x.p).num=a1 at *;generalize mgS (x.p).num=a2 at *;generalize dnS (x.p).den=a3 at *;generalize sgB (x.r).num=a4 at *;generalize mgS (x.r).num=a5 at *;generalize dnS (x.r).den=a6 at *;generalize x.neg=n at *;cases n
 all_goals
  go_enter func127,ntmps127
  go_wp2_with fail;obtain⟨W,ga,hW,ega,Bga,hga,hgW,HkW⟩:=al1h w (.cells #[.bool a1,.string a2,.bool false,.string a3,.bool a4,.string a5,.bool false,.string a6,.bool _] 30);rw [← hW];try rw [ega]
  clear hW ega;obtain⟨pga,fga,lga⟩:=jQ Bga;go_wp2_with fail;go_ret
  exact ⟨rfl,by repeat (first|(with_reducible exact HkW.out)|(refine Keep.sP ?_ _ _ _ (by omega))|(refine Keep.aP ?_ _)|(refine Keep.dP ?_))⟩
theorem fcmp_c (x y:Qn) (hx:FitR 200000 x) (hy:FitR 200000 y) (w:World) :
  Calls prog 80 #[qv x,qv y] w fun e w'=>e = .returned (.int .i64 (cmpQ x y))∧Keep [] w w':=by
 have hd:=hx.1.sub hy.1;have H1:=jX (yif x.p y.p (hx.1.mono (by decide)) (hy.1.mono (by decide)));have H2:=jX (sign2_c (x.p-y.p) (yci x) x.r (yci y) y.r (ycZ x) (ycZ y) (hd.mono (by decide)) (hx.2.mono (by decide)) (hy.2.mono (by decide)));have H3:=jX (side_c x);have H4:=jX (side_c y);rw [← d2_cmp];generalize d2 (x.p-y.p) (yci x) x.r (yci y) y.r=n at *;generalize yci x=u at *;generalize yci y=v at *;unfold qv at *;unfold rv at *;generalize sgB (x.p-y.p).num=dn at *;generalize mgS (x.p-y.p).num=ds at *;generalize dnS (x.p-y.p).den=de at *;generalize sgB (x.p).num=a1 at *;generalize mgS (x.p).num=a2 at *;generalize dnS (x.p).den=a3 at *;generalize sgB (x.r).num=a4 at *;generalize mgS (x.r).num=a5 at *;generalize dnS (x.r).den=a6 at *;generalize x.neg=a7 at *;generalize sgB (y.p).num=b1 at *;generalize mgS (y.p).num=b2 at *;generalize dnS (y.p).den=b3 at *;generalize sgB (y.r).num=b4 at *;generalize mgS (y.r).num=b5 at *;generalize dnS (y.r).den=b6 at *;generalize y.neg=b7 at *;clear hx hy hd;unfold signI;by_cases h1:n<0
 ·rw [if_pos h1]
  have t1:decide (n<0)=true:=by simpa using h1
  clear h1;go_enter func80,ntmps80
  go_wp2_with fail;obtain⟨W,ga,gb,hW,ega,egb,Bga,Bgb,hga,hgb,hgW,HkW⟩:=al2h w (.cells #[.bool a1,.string a2,.bool false,.string a3,.bool a4,.string a5,.bool false,.string a6,.bool a7] 30) (.cells #[.bool b1,.string b2,.bool false,.string b3,.bool b4,.string b5,.bool false,.string b6,.bool b7] 30);rw [← hW];try rw [egb]
  try rw [ega]
  clear hW ega egb;have kga:=yaf Bga.out;have kgb:=yaf Bgb.out;have Q1:Hid (∀ m:KW W,Calls prog 88 #[.agg #[.bool a1,.string a2,.bool false,.string a3],.agg #[.bool b1,.string b2,.bool false,.string b3]] (Wk W m) fun e w'=>e = .returned (.agg #[.bool dn,.string ds,.bool false,.string de])∧∃ m,w'=Wk W m):=fun m=>qk m (H1.out _);have Q3:Hid (∀ m:KW W,Calls prog 127 #[.agg #[.bool a1,.string a2,.bool false,.string a3,.bool a4,.string a5,.bool false,.string a6,.bool a7]] (Wk W m) fun e w'=>e = .returned (.int .i64 u)∧∃ m,w'=Wk W m):=fun m=>qk m (H3.out _);have Q4:Hid (∀ m:KW W,Calls prog 127 #[.agg #[.bool b1,.string b2,.bool false,.string b3,.bool b4,.string b5,.bool false,.string b6,.bool b7]] (Wk W m) fun e w'=>e = .returned (.int .i64 v)∧∃ m,w'=Wk W m):=fun m=>qk m (H4.out _);have Q2:Hid (∀ m:KW W,Calls prog 126 #[.agg #[.bool dn,.string ds,.bool false,.string de],.int .i64 u,.agg #[.bool a4,.string a5,.bool false,.string a6],.int .i64 v,.agg #[.bool b4,.string b5,.bool false,.string b6]] (Wk W m) fun e w'=>e = .returned (.int .i64 n)∧∃ m,w'=Wk W m):=fun m=>qk m (H2.out _);clear H1 H2 H3 H4;refine yad (by kernel_rfl) (by kernel_rfl) ?_
  repeat (first
   | go_big_quiet_skip
   | (go_big_quiet_want;go_big_quiet_op;first|go_big_quiet_on|go_big_quiet_call (first
    | (go_at_call 88;with_reducible exact (Q1).out _)|(go_at_call 127;with_reducible exact (Q3).out _)|(go_at_call 127;with_reducible exact (Q4).out _)|(go_at_call 126;with_reducible exact (Q2).out _))))
  refine wpQuiet_nil ?_;rintro w1 ⟨⟨_,hk_w1⟩,rfl⟩;clear kga kgb Q1 Q2 Q3 Q4;replace Bga:=jH hk_w1 Bga;replace Bgb:=jH hk_w1 Bgb;replace HkW:=jX (HkW.out.tz hk_w1);clear hk_w1;go_wp2_with fail;go_ret
  exact ⟨rfl,by repeat (first|(with_reducible exact HkW.out)|(refine Keep.sP ?_ _ _ _ (by omega))|(refine Keep.aP ?_ _)|(refine Keep.dP ?_))⟩
 rw [if_neg h1];have t1:decide (n<0)=false:=by simpa using h1
 by_cases h2:0<n
 ·rw [if_pos h2]
  have t2:decide (0<n)=true:=by simpa using h2
  clear h1 h2;go_enter func80,ntmps80
  go_wp2_with fail;obtain⟨W,ga,gb,hW,ega,egb,Bga,Bgb,hga,hgb,hgW,HkW⟩:=al2h w (.cells #[.bool a1,.string a2,.bool false,.string a3,.bool a4,.string a5,.bool false,.string a6,.bool a7] 30) (.cells #[.bool b1,.string b2,.bool false,.string b3,.bool b4,.string b5,.bool false,.string b6,.bool b7] 30);rw [← hW];try rw [egb]
  try rw [ega]
  clear hW ega egb;have kga:=yaf Bga.out;have kgb:=yaf Bgb.out;have Q1:Hid (∀ m:KW W,Calls prog 88 #[.agg #[.bool a1,.string a2,.bool false,.string a3],.agg #[.bool b1,.string b2,.bool false,.string b3]] (Wk W m) fun e w'=>e = .returned (.agg #[.bool dn,.string ds,.bool false,.string de])∧∃ m,w'=Wk W m):=fun m=>qk m (H1.out _);have Q3:Hid (∀ m:KW W,Calls prog 127 #[.agg #[.bool a1,.string a2,.bool false,.string a3,.bool a4,.string a5,.bool false,.string a6,.bool a7]] (Wk W m) fun e w'=>e = .returned (.int .i64 u)∧∃ m,w'=Wk W m):=fun m=>qk m (H3.out _);have Q4:Hid (∀ m:KW W,Calls prog 127 #[.agg #[.bool b1,.string b2,.bool false,.string b3,.bool b4,.string b5,.bool false,.string b6,.bool b7]] (Wk W m) fun e w'=>e = .returned (.int .i64 v)∧∃ m,w'=Wk W m):=fun m=>qk m (H4.out _);have Q2:Hid (∀ m:KW W,Calls prog 126 #[.agg #[.bool dn,.string ds,.bool false,.string de],.int .i64 u,.agg #[.bool a4,.string a5,.bool false,.string a6],.int .i64 v,.agg #[.bool b4,.string b5,.bool false,.string b6]] (Wk W m) fun e w'=>e = .returned (.int .i64 n)∧∃ m,w'=Wk W m):=fun m=>qk m (H2.out _);clear H1 H2 H3 H4;refine yad (by kernel_rfl) (by kernel_rfl) ?_
  repeat (first
   | go_big_quiet_skip
   | (go_big_quiet_want;go_big_quiet_op;first|go_big_quiet_on|go_big_quiet_call (first
    | (go_at_call 88;with_reducible exact (Q1).out _)|(go_at_call 127;with_reducible exact (Q3).out _)|(go_at_call 127;with_reducible exact (Q4).out _)|(go_at_call 126;with_reducible exact (Q2).out _))))
  refine wpQuiet_nil ?_;rintro w1 ⟨⟨_,hk_w1⟩,rfl⟩;clear kga kgb Q1 Q2 Q3 Q4;replace Bga:=jH hk_w1 Bga;replace Bgb:=jH hk_w1 Bgb;replace HkW:=jX (HkW.out.tz hk_w1);clear hk_w1;go_wp2_with fail;go_ret
  exact ⟨rfl,by repeat (first|(with_reducible exact HkW.out)|(refine Keep.sP ?_ _ _ _ (by omega))|(refine Keep.aP ?_ _)|(refine Keep.dP ?_))⟩
 rw [if_neg h2];have t2:decide (0<n)=false:=by simpa using h2
 clear h1 h2;go_enter func80,ntmps80
 go_wp2_with fail;obtain⟨W,ga,gb,hW,ega,egb,Bga,Bgb,hga,hgb,hgW,HkW⟩:=al2h w (.cells #[.bool a1,.string a2,.bool false,.string a3,.bool a4,.string a5,.bool false,.string a6,.bool a7] 30) (.cells #[.bool b1,.string b2,.bool false,.string b3,.bool b4,.string b5,.bool false,.string b6,.bool b7] 30);rw [← hW];try rw [egb]
 try rw [ega]
 clear hW ega egb;have kga:=yaf Bga.out;have kgb:=yaf Bgb.out;have Q1:Hid (∀ m:KW W,Calls prog 88 #[.agg #[.bool a1,.string a2,.bool false,.string a3],.agg #[.bool b1,.string b2,.bool false,.string b3]] (Wk W m) fun e w'=>e = .returned (.agg #[.bool dn,.string ds,.bool false,.string de])∧∃ m,w'=Wk W m):=fun m=>qk m (H1.out _);have Q3:Hid (∀ m:KW W,Calls prog 127 #[.agg #[.bool a1,.string a2,.bool false,.string a3,.bool a4,.string a5,.bool false,.string a6,.bool a7]] (Wk W m) fun e w'=>e = .returned (.int .i64 u)∧∃ m,w'=Wk W m):=fun m=>qk m (H3.out _);have Q4:Hid (∀ m:KW W,Calls prog 127 #[.agg #[.bool b1,.string b2,.bool false,.string b3,.bool b4,.string b5,.bool false,.string b6,.bool b7]] (Wk W m) fun e w'=>e = .returned (.int .i64 v)∧∃ m,w'=Wk W m):=fun m=>qk m (H4.out _);have Q2:Hid (∀ m:KW W,Calls prog 126 #[.agg #[.bool dn,.string ds,.bool false,.string de],.int .i64 u,.agg #[.bool a4,.string a5,.bool false,.string a6],.int .i64 v,.agg #[.bool b4,.string b5,.bool false,.string b6]] (Wk W m) fun e w'=>e = .returned (.int .i64 n)∧∃ m,w'=Wk W m):=fun m=>qk m (H2.out _);clear H1 H2 H3 H4;refine yad (by kernel_rfl) (by kernel_rfl) ?_
 repeat (first
  | go_big_quiet_skip
  | (go_big_quiet_want;go_big_quiet_op;first|go_big_quiet_on|go_big_quiet_call (first
   | (go_at_call 88;with_reducible exact (Q1).out _)|(go_at_call 127;with_reducible exact (Q3).out _)|(go_at_call 127;with_reducible exact (Q4).out _)|(go_at_call 126;with_reducible exact (Q2).out _))))
 refine wpQuiet_nil ?_;rintro w1 ⟨⟨_,hk_w1⟩,rfl⟩;clear kga kgb Q1 Q2 Q3 Q4;replace Bga:=jH hk_w1 Bga;replace Bgb:=jH hk_w1 Bgb;replace HkW:=jX (HkW.out.tz hk_w1);clear hk_w1;go_wp2_with fail;go_ret
 exact ⟨rfl,by repeat (first|(with_reducible exact HkW.out)|(refine Keep.sP ?_ _ _ _ (by omega))|(refine Keep.aP ?_ _)|(refine Keep.dP ?_))⟩
open Classical in
noncomputable def ofQ (p r:Rat) (neg:Bool):Qn:=if h:∃ q:Rat,0≤q∧q*q=r then ⟨if neg then p-h.choose else p+h.choose,0,false⟩ else ⟨p,r,neg⟩
theorem root_eq {a b:Rat} (ha:0≤a) (hb:0≤b) (h:a*a=b*b):a=b:=by
 have h1:(a-b)*(a+b)=0:=by grind
 rcases Rat.mul_eq_zero.1 h1 with h2|h2<;>grind
theorem yho {p r q:Rat} {neg:Bool} (h:0≤q∧q*q=r):ofQ p r neg=⟨if neg then p-q else p+q,0,false⟩:=by
 have hx:∃ q:Rat,0≤q∧q*q=r:=⟨q,h⟩;unfold ofQ;rw [dif_pos hx];have:=hx.choose_spec;rw [root_eq h.1 this.1 (by rw [h.2,this.2])]
theorem ofQ_no {p r:Rat} {neg:Bool} (h:∀ q:Rat,q*q≠r):ofQ p r neg=⟨p,r,neg⟩:=by
 unfold ofQ;rw [dif_neg];rintro ⟨q,_,hq⟩;exact h q hq
theorem ydr {q r:Rat} (h:q*q=r):∃ q':Rat,0≤q'∧q'*q'=r:=by
 rcases Rat.le_total (a:=0) (b:=q) with h1|h1
 ·exact ⟨q,h1,h⟩
 exact ⟨-q,by grind,by grind⟩
theorem ofQ_ok {p r:Rat} {neg:Bool} (hr:0≤r):(ofQ p r neg).Ok:=by
 by_cases h:∃ q:Rat,q*q=r
 ·obtain⟨q,hq⟩:=h
  obtain⟨q',h1,h2⟩:=ydr hq;rw [yho ⟨h1,h2⟩];exact ⟨by show (0:Rat)≤0;grind,fun _=>rfl,fun h=>absurd rfl h⟩
 have h':∀ q:Rat,q*q≠r:=fun q hq=>h ⟨q,hq⟩;rw [ofQ_no h'];refine ⟨hr,fun h0=>?_,fun _=>h'⟩;have h0:r=0:=h0;exact absurd (show (0:Rat)*0=r by rw [h0];grind) (h' 0)
theorem ygk {k:Nat} {q r:Rat} (hr:FitQ k r) (h:q*q=r):FitQ k q:=by
 have hp:=yeC q;rw [h] at hp;constructor
 ·have h1:=Fit_iff.1 hr.1
  rw [hp.1,Int.natAbs_mul] at h1;exact Fit_iff.2 (Nat.lt_of_le_of_lt (Nat.le_mul_self _) h1)
 have h1:=Fit_iff.1 hr.2;rw [hp.2] at h1;refine Fit_iff.2 (Nat.lt_of_le_of_lt ?_ h1);have:=Nat.le_mul_self q.den;show q.den≤q.den*q.den
 exact this
theorem fit0:FitQ 1 0:=by refine ⟨?_,?_⟩<;>rw [Fit_iff]<;>decide
theorem ofQ_fit {k l:Nat} {p r:Rat} {neg:Bool} (hp:FitQ k p) (hr:FitQ l r):FitR (k+l+1) (ofQ p r neg):=by
 by_cases h:∃ q:Rat,q*q=r
 ·obtain⟨q,hq⟩:=h
  obtain⟨q',h1,h2⟩:=ydr hq;rw [yho ⟨h1,h2⟩];refine ⟨?_,fit0.mono (by omega)⟩;cases neg
  ·exact hp.add (ygk hr h2)
  exact hp.sub (ygk hr h2)
 rw [ofQ_no (fun q hq=>h ⟨q,hq⟩)];exact ⟨hp.mono (by omega),hr.mono (by omega)⟩
theorem qv_plain (p:Rat):qv ⟨p,0,false⟩ = .agg #[.bool (sgB p.num),.string (mgS p.num),.bool false,.string (dnS p.den),.bool false,.string ⟨#[]⟩,.bool false,.string ⟨#[]⟩,.bool false]:=by
 unfold qv;show Value.agg #[.bool (sgB p.num),.string (mgS p.num),.bool false,.string (dnS p.den),.bool (sgB 0),.string (mgS 0),.bool false,.string (dnS 1),.bool false]=_
 rw [ybn.2 rfl,ycM rfl];rfl
theorem yeQ (a b c d:Value):prog.built 30 [(0,.agg #[a,b,c,d])]=some #[a,b,c,d,.bool false,.string ⟨#[]⟩,.bool false,.string ⟨#[]⟩,.bool false]:=by kernel_rfl
theorem yhz (a b c d e f g h:Value) (i:Bool):prog.built 30 [(0,.agg #[a,b,c,d]),(1,.agg #[e,f,g,h]),(2,.bool i)]=some #[a,b,c,d,e,f,g,h,.bool i]:=by kernel_rfl
theorem fof_c (p r:Rat) (neg:Bool) (hp:FitQ 1000000 p) (hr:FitQ 1000000 r) (w:World) :
  Calls prog 90 #[rv p,rv r,.bool neg] w fun e w'=>e = .returned (qv (ofQ p r neg))∧Keep [] w w':=by
 have hex:∃ q ok,QRoot r q ok∧∀ w,Calls prog 87 #[rv r] w fun e w'=>e = .returned (.tuple #[rv q,.bool ok])∧Keep [] w w':=by
  by_cases h:∃ q:Rat,q*q=r
  ·obtain⟨q,hq⟩:=h
   obtain⟨q',h1,h2⟩:=ydr hq;refine ⟨q',true,⟨fun _=>⟨h1,h2⟩,fun h=>(by cases h)⟩,fun w=>(yhm r (hr.mono (by decide)) w).mono ?_⟩;rintro e w' ⟨q2,ok,rfl,hq2,hk⟩;cases ok with
   | true=>rw [root_eq h1 (hq2.1 rfl).1 (by rw [h2,(hq2.1 rfl).2])];exact ⟨rfl,hk⟩
   | false=>exact absurd h2 ((hq2.2 rfl).2 q')
  refine ⟨0,false,⟨fun h=>(by cases h),fun _=>⟨rfl,fun q hq=>h ⟨q,hq⟩⟩⟩,fun w=>(yhm r (hr.mono (by decide)) w).mono ?_⟩;rintro e w' ⟨q2,ok,rfl,hq2,hk⟩;cases ok with
  | true=>exact absurd ⟨q2,(hq2.1 rfl).2⟩ h
  | false=>rw [(hq2.2 rfl).1];exact ⟨rfl,hk⟩
 obtain⟨q,ok,hq,HR⟩:=hex;have HR:=jX HR;cases ok with
 | true =>
  have h2:=(hq.1 rfl);rw [yho h2,qv_plain];have hfq:=ygk hr h2.2;cases neg with
  | true =>
   have HS:=jX (yif p q (hp.mono (by decide)) (hfq.mono (by decide)));rw [if_pos rfl];clear hq h2 hfq hp hr;unfold rv at *;generalize sgB (p-q).num=n1 at *;generalize mgS (p-q).num=s1 at *;generalize dnS (p-q).den=e1 at *;generalize sgB (p).num=p1 at *;generalize mgS (p).num=p2 at *;generalize dnS (p).den=p3 at *;generalize sgB (r).num=r1 at *;generalize mgS (r).num=r2 at *;generalize dnS (r).den=r3 at *;generalize sgB (q).num=q1 at *;generalize mgS (q).num=q2 at *;generalize dnS (q).den=q3 at *;go_enter func90,ntmps90
   go_wp2_with fail;obtain⟨W,ga,gb,gc,hW,ega,egb,egc,Bga,Bgb,Bgc,hga,hgb,hgc,hgW,HkW⟩:=al3h w (.cells #[.bool p1,.string p2,.bool false,.string p3] 28) (.cells #[.bool r1,.string r2,.bool false,.string r3] 28) (.cells #[.bool false,.string ⟨#[]⟩,.bool false,.string ⟨#[]⟩,.bool false,.string ⟨#[]⟩,.bool false,.string ⟨#[]⟩,.bool false] 30);rw [← hW];try rw [egc]
   try rw [egb]
   try rw [ega]
   clear hW ega egb egc;obtain⟨pgb,fgb,lgb⟩:=jQ Bgb;go_wp2_with fail;refine (HR.out _).mono ?_;rintro e w1 ⟨rfl,hk_w1⟩;dsimp only;clear pgb fgb lgb HR;replace Bga:=jH hk_w1 Bga;replace Bgb:=jH hk_w1 Bgb;replace Bgc:=jH hk_w1 Bgc;replace HkW:=jX (HkW.out.tz hk_w1);clear hk_w1;obtain⟨pga,fga,lga⟩:=jQ Bga;obtain⟨pgb,fgb,lgb⟩:=jQ Bgb;go_wp2_with fail;refine (HS.out _).mono ?_;rintro e w2 ⟨rfl,hk2⟩;dsimp only;have hk_w2:=(Keep.alloc [] w1 (.cells #[.bool q1,.string q2,.bool false,.string q3] 28)).tz hk2;clear hk2 pga fga lga pgb fgb lgb HS;replace Bga:=jH hk_w2 Bga;replace Bgb:=jH hk_w2 Bgb;replace Bgc:=jH hk_w2 Bgc;replace HkW:=jX (HkW.out.tz hk_w2);clear hk_w2;obtain⟨pgc,fgc,lgc⟩:=jQ Bgc;have hbd:=fun w=>run_build (P:=prog) w 30 #[(0,.agg #[.bool n1,.string s1,.bool false,.string e1])] _ (yeQ _ _ _ _);go_wp2_with fail;refine bodyPost_ret (v:=.agg #[.bool n1,.string s1,.bool false,.string e1,.bool false,.string ⟨#[]⟩,.bool false,.string ⟨#[]⟩,.bool false]) ?_ rfl ⟨rfl,by repeat (first|(with_reducible exact HkW.out)|(refine Keep.sP ?_ _ _ _ (by omega))|(refine Keep.aP ?_ _)|(refine Keep.dP ?_))⟩;rw [yac rfl];go_simp
  | false =>
   have HS:=jX (radd_c p q (hp.mono (by decide)) (hfq.mono (by decide)));rw [if_neg (by decide)];clear hq h2 hfq hp hr;unfold rv at *;generalize sgB (p+q).num=n1 at *;generalize mgS (p+q).num=s1 at *;generalize dnS (p+q).den=e1 at *;generalize sgB (p).num=p1 at *;generalize mgS (p).num=p2 at *;generalize dnS (p).den=p3 at *;generalize sgB (r).num=r1 at *;generalize mgS (r).num=r2 at *;generalize dnS (r).den=r3 at *;generalize sgB (q).num=q1 at *;generalize mgS (q).num=q2 at *;generalize dnS (q).den=q3 at *;go_enter func90,ntmps90
   go_wp2_with fail;obtain⟨W,ga,gb,gc,hW,ega,egb,egc,Bga,Bgb,Bgc,hga,hgb,hgc,hgW,HkW⟩:=al3h w (.cells #[.bool p1,.string p2,.bool false,.string p3] 28) (.cells #[.bool r1,.string r2,.bool false,.string r3] 28) (.cells #[.bool false,.string ⟨#[]⟩,.bool false,.string ⟨#[]⟩,.bool false,.string ⟨#[]⟩,.bool false,.string ⟨#[]⟩,.bool false] 30);rw [← hW];try rw [egc]
   try rw [egb]
   try rw [ega]
   clear hW ega egb egc;obtain⟨pgb,fgb,lgb⟩:=jQ Bgb;go_wp2_with fail;refine (HR.out _).mono ?_;rintro e w1 ⟨rfl,hk_w1⟩;dsimp only;clear pgb fgb lgb HR;replace Bga:=jH hk_w1 Bga;replace Bgb:=jH hk_w1 Bgb;replace Bgc:=jH hk_w1 Bgc;replace HkW:=jX (HkW.out.tz hk_w1);clear hk_w1;obtain⟨pga,fga,lga⟩:=jQ Bga;obtain⟨pgb,fgb,lgb⟩:=jQ Bgb;go_wp2_with fail;refine (HS.out _).mono ?_;rintro e w2 ⟨rfl,hk2⟩;dsimp only;have hk_w2:=(Keep.alloc [] w1 (.cells #[.bool q1,.string q2,.bool false,.string q3] 28)).tz hk2;clear hk2 pga fga lga pgb fgb lgb HS;replace Bga:=jH hk_w2 Bga;replace Bgb:=jH hk_w2 Bgb;replace Bgc:=jH hk_w2 Bgc;replace HkW:=jX (HkW.out.tz hk_w2);clear hk_w2;obtain⟨pgc,fgc,lgc⟩:=jQ Bgc;have hbd:=fun w=>run_build (P:=prog) w 30 #[(0,.agg #[.bool n1,.string s1,.bool false,.string e1])] _ (yeQ _ _ _ _);go_wp2_with fail;refine bodyPost_ret (v:=.agg #[.bool n1,.string s1,.bool false,.string e1,.bool false,.string ⟨#[]⟩,.bool false,.string ⟨#[]⟩,.bool false]) ?_ rfl ⟨rfl,by repeat (first|(with_reducible exact HkW.out)|(refine Keep.sP ?_ _ _ _ (by omega))|(refine Keep.aP ?_ _)|(refine Keep.dP ?_))⟩;rw [yac rfl];go_simp
 | false =>
  rw [ofQ_no (hq.2 rfl).2];unfold qv;clear hq hp hr;unfold rv at *;generalize sgB (q).num=q1 at *;generalize mgS (q).num=q2 at *;generalize dnS (q).den=q3 at *;dsimp only;generalize sgB (p).num=p1 at *;generalize mgS (p).num=p2 at *;generalize dnS (p).den=p3 at *;generalize sgB (r).num=r1 at *;generalize mgS (r).num=r2 at *;generalize dnS (r).den=r3 at *;go_enter func90,ntmps90
  go_wp2_with fail;obtain⟨W,ga,gb,gc,hW,ega,egb,egc,Bga,Bgb,Bgc,hga,hgb,hgc,hgW,HkW⟩:=al3h w (.cells #[.bool p1,.string p2,.bool false,.string p3] 28) (.cells #[.bool r1,.string r2,.bool false,.string r3] 28) (.cells #[.bool false,.string ⟨#[]⟩,.bool false,.string ⟨#[]⟩,.bool false,.string ⟨#[]⟩,.bool false,.string ⟨#[]⟩,.bool false] 30);rw [← hW];try rw [egc]
  try rw [egb]
  try rw [ega]
  clear hW ega egb egc;obtain⟨pgb,fgb,lgb⟩:=jQ Bgb;go_wp2_with fail;refine (HR.out _).mono ?_;rintro e w1 ⟨rfl,hk_w1⟩;dsimp only;clear pgb fgb lgb HR;replace Bga:=jH hk_w1 Bga;replace Bgb:=jH hk_w1 Bgb;replace Bgc:=jH hk_w1 Bgc;replace HkW:=jX (HkW.out.tz hk_w1);clear hk_w1;go_upto_region 6 with (fail)
  obtain⟨u2,gd,e1,e2,bgd,_,_,hk2⟩:=al1 w1 (.cells #[.bool q1,.string q2,.bool false,.string q3] 28);rw [← e1];clear e1;replace Bga:=jH hk2 Bga;replace Bgb:=jH hk2 Bgb;replace Bgc:=jH hk2 Bgc;replace HkW:=jX (HkW.out.tz hk2);clear hk2;obtain⟨pga,fga,lga⟩:=jQ Bga;obtain⟨pgb,fgb,lgb⟩:=jQ Bgb;obtain⟨pgc,fgc,lgc⟩:=jQ Bgc;have hbd:=fun w=>run_build (P:=prog) w 30 #[(0,.agg #[.bool p1,.string p2,.bool false,.string p3]),(1,.agg #[.bool r1,.string r2,.bool false,.string r3]),(2,.bool neg)] _ (yhz _ _ _ _ _ _ _ _ _);go_wp2_with fail;refine bodyPost_ret (v:=.agg #[.bool p1,.string p2,.bool false,.string p3,.bool r1,.string r2,.bool false,.string r3,.bool neg]) ?_ rfl ⟨rfl,by repeat (first|(with_reducible exact HkW.out)|(refine Keep.sP ?_ _ _ _ (by omega))|(refine Keep.aP ?_ _)|(refine Keep.dP ?_))⟩;rw [yac rfl];go_simp
structure Bd (α:Type) where
 pt:α
 beh:Bool
section
open Classical
variable {α:Type} [LE α] [LT α] [Std.LawfulOrderLT α] [Std.IsLinearOrder α]
instance:LE (Bd α):=⟨fun a b=>a.pt<b.pt∨(a.pt=b.pt∧(a.beh=true→b.beh=true))⟩
instance:LT (Bd α):=⟨fun a b=>a.pt<b.pt∨(a.pt=b.pt∧a.beh=false∧b.beh=true)⟩
theorem Bd.le_def {a b:Bd α}:a≤b↔a.pt<b.pt∨(a.pt=b.pt∧(a.beh=true→b.beh=true)):=Iff.rfl
theorem Bd.lt_def {a b:Bd α}:a<b↔a.pt<b.pt∨(a.pt=b.pt∧a.beh=false∧b.beh=true):=Iff.rfl
theorem Bd.ext {a b:Bd α} (h:a.pt=b.pt) (h2:a.beh=b.beh):a=b:=by cases a;cases b;simp_all
instance:Std.IsLinearOrder (Bd α) where
 le_refl a:=.inr ⟨rfl,id⟩
 le_trans a b c h h2:=by
  rw [Bd.le_def] at *;grind
 le_antisymm a b h h2:=by
  rw [Bd.le_def] at *;have h3:a.pt=b.pt:=by grind
  refine Bd.ext h3 ?_;cases ha:a.beh<;>cases hb:b.beh<;>grind
 le_total a b:=by
  rw [Bd.le_def,Bd.le_def];grind
instance:Std.LawfulOrderLT (Bd α) where
 lt_iff a b:=by
  rw [Bd.lt_def,Bd.le_def,Bd.le_def];cases ha:a.beh<;>cases hb:b.beh<;>grind
structure Iv (α:Type) where
 f:Bd α
 l:Bd α
noncomputable def Iv.has (i:Iv α) (x:Bd α):Bool:=decide (i.f≤x∧x<i.l)
noncomputable def hasL (l:List (Iv α)) (x:Bd α):Bool:=l.any (fun i=>i.has x)
def NormF:List (Iv α)→Bd α→Prop
 | [],_=>True
 | i :: l,b=>b<i.f∧i.f<i.l∧NormF l i.l
def Norm:List (Iv α)→Prop
 | []=>True
 | i :: l=>i.f<i.l∧NormF l i.l
theorem Iv.hI {i:Iv α} {x:Bd α}:i.has x=true↔i.f≤x∧x<i.l:=by unfold Iv.has;simp
theorem yaz {i:Iv α} {l:List (Iv α)} {x:Bd α}:hasL (i :: l) x=(i.has x || hasL l x):=rfl
theorem yfR {x:Bd α}:hasL [] x=false:=rfl
theorem NormF.before {l:List (Iv α)} {b:Bd α} (h:NormF l b) {x:Bd α} (hx:x≤b):hasL l x=false:=by
 induction l generalizing b with
 | nil=>rfl
 | cons i l ih =>
  obtain⟨h1,h2,h3⟩:=h;rw [yaz,ih h3 (by grind),Bool.or_false];rw [← Bool.not_eq_true,Iv.hI];grind
theorem NormF.norm {l:List (Iv α)} {b:Bd α} (h:NormF l b):Norm l:=by
 cases l with
 | nil=>trivial
 | cons i l=>exact h.2
theorem NormF.mono {l:List (Iv α)} {b c:Bd α} (h:NormF l b) (hc:c≤b):NormF l c:=by
 cases l with
 | nil=>trivial
 | cons i l=>exact ⟨by have:=h.1;grind,h.2⟩
theorem yhJ {l m:List (Iv α)} (hl:Norm l) (hm:Norm m) (h:∀ x,hasL l x=hasL m x):l=m:=by
 induction l generalizing m with
 | nil =>
  cases m with
  | nil=>rfl
  | cons j m =>
   exfalso;have:=h j.f;rw [yaz,Iv.hI.2 ⟨by grind,hm.1⟩,yfR] at this;simp at this
 | cons i l ih =>
  cases m with
  | nil =>
   exfalso;have:=h i.f;rw [yaz,Iv.hI.2 ⟨by grind,hl.1⟩,yfR] at this;simp at this
  | cons j m =>
   have e1:i.f=j.f:=by
    have k1:=h i.f;have k2:=h j.f;rw [yaz,yaz] at k1 k2;rw [Iv.hI.2 ⟨by grind,hl.1⟩,Bool.true_or] at k1;rw [Iv.hI.2 ⟨by grind,hm.1⟩,Bool.true_or] at k2;by_cases c:i.f<j.f
    ·exfalso
     rw [hm.2.before (by have:=hm.1;grind),Bool.or_false] at k1;have:=Iv.hI.1 k1.symm;grind
    by_cases c2:j.f<i.f
    ·exfalso
     rw [hl.2.before (by have:=hl.1;grind),Bool.or_false] at k2;have:=Iv.hI.1 k2;grind
    grind
   have e2:i.l=j.l:=by
    by_cases c:i.l<j.l
    ·exfalso
     have k:=h i.l;rw [yaz,yaz,hl.2.before (by grind),Bool.or_false,Iv.hI.2 ⟨by have:=hl.1;grind,c⟩,Bool.true_or] at k;have:=Iv.hI.1 k;grind
    by_cases c2:j.l<i.l
    ·exfalso
     have k:=h j.l;rw [yaz,yaz,hm.2.before (by grind),Bool.or_false,(Iv.hI (i:=i)).2 ⟨by have:=hm.1;grind,c2⟩,Bool.true_or] at k;have:=Iv.hI.1 k.symm;grind
    grind
   have e:i=j:=by cases i;cases j;simp_all
   subst e;rw [ih hl.2.norm hm.2.norm];intro x;by_cases c:x<i.l
   ·rw [hl.2.before (by grind),hm.2.before (by grind)]
   have:=h x;rw [yaz,yaz] at this
   have hn:i.has x=false:=by
    rw [← Bool.not_eq_true,Iv.hI];grind
   rw [hn] at this
   simpa using this
def run (F:Bd α→Bool):List (Bd α)→Option (Bd α)→List (Iv α)
 | [],_=>[]
 | b :: l,none=>if F b then run F l (some b) else run F l none
 | b :: l,some c=>if F b then run F l (some c) else ⟨c,b⟩ :: run F l none
def Up:List (Bd α)→Bd α→Prop
 | [],_=>True
 | b :: l,a=>a<b∧Up l b
theorem Up.all {l:List (Bd α)} {a:Bd α} (h:Up l a):∀ c∈l,a<c:=by
 induction l generalizing a with
 | nil=>simp
 | cons b l ih =>
  intro c hc;rcases List.mem_cons.1 hc with rfl|hc
  ·exact h.1
  have:=ih h.2 c hc;have:=h.1;grind
theorem run_law {F:Bd α→Bool} (l:List (Bd α)):∀ lo:Bd α,Up l lo→(∀ x y,lo≤x→lo≤y→(∀ c∈l,c≤x↔c≤y)→F x=F y)→(∀ x,lo≤x→(∀ c∈l,c≤x)→F x=false) →
  (F lo=false→NormF (run F l none) lo∧∀ x,lo≤x→hasL (run F l none) x=F x) ∧
  (∀ c,c≤lo→F lo=true→∃ e m,run F l (some c)=⟨c,e⟩ :: m∧lo<e∧NormF m e∧∀ x,lo≤x→hasL (run F l (some c)) x=F x):=by
 induction l with
 | nil =>
  intro lo hu hj he;refine ⟨fun _=>⟨trivial,fun x hx=>?_⟩,fun c hc h=>?_⟩
  ·rw [he x hx (by simp)];rfl
  rw [he lo (by grind) (by simp)] at h;exact absurd h (by simp)
 | cons b l ih =>
  intro lo hu hj he;have hlo:lo<b:=hu.1
  have hjb:∀ x y,b≤x→b≤y→(∀ c∈l,c≤x↔c≤y)→F x=F y:=fun x y hx hy h=>by
   refine hj x y (by grind) (by grind) (fun c hc=>?_);rcases List.mem_cons.1 hc with rfl|hc
   ·grind
   exact h c hc
  have heb:∀ x,b≤x→(∀ c∈l,c≤x)→F x=false:=fun x hx h=>by
   refine he x (by grind) (fun c hc=>?_);rcases List.mem_cons.1 hc with rfl|hc
   ·exact hx
   exact h c hc
  obtain⟨i1,i2⟩:=ih b hu.2 hjb heb;have hall:=hu.2.all
  have same:∀ x,lo≤x→x<b→F x=F lo:=fun x hx hb=>by
   refine hj x lo hx (by grind) (fun c hc=>?_);rcases List.mem_cons.1 hc with rfl|hc
   ·grind
   have:=hall c hc;grind
  refine ⟨fun h0=>?_,fun c hc h0=>?_⟩
  ·unfold run
   by_cases hb:F b=true
   ·rw [if_pos hb]
    obtain⟨e,m,e1,e2,e3,e4⟩:=i2 b (by grind) hb;rw [e1] at e4 ⊢;refine ⟨⟨hlo,e2,e3⟩,fun x hx=>?_⟩;by_cases hxb:x<b
    ·have hn:NormF (⟨b,e⟩ :: m) lo:=⟨hlo,e2,e3⟩
     rw [same x hx hxb,h0,yaz,e3.before (by grind),Bool.or_false,← Bool.not_eq_true,Iv.hI];grind
    exact e4 x (by grind)
   rw [if_neg hb];obtain⟨k1,k2⟩:=i1 (by simpa using hb);refine ⟨k1.mono (by grind),fun x hx=>?_⟩;by_cases hxb:x<b
   ·rw [same x hx hxb,h0,k1.before (by grind)]
   exact k2 x (by grind)
  unfold run;by_cases hb:F b=true
  ·rw [if_pos hb]
   obtain⟨e,m,e1,e2,e3,e4⟩:=i2 c (by grind) hb;refine ⟨e,m,e1,by grind,e3,fun x hx=>?_⟩;by_cases hxb:x<b
   ·rw [same x hx hxb,h0,e1,yaz,Iv.hI.2 ⟨by grind,by grind⟩,Bool.true_or]
   exact e4 x (by grind)
  rw [if_neg hb];obtain⟨k1,k2⟩:=i1 (by simpa using hb);refine ⟨b,_,rfl,hlo,k1,fun x hx=>?_⟩;by_cases hxb:x<b
  ·rw [same x hx hxb,h0,yaz,Iv.hI.2 ⟨by grind,by grind⟩,Bool.true_or]
  rw [yaz,k2 x (by grind)]
  have hn:(Iv.mk c b).has x=false:=by
   rw [← Bool.not_eq_true,Iv.hI];grind
  rw [hn,Bool.false_or]
def Ups:List (Bd α)→Prop
 | []=>True
 | b :: l=>Up l b
theorem yij {F:Bd α→Bool} {l:List (Bd α)} (hu:Ups l) (hj:∀ x y,(∀ c∈l,c≤x↔c≤y)→F x=F y) (h0:∀ x,(∀ c∈l,x<c)→F x=false) (h1:∀ x,(∀ c∈l,c≤x)→F x=false) :
  Norm (run F l none)∧∀ x,hasL (run F l none) x=F x:=by
 cases l with
 | nil=>exact ⟨trivial,fun x=>by rw [h0 x (by simp)];rfl⟩
 | cons b l =>
  have hall:=Up.all hu
  obtain⟨i1,i2⟩:=run_law (F:=F) l b hu (fun x y hx hy h=>hj x y (fun c hc=>by
   rcases List.mem_cons.1 hc with rfl|hc
   ·grind
   ·exact h c hc)) (fun x hx h=>h1 x (fun c hc=>by
   rcases List.mem_cons.1 hc with rfl|hc
   ·exact hx
   exact h c hc))
  have low:∀ x,x<b→F x=false:=fun x hx=>h0 x (fun c hc=>by
   rcases List.mem_cons.1 hc with rfl|hc
   ·exact hx
   have:=hall c hc
   grind)
  unfold run;by_cases hb:F b=true
  ·rw [if_pos hb]
   obtain⟨e,m,e1,e2,e3,e4⟩:=i2 b (by grind) hb;rw [e1] at e4 ⊢;refine ⟨⟨e2,e3⟩,fun x=>?_⟩;by_cases hx:x<b
   ·rw [low x hx,yaz,e3.before (by grind),Bool.or_false,← Bool.not_eq_true,Iv.hI]
    grind
   exact e4 x (by grind)
  rw [if_neg hb];obtain⟨k1,k2⟩:=i1 (by simpa using hb);refine ⟨k1.norm,fun x=>?_⟩;by_cases hx:x<b
  ·rw [low x hx,k1.before (by grind)]
  exact k2 x (by grind)
def yht (l:List (Iv α)) (b:Bd α):List (Iv α):=match l.getLast? with
 | none=>l
 | some i=>l.dropLast++[⟨i.f,b⟩]
theorem ybq {l:List (Iv α)} {i:Iv α} {b:Bd α}:yht (l++[i]) b=l++[⟨i.f,b⟩]:=by
 unfold yht;simp
def ydT (here op:Bool) (t:α) (out:List (Iv α)):List (Iv α) :=
 if op then yht out ⟨t,here⟩ else if here then out++[⟨⟨t,false⟩,⟨t,true⟩⟩] else out
def yeL (here btw:Bool) (t n:α) (out:List (Iv α)):List (Iv α) :=
 if btw && !here then out++[⟨⟨t,true⟩,⟨n,false⟩⟩] else out
def combL (H:α→Bool) (S:α→α→Bool):List α→Bool→List (Iv α)→List (Iv α)
 | [],_,out=>out
 | [t],op,out=>ydT (H t) op t out
 | t :: n :: r,op,out=>combL H S (n :: r) (S t n) (yeL (H t) (S t n) t n (ydT (H t) op t out))
def bor:List α→List (Bd α)
 | []=>[]
 | t :: r=>⟨t,false⟩ :: ⟨t,true⟩ :: bor r
def Asks (F:Bd α→Bool) (H:α→Bool) (S:α→α→Bool):List α→Prop
 | []=>True
 | [t]=>H t=F ⟨t,false⟩∧F ⟨t,true⟩=false
 | t :: n :: r=>H t=F ⟨t,false⟩∧S t n=F ⟨t,true⟩∧Asks F H S (n :: r)
theorem combL_run {F:Bd α→Bool} {H:α→Bool} {S:α→α→Bool} (l:List α):Asks F H S l→∀ out,
  combL H S l false out=out++run F (bor l) none∧∀ c e,(l≠[])→combL H S l true (out++[⟨c,e⟩])=out++run F (bor l) (some c):=by
 induction l with
 | nil=>intro h out;exact ⟨by simp [combL,bor,run],fun c e h=>absurd rfl h⟩
 | cons t r ih =>
  cases r with
  | nil =>
   intro h out;obtain⟨h1,h2⟩:=h;refine ⟨?_,fun c e _=>?_⟩
   ·cases hh:F ⟨t,false⟩<;>simp [combL,ydT,bor,run,h1,h2,hh]
   cases hh:F ⟨t,false⟩<;>simp [combL,ydT,bor,run,h1,h2,hh,ybq]
  | cons n r =>
   intro h out;obtain⟨h1,h2,h3⟩:=h;have ih:=ih h3;have hne:n :: r≠[]:=by simp
   refine ⟨?_,fun c e _=>?_⟩
   ·cases hh:F ⟨t,false⟩<;>cases hb:F ⟨t,true⟩<;>rw [combL,h1,h2,hh,hb]
    ·simp only [ydT,yeL,Bool.false_eq_true,if_false,Bool.false_and]
     rw [(ih _).1];simp [bor,run,hh,hb]
    ·simp only [ydT,yeL,Bool.false_eq_true,if_false,Bool.not_false,Bool.and_self,if_true]
     rw [(ih _).2 _ _ hne];simp [bor,run,hh,hb]
    ·simp only [ydT,yeL,Bool.false_eq_true,if_false,if_true,Bool.false_and]
     rw [(ih _).1];simp [bor,run,hh,hb]
    simp only [ydT,yeL,Bool.false_eq_true,if_false,if_true,Bool.not_true,Bool.and_false];rw [(ih _).2 _ _ hne];simp [bor,run,hh,hb]
   cases hh:F ⟨t,false⟩<;>cases hb:F ⟨t,true⟩<;>rw [combL,h1,h2,hh,hb]
   ·simp only [ydT,yeL,Bool.false_eq_true,if_false,if_true,Bool.false_and,ybq]
    rw [(ih _).1];simp [bor,run,hh,hb]
   ·simp only [ydT,yeL,Bool.false_eq_true,if_false,Bool.not_false,Bool.and_self,if_true,ybq]
    rw [(ih _).2 _ _ hne];simp [bor,run,hh,hb]
   ·simp only [ydT,yeL,Bool.false_eq_true,if_false,if_true,Bool.false_and,ybq]
    rw [(ih _).1];simp [bor,run,hh,hb]
   simp only [ydT,yeL,Bool.false_eq_true,if_false,if_true,Bool.not_true,Bool.and_false,ybq];rw [(ih _).2 _ _ hne];simp [bor,run,hh,hb]
structure Ev (α:Type) where
 at_:Bd α
 x:Int
 y:Int
def ycC (keep:Bool→Bool→Bool) (n m:Int):Bool:=keep (decide (0<n)) (decide (0<m))
def sweepF (now inn:Bool) (at_ frm:Bd α):Bd α:=if now && !inn then at_ else frm
def sweepO (now inn:Bool) (at_ frm:Bd α) (out:List (Iv α)):List (Iv α):=if !now&&inn then out++[⟨frm,at_⟩] else out
noncomputable def ybZ (keep:Bool→Bool→Bool):List (Ev α)→Int→Int→Bool→Bd α→List (Iv α)→List (Iv α)
 | [],_,_,_,_,out=>out
 | e :: r,n,m,inn,frm,out =>
  if (∃ e' r',r=e' :: r'∧e.at_=e'.at_) then ybZ keep r (n+e.x) (m+e.y) inn frm out
  else ybZ keep r (n+e.x) (m+e.y) (ycC keep (n+e.x) (m+e.y)) (sweepF (ycC keep (n+e.x) (m+e.y)) inn e.at_ frm) (sweepO (ycC keep (n+e.x) (m+e.y)) inn e.at_ frm out)
noncomputable def ded:List (Ev α)→List (Bd α)
 | []=>[]
 | e :: r=>if (∃ e' r',r=e' :: r'∧e.at_=e'.at_) then ded r else e.at_ :: ded r
noncomputable def cntX (l:List (Ev α)) (x:Bd α):Int:=(l.map (fun e=>if e.at_≤x then e.x else 0)).sum
noncomputable def cntY (l:List (Ev α)) (x:Bd α):Int:=(l.map (fun e=>if e.at_≤x then e.y else 0)).sum
def InOrd (l:List (Ev α)):Prop:=l.Pairwise (fun e e'=>e.at_≤e'.at_)
theorem yfW (l:List (Ev α)) (c:Bd α):c∈ded l↔∃ e∈l,e.at_=c:=by
 induction l with
 | nil=>simp [ded]
 | cons e r ih =>
  unfold ded;split
  ·rename_i h
   obtain⟨e',r',rfl,h⟩:=h;rw [ih];constructor
   ·rintro ⟨d,h1,h2⟩;exact ⟨d,List.mem_cons_of_mem _ h1,h2⟩
   rintro ⟨d,h1,h2⟩;rcases List.mem_cons.1 h1 with rfl|h1
   ·exact ⟨e',List.mem_cons_self,by rw [← h];exact h2⟩
   exact ⟨d,h1,h2⟩
  rw [List.mem_cons,ih];constructor
  ·rintro (rfl|⟨d,h1,h2⟩)
   ·exact ⟨e,List.mem_cons_self,rfl⟩
   exact ⟨d,List.mem_cons_of_mem _ h1,h2⟩
  rintro ⟨d,h1,h2⟩;rcases List.mem_cons.1 h1 with rfl|h1
  ·exact .inl h2.symm
  exact .inr ⟨d,h1,h2⟩
theorem Up.of {l:List (Bd α)} {a:Bd α} (h:Ups l) (h2:∀ c∈l,a<c):Up l a:=by
 cases l with
 | nil=>trivial
 | cons b l=>exact ⟨h2 b List.mem_cons_self,h⟩
theorem yha {e:Ev α} {r:List (Ev α)} (h:InOrd (e :: r)) (hn:¬ ∃ e' r',r=e' :: r'∧e.at_=e'.at_):∀ d∈r,e.at_<d.at_:=by
 unfold InOrd at h;rw [List.pairwise_cons] at h;cases r with
 | nil=>simp
 | cons e' r' =>
  intro d hd;have h1:=h.1 e' List.mem_cons_self;have h2:e.at_≠e'.at_:=fun h=>hn ⟨_,_,rfl,h⟩;have h3:=(List.pairwise_cons.1 h.2).1;rcases List.mem_cons.1 hd with rfl|hd
  ·grind
  have:=h3 d hd;grind
theorem ded_ups {l:List (Ev α)} (h:InOrd l):Ups (ded l):=by
 induction l with
 | nil=>trivial
 | cons e r ih =>
  have hr:InOrd r:=(List.pairwise_cons.1 h).2;unfold ded;split
  ·exact ih hr
  rename_i hn;refine Up.of (ih hr) (fun c hc=>?_);obtain⟨d,hd,rfl⟩:=(yfW _ _).1 hc;exact yha h hn d hd
theorem yiZ {keep:Bool→Bool→Bool} {F:Bd α→Bool} (l:List (Ev α)):∀ n m inn frm out,InOrd l →
  (∀ e∈l,F e.at_=ycC keep (n+cntX l e.at_) (m+cntY l e.at_))→(l=[]→inn=false) →
  (∀ e∈l,(∀ d∈l,d.at_≤e.at_)→F e.at_=false)→ybZ keep l n m inn frm out=out++run F (ded l) (if inn then some frm else none):=by
 induction l with
 | nil=>intro n m inn frm out hs hF h0 _;rw [h0 rfl];simp [ybZ,ded,run]
 | cons e r ih =>
  intro n m inn frm out hs hF h0 hz0;have hr:InOrd r:=(List.pairwise_cons.1 hs).2;have hle:=(List.pairwise_cons.1 hs).1
  have hlast:∀ d∈r,(∀ c∈r,c.at_≤d.at_)→F d.at_=false:=fun d hd h=>by
   refine hz0 d (List.mem_cons_of_mem _ hd) (fun c hc=>?_);rcases List.mem_cons.1 hc with rfl|hc
   ·exact hle d hd
   exact h c hc
  have hFr:∀ d∈r,F d.at_=ycC keep (n+e.x+cntX r d.at_) (m+e.y+cntY r d.at_):=fun d hd=>by
   rw [hF d (List.mem_cons_of_mem _ hd)];unfold cntX cntY;rw [List.map_cons,List.map_cons,List.sum_cons,List.sum_cons,if_pos (hle d hd),if_pos (hle d hd),Int.add_assoc,Int.add_assoc]
  unfold ybZ ded;split
  ·rename_i h
   refine ih _ _ _ _ _ hr hFr ?_ hlast;obtain⟨e',r',h,_⟩:=h;intro h2;rw [h] at h2;exact absurd h2 (by simp)
  rename_i hn;have hst:=yha hs hn
  have hz:cntX (e :: r) e.at_=e.x∧cntY (e :: r) e.at_=e.y:=by
   have:∀ d∈r,¬ d.at_≤e.at_:=fun d hd=>by have:=hst d hd;grind
   unfold cntX cntY;rw [List.map_cons,List.map_cons,List.sum_cons,List.sum_cons,if_pos (by grind),if_pos (by grind)]
   have z1:∀ (s:List (Ev α)),(∀ d∈s,¬ d.at_≤e.at_)→(s.map (fun d=>if d.at_≤e.at_ then d.x else 0)).sum=0∧(s.map (fun d=>if d.at_≤e.at_ then d.y else 0)).sum=0:=by
    intro s;induction s with
    | nil=>simp
    | cons d s ihs =>
     intro h;obtain⟨k1,k2⟩:=ihs (fun d hd=>h d (List.mem_cons_of_mem _ hd));rw [List.map_cons,List.map_cons,List.sum_cons,List.sum_cons,if_neg (h d List.mem_cons_self),if_neg (h d List.mem_cons_self),k1,k2];exact ⟨rfl,rfl⟩
   obtain⟨k1,k2⟩:=z1 r this;rw [k1,k2];exact ⟨by omega,by omega⟩
  have hFe:ycC keep (n+e.x) (m+e.y)=F e.at_:=by rw [hF e List.mem_cons_self,hz.1,hz.2]
  rw [hFe,ih _ _ _ _ _ hr hFr ?_ hlast]
  ·cases hf:F e.at_<;>cases inn<;>simp [sweepO,sweepF,run,hf]
  rintro rfl;exact hz0 e List.mem_cons_self (by simp)
def evA (l:List (Iv α)):List (Ev α):=l.flatMap (fun i=>[⟨i.f,1,0⟩,⟨i.l,-1,0⟩])
def evB (l:List (Iv α)):List (Ev α):=l.flatMap (fun i=>[⟨i.f,0,1⟩,⟨i.l,0,-1⟩])
theorem yiF {l m:List Int} (h:l.Perm m):l.sum=m.sum:=by
 induction h with
 | nil=>rfl
 | cons x _ ih=>rw [List.sum_cons,List.sum_cons,ih]
 | swap x y l=>rw [List.sum_cons,List.sum_cons,List.sum_cons,List.sum_cons];omega
 | trans _ _ ih1 ih2=>rw [ih1,ih2]
theorem cnt_perm {l l':List (Ev α)} (h:l.Perm l') (x:Bd α):cntX l x=cntX l' x∧cntY l x=cntY l' x:=by
 unfold cntX cntY;exact ⟨yiF (h.map _),yiF (h.map _)⟩
theorem cnt_app {l l':List (Ev α)} (x:Bd α):cntX (l++l') x=cntX l x+cntX l' x∧cntY (l++l') x=cntY l x+cntY l' x:=by
 unfold cntX cntY;simp
theorem cnt_evA {l:List (Iv α)} (hl:∀ i∈l,i.f<i.l) (x:Bd α):0≤cntX (evA l) x∧cntY (evA l) x=0∧(decide (0<cntX (evA l) x))=hasL l x:=by
 induction l with
 | nil=>simp [evA,cntX,cntY,hasL]
 | cons i l ih =>
  obtain⟨k1,k2,k3⟩:=ih (fun j hj=>hl j (List.mem_cons_of_mem _ hj));have hi:=hl i List.mem_cons_self;have e:cntX (evA (i :: l)) x=(if i.f≤x then 1 else 0)+((if i.l≤x then -1 else 0)+cntX (evA l) x):=by simp [cntX,evA]
  have e2:cntY (evA (i :: l)) x=cntY (evA l) x:=by simp [cntY,evA]
  rw [e,e2,yaz,← k3];by_cases h1:i.f≤x
  ·by_cases h2:i.l≤x
   ·have hn:i.has x=false:=by rw [← Bool.not_eq_true,Iv.hI];grind
    rw [if_pos h1,if_pos h2,hn,Bool.false_or];exact ⟨by omega,k2,by congr 1;simp;omega⟩
   have hn:i.has x=true:=by rw [Iv.hI];grind
   rw [if_pos h1,if_neg h2,hn,Bool.true_or];exact ⟨by omega,k2,by simp;omega⟩
  have h2:¬ i.l≤x:=by grind
  have hn:i.has x=false:=by rw [← Bool.not_eq_true,Iv.hI];grind
  rw [if_neg h1,if_neg h2,hn,Bool.false_or];exact ⟨by omega,k2,by congr 1;simp⟩
theorem cnt_evB {l:List (Iv α)} (hl:∀ i∈l,i.f<i.l) (x:Bd α):0≤cntY (evB l) x∧cntX (evB l) x=0∧(decide (0<cntY (evB l) x))=hasL l x:=by
 induction l with
 | nil=>simp [evB,cntX,cntY,hasL]
 | cons i l ih =>
  obtain⟨k1,k2,k3⟩:=ih (fun j hj=>hl j (List.mem_cons_of_mem _ hj));have hi:=hl i List.mem_cons_self;have e:cntY (evB (i :: l)) x=(if i.f≤x then 1 else 0)+((if i.l≤x then -1 else 0)+cntY (evB l) x):=by simp [cntY,evB]
  have e2:cntX (evB (i :: l)) x=cntX (evB l) x:=by simp [cntX,evB]
  rw [e,e2,yaz,← k3];by_cases h1:i.f≤x
  ·by_cases h2:i.l≤x
   ·have hn:i.has x=false:=by rw [← Bool.not_eq_true,Iv.hI];grind
    rw [if_pos h1,if_pos h2,hn,Bool.false_or];exact ⟨by omega,k2,by congr 1;simp;omega⟩
   have hn:i.has x=true:=by rw [Iv.hI];grind
   rw [if_pos h1,if_neg h2,hn,Bool.true_or];exact ⟨by omega,k2,by simp;omega⟩
  have h2:¬ i.l≤x:=by grind
  have hn:i.has x=false:=by rw [← Bool.not_eq_true,Iv.hI];grind
  rw [if_neg h1,if_neg h2,hn,Bool.false_or];exact ⟨by omega,k2,by congr 1;simp⟩
theorem yjs {keep:Bool→Bool→Bool} (h0:keep false false=false) {a b:List (Iv α)} (ha:∀ i∈a,i.f<i.l) (hb:∀ i∈b,i.f<i.l) {l:List (Ev α)} (hp:l.Perm (evA a++evB b)) (hs:InOrd l) (frm:Bd α) :
  Norm (ybZ keep l 0 0 false frm [])∧∀ x,hasL (ybZ keep l 0 0 false frm []) x=keep (hasL a x) (hasL b x):=by
 have hF:∀ x,keep (hasL a x) (hasL b x)=ycC keep (cntX l x) (cntY l x):=fun x=>by
  have h1:=cnt_perm hp x;have h2:=@cnt_app α _ _ _ _ (evA a) (evB b) x;obtain⟨_,k1,k2⟩:=cnt_evA ha x;obtain⟨_,k3,k4⟩:=cnt_evB hb x;unfold ycC;rw [h1.1,h1.2,h2.1,h2.2,k1,k3,Int.add_zero,Int.zero_add,k2,k4]
 have hlast:∀ x,(∀ d∈l,d.at_≤x)→keep (hasL a x) (hasL b x)=false:=fun x h=>by
  have h1:∀ i∈a,i.has x=false:=fun i hi=>by
   rw [← Bool.not_eq_true,Iv.hI];have:=h ⟨i.l,-1,0⟩ (hp.mem_iff.2 (List.mem_append.2 (.inl (List.mem_flatMap.2 ⟨i,hi,by simp⟩))));dsimp only at this;grind
  have h2:∀ i∈b,i.has x=false:=fun i hi=>by
   rw [← Bool.not_eq_true,Iv.hI];have:=h ⟨i.l,0,-1⟩ (hp.mem_iff.2 (List.mem_append.2 (.inr (List.mem_flatMap.2 ⟨i,hi,by simp⟩))));dsimp only at this;grind
  have h3:hasL a x=false:=by unfold hasL;rw [List.any_eq_false];intro i hi;rw [h1 i hi];simp
  have h4:hasL b x=false:=by unfold hasL;rw [List.any_eq_false];intro i hi;rw [h2 i hi];simp
  rw [h3,h4,h0]
 have e:=yiZ (keep:=keep) (F:=fun x=>keep (hasL a x) (hasL b x)) l 0 0 false frm [] hs (fun e _=>by rw [Int.zero_add,Int.zero_add];exact hF _) (fun _=>rfl) (fun e he h=>hlast _ h);rw [if_neg (by simp),List.nil_append] at e;rw [e];refine yij (ded_ups hs) (fun x y h=>?_) (fun x h=>?_) (fun x h=>?_)
 ·have h':∀ e∈l,(e.at_≤x↔e.at_≤y):=fun e he=>h _ ((yfW _ _).2 ⟨e,he,rfl⟩)
  have:cntX l x=cntX l y∧cntY l x=cntY l y:=by
   unfold cntX cntY;constructor<;>congr 1<;>refine List.map_congr_left (fun e he=>?_)<;>by_cases k:e.at_≤x
   all_goals first|rw [if_pos k,if_pos ((h' e he).1 k)]|rw [if_neg k,if_neg (fun k'=>k ((h' e he).2 k'))]
  rw [hF,hF,this.1,this.2]
 ·have h':∀ e∈l,¬ e.at_≤x:=fun e he=>by have:=h _ ((yfW _ _).2 ⟨e,he,rfl⟩);grind
  have:cntX l x=0∧cntY l x=0:=by
   unfold cntX cntY
   have z:l.map (fun e=>if e.at_≤x then e.x else 0)=l.map (fun _=>0)∧l.map (fun e=>if e.at_≤x then e.y else 0)=l.map (fun _=>0):=by
    constructor<;>refine List.map_congr_left (fun e he=>?_)<;>rw [if_neg (h' e he)]
   rw [z.1,z.2];have:∀ s:List (Ev α),(s.map (fun _=>(0:Int))).sum=0:=fun s=>by induction s<;>simp_all
   exact ⟨this _,this _⟩
  rw [hF,this.1,this.2];unfold ycC
  simpa using h0
 exact hlast x (fun d hd=>h _ ((yfW _ _).2 ⟨d,hd,rfl⟩))
noncomputable def holds (l:List (Iv α)) (t:α):Bool:=l.any (fun i=>decide (i.f≤⟨t,false⟩∧(⟨t,true⟩:Bd α)≤i.l))
noncomputable def yje (l:List (Iv α)) (t n:α):Bool:=l.any (fun i=>decide (i.f.pt≤t∧n≤i.l.pt))
theorem ydV (l:List (Iv α)) (t:α):holds l t=hasL l ⟨t,false⟩:=by
 unfold holds hasL;refine congrArg (fun f=>l.any f) (funext fun i=>?_);unfold Iv.has;congr 1
 rw [Bd.le_def,Bd.le_def,Bd.lt_def];cases i.f.beh<;>cases i.l.beh<;>simp
theorem yhc {l:List (Iv α)} {t n:α} (h:t<n) (hb:∀ i∈l,i.l.pt≤t∨n≤i.l.pt):yje l t n=hasL l ⟨t,true⟩:=by
 unfold yje hasL;refine Bool.eq_iff_iff.2 ?_;rw [List.any_eq_true,List.any_eq_true];constructor
 ·rintro ⟨i,hi,h2⟩
  refine ⟨i,hi,?_⟩;rw [decide_eq_true_iff] at h2;rw [Iv.hI,Bd.le_def,Bd.lt_def];grind
 rintro ⟨i,hi,h2⟩;refine ⟨i,hi,?_⟩;have:=hb i hi;rw [decide_eq_true_iff];rw [Iv.hI,Bd.le_def,Bd.lt_def] at h2;grind
theorem yeb {l:List α} {c:Bd α}:c∈bor l↔c.pt∈l:=by
 induction l with
 | nil=>simp [bor]
 | cons t r ih =>
  simp only [bor,List.mem_cons,ih];constructor
  ·rintro (rfl|rfl|h)
   ·exact .inl rfl
   ·exact .inl rfl
   exact .inr h
  rintro (h|h)
  ·cases hb:c.beh
   ·exact .inl (Bd.ext h hb)
   exact .inr (.inl (Bd.ext h hb))
  exact .inr (.inr h)
theorem bor_ups {l:List α} (h:l.Pairwise (· < ·)):Ups (bor l):=by
 induction l with
 | nil=>trivial
 | cons t r ih =>
  obtain⟨h1,h2⟩:=List.pairwise_cons.1 h;refine ⟨by rw [Bd.lt_def];exact .inr ⟨rfl,rfl,rfl⟩,Up.of (ih h2) (fun c hc=>?_)⟩;rw [Bd.lt_def];exact .inl (h1 _ (yeb.1 hc))
structure EndsOf (l:List α) (a:List (Iv α)):Prop where
 ord:l.Pairwise (· < ·)
 f:∀ i∈a,i.f.pt∈l
 l:∀ i∈a,i.l.pt∈l
theorem EndsOf.same {l:List α} {a:List (Iv α)} (h:EndsOf l a) {x y:Bd α} (hj:∀ c∈bor l,c≤x↔c≤y):hasL a x=hasL a y:=by
 unfold hasL;refine Bool.eq_iff_iff.2 ?_;rw [List.any_eq_true,List.any_eq_true];constructor<;>rintro ⟨i,hi,h2⟩<;>refine ⟨i,hi,?_⟩<;>rw [Iv.hI] at * <;> have h3:=hj i.f (yeb.2 (h.f i hi))<;>have h4:=hj i.l (yeb.2 (h.l i hi))<;>grind
theorem EndsOf.below {l:List α} {a:List (Iv α)} (h:EndsOf l a) {x:Bd α} (hx:∀ c∈bor l,x<c):hasL a x=false:=by
 unfold hasL;rw [List.any_eq_false];intro i hi;rw [Iv.hI];have:=hx i.f (yeb.2 (h.f i hi));grind
theorem EndsOf.above {l:List α} {a:List (Iv α)} (h:EndsOf l a) {x:Bd α} (hx:∀ c∈bor l,c≤x):hasL a x=false:=by
 unfold hasL;rw [List.any_eq_false];intro i hi;rw [Iv.hI];have:=hx i.l (yeb.2 (h.l i hi));grind
theorem asks_of {d:Bool→Bool→Bool} (h0:d false false=false) {a b:List (Iv α)} {all:List α} (ha:EndsOf all a) (hb:EndsOf all b) :
  ∀ (l pre:List α),pre++l=all→Asks (fun x=>d (hasL a x) (hasL b x)) (fun t=>d (holds a t) (holds b t)) (fun t n=>d (yje a t n) (yje b t n)) l:=by
 intro l;induction l with
 | nil=>intro pre _;trivial
 | cons t r ih =>
  intro pre hp;have hord:=ha.ord;rw [← hp,List.pairwise_append] at hord;obtain⟨o1,o2,o3⟩:=hord;obtain⟨o4,o5⟩:=List.pairwise_cons.1 o2;cases r with
  | nil =>
   refine ⟨by dsimp only;rw [ydV,ydV],?_⟩
   have:∀ c∈bor all,c≤(⟨t,true⟩:Bd α):=fun c hc=>by
    have:=yeb.1 hc;rw [← hp,List.mem_append,List.mem_singleton] at this;rw [Bd.le_def];rcases this with h|h
    ·exact .inl (o3 _ h _ (by simp))
    exact .inr ⟨h,fun _=>rfl⟩
   dsimp only;rw [ha.above this,hb.above this,h0]
  | cons n r =>
   have htn:t<n:=o4 n (by simp)
   have hbtw:∀ c∈all,c≤t∨n≤c:=fun c hc=>by
    rw [← hp,List.mem_append,List.mem_cons,List.mem_cons] at hc;rcases hc with h|h|h|h
    ·have:=o3 _ h t (by simp);grind
    ·grind
    ·grind
    have:=(List.pairwise_cons.1 o5).1 c h;grind
   refine ⟨by dsimp only;rw [ydV,ydV],?_,ih (pre++[t]) (by simp [hp])⟩;dsimp only;rw [yhc htn (fun i hi=>hbtw _ (ha.l i hi)),yhc htn (fun i hi=>hbtw _ (hb.l i hi))]
noncomputable def cells (d:Bool→Bool→Bool) (a b:List (Iv α)) (all:List α):List (Iv α) :=
 combL (fun t=>d (holds a t) (holds b t)) (fun t n=>d (yje a t n) (yje b t n)) all false []
theorem ygZ {d:Bool→Bool→Bool} (h0:d false false=false) {a b:List (Iv α)} {all:List α} (ha:EndsOf all a) (hb:EndsOf all b) :
  Norm (cells d a b all)∧∀ x,hasL (cells d a b all) x=d (hasL a x) (hasL b x):=by
 unfold cells;rw [(combL_run all (asks_of h0 ha hb all [] rfl) []).1,List.nil_append];refine yij (bor_ups ha.ord) (fun x y h=>?_) (fun x h=>?_) (fun x h=>?_)
 ·rw [ha.same h,hb.same h]
 ·rw [ha.below h,hb.below h,h0]
 rw [ha.above h,hb.above h,h0]
end
end Go.Proofs.YtpgffjjpiafhpaaGreatDoor
