/- Parts of a proof: Rd Or Oq Oc. -/
import Derived.Lib.Hide
import Derived.Test.YtpgffjjpiafhpaaGreatDoorJ11
set_option linter.unusedVariables false
set_option linter.unusedSimpArgs false
set_option maxRecDepth 100000
set_option maxHeartbeats 8000000
namespace Go.Proofs.YtpgffjjpiafhpaaGreatDoor
open Go.RowKit Tryz
theorem QAdd_c (a b:Rat) (ha:FitQ 10000000000 a) (hb:FitQ 10000000000 b) (w:World) :
  Calls prog 106 #[rv a,rv b] w fun e w'=>e = .returned (rv (a+b))∧Keep [] w w':=by
 obtain⟨f1,f2,f3⟩:=cr_fit ha hb;have Hc:=jX (cross_c a b ha hb);have Hs:=jX (Add_c (crX a b) (crY a b) (f1.mono (by decide)) (f2.mono (by decide)));have Hn:=jX (ydt (crX a b+crY a b) (crD a b) ((f1.add f2).mono (by decide)) (f3.mono (by decide)) (yhy a b));rw [cr_add] at Hn;unfold rv zv at *;generalize crX a b+crY a b=z at *;generalize crX a b=x at *;generalize crY a b=y at *;generalize crD a b=d at *;generalize sgB (x)=nx at *;generalize mgS (x)=sx at *;generalize sgB (y)=ny at *;generalize mgS (y)=sy at *;generalize sgB (d)=nd at *;generalize mgS (d)=sd at *;generalize sgB (z)=nz at *;generalize mgS (z)=sz at *;generalize sgB (a+b).num=nr at *;generalize mgS (a+b).num=sr at *;generalize dnS (a+b).den=dr at *;generalize sgB (a).num=na at *;generalize mgS (a).num=sa at *;generalize dnS (a).den=da at *;generalize sgB (b).num=nb at *;generalize mgS (b).num=sb at *;generalize dnS (b).den=db at *;clear f1 f2 f3 ha hb;go_enter func106,ntmps106
 go_wp2_with fail;obtain⟨W,ga,gb,gc,hW,ega,egb,egc,Bga,Bgb,Bgc,hga,hgb,hgc,hgW,HkW⟩:=al3h w (.cells #[.bool na,.string sa,.bool false,.string da] 28) (.cells #[.bool nb,.string sb,.bool false,.string db] 28) (.cells #[.bool false,.string ⟨#[]⟩,.bool false,.string ⟨#[]⟩] 28);rw [← hW];try rw [egc]
 try rw [egb]
 try rw [ega]
 clear hW ega egb egc;refine (Hc.out W).mono ?_;rintro e w1 ⟨rfl,hk1⟩;dsimp only;clear Hc;replace Bga:=jH hk1 Bga;replace Bgb:=jH hk1 Bgb;replace Bgc:=jH hk1 Bgc;replace HkW:=jX (HkW.out.tz hk1);clear hk1;go_wp2_with fail;obtain⟨W2,gd,ge,gf,hW2,egd,ege,egf,bgd,bge,bgf,hgd,hge,hgf,hgW2,hkW2⟩:=al3 w1 (.cells #[.bool nx,.string sx] 26) (.cells #[.bool ny,.string sy] 26) (.cells #[.bool nd,.string sd] 26);rw [← hW2];try rw [egf]
 try rw [ege]
 try rw [egd]
 have Bgd:=jX bgd;have Bge:=jX bge;have Bgf:=jX bgf;clear hW2 egd ege egf bgd bge bgf;replace Bga:=jH hkW2 Bga;replace Bgb:=jH hkW2 Bgb;replace Bgc:=jH hkW2 Bgc;replace HkW:=jX (HkW.out.tz hkW2);clear hkW2;have kgd:=yaf Bgd.out;have kge:=yaf Bge.out;have kgf:=yaf Bgf.out;have Q1:Hid (∀ m:KW W2,Calls prog 156 #[.agg #[.bool nx,.string sx],.agg #[.bool ny,.string sy]] (Wk W2 m) fun e w'=>e = .returned (.agg #[.bool nz,.string sz])∧∃ m,w'=Wk W2 m):=fun m=>qk m (Hs.out _);have Q2:Hid (∀ m:KW W2,Calls prog 155 #[.agg #[.bool nz,.string sz],.agg #[.bool nd,.string sd]] (Wk W2 m) fun e w'=>e = .returned (.agg #[.bool nr,.string sr,.bool false,.string dr])∧∃ m,w'=Wk W2 m):=fun m=>qk m (Hn.out _);clear Hs Hn;go_wp2_with fail;refine yai 5 (by kernel_rfl) (by kernel_rfl) ?_;simp only [List.take_succ_cons,List.take_zero,List.drop_succ_cons,List.drop_zero]
 repeat (first
  | go_big_quiet_skip
  | (go_big_quiet_want;go_big_quiet_op;first|go_big_quiet_on|go_big_quiet_call (first
   | (go_at_call 156;with_reducible exact (Q1).out _)|(go_at_call 155;with_reducible exact (Q2).out _))))
 refine wpQuiet_nil ?_;rintro wz ⟨⟨_,hk_wz⟩,rfl⟩;clear kgd kge kgf Q1 Q2;replace Bga:=jH hk_wz Bga;replace Bgb:=jH hk_wz Bgb;replace Bgc:=jH hk_wz Bgc;replace HkW:=jX (HkW.out.tz hk_wz);clear hk_wz;obtain⟨pgc,fgc,lgc⟩:=jQ Bgc;go_wp2_with fail;refine bodyPost_ret (v:=.agg #[.bool nr,.string sr,.bool false,.string dr]) ?_ rfl ⟨rfl,by repeat (first|(with_reducible exact HkW.out)|(refine Keep.sP ?_ _ _ _ (by omega))|(refine Keep.aP ?_ _)|(refine Keep.dP ?_))⟩;rw [yac rfl];go_simp
theorem QNeg_c (a:Rat) (w:World) :
  Calls prog 60 #[rv a] w fun e w'=>e = .returned (rv (-a))∧Keep [] w w':=by
 have Hn:=jX (Negate_c a.num);unfold rv zv at *;rw [Rat.neg_num,Rat.neg_den];generalize sgB (-a.num)=nr at *;generalize mgS (-a.num)=sr at *;generalize sgB (a).num=na at *;generalize mgS (a).num=sa at *;generalize dnS (a).den=da at *;go_enter func60,ntmps60
 go_wp2_with fail;obtain⟨W,ga,gb,hW,ega,egb,Bga,Bgb,hga,hgb,hgW,HkW⟩:=al2h w (.cells #[.bool na,.string sa,.bool false,.string da] 28) (.cells #[.bool false,.string ⟨#[]⟩,.bool false,.string ⟨#[]⟩] 28);rw [← hW];try rw [egb]
 try rw [ega]
 clear hW ega egb;have kga:=yaf Bga.out;have Q1:Hid (∀ m:KW W,Calls prog 118 #[.agg #[.bool na,.string sa]] (Wk W m) fun e w'=>e = .returned (.agg #[.bool nr,.string sr])∧∃ m,w'=Wk W m):=fun m=>qk m (Hn.out _);clear Hn;refine yai 6 (by kernel_rfl) (by kernel_rfl) ?_;simp only [List.take_succ_cons,List.take_zero,List.drop_succ_cons,List.drop_zero]
 repeat (first
  | go_big_quiet_skip
  | (go_big_quiet_want;go_big_quiet_op;first|go_big_quiet_on|go_big_quiet_call (first
   | (go_at_call 118;with_reducible exact (Q1).out _))))
 refine wpQuiet_nil ?_;rintro wz ⟨⟨_,hk_wz⟩,rfl⟩;clear kga Q1;replace Bga:=jH hk_wz Bga;replace Bgb:=jH hk_wz Bgb;replace HkW:=jX (HkW.out.tz hk_wz);clear hk_wz;obtain⟨pgb,fgb,lgb⟩:=jQ Bgb;go_wp2_with fail;refine bodyPost_ret (v:=.agg #[.bool nr,.string sr,.bool false,.string da]) ?_ rfl ⟨rfl,by repeat (first|(with_reducible exact HkW.out)|(refine Keep.sP ?_ _ _ _ (by omega))|(refine Keep.aP ?_ _)|(refine Keep.dP ?_))⟩;rw [yac rfl];go_simp
theorem QMul_c (a b:Rat) (ha:FitQ 10000000000 a) (hb:FitQ 10000000000 b) (w:World) :
  Calls prog 131 #[rv a,rv b] w fun e w'=>e = .returned (rv (a*b))∧Keep [] w w':=by
 have h1:=a.den_pos;have h2:=b.den_pos;have Hm1:=jX (Mul_c a.num b.num (ha.1.mono (by decide)) (hb.1.mono (by decide)));have Hm2:=jX (Mul_c a.den b.den (ha.2.mono (by decide)) (hb.2.mono (by decide)));have Hn:=jX (ydt (a.num*b.num) ((a.den:Int)*b.den) ((ha.1.mul hb.1).mono (by decide)) ((ha.2.mul hb.2).mono (by decide)) (Int.mul_pos (by omega) (by omega)));rw [mul_eq] at Hn;have Hda:=jX (Den_c a);have Hdb:=jX (Den_c b);unfold rv zv at *;generalize sgB (a.num*b.num)=nx at *;generalize mgS (a.num*b.num)=sx at *;generalize sgB ((a.den:Int)*b.den)=ny at *;generalize mgS ((a.den:Int)*b.den)=sy at *;generalize sgB ((a.den:Int))=nd at *;generalize mgS ((a.den:Int))=sd at *;generalize sgB ((b.den:Int))=ne at *;generalize mgS ((b.den:Int))=se at *;generalize sgB (a*b).num=nr at *;generalize mgS (a*b).num=sr at *;generalize dnS (a*b).den=dr at *;generalize sgB (a).num=na at *;generalize mgS (a).num=sa at *;generalize dnS (a).den=da at *;generalize sgB (b).num=nb at *;generalize mgS (b).num=sb at *;generalize dnS (b).den=db at *;clear h1 h2 ha hb;go_enter func131,ntmps131
 go_wp2_with fail;obtain⟨W,ga,gb,gc,hW,ega,egb,egc,Bga,Bgb,Bgc,hga,hgb,hgc,hgW,HkW⟩:=al3h w (.cells #[.bool na,.string sa,.bool false,.string da] 28) (.cells #[.bool nb,.string sb,.bool false,.string db] 28) (.cells #[.bool false,.string ⟨#[]⟩,.bool false,.string ⟨#[]⟩] 28);rw [← hW];try rw [egc]
 try rw [egb]
 try rw [ega]
 clear hW ega egb egc;have kga:=yaf Bga.out;have kgb:=yaf Bgb.out;have Q1:Hid (∀ m:KW W,Calls prog 169 #[.agg #[.bool na,.string sa],.agg #[.bool nb,.string sb]] (Wk W m) fun e w'=>e = .returned (.agg #[.bool nx,.string sx])∧∃ m,w'=Wk W m):=fun m=>qk m (Hm1.out _);have Q2:Hid (∀ m:KW W,Calls prog 169 #[.agg #[.bool nd,.string sd],.agg #[.bool ne,.string se]] (Wk W m) fun e w'=>e = .returned (.agg #[.bool ny,.string sy])∧∃ m,w'=Wk W m):=fun m=>qk m (Hm2.out _);have Q3:Hid (∀ m:KW W,Calls prog 166 #[.agg #[.bool na,.string sa,.bool false,.string da]] (Wk W m) fun e w'=>e = .returned (.agg #[.bool nd,.string sd])∧∃ m,w'=Wk W m):=fun m=>qk m (Hda.out _);have Q4:Hid (∀ m:KW W,Calls prog 166 #[.agg #[.bool nb,.string sb,.bool false,.string db]] (Wk W m) fun e w'=>e = .returned (.agg #[.bool ne,.string se])∧∃ m,w'=Wk W m):=fun m=>qk m (Hdb.out _);have Q5:Hid (∀ m:KW W,Calls prog 155 #[.agg #[.bool nx,.string sx],.agg #[.bool ny,.string sy]] (Wk W m) fun e w'=>e = .returned (.agg #[.bool nr,.string sr,.bool false,.string dr])∧∃ m,w'=Wk W m):=fun m=>qk m (Hn.out _);clear Hm1 Hm2 Hn Hda Hdb;refine yai 11 (by kernel_rfl) (by kernel_rfl) ?_;simp only [List.take_succ_cons,List.take_zero,List.drop_succ_cons,List.drop_zero]
 repeat (first
  | go_big_quiet_skip
  | (go_big_quiet_want;go_big_quiet_op;first|go_big_quiet_on|go_big_quiet_call (first
   | (go_at_call 169;with_reducible exact (Q1).out _)|(go_at_call 169;with_reducible exact (Q2).out _)|(go_at_call 166;with_reducible exact (Q3).out _)|(go_at_call 166;with_reducible exact (Q4).out _)|(go_at_call 155;with_reducible exact (Q5).out _))))
 refine wpQuiet_nil ?_;rintro wz ⟨⟨_,hk_wz⟩,rfl⟩;clear kga kgb Q1 Q2 Q3 Q4 Q5;replace Bga:=jH hk_wz Bga;replace Bgb:=jH hk_wz Bgb;replace Bgc:=jH hk_wz Bgc;replace HkW:=jX (HkW.out.tz hk_wz);clear hk_wz;obtain⟨pgc,fgc,lgc⟩:=jQ Bgc;go_wp2_with fail;refine bodyPost_ret (v:=.agg #[.bool nr,.string sr,.bool false,.string dr]) ?_ rfl ⟨rfl,by repeat (first|(with_reducible exact HkW.out)|(refine Keep.sP ?_ _ _ _ (by omega))|(refine Keep.aP ?_ _)|(refine Keep.dP ?_))⟩;rw [yac rfl];go_simp
theorem yar {a b c:Rat} (h:a≤b) (hc:0≤c):a*c≤b*c:=Rat.mul_le_mul_of_nonneg_right h hc
theorem yal {a b:Rat} (h:0<a) (h2:0<b):0<a*b:=Rat.mul_pos h h2
theorem yas {a b:Rat} (h:0≤a) (h2:0≤b):0≤a*b:=Rat.mul_nonneg h h2
theorem ycO (a:Rat):0≤a*a:=by
 rcases Rat.le_total (a:=0) (b:=a) with h|h
 ·exact yas h h
 have:=yas (a:=-a) (b:=-a) (by grind) (by grind);grind
theorem sq_lt {a b:Rat} (h:0≤a) (h2:a<b):a*a<b*b:=by
 have h3:0<b-a:=by grind
 have h4:0<b+a:=by grind
 have:=yal h3 h4;grind
theorem yfp {a b:Rat} (h:0≤a) (h2:a≤b):a*a≤b*b:=by
 have:=yas (a:=b-a) (b:=b+a) (by grind) (by grind);grind
theorem ydJ {a b:Rat} (h:0≤b) (h2:a*a<b*b):a<b:=by
 rcases Rat.le_total (a:=b) (b:=a) with h3|h3
 ·have:=yfp h h3
  grind
 by_cases h4:a=b
 ·subst h4;grind
 grind
theorem ycK {a b:Rat} (h:0≤b) (h2:a*a≤b*b):a≤b:=by
 by_cases h3:a≤b
 ·exact h3
 have:=sq_lt h (show b<a by grind)
 grind
def Pos (a b r:Rat):Prop:=(0<a∧(0≤b∨b*b*r<a*a))∨(a≤0∧0<b∧a*a<b*b*r)
structure Near (r t e:Rat):Prop where
 nn:0≤t
 le:t*t≤r
 lt:r<(t+e)*(t+e)
theorem Near.top {r t e:Rat} (h:Near r t e) (hr:0≤r):t≤r+1:=by
 refine ycK (by grind) ?_;have:=h.le;have:=ycO r;grind
theorem ygw {d m:Rat} (hd:0<d) (hm:0<m):∃ g,0<g∧g*m≤d:=by
 refine ⟨d / m,?_,?_⟩
 ·rw [Rat.lt_div_iff hm];grind
 rw [Rat.div_mul_cancel (by grind)];grind
theorem ycG {d m:Rat} (hd:0<d) (hm:0<m):∃ g,0<g∧g≤1∧g*m≤d:=by
 obtain⟨g,h1,h2⟩:=ygw hd hm;by_cases h:g≤1
 ·exact ⟨g,h1,h,h2⟩
 refine ⟨1,by grind,by grind,?_⟩;have:=yar (show (1:Rat)≤g by grind) (Rat.le_of_lt hm)
 grind
theorem Pos.gap {a b r:Rat} (hr:0≤r) (h:Pos a b r):∃ g e0:Rat,0<g∧0<e0∧∀ e t,0<e→e≤e0→Near r t e→g≤a+b*t:=by
 rcases h with ⟨ha,hb|hb⟩|⟨ha,hb,hab⟩
 ·refine ⟨a,1,ha,by grind,fun e t he _ hn=>?_⟩
  have:=yas hb hn.nn;grind
 ·obtain⟨g,hg,hgm⟩:=ygw (d:=a*a-b*b*r) (m:=2*a) (by grind) (by grind)
  refine ⟨g,1,hg,by grind,fun e t he _ hn=>?_⟩
  have h1:b*b*(t*t)≤b*b*r:=by
   have:=yar hn.le (ycO b);grind
  have h2:b*t<a:=ydJ (Rat.le_of_lt ha) (by grind);have h3 : -(b*t)<a:=ydJ (Rat.le_of_lt ha) (by grind);have h4:=yas (a:=a+b*t) (b:=a+b*t) (by grind) (by grind);by_cases h5:g≤a+b*t
  ·exact h5
  exfalso;have h6:=yal (a:=g-(a+b*t)) (b:=2*a) (by grind) (by grind);grind
 obtain⟨g,hg,hgm⟩:=ygw (d:=b*b*r-a*a) (m:=2*(b*(r+2)-a+1)) (by grind) (by
  have:=yas (a:=b) (b:=r+2) (by grind) (by grind)
  grind)
 obtain⟨e0,he0,he1,heb⟩:=ycG hg hb;refine ⟨g,e0,hg,he0,fun e t he hle hn=>?_⟩
 have h1:b*e≤g:=by
  have:=yar hle (Rat.le_of_lt hb);grind
 have h2:=hn.top hr
 have h3:b*(t+e)≤b*(r+2):=by
  have:=yar (a:=t+e) (b:=r+2) (c:=b) (by grind) (Rat.le_of_lt hb);grind
 have h4:b*b*r≤b*b*((t+e)*(t+e)):=by
  have:=yar (Rat.le_of_lt hn.lt) (ycO b);grind
 have h5:0≤b*(t+e):=yas (Rat.le_of_lt hb) (by have:=hn.nn;grind);by_cases h6:g≤a+b*t
 ·exact h6
 exfalso
 -- W=b (t+e)+a<2 g
 have h7:b*(t+e)+a<2*g:=by grind
 have h8:0<b*(t+e)+a:=by
  have : -a<b*(t+e):=ydJ h5 (by grind);grind
 have h9:=yas (a:=b*(t+e)+a) (b:=(b*(r+2)-a+1)-(b*(t+e)-a)) (by grind) (by grind);have h10:=yal (a:=2*g-(b*(t+e)+a)) (b:=b*(r+2)-a+1) (by grind) (by grind);grind
theorem Near.zero {t e:Rat} (h:Near 0 t e):t=0:=by
 have h1:=h.le;have h2:=h.nn;by_cases h3:t=0
 ·exact h3
 have:=yal (a:=t) (b:=t) (by grind) (by grind);grind
inductive Pos3 (a b r c s:Rat):Prop
 | same (h:Pos a b r) (hc:s=0∨c=1)
 | none (h1:¬ Pos a b r) (h2:¬ Pos (-a) (-b) r) (hc:c=1) (hs:0<s)
 | less (h:Pos a b r) (hc:c = -1) (hs:0<s) (h2:Pos (a*a+r-s) (2*(a*b)) r)
 | more (h:Pos (-a) (-b) r) (hc:c=1) (hs:0<s) (h2:Pos (-(a*a+r-s)) (-(2*(a*b))) r)
theorem ybR {x y:Rat} (hx:0<x) (hy:0<y):∃ e,0<e∧e≤x∧e≤y:=by
 by_cases h:x≤y
 ·exact ⟨x,hx,by grind,h⟩
 exact ⟨y,hy,by grind,by grind⟩
theorem near_none {a b r t e:Rat} (hb:b=1∨b = -1) (h1:¬ Pos a b r) (h2:¬ Pos (-a) (-b) r) (he:0<e) (ht:Near r t e) : -e≤a+b*t:=by
 have t1:=ht.nn;have t2:=ht.le;have t3:=ht.lt;unfold Pos at h1 h2;rcases hb with rfl|rfl
 ·have ha:a≤0:=by grind
  by_cases h0:a=0
  ·subst h0;grind
  have h4:(-a)*(-a)≤r:=by grind
  have h5 : -a<t+e:=ydJ (by grind) (by grind);grind
 have ha:0≤a:=by grind
 have h4:r≤a*a:=by grind
 have h5:t≤a:=ycK ha (by grind);grind
theorem yeM (a:Rat):a≤a*a+1 ∧ -a≤a*a+1:=by
 have h1:=ycO (a-1);have h2:=ycO (a+1);have h3:=ycO a;constructor<;>grind
theorem yiN {x y g M d:Rat} (h:d≤x*y) (hd:0<d) (hy:0≤y) (hM:y≤M) (hM0:0<M) (hg:g*M≤d) (hg0:0<g):g≤x:=by
 by_cases h1:g≤x
 ·exact h1
 exfalso;by_cases h2:x≤0
 ·have:=yas (a:=-x) (b:=y) (by grind) hy
  grind
 have h3:=yas (a:=x) (b:=M-y) (by grind) (by grind);have h4:=yal (a:=g-x) (b:=M) (by grind) hM0;grind
theorem Pos3.gap {a b r c s:Rat} (hr:0≤r) (hs0:0≤s) (hb:b=1∨b = -1) (h:Pos3 a b r c s) :
  ∃ g e0:Rat,0<g∧0<e0∧∀ e t u,0<e→e≤e0→Near r t e→Near s u e→g≤a+b*t+c*u:=by
 have hbb:b*b=1:=by rcases hb with rfl|rfl<;>grind
 cases h with
 | same h hc =>
  obtain⟨g,e0,hg,he0,k⟩:=h.gap hr;refine ⟨g,e0,hg,he0,fun e t u he hle ht hu=>?_⟩;have k1:=k e t he hle ht;rcases hc with rfl|rfl
  ·rw [hu.zero];grind
  have:=hu.nn;grind
 | none h1 h2 hc hs =>
  subst hc;obtain⟨g,e0,hg,he0,k⟩:=Pos.gap (a:=0) (b:=1) (r:=s) hs0 (.inr ⟨by grind,by grind,by grind⟩);obtain⟨e1,h4,h5,h6⟩:=ybR he0 (show 0<g / 2 by grind)
  refine ⟨g / 2,e1,by grind,h4,fun e t u he hle ht hu=>?_⟩;have k1:=k e u he (by grind) hu;have k2:=near_none hb h1 h2 he ht;grind
 | less h hc hs h2 =>
  subst hc;obtain⟨g1,e1,hg1,he1,k1⟩:=h.gap hr;obtain⟨g2,e2,hg2,he2,k2⟩:=h2.gap hr;obtain⟨e3,he3,h31,h32⟩:=ycG (d:=g2 / 2) (m:=2*(r+1)+1) (by grind) (by grind);obtain⟨e4,he4,h41,h42⟩:=ybR he1 he2;obtain⟨e5,he5,h51,h52⟩:=ybR he3 he4;have hM0:0<a*a+r+s+4:=by have:=ycO a;grind
  obtain⟨g,hg,hgM⟩:=ygw (d:=g2 / 2) (m:=a*a+r+s+4) (by grind) hM0;refine ⟨g,e5,hg,he5,fun e t u he hle ht hu=>?_⟩;have p1:=k1 e t he (by grind) ht;have p2:=k2 e t he (by grind) ht;have t1:=ht.nn;have t2:=ht.le;have t3:=ht.lt;have t4:=ht.top hr;have u1:=hu.nn;have u2:=hu.le;have u4:=hu.top hs0
  have q1:e*(2*t+e)≤e3*(2*(r+1)+1):=by
   have x1:=yar (a:=e) (b:=e3) (c:=2*t+e) (by grind) (by grind);have x2:=yar (a:=2*t+e) (b:=2*(r+1)+1) (c:=e3) (by grind) (by grind);grind
  have q2:(a+b*t)*(a+b*t)=a*a+2*(a*b)*t+t*t:=by
   have:(a+b*t)*(a+b*t)=a*a+2*(a*b)*t+(b*b)*(t*t):=by grind
   rw [this,hbb];grind
  have q3:g2 / 2≤((a+b*t)-u)*((a+b*t)+u):=by grind
  have q4:b*t≤t:=by rcases hb with rfl|rfl<;>grind
  have q5:=yeM a;have:=yiN q3 (by grind) (by grind) (M:=a*a+r+s+4) (by grind) hM0 hgM hg;grind
 | more h hc hs h2 =>
  subst hc;obtain⟨g1,e1,hg1,he1,k1⟩:=h.gap hr;obtain⟨g2,e2,hg2,he2,k2⟩:=h2.gap hr;obtain⟨e3,he3,h31,h32⟩:=ycG (d:=g2 / 2) (m:=2*(s+1)+1) (by grind) (by grind);obtain⟨e4,he4,h41,h42⟩:=ybR he1 he2;obtain⟨e5,he5,h51,h52⟩:=ybR he3 he4;have hM0:0<a*a+r+s+4:=by have:=ycO a;grind
  obtain⟨g,hg,hgM⟩:=ygw (d:=g2 / 2) (m:=a*a+r+s+4) (by grind) hM0;refine ⟨g,e5,hg,he5,fun e t u he hle ht hu=>?_⟩;have p1:=k1 e t he (by grind) ht;have p2:=k2 e t he (by grind) ht;have t1:=ht.nn;have t2:=ht.le;have t4:=ht.top hr;have u1:=hu.nn;have u2:=hu.le;have u3:=hu.lt;have u4:=hu.top hs0
  have q1:e*(2*u+e)≤e3*(2*(s+1)+1):=by
   have x1:=yar (a:=e) (b:=e3) (c:=2*u+e) (by grind) (by grind);have x2:=yar (a:=2*u+e) (b:=2*(s+1)+1) (c:=e3) (by grind) (by grind);grind
  have q2:(a+b*t)*(a+b*t)=a*a+2*(a*b)*t+t*t:=by
   have:(a+b*t)*(a+b*t)=a*a+2*(a*b)*t+(b*b)*(t*t):=by grind
   rw [this,hbb];grind
  have q3:g2 / 2≤(u+(a+b*t))*(u-(a+b*t)):=by grind
  have q4 : -(b*t)≤t:=by rcases hb with rfl|rfl<;>grind
  have q5:=yeM a;have:=yiN q3 (by grind) (by grind) (M:=a*a+r+s+4) (by grind) hM0 hgM hg;grind
theorem Pos.mono {a a' b r:Rat} (hr:0≤r) (h:Pos a b r) (ha:a≤a'):Pos a' b r:=by
 rcases h with ⟨h1,h2|h2⟩|⟨h1,h2,h3⟩
 ·exact .inl ⟨by grind,.inl h2⟩
 ·refine .inl ⟨by grind,.inr ?_⟩
  have:=yfp (Rat.le_of_lt h1) ha;grind
 by_cases h4:0<a'
 ·exact .inl ⟨h4,.inl (by grind)⟩
 refine .inr ⟨by grind,h2,?_⟩;have:=yfp (a:=-a') (b:=-a) (by grind) (by grind);grind
theorem ydd {w r t e h:Rat} (hr:0≤r) (hw:w=1∨w = -1) (ht:Near r t e) (he:0<e) (hh:e≤h):Pos (h+w*t) (-w) r:=by
 have t1:=ht.nn;have t2:=ht.le;have t3:=ht.lt;rcases hw with rfl|rfl
 ·refine .inl ⟨by grind,.inr ?_⟩
  have:=yfp (a:=t+e) (b:=h+1*t) (by grind) (by grind);grind
 by_cases h4:0<h + -1*t
 ·exact .inl ⟨h4,.inl (by grind)⟩
 refine .inr ⟨by grind,by grind,?_⟩;have:=sq_lt (a:=t-h) (b:=t) (by grind) (by grind);grind
theorem ex_nat (x:Rat):∃ n:Nat,x≤n:=by
 refine ⟨x.ceil.toNat,?_⟩;have h1:=@Rat.le_ceil x
 have h2:(x.ceil:Rat)≤((x.ceil.toNat:Int):Rat):=by
  rw [Rat.intCast_le_intCast];omega
 have h3:((x.ceil.toNat:Int):Rat)=((x.ceil.toNat:Nat):Rat):=rfl;grind
theorem ybQ {r e:Rat} (hr:0≤r) (he:0<e):∃ t,Near r t e:=by
 have step:∀ n:Nat,r<((n:Rat)*e)*((n:Rat)*e)→∃ t,Near r t e:=by
  intro n;induction n with
  | zero=>intro h;exfalso;have:((0:Nat):Rat)=0:=rfl;grind
  | succ n ih =>
   intro h;by_cases h1:r<((n:Rat)*e)*((n:Rat)*e)
   ·exact ih h1
   have hn:(0:Rat)≤(n:Rat):=by exact Rat.natCast_nonneg
   have hc:((n+1:Nat):Rat)=(n:Rat)+1:=by simp
   refine ⟨(n:Rat)*e,yas hn (Rat.le_of_lt he),by grind,?_⟩;rw [hc] at h;grind
 obtain⟨n,hn⟩:=ex_nat ((r+1) / e);refine step n ?_
 have h1:r+1≤(n:Rat)*e:=by
  have:=yar hn (Rat.le_of_lt he);rw [Rat.div_mul_cancel (by grind)] at this;exact this
 have:=yfp (a:=r+1) (b:=(n:Rat)*e) (by grind) h1;have:=ycO r;grind
structure Qn where
 p:Rat
 r:Rat
 neg:Bool
def Qn.u (x:Qn):Rat:=if x.neg then -1 else 1
theorem Qn.u_or (x:Qn):x.u=1∨x.u = -1:=by unfold Qn.u;cases x.neg<;>simp
structure Qn.Ok (x:Qn):Prop where
 nn:0≤x.r
 zero:x.r=0→x.neg=false
 sq:x.r≠0→∀ q:Rat,q*q≠x.r
def Below1 (q:Rat) (x:Qn):Prop:=Pos (x.p-q) x.u x.r
def Above1 (q:Rat) (x:Qn):Prop:=Pos (q-x.p) (-x.u) x.r
theorem Below1.mono {q q':Rat} {x:Qn} (hx:0≤x.r) (h:Below1 q x) (hq:q'≤q):Below1 q' x:=Pos.mono hx h (by grind)
theorem Above1.mono {q q':Rat} {x:Qn} (hx:0≤x.r) (h:Above1 q x) (hq:q≤q'):Above1 q' x:=Pos.mono hx h (by grind)
theorem ycg {q q':Rat} {x:Qn} (hx:0≤x.r) (h:Below1 q x) (h':Above1 q' x):q<q':=by
 obtain⟨g,e0,hg,he,k⟩:=Pos.gap hx h;obtain⟨g',e0',hg',he',k'⟩:=Pos.gap hx h';obtain⟨e,h1,h2,h3⟩:=ybR he he';obtain⟨t,ht⟩:=ybQ hx h1;have:=k e t h1 h2 ht;have:=k' e t h1 h3 ht;grind
def Lt (x y:Qn):Prop:=∃ q,Above1 q x∧Below1 q y
theorem Lt.trans {x y z:Qn} (hx:0≤x.r) (hy:0≤y.r) (h:Lt x y) (h':Lt y z):Lt x z:=by
 obtain⟨q,h1,h2⟩:=h;obtain⟨q',h3,h4⟩:=h';exact ⟨q',h1.mono hx (Rat.le_of_lt (ycg hy h2 h3)),h4⟩
theorem Lt.irrefl {x:Qn} (hx:0≤x.r) (h:Lt x x):False:=by
 obtain⟨q,h1,h2⟩:=h;have:=ycg hx h2 h1;grind
theorem yjt {x y:Qn} (hx:0≤x.r) (hy:0≤y.r) (h:Pos3 (x.p-y.p) x.u x.r (-y.u) y.r):Lt y x:=by
 obtain⟨g,e0,hg,he0,k⟩:=h.gap hx hy x.u_or;obtain⟨e,h1,h2,h3⟩:=ybR he0 (show 0<g / 2 by grind)
 obtain⟨t,ht⟩:=ybQ hx h1;obtain⟨v,hv⟩:=ybQ hy h1;have hk:=k e t v h1 h2 ht hv;refine ⟨y.p+y.u*v+g / 2,?_,?_⟩
 ·have:=ydd hy y.u_or hv h1 h3
  exact Pos.mono hy this (by grind)
 have hw : -x.u=1 ∨ -x.u = -1:=by rcases x.u_or with h|h<;>rw [h]<;>simp
 have:=ydd hx hw ht h1 h3;rw [Rat.neg_neg] at this;exact Pos.mono hx this (by grind)
theorem yhw {x y:Qn} (hx:0≤x.r) (hy:0≤y.r) (h:Pos3 (-(x.p-y.p)) (-x.u) x.r (-(-y.u)) y.r):Lt x y:=by
 have hw : -x.u=1 ∨ -x.u = -1:=by rcases x.u_or with h|h<;>rw [h]<;>simp
 obtain⟨g,e0,hg,he0,k⟩:=h.gap hx hy hw;obtain⟨e,h1,h2,h3⟩:=ybR he0 (show 0<g / 2 by grind)
 obtain⟨t,ht⟩:=ybQ hx h1;obtain⟨v,hv⟩:=ybQ hy h1;have hk:=k e t v h1 h2 ht hv;refine ⟨x.p+x.u*t+g / 2,?_,?_⟩
 ·have:=ydd hx x.u_or ht h1 h3
  exact Pos.mono hx this (by grind)
 have hw' : -y.u=1 ∨ -y.u = -1:=by rcases y.u_or with h|h<;>rw [h]<;>simp
 have:=ydd hy hw' hv h1 h3;rw [Rat.neg_neg] at this;exact Pos.mono hy this (by grind)
def sgn (q:Rat):Int:=if q<0 then -1 else if 0<q then 1 else 0
theorem yaJ (q:Rat):(q<0∧sgn q = -1)∨(q=0∧sgn q=0)∨(0<q∧sgn q=1):=by
 unfold sgn;by_cases h:q<0
 ·exact .inl ⟨h,if_pos h⟩
 rw [if_neg h];by_cases h2:0<q
 ·exact .inr (.inr ⟨h2,if_pos h2⟩)
 exact .inr (.inl ⟨by grind,if_neg h2⟩)
def sg1 (a b r:Rat):Int :=
 if sgn b*sgn r=0∨sgn a=sgn b*sgn r then sgn a else if sgn a=0 then sgn b*sgn r else sgn a*sgn (a*a-b*b*r)
theorem ybt {a b r:Rat} (hr:0≤r) :
  (sg1 a b r=1∧Pos a b r)∨(sg1 a b r = -1∧Pos (-a) (-b) r)∨(sg1 a b r=0 ∧ ¬ Pos a b r ∧ ¬ Pos (-a) (-b) r∧a*a=b*b*r∧(r=0∨a*b≤0)):=by
 have f1:a<0∨0<a→0<a*a:=fun h=>by
  rcases h with h|h
  ·have:=yal (a:=-a) (b:=-a) (by grind) (by grind)
   grind
  exact yal h h
 have f2:(b<0∨0<b)→0<r→0<b*b*r:=fun h h2=>by
  rcases h with h|h
  ·have:=yal (yal (a:=-b) (b:=-b) (by grind) (by grind)) h2
   grind
  exact yal (yal h h) h2
 have f3:a<0→0<b→a*b<0:=fun h h2=>by
  have:=yal (a:=-a) (b:=b) (by grind) h2;grind
 have f4:0<a→b<0→a*b<0:=fun h h2=>by
  have:=yal (a:=a) (b:=-b) h (by grind);grind
 unfold sg1
 rcases yaJ a with ⟨a1,a2⟩|⟨a1,a2⟩|⟨a1,a2⟩<;>rcases yaJ b with ⟨b1,b2⟩|⟨b1,b2⟩|⟨b1,b2⟩<;>rcases yaJ r with ⟨r1,r2⟩|⟨r1,r2⟩|⟨r1,r2⟩ <;>
  rcases yaJ (a*a-b*b*r) with ⟨d1,d2⟩|⟨d1,d2⟩|⟨d1,d2⟩<;>rw [a2,b2,r2,d2]<;>simp
 all_goals unfold Pos
 all_goals first|grind|(subst r1;grind)|(subst a1;grind)|(subst r1;simp;grind)|(subst a1;simp;grind)
def cmpQ (x y:Qn):Int :=
 if sgn (-y.u)*sgn y.r=0∨sg1 (x.p-y.p) x.u x.r=sgn (-y.u)*sgn y.r then sg1 (x.p-y.p) x.u x.r
 else if sg1 (x.p-y.p) x.u x.r=0 then sgn (-y.u)*sgn y.r
 else sg1 (x.p-y.p) x.u x.r*sg1 ((x.p-y.p)*(x.p-y.p)+x.r-y.r) (2*((x.p-y.p)*x.u)) x.r
theorem sgn_neg_one:sgn (-1) = -1:=by decide
theorem Qn.eq_of {x y:Qn} (hx:x.Ok) (hy:y.Ok) (hp:x.p=y.p) (hr:x.r=y.r) (hu:x.r≠0→x.u=y.u):x=y:=by
 obtain⟨p,r,neg⟩:=x;obtain⟨p',r',neg'⟩:=y;dsimp only at hp hr;subst hp hr;by_cases h:r=0
 ·have h1:=hx.zero h
  have h2:=hy.zero h;dsimp only at h1 h2;rw [h1,h2]
 have:=hu h;unfold Qn.u at this;dsimp only at this;cases neg<;>cases neg'<;>simp_all<;>grind
theorem ybL {a:Rat} (h:a*a=0):a=0:=by
 by_cases h0:a=0
 ·exact h0
 exfalso;rcases Rat.le_total (a:=0) (b:=a) with h1|h1
 ·have:=yal (a:=a) (b:=a) (by grind) (by grind)
  grind
 have:=yal (a:=-a) (b:=-a) (by grind) (by grind);grind
theorem ygp {A B r:Rat} (h:A*A=B*B*r) (hB:B≠0):(A / B)*(A / B)=r:=by
 have h1:A / B*B=A:=Rat.div_mul_cancel hB;have h2:(A / B*B)*(A / B*B)=B*B*r:=by rw [h1];exact h
 have h3:(B*B)*((A / B)*(A / B)-r)=0:=by grind
 have h4:B*B≠0:=fun e=>hB (ybL e);rcases Rat.mul_eq_zero.1 h3 with h5|h5
 ·exact absurd h5 h4
 grind
theorem ygK {x y:Qn} (hx:x.Ok) (hy:y.Ok) (r1:0<y.r) {a:Rat} (k4:(a*a+x.r-y.r)*(a*a+x.r-y.r)=2*(a*x.u)*(2*(a*x.u))*x.r):a=0∧x.r=y.r∧x.r≠0:=by
 have hu:=x.u_or;by_cases h:x.r=0
 ·exfalso
  rw [h] at k4;have h1:a*a+0-y.r=0:=ybL (by grind);exact hy.sq (by grind) a (by grind)
 have h0:a=0:=by
  by_cases h0:a=0
  ·exact h0
  exfalso;have hB:2*(a*x.u)≠0:=by rcases hu with e|e<;>rw [e]<;>grind
  exact hx.sq h _ (ygp k4 hB)
 subst h0;have h1:0*0+x.r-y.r=0:=ybL (by grind);exact ⟨rfl,by grind,h⟩
theorem ybF {x y:Qn} (hx:x.Ok) (hy:y.Ok):(cmpQ x y=1∧Lt y x)∨(cmpQ x y = -1∧Lt x y)∨(cmpQ x y=0∧x=y):=by
 have hxn:=hx.nn;have hyn:=hy.nn;have hu:=x.u_or;have hu2:x.u*x.u=1:=by rcases hu with h|h<;>rw [h]<;>grind
 have g1:Pos3 (x.p-y.p) x.u x.r (-y.u) y.r→Lt y x:=yjt hxn hyn;have g2:Pos3 (-(x.p-y.p)) (-x.u) x.r (-(-y.u)) y.r→Lt x y:=yhw hxn hyn;unfold cmpQ;generalize ha:x.p-y.p=a at *;rcases yaJ y.r with ⟨r1,r2⟩|⟨r1,r2⟩|⟨r1,r2⟩
 ·exfalso;grind
 ·-- the second number is a fraction
  rw [r2,Int.mul_zero,if_pos (.inl rfl)];rcases ybt (a:=a) (b:=x.u) hxn with ⟨m1,m2⟩|⟨m1,m2⟩|⟨m1,m2,m3,m4,m5⟩
  ·exact .inl ⟨m1,g1 (.same m2 (.inl r1))⟩
  ·exact .inr (.inl ⟨m1,g2 (.same m2 (.inl r1))⟩)
  refine .inr (.inr ⟨m1,?_⟩);rw [hu2] at m4
  have hxr:x.r=0:=by
   by_cases h:x.r=0
   ·exact h
   exact absurd (by grind) (hx.sq h a)
  have ha0:a=0:=by
   by_cases h:a=0
   ·exact h
   exfalso
   have:0<a*a:=by
    rcases Rat.le_total (a:=0) (b:=a) with h1|h1
    ·exact yal (by grind) (by grind)
    have:=yal (a:=-a) (b:=-a) (by grind) (by grind);grind
   grind
  exact Qn.eq_of hx hy (by grind) (by grind) (fun h=>absurd hxr h)
 rcases y.u_or with hv|hv
 ·-- root is taken away
  have hn:sgn (-y.u) = -1:=by rw [hv];exact sgn_neg_one
  rw [hn,r2];have hc:(-y.u:Rat) = -1:=by rw [hv]
  rcases ybt (a:=a) (b:=x.u) hxn with ⟨m1,m2⟩|⟨m1,m2⟩|⟨m1,m2,m3,m4,m5⟩
  ·rw [m1,if_neg (by decide),if_neg (by decide)]
   rcases ybt (a:=a*a+x.r-y.r) (b:=2*(a*x.u)) hxn with ⟨k1,k2⟩|⟨k1,k2⟩|⟨k1,k2,k3,k4,k5⟩
   ·rw [k1];exact .inl ⟨by decide,g1 (.less m2 hc r1 k2)⟩
   ·rw [k1]
    refine .inr (.inl ⟨by decide,g2 (.more ?_ (by grind) r1 ?_)⟩)
    ·rw [Rat.neg_neg,Rat.neg_neg];exact m2
    have e1 : -(-a * -a+x.r-y.r) = -(a*a+x.r-y.r):=by grind
    have e2 : -(2*(-a * -x.u)) = -(2*(a*x.u)):=by grind
    rw [e1,e2];exact k2
   rw [k1];refine .inr (.inr ⟨by decide,?_⟩);obtain⟨z1,z2,z3⟩:=ygK hx hy r1 k4;refine Qn.eq_of hx hy (by grind) z2 (fun _=>?_);rw [z1] at m2;unfold Pos at m2;rcases hu with e|e
   ·rw [e,hv]
   rw [e] at m2;grind
  ·rw [m1,if_pos (.inr (by decide))]
   exact .inr (.inl ⟨rfl,g2 (.same m2 (.inr (by grind)))⟩)
  rw [m1,if_neg (by decide),if_pos rfl];refine .inr (.inl ⟨by decide,g2 (.none m3 ?_ (by grind) r1)⟩);rw [Rat.neg_neg,Rat.neg_neg];exact m2
 have hn:sgn (-y.u)=1:=by rw [hv];decide
 rw [hn,r2];have hc:(-y.u:Rat)=1:=by rw [hv];decide
 rcases ybt (a:=a) (b:=x.u) hxn with ⟨m1,m2⟩|⟨m1,m2⟩|⟨m1,m2,m3,m4,m5⟩
 ·rw [m1,if_pos (.inr (by decide))]
  exact .inl ⟨rfl,g1 (.same m2 (.inr hc))⟩
 ·rw [m1,if_neg (by decide),if_neg (by decide)]
  rcases ybt (a:=a*a+x.r-y.r) (b:=2*(a*x.u)) hxn with ⟨k1,k2⟩|⟨k1,k2⟩|⟨k1,k2,k3,k4,k5⟩
  ·rw [k1]
   refine .inr (.inl ⟨by decide,g2 (.less m2 (by grind) r1 ?_)⟩);have e1 : -a * -a+x.r-y.r=a*a+x.r-y.r:=by grind
   have e2:2*(-a * -x.u)=2*(a*x.u):=by grind
   rw [e1,e2];exact k2
  ·rw [k1];exact .inl ⟨by decide,g1 (.more m2 hc r1 k2)⟩
  rw [k1];refine .inr (.inr ⟨by decide,?_⟩);obtain⟨z1,z2,z3⟩:=ygK hx hy r1 k4;refine Qn.eq_of hx hy (by grind) z2 (fun _=>?_);rw [z1] at m2;unfold Pos at m2;rcases hu with e|e
  ·rw [e] at m2;grind
  rw [e,hv]
 rw [m1,if_neg (by decide),if_pos rfl];exact .inl ⟨by decide,g1 (.none m2 m3 hc r1)⟩
end Go.Proofs.YtpgffjjpiafhpaaGreatDoor
