/- Parts of a proof: Ks Kt Ku Kv. -/
import Derived.Test.YtpgffjjpiafhpaaGreatDoorP20
import Derived.Test.YtpgffjjpiafhpaaGreatDoorP06
import Derived.Test.YtpgffjjpiafhpaaGreatDoorP08
import Derived.Test.YtpgffjjpiafhpaaGreatDoorP13
set_option linter.unusedVariables false
set_option linter.unusedSimpArgs false
set_option maxRecDepth 100000
set_option maxHeartbeats 8000000
namespace Go.Proofs.YtpgffjjpiafhpaaGreatDoor
open Go.RowKit
section
open Go.RowKit Go.Lib
noncomputable def sqI (z:Int):Bool:=!sgB z&&decide (isq z.natAbs*isq z.natAbs=z.natAbs)
theorem issq_p (z:Int) (hz:(mgS z).size≤1000000000) (w:World) :
  Calls Tryz.prog 165 #[zv z] w fun e w'=>e = .returned (.tuple #[zv (if sqI z then (isq z.natAbs:Int) else 0),.bool (sqI z)])∧Below w.heap.size w w':=by
 have hz0:zv 0 = .agg #[.bool false,.string ⟨#[]⟩]:=by
  show Value.agg #[.bool (sgB 0),.string (mgS 0)]=_
  rw [yaR.2 rfl];rfl
 have HR:=jX (root_p z.natAbs hz);have HM:=jX (mul_c (magS (isq z.natAbs)) (magS (isq z.natAbs)) (by have:=ycN (ydD z.natAbs) hz;omega) (by have:=ycN (ydD z.natAbs) hz;omega));rw [yau] at HM;have HMd:=jX (ybJ false (isq z.natAbs));cases hs:sgB z with
 | true =>
  have hq:sqI z=false:=by unfold sqI;rw [hs];rfl
  rw [hq];simp only [if_false,Bool.false_eq_true];rw [hz0];unfold zv;rw [hs];generalize mgS z=s at *;clear HR HM HMd hz0;go_enter Tryz.func165,Tryz.ntmps165
  go_upto_region 1 with (fail)
  obtain⟨W,ga,gb,hW,ega,egb,Bga,Bgb,hga,hgb,hgW,HkW⟩:=al2h w (.cells #[.bool true,.string s] 26) (.cells #[.bool false,.string ⟨#[]⟩] 26);rw [← hW];try rw [egb]
  try rw [ega]
  clear hW ega egb;obtain⟨pga,fga,lga⟩:=jQ Bga;obtain⟨pgb,fgb,lgb⟩:=jQ Bgb;go_wp2_with fail;refine bodyPost_ret (v:=.tuple #[.agg #[.bool false,.string ⟨#[]⟩],.bool false]) ?_ rfl ⟨rfl,Keep.bz (by repeat (first|(with_reducible exact HkW.out)|(refine Keep.sP ?_ _ _ _ (by omega))|(refine Keep.aP ?_ _)|(refine Keep.dP ?_)))⟩;rw [results_cell_tmp rfl];go_simp
 | false =>
  obtain⟨n,hn⟩:∃ n,z.natAbs=n:=⟨_,rfl⟩;have hsn:mgS z=magS n:=by unfold mgS;rw [hn]
  have hq:sqI z=decide (isq n*isq n=n):=by unfold sqI;rw [hs,hn];simp
  rw [hn] at HR HM HMd;rw [hq,hn];have hmk:mk false (isq n)=(isq n:Int):=rfl;rw [hmk] at HMd;unfold zv;rw [hs,hsn];unfold zv at HMd hz0;have h1:sgB ((isq n:Nat):Int)=false:=by unfold sgB;rw [decide_eq_false_iff_not];omega
  have h2:mgS ((isq n:Nat):Int)=magS (isq n):=by unfold mgS;rw [Int.natAbs_natCast]
  rw [h1,h2] at HMd;have HTs:Hid (magS (isq n*isq n)=magS n↔isq n*isq n=n):=ycR
  have HV:Hid (∀ b:Bool,(Value.agg #[.bool (sgB (if b then (isq n:Int) else 0)),.string (mgS (if b then (isq n:Int) else 0))])=if b then .agg #[.bool false,.string (magS (isq n))] else .agg #[.bool false,.string ⟨#[]⟩]):=fun b=>by
   cases b
   ·exact hz0
   simp only [if_true];rw [h1,h2]
  rw [HV.out];clear h1 h2 hz0 hmk HV hz hq hsn hs;generalize isq n=r at *;generalize magS (r*r)=T at *;generalize magS n=s at *;generalize magS r=R at *;obtain⟨b0,hb0⟩:∃ b0,decide (r*r=n)=b0:=⟨_,rfl⟩;rw [hb0];have Hb0:=jX hb0;clear hb0;go_enter Tryz.func165,Tryz.ntmps165
  go_upto_region 1 with (fail)
  obtain⟨W,ga,gb,hW,ega,egb,Bga,Bgb,hga,hgb,hgW,HkW⟩:=al2h w (.cells #[.bool false,.string s] 26) (.cells #[.bool false,.string ⟨#[]⟩] 26);rw [← hW];try rw [egb]
  try rw [ega]
  clear hW ega egb;obtain⟨pga,fga,lga⟩:=jQ Bga;obtain⟨pgb,fgb,lgb⟩:=jQ Bgb;go_wp2_with fail;refine (HR.out _).mono ?_;rintro e w1 ⟨rfl,hb1⟩;dsimp only;clear pga fga lga pgb fgb lgb HR;have B2ga:=jX ((hb1.block ga (yaa Bga.out)).trans Bga.out);clear Bga;have Bga:=B2ga;clear B2ga;have B2gb:=jX ((hb1.block gb (yaa Bgb.out)).trans Bgb.out);clear Bgb;have Bgb:=B2gb;clear B2gb;have HB1:=jX ((HkW.out.bz).trans (Below.mono hb1 HkW.out.size));clear hb1;have kga:=yag Bga.out;have Q1:Hid (∀ m:KW w1,Calls Tryz.prog 194 #[.string R,.string R] (Wk w1 m) fun e w'=>e = .returned (.string T)∧∃ m,w'=Wk w1 m):=fun m=>qk m (HM.out _);by_cases hrr:r*r=n
  ·have hT:=HTs.out.2 hrr
   subst hT;have hb:b0=true:=by rw [← Hb0.out];exact decide_eq_true hrr
   clear Hb0;subst hb;have hy:=str_yes (rfl:T=T);clear HTs hrr;go_wp2_with fail;refine yae (by kernel_rfl) (by kernel_rfl) ?_
   repeat (first
    | go_big_quiet_skip
    | (go_big_quiet_want;go_big_quiet_op;first|go_big_quiet_on|go_big_quiet_call (first
     | (go_at_call 194;with_reducible exact (Q1).out _))))
   refine wpQuiet_nil ?_;rintro w2 ⟨⟨_,hk_w2⟩,rfl⟩;have Bga:=jX (hk_w2.heap Bga.out (by simp));have Bgb:=jX (hk_w2.heap Bgb.out (by simp));have HB2:=jX (HB1.out.trans (Below.mono hk_w2.bz HB1.out.size));clear hk_w2 kga;go_wp2_with fail;refine (HMd.out _).mono ?_;rintro e w3 ⟨rfl,hk3⟩;dsimp only;have Bgb:=jX (hk3.heap Bgb.out (by simp));have HB3:=jX (HB2.out.trans (Below.mono hk3.bz HB2.out.size));clear hk3;obtain⟨pgb,fgb,lgb⟩:=jQ Bgb;go_wp2_with fail;obtain⟨w4,e4,b4,k4⟩:=st2 (x:=.bool false) (y:=.string R) Bgb.out;rw [← e4];have HB4:=jX (HB3.out.trans (k4.below (by simp;omega) HB3.out.size));clear pgb fgb lgb k4 e4;have pgb:=yac b4;refine bodyPost_ret (v:=.tuple #[.agg #[.bool false,.string R],.bool true]) ?_ rfl ⟨rfl,HB4.out⟩;rw [results_cell_tmp rfl];go_simp
  have hT:T≠s:=fun h=>hrr (HTs.out.1 h);have hb:b0=false:=by rw [← Hb0.out];exact decide_eq_false hrr
  clear Hb0;subst hb;have hy:=ydQ hT;clear HTs hrr hT;go_wp2_with fail;refine yae (by kernel_rfl) (by kernel_rfl) ?_
  repeat (first
   | go_big_quiet_skip
   | (go_big_quiet_want;go_big_quiet_op;first|go_big_quiet_on|go_big_quiet_call (first
    | (go_at_call 194;with_reducible exact (Q1).out _))))
  refine wpQuiet_nil ?_;rintro w2 ⟨⟨_,hk_w2⟩,rfl⟩;have Bgb:=jX (hk_w2.heap Bgb.out (by simp));have HB2:=jX (HB1.out.trans (Below.mono hk_w2.bz HB1.out.size));clear hk_w2 kga;obtain⟨pgb,fgb,lgb⟩:=jQ Bgb;go_wp2_with fail;obtain⟨w4,e4,b4,k4⟩:=st2 (x:=.bool false) (y:=.string ⟨#[]⟩) Bgb.out;rw [← e4];have HB4:=jX (HB2.out.trans (k4.below (by simp;omega) HB2.out.size));clear pgb fgb lgb k4 e4;have pgb:=yac b4;refine bodyPost_ret (v:=.tuple #[.agg #[.bool false,.string ⟨#[]⟩],.bool false]) ?_ rfl ⟨rfl,HB4.out⟩;rw [results_cell_tmp rfl];go_simp
end
section
open Go.RowKit Go.Lib
theorem ygq (n:Nat):mgS (n:Int)=magS n:=by unfold mgS;rw [Int.natAbs_natCast]
theorem sgB_nat (n:Nat):sgB (n:Int)=false:=by unfold sgB;rw [decide_eq_false_iff_not];omega
theorem sqI_nat (n:Nat):sqI (n:Int)=decide (isq n*isq n=n):=by unfold sqI;rw [sgB_nat,Int.natAbs_natCast];simp
def RootP (w0:World) (a:Rat) (e:Ending) (w':World):Prop:=∃ q ok,e = .returned (.tuple #[rv q,.bool ok])∧QRoot a q ok∧Below w0.heap.size w0 w'
theorem proot_p (a:Rat) (ha:FitQ 100000000 a) (w:World) :
  Calls Tryz.prog 125 #[rv a] w (RootP w a):=by
 have H1:=jX (issq_p a.num (Nat.le_trans ha.1 (by decide)));have H2:=jX (issq_p (a.den:Int) (Nat.le_trans ha.2 (by decide)));have H3:=jX (Den_c a);have h00:=rv_zero;have hden:0<isq a.den:=isq_pos a.den_pos
 have H4:=jX (ybR (isq a.num.natAbs:Int) (isq a.den:Int) (by
  have h:=ycN (ydD a.num.natAbs) ha.1;unfold Fit;rw [ygq]
  omega) (by
  have h:=ha.2;unfold Fit at h;rw [ygq] at h;have h:=ycN (ydD a.den) h;unfold Fit;rw [ygq]
  omega) (by omega))
 have Hno:Hid (sqI a.num=false→QRoot a 0 false):=fun h=>by
  cases hs:sgB a.num with
  | true=>exact qroot_neg hs
  | false =>
   unfold sqI at h;rw [hs] at h;exact qroot_num (yex _) (yfN _) (by simpa using h)
 have Hno2:Hid (sqI (a.den:Int)=false→QRoot a 0 false):=fun h=>by
  rw [sqI_nat] at h;exact qroot_den (yex _) (yfN _) (by simpa using h)
 have Hyes:Hid (sqI a.num=true→sqI (a.den:Int)=true→QRoot a (Rat.divInt (isq a.num.natAbs:Int) (isq a.den:Int)) true):=fun h1 h2=>by
  unfold sqI at h1;rw [Bool.and_eq_true,Bool.not_eq_true',decide_eq_true_iff] at h1;rw [sqI_nat,decide_eq_true_iff] at h2;exact qroot_yes h1.1 h1.2 h2
 rw [Int.natAbs_natCast] at H2;generalize Rat.divInt (isq a.num.natAbs:Int) (isq a.den:Int)=R at *;have hP:Hid (∀ q ok w',QRoot a q ok→Below w.heap.size w w'→RootP w a (.returned (.tuple #[rv q,.bool ok])) w'):=fun q ok w' h1 h2=>⟨q,ok,rfl,h1,h2⟩;have hP0:=jX (hP.out 0 false);rw [h00] at hP0;have hPR:=jX (hP.out R true);clear hP h00;generalize hPP:RootP w a=P at *;unfold rv zv at *;generalize sgB a.num=na at *;generalize mgS a.num=sa at *;generalize dnS a.den=da at *;cases hk1:sqI a.num with
 | false =>
  have HQ:=jX (Hno.out hk1);rw [hk1] at H1;simp only [if_false,Bool.false_eq_true] at H1;generalize sgB (0:Int)=x1 at *;generalize mgS (0:Int)=y1 at *;clear H4 Hno Hno2 Hyes hPR hden hPP;generalize sqI (a.den:Int)=k2 at *;generalize sgB (if k2=true then (isq a.den:Int) else 0)=x2 at *
  generalize mgS (if k2=true then (isq a.den:Int) else 0)=y2 at *
  go_enter Tryz.func125,Tryz.ntmps125
  go_upto_region 1 with (fail)
  obtain⟨W,ga,gb,hW,ega,egb,Bga,Bgb,hga,hgb,hgW,HkW⟩:=al2h w (.cells #[.bool na,.string sa,.bool false,.string da] 28) (.cells #[.bool false,.string ⟨#[]⟩,.bool false,.string ⟨#[]⟩] 28);rw [← hW];try rw [egb]
  try rw [ega]
  clear hW ega egb;obtain⟨pga,fga,lga⟩:=jQ Bga;obtain⟨pgb,fgb,lgb⟩:=jQ Bgb;go_wp2_with fail;refine (H1.out _).mono ?_;rintro e w1 ⟨rfl,hb1⟩;dsimp only;clear pga fga lga pgb fgb lgb;have B2ga:=jX ((hb1.block ga (yaa Bga.out)).trans Bga.out);clear Bga;have Bga:=B2ga;clear B2ga;have B2gb:=jX ((hb1.block gb (yaa Bgb.out)).trans Bgb.out);clear Bgb;have Bgb:=B2gb;clear B2gb;have HB:=jX ((HkW.out.bz).trans (Below.mono hb1 HkW.out.size));clear hb1;obtain⟨pga,fga,lga⟩:=jQ Bga;go_wp2_with fail;obtain⟨W2,gc,hW2,egc,bgc,hgc,hgW2,hkW2⟩:=al1 w1 (.cells #[.bool x1,.string y1] 26);rw [← hW2];try rw [egc]
  have Bgc:=jX bgc;clear hW2 egc bgc;have HB2:=jX (HB.out.trans (Below.mono hkW2.bz HB.out.size));have Bga:=jX (hkW2.heap Bga.out (by simp));have Bgb:=jX (hkW2.heap Bgb.out (by simp));clear pga fga lga hkW2;refine (H3.out _).mono ?_;rintro e w3 ⟨rfl,hk3⟩;dsimp only;have HB:=jX (HB2.out.trans (Below.mono hk3.bz HB2.out.size));have Bga:=jX (hk3.heap Bga.out (by simp));have Bgb:=jX (hk3.heap Bgb.out (by simp));have Bgc:=jX (hk3.heap Bgc.out (by simp));clear HB2 hk3;go_wp2_with fail;refine (H2.out _).mono ?_;rintro e w4 ⟨rfl,hb4⟩;dsimp only;have B2gb:=jX ((hb4.block gb (yaa Bgb.out)).trans Bgb.out);clear Bgb;have Bgb:=B2gb;clear B2gb;have B2gc:=jX ((hb4.block gc (yaa Bgc.out)).trans Bgc.out);clear Bgc;have Bgc:=B2gc;clear B2gc;have HB:=jX (HB.out.trans (Below.mono hb4 HB.out.size));clear hb4 Bga;go_upto_region 3 with (fail)
  obtain⟨W2,gd,hW2,egd,bgd,hgd,hgW2,hkW2⟩:=al1 w4 (.cells #[.bool x2,.string y2] 26);rw [← hW2];try rw [egd]
  have Bgd:=jX bgd;clear hW2 egd bgd;have HB:=jX (HB.out.trans (Below.mono hkW2.bz HB.out.size));have Bgb:=jX (hkW2.heap Bgb.out (by simp));have Bgc:=jX (hkW2.heap Bgc.out (by simp));clear hkW2;obtain⟨pgb,fgb,lgb⟩:=jQ Bgb;obtain⟨pgc,fgc,lgc⟩:=jQ Bgc;obtain⟨pgd,fgd,lgd⟩:=jQ Bgd;go_wp2_with fail;obtain⟨w6,e6,b6,k6⟩:=st4 (x:=.bool false) (y:=.string ⟨#[]⟩) (z:=.bool false) (u:=.string ⟨#[]⟩) Bgb.out;rw [← e6];have HB6:=jX (HB.out.trans (k6.below (by simp;omega) HB.out.size));clear pgb fgb lgb k6 e6;have pgb:=yac b6;refine bodyPost_ret (v:=.tuple #[.agg #[.bool false,.string ⟨#[]⟩,.bool false,.string ⟨#[]⟩],.bool false]) ?_ rfl (hP0.out _ HQ.out HB6.out);rw [results_cell_tmp rfl];go_simp
 | true =>
  rw [hk1] at H1;simp only [if_true] at H1;generalize sgB (isq a.num.natAbs:Int)=x1 at *;generalize mgS (isq a.num.natAbs:Int)=y1 at *;cases hk2:sqI (a.den:Int) with
  | false =>
   have HQ:=jX (Hno2.out hk2);rw [hk2] at H2;simp only [if_false,Bool.false_eq_true] at H2;generalize sgB (0:Int)=x2 at *;generalize mgS (0:Int)=y2 at *;clear H4 Hno Hno2 Hyes hPR hden hPP;go_enter Tryz.func125,Tryz.ntmps125
   go_upto_region 1 with (fail)
   obtain⟨W,ga,gb,hW,ega,egb,Bga,Bgb,hga,hgb,hgW,HkW⟩:=al2h w (.cells #[.bool na,.string sa,.bool false,.string da] 28) (.cells #[.bool false,.string ⟨#[]⟩,.bool false,.string ⟨#[]⟩] 28);rw [← hW];try rw [egb]
   try rw [ega]
   clear hW ega egb;obtain⟨pga,fga,lga⟩:=jQ Bga;obtain⟨pgb,fgb,lgb⟩:=jQ Bgb;go_wp2_with fail;refine (H1.out _).mono ?_;rintro e w1 ⟨rfl,hb1⟩;dsimp only;clear pga fga lga pgb fgb lgb;have B2ga:=jX ((hb1.block ga (yaa Bga.out)).trans Bga.out);clear Bga;have Bga:=B2ga;clear B2ga;have B2gb:=jX ((hb1.block gb (yaa Bgb.out)).trans Bgb.out);clear Bgb;have Bgb:=B2gb;clear B2gb;have HB:=jX ((HkW.out.bz).trans (Below.mono hb1 HkW.out.size));clear hb1;obtain⟨pga,fga,lga⟩:=jQ Bga;go_wp2_with fail;obtain⟨W2,gc,hW2,egc,bgc,hgc,hgW2,hkW2⟩:=al1 w1 (.cells #[.bool x1,.string y1] 26);rw [← hW2];try rw [egc]
   have Bgc:=jX bgc;clear hW2 egc bgc;have HB2:=jX (HB.out.trans (Below.mono hkW2.bz HB.out.size));have Bga:=jX (hkW2.heap Bga.out (by simp));have Bgb:=jX (hkW2.heap Bgb.out (by simp));clear pga fga lga hkW2;refine (H3.out _).mono ?_;rintro e w3 ⟨rfl,hk3⟩;dsimp only;have HB:=jX (HB2.out.trans (Below.mono hk3.bz HB2.out.size));have Bga:=jX (hk3.heap Bga.out (by simp));have Bgb:=jX (hk3.heap Bgb.out (by simp));have Bgc:=jX (hk3.heap Bgc.out (by simp));clear HB2 hk3;go_wp2_with fail;refine (H2.out _).mono ?_;rintro e w4 ⟨rfl,hb4⟩;dsimp only;have B2gb:=jX ((hb4.block gb (yaa Bgb.out)).trans Bgb.out);clear Bgb;have Bgb:=B2gb;clear B2gb;have B2gc:=jX ((hb4.block gc (yaa Bgc.out)).trans Bgc.out);clear Bgc;have Bgc:=B2gc;clear B2gc;have HB:=jX (HB.out.trans (Below.mono hb4 HB.out.size));clear hb4 Bga;go_upto_region 3 with (fail)
   obtain⟨W2,gd,hW2,egd,bgd,hgd,hgW2,hkW2⟩:=al1 w4 (.cells #[.bool x2,.string y2] 26);rw [← hW2];try rw [egd]
   have Bgd:=jX bgd;clear hW2 egd bgd;have HB:=jX (HB.out.trans (Below.mono hkW2.bz HB.out.size));have Bgb:=jX (hkW2.heap Bgb.out (by simp));have Bgc:=jX (hkW2.heap Bgc.out (by simp));clear hkW2;obtain⟨pgb,fgb,lgb⟩:=jQ Bgb;obtain⟨pgc,fgc,lgc⟩:=jQ Bgc;obtain⟨pgd,fgd,lgd⟩:=jQ Bgd;go_wp2_with fail;obtain⟨w6,e6,b6,k6⟩:=st4 (x:=.bool false) (y:=.string ⟨#[]⟩) (z:=.bool false) (u:=.string ⟨#[]⟩) Bgb.out;rw [← e6];have HB6:=jX (HB.out.trans (k6.below (by simp;omega) HB.out.size));clear pgb fgb lgb k6 e6;have pgb:=yac b6;refine bodyPost_ret (v:=.tuple #[.agg #[.bool false,.string ⟨#[]⟩,.bool false,.string ⟨#[]⟩],.bool false]) ?_ rfl (hP0.out _ HQ.out HB6.out);rw [results_cell_tmp rfl];go_simp
  | true =>
   have HQ:=jX (Hyes.out hk1 hk2);rw [hk2] at H2;simp only [if_true] at H2;generalize sgB (isq a.den:Int)=x2 at *;generalize mgS (isq a.den:Int)=y2 at *;clear Hno Hno2 Hyes hP0 hden hPP;generalize sgB (R).num=nr at *;generalize mgS (R).num=sr at *;generalize dnS (R).den=dr at *;go_enter Tryz.func125,Tryz.ntmps125
   go_upto_region 1 with (fail)
   obtain⟨W,ga,gb,hW,ega,egb,Bga,Bgb,hga,hgb,hgW,HkW⟩:=al2h w (.cells #[.bool na,.string sa,.bool false,.string da] 28) (.cells #[.bool false,.string ⟨#[]⟩,.bool false,.string ⟨#[]⟩] 28);rw [← hW];try rw [egb]
   try rw [ega]
   clear hW ega egb;obtain⟨pga,fga,lga⟩:=jQ Bga;obtain⟨pgb,fgb,lgb⟩:=jQ Bgb;go_wp2_with fail;refine (H1.out _).mono ?_;rintro e w1 ⟨rfl,hb1⟩;dsimp only;clear pga fga lga pgb fgb lgb;have B2ga:=jX ((hb1.block ga (yaa Bga.out)).trans Bga.out);clear Bga;have Bga:=B2ga;clear B2ga;have B2gb:=jX ((hb1.block gb (yaa Bgb.out)).trans Bgb.out);clear Bgb;have Bgb:=B2gb;clear B2gb;have HB:=jX ((HkW.out.bz).trans (Below.mono hb1 HkW.out.size));clear hb1;obtain⟨pga,fga,lga⟩:=jQ Bga;go_wp2_with fail;obtain⟨W2,gc,hW2,egc,bgc,hgc,hgW2,hkW2⟩:=al1 w1 (.cells #[.bool x1,.string y1] 26);rw [← hW2];try rw [egc]
   have Bgc:=jX bgc;clear hW2 egc bgc;have HB2:=jX (HB.out.trans (Below.mono hkW2.bz HB.out.size));have Bga:=jX (hkW2.heap Bga.out (by simp));have Bgb:=jX (hkW2.heap Bgb.out (by simp));clear pga fga lga hkW2;refine (H3.out _).mono ?_;rintro e w3 ⟨rfl,hk3⟩;dsimp only;have HB:=jX (HB2.out.trans (Below.mono hk3.bz HB2.out.size));have Bga:=jX (hk3.heap Bga.out (by simp));have Bgb:=jX (hk3.heap Bgb.out (by simp));have Bgc:=jX (hk3.heap Bgc.out (by simp));clear HB2 hk3;go_wp2_with fail;refine (H2.out _).mono ?_;rintro e w4 ⟨rfl,hb4⟩;dsimp only;have B2gb:=jX ((hb4.block gb (yaa Bgb.out)).trans Bgb.out);clear Bgb;have Bgb:=B2gb;clear B2gb;have B2gc:=jX ((hb4.block gc (yaa Bgc.out)).trans Bgc.out);clear Bgc;have Bgc:=B2gc;clear B2gc;have HB:=jX (HB.out.trans (Below.mono hb4 HB.out.size));clear hb4 Bga;go_upto_region 3 with (fail)
   obtain⟨W2,gd,hW2,egd,bgd,hgd,hgW2,hkW2⟩:=al1 w4 (.cells #[.bool x2,.string y2] 26);rw [← hW2];try rw [egd]
   have Bgd:=jX bgd;clear hW2 egd bgd;have HB:=jX (HB.out.trans (Below.mono hkW2.bz HB.out.size));have Bgb:=jX (hkW2.heap Bgb.out (by simp));have Bgc:=jX (hkW2.heap Bgc.out (by simp));clear hkW2;obtain⟨pgb,fgb,lgb⟩:=jQ Bgb;obtain⟨pgc,fgc,lgc⟩:=jQ Bgc;obtain⟨pgd,fgd,lgd⟩:=jQ Bgd;go_wp2_with fail;refine (H4.out _).mono ?_;rintro e w6 ⟨rfl,hk6⟩;dsimp only;have HB:=jX (HB.out.trans (Below.mono hk6.bz HB.out.size));have Bgb:=jX (hk6.heap Bgb.out (by simp));clear hk6 pgb fgb lgb pgc fgc lgc pgd fgd lgd;obtain⟨pgb,fgb,lgb⟩:=jQ Bgb;go_wp2_with fail;obtain⟨w7,e7,b7,k7⟩:=st4 (x:=.bool nr) (y:=.string sr) (z:=.bool false) (u:=.string dr) Bgb.out;rw [← e7];have HB7:=jX (HB.out.trans (k7.below (by simp;omega) HB.out.size));clear pgb fgb lgb k7 e7;have pgb:=yac b7;refine bodyPost_ret (v:=.tuple #[.agg #[.bool nr,.string sr,.bool false,.string dr],.bool true]) ?_ rfl (hPR.out _ HQ.out HB7.out);rw [results_cell_tmp rfl];go_simp
end
section
open Go.RowKit Go.Lib
def errF (ok:Bool):Value:=.int .i64 (if ok then 0 else 5)
theorem ichk_c (n:Bool) (s:ByteArray) (w:World) :
  Calls Tryz.prog 150 #[.agg #[.bool n,.string s]] w fun e w'=>e = .returned (errF (isI n s))∧Keep [] w w':=by
 by_cases h0:s.size=0
 ·have hi:isI n s = !n:=dif_neg (by omega)
  have hs:s=⟨#[]⟩:=by
   apply ByteArray.ext;exact Array.eq_empty_of_size_eq_zero h0
  rw [hi];subst hs;clear hi h0;cases n
  all_goals
   go_enter Tryz.func150,Tryz.ntmps150
   go_upto_region 1 with (fail)
   obtain⟨W,ga,hW,ega,Bga,hga,hgW,HkW⟩:=al1h w (.cells #[.bool _,.string ⟨#[]⟩] 26);rw [← hW];try rw [ega]
   clear hW ega;obtain⟨pga,fga,lga⟩:=jQ Bga;go_wp2_with fail;go_ret
   exact ⟨rfl,by repeat (first|(with_reducible exact HkW.out)|(refine Keep.sP ?_ _ _ _ (by omega))|(refine Keep.aP ?_ _)|(refine Keep.dP ?_))⟩
 have hlt:0<s.size:=by omega
 have hi:isI n s=((((s[0]'hlt).toNat:Nat):Int) != 0):=dif_pos hlt
 have hemp:s.toList.isEmpty=false:=by
  rw [List.isEmpty_eq_false_iff];intro h;have h2:s=⟨#[]⟩:=yeb (by rw [h,Go.Lib.toList_data]);rw [h2] at hlt;exact absurd hlt (by decide)
 have hix:=fun w=>yfh w s hlt;rw [hi];clear hi h0;generalize (s[0]'hlt).toNat=d at *;have hgr:(((d:Nat):Int) != 0) = !(((d:Nat):Int) == 0):=rfl;rw [hgr];cases hd:((((d:Nat):Int)) == 0)
 all_goals
  clear hgr hlt;go_enter Tryz.func150,Tryz.ntmps150
  go_upto_region 1 with (fail)
  obtain⟨W,ga,hW,ega,Bga,hga,hgW,HkW⟩:=al1h w (.cells #[.bool n,.string s] 26);rw [← hW];try rw [ega]
  clear hW ega;obtain⟨pga,fga,lga⟩:=jQ Bga;go_wp2_with fail;go_ret
  exact ⟨rfl,by repeat (first|(with_reducible exact HkW.out)|(refine Keep.sP ?_ _ _ _ (by omega))|(refine Keep.aP ?_ _)|(refine Keep.dP ?_))⟩
end
section
open Go.RowKit Go.Lib
theorem neqZ_run (a b:Int) (w:World):(binOp .neq 26 (.agg #[.bool (sgB a),.string (mgS a)]) (.agg #[.bool (sgB b),.string (mgS b)])).run Tryz.prog w = .ok (.bool (!decide (a=b))) w:=by
 rw [run_neq_struct,show (10000:Nat)=9998+2 from rfl,yev,yfS];rfl
theorem qchk_c (n:Bool) (s:ByteArray) (v:Bool) (t:ByteArray) (hs:s.size≤100000000) (ht:t.size≤100000000) (w:World) :
  Calls Tryz.prog 103 #[.agg #[.bool n,.string s,.bool v,.string t]] w fun e w'=>e = .returned (errF (chkQ n s v t))∧Keep [] w w':=by
 have HI1:=jX (ichk_c n s);have HI2:=jX (ichk_c v t);cases h1:isI n s with
 | false =>
  rw [h1] at HI1;have hc:chkQ n s v t=false:=by unfold chkQ;rw [h1];rfl
  rw [hc];rw [show errF false = .int .i64 5 from rfl] at *
  clear hc h1 HI2;go_enter Tryz.func103,Tryz.ntmps103
  go_upto_region 1 with (fail)
  obtain⟨W,ga,hW,ega,Bga,hga,hgW,HkW⟩:=al1h w (.cells #[.bool n,.string s,.bool v,.string t] 28);rw [← hW];try rw [ega]
  clear hW ega;obtain⟨pga,fga,lga⟩:=jQ Bga;go_wp2_with fail;refine (HI1.out _).mono ?_;rintro e w1 ⟨rfl,hk1⟩;dsimp only;clear pga fga lga;replace Bga:=jH hk1 Bga;replace HkW:=jX (HkW.out.tz hk1);clear hk1;obtain⟨pga,fga,lga⟩:=jQ Bga;go_wp2_with fail;go_ret
  exact ⟨rfl,by repeat (first|(with_reducible exact HkW.out)|(refine Keep.sP ?_ _ _ _ (by omega))|(refine Keep.aP ?_ _)|(refine Keep.dP ?_))⟩
 | true =>
  rw [h1] at HI1;cases h2:isI v t with
  | false =>
   rw [h2] at HI2;have hc:chkQ n s v t=false:=by unfold chkQ;rw [h2];simp
   rw [hc];rw [show errF true = .int .i64 0 from rfl] at HI1
   rw [show errF false = .int .i64 5 from rfl] at *
   clear hc h1 h2;go_enter Tryz.func103,Tryz.ntmps103
   go_upto_region 1 with (fail)
   obtain⟨W,ga,hW,ega,Bga,hga,hgW,HkW⟩:=al1h w (.cells #[.bool n,.string s,.bool v,.string t] 28);rw [← hW];try rw [ega]
   clear hW ega;obtain⟨pga,fga,lga⟩:=jQ Bga;go_wp2_with fail;refine (HI1.out _).mono ?_;rintro e w1 ⟨rfl,hk1⟩;dsimp only;clear pga fga lga;replace Bga:=jH hk1 Bga;replace HkW:=jX (HkW.out.tz hk1);clear hk1;obtain⟨pga,fga,lga⟩:=jQ Bga;go_wp2_with fail;refine (HI2.out _).mono ?_;rintro e w2 ⟨rfl,hk2⟩;dsimp only;clear pga fga lga;replace Bga:=jH hk2 Bga;replace HkW:=jX (HkW.out.tz hk2);clear hk2;obtain⟨pga,fga,lga⟩:=jQ Bga;go_wp2_with fail;go_ret
   exact ⟨rfl,by repeat (first|(with_reducible exact HkW.out)|(refine Keep.sP ?_ _ _ _ (by omega))|(refine Keep.aP ?_ _)|(refine Keep.dP ?_))⟩
  | true =>
   rw [h2] at HI2;rw [show errF true = .int .i64 0 from rfl] at HI1 HI2
   obtain⟨z,hz1,hz2⟩:=ydS.1 h1;obtain⟨d,hd1,hd2⟩:=ydS.1 h2;have hb1:natB s=z.natAbs:=by rw [← hz2];exact yau _
   have hb2:natB t=d.natAbs:=by rw [← hd2];exact yau _
   have hgd:=eqZ_g
   have hz0:(Value.agg #[.bool false,.string ⟨#[]⟩]) = .agg #[.bool (sgB 0),.string (mgS 0)]:=by
    rw [yaR.2 rfl];rfl
   have heq:∀ w,(binOp .eql 26 (.agg #[.bool v,.string t]) (.agg #[.bool false,.string ⟨#[]⟩])).run Tryz.prog w = .ok (.bool (decide (d=0))) w:=fun w=>by
    rw [hz0,← hd1,← hd2];exact eqZ_run d 0 w
   have hchk:chkQ n s v t=(!v&&(decide (t.size=0) || (decide (t≠⟨#[1]⟩)&&decide (Nat.gcd z.natAbs d.natAbs=1)))):=by
    unfold chkQ;rw [h1,h2,hb1,hb2];rfl
   by_cases hd0:d=0
   ·have hc : chkQ n s v t = true := by
     rw [hchk];subst hd0;have e1:v=false:=by rw [← hd1];rfl
     have e2:t=⟨#[]⟩:=by rw [← hd2];exact yaR.2 rfl
     rw [e1,e2];rfl
    rw [hc];rw [show errF true = .int .i64 0 from rfl]
    rw [decide_eq_true hd0] at heq;clear hc hchk hd0 hz0 hb1 hb2 hz1 hz2 hd1 hd2 h1 h2;go_enter Tryz.func103,Tryz.ntmps103
    go_upto_region 1 with (fail)
    obtain⟨W,ga,hW,ega,Bga,hga,hgW,HkW⟩:=al1h w (.cells #[.bool n,.string s,.bool v,.string t] 28);rw [← hW];try rw [ega]
    clear hW ega;obtain⟨pga,fga,lga⟩:=jQ Bga;go_wp2_with fail;refine (HI1.out _).mono ?_;rintro e w1 ⟨rfl,hk1⟩;dsimp only;clear pga fga lga;replace Bga:=jH hk1 Bga;replace HkW:=jX (HkW.out.tz hk1);clear hk1;obtain⟨pga,fga,lga⟩:=jQ Bga;go_wp2_with fail;refine (HI2.out _).mono ?_;rintro e w2 ⟨rfl,hk2⟩;dsimp only;clear pga fga lga;replace Bga:=jH hk2 Bga;replace HkW:=jX (HkW.out.tz hk2);clear hk2;obtain⟨pga,fga,lga⟩:=jQ Bga;go_wp2_with fail;go_ret
    exact ⟨rfl,by repeat (first|(with_reducible exact HkW.out)|(refine Keep.sP ?_ _ _ _ (by omega))|(refine Keep.aP ?_ _)|(refine Keep.dP ?_))⟩
   rw [decide_eq_false hd0] at heq;have HO:=jX one_c;have HC:=jX (Compare_c d 1);have HG:=jX (Gcd_c z d (by unfold Fit;rw [hz2];omega) (by unfold Fit;rw [hd2];omega));have HN:=jX (neqZ_run (Int.gcd z d:Nat) 1);have hsz:t.size≠0:=fun h=>hd0 (yaR.1 (hd2.trans (ydc h)))
   have hle:(Lib.compareInt d 1≤0)↔d≤1:=by
    unfold Lib.compareInt;split
    ·constructor<;>intro h<;>omega
    split
    ·constructor<;>intro h<;>omega
    constructor<;>intro h<;>omega
   unfold zv at HO HC HG;rw [hd1,hd2] at HC HG;rw [hz1,hz2] at HG;generalize Lib.compareInt d 1=c at *;obtain⟨x1,hx1⟩:∃ x,sgB 1=x:=⟨_,rfl⟩;obtain⟨y1,hy1⟩:∃ x,mgS 1=x:=⟨_,rfl⟩;rw [hx1,hy1] at HO HC HN;by_cases hd1':d≤1
   ·have hc : chkQ n s v t = false := by
     rw [hchk];rcases Int.lt_or_lt_of_ne hd0 with h|h
     ·have e1:v=true:=by rw [← hd1];unfold sgB;exact decide_eq_true h
      rw [e1];rfl
     have e:d=1:=by omega
     subst e;have e2:t=⟨#[1]⟩:=by rw [← hd2];exact magS_one
     rw [e2];cases v<;>rfl
    have hcl:c≤0:=hle.2 hd1';have hcd:decide (c≤0)=true:=decide_eq_true hcl;rw [hc];rw [show errF false = .int .i64 5 from rfl]
    clear hc hchk hd0 hz0 hb1 hb2 hz1 hz2 hd1 hd2 h1 h2 hx1 hy1 HG HN hle hsz hd1';go_enter Tryz.func103,Tryz.ntmps103
    go_upto_region 1 with (fail)
    obtain⟨W,ga,hW,ega,Bga,hga,hgW,HkW⟩:=al1h w (.cells #[.bool n,.string s,.bool v,.string t] 28);rw [← hW];try rw [ega]
    clear hW ega;obtain⟨pga,fga,lga⟩:=jQ Bga;go_wp2_with fail;refine (HI1.out _).mono ?_;rintro e w1 ⟨rfl,hk1⟩;dsimp only;clear pga fga lga;replace Bga:=jH hk1 Bga;replace HkW:=jX (HkW.out.tz hk1);clear hk1;obtain⟨pga,fga,lga⟩:=jQ Bga;go_wp2_with fail;refine (HI2.out _).mono ?_;rintro e w2 ⟨rfl,hk2⟩;dsimp only;clear pga fga lga;replace Bga:=jH hk2 Bga;replace HkW:=jX (HkW.out.tz hk2);clear hk2;obtain⟨pga,fga,lga⟩:=jQ Bga;go_wp2_with fail;have kga:=yag Bga.out;have Q1:Hid (∀ m:KW w2,Calls Tryz.prog 152 #[] (Wk w2 m) fun e w'=>e = .returned (.agg #[.bool x1,.string y1])∧∃ m,w'=Wk w2 m):=fun m=>qk m (HO.out _);have Q2:Hid (∀ m:KW w2,Calls Tryz.prog 151 #[.agg #[.bool v,.string t],.agg #[.bool x1,.string y1]] (Wk w2 m) fun e w'=>e = .returned (.int .i64 c)∧∃ m,w'=Wk w2 m):=fun m=>qk m (HC.out _);clear hgd heq HI1 HI2;refine yae (by kernel_rfl) (by kernel_rfl) ?_
    repeat (first
     | go_big_quiet_skip
     | (go_big_quiet_want;go_big_quiet_op;first|go_big_quiet_on|go_big_quiet_call (first
      | (go_at_call 152;with_reducible exact (Q1).out _)|(go_at_call 151;with_reducible exact (Q2).out _))))
    refine wpQuiet_nil ?_;rintro w3 ⟨⟨_,hk_w3⟩,rfl⟩;have HK3:=jX (HkW.out.tz hk_w3);clear hk_w3;go_wp2_with fail;go_ret
    exact ⟨rfl,HK3.out⟩
   have hd2':1<d:=by omega
   have e1:v=false:=by rw [← hd1];unfold sgB;rw [decide_eq_false_iff_not];omega
   have e2:t≠⟨#[1]⟩:=fun h=>by
    rw [h,← magS_one] at hd2;have:=ycR.1 hd2;omega
   have hg:Int.gcd z d=Nat.gcd z.natAbs d.natAbs:=rfl
   have hc:chkQ n s v t=decide (((Int.gcd z d:Nat):Int)=1):=by
    rw [hchk,e1,decide_eq_false hsz,decide_eq_true e2,hg];simp only [Bool.not_false,Bool.true_and,Bool.false_or];rw [decide_eq_decide];omega
   have hcl:¬ c≤0:=fun h=>hd1' (hle.1 h);have hcd:decide (c≤0)=false:=decide_eq_false hcl;rw [hc];obtain⟨k,hk⟩:∃ k,decide (((Int.gcd z d:Nat):Int)=1)=k:=⟨_,rfl⟩;rw [hk] at HN ⊢;generalize sgB ((Int.gcd z d:Nat):Int)=gx at *;generalize mgS ((Int.gcd z d:Nat):Int)=gy at *;clear hc hchk hd0 hz0 hb1 hb2 hz1 hz2 hd1 hd2 h1 h2 hx1 hy1 hle hsz hd1' hd2' e1 e2 hg hk;have hne:=HN.out;go_enter Tryz.func103,Tryz.ntmps103
   go_upto_region 1 with (fail)
   obtain⟨W,ga,hW,ega,Bga,hga,hgW,HkW⟩:=al1h w (.cells #[.bool n,.string s,.bool v,.string t] 28);rw [← hW];try rw [ega]
   clear hW ega;obtain⟨pga,fga,lga⟩:=jQ Bga;go_wp2_with fail;refine (HI1.out _).mono ?_;rintro e w1 ⟨rfl,hk1⟩;dsimp only;clear pga fga lga;replace Bga:=jH hk1 Bga;replace HkW:=jX (HkW.out.tz hk1);clear hk1;obtain⟨pga,fga,lga⟩:=jQ Bga;go_wp2_with fail;refine (HI2.out _).mono ?_;rintro e w2 ⟨rfl,hk2⟩;dsimp only;clear pga fga lga;replace Bga:=jH hk2 Bga;replace HkW:=jX (HkW.out.tz hk2);clear hk2;obtain⟨pga,fga,lga⟩:=jQ Bga;go_wp2_with fail;have kga:=yag Bga.out;have Q1:Hid (∀ m:KW w2,Calls Tryz.prog 152 #[] (Wk w2 m) fun e w'=>e = .returned (.agg #[.bool x1,.string y1])∧∃ m,w'=Wk w2 m):=fun m=>qk m (HO.out _);have Q2:Hid (∀ m:KW w2,Calls Tryz.prog 151 #[.agg #[.bool v,.string t],.agg #[.bool x1,.string y1]] (Wk w2 m) fun e w'=>e = .returned (.int .i64 c)∧∃ m,w'=Wk w2 m):=fun m=>qk m (HC.out _);have Q3:Hid (∀ m:KW w2,Calls Tryz.prog 153 #[.agg #[.bool n,.string s],.agg #[.bool v,.string t]] (Wk w2 m) fun e w'=>e = .returned (.agg #[.bool gx,.string gy])∧∃ m,w'=Wk w2 m):=fun m=>qk m (HG.out _);clear heq HI1 HI2;cases k
   all_goals
    refine yae (by kernel_rfl) (by kernel_rfl) ?_
    repeat (first
     | go_big_quiet_skip
     | (go_big_quiet_want;go_big_quiet_op;first|go_big_quiet_on|go_big_quiet_call (first
      | (go_at_call 152;with_reducible exact (Q1).out _)|(go_at_call 151;with_reducible exact (Q2).out _)|(go_at_call 153;with_reducible exact (Q3).out _))))
    refine wpQuiet_nil ?_;rintro w3 ⟨⟨_,hk_w3⟩,rfl⟩;have HK3:=jX (HkW.out.tz hk_w3);clear hk_w3;go_wp2_with fail;go_ret
    exact ⟨rfl,HK3.out⟩
end
end Go.Proofs.YtpgffjjpiafhpaaGreatDoor
