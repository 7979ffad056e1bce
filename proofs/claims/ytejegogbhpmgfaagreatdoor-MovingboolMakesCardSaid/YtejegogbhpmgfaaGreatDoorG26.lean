/- Parts of a proof: Ks Kt Sl. -/
import Derived.Test.YtejegogbhpmgfaaGreatDoorG17
import Derived.Test.YtejegogbhpmgfaaGreatDoorG07
import Derived.Test.YtejegogbhpmgfaaGreatDoorG09
import Derived.Test.YtejegogbhpmgfaaGreatDoorG25
set_option linter.unusedVariables false
set_option linter.unusedSimpArgs false
set_option maxRecDepth 100000
set_option maxHeartbeats 8000000
namespace Go.Proofs.YtejegogbhpmgfaaGreatDoor
open Go.RowKit Tryz
section
open Go.RowKit Go.Lib
noncomputable def sqI (z:Int):Bool:=!sgB z&&decide (isq z.natAbs*isq z.natAbs=z.natAbs)
theorem issq_p (z:Int) (hz:(mgS z).size≤1000000000) (w:World) :
  Calls Tryz.prog 192 #[zv z] w fun e w'=>e = .returned (.tuple #[zv (if sqI z then (isq z.natAbs:Int) else 0),.bool (sqI z)])∧Below w.heap.size w w':=by
 have hz0:zv 0 = .agg #[.bool false,.string ⟨#[]⟩]:=by
  show Value.agg #[.bool (sgB 0),.string (mgS 0)]=_
  rw [yaX.2 rfl];rfl
 have HR:=jX (root_p z.natAbs hz);have HM:=jX (mul_c (magS (isq z.natAbs)) (magS (isq z.natAbs)) (by have:=ydK (yej z.natAbs) hz;omega) (by have:=ydK (yej z.natAbs) hz;omega));rw [yaw] at HM;have HMd:=jX (yck false (isq z.natAbs));cases hs:sgB z with
 | true =>
  have hq:sqI z=false:=by unfold sqI;rw [hs];rfl
  rw [hq];simp only [if_false,Bool.false_eq_true];rw [hz0];unfold zv;rw [hs];generalize mgS z=s at *;clear HR HM HMd hz0;go_enter Tryz.func192,Tryz.ntmps192
  go_upto_region 1 with (fail)
  obtain⟨W,ga,gb,hW,ega,egb,Bga,Bgb,hga,hgb,hgW,HkW⟩:=al2h w (.cells #[.bool true,.string s] 32) (.cells #[.bool false,.string ⟨#[]⟩] 32);rw [← hW];try rw [egb]
  try rw [ega]
  clear hW ega egb;obtain⟨pga,fga,lga⟩:=jQ Bga;obtain⟨pgb,fgb,lgb⟩:=jQ Bgb;go_wp2_with fail;refine bodyPost_ret (v:=.tuple #[.agg #[.bool false,.string ⟨#[]⟩],.bool false]) ?_ rfl ⟨rfl,Keep.bz (by repeat (first|(with_reducible exact HkW.out)|(refine Keep.sP ?_ _ _ _ (by omega))|(refine Keep.aP ?_ _)|(refine Keep.dP ?_)))⟩;rw [results_cell_tmp rfl];go_simp
 | false =>
  obtain⟨n,hn⟩:∃ n,z.natAbs=n:=⟨_,rfl⟩;have hsn:mgS z=magS n:=by unfold mgS;rw [hn]
  have hq:sqI z=decide (isq n*isq n=n):=by unfold sqI;rw [hs,hn];simp
  rw [hn] at HR HM HMd;rw [hq,hn];have hmk:mk false (isq n)=(isq n:Int):=rfl;rw [hmk] at HMd;unfold zv;rw [hs,hsn];unfold zv at HMd hz0;have h1:sgB ((isq n:Nat):Int)=false:=by unfold sgB;rw [decide_eq_false_iff_not];omega
  have h2:mgS ((isq n:Nat):Int)=magS (isq n):=by unfold mgS;rw [Int.natAbs_natCast]
  rw [h1,h2] at HMd;have HTs:Hid (magS (isq n*isq n)=magS n↔isq n*isq n=n):=ydF
  have HV:Hid (∀ b:Bool,(Value.agg #[.bool (sgB (if b then (isq n:Int) else 0)),.string (mgS (if b then (isq n:Int) else 0))])=if b then .agg #[.bool false,.string (magS (isq n))] else .agg #[.bool false,.string ⟨#[]⟩]):=fun b=>by
   cases b
   ·exact hz0
   simp only [if_true];rw [h1,h2]
  rw [HV.out];clear h1 h2 hz0 hmk HV hz hq hsn hs;generalize isq n=r at *;generalize magS (r*r)=T at *;generalize magS n=s at *;generalize magS r=R at *;obtain⟨b0,hb0⟩:∃ b0,decide (r*r=n)=b0:=⟨_,rfl⟩;rw [hb0];have Hb0:=jX hb0;clear hb0;go_enter Tryz.func192,Tryz.ntmps192
  go_upto_region 1 with (fail)
  obtain⟨W,ga,gb,hW,ega,egb,Bga,Bgb,hga,hgb,hgW,HkW⟩:=al2h w (.cells #[.bool false,.string s] 32) (.cells #[.bool false,.string ⟨#[]⟩] 32);rw [← hW];try rw [egb]
  try rw [ega]
  clear hW ega egb;obtain⟨pga,fga,lga⟩:=jQ Bga;obtain⟨pgb,fgb,lgb⟩:=jQ Bgb;go_wp2_with fail;refine (HR.out _).mono ?_;rintro e w1 ⟨rfl,hb1⟩;dsimp only;clear pga fga lga pgb fgb lgb HR;have B2ga:=jX ((hb1.block ga (yab Bga.out)).trans Bga.out);clear Bga;have Bga:=B2ga;clear B2ga;have B2gb:=jX ((hb1.block gb (yab Bgb.out)).trans Bgb.out);clear Bgb;have Bgb:=B2gb;clear B2gb;have HB1:=jX ((HkW.out.bz).trans (Below.mono hb1 HkW.out.size));clear hb1;have kga:=yag Bga.out;have Q1:Hid (∀ m:KW w1,Calls Tryz.prog 189 #[.string R,.string R] (Wk w1 m) fun e w'=>e = .returned (.string T)∧∃ m,w'=Wk w1 m):=fun m=>qk m (HM.out _);by_cases hrr:r*r=n
  ·have hT:=HTs.out.2 hrr
   subst hT;have hb:b0=true:=by rw [← Hb0.out];exact decide_eq_true hrr
   clear Hb0;subst hb;have hy:=str_yes (rfl:T=T);clear HTs hrr;go_wp2_with fail;refine yac (by kernel_rfl) (by kernel_rfl) ?_
   repeat (first
    | go_big_quiet_skip
    | (go_big_quiet_want;go_big_quiet_op;first|go_big_quiet_on|go_big_quiet_call (first
     | (go_at_call 189;with_reducible exact (Q1).out _))))
   refine wpQuiet_nil ?_;rintro w2 ⟨⟨_,hk_w2⟩,rfl⟩;have Bga:=jX (hk_w2.heap Bga.out (by simp));have Bgb:=jX (hk_w2.heap Bgb.out (by simp));have HB2:=jX (HB1.out.trans (Below.mono hk_w2.bz HB1.out.size));clear hk_w2 kga;go_wp2_with fail;refine (HMd.out _).mono ?_;rintro e w3 ⟨rfl,hk3⟩;dsimp only;have Bgb:=jX (hk3.heap Bgb.out (by simp));have HB3:=jX (HB2.out.trans (Below.mono hk3.bz HB2.out.size));clear hk3;obtain⟨pgb,fgb,lgb⟩:=jQ Bgb;go_wp2_with fail;obtain⟨w4,e4,b4,k4⟩:=st2 (x:=.bool false) (y:=.string R) Bgb.out;rw [← e4];have HB4:=jX (HB3.out.trans (k4.below (by simp;omega) HB3.out.size));clear pgb fgb lgb k4 e4;have pgb:=yaa b4;refine bodyPost_ret (v:=.tuple #[.agg #[.bool false,.string R],.bool true]) ?_ rfl ⟨rfl,HB4.out⟩;rw [results_cell_tmp rfl];go_simp
  have hT:T≠s:=fun h=>hrr (HTs.out.1 h);have hb:b0=false:=by rw [← Hb0.out];exact decide_eq_false hrr
  clear Hb0;subst hb;have hy:=ydZ hT;clear HTs hrr hT;go_wp2_with fail;refine yac (by kernel_rfl) (by kernel_rfl) ?_
  repeat (first
   | go_big_quiet_skip
   | (go_big_quiet_want;go_big_quiet_op;first|go_big_quiet_on|go_big_quiet_call (first
    | (go_at_call 189;with_reducible exact (Q1).out _))))
  refine wpQuiet_nil ?_;rintro w2 ⟨⟨_,hk_w2⟩,rfl⟩;have Bgb:=jX (hk_w2.heap Bgb.out (by simp));have HB2:=jX (HB1.out.trans (Below.mono hk_w2.bz HB1.out.size));clear hk_w2 kga;obtain⟨pgb,fgb,lgb⟩:=jQ Bgb;go_wp2_with fail;obtain⟨w4,e4,b4,k4⟩:=st2 (x:=.bool false) (y:=.string ⟨#[]⟩) Bgb.out;rw [← e4];have HB4:=jX (HB2.out.trans (k4.below (by simp;omega) HB2.out.size));clear pgb fgb lgb k4 e4;have pgb:=yaa b4;refine bodyPost_ret (v:=.tuple #[.agg #[.bool false,.string ⟨#[]⟩],.bool false]) ?_ rfl ⟨rfl,HB4.out⟩;rw [results_cell_tmp rfl];go_simp
end
section
open Go.RowKit Go.Lib
theorem yia (n:Nat):mgS (n:Int)=magS n:=by unfold mgS;rw [Int.natAbs_natCast]
theorem sgB_nat (n:Nat):sgB (n:Int)=false:=by unfold sgB;rw [decide_eq_false_iff_not];omega
theorem sqI_nat (n:Nat):sqI (n:Int)=decide (isq n*isq n=n):=by unfold sqI;rw [sgB_nat,Int.natAbs_natCast];simp
def RootP (w0:World) (a:Rat) (e:Ending) (w':World):Prop:=∃ q ok,e = .returned (.tuple #[rv q,.bool ok])∧QRoot a q ok∧Below w0.heap.size w0 w'
theorem proot_p (a:Rat) (ha:FitQ 100000000 a) (w:World) :
  Calls Tryz.prog 169 #[rv a] w (RootP w a):=by
 have H1:=jX (issq_p a.num (Nat.le_trans ha.1 (by decide)));have H2:=jX (issq_p (a.den:Int) (Nat.le_trans ha.2 (by decide)));have H3:=jX (Den_c a);have h00:=rv_zero;have hden:0<isq a.den:=isq_pos a.den_pos
 have H4:=jX (ydi (isq a.num.natAbs:Int) (isq a.den:Int) (by
  have h:=ydK (yej a.num.natAbs) ha.1;unfold Fit;rw [yia]
  omega) (by
  have h:=ha.2;unfold Fit at h;rw [yia] at h;have h:=ydK (yej a.den) h;unfold Fit;rw [yia]
  omega) (by omega))
 have Hno:Hid (sqI a.num=false→QRoot a 0 false):=fun h=>by
  cases hs:sgB a.num with
  | true=>exact yhe hs
  | false =>
   unfold sqI at h;rw [hs] at h;exact ygJ (yfL _) (ygO _) (by simpa using h)
 have Hno2:Hid (sqI (a.den:Int)=false→QRoot a 0 false):=fun h=>by
  rw [sqI_nat] at h;exact yhu (yfL _) (ygO _) (by simpa using h)
 have Hyes:Hid (sqI a.num=true→sqI (a.den:Int)=true→QRoot a (Rat.divInt (isq a.num.natAbs:Int) (isq a.den:Int)) true):=fun h1 h2=>by
  unfold sqI at h1;rw [Bool.and_eq_true,Bool.not_eq_true',decide_eq_true_iff] at h1;rw [sqI_nat,decide_eq_true_iff] at h2;exact ygY h1.1 h1.2 h2
 rw [Int.natAbs_natCast] at H2;generalize Rat.divInt (isq a.num.natAbs:Int) (isq a.den:Int)=R at *;have hP:Hid (∀ q ok w',QRoot a q ok→Below w.heap.size w w'→RootP w a (.returned (.tuple #[rv q,.bool ok])) w'):=fun q ok w' h1 h2=>⟨q,ok,rfl,h1,h2⟩;have hP0:=jX (hP.out 0 false);rw [h00] at hP0;have hPR:=jX (hP.out R true);clear hP h00;generalize hPP:RootP w a=P at *;unfold rv zv at *;generalize sgB a.num=na at *;generalize mgS a.num=sa at *;generalize dnS a.den=da at *;cases hk1:sqI a.num with
 | false =>
  have HQ:=jX (Hno.out hk1);rw [hk1] at H1;simp only [if_false,Bool.false_eq_true] at H1;generalize sgB (0:Int)=x1 at *;generalize mgS (0:Int)=y1 at *;clear H4 Hno Hno2 Hyes hPR hden hPP;generalize sqI (a.den:Int)=k2 at *;generalize sgB (if k2=true then (isq a.den:Int) else 0)=x2 at *
  generalize mgS (if k2=true then (isq a.den:Int) else 0)=y2 at *
  go_enter Tryz.func169,Tryz.ntmps169
  go_upto_region 1 with (fail)
  obtain⟨W,ga,gb,hW,ega,egb,Bga,Bgb,hga,hgb,hgW,HkW⟩:=al2h w (.cells #[.bool na,.string sa,.bool false,.string da] 34) (.cells #[.bool false,.string ⟨#[]⟩,.bool false,.string ⟨#[]⟩] 34);rw [← hW];try rw [egb]
  try rw [ega]
  clear hW ega egb;obtain⟨pga,fga,lga⟩:=jQ Bga;obtain⟨pgb,fgb,lgb⟩:=jQ Bgb;go_wp2_with fail;refine (H1.out _).mono ?_;rintro e w1 ⟨rfl,hb1⟩;dsimp only;clear pga fga lga pgb fgb lgb;have B2ga:=jX ((hb1.block ga (yab Bga.out)).trans Bga.out);clear Bga;have Bga:=B2ga;clear B2ga;have B2gb:=jX ((hb1.block gb (yab Bgb.out)).trans Bgb.out);clear Bgb;have Bgb:=B2gb;clear B2gb;have HB:=jX ((HkW.out.bz).trans (Below.mono hb1 HkW.out.size));clear hb1;obtain⟨pga,fga,lga⟩:=jQ Bga;go_wp2_with fail;obtain⟨W2,gc,hW2,egc,bgc,hgc,hgW2,hkW2⟩:=al1 w1 (.cells #[.bool x1,.string y1] 32);rw [← hW2];try rw [egc]
  have Bgc:=jX bgc;clear hW2 egc bgc;have HB2:=jX (HB.out.trans (Below.mono hkW2.bz HB.out.size));have Bga:=jX (hkW2.heap Bga.out (by simp));have Bgb:=jX (hkW2.heap Bgb.out (by simp));clear pga fga lga hkW2;refine (H3.out _).mono ?_;rintro e w3 ⟨rfl,hk3⟩;dsimp only;have HB:=jX (HB2.out.trans (Below.mono hk3.bz HB2.out.size));have Bga:=jX (hk3.heap Bga.out (by simp));have Bgb:=jX (hk3.heap Bgb.out (by simp));have Bgc:=jX (hk3.heap Bgc.out (by simp));clear HB2 hk3;go_wp2_with fail;refine (H2.out _).mono ?_;rintro e w4 ⟨rfl,hb4⟩;dsimp only;have B2gb:=jX ((hb4.block gb (yab Bgb.out)).trans Bgb.out);clear Bgb;have Bgb:=B2gb;clear B2gb;have B2gc:=jX ((hb4.block gc (yab Bgc.out)).trans Bgc.out);clear Bgc;have Bgc:=B2gc;clear B2gc;have HB:=jX (HB.out.trans (Below.mono hb4 HB.out.size));clear hb4 Bga;go_upto_region 3 with (fail)
  obtain⟨W2,gd,hW2,egd,bgd,hgd,hgW2,hkW2⟩:=al1 w4 (.cells #[.bool x2,.string y2] 32);rw [← hW2];try rw [egd]
  have Bgd:=jX bgd;clear hW2 egd bgd;have HB:=jX (HB.out.trans (Below.mono hkW2.bz HB.out.size));have Bgb:=jX (hkW2.heap Bgb.out (by simp));have Bgc:=jX (hkW2.heap Bgc.out (by simp));clear hkW2;obtain⟨pgb,fgb,lgb⟩:=jQ Bgb;obtain⟨pgc,fgc,lgc⟩:=jQ Bgc;obtain⟨pgd,fgd,lgd⟩:=jQ Bgd;go_wp2_with fail;obtain⟨w6,e6,b6,k6⟩:=st4 (x:=.bool false) (y:=.string ⟨#[]⟩) (z:=.bool false) (u:=.string ⟨#[]⟩) Bgb.out;rw [← e6];have HB6:=jX (HB.out.trans (k6.below (by simp;omega) HB.out.size));clear pgb fgb lgb k6 e6;have pgb:=yaa b6;refine bodyPost_ret (v:=.tuple #[.agg #[.bool false,.string ⟨#[]⟩,.bool false,.string ⟨#[]⟩],.bool false]) ?_ rfl (hP0.out _ HQ.out HB6.out);rw [results_cell_tmp rfl];go_simp
 | true =>
  rw [hk1] at H1;simp only [if_true] at H1;generalize sgB (isq a.num.natAbs:Int)=x1 at *;generalize mgS (isq a.num.natAbs:Int)=y1 at *;cases hk2:sqI (a.den:Int) with
  | false =>
   have HQ:=jX (Hno2.out hk2);rw [hk2] at H2;simp only [if_false,Bool.false_eq_true] at H2;generalize sgB (0:Int)=x2 at *;generalize mgS (0:Int)=y2 at *;clear H4 Hno Hno2 Hyes hPR hden hPP;go_enter Tryz.func169,Tryz.ntmps169
   go_upto_region 1 with (fail)
   obtain⟨W,ga,gb,hW,ega,egb,Bga,Bgb,hga,hgb,hgW,HkW⟩:=al2h w (.cells #[.bool na,.string sa,.bool false,.string da] 34) (.cells #[.bool false,.string ⟨#[]⟩,.bool false,.string ⟨#[]⟩] 34);rw [← hW];try rw [egb]
   try rw [ega]
   clear hW ega egb;obtain⟨pga,fga,lga⟩:=jQ Bga;obtain⟨pgb,fgb,lgb⟩:=jQ Bgb;go_wp2_with fail;refine (H1.out _).mono ?_;rintro e w1 ⟨rfl,hb1⟩;dsimp only;clear pga fga lga pgb fgb lgb;have B2ga:=jX ((hb1.block ga (yab Bga.out)).trans Bga.out);clear Bga;have Bga:=B2ga;clear B2ga;have B2gb:=jX ((hb1.block gb (yab Bgb.out)).trans Bgb.out);clear Bgb;have Bgb:=B2gb;clear B2gb;have HB:=jX ((HkW.out.bz).trans (Below.mono hb1 HkW.out.size));clear hb1;obtain⟨pga,fga,lga⟩:=jQ Bga;go_wp2_with fail;obtain⟨W2,gc,hW2,egc,bgc,hgc,hgW2,hkW2⟩:=al1 w1 (.cells #[.bool x1,.string y1] 32);rw [← hW2];try rw [egc]
   have Bgc:=jX bgc;clear hW2 egc bgc;have HB2:=jX (HB.out.trans (Below.mono hkW2.bz HB.out.size));have Bga:=jX (hkW2.heap Bga.out (by simp));have Bgb:=jX (hkW2.heap Bgb.out (by simp));clear pga fga lga hkW2;refine (H3.out _).mono ?_;rintro e w3 ⟨rfl,hk3⟩;dsimp only;have HB:=jX (HB2.out.trans (Below.mono hk3.bz HB2.out.size));have Bga:=jX (hk3.heap Bga.out (by simp));have Bgb:=jX (hk3.heap Bgb.out (by simp));have Bgc:=jX (hk3.heap Bgc.out (by simp));clear HB2 hk3;go_wp2_with fail;refine (H2.out _).mono ?_;rintro e w4 ⟨rfl,hb4⟩;dsimp only;have B2gb:=jX ((hb4.block gb (yab Bgb.out)).trans Bgb.out);clear Bgb;have Bgb:=B2gb;clear B2gb;have B2gc:=jX ((hb4.block gc (yab Bgc.out)).trans Bgc.out);clear Bgc;have Bgc:=B2gc;clear B2gc;have HB:=jX (HB.out.trans (Below.mono hb4 HB.out.size));clear hb4 Bga;go_upto_region 3 with (fail)
   obtain⟨W2,gd,hW2,egd,bgd,hgd,hgW2,hkW2⟩:=al1 w4 (.cells #[.bool x2,.string y2] 32);rw [← hW2];try rw [egd]
   have Bgd:=jX bgd;clear hW2 egd bgd;have HB:=jX (HB.out.trans (Below.mono hkW2.bz HB.out.size));have Bgb:=jX (hkW2.heap Bgb.out (by simp));have Bgc:=jX (hkW2.heap Bgc.out (by simp));clear hkW2;obtain⟨pgb,fgb,lgb⟩:=jQ Bgb;obtain⟨pgc,fgc,lgc⟩:=jQ Bgc;obtain⟨pgd,fgd,lgd⟩:=jQ Bgd;go_wp2_with fail;obtain⟨w6,e6,b6,k6⟩:=st4 (x:=.bool false) (y:=.string ⟨#[]⟩) (z:=.bool false) (u:=.string ⟨#[]⟩) Bgb.out;rw [← e6];have HB6:=jX (HB.out.trans (k6.below (by simp;omega) HB.out.size));clear pgb fgb lgb k6 e6;have pgb:=yaa b6;refine bodyPost_ret (v:=.tuple #[.agg #[.bool false,.string ⟨#[]⟩,.bool false,.string ⟨#[]⟩],.bool false]) ?_ rfl (hP0.out _ HQ.out HB6.out);rw [results_cell_tmp rfl];go_simp
  | true =>
   have HQ:=jX (Hyes.out hk1 hk2);rw [hk2] at H2;simp only [if_true] at H2;generalize sgB (isq a.den:Int)=x2 at *;generalize mgS (isq a.den:Int)=y2 at *;clear Hno Hno2 Hyes hP0 hden hPP;generalize sgB (R).num=nr at *;generalize mgS (R).num=sr at *;generalize dnS (R).den=dr at *;go_enter Tryz.func169,Tryz.ntmps169
   go_upto_region 1 with (fail)
   obtain⟨W,ga,gb,hW,ega,egb,Bga,Bgb,hga,hgb,hgW,HkW⟩:=al2h w (.cells #[.bool na,.string sa,.bool false,.string da] 34) (.cells #[.bool false,.string ⟨#[]⟩,.bool false,.string ⟨#[]⟩] 34);rw [← hW];try rw [egb]
   try rw [ega]
   clear hW ega egb;obtain⟨pga,fga,lga⟩:=jQ Bga;obtain⟨pgb,fgb,lgb⟩:=jQ Bgb;go_wp2_with fail;refine (H1.out _).mono ?_;rintro e w1 ⟨rfl,hb1⟩;dsimp only;clear pga fga lga pgb fgb lgb;have B2ga:=jX ((hb1.block ga (yab Bga.out)).trans Bga.out);clear Bga;have Bga:=B2ga;clear B2ga;have B2gb:=jX ((hb1.block gb (yab Bgb.out)).trans Bgb.out);clear Bgb;have Bgb:=B2gb;clear B2gb;have HB:=jX ((HkW.out.bz).trans (Below.mono hb1 HkW.out.size));clear hb1;obtain⟨pga,fga,lga⟩:=jQ Bga;go_wp2_with fail;obtain⟨W2,gc,hW2,egc,bgc,hgc,hgW2,hkW2⟩:=al1 w1 (.cells #[.bool x1,.string y1] 32);rw [← hW2];try rw [egc]
   have Bgc:=jX bgc;clear hW2 egc bgc;have HB2:=jX (HB.out.trans (Below.mono hkW2.bz HB.out.size));have Bga:=jX (hkW2.heap Bga.out (by simp));have Bgb:=jX (hkW2.heap Bgb.out (by simp));clear pga fga lga hkW2;refine (H3.out _).mono ?_;rintro e w3 ⟨rfl,hk3⟩;dsimp only;have HB:=jX (HB2.out.trans (Below.mono hk3.bz HB2.out.size));have Bga:=jX (hk3.heap Bga.out (by simp));have Bgb:=jX (hk3.heap Bgb.out (by simp));have Bgc:=jX (hk3.heap Bgc.out (by simp));clear HB2 hk3;go_wp2_with fail;refine (H2.out _).mono ?_;rintro e w4 ⟨rfl,hb4⟩;dsimp only;have B2gb:=jX ((hb4.block gb (yab Bgb.out)).trans Bgb.out);clear Bgb;have Bgb:=B2gb;clear B2gb;have B2gc:=jX ((hb4.block gc (yab Bgc.out)).trans Bgc.out);clear Bgc;have Bgc:=B2gc;clear B2gc;have HB:=jX (HB.out.trans (Below.mono hb4 HB.out.size));clear hb4 Bga;go_upto_region 3 with (fail)
   obtain⟨W2,gd,hW2,egd,bgd,hgd,hgW2,hkW2⟩:=al1 w4 (.cells #[.bool x2,.string y2] 32);rw [← hW2];try rw [egd]
   have Bgd:=jX bgd;clear hW2 egd bgd;have HB:=jX (HB.out.trans (Below.mono hkW2.bz HB.out.size));have Bgb:=jX (hkW2.heap Bgb.out (by simp));have Bgc:=jX (hkW2.heap Bgc.out (by simp));clear hkW2;obtain⟨pgb,fgb,lgb⟩:=jQ Bgb;obtain⟨pgc,fgc,lgc⟩:=jQ Bgc;obtain⟨pgd,fgd,lgd⟩:=jQ Bgd;go_wp2_with fail;refine (H4.out _).mono ?_;rintro e w6 ⟨rfl,hk6⟩;dsimp only;have HB:=jX (HB.out.trans (Below.mono hk6.bz HB.out.size));have Bgb:=jX (hk6.heap Bgb.out (by simp));clear hk6 pgb fgb lgb pgc fgc lgc pgd fgd lgd;obtain⟨pgb,fgb,lgb⟩:=jQ Bgb;go_wp2_with fail;obtain⟨w7,e7,b7,k7⟩:=st4 (x:=.bool nr) (y:=.string sr) (z:=.bool false) (u:=.string dr) Bgb.out;rw [← e7];have HB7:=jX (HB.out.trans (k7.below (by simp;omega) HB.out.size));clear pgb fgb lgb k7 e7;have pgb:=yaa b7;refine bodyPost_ret (v:=.tuple #[.agg #[.bool nr,.string sr,.bool false,.string dr],.bool true]) ?_ rfl (hPR.out _ HQ.out HB7.out);rw [results_cell_tmp rfl];go_simp
end
def isI (n:Bool) (s:ByteArray):Bool:=if h:0<s.size then (((s[0]'h).toNat:Nat):Int) != 0 else !n
theorem yiE (n:Bool) (s:ByteArray) (hs:s.size≤1000000000000) (w:World) :
  Calls prog 193 #[.agg #[.bool n,.string s]] w fun e w'=>e = .returned (.bool (isI n s))∧Keep [] w w':=by
 by_cases h0:s.size=0
 ·have hi:isI n s = !n:=dif_neg (by omega)
  rw [hi];have hz:((s.size:Int) == 0)=true:=by rw [beq_iff_eq];omega
  cases n
  all_goals
   clear hi h0;go_enter func193,ntmps193
   go_wp2_with fail;obtain⟨W,ga,hW,ega,Bga,hga,hgW,HkW⟩:=al1h w (.cells #[.bool _,.string s] 32);rw [← hW];try rw [ega]
   clear hW ega;obtain⟨pga,fga,lga⟩:=jQ Bga;go_wp2_with fail;go_ret
   exact ⟨rfl,by repeat (first|(with_reducible exact HkW.out)|(refine Keep.sP ?_ _ _ _ (by omega))|(refine Keep.aP ?_ _)|(refine Keep.dP ?_))⟩
 have hlt:0<s.size:=by omega
 have hi:isI n s=((((s[0]'hlt).toNat:Nat):Int) != 0):=dif_pos hlt;rw [hi];have hz:((s.size:Int) == 0)=false:=by rw [beq_eq_false_iff_ne];omega
 clear hi h0;go_enter func193,ntmps193
 go_wp2_with fail;obtain⟨W,ga,hW,ega,Bga,hga,hgW,HkW⟩:=al1h w (.cells #[.bool n,.string s] 32);rw [← hW];try rw [ega]
 clear hW ega;obtain⟨pga,fga,lga⟩:=jQ Bga;go_wp2_with fail;go_ret
 exact ⟨rfl,by repeat (first|(with_reducible exact HkW.out)|(refine Keep.sP ?_ _ _ _ (by omega))|(refine Keep.aP ?_ _)|(refine Keep.dP ?_))⟩
theorem ycN {s:ByteArray} (h:s.size=0):s=⟨#[]⟩:=ByteArray.ext (by apply Array.eq_empty_of_size_eq_zero;exact h)
theorem isI_can {n:Bool} {s:ByteArray}:isI n s=true↔CanS s∧(s.size=0→n=false):=by
 unfold isI;split
 ·rename_i h
  obtain⟨⟨l⟩⟩:=s;cases l with
  | nil=>exact absurd h (by simp [ByteArray.size])
  | cons b l =>
   have e:(⟨⟨b :: l⟩⟩:ByteArray)[0]'h=b:=rfl;rw [e];unfold CanS CanL;simp only [List.head?_cons,Option.some.injEq,forall_eq',bne_iff_ne,ne_eq];constructor
   ·intro h2
    refine ⟨fun h3=>h2 (by rw [h3];rfl),fun h3=>absurd h3 (by simp [ByteArray.size])⟩
   rintro ⟨h2,_⟩ h3;exact h2 (UInt8.toNat_inj.1 (by simpa using h3))
 rename_i h;have h0:s.size=0:=by omega
 have e:=ycN h0;subst e;unfold CanS CanL;simp [h0]
theorem yff {n:Bool} {s:ByteArray}:isI n s=true↔∃ z:Int,sgB z=n∧mgS z=s:=by
 rw [isI_can];constructor
 ·rintro ⟨h1,h2⟩
  refine ⟨mk n (natB s),?_,?_⟩
  ·rw [mk_sg]
   cases n
   ·rfl
   by_cases h0:natB s=0
   ·exfalso
    have:=ycc s h1;rw [h0,show magS 0=⟨#[]⟩ from yaX.2 (rfl:(0:Int)=0)] at this
    have h3:=h2 (by rw [← this];rfl);cases h3
   simp [h0]
  rw [ygM,ycc s h1]
 rintro ⟨z,rfl,rfl⟩;refine ⟨mg_can z,fun h=>?_⟩;have:=yaX.1 (ycN h);subst this;rfl
def chkQ (n:Bool) (s:ByteArray) (m:Bool) (t:ByteArray):Bool:=isI n s&&isI m t && !m&&(decide (t.size=0) || (decide (t≠⟨#[1]⟩)&&decide (Nat.gcd (natB s) (natB t)=1)))
theorem magS_one:magS 1=⟨#[1]⟩:=by
 have h:=ycc ⟨#[1]⟩ (by unfold CanS CanL;simp);have e:natB ⟨#[1]⟩=1:=rfl;rw [e] at h;exact h
theorem ybY {n:Bool} {s:ByteArray} {m:Bool} {t:ByteArray}:chkQ n s m t=true↔∃ q:Rat,n=sgB q.num∧s=mgS q.num∧m=false∧t=dnS q.den:=by
 unfold chkQ;simp only [Bool.and_eq_true,Bool.or_eq_true,decide_eq_true_eq,Bool.not_eq_true'];constructor
 ·rintro ⟨⟨⟨h1,h2⟩,rfl⟩,h3⟩
  obtain⟨z,rfl,rfl⟩:=yff.1 h1;have ht:=(isI_can.1 h2).1;rcases h3 with h3|⟨h3,h4⟩
  ·exact ⟨(z:Rat),rfl,rfl,rfl,by rw [ycN h3];exact (ycB rfl).symm⟩
  rw [yaK] at h4;have hd1:natB t≠1:=fun e=>h3 (by rw [← ycc t ht,e,magS_one]);by_cases hd0:natB t=0
  ·have e:t=⟨#[]⟩:=by rw [← ycc t ht,hd0,magS_zero]
   exact ⟨(z:Rat),rfl,rfl,rfl,by rw [e];exact (ycB rfl).symm⟩
  refine ⟨⟨z,natB t,hd0,h4⟩,rfl,rfl,rfl,?_⟩;show t=dnS (natB t)
  rw [yeN hd1,ycc t ht]
 rintro ⟨q,rfl,rfl,rfl,rfl⟩;refine ⟨⟨⟨yff.2 ⟨_,rfl,rfl⟩,?_⟩,rfl⟩,?_⟩
 ·by_cases h1:q.den=1
  ·rw [h1,ycB rfl];rfl
  rw [yeN h1];refine yff.2 ⟨(q.den:Int),?_,?_⟩
  ·unfold sgB;simp
  unfold mgS;simp
 by_cases h1:q.den=1
 ·rw [h1,ycB rfl];exact .inl rfl
 rw [yeN h1];refine .inr ⟨fun e=>h1 ?_,?_⟩
 ·have:=congrArg natB e
  rw [yaw] at this;exact this
 rw [yaK,yaw];exact q.reduced
theorem yiu (n:Bool) (s:ByteArray) (m:Bool) (t:ByteArray) (hs:s.size≤100000000) (ht:t.size≤100000000) (w:World) :
  Calls prog 170 #[.agg #[.bool n,.string s,.bool m,.string t]] w fun e w'=>e = .returned (.bool (chkQ n s m t))∧Keep [] w w':=by
 have H1:=jX (yiE n s (by omega));have H2:=jX (yiE m t (by omega));have HL:Hid (∀ n s w',Hid (s.size≤100000000)→Calls prog 167 #[.agg #[.bool n,.string s]] w' (Digits w' (natB s))):=fun n s w' h=>yeG n s (by have:=h.out;omega) w';have HD1:=jX (fun w'=>HL.out n s w' hs);have HD2:=jX (fun w'=>HL.out m t w' ht)
 have hl1:Ln (natB s)≤100000000:=by
  have:=ybL s;exact Nat.le_trans (Ln_le.2 this) hs
 have hl2:Ln (natB t)≤100000000:=by
  have:=ybL t;exact Nat.le_trans (Ln_le.2 this) ht
 have HLL:=jX (And.intro hl1 hl2);clear HL hs ht hl1 hl2;have HR:Hid (chkQ n s m t=(isI n s&&isI m t && !m&&(decide (t.size=0) || (decide (t≠⟨#[1]⟩)&&decide (Nat.gcd (natB s) (natB t)=1))))):=rfl;generalize chkQ n s m t=res at *;generalize isI n s=b1 at *;generalize isI m t=b2 at *;generalize natB s=A at *;generalize natB t=B at *;cases b1 with
 | false =>
  have hr:res=false:=by rw [HR.out];rfl
  subst hr;clear HR HD1 HD2 HLL H2;go_enter func170,ntmps170
  go_wp2_with fail;obtain⟨W,ga,hW,ega,Bga,hga,hgW,HkW⟩:=al1h w (.cells #[.bool n,.string s,.bool m,.string t] 34);rw [← hW];try rw [ega]
  clear hW ega;obtain⟨pga,fga,lga⟩:=jQ Bga;go_wp2_with fail;refine (H1.out _).mono ?_;rintro e w1 ⟨rfl,hk1⟩;dsimp only;clear pga fga lga H1;replace Bga:=jH hk1 Bga;replace HkW:=jX (HkW.out.tz hk1);clear hk1;obtain⟨pga,fga,lga⟩:=jQ Bga;go_wp2_with fail;go_ret
  exact ⟨rfl,by repeat (first|(with_reducible exact HkW.out)|(refine Keep.sP ?_ _ _ _ (by omega))|(refine Keep.aP ?_ _)|(refine Keep.dP ?_))⟩
 | true =>
  cases b2 with
  | false =>
   have hr:res=false:=by rw [HR.out];rfl
   subst hr;clear HR HD1 HD2 HLL;go_enter func170,ntmps170
   go_wp2_with fail;obtain⟨W,ga,hW,ega,Bga,hga,hgW,HkW⟩:=al1h w (.cells #[.bool n,.string s,.bool m,.string t] 34);rw [← hW];try rw [ega]
   clear hW ega;obtain⟨pga,fga,lga⟩:=jQ Bga;go_wp2_with fail;refine (H1.out _).mono ?_;rintro e w1 ⟨rfl,hk1⟩;dsimp only;clear pga fga lga H1;replace Bga:=jH hk1 Bga;replace HkW:=jX (HkW.out.tz hk1);clear hk1;obtain⟨pga,fga,lga⟩:=jQ Bga;go_wp2_with fail;refine (H2.out _).mono ?_;rintro e w2 ⟨rfl,hk2⟩;dsimp only;clear pga fga lga H2;replace Bga:=jH hk2 Bga;replace HkW:=jX (HkW.out.tz hk2);clear hk2;obtain⟨pga,fga,lga⟩:=jQ Bga;go_wp2_with fail;go_ret
   exact ⟨rfl,by repeat (first|(with_reducible exact HkW.out)|(refine Keep.sP ?_ _ _ _ (by omega))|(refine Keep.aP ?_ _)|(refine Keep.dP ?_))⟩
  | true =>
   cases m with
   | true =>
    have hr:res=false:=by rw [HR.out];rfl
    subst hr;clear HR HD1 HD2 HLL;go_enter func170,ntmps170
    go_wp2_with fail;obtain⟨W,ga,hW,ega,Bga,hga,hgW,HkW⟩:=al1h w (.cells #[.bool n,.string s,.bool true,.string t] 34);rw [← hW];try rw [ega]
    clear hW ega;obtain⟨pga,fga,lga⟩:=jQ Bga;go_wp2_with fail;refine (H1.out _).mono ?_;rintro e w1 ⟨rfl,hk1⟩;dsimp only;clear pga fga lga H1;replace Bga:=jH hk1 Bga;replace HkW:=jX (HkW.out.tz hk1);clear hk1;obtain⟨pga,fga,lga⟩:=jQ Bga;go_wp2_with fail;refine (H2.out _).mono ?_;rintro e w2 ⟨rfl,hk2⟩;dsimp only;clear pga fga lga H2;replace Bga:=jH hk2 Bga;replace HkW:=jX (HkW.out.tz hk2);clear hk2;obtain⟨pga,fga,lga⟩:=jQ Bga;go_wp2_with fail;go_ret
    exact ⟨rfl,by repeat (first|(with_reducible exact HkW.out)|(refine Keep.sP ?_ _ _ _ (by omega))|(refine Keep.aP ?_ _)|(refine Keep.dP ?_))⟩
   | false =>
    by_cases h0:t.size=0
    ·have hr:res=true:=by rw [HR.out];simp [h0]
     subst hr;have e:=ycN h0;subst e;clear HR HD1 HD2 HLL h0;go_enter func170,ntmps170
     go_wp2_with fail;obtain⟨W,ga,hW,ega,Bga,hga,hgW,HkW⟩:=al1h w (.cells #[.bool n,.string s,.bool false,.string ⟨#[]⟩] 34);rw [← hW];try rw [ega]
     clear hW ega;obtain⟨pga,fga,lga⟩:=jQ Bga;go_wp2_with fail;refine (H1.out _).mono ?_;rintro e w1 ⟨rfl,hk1⟩;dsimp only;clear pga fga lga H1;replace Bga:=jH hk1 Bga;replace HkW:=jX (HkW.out.tz hk1);clear hk1;obtain⟨pga,fga,lga⟩:=jQ Bga;go_wp2_with fail;refine (H2.out _).mono ?_;rintro e w2 ⟨rfl,hk2⟩;dsimp only;clear pga fga lga H2;replace Bga:=jH hk2 Bga;replace HkW:=jX (HkW.out.tz hk2);clear hk2;obtain⟨pga,fga,lga⟩:=jQ Bga;go_wp2_with fail;go_ret
     exact ⟨rfl,by repeat (first|(with_reducible exact HkW.out)|(refine Keep.sP ?_ _ _ _ (by omega))|(refine Keep.aP ?_ _)|(refine Keep.dP ?_))⟩
    have hte:t.toList.isEmpty=false:=by
     rw [List.isEmpty_eq_false_iff];intro h;have e:=ycP (s:=t) (t:=⟨#[]⟩) (by rw [h,Go.Lib.toList_data]);exact h0 (by rw [e];rfl)
    have hr2:res=(decide (t≠⟨#[1]⟩)&&(Nat.gcd A B == 1)):=by
     have:=HR.out;rw [this];simp [h0];rfl
    have HR2:=jX hr2;clear hr2;clear HR h0;go_enter func170,ntmps170
    go_wp2_with fail;obtain⟨W,ga,hW,ega,Bga,hga,hgW,HkW⟩:=al1h w (.cells #[.bool n,.string s,.bool false,.string t] 34);rw [← hW];try rw [ega]
    clear hW ega;obtain⟨pga,fga,lga⟩:=jQ Bga;go_wp2_with fail;refine (H1.out _).mono ?_;rintro e w1 ⟨rfl,hk1⟩;dsimp only;clear pga fga lga H1;replace Bga:=jH hk1 Bga;replace HkW:=jX (HkW.out.tz hk1);clear hk1;obtain⟨pga,fga,lga⟩:=jQ Bga;go_wp2_with fail;refine (H2.out _).mono ?_;rintro e w2 ⟨rfl,hk2⟩;dsimp only;clear pga fga lga H2;replace Bga:=jH hk2 Bga;replace HkW:=jX (HkW.out.tz hk2);clear hk2;obtain⟨pga,fga,lga⟩:=jQ Bga;go_wp2_with fail;refine yaj (S:=fun u=>Keep [] w2 u) 7 (by kernel_rfl) (by kernel_rfl) (fun _ _ d _ _ h=>by cases d<;>exact h) ?_;have hS0:=Keep.drew [] w2;have HM:=jX (MSt.start hS0);generalize World.drew w2=u at *;have Bea:=Bga;refine' jG (v:=_) 0 hS0 (fun w hw=>?hf0) (fun K hK=>?kf0)
    case hf0=>(have pea:=yaa (hw.heap Bea.out (by simp));go_simp;try rfl)
    go_simp;refine hK _ ?_;clear hK K;refine' jG (v:=_) 1 hS0 (fun w hw=>?hf1) (fun K hK=>?kf1)
    case hf1=>(have pea:=yaa (hw.heap Bea.out (by simp));go_simp;try rfl)
    go_simp;refine hK _ ?_;clear hK K;refine' jG (v:=_) 3 hS0 (fun w hw=>?hf3) (fun K hK=>?kf3)
    case hf3=>(have pea:=yaa (hw.heap Bea.out (by simp));go_simp;try rfl)
    go_simp;refine hK _ ?_;clear hK K;refine' jG (v:=_) 4 hS0 (fun w hw=>?hf4) (fun K hK=>?kf4)
    case hf4=>(have pea:=yaa (hw.heap Bea.out (by simp));go_simp;try rfl)
    go_simp;refine hK _ ?_;clear hK K;refine jP 2 (fun K hK=>?_);refine yae 167 #[.agg #[.bool n,.string s]] (by go_simp) ?_;refine (HD1.out _).mono ?_;rintro e u1 ⟨r,rfl,hd1,hk1⟩;obtain⟨rb,rc,rfl,_⟩:=hd1.form;have hS0:=hS0.tz hk1;have HM:=jX (HM.out.call1 hk1 hd1);refine ⟨_,rfl,?_⟩;refine hK _ _ hS0 ?_;clear hK K hk1 hd1;refine jP 5 (fun K hK=>?_);refine yae 167 #[.agg #[.bool false,.string t]] (by go_simp) ?_;refine (HD2.out _).mono ?_;rintro e u1 ⟨r2,rfl,hd1,hk1⟩;obtain⟨tb,tc,rfl,_⟩:=hd1.form;have hS0:=hS0.tz hk1;have HM:=jX (HM.out.call1 hk1 hd1);refine ⟨_,rfl,?_⟩;refine hK _ _ hS0 ?_;clear hK K hk1 hd1;refine jP 6 (fun K hK=>?_);refine yae 172 #[.slice rb (Ln A) rc,.slice tb (Ln B) tc] (by go_simp) ?_;refine (yiH _ _ _ _ _ (HM.out.dr (.slice rb (Ln A) rc) A (by simp)) (HM.out.dr (.slice tb (Ln B) tc) B (by simp)) HLL.out.1 HLL.out.2).mono ?_;rintro e u1 ⟨gv,rfl,hd1,hk1⟩;obtain⟨gb,gc,rfl,_⟩:=hd1.form;have hS0:=hS0.tz hk1;have HM:=jX (HM.out.call1 hk1 hd1);refine ⟨_,rfl,?_⟩;refine hK _ _ hS0 ?_;clear hK K hk1 hd1;refine ⟨by kernel_rfl,?_⟩;simp only [List.drop_succ_cons,List.drop_zero];have HkW:=jX (HkW.out.tz HM.out.1);have Bga:=jX (HM.out.1.heap Bga.out (by simp));have hdr:=HM.out.dr (.slice gb (Ln (Nat.gcd A B)) gc) (Nat.gcd A B) (by simp);generalize Nat.gcd A B=G at *;clear HM hS0 HD1 HD2 HLL Bea pga fga lga;obtain⟨pga,fga,lga⟩:=jQ Bga;by_cases ht1:t=⟨#[1]⟩
    ·have hr:res=false:=by rw [HR2.out,ht1];rfl
     subst hr ht1;clear HR2;go_wp2_with fail;go_ret
     exact ⟨rfl,by repeat (first|(with_reducible exact HkW.out)|(refine Keep.sP ?_ _ _ _ (by omega))|(refine Keep.aP ?_ _)|(refine Keep.dP ?_))⟩
    have hr:res=(G == 1):=by rw [HR2.out];simp [ht1]
    have hns:=ydZ ht1;rw [Go.Lib.toList_data ⟨#[1]⟩] at hns;clear HR2 ht1;by_cases hl:Ln G=1
    ·have hG : 0 < G := by
      rcases Nat.eq_zero_or_pos G with h|h
      ·subst h;rw [Ln_zero] at hl;omega
      exact h
     have hG2:G<256:=by have:=Ln_lt G;rw [hl] at this;omega
     have e:digs 256 G=[G]:=by rw [ybl (by decide) hG,Nat.div_eq_of_lt hG2,yaU,Nat.mod_eq_of_lt hG2]
     have h1:=hdr.1;rw [e] at h1;obtain⟨b,o,c,hsl,hc⟩:=h1.elem (by simp [ints]);have hc0:=hc 0 _ rfl;injection hsl with e1 e2 e3;subst e1;rw [hl] at *
     have hgd:(G == 1)=((G:Int) == 1):=by
      by_cases h:G=1
      ·subst h;rfl
      have h2:((G:Int) == 1)=false:=by rw [beq_eq_false_iff_ne];omega
      rw [h2];simpa using h
     rw [hgd] at hr;subst hr;have hlb:=World.block_lt_of_cell? _ _ hc0;rw [Nat.add_zero] at hc0;clear hgd e hl hc h1 hdr e2;go_wp2_with fail;go_ret
     exact ⟨rfl,by repeat (first|(with_reducible exact HkW.out)|(refine Keep.sP ?_ _ _ _ (by omega))|(refine Keep.aP ?_ _)|(refine Keep.dP ?_))⟩
    have hl2:((Ln G:Int) == 1)=false:=by rw [beq_eq_false_iff_ne];omega
    have hgd:(G == 1)=false:=by
     have:G≠1:=fun h=>hl (by rw [h];exact Ln_small (by decide) (by decide))
     simpa using this
    rw [hgd] at hr;subst hr;clear hgd hl hdr;go_wp2_with fail;go_ret
    exact ⟨rfl,by repeat (first|(with_reducible exact HkW.out)|(refine Keep.sP ?_ _ _ _ (by omega))|(refine Keep.aP ?_ _)|(refine Keep.dP ?_))⟩
end Go.Proofs.YtejegogbhpmgfaaGreatDoor
