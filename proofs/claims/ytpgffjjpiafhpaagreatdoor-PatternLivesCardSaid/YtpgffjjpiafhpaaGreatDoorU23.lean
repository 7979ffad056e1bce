/- Parts of a proof: Ff Ku Kv Kx. -/
import Derived.Test.YtpgffjjpiafhpaaGreatDoorU21
import Derived.Test.YtpgffjjpiafhpaaGreatDoorU22
import Derived.Test.YtpgffjjpiafhpaaGreatDoorU10
import Derived.Test.YtpgffjjpiafhpaaGreatDoorU13
import Derived.Test.YtpgffjjpiafhpaaGreatDoorU08
import Derived.Test.YtpgffjjpiafhpaaGreatDoorU18
set_option linter.unusedVariables false
set_option linter.unusedSimpArgs false
set_option maxRecDepth 100000
set_option maxHeartbeats 8000000
namespace Go.Proofs.YtpgffjjpiafhpaaGreatDoor
open Go.RowKit Tryz
section
open Go.RowKit Go.Lib
theorem QMake_c (a b:Int) (ha:Fit 100000000000 a) (hb:Fit 100000000000 b) (h0:0<b) (w:World) :
  Calls Tryz.prog 110 #[zv a,zv b] w fun e w'=>e = .returned (.tuple #[rv (Rat.divInt a b),.int .i64 0])∧Keep [] w w':=by
 have H1:=jX (Sign_c b);rw [show zsgn b=1 by unfold zsgn;rw [if_neg (by omega),if_neg (by omega)]] at H1
 have H2:=jX (ycs a b ha hb h0);unfold rv zv at *;generalize sgB (Rat.divInt a b).num=nr at *;generalize mgS (Rat.divInt a b).num=sr at *;generalize dnS (Rat.divInt a b).den=dr at *;generalize sgB (a)=na at *;generalize mgS (a)=sa at *;generalize sgB (b)=nb at *;generalize mgS (b)=sb at *;clear ha hb h0;go_enter Tryz.func110,Tryz.ntmps110
 go_upto_region 1 with (fail)
 obtain⟨W,ga,gb,gc,hW,ega,egb,egc,Bga,Bgb,Bgc,hga,hgb,hgc,hgW,HkW⟩:=al3h w (.cells #[.bool na,.string sa] 26) (.cells #[.bool nb,.string sb] 26) (.cells #[.bool false,.string ⟨#[]⟩,.bool false,.string ⟨#[]⟩] 28);rw [← hW];try rw [egc]
 try rw [egb]
 try rw [ega]
 clear hW ega egb egc;obtain⟨pgb,fgb,lgb⟩:=jQ Bgb;go_wp2_with fail;refine (H1.out _).mono ?_;rintro e w1 ⟨rfl,hk1⟩;dsimp only;clear pgb fgb lgb;replace Bga:=jH hk1 Bga;replace Bgb:=jH hk1 Bgb;replace Bgc:=jH hk1 Bgc;replace HkW:=jX (HkW.out.tz hk1);clear hk1;go_upto_region 3 with (fail)
 obtain⟨pga,fga,lga⟩:=jQ Bga;obtain⟨pgb,fgb,lgb⟩:=jQ Bgb;go_wp2_with fail;refine (H2.out _).mono ?_;rintro e w2 ⟨rfl,hk2⟩;dsimp only;clear pga fga lga pgb fgb lgb;replace Bga:=jH hk2 Bga;replace Bgb:=jH hk2 Bgb;replace Bgc:=jH hk2 Bgc;replace HkW:=jX (HkW.out.tz hk2);clear hk2;obtain⟨pgc,fgc,lgc⟩:=jQ Bgc;go_wp2_with fail;refine bodyPost_ret (v:=.tuple #[.agg #[.bool nr,.string sr,.bool false,.string dr],.int .i64 0]) ?_ rfl ⟨rfl,by repeat (first|(with_reducible exact HkW.out)|(refine Keep.sP ?_ _ _ _ (by omega))|(refine Keep.aP ?_ _)|(refine Keep.dP ?_))⟩;rw [results_cell_tmp rfl];go_simp
theorem QFromInts_c (a b:Int) (h0:0<b) (a1 : -9223372036854775808≤a) (a2:a≤9223372036854775807) (b2:b≤9223372036854775807) (w:World) :
  Calls Tryz.prog 52 #[.int .i64 a,.int .i64 b] w fun e w'=>e = .returned (.tuple #[rv (Rat.divInt a b),.int .i64 0])∧Keep [] w w':=by
 have HA:=jX (FromInt_c a a1 a2);have HB:=jX (FromInt_c b (by omega) b2);have fa:Fit 8 a:=Fit_iff.2 (by omega);have fb:Fit 8 b:=Fit_iff.2 (by omega);have HC:=jX (QMake_c a b (fa.mono (by decide)) (fb.mono (by decide)) h0);clear fa fb h0 a1 a2 b2;unfold rv at HC;unfold rv;unfold zv at *;generalize sgB (Rat.divInt a b).num=nr at *;generalize mgS (Rat.divInt a b).num=sr at *;generalize dnS (Rat.divInt a b).den=dr at *;generalize sgB (a)=na at *;generalize mgS (a)=sa at *;generalize sgB (b)=nb at *;generalize mgS (b)=sb at *;go_enter Tryz.func52,Tryz.ntmps52
 go_wp2_with fail;obtain⟨W,ga,hW,ega,Bga,hga,hgW,HkW⟩:=al1h w (.cells #[.bool false,.string ⟨#[]⟩,.bool false,.string ⟨#[]⟩] 28);rw [← hW];try rw [ega]
 clear hW ega;go_wp2_with fail;refine (HA.out _).mono ?_;rintro e w1 ⟨rfl,hk1⟩;dsimp only;replace Bga:=jH hk1 Bga;replace HkW:=jX (HkW.out.tz hk1);clear hk1;go_wp2_with fail;refine (HB.out _).mono ?_;rintro e w2 ⟨rfl,hk2⟩;dsimp only;replace Bga:=jH hk2 Bga;replace HkW:=jX (HkW.out.tz hk2);clear hk2;go_wp2_with fail;refine (HC.out _).mono ?_;rintro e w3 ⟨rfl,hk3⟩;dsimp only;replace Bga:=jH hk3 Bga;replace HkW:=jX (HkW.out.tz hk3);clear hk3;obtain⟨pga,fga,lga⟩:=jQ Bga;go_wp2_with fail;refine bodyPost_ret (v:=.tuple #[.agg #[.bool nr,.string sr,.bool false,.string dr],.int .i64 0]) ?_ rfl ⟨rfl,by repeat (first|(with_reducible exact HkW.out)|(refine Keep.sP ?_ _ _ _ (by omega))|(refine Keep.aP ?_ _)|(refine Keep.dP ?_))⟩;rw [results_cell_tmp rfl];go_simp
theorem yhe (n:Int) (h:n.natAbs≤1000) (w:World):Calls Tryz.prog 52 #[.int .i64 n,.int .i64 2] w fun e w'=>e = .returned (.tuple #[rv (half n),.int .i64 0])∧Keep [] w w' :=
 QFromInts_c n 2 (by decide) (by omega) (by omega) (by decide) w
theorem FromRat_c (q:Rat) (h:FitQ 100000 q) (w:World):Calls Tryz.prog 84 #[rv q] w fun e w'=>e = .returned (kv (kQ q h))∧Keep [] w w':=by
 have HB:=jX (yie q h);have hC:=kQ_C q h;have e1:kv (kQ q h) = .agg (kC (kQ q h)):=rfl;rw [e1];rw [hC] at *;unfold rv at *;generalize sgB (q).num=nr at *;generalize mgS (q).num=sr at *;generalize dnS (q).den=dr at *;clear hC e1;go_enter Tryz.func84,Tryz.ntmps84
 go_upto_region 1 with (fail)
 obtain⟨W,ga,gb,hW,ega,egb,Bga,Bgb,hga,hgb,hgW,HkW⟩:=al2h w (.cells #[.bool nr,.string sr,.bool false,.string dr] 28) (.cells #[.bool false,.string ⟨#[]⟩,.bool false,.string ⟨#[]⟩,.bool false,.string ⟨#[]⟩,.bool false,.string ⟨#[]⟩,.bool false] 30);rw [← hW];try rw [egb]
 try rw [ega]
 clear hW ega egb;obtain⟨pga,fga,lga⟩:=jQ Bga;obtain⟨pgb,fgb,lgb⟩:=jQ Bgb;go_wp2_with fail;refine bodyPost_ret (v:=.agg #[.bool nr,.string sr,.bool false,.string dr,.bool false,.string ⟨#[]⟩,.bool false,.string ⟨#[]⟩,.bool false]) ?_ rfl ⟨rfl,by repeat (first|(with_reducible exact HkW.out)|(refine Keep.sP ?_ _ _ _ (by omega))|(refine Keep.aP ?_ _)|(refine Keep.dP ?_))⟩;rw [yac rfl];go_simp
end
section
open Go.RowKit Go.Lib
def errF (ok:Bool):Value:=.int .i64 (if ok then 0 else 5)
theorem ichk_c (n:Bool) (s:ByteArray) (w:World) :
  Calls Tryz.prog 150 #[.agg #[.bool n,.string s]] w fun e w'=>e = .returned (errF (isI n s))∧Keep [] w w':=by
 by_cases h0:s.size=0
 ·have hi:isI n s = !n:=dif_neg (by omega)
  have hs:s=⟨#[]⟩:=by
   apply ByteArray.ext;exact Array.eq_empty_of_size_eq_zero h0
  rw [hi];subst hs;clear hi h0;cases n
  all_goals
   go_enter Tryz.func150,Tryz.ntmps150
   go_upto_region 1 with (fail)
   obtain⟨W,ga,hW,ega,Bga,hga,hgW,HkW⟩:=al1h w (.cells #[.bool _,.string ⟨#[]⟩] 26);rw [← hW];try rw [ega]
   clear hW ega;obtain⟨pga,fga,lga⟩:=jQ Bga;go_wp2_with fail;go_ret
   exact ⟨rfl,by repeat (first|(with_reducible exact HkW.out)|(refine Keep.sP ?_ _ _ _ (by omega))|(refine Keep.aP ?_ _)|(refine Keep.dP ?_))⟩
 have hlt:0<s.size:=by omega
 have hi:isI n s=((((s[0]'hlt).toNat:Nat):Int) != 0):=dif_pos hlt
 have hemp:s.toList.isEmpty=false:=by
  rw [List.isEmpty_eq_false_iff];intro h;have h2:s=⟨#[]⟩:=yfn (by rw [h,Go.Lib.toList_data]);rw [h2] at hlt;exact absurd hlt (by decide)
 have hix:=fun w=>ygu w s hlt;rw [hi];clear hi h0;generalize (s[0]'hlt).toNat=d at *;have hgr:(((d:Nat):Int) != 0) = !(((d:Nat):Int) == 0):=rfl;rw [hgr];cases hd:((((d:Nat):Int)) == 0)
 all_goals
  clear hgr hlt;go_enter Tryz.func150,Tryz.ntmps150
  go_upto_region 1 with (fail)
  obtain⟨W,ga,hW,ega,Bga,hga,hgW,HkW⟩:=al1h w (.cells #[.bool n,.string s] 26);rw [← hW];try rw [ega]
  clear hW ega;obtain⟨pga,fga,lga⟩:=jQ Bga;go_wp2_with fail;go_ret
  exact ⟨rfl,by repeat (first|(with_reducible exact HkW.out)|(refine Keep.sP ?_ _ _ _ (by omega))|(refine Keep.aP ?_ _)|(refine Keep.dP ?_))⟩
end
section
open Go.RowKit Go.Lib
theorem neqZ_run (a b:Int) (w:World):(binOp .neq 26 (.agg #[.bool (sgB a),.string (mgS a)]) (.agg #[.bool (sgB b),.string (mgS b)])).run Tryz.prog w = .ok (.bool (!decide (a=b))) w:=by
 rw [run_neq_struct,show (10000:Nat)=9998+2 from rfl,yfB,yhD];rfl
theorem qchk_c (n:Bool) (s:ByteArray) (v:Bool) (t:ByteArray) (hs:s.size≤100000000) (ht:t.size≤100000000) (w:World) :
  Calls Tryz.prog 103 #[.agg #[.bool n,.string s,.bool v,.string t]] w fun e w'=>e = .returned (errF (chkQ n s v t))∧Keep [] w w':=by
 have HI1:=jX (ichk_c n s);have HI2:=jX (ichk_c v t);cases h1:isI n s with
 | false =>
  rw [h1] at HI1;have hc:chkQ n s v t=false:=by unfold chkQ;rw [h1];rfl
  rw [hc];rw [show errF false = .int .i64 5 from rfl] at *
  clear hc h1 HI2;go_enter Tryz.func103,Tryz.ntmps103
  go_upto_region 1 with (fail)
  obtain⟨W,ga,hW,ega,Bga,hga,hgW,HkW⟩:=al1h w (.cells #[.bool n,.string s,.bool v,.string t] 28);rw [← hW];try rw [ega]
  clear hW ega;obtain⟨pga,fga,lga⟩:=jQ Bga;go_wp2_with fail;refine (HI1.out _).mono ?_;rintro e w1 ⟨rfl,hk1⟩;dsimp only;clear pga fga lga;replace Bga:=jH hk1 Bga;replace HkW:=jX (HkW.out.tz hk1);clear hk1;obtain⟨pga,fga,lga⟩:=jQ Bga;go_wp2_with fail;go_ret
  exact ⟨rfl,by repeat (first|(with_reducible exact HkW.out)|(refine Keep.sP ?_ _ _ _ (by omega))|(refine Keep.aP ?_ _)|(refine Keep.dP ?_))⟩
 | true =>
  rw [h1] at HI1;cases h2:isI v t with
  | false =>
   rw [h2] at HI2;have hc:chkQ n s v t=false:=by unfold chkQ;rw [h2];simp
   rw [hc];rw [show errF true = .int .i64 0 from rfl] at HI1
   rw [show errF false = .int .i64 5 from rfl] at *
   clear hc h1 h2;go_enter Tryz.func103,Tryz.ntmps103
   go_upto_region 1 with (fail)
   obtain⟨W,ga,hW,ega,Bga,hga,hgW,HkW⟩:=al1h w (.cells #[.bool n,.string s,.bool v,.string t] 28);rw [← hW];try rw [ega]
   clear hW ega;obtain⟨pga,fga,lga⟩:=jQ Bga;go_wp2_with fail;refine (HI1.out _).mono ?_;rintro e w1 ⟨rfl,hk1⟩;dsimp only;clear pga fga lga;replace Bga:=jH hk1 Bga;replace HkW:=jX (HkW.out.tz hk1);clear hk1;obtain⟨pga,fga,lga⟩:=jQ Bga;go_wp2_with fail;refine (HI2.out _).mono ?_;rintro e w2 ⟨rfl,hk2⟩;dsimp only;clear pga fga lga;replace Bga:=jH hk2 Bga;replace HkW:=jX (HkW.out.tz hk2);clear hk2;obtain⟨pga,fga,lga⟩:=jQ Bga;go_wp2_with fail;go_ret
   exact ⟨rfl,by repeat (first|(with_reducible exact HkW.out)|(refine Keep.sP ?_ _ _ _ (by omega))|(refine Keep.aP ?_ _)|(refine Keep.dP ?_))⟩
  | true =>
   rw [h2] at HI2;rw [show errF true = .int .i64 0 from rfl] at HI1 HI2
   obtain⟨z,hz1,hz2⟩:=yeV.1 h1;obtain⟨d,hd1,hd2⟩:=yeV.1 h2;have hb1:natB s=z.natAbs:=by rw [← hz2];exact yat _
   have hb2:natB t=d.natAbs:=by rw [← hd2];exact yat _
   have hgd:=eqZ_g
   have hz0:(Value.agg #[.bool false,.string ⟨#[]⟩]) = .agg #[.bool (sgB 0),.string (mgS 0)]:=by
    rw [yba.2 rfl];rfl
   have heq:∀ w,(binOp .eql 26 (.agg #[.bool v,.string t]) (.agg #[.bool false,.string ⟨#[]⟩])).run Tryz.prog w = .ok (.bool (decide (d=0))) w:=fun w=>by
    rw [hz0,← hd1,← hd2];exact yhW d 0 w
   have hchk:chkQ n s v t=(!v&&(decide (t.size=0) || (decide (t≠⟨#[1]⟩)&&decide (Nat.gcd z.natAbs d.natAbs=1)))):=by
    unfold chkQ;rw [h1,h2,hb1,hb2];rfl
   by_cases hd0:d=0
   ·have hc : chkQ n s v t = true := by
     rw [hchk];subst hd0;have e1:v=false:=by rw [← hd1];rfl
     have e2:t=⟨#[]⟩:=by rw [← hd2];exact yba.2 rfl
     rw [e1,e2];rfl
    rw [hc];rw [show errF true = .int .i64 0 from rfl]
    rw [decide_eq_true hd0] at heq;clear hc hchk hd0 hz0 hb1 hb2 hz1 hz2 hd1 hd2 h1 h2;go_enter Tryz.func103,Tryz.ntmps103
    go_upto_region 1 with (fail)
    obtain⟨W,ga,hW,ega,Bga,hga,hgW,HkW⟩:=al1h w (.cells #[.bool n,.string s,.bool v,.string t] 28);rw [← hW];try rw [ega]
    clear hW ega;obtain⟨pga,fga,lga⟩:=jQ Bga;go_wp2_with fail;refine (HI1.out _).mono ?_;rintro e w1 ⟨rfl,hk1⟩;dsimp only;clear pga fga lga;replace Bga:=jH hk1 Bga;replace HkW:=jX (HkW.out.tz hk1);clear hk1;obtain⟨pga,fga,lga⟩:=jQ Bga;go_wp2_with fail;refine (HI2.out _).mono ?_;rintro e w2 ⟨rfl,hk2⟩;dsimp only;clear pga fga lga;replace Bga:=jH hk2 Bga;replace HkW:=jX (HkW.out.tz hk2);clear hk2;obtain⟨pga,fga,lga⟩:=jQ Bga;go_wp2_with fail;go_ret
    exact ⟨rfl,by repeat (first|(with_reducible exact HkW.out)|(refine Keep.sP ?_ _ _ _ (by omega))|(refine Keep.aP ?_ _)|(refine Keep.dP ?_))⟩
   rw [decide_eq_false hd0] at heq;have HO:=jX one_c;have HC:=jX (Compare_c d 1);have HG:=jX (Gcd_c z d (by unfold Fit;rw [hz2];omega) (by unfold Fit;rw [hd2];omega));have HN:=jX (neqZ_run (Int.gcd z d:Nat) 1);have hsz:t.size≠0:=fun h=>hd0 (yba.1 (hd2.trans (ydK h)))
   have hle:(Lib.compareInt d 1≤0)↔d≤1:=by
    unfold Lib.compareInt;split
    ·constructor<;>intro h<;>omega
    split
    ·constructor<;>intro h<;>omega
    constructor<;>intro h<;>omega
   unfold zv at HO HC HG;rw [hd1,hd2] at HC HG;rw [hz1,hz2] at HG;generalize Lib.compareInt d 1=c at *;obtain⟨x1,hx1⟩:∃ x,sgB 1=x:=⟨_,rfl⟩;obtain⟨y1,hy1⟩:∃ x,mgS 1=x:=⟨_,rfl⟩;rw [hx1,hy1] at HO HC HN;by_cases hd1':d≤1
   ·have hc : chkQ n s v t = false := by
     rw [hchk];rcases Int.lt_or_lt_of_ne hd0 with h|h
     ·have e1:v=true:=by rw [← hd1];unfold sgB;exact decide_eq_true h
      rw [e1];rfl
     have e:d=1:=by omega
     subst e;have e2:t=⟨#[1]⟩:=by rw [← hd2];exact magS_one
     rw [e2];cases v<;>rfl
    have hcl:c≤0:=hle.2 hd1';have hcd:decide (c≤0)=true:=decide_eq_true hcl;rw [hc];rw [show errF false = .int .i64 5 from rfl]
    clear hc hchk hd0 hz0 hb1 hb2 hz1 hz2 hd1 hd2 h1 h2 hx1 hy1 HG HN hle hsz hd1';go_enter Tryz.func103,Tryz.ntmps103
    go_upto_region 1 with (fail)
    obtain⟨W,ga,hW,ega,Bga,hga,hgW,HkW⟩:=al1h w (.cells #[.bool n,.string s,.bool v,.string t] 28);rw [← hW];try rw [ega]
    clear hW ega;obtain⟨pga,fga,lga⟩:=jQ Bga;go_wp2_with fail;refine (HI1.out _).mono ?_;rintro e w1 ⟨rfl,hk1⟩;dsimp only;clear pga fga lga;replace Bga:=jH hk1 Bga;replace HkW:=jX (HkW.out.tz hk1);clear hk1;obtain⟨pga,fga,lga⟩:=jQ Bga;go_wp2_with fail;refine (HI2.out _).mono ?_;rintro e w2 ⟨rfl,hk2⟩;dsimp only;clear pga fga lga;replace Bga:=jH hk2 Bga;replace HkW:=jX (HkW.out.tz hk2);clear hk2;obtain⟨pga,fga,lga⟩:=jQ Bga;go_wp2_with fail;have kga:=yag Bga.out;have Q1:Hid (∀ m:KW w2,Calls Tryz.prog 152 #[] (Wk w2 m) fun e w'=>e = .returned (.agg #[.bool x1,.string y1])∧∃ m,w'=Wk w2 m):=fun m=>qk m (HO.out _);have Q2:Hid (∀ m:KW w2,Calls Tryz.prog 151 #[.agg #[.bool v,.string t],.agg #[.bool x1,.string y1]] (Wk w2 m) fun e w'=>e = .returned (.int .i64 c)∧∃ m,w'=Wk w2 m):=fun m=>qk m (HC.out _);clear hgd heq HI1 HI2;refine yad (by kernel_rfl) (by kernel_rfl) ?_
    repeat (first
     | go_big_quiet_skip
     | (go_big_quiet_want;go_big_quiet_op;first|go_big_quiet_on|go_big_quiet_call (first
      | (go_at_call 152;with_reducible exact (Q1).out _)|(go_at_call 151;with_reducible exact (Q2).out _))))
    refine wpQuiet_nil ?_;rintro w3 ⟨⟨_,hk_w3⟩,rfl⟩;have HK3:=jX (HkW.out.tz hk_w3);clear hk_w3;go_wp2_with fail;go_ret
    exact ⟨rfl,HK3.out⟩
   have hd2':1<d:=by omega
   have e1:v=false:=by rw [← hd1];unfold sgB;rw [decide_eq_false_iff_not];omega
   have e2:t≠⟨#[1]⟩:=fun h=>by
    rw [h,← magS_one] at hd2;have:=ydr.1 hd2;omega
   have hg:Int.gcd z d=Nat.gcd z.natAbs d.natAbs:=rfl
   have hc:chkQ n s v t=decide (((Int.gcd z d:Nat):Int)=1):=by
    rw [hchk,e1,decide_eq_false hsz,decide_eq_true e2,hg];simp only [Bool.not_false,Bool.true_and,Bool.false_or];rw [decide_eq_decide];omega
   have hcl:¬ c≤0:=fun h=>hd1' (hle.1 h);have hcd:decide (c≤0)=false:=decide_eq_false hcl;rw [hc];obtain⟨k,hk⟩:∃ k,decide (((Int.gcd z d:Nat):Int)=1)=k:=⟨_,rfl⟩;rw [hk] at HN ⊢;generalize sgB ((Int.gcd z d:Nat):Int)=gx at *;generalize mgS ((Int.gcd z d:Nat):Int)=gy at *;clear hc hchk hd0 hz0 hb1 hb2 hz1 hz2 hd1 hd2 h1 h2 hx1 hy1 hle hsz hd1' hd2' e1 e2 hg hk;have hne:=HN.out;go_enter Tryz.func103,Tryz.ntmps103
   go_upto_region 1 with (fail)
   obtain⟨W,ga,hW,ega,Bga,hga,hgW,HkW⟩:=al1h w (.cells #[.bool n,.string s,.bool v,.string t] 28);rw [← hW];try rw [ega]
   clear hW ega;obtain⟨pga,fga,lga⟩:=jQ Bga;go_wp2_with fail;refine (HI1.out _).mono ?_;rintro e w1 ⟨rfl,hk1⟩;dsimp only;clear pga fga lga;replace Bga:=jH hk1 Bga;replace HkW:=jX (HkW.out.tz hk1);clear hk1;obtain⟨pga,fga,lga⟩:=jQ Bga;go_wp2_with fail;refine (HI2.out _).mono ?_;rintro e w2 ⟨rfl,hk2⟩;dsimp only;clear pga fga lga;replace Bga:=jH hk2 Bga;replace HkW:=jX (HkW.out.tz hk2);clear hk2;obtain⟨pga,fga,lga⟩:=jQ Bga;go_wp2_with fail;have kga:=yag Bga.out;have Q1:Hid (∀ m:KW w2,Calls Tryz.prog 152 #[] (Wk w2 m) fun e w'=>e = .returned (.agg #[.bool x1,.string y1])∧∃ m,w'=Wk w2 m):=fun m=>qk m (HO.out _);have Q2:Hid (∀ m:KW w2,Calls Tryz.prog 151 #[.agg #[.bool v,.string t],.agg #[.bool x1,.string y1]] (Wk w2 m) fun e w'=>e = .returned (.int .i64 c)∧∃ m,w'=Wk w2 m):=fun m=>qk m (HC.out _);have Q3:Hid (∀ m:KW w2,Calls Tryz.prog 153 #[.agg #[.bool n,.string s],.agg #[.bool v,.string t]] (Wk w2 m) fun e w'=>e = .returned (.agg #[.bool gx,.string gy])∧∃ m,w'=Wk w2 m):=fun m=>qk m (HG.out _);clear heq HI1 HI2;cases k
   all_goals
    refine yad (by kernel_rfl) (by kernel_rfl) ?_
    repeat (first
     | go_big_quiet_skip
     | (go_big_quiet_want;go_big_quiet_op;first|go_big_quiet_on|go_big_quiet_call (first
      | (go_at_call 152;with_reducible exact (Q1).out _)|(go_at_call 151;with_reducible exact (Q2).out _)|(go_at_call 153;with_reducible exact (Q3).out _))))
    refine wpQuiet_nil ?_;rintro w3 ⟨⟨_,hk_w3⟩,rfl⟩;have HK3:=jX (HkW.out.tz hk_w3);clear hk_w3;go_wp2_with fail;go_ret
    exact ⟨rfl,HK3.out⟩
end
section
open Classical
theorem rchk_p (x:RawR) (hs:x.sz 1000000) (w:World):Calls prog 75 #[x.v] w fun e w'=>e = .returned (errF (decide x.isK))∧Below w.heap.size w w':=by
 obtain⟨a1,a2,a3,a4,b1,b2,b3,b4,n⟩:=x;obtain⟨hs1,hs2,hs3,hs4⟩:=hs;dsimp only at hs1 hs2 hs3 hs4;unfold RawR.v;dsimp only;have H1:=jX (qchk_c a1 a2 a3 a4 (by omega) (by omega));have H2:=jX (qchk_c b1 b2 b3 b4 (by omega) (by omega))
 have HX:Hid ((RawR.mk a1 a2 a3 a4 b1 b2 b3 b4 n).isK→chkQ a1 a2 a3 a4=true∧chkQ b1 b2 b3 b4=true):=by
  rintro ⟨q,hq,he⟩;unfold RawR.of at he;injection he with h1 h2 h3 h4 h5 h6 h7 h8 h9;exact ⟨ycT.2 ⟨q.p,h1,h2,h3,h4⟩,ycT.2 ⟨q.r,h5,h6,h7,h8⟩⟩
 clear hs1 hs2;cases hca:chkQ a1 a2 a3 a4 with
 | false =>
  rw [hca] at H1;rw [show errF false = .int .i64 5 from rfl] at H1
  have hres:decide (RawR.mk a1 a2 a3 a4 b1 b2 b3 b4 n).isK=false:=decide_eq_false (fun h=>by have:=(HX.out h).1;rw [hca] at this;cases this);rw [hres];clear hres hca HX hs3 hs4 H2;go_enter func75,ntmps75
  go_upto_region 1 with (fail)
  obtain⟨W,ga,hW,ega,Bga,hga,hgW,HkW⟩:=al1h w (.cells #[.bool a1,.string a2,.bool a3,.string a4,.bool b1,.string b2,.bool b3,.string b4,.bool n] 30);rw [← hW];try rw [ega]
  clear hW ega;obtain⟨pga,fga,lga⟩:=jQ Bga;go_wp2_with fail;refine (H1.out _).mono ?_;rintro e w1 ⟨rfl,hk_w1⟩;dsimp only;clear pga fga lga;replace Bga:=jH hk_w1 Bga;replace HkW:=jX (HkW.out.tz hk_w1);clear hk_w1;obtain⟨pga,fga,lga⟩:=jQ Bga;go_wp2_with fail;go_ret
  exact ⟨rfl,Keep.bz (by repeat (first|(with_reducible exact HkW.out)|(refine Keep.sP ?_ _ _ _ (by omega))|(refine Keep.aP ?_ _)|(refine Keep.dP ?_)))⟩
 | true =>
  rw [hca] at H1;rw [show errF true = .int .i64 0 from rfl] at H1
  cases hcb:chkQ b1 b2 b3 b4 with
  | false =>
   rw [hcb] at H2;rw [show errF false = .int .i64 5 from rfl] at H2
   have hres:decide (RawR.mk a1 a2 a3 a4 b1 b2 b3 b4 n).isK=false:=decide_eq_false (fun h=>by have:=(HX.out h).2;rw [hcb] at this;cases this);rw [hres];clear hres hca hcb HX hs3 hs4;go_enter func75,ntmps75
   go_upto_region 1 with (fail)
   obtain⟨W,ga,hW,ega,Bga,hga,hgW,HkW⟩:=al1h w (.cells #[.bool a1,.string a2,.bool a3,.string a4,.bool b1,.string b2,.bool b3,.string b4,.bool n] 30);rw [← hW];try rw [ega]
   clear hW ega;obtain⟨pga,fga,lga⟩:=jQ Bga;go_wp2_with fail;refine (H1.out _).mono ?_;rintro e w1 ⟨rfl,hk_w1⟩;dsimp only;clear pga fga lga;replace Bga:=jH hk_w1 Bga;replace HkW:=jX (HkW.out.tz hk_w1);clear hk_w1;obtain⟨pga,fga,lga⟩:=jQ Bga;go_wp2_with fail;refine (H2.out _).mono ?_;rintro e w2 ⟨rfl,hk_w2⟩;dsimp only;clear pga fga lga;replace Bga:=jH hk_w2 Bga;replace HkW:=jX (HkW.out.tz hk_w2);clear hk_w2;obtain⟨pga,fga,lga⟩:=jQ Bga;go_wp2_with fail;go_ret
   exact ⟨rfl,Keep.bz (by repeat (first|(with_reducible exact HkW.out)|(refine Keep.sP ?_ _ _ _ (by omega))|(refine Keep.aP ?_ _)|(refine Keep.dP ?_)))⟩
  | true =>
   rw [hcb] at H2;rw [show errF true = .int .i64 0 from rfl] at H2
   obtain⟨p,e1,e2,e3,e4⟩:=ycT.1 hca;obtain⟨r,e5,e6,e7,e8⟩:=ycT.1 hcb
   have hfit:FitQ 10000000 r:=by
    refine ⟨?_,?_⟩
    ·have:=hs3;rw [e6] at this;exact Nat.le_trans this (by decide)
    have:=hs4;rw [e8] at this;unfold dnS at this;unfold Fit mgS;rw [Int.natAbs_natCast];split at this
    ·rename_i h1;rw [h1];exact Nat.le_trans ((yaT 1 1).2 (by decide)) (by decide)
    exact Nat.le_trans this (by decide)
   have HR:=jX (proot_p r (hfit.mono (by decide)));have HS:=jX (QSign_c r);clear hs3 hs4 hca hcb hfit HX;subst e1 e2 e3 e4 e5 e6 e7 e8;have HK1:Hid (∀ q:Qn,q.Ok→q.p=p→q.r=r→q.neg=n→(RawR.mk (sgB p.num) (mgS p.num) false (dnS p.den) (sgB r.num) (mgS r.num) false (dnS r.den) n).isK):=fun q hq h1 h2 h3=>⟨q,hq,by unfold RawR.of;rw [h1,h2,h3]⟩
   have HK2:Hid ((RawR.mk (sgB p.num) (mgS p.num) false (dnS p.den) (sgB r.num) (mgS r.num) false (dnS r.den) n).isK→(⟨p,r,n⟩:Qn).Ok):=by
    rintro ⟨q,hq,he⟩;have:=RawR.of_inj (x:=⟨p,r,n⟩) (y:=q) he;rw [this];exact hq
   generalize (RawR.mk (sgB p.num) (mgS p.num) false (dnS p.den) (sgB r.num) (mgS r.num) false (dnS r.den) n).isK=KK at *;unfold rv at HR HS;have hsg:=yaX r;unfold RootP rv at HR;rcases hsg with ⟨hr0,hsg⟩|⟨hr0,hsg⟩|⟨hr0,hsg⟩
   ·have hres:decide KK=false:=decide_eq_false (fun h=>by have:=(HK2.out h).nn;dsimp only at this;grind)
    rw [hres];rw [hsg] at HS;clear hres HK1 HK2 hsg HR hr0;generalize sgB (p).num=a1 at *;generalize mgS (p).num=a2 at *;generalize dnS (p).den=a4 at *;generalize sgB (r).num=b1 at *;generalize mgS (r).num=b2 at *;generalize dnS (r).den=b4 at *;go_enter func75,ntmps75
    go_upto_region 1 with (fail)
    obtain⟨W,ga,hW,ega,Bga,hga,hgW,HkW⟩:=al1h w (.cells #[.bool a1,.string a2,.bool false,.string a4,.bool b1,.string b2,.bool false,.string b4,.bool _] 30);rw [← hW];try rw [ega]
    clear hW ega;obtain⟨pga,fga,lga⟩:=jQ Bga;go_wp2_with fail;refine (H1.out _).mono ?_;rintro e w1 ⟨rfl,hk_w1⟩;dsimp only;clear pga fga lga;replace Bga:=jH hk_w1 Bga;replace HkW:=jX (HkW.out.tz hk_w1);clear hk_w1;obtain⟨pga,fga,lga⟩:=jQ Bga;go_wp2_with fail;refine (H2.out _).mono ?_;rintro e w2 ⟨rfl,hk_w2⟩;dsimp only;clear pga fga lga;replace Bga:=jH hk_w2 Bga;replace HkW:=jX (HkW.out.tz hk_w2);clear hk_w2;obtain⟨pga,fga,lga⟩:=jQ Bga;go_wp2_with fail;refine (HS.out _).mono ?_;rintro e w3 ⟨rfl,hk_w3⟩;dsimp only;clear pga fga lga;replace Bga:=jH hk_w3 Bga;replace HkW:=jX (HkW.out.tz hk_w3);clear hk_w3;obtain⟨pga,fga,lga⟩:=jQ Bga;go_wp2_with fail;go_ret
    exact ⟨rfl,Keep.bz (by repeat (first|(with_reducible exact HkW.out)|(refine Keep.sP ?_ _ _ _ (by omega))|(refine Keep.aP ?_ _)|(refine Keep.dP ?_)))⟩
   ·have hres : decide KK = !n := by
     cases n with
     | true=>exact decide_eq_false (fun h=>by have:=(HK2.out h).zero hr0;cases this)
     | false=>exact decide_eq_true (HK1.out ⟨p,r,false⟩ ⟨by show (0:Rat)≤r;rw [hr0];grind,fun _=>rfl,fun h=>absurd hr0 h⟩ rfl rfl rfl)
    rw [hres];rw [hsg] at HS;clear hres HK1 HK2 hsg HR hr0;generalize sgB (p).num=a1 at *;generalize mgS (p).num=a2 at *;generalize dnS (p).den=a4 at *;generalize sgB (r).num=b1 at *;generalize mgS (r).num=b2 at *;generalize dnS (r).den=b4 at *;cases n
    all_goals
     go_enter func75,ntmps75
     go_upto_region 1 with (fail)
     obtain⟨W,ga,hW,ega,Bga,hga,hgW,HkW⟩:=al1h w (.cells #[.bool a1,.string a2,.bool false,.string a4,.bool b1,.string b2,.bool false,.string b4,.bool _] 30);rw [← hW];try rw [ega]
     clear hW ega;obtain⟨pga,fga,lga⟩:=jQ Bga;go_wp2_with fail;refine (H1.out _).mono ?_;rintro e w1 ⟨rfl,hk_w1⟩;dsimp only;clear pga fga lga;replace Bga:=jH hk_w1 Bga;replace HkW:=jX (HkW.out.tz hk_w1);clear hk_w1;obtain⟨pga,fga,lga⟩:=jQ Bga;go_wp2_with fail;refine (H2.out _).mono ?_;rintro e w2 ⟨rfl,hk_w2⟩;dsimp only;clear pga fga lga;replace Bga:=jH hk_w2 Bga;replace HkW:=jX (HkW.out.tz hk_w2);clear hk_w2;obtain⟨pga,fga,lga⟩:=jQ Bga;go_wp2_with fail;refine (HS.out _).mono ?_;rintro e w3 ⟨rfl,hk_w3⟩;dsimp only;clear pga fga lga;replace Bga:=jH hk_w3 Bga;replace HkW:=jX (HkW.out.tz hk_w3);clear hk_w3;obtain⟨pga,fga,lga⟩:=jQ Bga;go_wp2_with fail;go_ret
     exact ⟨rfl,Keep.bz (by repeat (first|(with_reducible exact HkW.out)|(refine Keep.sP ?_ _ _ _ (by omega))|(refine Keep.aP ?_ _)|(refine Keep.dP ?_)))⟩
   have HRes:Hid (∀ q ok,QRoot r q ok→decide KK = !ok):=by
    intro q ok hq;cases ok with
    | true=>exact decide_eq_false (fun h=>(HK2.out h).sq (by dsimp only;grind) q (hq.1 rfl).2)
    | false=>exact decide_eq_true (HK1.out ⟨p,r,n⟩ ⟨by show (0:Rat)≤r;grind,fun h=>absurd h (by dsimp only;grind),fun _=>(hq.2 rfl).2⟩ rfl rfl rfl)
   generalize decide KK=res at *;rw [hsg] at HS
   have HR:Hid (∀ w:World,Calls prog 125 #[.agg #[.bool (sgB r.num),.string (mgS r.num),.bool false,.string (dnS r.den)]] w fun e w'=>∃ n s d ok,e = .returned (.tuple #[.agg #[.bool n,.string s,.bool false,.string d],.bool ok])∧res = !ok∧Below w.heap.size w w'):=fun w=>(HR.out w).mono (fun e w' h=>by
    obtain⟨q,ok,he,hq,hk⟩:=h
    exact ⟨_,_,_,ok,he,HRes.out q ok hq,hk⟩)
   clear HRes HK1 HK2 hsg hr0;generalize sgB (p).num=a1 at *;generalize mgS (p).num=a2 at *;generalize dnS (p).den=a4 at *;generalize sgB (r).num=b1 at *;generalize mgS (r).num=b2 at *;generalize dnS (r).den=b4 at *;go_enter func75,ntmps75
   go_upto_region 1 with (fail)
   obtain⟨W,ga,hW,ega,Bga,hga,hgW,HkW⟩:=al1h w (.cells #[.bool a1,.string a2,.bool false,.string a4,.bool b1,.string b2,.bool false,.string b4,.bool _] 30);rw [← hW];try rw [ega]
   clear hW ega;obtain⟨pga,fga,lga⟩:=jQ Bga;go_wp2_with fail;refine (H1.out _).mono ?_;rintro e w1 ⟨rfl,hk_w1⟩;dsimp only;clear pga fga lga;replace Bga:=jH hk_w1 Bga;replace HkW:=jX (HkW.out.tz hk_w1);clear hk_w1;obtain⟨pga,fga,lga⟩:=jQ Bga;go_wp2_with fail;refine (H2.out _).mono ?_;rintro e w2 ⟨rfl,hk_w2⟩;dsimp only;clear pga fga lga;replace Bga:=jH hk_w2 Bga;replace HkW:=jX (HkW.out.tz hk_w2);clear hk_w2;obtain⟨pga,fga,lga⟩:=jQ Bga;go_wp2_with fail;refine (HS.out _).mono ?_;rintro e w3 ⟨rfl,hk_w3⟩;dsimp only;clear pga fga lga;replace Bga:=jH hk_w3 Bga;replace HkW:=jX (HkW.out.tz hk_w3);clear hk_w3;obtain⟨pga,fga,lga⟩:=jQ Bga;go_wp2_with fail;have Hk:=jX HkW.out;refine (HR.out _).mono ?_;rintro e w5 ⟨qn,qs,qd,ok,rfl,rfl,hk_w5⟩;dsimp only;have HB:=jX ((Hk.out.bz).trans (Below.mono hk_w5 Hk.out.size));clear pga fga lga hk_w5;cases ok
   all_goals
    go_upto_region 11 with (fail)
    obtain⟨W2,gc,hW2,egc,bgc,hgc,hgW2,hkW2⟩:=al1 w5 (.cells #[.bool qn,.string qs,.bool false,.string qd] 28);rw [← hW2];try rw [egc]
    have Bgc:=jX bgc;clear hW2 egc bgc;have HB2:=jX (HB.out.trans (Below.mono hkW2.bz HB.out.size));go_wp2_with fail;go_ret
    exact ⟨rfl,HB2.out⟩
end
end Go.Proofs.YtpgffjjpiafhpaaGreatDoor
