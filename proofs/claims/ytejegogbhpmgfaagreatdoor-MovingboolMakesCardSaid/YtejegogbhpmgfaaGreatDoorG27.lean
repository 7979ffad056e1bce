/- Parts of a proof: Ku Kv. -/
import Derived.Test.YtejegogbhpmgfaaGreatDoorG26
import Derived.Test.YtejegogbhpmgfaaGreatDoorG09
set_option linter.unusedVariables false
set_option linter.unusedSimpArgs false
set_option maxRecDepth 100000
set_option maxHeartbeats 8000000
namespace Go.Proofs.YtejegogbhpmgfaaGreatDoor
open Go.RowKit
section
open Go.RowKit Go.Lib
def errF (ok:Bool):Value:=.int .i64 (if ok then 0 else 5)
theorem ichk_c (n:Bool) (s:ByteArray) (w:World) :
  Calls Tryz.prog 191 #[.agg #[.bool n,.string s]] w fun e w'=>e = .returned (errF (isI n s))∧Keep [] w w':=by
 by_cases h0:s.size=0
 ·have hi:isI n s = !n:=dif_neg (by omega)
  have hs:s=⟨#[]⟩:=by
   apply ByteArray.ext;exact Array.eq_empty_of_size_eq_zero h0
  rw [hi];subst hs;clear hi h0;cases n
  all_goals
   go_enter Tryz.func191,Tryz.ntmps191
   go_upto_region 1 with (fail)
   obtain⟨W,ga,hW,ega,Bga,hga,hgW,HkW⟩:=al1h w (.cells #[.bool _,.string ⟨#[]⟩] 32);rw [← hW];try rw [ega]
   clear hW ega;obtain⟨pga,fga,lga⟩:=jQ Bga;go_wp2_with fail;go_ret
   exact ⟨rfl,by repeat (first|(with_reducible exact HkW.out)|(refine Keep.sP ?_ _ _ _ (by omega))|(refine Keep.aP ?_ _)|(refine Keep.dP ?_))⟩
 have hlt:0<s.size:=by omega
 have hi:isI n s=((((s[0]'hlt).toNat:Nat):Int) != 0):=dif_pos hlt
 have hemp:s.toList.isEmpty=false:=by
  rw [List.isEmpty_eq_false_iff];intro h;have h2:s=⟨#[]⟩:=ycP (by rw [h,Go.Lib.toList_data]);rw [h2] at hlt;exact absurd hlt (by decide)
 have hix:=fun w=>yhg w s hlt;rw [hi];clear hi h0;generalize (s[0]'hlt).toNat=d at *;have hgr:(((d:Nat):Int) != 0) = !(((d:Nat):Int) == 0):=rfl;rw [hgr];cases hd:((((d:Nat):Int)) == 0)
 all_goals
  clear hgr hlt;go_enter Tryz.func191,Tryz.ntmps191
  go_upto_region 1 with (fail)
  obtain⟨W,ga,hW,ega,Bga,hga,hgW,HkW⟩:=al1h w (.cells #[.bool n,.string s] 32);rw [← hW];try rw [ega]
  clear hW ega;obtain⟨pga,fga,lga⟩:=jQ Bga;go_wp2_with fail;go_ret
  exact ⟨rfl,by repeat (first|(with_reducible exact HkW.out)|(refine Keep.sP ?_ _ _ _ (by omega))|(refine Keep.aP ?_ _)|(refine Keep.dP ?_))⟩
end
section
open Go.RowKit Go.Lib
theorem neqZ_run (a b:Int) (w:World):(binOp .neq 32 (.agg #[.bool (sgB a),.string (mgS a)]) (.agg #[.bool (sgB b),.string (mgS b)])).run Tryz.prog w = .ok (.bool (!decide (a=b))) w:=by
 rw [run_neq_struct,show (10000:Nat)=9998+2 from rfl,yfJ,yhx];rfl
theorem qchk_c (n:Bool) (s:ByteArray) (v:Bool) (t:ByteArray) (hs:s.size≤100000000) (ht:t.size≤100000000) (w:World) :
  Calls Tryz.prog 168 #[.agg #[.bool n,.string s,.bool v,.string t]] w fun e w'=>e = .returned (errF (chkQ n s v t))∧Keep [] w w':=by
 have HI1:=jX (ichk_c n s);have HI2:=jX (ichk_c v t);cases h1:isI n s with
 | false =>
  rw [h1] at HI1;have hc:chkQ n s v t=false:=by unfold chkQ;rw [h1];rfl
  rw [hc];rw [show errF false = .int .i64 5 from rfl] at *
  clear hc h1 HI2;go_enter Tryz.func168,Tryz.ntmps168
  go_upto_region 1 with (fail)
  obtain⟨W,ga,hW,ega,Bga,hga,hgW,HkW⟩:=al1h w (.cells #[.bool n,.string s,.bool v,.string t] 34);rw [← hW];try rw [ega]
  clear hW ega;obtain⟨pga,fga,lga⟩:=jQ Bga;go_wp2_with fail;refine (HI1.out _).mono ?_;rintro e w1 ⟨rfl,hk1⟩;dsimp only;clear pga fga lga;replace Bga:=jH hk1 Bga;replace HkW:=jX (HkW.out.tz hk1);clear hk1;obtain⟨pga,fga,lga⟩:=jQ Bga;go_wp2_with fail;go_ret
  exact ⟨rfl,by repeat (first|(with_reducible exact HkW.out)|(refine Keep.sP ?_ _ _ _ (by omega))|(refine Keep.aP ?_ _)|(refine Keep.dP ?_))⟩
 | true =>
  rw [h1] at HI1;cases h2:isI v t with
  | false =>
   rw [h2] at HI2;have hc:chkQ n s v t=false:=by unfold chkQ;rw [h2];simp
   rw [hc];rw [show errF true = .int .i64 0 from rfl] at HI1
   rw [show errF false = .int .i64 5 from rfl] at *
   clear hc h1 h2;go_enter Tryz.func168,Tryz.ntmps168
   go_upto_region 1 with (fail)
   obtain⟨W,ga,hW,ega,Bga,hga,hgW,HkW⟩:=al1h w (.cells #[.bool n,.string s,.bool v,.string t] 34);rw [← hW];try rw [ega]
   clear hW ega;obtain⟨pga,fga,lga⟩:=jQ Bga;go_wp2_with fail;refine (HI1.out _).mono ?_;rintro e w1 ⟨rfl,hk1⟩;dsimp only;clear pga fga lga;replace Bga:=jH hk1 Bga;replace HkW:=jX (HkW.out.tz hk1);clear hk1;obtain⟨pga,fga,lga⟩:=jQ Bga;go_wp2_with fail;refine (HI2.out _).mono ?_;rintro e w2 ⟨rfl,hk2⟩;dsimp only;clear pga fga lga;replace Bga:=jH hk2 Bga;replace HkW:=jX (HkW.out.tz hk2);clear hk2;obtain⟨pga,fga,lga⟩:=jQ Bga;go_wp2_with fail;go_ret
   exact ⟨rfl,by repeat (first|(with_reducible exact HkW.out)|(refine Keep.sP ?_ _ _ _ (by omega))|(refine Keep.aP ?_ _)|(refine Keep.dP ?_))⟩
  | true =>
   rw [h2] at HI2;rw [show errF true = .int .i64 0 from rfl] at HI1 HI2
   obtain⟨z,hz1,hz2⟩:=yff.1 h1;obtain⟨d,hd1,hd2⟩:=yff.1 h2;have hb1:natB s=z.natAbs:=by rw [← hz2];exact yaw _
   have hb2:natB t=d.natAbs:=by rw [← hd2];exact yaw _
   have hgd:=eqZ_g
   have hz0:(Value.agg #[.bool false,.string ⟨#[]⟩]) = .agg #[.bool (sgB 0),.string (mgS 0)]:=by
    rw [yaX.2 rfl];rfl
   have heq:∀ w,(binOp .eql 32 (.agg #[.bool v,.string t]) (.agg #[.bool false,.string ⟨#[]⟩])).run Tryz.prog w = .ok (.bool (decide (d=0))) w:=fun w=>by
    rw [hz0,← hd1,← hd2];exact eqZ_run d 0 w
   have hchk:chkQ n s v t=(!v&&(decide (t.size=0) || (decide (t≠⟨#[1]⟩)&&decide (Nat.gcd z.natAbs d.natAbs=1)))):=by
    unfold chkQ;rw [h1,h2,hb1,hb2];rfl
   by_cases hd0:d=0
   ·have hc : chkQ n s v t = true := by
     rw [hchk];subst hd0;have e1:v=false:=by rw [← hd1];rfl
     have e2:t=⟨#[]⟩:=by rw [← hd2];exact yaX.2 rfl
     rw [e1,e2];rfl
    rw [hc];rw [show errF true = .int .i64 0 from rfl]
    rw [decide_eq_true hd0] at heq;clear hc hchk hd0 hz0 hb1 hb2 hz1 hz2 hd1 hd2 h1 h2;go_enter Tryz.func168,Tryz.ntmps168
    go_upto_region 1 with (fail)
    obtain⟨W,ga,hW,ega,Bga,hga,hgW,HkW⟩:=al1h w (.cells #[.bool n,.string s,.bool v,.string t] 34);rw [← hW];try rw [ega]
    clear hW ega;obtain⟨pga,fga,lga⟩:=jQ Bga;go_wp2_with fail;refine (HI1.out _).mono ?_;rintro e w1 ⟨rfl,hk1⟩;dsimp only;clear pga fga lga;replace Bga:=jH hk1 Bga;replace HkW:=jX (HkW.out.tz hk1);clear hk1;obtain⟨pga,fga,lga⟩:=jQ Bga;go_wp2_with fail;refine (HI2.out _).mono ?_;rintro e w2 ⟨rfl,hk2⟩;dsimp only;clear pga fga lga;replace Bga:=jH hk2 Bga;replace HkW:=jX (HkW.out.tz hk2);clear hk2;obtain⟨pga,fga,lga⟩:=jQ Bga;go_wp2_with fail;go_ret
    exact ⟨rfl,by repeat (first|(with_reducible exact HkW.out)|(refine Keep.sP ?_ _ _ _ (by omega))|(refine Keep.aP ?_ _)|(refine Keep.dP ?_))⟩
   rw [decide_eq_false hd0] at heq;have HO:=jX one_c;have HC:=jX (Compare_c d 1);have HG:=jX (Gcd_c z d (by unfold Fit;rw [hz2];omega) (by unfold Fit;rw [hd2];omega));have HN:=jX (neqZ_run (Int.gcd z d:Nat) 1);have hsz:t.size≠0:=fun h=>hd0 (yaX.1 (hd2.trans (ycN h)))
   have hle:(Lib.compareInt d 1≤0)↔d≤1:=by
    unfold Lib.compareInt;split
    ·constructor<;>intro h<;>omega
    split
    ·constructor<;>intro h<;>omega
    constructor<;>intro h<;>omega
   unfold zv at HO HC HG;rw [hd1,hd2] at HC HG;rw [hz1,hz2] at HG;generalize Lib.compareInt d 1=c at *;obtain⟨x1,hx1⟩:∃ x,sgB 1=x:=⟨_,rfl⟩;obtain⟨y1,hy1⟩:∃ x,mgS 1=x:=⟨_,rfl⟩;rw [hx1,hy1] at HO HC HN;by_cases hd1':d≤1
   ·have hc : chkQ n s v t = false := by
     rw [hchk];rcases Int.lt_or_lt_of_ne hd0 with h|h
     ·have e1:v=true:=by rw [← hd1];unfold sgB;exact decide_eq_true h
      rw [e1];rfl
     have e:d=1:=by omega
     subst e;have e2:t=⟨#[1]⟩:=by rw [← hd2];exact magS_one
     rw [e2];cases v<;>rfl
    have hcl:c≤0:=hle.2 hd1';have hcd:decide (c≤0)=true:=decide_eq_true hcl;rw [hc];rw [show errF false = .int .i64 5 from rfl]
    clear hc hchk hd0 hz0 hb1 hb2 hz1 hz2 hd1 hd2 h1 h2 hx1 hy1 HG HN hle hsz hd1';go_enter Tryz.func168,Tryz.ntmps168
    go_upto_region 1 with (fail)
    obtain⟨W,ga,hW,ega,Bga,hga,hgW,HkW⟩:=al1h w (.cells #[.bool n,.string s,.bool v,.string t] 34);rw [← hW];try rw [ega]
    clear hW ega;obtain⟨pga,fga,lga⟩:=jQ Bga;go_wp2_with fail;refine (HI1.out _).mono ?_;rintro e w1 ⟨rfl,hk1⟩;dsimp only;clear pga fga lga;replace Bga:=jH hk1 Bga;replace HkW:=jX (HkW.out.tz hk1);clear hk1;obtain⟨pga,fga,lga⟩:=jQ Bga;go_wp2_with fail;refine (HI2.out _).mono ?_;rintro e w2 ⟨rfl,hk2⟩;dsimp only;clear pga fga lga;replace Bga:=jH hk2 Bga;replace HkW:=jX (HkW.out.tz hk2);clear hk2;obtain⟨pga,fga,lga⟩:=jQ Bga;go_wp2_with fail;have kga:=yag Bga.out;have Q1:Hid (∀ m:KW w2,Calls Tryz.prog 185 #[] (Wk w2 m) fun e w'=>e = .returned (.agg #[.bool x1,.string y1])∧∃ m,w'=Wk w2 m):=fun m=>qk m (HO.out _);have Q2:Hid (∀ m:KW w2,Calls Tryz.prog 182 #[.agg #[.bool v,.string t],.agg #[.bool x1,.string y1]] (Wk w2 m) fun e w'=>e = .returned (.int .i64 c)∧∃ m,w'=Wk w2 m):=fun m=>qk m (HC.out _);clear hgd heq HI1 HI2;refine yac (by kernel_rfl) (by kernel_rfl) ?_
    repeat (first
     | go_big_quiet_skip
     | (go_big_quiet_want;go_big_quiet_op;first|go_big_quiet_on|go_big_quiet_call (first
      | (go_at_call 185;with_reducible exact (Q1).out _)|(go_at_call 182;with_reducible exact (Q2).out _))))
    refine wpQuiet_nil ?_;rintro w3 ⟨⟨_,hk_w3⟩,rfl⟩;have HK3:=jX (HkW.out.tz hk_w3);clear hk_w3;go_wp2_with fail;go_ret
    exact ⟨rfl,HK3.out⟩
   have hd2':1<d:=by omega
   have e1:v=false:=by rw [← hd1];unfold sgB;rw [decide_eq_false_iff_not];omega
   have e2:t≠⟨#[1]⟩:=fun h=>by
    rw [h,← magS_one] at hd2;have:=ydF.1 hd2;omega
   have hg:Int.gcd z d=Nat.gcd z.natAbs d.natAbs:=rfl
   have hc:chkQ n s v t=decide (((Int.gcd z d:Nat):Int)=1):=by
    rw [hchk,e1,decide_eq_false hsz,decide_eq_true e2,hg];simp only [Bool.not_false,Bool.true_and,Bool.false_or];rw [decide_eq_decide];omega
   have hcl:¬ c≤0:=fun h=>hd1' (hle.1 h);have hcd:decide (c≤0)=false:=decide_eq_false hcl;rw [hc];obtain⟨k,hk⟩:∃ k,decide (((Int.gcd z d:Nat):Int)=1)=k:=⟨_,rfl⟩;rw [hk] at HN ⊢;generalize sgB ((Int.gcd z d:Nat):Int)=gx at *;generalize mgS ((Int.gcd z d:Nat):Int)=gy at *;clear hc hchk hd0 hz0 hb1 hb2 hz1 hz2 hd1 hd2 h1 h2 hx1 hy1 hle hsz hd1' hd2' e1 e2 hg hk;have hne:=HN.out;go_enter Tryz.func168,Tryz.ntmps168
   go_upto_region 1 with (fail)
   obtain⟨W,ga,hW,ega,Bga,hga,hgW,HkW⟩:=al1h w (.cells #[.bool n,.string s,.bool v,.string t] 34);rw [← hW];try rw [ega]
   clear hW ega;obtain⟨pga,fga,lga⟩:=jQ Bga;go_wp2_with fail;refine (HI1.out _).mono ?_;rintro e w1 ⟨rfl,hk1⟩;dsimp only;clear pga fga lga;replace Bga:=jH hk1 Bga;replace HkW:=jX (HkW.out.tz hk1);clear hk1;obtain⟨pga,fga,lga⟩:=jQ Bga;go_wp2_with fail;refine (HI2.out _).mono ?_;rintro e w2 ⟨rfl,hk2⟩;dsimp only;clear pga fga lga;replace Bga:=jH hk2 Bga;replace HkW:=jX (HkW.out.tz hk2);clear hk2;obtain⟨pga,fga,lga⟩:=jQ Bga;go_wp2_with fail;have kga:=yag Bga.out;have Q1:Hid (∀ m:KW w2,Calls Tryz.prog 185 #[] (Wk w2 m) fun e w'=>e = .returned (.agg #[.bool x1,.string y1])∧∃ m,w'=Wk w2 m):=fun m=>qk m (HO.out _);have Q2:Hid (∀ m:KW w2,Calls Tryz.prog 182 #[.agg #[.bool v,.string t],.agg #[.bool x1,.string y1]] (Wk w2 m) fun e w'=>e = .returned (.int .i64 c)∧∃ m,w'=Wk w2 m):=fun m=>qk m (HC.out _);have Q3:Hid (∀ m:KW w2,Calls Tryz.prog 183 #[.agg #[.bool n,.string s],.agg #[.bool v,.string t]] (Wk w2 m) fun e w'=>e = .returned (.agg #[.bool gx,.string gy])∧∃ m,w'=Wk w2 m):=fun m=>qk m (HG.out _);clear heq HI1 HI2;cases k
   all_goals
    refine yac (by kernel_rfl) (by kernel_rfl) ?_
    repeat (first
     | go_big_quiet_skip
     | (go_big_quiet_want;go_big_quiet_op;first|go_big_quiet_on|go_big_quiet_call (first
      | (go_at_call 185;with_reducible exact (Q1).out _)|(go_at_call 182;with_reducible exact (Q2).out _)|(go_at_call 183;with_reducible exact (Q3).out _))))
    refine wpQuiet_nil ?_;rintro w3 ⟨⟨_,hk_w3⟩,rfl⟩;have HK3:=jX (HkW.out.tz hk_w3);clear hk_w3;go_wp2_with fail;go_ret
    exact ⟨rfl,HK3.out⟩
end
end Go.Proofs.YtejegogbhpmgfaaGreatDoor
