/- Parts of a proof about this translation: Ku, Kv, Pl. -/
import Derived.Test.YtpgffjjpiafhpaaGreatDoorA21
import Derived.Test.YtpgffjjpiafhpaaGreatDoorA08
import Derived.Test.YtpgffjjpiafhpaaGreatDoorA17
set_option linter.unusedVariables false
set_option linter.unusedSimpArgs false
set_option linter.unusedSectionVars false
set_option maxRecDepth 100000
set_option maxHeartbeats 8000000
namespace Go.Proofs.YtpgffjjpiafhpaaGreatDoor
open Go.RowKit
section
open Go.RowKit Go.Lib
def errF (ok:Bool):Value:=.int .i64 (if ok then 0 else 5)
theorem ichk_c (n:Bool) (s:ByteArray) (w:World) :
  Calls Tryz.prog 150 #[.agg #[.bool n,.string s]] w fun e w'=>e = .returned (errF (isI n s))∧Keep [] w w':=by
 by_cases h0:s.size=0
 ·have hi:isI n s = !n:=dif_neg (by omega)
  have hs:s=⟨#[]⟩:=by
   apply ByteArray.ext
   exact Array.eq_empty_of_size_eq_zero h0
  rw [hi]
  subst hs
  clear hi h0
  cases n
  all_goals
   go_enter Tryz.func150,Tryz.ntmps150
   go_upto_region 1 with (fail)
   obtain⟨W,ga,hW,ega,Bga,hga,hgW,HkW⟩:=al1h w (.cells #[.bool _,.string ⟨#[]⟩] 26)
   rw [← hW]
   try rw [ega]
   clear hW ega
   obtain⟨pga,fga,lga⟩:=jQ Bga
   go_wp2_with fail
   go_ret
   exact ⟨rfl,by repeat (first|(with_reducible exact HkW.out)|(refine Keep.setPast ?_ _ _ _ (by omega))|(refine Keep.allocPast ?_ _)|(refine Keep.drewPast ?_))⟩
 have hlt:0<s.size:=by omega
 have hi:isI n s=((((s[0]'hlt).toNat:Nat):Int) != 0):=dif_pos hlt
 have hemp:s.toList.isEmpty=false:=by
  rw [List.isEmpty_eq_false_iff]
  intro h
  have h2:s=⟨#[]⟩:=str_inj (by rw [h,Go.Lib.toList_data])
  rw [h2] at hlt
  exact absurd hlt (by decide)
 have hix:=fun w=>index_top w s hlt
 rw [hi]
 clear hi h0
 generalize (s[0]'hlt).toNat=d at *
 have hgr:(((d:Nat):Int) != 0) = !(((d:Nat):Int) == 0):=rfl
 rw [hgr]
 cases hd:((((d:Nat):Int)) == 0)
 all_goals
  clear hgr hlt
  go_enter Tryz.func150,Tryz.ntmps150
  go_upto_region 1 with (fail)
  obtain⟨W,ga,hW,ega,Bga,hga,hgW,HkW⟩:=al1h w (.cells #[.bool n,.string s] 26)
  rw [← hW]
  try rw [ega]
  clear hW ega
  obtain⟨pga,fga,lga⟩:=jQ Bga
  go_wp2_with fail
  go_ret
  exact ⟨rfl,by repeat (first|(with_reducible exact HkW.out)|(refine Keep.setPast ?_ _ _ _ (by omega))|(refine Keep.allocPast ?_ _)|(refine Keep.drewPast ?_))⟩
end
section
open Go.RowKit Go.Lib
theorem neqZ_run (a b:Int) (w:World):(binOp .neq 26 (.agg #[.bool (sgB a),.string (mgS a)]) (.agg #[.bool (sgB b),.string (mgS b)])).run Tryz.prog w = .ok (.bool (!decide (a=b))) w:=by
 rw [run_neq_struct,show (10000:Nat)=9998+2 from rfl,eqZ_in,eqZ_dec];rfl
theorem qchk_c (n:Bool) (s:ByteArray) (v:Bool) (t:ByteArray) (hs:s.size≤100000000) (ht:t.size≤100000000) (w:World) :
  Calls Tryz.prog 103 #[.agg #[.bool n,.string s,.bool v,.string t]] w fun e w'=>e = .returned (errF (chkQ n s v t))∧Keep [] w w':=by
 have HI1:=jX (ichk_c n s)
 have HI2:=jX (ichk_c v t)
 cases h1:isI n s with
 | false =>
  rw [h1] at HI1
  have hc:chkQ n s v t=false:=by unfold chkQ;rw [h1];rfl
  rw [hc]
  rw [show errF false = .int .i64 5 from rfl] at *
  clear hc h1 HI2
  go_enter Tryz.func103,Tryz.ntmps103
  go_upto_region 1 with (fail)
  obtain⟨W,ga,hW,ega,Bga,hga,hgW,HkW⟩:=al1h w (.cells #[.bool n,.string s,.bool v,.string t] 28)
  rw [← hW]
  try rw [ega]
  clear hW ega
  obtain⟨pga,fga,lga⟩:=jQ Bga
  go_wp2_with fail
  refine (HI1.out _).mono ?_
  rintro e w1 ⟨rfl,hk1⟩
  dsimp only
  clear pga fga lga
  replace Bga:=jH hk1 Bga
  replace HkW:=jX (HkW.out.trans0 hk1)
  clear hk1
  obtain⟨pga,fga,lga⟩:=jQ Bga
  go_wp2_with fail
  go_ret
  exact ⟨rfl,by repeat (first|(with_reducible exact HkW.out)|(refine Keep.setPast ?_ _ _ _ (by omega))|(refine Keep.allocPast ?_ _)|(refine Keep.drewPast ?_))⟩
 | true =>
  rw [h1] at HI1
  cases h2:isI v t with
  | false =>
   rw [h2] at HI2
   have hc:chkQ n s v t=false:=by unfold chkQ;rw [h2];simp
   rw [hc]
   rw [show errF true = .int .i64 0 from rfl] at HI1
   rw [show errF false = .int .i64 5 from rfl] at *
   clear hc h1 h2
   go_enter Tryz.func103,Tryz.ntmps103
   go_upto_region 1 with (fail)
   obtain⟨W,ga,hW,ega,Bga,hga,hgW,HkW⟩:=al1h w (.cells #[.bool n,.string s,.bool v,.string t] 28)
   rw [← hW]
   try rw [ega]
   clear hW ega
   obtain⟨pga,fga,lga⟩:=jQ Bga
   go_wp2_with fail
   refine (HI1.out _).mono ?_
   rintro e w1 ⟨rfl,hk1⟩
   dsimp only
   clear pga fga lga
   replace Bga:=jH hk1 Bga
   replace HkW:=jX (HkW.out.trans0 hk1)
   clear hk1
   obtain⟨pga,fga,lga⟩:=jQ Bga
   go_wp2_with fail
   refine (HI2.out _).mono ?_
   rintro e w2 ⟨rfl,hk2⟩
   dsimp only
   clear pga fga lga
   replace Bga:=jH hk2 Bga
   replace HkW:=jX (HkW.out.trans0 hk2)
   clear hk2
   obtain⟨pga,fga,lga⟩:=jQ Bga
   go_wp2_with fail
   go_ret
   exact ⟨rfl,by repeat (first|(with_reducible exact HkW.out)|(refine Keep.setPast ?_ _ _ _ (by omega))|(refine Keep.allocPast ?_ _)|(refine Keep.drewPast ?_))⟩
  | true =>
   rw [h2] at HI2
   rw [show errF true = .int .i64 0 from rfl] at HI1 HI2
   obtain⟨z,hz1,hz2⟩:=isI_iff.1 h1
   obtain⟨d,hd1,hd2⟩:=isI_iff.1 h2
   have hb1:natB s=z.natAbs:=by rw [← hz2];exact natB_mag _
   have hb2:natB t=d.natAbs:=by rw [← hd2];exact natB_mag _
   have hgd:=eqZ_g
   have hz0:(Value.agg #[.bool false,.string ⟨#[]⟩]) = .agg #[.bool (sgB 0),.string (mgS 0)]:=by
    rw [mg_empty.2 rfl]
    rfl
   have heq:∀ w,(binOp .eql 26 (.agg #[.bool v,.string t]) (.agg #[.bool false,.string ⟨#[]⟩])).run Tryz.prog w = .ok (.bool (decide (d=0))) w:=fun w=>by
    rw [hz0,← hd1,← hd2]
    exact eqZ_run d 0 w
   have hchk:chkQ n s v t=(!v&&(decide (t.size=0) || (decide (t≠⟨#[1]⟩)&&decide (Nat.gcd z.natAbs d.natAbs=1)))):=by
    unfold chkQ
    rw [h1,h2,hb1,hb2]
    rfl
   by_cases hd0:d=0
   ·have hc : chkQ n s v t = true := by
     rw [hchk]
     subst hd0
     have e1:v=false:=by rw [← hd1];rfl
     have e2:t=⟨#[]⟩:=by rw [← hd2];exact mg_empty.2 rfl
     rw [e1,e2]
     rfl
    rw [hc]
    rw [show errF true = .int .i64 0 from rfl]
    rw [decide_eq_true hd0] at heq
    clear hc hchk hd0 hz0 hb1 hb2 hz1 hz2 hd1 hd2 h1 h2
    go_enter Tryz.func103,Tryz.ntmps103
    go_upto_region 1 with (fail)
    obtain⟨W,ga,hW,ega,Bga,hga,hgW,HkW⟩:=al1h w (.cells #[.bool n,.string s,.bool v,.string t] 28)
    rw [← hW]
    try rw [ega]
    clear hW ega
    obtain⟨pga,fga,lga⟩:=jQ Bga
    go_wp2_with fail
    refine (HI1.out _).mono ?_
    rintro e w1 ⟨rfl,hk1⟩
    dsimp only
    clear pga fga lga
    replace Bga:=jH hk1 Bga
    replace HkW:=jX (HkW.out.trans0 hk1)
    clear hk1
    obtain⟨pga,fga,lga⟩:=jQ Bga
    go_wp2_with fail
    refine (HI2.out _).mono ?_
    rintro e w2 ⟨rfl,hk2⟩
    dsimp only
    clear pga fga lga
    replace Bga:=jH hk2 Bga
    replace HkW:=jX (HkW.out.trans0 hk2)
    clear hk2
    obtain⟨pga,fga,lga⟩:=jQ Bga
    go_wp2_with fail
    go_ret
    exact ⟨rfl,by repeat (first|(with_reducible exact HkW.out)|(refine Keep.setPast ?_ _ _ _ (by omega))|(refine Keep.allocPast ?_ _)|(refine Keep.drewPast ?_))⟩
   rw [decide_eq_false hd0] at heq
   have HO:=jX one_c
   have HC:=jX (Compare_c d 1)
   have HG:=jX (Gcd_c z d (by unfold Fit;rw [hz2];omega) (by unfold Fit;rw [hd2];omega))
   have HN:=jX (neqZ_run (Int.gcd z d:Nat) 1)
   have hsz:t.size≠0:=fun h=>hd0 (mg_empty.1 (hd2.trans (size_zero h)))
   have hle:(Lib.compareInt d 1≤0)↔d≤1:=by
    unfold Lib.compareInt
    split
    ·constructor<;>intro h<;>omega
    split
    ·constructor<;>intro h<;>omega
    constructor<;>intro h<;>omega
   unfold zv at HO HC HG
   rw [hd1,hd2] at HC HG
   rw [hz1,hz2] at HG
   generalize Lib.compareInt d 1=c at *
   obtain⟨x1,hx1⟩:∃ x,sgB 1=x:=⟨_,rfl⟩
   obtain⟨y1,hy1⟩:∃ x,mgS 1=x:=⟨_,rfl⟩
   rw [hx1,hy1] at HO HC HN
   by_cases hd1':d≤1
   ·have hc : chkQ n s v t = false := by
     rw [hchk]
     rcases Int.lt_or_lt_of_ne hd0 with h|h
     ·have e1:v=true:=by rw [← hd1];unfold sgB;exact decide_eq_true h
      rw [e1]
      rfl
     have e:d=1:=by omega
     subst e
     have e2:t=⟨#[1]⟩:=by rw [← hd2];exact magS_one
     rw [e2]
     cases v<;>rfl
    have hcl:c≤0:=hle.2 hd1'
    have hcd:decide (c≤0)=true:=decide_eq_true hcl
    rw [hc]
    rw [show errF false = .int .i64 5 from rfl]
    clear hc hchk hd0 hz0 hb1 hb2 hz1 hz2 hd1 hd2 h1 h2 hx1 hy1 HG HN hle hsz hd1'
    go_enter Tryz.func103,Tryz.ntmps103
    go_upto_region 1 with (fail)
    obtain⟨W,ga,hW,ega,Bga,hga,hgW,HkW⟩:=al1h w (.cells #[.bool n,.string s,.bool v,.string t] 28)
    rw [← hW]
    try rw [ega]
    clear hW ega
    obtain⟨pga,fga,lga⟩:=jQ Bga
    go_wp2_with fail
    refine (HI1.out _).mono ?_
    rintro e w1 ⟨rfl,hk1⟩
    dsimp only
    clear pga fga lga
    replace Bga:=jH hk1 Bga
    replace HkW:=jX (HkW.out.trans0 hk1)
    clear hk1
    obtain⟨pga,fga,lga⟩:=jQ Bga
    go_wp2_with fail
    refine (HI2.out _).mono ?_
    rintro e w2 ⟨rfl,hk2⟩
    dsimp only
    clear pga fga lga
    replace Bga:=jH hk2 Bga
    replace HkW:=jX (HkW.out.trans0 hk2)
    clear hk2
    obtain⟨pga,fga,lga⟩:=jQ Bga
    go_wp2_with fail
    have kga:=kw_cells Bga.out
    have Q1:Hid (∀ m:KW w2,Calls Tryz.prog 152 #[] (Wk w2 m) fun e w'=>e = .returned (.agg #[.bool x1,.string y1])∧∃ m,w'=Wk w2 m):=fun m=>qk m (HO.out _)
    have Q2:Hid (∀ m:KW w2,Calls Tryz.prog 151 #[.agg #[.bool v,.string t],.agg #[.bool x1,.string y1]] (Wk w2 m) fun e w'=>e = .returned (.int .i64 c)∧∃ m,w'=Wk w2 m):=fun m=>qk m (HC.out _)
    clear hgd heq HI1 HI2
    refine wp_region_keep (by kernel_rfl) (by kernel_rfl) ?_
    repeat (first
     | go_big_quiet_skip
     | (go_big_quiet_want;go_big_quiet_op;first|go_big_quiet_on|go_big_quiet_call (first
      | (go_at_call 152;with_reducible exact (Q1).out _)|(go_at_call 151;with_reducible exact (Q2).out _))))
    refine wpQuiet_nil ?_
    rintro w3 ⟨⟨_,hk_w3⟩,rfl⟩
    have HK3:=jX (HkW.out.trans0 hk_w3)
    clear hk_w3
    go_wp2_with fail
    go_ret
    exact ⟨rfl,HK3.out⟩
   have hd2':1<d:=by omega
   have e1:v=false:=by rw [← hd1];unfold sgB;rw [decide_eq_false_iff_not];omega
   have e2:t≠⟨#[1]⟩:=fun h=>by
    rw [h,← magS_one] at hd2
    have:=magS_inj.1 hd2
    omega
   have hg:Int.gcd z d=Nat.gcd z.natAbs d.natAbs:=rfl
   have hc:chkQ n s v t=decide (((Int.gcd z d:Nat):Int)=1):=by
    rw [hchk,e1,decide_eq_false hsz,decide_eq_true e2,hg]
    simp only [Bool.not_false,Bool.true_and,Bool.false_or]
    rw [decide_eq_decide]
    omega
   have hcl:¬ c≤0:=fun h=>hd1' (hle.1 h)
   have hcd:decide (c≤0)=false:=decide_eq_false hcl
   rw [hc]
   obtain⟨k,hk⟩:∃ k,decide (((Int.gcd z d:Nat):Int)=1)=k:=⟨_,rfl⟩
   rw [hk] at HN ⊢
   generalize sgB ((Int.gcd z d:Nat):Int)=gx at *
   generalize mgS ((Int.gcd z d:Nat):Int)=gy at *
   clear hc hchk hd0 hz0 hb1 hb2 hz1 hz2 hd1 hd2 h1 h2 hx1 hy1 hle hsz hd1' hd2' e1 e2 hg hk
   have hne:=HN.out
   go_enter Tryz.func103,Tryz.ntmps103
   go_upto_region 1 with (fail)
   obtain⟨W,ga,hW,ega,Bga,hga,hgW,HkW⟩:=al1h w (.cells #[.bool n,.string s,.bool v,.string t] 28)
   rw [← hW]
   try rw [ega]
   clear hW ega
   obtain⟨pga,fga,lga⟩:=jQ Bga
   go_wp2_with fail
   refine (HI1.out _).mono ?_
   rintro e w1 ⟨rfl,hk1⟩
   dsimp only
   clear pga fga lga
   replace Bga:=jH hk1 Bga
   replace HkW:=jX (HkW.out.trans0 hk1)
   clear hk1
   obtain⟨pga,fga,lga⟩:=jQ Bga
   go_wp2_with fail
   refine (HI2.out _).mono ?_
   rintro e w2 ⟨rfl,hk2⟩
   dsimp only
   clear pga fga lga
   replace Bga:=jH hk2 Bga
   replace HkW:=jX (HkW.out.trans0 hk2)
   clear hk2
   obtain⟨pga,fga,lga⟩:=jQ Bga
   go_wp2_with fail
   have kga:=kw_cells Bga.out
   have Q1:Hid (∀ m:KW w2,Calls Tryz.prog 152 #[] (Wk w2 m) fun e w'=>e = .returned (.agg #[.bool x1,.string y1])∧∃ m,w'=Wk w2 m):=fun m=>qk m (HO.out _)
   have Q2:Hid (∀ m:KW w2,Calls Tryz.prog 151 #[.agg #[.bool v,.string t],.agg #[.bool x1,.string y1]] (Wk w2 m) fun e w'=>e = .returned (.int .i64 c)∧∃ m,w'=Wk w2 m):=fun m=>qk m (HC.out _)
   have Q3:Hid (∀ m:KW w2,Calls Tryz.prog 153 #[.agg #[.bool n,.string s],.agg #[.bool v,.string t]] (Wk w2 m) fun e w'=>e = .returned (.agg #[.bool gx,.string gy])∧∃ m,w'=Wk w2 m):=fun m=>qk m (HG.out _)
   clear heq HI1 HI2
   cases k
   all_goals
    refine wp_region_keep (by kernel_rfl) (by kernel_rfl) ?_
    repeat (first
     | go_big_quiet_skip
     | (go_big_quiet_want;go_big_quiet_op;first|go_big_quiet_on|go_big_quiet_call (first
      | (go_at_call 152;with_reducible exact (Q1).out _)|(go_at_call 151;with_reducible exact (Q2).out _)|(go_at_call 153;with_reducible exact (Q3).out _))))
    refine wpQuiet_nil ?_
    rintro w3 ⟨⟨_,hk_w3⟩,rfl⟩
    have HK3:=jX (HkW.out.trans0 hk_w3)
    clear hk_w3
    go_wp2_with fail
    go_ret
    exact ⟨rfl,HK3.out⟩
end
structure Bd (α:Type) where
 pt:α
 beh:Bool
section
open Classical
variable {α:Type} [LE α] [LT α] [Std.LawfulOrderLT α] [Std.IsLinearOrder α]
instance:LE (Bd α):=⟨fun a b=>a.pt<b.pt∨(a.pt=b.pt∧(a.beh=true→b.beh=true))⟩
instance:LT (Bd α):=⟨fun a b=>a.pt<b.pt∨(a.pt=b.pt∧a.beh=false∧b.beh=true)⟩
theorem Bd.le_def {a b:Bd α}:a≤b↔a.pt<b.pt∨(a.pt=b.pt∧(a.beh=true→b.beh=true)):=Iff.rfl
theorem Bd.lt_def {a b:Bd α}:a<b↔a.pt<b.pt∨(a.pt=b.pt∧a.beh=false∧b.beh=true):=Iff.rfl
theorem Bd.ext {a b:Bd α} (h:a.pt=b.pt) (h2:a.beh=b.beh):a=b:=by cases a;cases b;simp_all
instance:Std.IsLinearOrder (Bd α) where
 le_refl a:=.inr ⟨rfl,id⟩
 le_trans a b c h h2:=by
  rw [Bd.le_def] at *
  grind
 le_antisymm a b h h2:=by
  rw [Bd.le_def] at *
  have h3:a.pt=b.pt:=by grind
  refine Bd.ext h3 ?_
  cases ha:a.beh<;>cases hb:b.beh<;>grind
 le_total a b:=by
  rw [Bd.le_def,Bd.le_def]
  grind
instance:Std.LawfulOrderLT (Bd α) where
 lt_iff a b:=by
  rw [Bd.lt_def,Bd.le_def,Bd.le_def]
  cases ha:a.beh<;>cases hb:b.beh<;>grind
structure Iv (α:Type) where
 f:Bd α
 l:Bd α
noncomputable def Iv.has (i:Iv α) (x:Bd α):Bool:=decide (i.f≤x∧x<i.l)
noncomputable def hasL (l:List (Iv α)) (x:Bd α):Bool:=l.any (fun i=>i.has x)
def NormF:List (Iv α)→Bd α→Prop
 | [],_=>True
 | i :: l,b=>b<i.f∧i.f<i.l∧NormF l i.l
def Norm:List (Iv α)→Prop
 | []=>True
 | i :: l=>i.f<i.l∧NormF l i.l
theorem Iv.has_iff {i:Iv α} {x:Bd α}:i.has x=true↔i.f≤x∧x<i.l:=by unfold Iv.has;simp
theorem hasL_cons {i:Iv α} {l:List (Iv α)} {x:Bd α}:hasL (i :: l) x=(i.has x || hasL l x):=rfl
theorem hasL_nil {x:Bd α}:hasL [] x=false:=rfl
theorem NormF.before {l:List (Iv α)} {b:Bd α} (h:NormF l b) {x:Bd α} (hx:x≤b):hasL l x=false:=by
 induction l generalizing b with
 | nil=>rfl
 | cons i l ih =>
  obtain⟨h1,h2,h3⟩:=h
  rw [hasL_cons,ih h3 (by grind),Bool.or_false]
  rw [← Bool.not_eq_true,Iv.has_iff]
  grind
theorem NormF.norm {l:List (Iv α)} {b:Bd α} (h:NormF l b):Norm l:=by
 cases l with
 | nil=>trivial
 | cons i l=>exact h.2
theorem NormF.mono {l:List (Iv α)} {b c:Bd α} (h:NormF l b) (hc:c≤b):NormF l c:=by
 cases l with
 | nil=>trivial
 | cons i l=>exact ⟨by have:=h.1;grind,h.2⟩
theorem norm_unique {l m:List (Iv α)} (hl:Norm l) (hm:Norm m) (h:∀ x,hasL l x=hasL m x):l=m:=by
 induction l generalizing m with
 | nil =>
  cases m with
  | nil=>rfl
  | cons j m =>
   exfalso
   have:=h j.f
   rw [hasL_cons,Iv.has_iff.2 ⟨by grind,hm.1⟩,hasL_nil] at this
   simp at this
 | cons i l ih =>
  cases m with
  | nil =>
   exfalso
   have:=h i.f
   rw [hasL_cons,Iv.has_iff.2 ⟨by grind,hl.1⟩,hasL_nil] at this
   simp at this
  | cons j m =>
   have e1:i.f=j.f:=by
    have k1:=h i.f
    have k2:=h j.f
    rw [hasL_cons,hasL_cons] at k1 k2
    rw [Iv.has_iff.2 ⟨by grind,hl.1⟩,Bool.true_or] at k1
    rw [Iv.has_iff.2 ⟨by grind,hm.1⟩,Bool.true_or] at k2
    by_cases c:i.f<j.f
    ·exfalso
     rw [hm.2.before (by have:=hm.1;grind),Bool.or_false] at k1
     have:=Iv.has_iff.1 k1.symm
     grind
    by_cases c2:j.f<i.f
    ·exfalso
     rw [hl.2.before (by have:=hl.1;grind),Bool.or_false] at k2
     have:=Iv.has_iff.1 k2
     grind
    grind
   have e2:i.l=j.l:=by
    by_cases c:i.l<j.l
    ·exfalso
     have k:=h i.l
     rw [hasL_cons,hasL_cons,hl.2.before (by grind),Bool.or_false,Iv.has_iff.2 ⟨by have:=hl.1;grind,c⟩,Bool.true_or] at k
     have:=Iv.has_iff.1 k
     grind
    by_cases c2:j.l<i.l
    ·exfalso
     have k:=h j.l
     rw [hasL_cons,hasL_cons,hm.2.before (by grind),Bool.or_false,(Iv.has_iff (i:=i)).2 ⟨by have:=hm.1;grind,c2⟩,Bool.true_or] at k
     have:=Iv.has_iff.1 k.symm
     grind
    grind
   have e:i=j:=by cases i;cases j;simp_all
   subst e
   rw [ih hl.2.norm hm.2.norm]
   intro x
   by_cases c:x<i.l
   ·rw [hl.2.before (by grind),hm.2.before (by grind)]
   have:=h x
   rw [hasL_cons,hasL_cons] at this
   have hn:i.has x=false:=by
    rw [← Bool.not_eq_true,Iv.has_iff];grind
   rw [hn] at this
   simpa using this
def run (F:Bd α→Bool):List (Bd α)→Option (Bd α)→List (Iv α)
 | [],_=>[]
 | b :: l,none=>if F b then run F l (some b) else run F l none
 | b :: l,some c=>if F b then run F l (some c) else ⟨c,b⟩ :: run F l none
def Up:List (Bd α)→Bd α→Prop
 | [],_=>True
 | b :: l,a=>a<b∧Up l b
theorem Up.all {l:List (Bd α)} {a:Bd α} (h:Up l a):∀ c∈l,a<c:=by
 induction l generalizing a with
 | nil=>simp
 | cons b l ih =>
  intro c hc
  rcases List.mem_cons.1 hc with rfl|hc
  ·exact h.1
  have:=ih h.2 c hc
  have:=h.1
  grind
theorem run_law {F:Bd α→Bool} (l:List (Bd α)):∀ lo:Bd α,Up l lo→(∀ x y,lo≤x→lo≤y→(∀ c∈l,c≤x↔c≤y)→F x=F y)→(∀ x,lo≤x→(∀ c∈l,c≤x)→F x=false) →
  (F lo=false→NormF (run F l none) lo∧∀ x,lo≤x→hasL (run F l none) x=F x) ∧
  (∀ c,c≤lo→F lo=true→∃ e m,run F l (some c)=⟨c,e⟩ :: m∧lo<e∧NormF m e∧∀ x,lo≤x→hasL (run F l (some c)) x=F x):=by
 induction l with
 | nil =>
  intro lo hu hj he
  refine ⟨fun _=>⟨trivial,fun x hx=>?_⟩,fun c hc h=>?_⟩
  ·rw [he x hx (by simp)];rfl
  rw [he lo (by grind) (by simp)] at h
  exact absurd h (by simp)
 | cons b l ih =>
  intro lo hu hj he
  have hlo:lo<b:=hu.1
  have hjb:∀ x y,b≤x→b≤y→(∀ c∈l,c≤x↔c≤y)→F x=F y:=fun x y hx hy h=>by
   refine hj x y (by grind) (by grind) (fun c hc=>?_)
   rcases List.mem_cons.1 hc with rfl|hc
   ·grind
   exact h c hc
  have heb:∀ x,b≤x→(∀ c∈l,c≤x)→F x=false:=fun x hx h=>by
   refine he x (by grind) (fun c hc=>?_)
   rcases List.mem_cons.1 hc with rfl|hc
   ·exact hx
   exact h c hc
  obtain⟨i1,i2⟩:=ih b hu.2 hjb heb
  have hall:=hu.2.all
  have same:∀ x,lo≤x→x<b→F x=F lo:=fun x hx hb=>by
   refine hj x lo hx (by grind) (fun c hc=>?_)
   rcases List.mem_cons.1 hc with rfl|hc
   ·grind
   have:=hall c hc
   grind
  refine ⟨fun h0=>?_,fun c hc h0=>?_⟩
  ·unfold run
   by_cases hb:F b=true
   ·rw [if_pos hb]
    obtain⟨e,m,e1,e2,e3,e4⟩:=i2 b (by grind) hb
    rw [e1] at e4 ⊢
    refine ⟨⟨hlo,e2,e3⟩,fun x hx=>?_⟩
    by_cases hxb:x<b
    ·have hn:NormF (⟨b,e⟩ :: m) lo:=⟨hlo,e2,e3⟩
     rw [same x hx hxb,h0,hasL_cons,e3.before (by grind),Bool.or_false,← Bool.not_eq_true,Iv.has_iff]
     grind
    exact e4 x (by grind)
   rw [if_neg hb]
   obtain⟨k1,k2⟩:=i1 (by simpa using hb)
   refine ⟨k1.mono (by grind),fun x hx=>?_⟩
   by_cases hxb:x<b
   ·rw [same x hx hxb,h0,k1.before (by grind)]
   exact k2 x (by grind)
  unfold run
  by_cases hb:F b=true
  ·rw [if_pos hb]
   obtain⟨e,m,e1,e2,e3,e4⟩:=i2 c (by grind) hb
   refine ⟨e,m,e1,by grind,e3,fun x hx=>?_⟩
   by_cases hxb:x<b
   ·rw [same x hx hxb,h0,e1,hasL_cons,Iv.has_iff.2 ⟨by grind,by grind⟩,Bool.true_or]
   exact e4 x (by grind)
  rw [if_neg hb]
  obtain⟨k1,k2⟩:=i1 (by simpa using hb)
  refine ⟨b,_,rfl,hlo,k1,fun x hx=>?_⟩
  by_cases hxb:x<b
  ·rw [same x hx hxb,h0,hasL_cons,Iv.has_iff.2 ⟨by grind,by grind⟩,Bool.true_or]
  rw [hasL_cons,k2 x (by grind)]
  have hn:(Iv.mk c b).has x=false:=by
   rw [← Bool.not_eq_true,Iv.has_iff];grind
  rw [hn,Bool.false_or]
def Ups:List (Bd α)→Prop
 | []=>True
 | b :: l=>Up l b
theorem runs_law {F:Bd α→Bool} {l:List (Bd α)} (hu:Ups l) (hj:∀ x y,(∀ c∈l,c≤x↔c≤y)→F x=F y) (h0:∀ x,(∀ c∈l,x<c)→F x=false) (h1:∀ x,(∀ c∈l,c≤x)→F x=false) :
  Norm (run F l none)∧∀ x,hasL (run F l none) x=F x:=by
 cases l with
 | nil=>exact ⟨trivial,fun x=>by rw [h0 x (by simp)];rfl⟩
 | cons b l =>
  have hall:=Up.all hu
  obtain⟨i1,i2⟩:=run_law (F:=F) l b hu (fun x y hx hy h=>hj x y (fun c hc=>by
   rcases List.mem_cons.1 hc with rfl|hc
   ·grind
   ·exact h c hc)) (fun x hx h=>h1 x (fun c hc=>by
   rcases List.mem_cons.1 hc with rfl|hc
   ·exact hx
   exact h c hc))
  have low:∀ x,x<b→F x=false:=fun x hx=>h0 x (fun c hc=>by
   rcases List.mem_cons.1 hc with rfl|hc
   ·exact hx
   have:=hall c hc
   grind)
  unfold run
  by_cases hb:F b=true
  ·rw [if_pos hb]
   obtain⟨e,m,e1,e2,e3,e4⟩:=i2 b (by grind) hb
   rw [e1] at e4 ⊢
   refine ⟨⟨e2,e3⟩,fun x=>?_⟩
   by_cases hx:x<b
   ·rw [low x hx,hasL_cons,e3.before (by grind),Bool.or_false,← Bool.not_eq_true,Iv.has_iff]
    grind
   exact e4 x (by grind)
  rw [if_neg hb]
  obtain⟨k1,k2⟩:=i1 (by simpa using hb)
  refine ⟨k1.norm,fun x=>?_⟩
  by_cases hx:x<b
  ·rw [low x hx,k1.before (by grind)]
  exact k2 x (by grind)
def setLast (l:List (Iv α)) (b:Bd α):List (Iv α):=match l.getLast? with
 | none=>l
 | some i=>l.dropLast++[⟨i.f,b⟩]
theorem setLast_snoc {l:List (Iv α)} {i:Iv α} {b:Bd α}:setLast (l++[i]) b=l++[⟨i.f,b⟩]:=by
 unfold setLast
 simp
def combT (here op:Bool) (t:α) (out:List (Iv α)):List (Iv α) :=
 if op then setLast out ⟨t,here⟩ else if here then out++[⟨⟨t,false⟩,⟨t,true⟩⟩] else out
def combB (here btw:Bool) (t n:α) (out:List (Iv α)):List (Iv α) :=
 if btw && !here then out++[⟨⟨t,true⟩,⟨n,false⟩⟩] else out
def combL (H:α→Bool) (S:α→α→Bool):List α→Bool→List (Iv α)→List (Iv α)
 | [],_,out=>out
 | [t],op,out=>combT (H t) op t out
 | t :: n :: r,op,out=>combL H S (n :: r) (S t n) (combB (H t) (S t n) t n (combT (H t) op t out))
def bor:List α→List (Bd α)
 | []=>[]
 | t :: r=>⟨t,false⟩ :: ⟨t,true⟩ :: bor r
def Asks (F:Bd α→Bool) (H:α→Bool) (S:α→α→Bool):List α→Prop
 | []=>True
 | [t]=>H t=F ⟨t,false⟩∧F ⟨t,true⟩=false
 | t :: n :: r=>H t=F ⟨t,false⟩∧S t n=F ⟨t,true⟩∧Asks F H S (n :: r)
theorem combL_run {F:Bd α→Bool} {H:α→Bool} {S:α→α→Bool} (l:List α):Asks F H S l→∀ out,
  combL H S l false out=out++run F (bor l) none∧∀ c e,(l≠[])→combL H S l true (out++[⟨c,e⟩])=out++run F (bor l) (some c):=by
 induction l with
 | nil=>intro h out;exact ⟨by simp [combL,bor,run],fun c e h=>absurd rfl h⟩
 | cons t r ih =>
  cases r with
  | nil =>
   intro h out
   obtain⟨h1,h2⟩:=h
   refine ⟨?_,fun c e _=>?_⟩
   ·cases hh:F ⟨t,false⟩<;>simp [combL,combT,bor,run,h1,h2,hh]
   cases hh:F ⟨t,false⟩<;>simp [combL,combT,bor,run,h1,h2,hh,setLast_snoc]
  | cons n r =>
   intro h out
   obtain⟨h1,h2,h3⟩:=h
   have ih:=ih h3
   have hne:n :: r≠[]:=by simp
   refine ⟨?_,fun c e _=>?_⟩
   ·cases hh:F ⟨t,false⟩<;>cases hb:F ⟨t,true⟩<;>rw [combL,h1,h2,hh,hb]
    ·simp only [combT,combB,Bool.false_eq_true,if_false,Bool.false_and]
     rw [(ih _).1];simp [bor,run,hh,hb]
    ·simp only [combT,combB,Bool.false_eq_true,if_false,Bool.not_false,Bool.and_self,if_true]
     rw [(ih _).2 _ _ hne];simp [bor,run,hh,hb]
    ·simp only [combT,combB,Bool.false_eq_true,if_false,if_true,Bool.false_and]
     rw [(ih _).1];simp [bor,run,hh,hb]
    simp only [combT,combB,Bool.false_eq_true,if_false,if_true,Bool.not_true,Bool.and_false]
    rw [(ih _).2 _ _ hne];simp [bor,run,hh,hb]
   cases hh:F ⟨t,false⟩<;>cases hb:F ⟨t,true⟩<;>rw [combL,h1,h2,hh,hb]
   ·simp only [combT,combB,Bool.false_eq_true,if_false,if_true,Bool.false_and,setLast_snoc]
    rw [(ih _).1];simp [bor,run,hh,hb]
   ·simp only [combT,combB,Bool.false_eq_true,if_false,Bool.not_false,Bool.and_self,if_true,setLast_snoc]
    rw [(ih _).2 _ _ hne];simp [bor,run,hh,hb]
   ·simp only [combT,combB,Bool.false_eq_true,if_false,if_true,Bool.false_and,setLast_snoc]
    rw [(ih _).1];simp [bor,run,hh,hb]
   simp only [combT,combB,Bool.false_eq_true,if_false,if_true,Bool.not_true,Bool.and_false,setLast_snoc]
   rw [(ih _).2 _ _ hne];simp [bor,run,hh,hb]
structure Ev (α:Type) where
 at_:Bd α
 x:Int
 y:Int
def sweepN (keep:Bool→Bool→Bool) (n m:Int):Bool:=keep (decide (0<n)) (decide (0<m))
def sweepF (now inn:Bool) (at_ frm:Bd α):Bd α:=if now && !inn then at_ else frm
def sweepO (now inn:Bool) (at_ frm:Bd α) (out:List (Iv α)):List (Iv α):=if !now&&inn then out++[⟨frm,at_⟩] else out
noncomputable def sweepL (keep:Bool→Bool→Bool):List (Ev α)→Int→Int→Bool→Bd α→List (Iv α)→List (Iv α)
 | [],_,_,_,_,out=>out
 | e :: r,n,m,inn,frm,out =>
  if (∃ e' r',r=e' :: r'∧e.at_=e'.at_) then sweepL keep r (n+e.x) (m+e.y) inn frm out
  else sweepL keep r (n+e.x) (m+e.y) (sweepN keep (n+e.x) (m+e.y)) (sweepF (sweepN keep (n+e.x) (m+e.y)) inn e.at_ frm) (sweepO (sweepN keep (n+e.x) (m+e.y)) inn e.at_ frm out)
noncomputable def ded:List (Ev α)→List (Bd α)
 | []=>[]
 | e :: r=>if (∃ e' r',r=e' :: r'∧e.at_=e'.at_) then ded r else e.at_ :: ded r
noncomputable def cntX (l:List (Ev α)) (x:Bd α):Int:=(l.map (fun e=>if e.at_≤x then e.x else 0)).sum
noncomputable def cntY (l:List (Ev α)) (x:Bd α):Int:=(l.map (fun e=>if e.at_≤x then e.y else 0)).sum
def InOrd (l:List (Ev α)):Prop:=l.Pairwise (fun e e'=>e.at_≤e'.at_)
theorem ded_mem (l:List (Ev α)) (c:Bd α):c∈ded l↔∃ e∈l,e.at_=c:=by
 induction l with
 | nil=>simp [ded]
 | cons e r ih =>
  unfold ded
  split
  ·rename_i h
   obtain⟨e',r',rfl,h⟩:=h
   rw [ih]
   constructor
   ·rintro ⟨d,h1,h2⟩;exact ⟨d,List.mem_cons_of_mem _ h1,h2⟩
   rintro ⟨d,h1,h2⟩
   rcases List.mem_cons.1 h1 with rfl|h1
   ·exact ⟨e',List.mem_cons_self,by rw [← h];exact h2⟩
   exact ⟨d,h1,h2⟩
  rw [List.mem_cons,ih]
  constructor
  ·rintro (rfl|⟨d,h1,h2⟩)
   ·exact ⟨e,List.mem_cons_self,rfl⟩
   exact ⟨d,List.mem_cons_of_mem _ h1,h2⟩
  rintro ⟨d,h1,h2⟩
  rcases List.mem_cons.1 h1 with rfl|h1
  ·exact .inl h2.symm
  exact .inr ⟨d,h1,h2⟩
theorem Up.of {l:List (Bd α)} {a:Bd α} (h:Ups l) (h2:∀ c∈l,a<c):Up l a:=by
 cases l with
 | nil=>trivial
 | cons b l=>exact ⟨h2 b List.mem_cons_self,h⟩
theorem strict_of {e:Ev α} {r:List (Ev α)} (h:InOrd (e :: r)) (hn:¬ ∃ e' r',r=e' :: r'∧e.at_=e'.at_):∀ d∈r,e.at_<d.at_:=by
 unfold InOrd at h
 rw [List.pairwise_cons] at h
 cases r with
 | nil=>simp
 | cons e' r' =>
  intro d hd
  have h1:=h.1 e' List.mem_cons_self
  have h2:e.at_≠e'.at_:=fun h=>hn ⟨_,_,rfl,h⟩
  have h3:=(List.pairwise_cons.1 h.2).1
  rcases List.mem_cons.1 hd with rfl|hd
  ·grind
  have:=h3 d hd
  grind
theorem ded_ups {l:List (Ev α)} (h:InOrd l):Ups (ded l):=by
 induction l with
 | nil=>trivial
 | cons e r ih =>
  have hr:InOrd r:=(List.pairwise_cons.1 h).2
  unfold ded
  split
  ·exact ih hr
  rename_i hn
  refine Up.of (ih hr) (fun c hc=>?_)
  obtain⟨d,hd,rfl⟩:=(ded_mem _ _).1 hc
  exact strict_of h hn d hd
theorem sweepL_run {keep:Bool→Bool→Bool} {F:Bd α→Bool} (l:List (Ev α)):∀ n m inn frm out,InOrd l →
  (∀ e∈l,F e.at_=sweepN keep (n+cntX l e.at_) (m+cntY l e.at_))→(l=[]→inn=false) →
  (∀ e∈l,(∀ d∈l,d.at_≤e.at_)→F e.at_=false)→sweepL keep l n m inn frm out=out++run F (ded l) (if inn then some frm else none):=by
 induction l with
 | nil=>intro n m inn frm out hs hF h0 _;rw [h0 rfl];simp [sweepL,ded,run]
 | cons e r ih =>
  intro n m inn frm out hs hF h0 hz0
  have hr:InOrd r:=(List.pairwise_cons.1 hs).2
  have hle:=(List.pairwise_cons.1 hs).1
  have hlast:∀ d∈r,(∀ c∈r,c.at_≤d.at_)→F d.at_=false:=fun d hd h=>by
   refine hz0 d (List.mem_cons_of_mem _ hd) (fun c hc=>?_)
   rcases List.mem_cons.1 hc with rfl|hc
   ·exact hle d hd
   exact h c hc
  have hFr:∀ d∈r,F d.at_=sweepN keep (n+e.x+cntX r d.at_) (m+e.y+cntY r d.at_):=fun d hd=>by
   rw [hF d (List.mem_cons_of_mem _ hd)]
   unfold cntX cntY
   rw [List.map_cons,List.map_cons,List.sum_cons,List.sum_cons,if_pos (hle d hd),if_pos (hle d hd),Int.add_assoc,Int.add_assoc]
  unfold sweepL ded
  split
  ·rename_i h
   refine ih _ _ _ _ _ hr hFr ?_ hlast
   obtain⟨e',r',h,_⟩:=h
   intro h2;rw [h] at h2;exact absurd h2 (by simp)
  rename_i hn
  have hst:=strict_of hs hn
  have hz:cntX (e :: r) e.at_=e.x∧cntY (e :: r) e.at_=e.y:=by
   have:∀ d∈r,¬ d.at_≤e.at_:=fun d hd=>by have:=hst d hd;grind
   unfold cntX cntY
   rw [List.map_cons,List.map_cons,List.sum_cons,List.sum_cons,if_pos (by grind),if_pos (by grind)]
   have z1:∀ (s:List (Ev α)),(∀ d∈s,¬ d.at_≤e.at_)→(s.map (fun d=>if d.at_≤e.at_ then d.x else 0)).sum=0∧(s.map (fun d=>if d.at_≤e.at_ then d.y else 0)).sum=0:=by
    intro s
    induction s with
    | nil=>simp
    | cons d s ihs =>
     intro h
     obtain⟨k1,k2⟩:=ihs (fun d hd=>h d (List.mem_cons_of_mem _ hd))
     rw [List.map_cons,List.map_cons,List.sum_cons,List.sum_cons,if_neg (h d List.mem_cons_self),if_neg (h d List.mem_cons_self),k1,k2]
     exact ⟨rfl,rfl⟩
   obtain⟨k1,k2⟩:=z1 r this
   rw [k1,k2]
   exact ⟨by omega,by omega⟩
  have hFe:sweepN keep (n+e.x) (m+e.y)=F e.at_:=by rw [hF e List.mem_cons_self,hz.1,hz.2]
  rw [hFe,ih _ _ _ _ _ hr hFr ?_ hlast]
  ·cases hf:F e.at_<;>cases inn<;>simp [sweepO,sweepF,run,hf]
  rintro rfl
  exact hz0 e List.mem_cons_self (by simp)
def evA (l:List (Iv α)):List (Ev α):=l.flatMap (fun i=>[⟨i.f,1,0⟩,⟨i.l,-1,0⟩])
def evB (l:List (Iv α)):List (Ev α):=l.flatMap (fun i=>[⟨i.f,0,1⟩,⟨i.l,0,-1⟩])
theorem sum_perm {l m:List Int} (h:l.Perm m):l.sum=m.sum:=by
 induction h with
 | nil=>rfl
 | cons x _ ih=>rw [List.sum_cons,List.sum_cons,ih]
 | swap x y l=>rw [List.sum_cons,List.sum_cons,List.sum_cons,List.sum_cons];omega
 | trans _ _ ih1 ih2=>rw [ih1,ih2]
theorem cnt_perm {l l':List (Ev α)} (h:l.Perm l') (x:Bd α):cntX l x=cntX l' x∧cntY l x=cntY l' x:=by
 unfold cntX cntY
 exact ⟨sum_perm (h.map _),sum_perm (h.map _)⟩
theorem cnt_app {l l':List (Ev α)} (x:Bd α):cntX (l++l') x=cntX l x+cntX l' x∧cntY (l++l') x=cntY l x+cntY l' x:=by
 unfold cntX cntY
 simp
theorem cnt_evA {l:List (Iv α)} (hl:∀ i∈l,i.f<i.l) (x:Bd α):0≤cntX (evA l) x∧cntY (evA l) x=0∧(decide (0<cntX (evA l) x))=hasL l x:=by
 induction l with
 | nil=>simp [evA,cntX,cntY,hasL]
 | cons i l ih =>
  obtain⟨k1,k2,k3⟩:=ih (fun j hj=>hl j (List.mem_cons_of_mem _ hj))
  have hi:=hl i List.mem_cons_self
  have e:cntX (evA (i :: l)) x=(if i.f≤x then 1 else 0)+((if i.l≤x then -1 else 0)+cntX (evA l) x):=by simp [cntX,evA]
  have e2:cntY (evA (i :: l)) x=cntY (evA l) x:=by simp [cntY,evA]
  rw [e,e2,hasL_cons,← k3]
  by_cases h1:i.f≤x
  ·by_cases h2:i.l≤x
   ·have hn:i.has x=false:=by rw [← Bool.not_eq_true,Iv.has_iff];grind
    rw [if_pos h1,if_pos h2,hn,Bool.false_or]
    exact ⟨by omega,k2,by congr 1;simp;omega⟩
   have hn:i.has x=true:=by rw [Iv.has_iff];grind
   rw [if_pos h1,if_neg h2,hn,Bool.true_or]
   exact ⟨by omega,k2,by simp;omega⟩
  have h2:¬ i.l≤x:=by grind
  have hn:i.has x=false:=by rw [← Bool.not_eq_true,Iv.has_iff];grind
  rw [if_neg h1,if_neg h2,hn,Bool.false_or]
  exact ⟨by omega,k2,by congr 1;simp⟩
theorem cnt_evB {l:List (Iv α)} (hl:∀ i∈l,i.f<i.l) (x:Bd α):0≤cntY (evB l) x∧cntX (evB l) x=0∧(decide (0<cntY (evB l) x))=hasL l x:=by
 induction l with
 | nil=>simp [evB,cntX,cntY,hasL]
 | cons i l ih =>
  obtain⟨k1,k2,k3⟩:=ih (fun j hj=>hl j (List.mem_cons_of_mem _ hj))
  have hi:=hl i List.mem_cons_self
  have e:cntY (evB (i :: l)) x=(if i.f≤x then 1 else 0)+((if i.l≤x then -1 else 0)+cntY (evB l) x):=by simp [cntY,evB]
  have e2:cntX (evB (i :: l)) x=cntX (evB l) x:=by simp [cntX,evB]
  rw [e,e2,hasL_cons,← k3]
  by_cases h1:i.f≤x
  ·by_cases h2:i.l≤x
   ·have hn:i.has x=false:=by rw [← Bool.not_eq_true,Iv.has_iff];grind
    rw [if_pos h1,if_pos h2,hn,Bool.false_or]
    exact ⟨by omega,k2,by congr 1;simp;omega⟩
   have hn:i.has x=true:=by rw [Iv.has_iff];grind
   rw [if_pos h1,if_neg h2,hn,Bool.true_or]
   exact ⟨by omega,k2,by simp;omega⟩
  have h2:¬ i.l≤x:=by grind
  have hn:i.has x=false:=by rw [← Bool.not_eq_true,Iv.has_iff];grind
  rw [if_neg h1,if_neg h2,hn,Bool.false_or]
  exact ⟨by omega,k2,by congr 1;simp⟩
theorem sweepL_law {keep:Bool→Bool→Bool} (h0:keep false false=false) {a b:List (Iv α)} (ha:∀ i∈a,i.f<i.l) (hb:∀ i∈b,i.f<i.l) {l:List (Ev α)} (hp:l.Perm (evA a++evB b)) (hs:InOrd l) (frm:Bd α) :
  Norm (sweepL keep l 0 0 false frm [])∧∀ x,hasL (sweepL keep l 0 0 false frm []) x=keep (hasL a x) (hasL b x):=by
 have hF:∀ x,keep (hasL a x) (hasL b x)=sweepN keep (cntX l x) (cntY l x):=fun x=>by
  have h1:=cnt_perm hp x
  have h2:=@cnt_app α _ _ _ _ (evA a) (evB b) x
  obtain⟨_,k1,k2⟩:=cnt_evA ha x
  obtain⟨_,k3,k4⟩:=cnt_evB hb x
  unfold sweepN
  rw [h1.1,h1.2,h2.1,h2.2,k1,k3,Int.add_zero,Int.zero_add,k2,k4]
 have hlast:∀ x,(∀ d∈l,d.at_≤x)→keep (hasL a x) (hasL b x)=false:=fun x h=>by
  have h1:∀ i∈a,i.has x=false:=fun i hi=>by
   rw [← Bool.not_eq_true,Iv.has_iff]
   have:=h ⟨i.l,-1,0⟩ (hp.mem_iff.2 (List.mem_append.2 (.inl (List.mem_flatMap.2 ⟨i,hi,by simp⟩))))
   dsimp only at this
   grind
  have h2:∀ i∈b,i.has x=false:=fun i hi=>by
   rw [← Bool.not_eq_true,Iv.has_iff]
   have:=h ⟨i.l,0,-1⟩ (hp.mem_iff.2 (List.mem_append.2 (.inr (List.mem_flatMap.2 ⟨i,hi,by simp⟩))))
   dsimp only at this
   grind
  have h3:hasL a x=false:=by unfold hasL;rw [List.any_eq_false];intro i hi;rw [h1 i hi];simp
  have h4:hasL b x=false:=by unfold hasL;rw [List.any_eq_false];intro i hi;rw [h2 i hi];simp
  rw [h3,h4,h0]
 have e:=sweepL_run (keep:=keep) (F:=fun x=>keep (hasL a x) (hasL b x)) l 0 0 false frm [] hs (fun e _=>by rw [Int.zero_add,Int.zero_add];exact hF _) (fun _=>rfl) (fun e he h=>hlast _ h)
 rw [if_neg (by simp),List.nil_append] at e
 rw [e]
 refine runs_law (ded_ups hs) (fun x y h=>?_) (fun x h=>?_) (fun x h=>?_)
 ·have h':∀ e∈l,(e.at_≤x↔e.at_≤y):=fun e he=>h _ ((ded_mem _ _).2 ⟨e,he,rfl⟩)
  have:cntX l x=cntX l y∧cntY l x=cntY l y:=by
   unfold cntX cntY
   constructor<;>congr 1<;>refine List.map_congr_left (fun e he=>?_)<;>by_cases k:e.at_≤x
   all_goals first|rw [if_pos k,if_pos ((h' e he).1 k)]|rw [if_neg k,if_neg (fun k'=>k ((h' e he).2 k'))]
  rw [hF,hF,this.1,this.2]
 ·have h':∀ e∈l,¬ e.at_≤x:=fun e he=>by have:=h _ ((ded_mem _ _).2 ⟨e,he,rfl⟩);grind
  have:cntX l x=0∧cntY l x=0:=by
   unfold cntX cntY
   have z:l.map (fun e=>if e.at_≤x then e.x else 0)=l.map (fun _=>0)∧l.map (fun e=>if e.at_≤x then e.y else 0)=l.map (fun _=>0):=by
    constructor<;>refine List.map_congr_left (fun e he=>?_)<;>rw [if_neg (h' e he)]
   rw [z.1,z.2]
   have:∀ s:List (Ev α),(s.map (fun _=>(0:Int))).sum=0:=fun s=>by induction s<;>simp_all
   exact ⟨this _,this _⟩
  rw [hF,this.1,this.2]
  unfold sweepN
  simpa using h0
 exact hlast x (fun d hd=>h _ ((ded_mem _ _).2 ⟨d,hd,rfl⟩))
noncomputable def holds (l:List (Iv α)) (t:α):Bool:=l.any (fun i=>decide (i.f≤⟨t,false⟩∧(⟨t,true⟩:Bd α)≤i.l))
noncomputable def spans (l:List (Iv α)) (t n:α):Bool:=l.any (fun i=>decide (i.f.pt≤t∧n≤i.l.pt))
theorem holds_has (l:List (Iv α)) (t:α):holds l t=hasL l ⟨t,false⟩:=by
 unfold holds hasL
 refine congrArg (fun f=>l.any f) (funext fun i=>?_)
 unfold Iv.has
 congr 1
 rw [Bd.le_def,Bd.le_def,Bd.lt_def]
 cases i.f.beh<;>cases i.l.beh<;>simp
theorem spans_has {l:List (Iv α)} {t n:α} (h:t<n) (hb:∀ i∈l,i.l.pt≤t∨n≤i.l.pt):spans l t n=hasL l ⟨t,true⟩:=by
 unfold spans hasL
 refine Bool.eq_iff_iff.2 ?_
 rw [List.any_eq_true,List.any_eq_true]
 constructor
 ·rintro ⟨i,hi,h2⟩
  refine ⟨i,hi,?_⟩
  rw [decide_eq_true_iff] at h2
  rw [Iv.has_iff,Bd.le_def,Bd.lt_def]
  grind
 rintro ⟨i,hi,h2⟩
 refine ⟨i,hi,?_⟩
 have:=hb i hi
 rw [decide_eq_true_iff]
 rw [Iv.has_iff,Bd.le_def,Bd.lt_def] at h2
 grind
theorem bor_mem {l:List α} {c:Bd α}:c∈bor l↔c.pt∈l:=by
 induction l with
 | nil=>simp [bor]
 | cons t r ih =>
  simp only [bor,List.mem_cons,ih]
  constructor
  ·rintro (rfl|rfl|h)
   ·exact .inl rfl
   ·exact .inl rfl
   exact .inr h
  rintro (h|h)
  ·cases hb:c.beh
   ·exact .inl (Bd.ext h hb)
   exact .inr (.inl (Bd.ext h hb))
  exact .inr (.inr h)
theorem bor_ups {l:List α} (h:l.Pairwise (· < ·)):Ups (bor l):=by
 induction l with
 | nil=>trivial
 | cons t r ih =>
  obtain⟨h1,h2⟩:=List.pairwise_cons.1 h
  refine ⟨by rw [Bd.lt_def];exact .inr ⟨rfl,rfl,rfl⟩,Up.of (ih h2) (fun c hc=>?_)⟩
  rw [Bd.lt_def]
  exact .inl (h1 _ (bor_mem.1 hc))
structure EndsOf (l:List α) (a:List (Iv α)):Prop where
 ord:l.Pairwise (· < ·)
 f:∀ i∈a,i.f.pt∈l
 l:∀ i∈a,i.l.pt∈l
theorem EndsOf.same {l:List α} {a:List (Iv α)} (h:EndsOf l a) {x y:Bd α} (hj:∀ c∈bor l,c≤x↔c≤y):hasL a x=hasL a y:=by
 unfold hasL
 refine Bool.eq_iff_iff.2 ?_
 rw [List.any_eq_true,List.any_eq_true]
 constructor<;>rintro ⟨i,hi,h2⟩<;>refine ⟨i,hi,?_⟩<;>rw [Iv.has_iff] at * <;> have h3:=hj i.f (bor_mem.2 (h.f i hi))<;>have h4:=hj i.l (bor_mem.2 (h.l i hi))<;>grind
theorem EndsOf.below {l:List α} {a:List (Iv α)} (h:EndsOf l a) {x:Bd α} (hx:∀ c∈bor l,x<c):hasL a x=false:=by
 unfold hasL
 rw [List.any_eq_false]
 intro i hi
 rw [Iv.has_iff]
 have:=hx i.f (bor_mem.2 (h.f i hi))
 grind
theorem EndsOf.above {l:List α} {a:List (Iv α)} (h:EndsOf l a) {x:Bd α} (hx:∀ c∈bor l,c≤x):hasL a x=false:=by
 unfold hasL
 rw [List.any_eq_false]
 intro i hi
 rw [Iv.has_iff]
 have:=hx i.l (bor_mem.2 (h.l i hi))
 grind
theorem asks_of {d:Bool→Bool→Bool} (h0:d false false=false) {a b:List (Iv α)} {all:List α} (ha:EndsOf all a) (hb:EndsOf all b) :
  ∀ (l pre:List α),pre++l=all→Asks (fun x=>d (hasL a x) (hasL b x)) (fun t=>d (holds a t) (holds b t)) (fun t n=>d (spans a t n) (spans b t n)) l:=by
 intro l
 induction l with
 | nil=>intro pre _;trivial
 | cons t r ih =>
  intro pre hp
  have hord:=ha.ord
  rw [← hp,List.pairwise_append] at hord
  obtain⟨o1,o2,o3⟩:=hord
  obtain⟨o4,o5⟩:=List.pairwise_cons.1 o2
  cases r with
  | nil =>
   refine ⟨by dsimp only;rw [holds_has,holds_has],?_⟩
   have:∀ c∈bor all,c≤(⟨t,true⟩:Bd α):=fun c hc=>by
    have:=bor_mem.1 hc
    rw [← hp,List.mem_append,List.mem_singleton] at this
    rw [Bd.le_def]
    rcases this with h|h
    ·exact .inl (o3 _ h _ (by simp))
    exact .inr ⟨h,fun _=>rfl⟩
   dsimp only
   rw [ha.above this,hb.above this,h0]
  | cons n r =>
   have htn:t<n:=o4 n (by simp)
   have hbtw:∀ c∈all,c≤t∨n≤c:=fun c hc=>by
    rw [← hp,List.mem_append,List.mem_cons,List.mem_cons] at hc
    rcases hc with h|h|h|h
    ·have:=o3 _ h t (by simp);grind
    ·grind
    ·grind
    have:=(List.pairwise_cons.1 o5).1 c h;grind
   refine ⟨by dsimp only;rw [holds_has,holds_has],?_,ih (pre++[t]) (by simp [hp])⟩
   dsimp only
   rw [spans_has htn (fun i hi=>hbtw _ (ha.l i hi)),spans_has htn (fun i hi=>hbtw _ (hb.l i hi))]
noncomputable def cells (d:Bool→Bool→Bool) (a b:List (Iv α)) (all:List α):List (Iv α) :=
 combL (fun t=>d (holds a t) (holds b t)) (fun t n=>d (spans a t n) (spans b t n)) all false []
theorem cells_law {d:Bool→Bool→Bool} (h0:d false false=false) {a b:List (Iv α)} {all:List α} (ha:EndsOf all a) (hb:EndsOf all b) :
  Norm (cells d a b all)∧∀ x,hasL (cells d a b all) x=d (hasL a x) (hasL b x):=by
 unfold cells
 rw [(combL_run all (asks_of h0 ha hb all [] rfl) []).1,List.nil_append]
 refine runs_law (bor_ups ha.ord) (fun x y h=>?_) (fun x h=>?_) (fun x h=>?_)
 ·rw [ha.same h,hb.same h]
 ·rw [ha.below h,hb.below h,h0]
 rw [ha.above h,hb.above h,h0]
end
end Go.Proofs.YtpgffjjpiafhpaaGreatDoor
