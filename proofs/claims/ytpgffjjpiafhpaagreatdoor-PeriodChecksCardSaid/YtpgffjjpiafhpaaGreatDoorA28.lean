/- Parts of a proof about this translation: So, Sr, Te, Sv, Tm, Pn, Sp, Ti, Tj, Tk. -/
import Derived.Deep.CutBlock
import Derived.IntWalk
import Derived.Test.YtpgffjjpiafhpaaGreatDoorA27
import Derived.Test.YtpgffjjpiafhpaaGreatDoorA23
import Derived.Test.YtpgffjjpiafhpaaGreatDoorA24
set_option linter.unusedVariables false
set_option linter.unusedSimpArgs false
set_option maxRecDepth 100000
set_option maxHeartbeats 8000000
namespace Go.Proofs.YtpgffjjpiafhpaaGreatDoor
open Go.RowKit
theorem side_c (x:Qn) (w:World):Calls Tryz.prog 127 #[qv x] w fun e w'=>e = .returned (.int .i64 (sideQ x))∧Keep [] w w':=by
 unfold sideQ qv
 generalize sgB (x.p).num=a1 at *
 generalize mgS (x.p).num=a2 at *
 generalize dnS (x.p).den=a3 at *
 generalize sgB (x.r).num=a4 at *
 generalize mgS (x.r).num=a5 at *
 generalize dnS (x.r).den=a6 at *
 generalize x.neg=n at *
 cases n
 all_goals
  go_enter Tryz.func127,Tryz.ntmps127
  go_wp2_with fail
  obtain⟨W,ga,hW,ega,Bga,hga,hgW,HkW⟩:=al1h w (.cells #[.bool a1,.string a2,.bool false,.string a3,.bool a4,.string a5,.bool false,.string a6,.bool _] 30)
  rw [← hW]
  try rw [ega]
  clear hW ega
  obtain⟨pga,fga,lga⟩:=jQ Bga
  go_wp2_with fail
  go_ret
  exact ⟨rfl,by repeat (first|(with_reducible exact HkW.out)|(refine Keep.setPast ?_ _ _ _ (by omega))|(refine Keep.allocPast ?_ _)|(refine Keep.drewPast ?_))⟩
theorem fcmp_c (x y:Qn) (hx:FitR 200000 x) (hy:FitR 200000 y) (w:World) :
  Calls Tryz.prog 80 #[qv x,qv y] w fun e w'=>e = .returned (.int .i64 (cmpQ x y))∧Keep [] w w':=by
 have hd:=hx.1.sub hy.1
 have H1:=jX (rsub_c x.p y.p (hx.1.mono (by decide)) (hy.1.mono (by decide)))
 have H2:=jX (sign2_c (x.p-y.p) (sideQ x) x.r (sideQ y) y.r (sideQ_or x) (sideQ_or y) (hd.mono (by decide)) (hx.2.mono (by decide)) (hy.2.mono (by decide)))
 have H3:=jX (side_c x)
 have H4:=jX (side_c y)
 rw [← d2_cmp]
 generalize d2 (x.p-y.p) (sideQ x) x.r (sideQ y) y.r=n at *
 generalize sideQ x=u at *
 generalize sideQ y=v at *
 unfold qv at *
 unfold rv at *
 generalize sgB (x.p-y.p).num=dn at *
 generalize mgS (x.p-y.p).num=ds at *
 generalize dnS (x.p-y.p).den=de at *
 generalize sgB (x.p).num=a1 at *
 generalize mgS (x.p).num=a2 at *
 generalize dnS (x.p).den=a3 at *
 generalize sgB (x.r).num=a4 at *
 generalize mgS (x.r).num=a5 at *
 generalize dnS (x.r).den=a6 at *
 generalize x.neg=a7 at *
 generalize sgB (y.p).num=b1 at *
 generalize mgS (y.p).num=b2 at *
 generalize dnS (y.p).den=b3 at *
 generalize sgB (y.r).num=b4 at *
 generalize mgS (y.r).num=b5 at *
 generalize dnS (y.r).den=b6 at *
 generalize y.neg=b7 at *
 clear hx hy hd
 unfold signI
 by_cases h1:n<0
 ·rw [if_pos h1]
  have t1:decide (n<0)=true:=by simpa using h1
  clear h1
  go_enter Tryz.func80,Tryz.ntmps80
  go_wp2_with fail
  obtain⟨W,ga,gb,hW,ega,egb,Bga,Bgb,hga,hgb,hgW,HkW⟩:=al2h w (.cells #[.bool a1,.string a2,.bool false,.string a3,.bool a4,.string a5,.bool false,.string a6,.bool a7] 30) (.cells #[.bool b1,.string b2,.bool false,.string b3,.bool b4,.string b5,.bool false,.string b6,.bool b7] 30)
  rw [← hW]
  try rw [egb]
  try rw [ega]
  clear hW ega egb
  have kga:=kw_cells Bga.out
  have kgb:=kw_cells Bgb.out
  have Q1:Hid (∀ m:KW W,Calls Tryz.prog 88 #[.agg #[.bool a1,.string a2,.bool false,.string a3],.agg #[.bool b1,.string b2,.bool false,.string b3]] (Wk W m) fun e w'=>e = .returned (.agg #[.bool dn,.string ds,.bool false,.string de])∧∃ m,w'=Wk W m):=fun m=>qk m (H1.out _)
  have Q3:Hid (∀ m:KW W,Calls Tryz.prog 127 #[.agg #[.bool a1,.string a2,.bool false,.string a3,.bool a4,.string a5,.bool false,.string a6,.bool a7]] (Wk W m) fun e w'=>e = .returned (.int .i64 u)∧∃ m,w'=Wk W m):=fun m=>qk m (H3.out _)
  have Q4:Hid (∀ m:KW W,Calls Tryz.prog 127 #[.agg #[.bool b1,.string b2,.bool false,.string b3,.bool b4,.string b5,.bool false,.string b6,.bool b7]] (Wk W m) fun e w'=>e = .returned (.int .i64 v)∧∃ m,w'=Wk W m):=fun m=>qk m (H4.out _)
  have Q2:Hid (∀ m:KW W,Calls Tryz.prog 126 #[.agg #[.bool dn,.string ds,.bool false,.string de],.int .i64 u,.agg #[.bool a4,.string a5,.bool false,.string a6],.int .i64 v,.agg #[.bool b4,.string b5,.bool false,.string b6]] (Wk W m) fun e w'=>e = .returned (.int .i64 n)∧∃ m,w'=Wk W m):=fun m=>qk m (H2.out _)
  clear H1 H2 H3 H4
  refine wp_region_keep (by kernel_rfl) (by kernel_rfl) ?_
  repeat (first
   | go_big_quiet_skip
   | (go_big_quiet_want;go_big_quiet_op;first|go_big_quiet_on|go_big_quiet_call (first
    | (go_at_call 88;with_reducible exact (Q1).out _)|(go_at_call 127;with_reducible exact (Q3).out _)|(go_at_call 127;with_reducible exact (Q4).out _)|(go_at_call 126;with_reducible exact (Q2).out _))))
  refine wpQuiet_nil ?_
  rintro w1 ⟨⟨_,hk_w1⟩,rfl⟩
  clear kga kgb Q1 Q2 Q3 Q4
  replace Bga:=jH hk_w1 Bga
  replace Bgb:=jH hk_w1 Bgb
  replace HkW:=jX (HkW.out.trans0 hk_w1)
  clear hk_w1
  go_wp2_with fail
  go_ret
  exact ⟨rfl,by repeat (first|(with_reducible exact HkW.out)|(refine Keep.setPast ?_ _ _ _ (by omega))|(refine Keep.allocPast ?_ _)|(refine Keep.drewPast ?_))⟩
 rw [if_neg h1]
 have t1:decide (n<0)=false:=by simpa using h1
 by_cases h2:0<n
 ·rw [if_pos h2]
  have t2:decide (0<n)=true:=by simpa using h2
  clear h1 h2
  go_enter Tryz.func80,Tryz.ntmps80
  go_wp2_with fail
  obtain⟨W,ga,gb,hW,ega,egb,Bga,Bgb,hga,hgb,hgW,HkW⟩:=al2h w (.cells #[.bool a1,.string a2,.bool false,.string a3,.bool a4,.string a5,.bool false,.string a6,.bool a7] 30) (.cells #[.bool b1,.string b2,.bool false,.string b3,.bool b4,.string b5,.bool false,.string b6,.bool b7] 30)
  rw [← hW]
  try rw [egb]
  try rw [ega]
  clear hW ega egb
  have kga:=kw_cells Bga.out
  have kgb:=kw_cells Bgb.out
  have Q1:Hid (∀ m:KW W,Calls Tryz.prog 88 #[.agg #[.bool a1,.string a2,.bool false,.string a3],.agg #[.bool b1,.string b2,.bool false,.string b3]] (Wk W m) fun e w'=>e = .returned (.agg #[.bool dn,.string ds,.bool false,.string de])∧∃ m,w'=Wk W m):=fun m=>qk m (H1.out _)
  have Q3:Hid (∀ m:KW W,Calls Tryz.prog 127 #[.agg #[.bool a1,.string a2,.bool false,.string a3,.bool a4,.string a5,.bool false,.string a6,.bool a7]] (Wk W m) fun e w'=>e = .returned (.int .i64 u)∧∃ m,w'=Wk W m):=fun m=>qk m (H3.out _)
  have Q4:Hid (∀ m:KW W,Calls Tryz.prog 127 #[.agg #[.bool b1,.string b2,.bool false,.string b3,.bool b4,.string b5,.bool false,.string b6,.bool b7]] (Wk W m) fun e w'=>e = .returned (.int .i64 v)∧∃ m,w'=Wk W m):=fun m=>qk m (H4.out _)
  have Q2:Hid (∀ m:KW W,Calls Tryz.prog 126 #[.agg #[.bool dn,.string ds,.bool false,.string de],.int .i64 u,.agg #[.bool a4,.string a5,.bool false,.string a6],.int .i64 v,.agg #[.bool b4,.string b5,.bool false,.string b6]] (Wk W m) fun e w'=>e = .returned (.int .i64 n)∧∃ m,w'=Wk W m):=fun m=>qk m (H2.out _)
  clear H1 H2 H3 H4
  refine wp_region_keep (by kernel_rfl) (by kernel_rfl) ?_
  repeat (first
   | go_big_quiet_skip
   | (go_big_quiet_want;go_big_quiet_op;first|go_big_quiet_on|go_big_quiet_call (first
    | (go_at_call 88;with_reducible exact (Q1).out _)|(go_at_call 127;with_reducible exact (Q3).out _)|(go_at_call 127;with_reducible exact (Q4).out _)|(go_at_call 126;with_reducible exact (Q2).out _))))
  refine wpQuiet_nil ?_
  rintro w1 ⟨⟨_,hk_w1⟩,rfl⟩
  clear kga kgb Q1 Q2 Q3 Q4
  replace Bga:=jH hk_w1 Bga
  replace Bgb:=jH hk_w1 Bgb
  replace HkW:=jX (HkW.out.trans0 hk_w1)
  clear hk_w1
  go_wp2_with fail
  go_ret
  exact ⟨rfl,by repeat (first|(with_reducible exact HkW.out)|(refine Keep.setPast ?_ _ _ _ (by omega))|(refine Keep.allocPast ?_ _)|(refine Keep.drewPast ?_))⟩
 rw [if_neg h2]
 have t2:decide (0<n)=false:=by simpa using h2
 clear h1 h2
 go_enter Tryz.func80,Tryz.ntmps80
 go_wp2_with fail
 obtain⟨W,ga,gb,hW,ega,egb,Bga,Bgb,hga,hgb,hgW,HkW⟩:=al2h w (.cells #[.bool a1,.string a2,.bool false,.string a3,.bool a4,.string a5,.bool false,.string a6,.bool a7] 30) (.cells #[.bool b1,.string b2,.bool false,.string b3,.bool b4,.string b5,.bool false,.string b6,.bool b7] 30)
 rw [← hW]
 try rw [egb]
 try rw [ega]
 clear hW ega egb
 have kga:=kw_cells Bga.out
 have kgb:=kw_cells Bgb.out
 have Q1:Hid (∀ m:KW W,Calls Tryz.prog 88 #[.agg #[.bool a1,.string a2,.bool false,.string a3],.agg #[.bool b1,.string b2,.bool false,.string b3]] (Wk W m) fun e w'=>e = .returned (.agg #[.bool dn,.string ds,.bool false,.string de])∧∃ m,w'=Wk W m):=fun m=>qk m (H1.out _)
 have Q3:Hid (∀ m:KW W,Calls Tryz.prog 127 #[.agg #[.bool a1,.string a2,.bool false,.string a3,.bool a4,.string a5,.bool false,.string a6,.bool a7]] (Wk W m) fun e w'=>e = .returned (.int .i64 u)∧∃ m,w'=Wk W m):=fun m=>qk m (H3.out _)
 have Q4:Hid (∀ m:KW W,Calls Tryz.prog 127 #[.agg #[.bool b1,.string b2,.bool false,.string b3,.bool b4,.string b5,.bool false,.string b6,.bool b7]] (Wk W m) fun e w'=>e = .returned (.int .i64 v)∧∃ m,w'=Wk W m):=fun m=>qk m (H4.out _)
 have Q2:Hid (∀ m:KW W,Calls Tryz.prog 126 #[.agg #[.bool dn,.string ds,.bool false,.string de],.int .i64 u,.agg #[.bool a4,.string a5,.bool false,.string a6],.int .i64 v,.agg #[.bool b4,.string b5,.bool false,.string b6]] (Wk W m) fun e w'=>e = .returned (.int .i64 n)∧∃ m,w'=Wk W m):=fun m=>qk m (H2.out _)
 clear H1 H2 H3 H4
 refine wp_region_keep (by kernel_rfl) (by kernel_rfl) ?_
 repeat (first
  | go_big_quiet_skip
  | (go_big_quiet_want;go_big_quiet_op;first|go_big_quiet_on|go_big_quiet_call (first
   | (go_at_call 88;with_reducible exact (Q1).out _)|(go_at_call 127;with_reducible exact (Q3).out _)|(go_at_call 127;with_reducible exact (Q4).out _)|(go_at_call 126;with_reducible exact (Q2).out _))))
 refine wpQuiet_nil ?_
 rintro w1 ⟨⟨_,hk_w1⟩,rfl⟩
 clear kga kgb Q1 Q2 Q3 Q4
 replace Bga:=jH hk_w1 Bga
 replace Bgb:=jH hk_w1 Bgb
 replace HkW:=jX (HkW.out.trans0 hk_w1)
 clear hk_w1
 go_wp2_with fail
 go_ret
 exact ⟨rfl,by repeat (first|(with_reducible exact HkW.out)|(refine Keep.setPast ?_ _ _ _ (by omega))|(refine Keep.allocPast ?_ _)|(refine Keep.drewPast ?_))⟩
theorem kcmp_c (x y:K) (w:World):Calls Tryz.prog 80 #[kv x,kv y] w fun e w'=>e = .returned (.int .i64 (cmpQ x.1 y.1))∧Keep [] w w' :=
 fcmp_c x.1 y.1 ⟨x.2.2.1.mono (by decide),x.2.2.2.mono (by decide)⟩ ⟨y.2.2.1.mono (by decide),y.2.2.2.mono (by decide)⟩ w
section
open Classical
def ptsL (l:List (Iv K)):List K:=l.flatMap fun i=>[i.f.pt,i.l.pt]
end
def decV (op:Int) (a b:Bool):Bool:=if op=1 then a || b else if op=2 then a&&b else a && !b
theorem decV_zero (op:Int):decV op false false=false:=by unfold decV;split<;>(try split)<;>rfl
def isIvV (a:Int) (o c:Bool):Bool:=decide (a<0) || (a == 0 && !o && !c)
theorem isIvV_iff (i:Iv K):isIvV (cmpQ i.f.pt.1 i.l.pt.1) i.f.beh (!i.l.beh)=true↔i.f<i.l:=by
 unfold isIvV
 rw [Bd.lt_def]
 rcases K.tri i.f.pt i.l.pt with ⟨h,g⟩|⟨h,g⟩|⟨h,g⟩<;>rw [h]<;>cases i.f.beh<;>cases i.l.beh<;>simp<;>grind
theorem isiv_c (i:Iv K) (w:World) :
  Calls Tryz.prog 79 #[iv i] w fun e w'=>e = .returned (.bool (isIvV (cmpQ i.f.pt.1 i.l.pt.1) i.f.beh (!i.l.beh)))∧Keep [] w w':=by
 have H1:=jX (kcmp_c i.f.pt i.l.pt)
 have ha:=cmp_tri i.f.pt i.l.pt
 generalize cmpQ i.f.pt.1 i.l.pt.1=a at *
 rw [iv_cells]
 rw [kv_cells,kv_cells] at H1
 generalize sgB (i.f.pt.1).p.num=f1 at *
 generalize mgS (i.f.pt.1).p.num=f2 at *
 generalize dnS (i.f.pt.1).p.den=f3 at *
 generalize sgB (i.f.pt.1).r.num=f4 at *
 generalize mgS (i.f.pt.1).r.num=f5 at *
 generalize dnS (i.f.pt.1).r.den=f6 at *
 generalize (i.f.pt.1).neg=f7 at *
 generalize sgB (i.l.pt.1).p.num=t1 at *
 generalize mgS (i.l.pt.1).p.num=t2 at *
 generalize dnS (i.l.pt.1).p.den=t3 at *
 generalize sgB (i.l.pt.1).r.num=t4 at *
 generalize mgS (i.l.pt.1).r.num=t5 at *
 generalize dnS (i.l.pt.1).r.den=t6 at *
 generalize (i.l.pt.1).neg=t7 at *
 generalize i.f.beh=o at *
 generalize (!i.l.beh)=c at *
 have done:∀ {r:Bool},r=isIvV a o c→Calls Tryz.prog 79 #[.agg #[.bool f1,.string f2,.bool false,.string f3,.bool f4,.string f5,.bool false,.string f6,.bool f7,.bool t1,.string t2,.bool false,.string t3,.bool t4,.string t5,.bool false,.string t6,.bool t7,.bool o,.bool c]] w (fun e w'=>e = .returned (.bool r)∧Keep [] w w')→Calls Tryz.prog 79 #[.agg #[.bool f1,.string f2,.bool false,.string f3,.bool f4,.string f5,.bool false,.string f6,.bool f7,.bool t1,.string t2,.bool false,.string t3,.bool t4,.string t5,.bool false,.string t6,.bool t7,.bool o,.bool c]] w (fun e w'=>e = .returned (.bool (isIvV a o c))∧Keep [] w w'):=fun h h2=>by rw [← h];exact h2
 rcases ha with rfl|rfl|rfl
 ·refine done (r:=true) rfl ?_
  clear done
  go_enter Tryz.func79,Tryz.ntmps79
  go_wp2_with fail
  obtain⟨W,ga,hW,ega,Bga,hga,hgW,HkW⟩:=al1h w (.cells #[.bool f1,.string f2,.bool false,.string f3,.bool f4,.string f5,.bool false,.string f6,.bool f7,.bool t1,.string t2,.bool false,.string t3,.bool t4,.string t5,.bool false,.string t6,.bool t7,.bool o,.bool c] 32)
  rw [← hW]
  try rw [ega]
  clear hW ega
  obtain⟨pga,fga,lga⟩:=jQ Bga
  go_wp2_with fail
  refine (H1.out _).mono ?_
  rintro e w1 ⟨rfl,hk_w1⟩
  dsimp only
  clear pga fga lga
  replace Bga:=jH hk_w1 Bga
  replace HkW:=jX (HkW.out.trans0 hk_w1)
  clear hk_w1
  obtain⟨pga,fga,lga⟩:=jQ Bga
  go_wp2_with fail
  go_ret
  exact ⟨rfl,by repeat (first|(with_reducible exact HkW.out)|(refine Keep.setPast ?_ _ _ _ (by omega))|(refine Keep.allocPast ?_ _)|(refine Keep.drewPast ?_))⟩
 ·cases o
  ·refine done (r:=!c) (by cases c<;>rfl) ?_
   clear done
   cases c
   all_goals
    go_enter Tryz.func79,Tryz.ntmps79
    go_wp2_with fail
    obtain⟨W,ga,hW,ega,Bga,hga,hgW,HkW⟩:=al1h w (.cells #[.bool f1,.string f2,.bool false,.string f3,.bool f4,.string f5,.bool false,.string f6,.bool f7,.bool t1,.string t2,.bool false,.string t3,.bool t4,.string t5,.bool false,.string t6,.bool t7,.bool false,.bool _] 32)
    rw [← hW]
    try rw [ega]
    clear hW ega
    obtain⟨pga,fga,lga⟩:=jQ Bga
    go_wp2_with fail
    refine (H1.out _).mono ?_
    rintro e w1 ⟨rfl,hk_w1⟩
    dsimp only
    clear pga fga lga
    replace Bga:=jH hk_w1 Bga
    replace HkW:=jX (HkW.out.trans0 hk_w1)
    clear hk_w1
    obtain⟨pga,fga,lga⟩:=jQ Bga
    go_wp2_with fail
    go_ret
    exact ⟨rfl,by repeat (first|(with_reducible exact HkW.out)|(refine Keep.setPast ?_ _ _ _ (by omega))|(refine Keep.allocPast ?_ _)|(refine Keep.drewPast ?_))⟩
  refine done (r:=false) rfl ?_
  clear done
  go_enter Tryz.func79,Tryz.ntmps79
  go_wp2_with fail
  obtain⟨W,ga,hW,ega,Bga,hga,hgW,HkW⟩:=al1h w (.cells #[.bool f1,.string f2,.bool false,.string f3,.bool f4,.string f5,.bool false,.string f6,.bool f7,.bool t1,.string t2,.bool false,.string t3,.bool t4,.string t5,.bool false,.string t6,.bool t7,.bool true,.bool c] 32)
  rw [← hW]
  try rw [ega]
  clear hW ega
  obtain⟨pga,fga,lga⟩:=jQ Bga
  go_wp2_with fail
  refine (H1.out _).mono ?_
  rintro e w1 ⟨rfl,hk_w1⟩
  dsimp only
  clear pga fga lga
  replace Bga:=jH hk_w1 Bga
  replace HkW:=jX (HkW.out.trans0 hk_w1)
  clear hk_w1
  obtain⟨pga,fga,lga⟩:=jQ Bga
  go_wp2_with fail
  go_ret
  exact ⟨rfl,by repeat (first|(with_reducible exact HkW.out)|(refine Keep.setPast ?_ _ _ _ (by omega))|(refine Keep.allocPast ?_ _)|(refine Keep.drewPast ?_))⟩
 refine done (r:=false) rfl ?_
 clear done
 go_enter Tryz.func79,Tryz.ntmps79
 go_wp2_with fail
 obtain⟨W,ga,hW,ega,Bga,hga,hgW,HkW⟩:=al1h w (.cells #[.bool f1,.string f2,.bool false,.string f3,.bool f4,.string f5,.bool false,.string f6,.bool f7,.bool t1,.string t2,.bool false,.string t3,.bool t4,.string t5,.bool false,.string t6,.bool t7,.bool o,.bool c] 32)
 rw [← hW]
 try rw [ega]
 clear hW ega
 obtain⟨pga,fga,lga⟩:=jQ Bga
 go_wp2_with fail
 refine (H1.out _).mono ?_
 rintro e w1 ⟨rfl,hk_w1⟩
 dsimp only
 clear pga fga lga
 replace Bga:=jH hk_w1 Bga
 replace HkW:=jX (HkW.out.trans0 hk_w1)
 clear hk_w1
 obtain⟨pga,fga,lga⟩:=jQ Bga
 go_wp2_with fail
 go_ret
 exact ⟨rfl,by repeat (first|(with_reducible exact HkW.out)|(refine Keep.setPast ?_ _ _ _ (by omega))|(refine Keep.allocPast ?_ _)|(refine Keep.drewPast ?_))⟩
section
open Classical
theorem OE.lt {α:Type} {enc:α→List Value} {e:TypeId} {k:Nat} {w0 w:World} {v:Value} {l:List α} (h:OE enc e k w0 w v l):∀ g,v.ownBlock=some g→g<w.heap.size:=by
 intro g hg
 rcases h.row.2 with ⟨rfl,_⟩|⟨g',cap,cur,rfl,hb,hgg,_⟩
 ·cases hg
 simp [Value.ownBlock] at hg
 subst hg
 exact lt_of_heap hgg
theorem iv_b01r (f1 f4 f7 t1 t4 t7:Bool) (f2 f3 f5 f6 t2 t3 t5 t6:ByteArray):Tryz.prog.built 32 [(0,.agg #[.bool f1,.string f2,.bool false,.string f3,.bool f4,.string f5,.bool false,.string f6,.bool f7]),(1,.agg #[.bool t1,.string t2,.bool false,.string t3,.bool t4,.string t5,.bool false,.string t6,.bool t7])]=some #[.bool f1,.string f2,.bool false,.string f3,.bool f4,.string f5,.bool false,.string f6,.bool f7,.bool t1,.string t2,.bool false,.string t3,.bool t4,.string t5,.bool false,.string t6,.bool t7,.bool false,.bool false]:=by kernel_rfl
theorem iv_b01 (x y:K):Tryz.prog.built 32 [(0,kv x),(1,kv y)]=some (iC ⟨⟨x,false⟩,⟨y,true⟩⟩):=iv_b01r _ _ _ _ _ _ _ _ _ _ _ _ _ _
end
noncomputable def combK (op:Int) (a b:List (Iv K)):List (Iv K):=cells (decV op) a b (sortS (ptsL (a++b)))
theorem ptsL_mem {l:List (Iv K)} {x:K}:x∈ptsL l↔∃ i∈l,x=i.f.pt∨x=i.l.pt:=by
 unfold ptsL
 rw [List.mem_flatMap]
 simp
theorem endsOf_all {l a:List (Iv K)} (h:∀ i∈a,i∈l):EndsOf (sortS (ptsL l)) a :=
 ⟨sortS_ord _,fun i hi=>sortS_mem.2 (ptsL_mem.2 ⟨i,h i hi,.inl rfl⟩),fun i hi=>sortS_mem.2 (ptsL_mem.2 ⟨i,h i hi,.inr rfl⟩)⟩
theorem combK_norm (op:Int) (a b:List (Iv K)):Norm (combK op a b) :=
 (cells_law (decV_zero op) (endsOf_all (l:=a++b) (fun i hi=>List.mem_append_left _ hi)) (endsOf_all (l:=a++b) (fun i hi=>List.mem_append_right _ hi))).1
theorem combK_has (op:Int) (a b:List (Iv K)) (x:Bd K):hasL (combK op a b) x=decV op (hasL a x) (hasL b x) :=
 (cells_law (decV_zero op) (endsOf_all (l:=a++b) (fun i hi=>List.mem_append_left _ hi)) (endsOf_all (l:=a++b) (fun i hi=>List.mem_append_right _ hi))).2 x
def PtsIn (S:List K) (l:List (Iv K)):Prop:=∀ i∈l,i.f.pt∈S∧i.l.pt∈S
theorem PtsIn.mono {S T:List K} {l:List (Iv K)} (h:PtsIn S l) (hT:∀ x∈S,x∈T):PtsIn T l:=fun i hi=>⟨hT _ (h i hi).1,hT _ (h i hi).2⟩
theorem PtsIn.nil (S:List K):PtsIn S []:=fun _ h=>by cases h
theorem PtsIn.app {S:List K} {l m:List (Iv K)} (h:PtsIn S l) (k:PtsIn S m):PtsIn S (l++m):=fun i hi=>by
 rcases List.mem_append.1 hi with hi|hi
 ·exact h i hi
 exact k i hi
theorem PtsIn.sub {S:List K} {l m:List (Iv K)} (h:PtsIn S l) (hm:∀ i∈m,i∈l):PtsIn S m:=fun i hi=>h i (hm i hi)
theorem NormF.pair {l:List (Iv K)}:∀ {b:Bd K},NormF l b→(∀ i∈l,b<i.f)∧l.Pairwise (fun i j=>i.l<j.f):=by
 induction l with
 | nil=>intro b _;exact ⟨by simp,List.Pairwise.nil⟩
 | cons i l ih =>
  intro b h
  obtain⟨h1,h2,h3⟩:=h
  obtain⟨k1,k2⟩:=ih h3
  refine ⟨fun j hj=>?_,List.pairwise_cons.2 ⟨k1,k2⟩⟩
  rcases List.mem_cons.1 hj with rfl|hj
  ·exact h1
  have:=k1 j hj;grind
theorem NormF.val {l:List (Iv K)}:∀ {b:Bd K},NormF l b→∀ i∈l,i.f<i.l:=by
 induction l with
 | nil=>intro b _ i hi;cases hi
 | cons j l ih =>
  intro b h i hi
  rcases List.mem_cons.1 hi with rfl|hi
  ·exact h.2.1
  exact ih h.2.2 i hi
theorem Norm.val {l:List (Iv K)} (h:Norm l):∀ i∈l,i.f<i.l:=by
 cases l with
 | nil=>intro i hi;cases hi
 | cons j l =>
  intro i hi
  rcases List.mem_cons.1 hi with rfl|hi
  ·exact h.1
  exact h.2.val i hi
theorem Norm.pair {l:List (Iv K)} (h:Norm l):l.Pairwise (fun i j=>i.l<j.f):=by
 cases l with
 | nil=>exact List.Pairwise.nil
 | cons j l=>exact List.pairwise_cons.2 ⟨h.2.pair.1,h.2.pair.2⟩
theorem NormF.of {l:List (Iv K)}:∀ {b:Bd K},(∀ i∈l,b<i.f)→(∀ i∈l,i.f<i.l)→l.Pairwise (fun i j=>i.l<j.f)→NormF l b:=by
 induction l with
 | nil=>intro b _ _ _;trivial
 | cons i l ih =>
  intro b h1 h2 h3
  obtain⟨h4,h5⟩:=List.pairwise_cons.1 h3
  exact ⟨h1 i (by simp),h2 i (by simp),ih h4 (fun j hj=>h2 j (by simp [hj])) h5⟩
theorem Norm.of {l:List (Iv K)} (h2:∀ i∈l,i.f<i.l) (h3:l.Pairwise (fun i j=>i.l<j.f)):Norm l:=by
 cases l with
 | nil=>trivial
 | cons i l =>
  obtain⟨h4,h5⟩:=List.pairwise_cons.1 h3
  exact ⟨h2 i (by simp),NormF.of h4 (fun j hj=>h2 j (by simp [hj])) h5⟩
structure Per (S:List K) (l:List (Iv K)):Prop where
 norm:Norm l
 pts:PtsIn S l
theorem Per.nil (S:List K):Per S []:=⟨trivial,PtsIn.nil S⟩
theorem combK_eq {op:Int} {a b l:List (Iv K)} (hl:Norm l) (h:∀ x,hasL l x=decV op (hasL a x) (hasL b x)):combK op a b=l :=
 norm_unique (combK_norm op a b) hl (fun x=>by rw [combK_has,h])
open Classical in
noncomputable def ofQ (p r:Rat) (neg:Bool):Qn:=if h:∃ q:Rat,0≤q∧q*q=r then ⟨if neg then p-h.choose else p+h.choose,0,false⟩ else ⟨p,r,neg⟩
theorem root_eq {a b:Rat} (ha:0≤a) (hb:0≤b) (h:a*a=b*b):a=b:=by
 have h1:(a-b)*(a+b)=0:=by grind
 rcases Rat.mul_eq_zero.1 h1 with h2|h2<;>grind
theorem ofQ_yes {p r q:Rat} {neg:Bool} (h:0≤q∧q*q=r):ofQ p r neg=⟨if neg then p-q else p+q,0,false⟩:=by
 have hx:∃ q:Rat,0≤q∧q*q=r:=⟨q,h⟩
 unfold ofQ
 rw [dif_pos hx]
 have:=hx.choose_spec
 rw [root_eq h.1 this.1 (by rw [h.2,this.2])]
theorem ofQ_no {p r:Rat} {neg:Bool} (h:∀ q:Rat,q*q≠r):ofQ p r neg=⟨p,r,neg⟩:=by
 unfold ofQ
 rw [dif_neg]
 rintro ⟨q,_,hq⟩
 exact h q hq
theorem nonneg_root {q r:Rat} (h:q*q=r):∃ q':Rat,0≤q'∧q'*q'=r:=by
 rcases Rat.le_total (a:=0) (b:=q) with h1|h1
 ·exact ⟨q,h1,h⟩
 exact ⟨-q,by grind,by grind⟩
theorem ofQ_ok {p r:Rat} {neg:Bool} (hr:0≤r):(ofQ p r neg).Ok:=by
 by_cases h:∃ q:Rat,q*q=r
 ·obtain⟨q,hq⟩:=h
  obtain⟨q',h1,h2⟩:=nonneg_root hq
  rw [ofQ_yes ⟨h1,h2⟩]
  exact ⟨by show (0:Rat)≤0;grind,fun _=>rfl,fun h=>absurd rfl h⟩
 have h':∀ q:Rat,q*q≠r:=fun q hq=>h ⟨q,hq⟩
 rw [ofQ_no h']
 refine ⟨hr,fun h0=>?_,fun _=>h'⟩
 have h0:r=0:=h0
 exact absurd (show (0:Rat)*0=r by rw [h0];grind) (h' 0)
theorem fit_root {k:Nat} {q r:Rat} (hr:FitQ k r) (h:q*q=r):FitQ k q:=by
 have hp:=sq_parts q
 rw [h] at hp
 constructor
 ·have h1:=Fit_iff.1 hr.1
  rw [hp.1,Int.natAbs_mul] at h1
  exact Fit_iff.2 (Nat.lt_of_le_of_lt (Nat.le_mul_self _) h1)
 have h1:=Fit_iff.1 hr.2
 rw [hp.2] at h1
 refine Fit_iff.2 (Nat.lt_of_le_of_lt ?_ h1)
 have:=Nat.le_mul_self q.den
 show q.den≤q.den*q.den
 exact this
theorem fit0:FitQ 1 0:=by refine ⟨?_,?_⟩<;>rw [Fit_iff]<;>decide
theorem ofQ_fit {k l:Nat} {p r:Rat} {neg:Bool} (hp:FitQ k p) (hr:FitQ l r):FitR (k+l+1) (ofQ p r neg):=by
 by_cases h:∃ q:Rat,q*q=r
 ·obtain⟨q,hq⟩:=h
  obtain⟨q',h1,h2⟩:=nonneg_root hq
  rw [ofQ_yes ⟨h1,h2⟩]
  refine ⟨?_,fit0.mono (by omega)⟩
  cases neg
  ·exact hp.add (fit_root hr h2)
  exact hp.sub (fit_root hr h2)
 rw [ofQ_no (fun q hq=>h ⟨q,hq⟩)]
 exact ⟨hp.mono (by omega),hr.mono (by omega)⟩
structure InsA where
 P:Nat
 D:Nat
 R:Nat
 E:Nat
 neg:Bool
 hP:P≤255
 hD:D≤255
 hR:R≤255
 hE:E≤255
def InsA.v (a:InsA):Value:=.agg #[.int .u8 a.P,.int .u8 a.D,.int .u8 a.R,.int .u8 a.E,.bool a.neg]
def InsA.p (a:InsA):Rat:=Rat.divInt ((a.P:Int) % 64) (1+(a.D:Int) % 4)
def InsA.r (a:InsA):Rat:=Rat.divInt ((a.R:Int) % 12) (1+(a.E:Int) % 3)
theorem fit_small {a b:Int} (hb:0<b) (ha:a.natAbs<256) (hb2:b.natAbs<256):FitQ 1 (Rat.divInt a b):=by
 obtain⟨B,rfl⟩:∃ B:Nat,b=(B:Int):=⟨b.toNat,by omega⟩
 have hm:mk (sgB a) a.natAbs=a:=mk_self a
 obtain⟨h1,h2⟩:=div_mk (sgB a) a.natAbs B (by omega)
 rw [hm] at h1 h2
 refine ⟨?_,?_⟩
 ·rw [Fit_iff,h1,mk_abs]
  exact Nat.lt_of_le_of_lt (Nat.div_le_self _ _) (by simpa using ha)
 rw [Fit_iff,h2]
 exact Nat.lt_of_le_of_lt (Nat.div_le_self _ _) (by simpa using hb2)
theorem InsA.fp (a:InsA):FitQ 1 a.p:=fit_small (by omega) (by omega) (by omega)
theorem InsA.fr (a:InsA):FitQ 1 a.r:=fit_small (by omega) (by omega) (by omega)
theorem InsA.rnn (a:InsA):0≤a.r:=by
 unfold InsA.r
 rw [Rat.divInt_nonneg_iff_of_pos_right (by omega)]
 omega
noncomputable def InsA.k (a:InsA):K:=⟨ofQ a.p a.r a.neg,ofQ_ok a.rnn,by
 have h:=ofQ_fit (neg:=a.neg) a.fp a.fr
 exact ⟨h.1.mono (by decide),h.2.mono (by decide)⟩⟩
structure SpanA where
 a:InsA
 b:InsA
 oa:Bool
 ob:Bool
def SpanA.v (s:SpanA):Value:=.agg #[.int .u8 s.a.P,.int .u8 s.a.D,.int .u8 s.a.R,.int .u8 s.a.E,.bool s.a.neg,.int .u8 s.b.P,.int .u8 s.b.D,.int .u8 s.b.R,.int .u8 s.b.E,.bool s.b.neg,.bool s.oa,.bool s.ob]
theorem al_iv (ev:Operand→Value) (w:World) (o:Oper) (ho:o.op = .alloc 32):(execOp ev o).run Tryz.prog w = .ok (.value (.pointer (some ⟨w.heap.size,0,none⟩))) (w.alloc (.cells #[.bool false,.string ⟨#[]⟩,.bool false,.string ⟨#[]⟩,.bool false,.string ⟨#[]⟩,.bool false,.string ⟨#[]⟩,.bool false,.bool false,.string ⟨#[]⟩,.bool false,.string ⟨#[]⟩,.bool false,.string ⟨#[]⟩,.bool false,.string ⟨#[]⟩,.bool false,.bool false,.bool false] 32)):=by
 unfold execOp
 simp only [ho]
 go_simp
def spcells (s:SpanA):List Value:=[.int .u8 s.a.P,.int .u8 s.a.D,.int .u8 s.a.R,.int .u8 s.a.E,.bool s.a.neg,.int .u8 s.b.P,.int .u8 s.b.D,.int .u8 s.b.R,.int .u8 s.b.E,.bool s.b.neg,.bool s.oa,.bool s.ob]
theorem spcells_len (s:SpanA):(spcells s).length=12:=rfl
abbrev SpR:=RowE (fun s:SpanA=>spcells s)
theorem SpR.elem {w:World} {a:Option Addr} {n c:Nat} {l:List SpanA} (h:SpR w (.slice a n c) l) (i:Nat) (hi:i<l.length):∃ g o,a=some ⟨g,o,none⟩∧g<w.heap.size∧∀ j v,(spcells l[i])[j]? = some v→w.cell? ⟨g,o+i*12+j,none⟩=some v:=RowE.elem spcells_len h i hi
def SpQ (w:World) (v:Value) (l:List SpanA):Prop:=∃ (a:Option Addr) (c:Nat),v = .slice a l.length c∧(l=[]∨SpR w v l)
theorem SpQ.elem {w:World} {a:Option Addr} {n c:Nat} {l:List SpanA} (h:SpQ w (.slice a n c) l) (i:Nat) (hi:i<l.length):∃ g o,a=some ⟨g,o,none⟩∧g<w.heap.size∧∀ j v,(spcells l[i])[j]? = some v→w.cell? ⟨g,o+i*12+j,none⟩=some v:=by
 obtain⟨_,_,_,h|h⟩:=h
 ·subst h;simp at hi
 exact SpR.elem h i hi
theorem SpQ.later {w w':World} {v:Value} {l:List SpanA} (h:SpQ w v l) (hk:Keep [] w w'):SpQ w' v l:=by
 obtain⟨a,c,h1,h2⟩:=h
 exact ⟨a,c,h1,h2.imp id (fun h=>h.later hk)⟩
end Go.Proofs.YtpgffjjpiafhpaaGreatDoor
