/- Parts of a proof: So Sr. -/
import Derived.Test.YtejegogbhpmgfaaGreatDoorG29
import Derived.Test.YtejegogbhpmgfaaGreatDoorG11
set_option linter.unusedVariables false
set_option linter.unusedSimpArgs false
set_option maxRecDepth 100000
set_option maxHeartbeats 8000000
namespace Go.Proofs.YtejegogbhpmgfaaGreatDoor
open Go.RowKit Tryz
theorem side_c (x:Qn) (w:World):Calls prog 83 #[qv x] w fun e w'=>e = .returned (.int .i64 (ybV x))∧Keep [] w w':=by
 unfold ybV qv;generalize sgB (x.p).num=a1 at *;generalize mgS (x.p).num=a2 at *;generalize dnS (x.p).den=a3 at *;generalize sgB (x.r).num=a4 at *;generalize mgS (x.r).num=a5 at *;generalize dnS (x.r).den=a6 at *;generalize x.neg=n at *;cases n
 all_goals
  go_enter func83,ntmps83
  go_wp2_with fail;obtain⟨W,ga,hW,ega,Bga,hga,hgW,HkW⟩:=al1h w (.cells #[.bool a1,.string a2,.bool false,.string a3,.bool a4,.string a5,.bool false,.string a6,.bool _] 36);rw [← hW];try rw [ega]
  clear hW ega;obtain⟨pga,fga,lga⟩:=jQ Bga;go_wp2_with fail;go_ret
  exact ⟨rfl,by repeat (first|(with_reducible exact HkW.out)|(refine Keep.sP ?_ _ _ _ (by omega))|(refine Keep.aP ?_ _)|(refine Keep.dP ?_))⟩
theorem fcmp_c (x y:Qn) (hx:FitR 200000 x) (hy:FitR 200000 y) (w:World) :
  Calls prog 38 #[qv x,qv y] w fun e w'=>e = .returned (.int .i64 (cmpQ x y))∧Keep [] w w':=by
 have hd:=hx.1.sub hy.1;have H1:=jX (yin x.p y.p (hx.1.mono (by decide)) (hy.1.mono (by decide)));have H2:=jX (sign2_c (x.p-y.p) (ybV x) x.r (ybV y) y.r (yda x) (yda y) (hd.mono (by decide)) (hx.2.mono (by decide)) (hy.2.mono (by decide)));have H3:=jX (side_c x);have H4:=jX (side_c y);rw [← d2_cmp];generalize d2 (x.p-y.p) (ybV x) x.r (ybV y) y.r=n at *;generalize ybV x=u at *;generalize ybV y=v at *;unfold qv at *;unfold rv at *;generalize sgB (x.p-y.p).num=dn at *;generalize mgS (x.p-y.p).num=ds at *;generalize dnS (x.p-y.p).den=de at *;generalize sgB (x.p).num=a1 at *;generalize mgS (x.p).num=a2 at *;generalize dnS (x.p).den=a3 at *;generalize sgB (x.r).num=a4 at *;generalize mgS (x.r).num=a5 at *;generalize dnS (x.r).den=a6 at *;generalize x.neg=a7 at *;generalize sgB (y.p).num=b1 at *;generalize mgS (y.p).num=b2 at *;generalize dnS (y.p).den=b3 at *;generalize sgB (y.r).num=b4 at *;generalize mgS (y.r).num=b5 at *;generalize dnS (y.r).den=b6 at *;generalize y.neg=b7 at *;clear hx hy hd;unfold signI;by_cases h1:n<0
 ·rw [if_pos h1]
  have t1:decide (n<0)=true:=by simpa using h1
  clear h1;go_enter func38,ntmps38
  go_wp2_with fail;obtain⟨W,ga,gb,hW,ega,egb,Bga,Bgb,hga,hgb,hgW,HkW⟩:=al2h w (.cells #[.bool a1,.string a2,.bool false,.string a3,.bool a4,.string a5,.bool false,.string a6,.bool a7] 36) (.cells #[.bool b1,.string b2,.bool false,.string b3,.bool b4,.string b5,.bool false,.string b6,.bool b7] 36);rw [← hW];try rw [egb]
  try rw [ega]
  clear hW ega egb;have kga:=yag Bga.out;have kgb:=yag Bgb.out;have Q1:Hid (∀ m:KW W,Calls prog 82 #[.agg #[.bool a1,.string a2,.bool false,.string a3],.agg #[.bool b1,.string b2,.bool false,.string b3]] (Wk W m) fun e w'=>e = .returned (.agg #[.bool dn,.string ds,.bool false,.string de])∧∃ m,w'=Wk W m):=fun m=>qk m (H1.out _);have Q3:Hid (∀ m:KW W,Calls prog 83 #[.agg #[.bool a1,.string a2,.bool false,.string a3,.bool a4,.string a5,.bool false,.string a6,.bool a7]] (Wk W m) fun e w'=>e = .returned (.int .i64 u)∧∃ m,w'=Wk W m):=fun m=>qk m (H3.out _);have Q4:Hid (∀ m:KW W,Calls prog 83 #[.agg #[.bool b1,.string b2,.bool false,.string b3,.bool b4,.string b5,.bool false,.string b6,.bool b7]] (Wk W m) fun e w'=>e = .returned (.int .i64 v)∧∃ m,w'=Wk W m):=fun m=>qk m (H4.out _);have Q2:Hid (∀ m:KW W,Calls prog 81 #[.agg #[.bool dn,.string ds,.bool false,.string de],.int .i64 u,.agg #[.bool a4,.string a5,.bool false,.string a6],.int .i64 v,.agg #[.bool b4,.string b5,.bool false,.string b6]] (Wk W m) fun e w'=>e = .returned (.int .i64 n)∧∃ m,w'=Wk W m):=fun m=>qk m (H2.out _);clear H1 H2 H3 H4;refine yac (by kernel_rfl) (by kernel_rfl) ?_
  repeat (first
   | go_big_quiet_skip
   | (go_big_quiet_want;go_big_quiet_op;first|go_big_quiet_on|go_big_quiet_call (first
    | (go_at_call 82;with_reducible exact (Q1).out _)|(go_at_call 83;with_reducible exact (Q3).out _)|(go_at_call 83;with_reducible exact (Q4).out _)|(go_at_call 81;with_reducible exact (Q2).out _))))
  refine wpQuiet_nil ?_;rintro w1 ⟨⟨_,hk_w1⟩,rfl⟩;clear kga kgb Q1 Q2 Q3 Q4;replace Bga:=jH hk_w1 Bga;replace Bgb:=jH hk_w1 Bgb;replace HkW:=jX (HkW.out.tz hk_w1);clear hk_w1;go_wp2_with fail;go_ret
  exact ⟨rfl,by repeat (first|(with_reducible exact HkW.out)|(refine Keep.sP ?_ _ _ _ (by omega))|(refine Keep.aP ?_ _)|(refine Keep.dP ?_))⟩
 rw [if_neg h1];have t1:decide (n<0)=false:=by simpa using h1
 by_cases h2:0<n
 ·rw [if_pos h2]
  have t2:decide (0<n)=true:=by simpa using h2
  clear h1 h2;go_enter func38,ntmps38
  go_wp2_with fail;obtain⟨W,ga,gb,hW,ega,egb,Bga,Bgb,hga,hgb,hgW,HkW⟩:=al2h w (.cells #[.bool a1,.string a2,.bool false,.string a3,.bool a4,.string a5,.bool false,.string a6,.bool a7] 36) (.cells #[.bool b1,.string b2,.bool false,.string b3,.bool b4,.string b5,.bool false,.string b6,.bool b7] 36);rw [← hW];try rw [egb]
  try rw [ega]
  clear hW ega egb;have kga:=yag Bga.out;have kgb:=yag Bgb.out;have Q1:Hid (∀ m:KW W,Calls prog 82 #[.agg #[.bool a1,.string a2,.bool false,.string a3],.agg #[.bool b1,.string b2,.bool false,.string b3]] (Wk W m) fun e w'=>e = .returned (.agg #[.bool dn,.string ds,.bool false,.string de])∧∃ m,w'=Wk W m):=fun m=>qk m (H1.out _);have Q3:Hid (∀ m:KW W,Calls prog 83 #[.agg #[.bool a1,.string a2,.bool false,.string a3,.bool a4,.string a5,.bool false,.string a6,.bool a7]] (Wk W m) fun e w'=>e = .returned (.int .i64 u)∧∃ m,w'=Wk W m):=fun m=>qk m (H3.out _);have Q4:Hid (∀ m:KW W,Calls prog 83 #[.agg #[.bool b1,.string b2,.bool false,.string b3,.bool b4,.string b5,.bool false,.string b6,.bool b7]] (Wk W m) fun e w'=>e = .returned (.int .i64 v)∧∃ m,w'=Wk W m):=fun m=>qk m (H4.out _);have Q2:Hid (∀ m:KW W,Calls prog 81 #[.agg #[.bool dn,.string ds,.bool false,.string de],.int .i64 u,.agg #[.bool a4,.string a5,.bool false,.string a6],.int .i64 v,.agg #[.bool b4,.string b5,.bool false,.string b6]] (Wk W m) fun e w'=>e = .returned (.int .i64 n)∧∃ m,w'=Wk W m):=fun m=>qk m (H2.out _);clear H1 H2 H3 H4;refine yac (by kernel_rfl) (by kernel_rfl) ?_
  repeat (first
   | go_big_quiet_skip
   | (go_big_quiet_want;go_big_quiet_op;first|go_big_quiet_on|go_big_quiet_call (first
    | (go_at_call 82;with_reducible exact (Q1).out _)|(go_at_call 83;with_reducible exact (Q3).out _)|(go_at_call 83;with_reducible exact (Q4).out _)|(go_at_call 81;with_reducible exact (Q2).out _))))
  refine wpQuiet_nil ?_;rintro w1 ⟨⟨_,hk_w1⟩,rfl⟩;clear kga kgb Q1 Q2 Q3 Q4;replace Bga:=jH hk_w1 Bga;replace Bgb:=jH hk_w1 Bgb;replace HkW:=jX (HkW.out.tz hk_w1);clear hk_w1;go_wp2_with fail;go_ret
  exact ⟨rfl,by repeat (first|(with_reducible exact HkW.out)|(refine Keep.sP ?_ _ _ _ (by omega))|(refine Keep.aP ?_ _)|(refine Keep.dP ?_))⟩
 rw [if_neg h2];have t2:decide (0<n)=false:=by simpa using h2
 clear h1 h2;go_enter func38,ntmps38
 go_wp2_with fail;obtain⟨W,ga,gb,hW,ega,egb,Bga,Bgb,hga,hgb,hgW,HkW⟩:=al2h w (.cells #[.bool a1,.string a2,.bool false,.string a3,.bool a4,.string a5,.bool false,.string a6,.bool a7] 36) (.cells #[.bool b1,.string b2,.bool false,.string b3,.bool b4,.string b5,.bool false,.string b6,.bool b7] 36);rw [← hW];try rw [egb]
 try rw [ega]
 clear hW ega egb;have kga:=yag Bga.out;have kgb:=yag Bgb.out;have Q1:Hid (∀ m:KW W,Calls prog 82 #[.agg #[.bool a1,.string a2,.bool false,.string a3],.agg #[.bool b1,.string b2,.bool false,.string b3]] (Wk W m) fun e w'=>e = .returned (.agg #[.bool dn,.string ds,.bool false,.string de])∧∃ m,w'=Wk W m):=fun m=>qk m (H1.out _);have Q3:Hid (∀ m:KW W,Calls prog 83 #[.agg #[.bool a1,.string a2,.bool false,.string a3,.bool a4,.string a5,.bool false,.string a6,.bool a7]] (Wk W m) fun e w'=>e = .returned (.int .i64 u)∧∃ m,w'=Wk W m):=fun m=>qk m (H3.out _);have Q4:Hid (∀ m:KW W,Calls prog 83 #[.agg #[.bool b1,.string b2,.bool false,.string b3,.bool b4,.string b5,.bool false,.string b6,.bool b7]] (Wk W m) fun e w'=>e = .returned (.int .i64 v)∧∃ m,w'=Wk W m):=fun m=>qk m (H4.out _);have Q2:Hid (∀ m:KW W,Calls prog 81 #[.agg #[.bool dn,.string ds,.bool false,.string de],.int .i64 u,.agg #[.bool a4,.string a5,.bool false,.string a6],.int .i64 v,.agg #[.bool b4,.string b5,.bool false,.string b6]] (Wk W m) fun e w'=>e = .returned (.int .i64 n)∧∃ m,w'=Wk W m):=fun m=>qk m (H2.out _);clear H1 H2 H3 H4;refine yac (by kernel_rfl) (by kernel_rfl) ?_
 repeat (first
  | go_big_quiet_skip
  | (go_big_quiet_want;go_big_quiet_op;first|go_big_quiet_on|go_big_quiet_call (first
   | (go_at_call 82;with_reducible exact (Q1).out _)|(go_at_call 83;with_reducible exact (Q3).out _)|(go_at_call 83;with_reducible exact (Q4).out _)|(go_at_call 81;with_reducible exact (Q2).out _))))
 refine wpQuiet_nil ?_;rintro w1 ⟨⟨_,hk_w1⟩,rfl⟩;clear kga kgb Q1 Q2 Q3 Q4;replace Bga:=jH hk_w1 Bga;replace Bgb:=jH hk_w1 Bgb;replace HkW:=jX (HkW.out.tz hk_w1);clear hk_w1;go_wp2_with fail;go_ret
 exact ⟨rfl,by repeat (first|(with_reducible exact HkW.out)|(refine Keep.sP ?_ _ _ _ (by omega))|(refine Keep.aP ?_ _)|(refine Keep.dP ?_))⟩
theorem yfa (x y:K) (w:World):Calls prog 38 #[kv x,kv y] w fun e w'=>e = .returned (.int .i64 (cmpQ x.1 y.1))∧Keep [] w w' :=
 fcmp_c x.1 y.1 ⟨x.2.2.1.mono (by decide),x.2.2.2.mono (by decide)⟩ ⟨y.2.2.1.mono (by decide),y.2.2.2.mono (by decide)⟩ w
def inV (a:Int) (o:Bool):Bool:=decide (a<0) || (a == 0 && !o)
theorem inV_f (i:Iv K) (t:K):inV (cmpQ i.f.pt.1 t.1) i.f.beh=true↔i.f≤⟨t,false⟩:=by
 unfold inV;rw [Bd.le_def];rcases K.tri i.f.pt t with ⟨h,g⟩|⟨h,g⟩|⟨h,g⟩<;>rw [h]<;>cases i.f.beh<;>simp<;>grind
theorem inV_l (i:Iv K) (t:K):inV (cmpQ t.1 i.l.pt.1) (!i.l.beh)=true↔(⟨t,true⟩:Bd K)≤i.l:=by
 unfold inV;rw [Bd.le_def];rcases K.tri t i.l.pt with ⟨h,g⟩|⟨h,g⟩|⟨h,g⟩<;>rw [h]<;>cases i.l.beh<;>simp<;>grind
open Classical in
theorem inV_in (i:Iv K) (t:K):(inV (cmpQ i.f.pt.1 t.1) i.f.beh&&inV (cmpQ t.1 i.l.pt.1) (!i.l.beh))=decide (i.f≤⟨t,false⟩∧(⟨t,true⟩:Bd K)≤i.l):=by
 rw [Bool.eq_iff_iff,Bool.and_eq_true,inV_f,inV_l,decide_eq_true_iff]
theorem in_c (i:Iv K) (y:K) (w:World) :
  Calls prog 69 #[iv i,kv y] w fun e w'=>e = .returned (.bool (inV (cmpQ i.f.pt.1 y.1) i.f.beh&&inV (cmpQ y.1 i.l.pt.1) (!i.l.beh)))∧Keep [] w w':=by
 have H1:=jX (yfa i.f.pt y);have H2:=jX (yfa y i.l.pt);have ha:cmpQ i.f.pt.1 y.1 = -1∨cmpQ i.f.pt.1 y.1=0∨cmpQ i.f.pt.1 y.1=1:=by rcases K.tri i.f.pt y with h|h|h<;>simp [h.1]
 have hb:cmpQ y.1 i.l.pt.1 = -1∨cmpQ y.1 i.l.pt.1=0∨cmpQ y.1 i.l.pt.1=1:=by rcases K.tri y i.l.pt with h|h|h<;>simp [h.1]
 generalize cmpQ i.f.pt.1 y.1=a at *;generalize cmpQ y.1 i.l.pt.1=b at *;rw [ybk,yaI];rw [yaI,yaI] at H1 H2;generalize sgB (i.f.pt.1).p.num=f1 at *;generalize mgS (i.f.pt.1).p.num=f2 at *;generalize dnS (i.f.pt.1).p.den=f3 at *;generalize sgB (i.f.pt.1).r.num=f4 at *;generalize mgS (i.f.pt.1).r.num=f5 at *;generalize dnS (i.f.pt.1).r.den=f6 at *;generalize (i.f.pt.1).neg=f7 at *;generalize sgB (i.l.pt.1).p.num=t1 at *;generalize mgS (i.l.pt.1).p.num=t2 at *;generalize dnS (i.l.pt.1).p.den=t3 at *;generalize sgB (i.l.pt.1).r.num=t4 at *;generalize mgS (i.l.pt.1).r.num=t5 at *;generalize dnS (i.l.pt.1).r.den=t6 at *;generalize (i.l.pt.1).neg=t7 at *;generalize sgB (y.1).p.num=x1 at *;generalize mgS (y.1).p.num=x2 at *;generalize dnS (y.1).p.den=x3 at *;generalize sgB (y.1).r.num=x4 at *;generalize mgS (y.1).r.num=x5 at *;generalize dnS (y.1).r.den=x6 at *;generalize (y.1).neg=x7 at *;generalize i.f.beh=o at *;generalize (!i.l.beh)=c at *;have done:∀ {r:Bool},r=(inV a o&&inV b c)→Calls prog 69 #[.agg #[.bool f1,.string f2,.bool false,.string f3,.bool f4,.string f5,.bool false,.string f6,.bool f7,.bool t1,.string t2,.bool false,.string t3,.bool t4,.string t5,.bool false,.string t6,.bool t7,.bool o,.bool c],.agg #[.bool x1,.string x2,.bool false,.string x3,.bool x4,.string x5,.bool false,.string x6,.bool x7]] w (fun e w'=>e = .returned (.bool r)∧Keep [] w w')→Calls prog 69 #[.agg #[.bool f1,.string f2,.bool false,.string f3,.bool f4,.string f5,.bool false,.string f6,.bool f7,.bool t1,.string t2,.bool false,.string t3,.bool t4,.string t5,.bool false,.string t6,.bool t7,.bool o,.bool c],.agg #[.bool x1,.string x2,.bool false,.string x3,.bool x4,.string x5,.bool false,.string x6,.bool x7]] w (fun e w'=>e = .returned (.bool (inV a o&&inV b c))∧Keep [] w w'):=fun h h2=>by rw [← h];exact h2
 rcases ha with rfl|rfl|rfl
 ·rcases hb with rfl|rfl|rfl
  ·refine done (r:=true) rfl ?_
   clear done;go_enter func69,ntmps69
   go_wp2_with fail;obtain⟨W,ga,gb,hW,ega,egb,Bga,Bgb,hga,hgb,hgW,HkW⟩:=al2h w (.cells #[.bool f1,.string f2,.bool false,.string f3,.bool f4,.string f5,.bool false,.string f6,.bool f7,.bool t1,.string t2,.bool false,.string t3,.bool t4,.string t5,.bool false,.string t6,.bool t7,.bool o,.bool c] 49) (.cells #[.bool x1,.string x2,.bool false,.string x3,.bool x4,.string x5,.bool false,.string x6,.bool x7] 36);rw [← hW];try rw [egb]
   try rw [ega]
   clear hW ega egb;have kga:=yag Bga.out;have kgb:=yag Bgb.out;have Q1:Hid (∀ m:KW W,Calls prog 38 #[.agg #[.bool f1,.string f2,.bool false,.string f3,.bool f4,.string f5,.bool false,.string f6,.bool f7],.agg #[.bool x1,.string x2,.bool false,.string x3,.bool x4,.string x5,.bool false,.string x6,.bool x7]] (Wk W m) fun e w'=>e = .returned (.int .i64 _)∧∃ m,w'=Wk W m):=fun m=>qk m (H1.out _);have Q2:Hid (∀ m:KW W,Calls prog 38 #[.agg #[.bool x1,.string x2,.bool false,.string x3,.bool x4,.string x5,.bool false,.string x6,.bool x7],.agg #[.bool t1,.string t2,.bool false,.string t3,.bool t4,.string t5,.bool false,.string t6,.bool t7]] (Wk W m) fun e w'=>e = .returned (.int .i64 _)∧∃ m,w'=Wk W m):=fun m=>qk m (H2.out _);refine yac (by kernel_rfl) (by kernel_rfl) ?_
   repeat (first
    | go_big_quiet_skip
    | (go_big_quiet_want;go_big_quiet_op;first|go_big_quiet_on|go_big_quiet_call (first
     | (go_at_call 38;with_reducible exact (Q1).out _)|(go_at_call 38;with_reducible exact (Q2).out _))))
   refine wpQuiet_nil ?_;rintro w1 ⟨⟨_,hk_w1⟩,rfl⟩;clear kga kgb Q1 Q2;replace Bga:=jH hk_w1 Bga;replace Bgb:=jH hk_w1 Bgb;replace HkW:=jX (HkW.out.tz hk_w1);clear hk_w1;obtain⟨pga,fga,lga⟩:=jQ Bga;go_wp2_with fail;go_ret
   exact ⟨rfl,by repeat (first|(with_reducible exact HkW.out)|(refine Keep.sP ?_ _ _ _ (by omega))|(refine Keep.aP ?_ _)|(refine Keep.dP ?_))⟩
  ·refine done (r:=!c) (by cases c<;>rfl) ?_
   clear done;cases c
   all_goals
    go_enter func69,ntmps69
    go_wp2_with fail;obtain⟨W,ga,gb,hW,ega,egb,Bga,Bgb,hga,hgb,hgW,HkW⟩:=al2h w (.cells #[.bool f1,.string f2,.bool false,.string f3,.bool f4,.string f5,.bool false,.string f6,.bool f7,.bool t1,.string t2,.bool false,.string t3,.bool t4,.string t5,.bool false,.string t6,.bool t7,.bool o,.bool _] 49) (.cells #[.bool x1,.string x2,.bool false,.string x3,.bool x4,.string x5,.bool false,.string x6,.bool x7] 36);rw [← hW];try rw [egb]
    try rw [ega]
    clear hW ega egb;have kga:=yag Bga.out;have kgb:=yag Bgb.out;have Q1:Hid (∀ m:KW W,Calls prog 38 #[.agg #[.bool f1,.string f2,.bool false,.string f3,.bool f4,.string f5,.bool false,.string f6,.bool f7],.agg #[.bool x1,.string x2,.bool false,.string x3,.bool x4,.string x5,.bool false,.string x6,.bool x7]] (Wk W m) fun e w'=>e = .returned (.int .i64 _)∧∃ m,w'=Wk W m):=fun m=>qk m (H1.out _);have Q2:Hid (∀ m:KW W,Calls prog 38 #[.agg #[.bool x1,.string x2,.bool false,.string x3,.bool x4,.string x5,.bool false,.string x6,.bool x7],.agg #[.bool t1,.string t2,.bool false,.string t3,.bool t4,.string t5,.bool false,.string t6,.bool t7]] (Wk W m) fun e w'=>e = .returned (.int .i64 _)∧∃ m,w'=Wk W m):=fun m=>qk m (H2.out _);refine yac (by kernel_rfl) (by kernel_rfl) ?_
    repeat (first
     | go_big_quiet_skip
     | (go_big_quiet_want;go_big_quiet_op;first|go_big_quiet_on|go_big_quiet_call (first
      | (go_at_call 38;with_reducible exact (Q1).out _)|(go_at_call 38;with_reducible exact (Q2).out _))))
    refine wpQuiet_nil ?_;rintro w1 ⟨⟨_,hk_w1⟩,rfl⟩;clear kga kgb Q1 Q2;replace Bga:=jH hk_w1 Bga;replace Bgb:=jH hk_w1 Bgb;replace HkW:=jX (HkW.out.tz hk_w1);clear hk_w1;obtain⟨pga,fga,lga⟩:=jQ Bga;go_wp2_with fail;go_ret
    exact ⟨rfl,by repeat (first|(with_reducible exact HkW.out)|(refine Keep.sP ?_ _ _ _ (by omega))|(refine Keep.aP ?_ _)|(refine Keep.dP ?_))⟩
  refine done (r:=false) rfl ?_;clear done;go_enter func69,ntmps69
  go_wp2_with fail;obtain⟨W,ga,gb,hW,ega,egb,Bga,Bgb,hga,hgb,hgW,HkW⟩:=al2h w (.cells #[.bool f1,.string f2,.bool false,.string f3,.bool f4,.string f5,.bool false,.string f6,.bool f7,.bool t1,.string t2,.bool false,.string t3,.bool t4,.string t5,.bool false,.string t6,.bool t7,.bool o,.bool c] 49) (.cells #[.bool x1,.string x2,.bool false,.string x3,.bool x4,.string x5,.bool false,.string x6,.bool x7] 36);rw [← hW];try rw [egb]
  try rw [ega]
  clear hW ega egb;have kga:=yag Bga.out;have kgb:=yag Bgb.out;have Q1:Hid (∀ m:KW W,Calls prog 38 #[.agg #[.bool f1,.string f2,.bool false,.string f3,.bool f4,.string f5,.bool false,.string f6,.bool f7],.agg #[.bool x1,.string x2,.bool false,.string x3,.bool x4,.string x5,.bool false,.string x6,.bool x7]] (Wk W m) fun e w'=>e = .returned (.int .i64 _)∧∃ m,w'=Wk W m):=fun m=>qk m (H1.out _);have Q2:Hid (∀ m:KW W,Calls prog 38 #[.agg #[.bool x1,.string x2,.bool false,.string x3,.bool x4,.string x5,.bool false,.string x6,.bool x7],.agg #[.bool t1,.string t2,.bool false,.string t3,.bool t4,.string t5,.bool false,.string t6,.bool t7]] (Wk W m) fun e w'=>e = .returned (.int .i64 _)∧∃ m,w'=Wk W m):=fun m=>qk m (H2.out _);refine yac (by kernel_rfl) (by kernel_rfl) ?_
  repeat (first
   | go_big_quiet_skip
   | (go_big_quiet_want;go_big_quiet_op;first|go_big_quiet_on|go_big_quiet_call (first
    | (go_at_call 38;with_reducible exact (Q1).out _)|(go_at_call 38;with_reducible exact (Q2).out _))))
  refine wpQuiet_nil ?_;rintro w1 ⟨⟨_,hk_w1⟩,rfl⟩;clear kga kgb Q1 Q2;replace Bga:=jH hk_w1 Bga;replace Bgb:=jH hk_w1 Bgb;replace HkW:=jX (HkW.out.tz hk_w1);clear hk_w1;obtain⟨pga,fga,lga⟩:=jQ Bga;go_wp2_with fail;go_ret
  exact ⟨rfl,by repeat (first|(with_reducible exact HkW.out)|(refine Keep.sP ?_ _ _ _ (by omega))|(refine Keep.aP ?_ _)|(refine Keep.dP ?_))⟩
 ·cases o
  ·rcases hb with rfl|rfl|rfl
   ·refine done (r:=true) rfl ?_
    clear done;go_enter func69,ntmps69
    go_wp2_with fail;obtain⟨W,ga,gb,hW,ega,egb,Bga,Bgb,hga,hgb,hgW,HkW⟩:=al2h w (.cells #[.bool f1,.string f2,.bool false,.string f3,.bool f4,.string f5,.bool false,.string f6,.bool f7,.bool t1,.string t2,.bool false,.string t3,.bool t4,.string t5,.bool false,.string t6,.bool t7,.bool false,.bool c] 49) (.cells #[.bool x1,.string x2,.bool false,.string x3,.bool x4,.string x5,.bool false,.string x6,.bool x7] 36);rw [← hW];try rw [egb]
    try rw [ega]
    clear hW ega egb;have kga:=yag Bga.out;have kgb:=yag Bgb.out;have Q1:Hid (∀ m:KW W,Calls prog 38 #[.agg #[.bool f1,.string f2,.bool false,.string f3,.bool f4,.string f5,.bool false,.string f6,.bool f7],.agg #[.bool x1,.string x2,.bool false,.string x3,.bool x4,.string x5,.bool false,.string x6,.bool x7]] (Wk W m) fun e w'=>e = .returned (.int .i64 _)∧∃ m,w'=Wk W m):=fun m=>qk m (H1.out _);have Q2:Hid (∀ m:KW W,Calls prog 38 #[.agg #[.bool x1,.string x2,.bool false,.string x3,.bool x4,.string x5,.bool false,.string x6,.bool x7],.agg #[.bool t1,.string t2,.bool false,.string t3,.bool t4,.string t5,.bool false,.string t6,.bool t7]] (Wk W m) fun e w'=>e = .returned (.int .i64 _)∧∃ m,w'=Wk W m):=fun m=>qk m (H2.out _);refine yac (by kernel_rfl) (by kernel_rfl) ?_
    repeat (first
     | go_big_quiet_skip
     | (go_big_quiet_want;go_big_quiet_op;first|go_big_quiet_on|go_big_quiet_call (first
      | (go_at_call 38;with_reducible exact (Q1).out _)|(go_at_call 38;with_reducible exact (Q2).out _))))
    refine wpQuiet_nil ?_;rintro w1 ⟨⟨_,hk_w1⟩,rfl⟩;clear kga kgb Q1 Q2;replace Bga:=jH hk_w1 Bga;replace Bgb:=jH hk_w1 Bgb;replace HkW:=jX (HkW.out.tz hk_w1);clear hk_w1;obtain⟨pga,fga,lga⟩:=jQ Bga;go_wp2_with fail;go_ret
    exact ⟨rfl,by repeat (first|(with_reducible exact HkW.out)|(refine Keep.sP ?_ _ _ _ (by omega))|(refine Keep.aP ?_ _)|(refine Keep.dP ?_))⟩
   ·refine done (r:=!c) (by cases c<;>rfl) ?_
    clear done;cases c
    all_goals
     go_enter func69,ntmps69
     go_wp2_with fail;obtain⟨W,ga,gb,hW,ega,egb,Bga,Bgb,hga,hgb,hgW,HkW⟩:=al2h w (.cells #[.bool f1,.string f2,.bool false,.string f3,.bool f4,.string f5,.bool false,.string f6,.bool f7,.bool t1,.string t2,.bool false,.string t3,.bool t4,.string t5,.bool false,.string t6,.bool t7,.bool false,.bool _] 49) (.cells #[.bool x1,.string x2,.bool false,.string x3,.bool x4,.string x5,.bool false,.string x6,.bool x7] 36);rw [← hW];try rw [egb]
     try rw [ega]
     clear hW ega egb;have kga:=yag Bga.out;have kgb:=yag Bgb.out;have Q1:Hid (∀ m:KW W,Calls prog 38 #[.agg #[.bool f1,.string f2,.bool false,.string f3,.bool f4,.string f5,.bool false,.string f6,.bool f7],.agg #[.bool x1,.string x2,.bool false,.string x3,.bool x4,.string x5,.bool false,.string x6,.bool x7]] (Wk W m) fun e w'=>e = .returned (.int .i64 _)∧∃ m,w'=Wk W m):=fun m=>qk m (H1.out _);have Q2:Hid (∀ m:KW W,Calls prog 38 #[.agg #[.bool x1,.string x2,.bool false,.string x3,.bool x4,.string x5,.bool false,.string x6,.bool x7],.agg #[.bool t1,.string t2,.bool false,.string t3,.bool t4,.string t5,.bool false,.string t6,.bool t7]] (Wk W m) fun e w'=>e = .returned (.int .i64 _)∧∃ m,w'=Wk W m):=fun m=>qk m (H2.out _);refine yac (by kernel_rfl) (by kernel_rfl) ?_
     repeat (first
      | go_big_quiet_skip
      | (go_big_quiet_want;go_big_quiet_op;first|go_big_quiet_on|go_big_quiet_call (first
       | (go_at_call 38;with_reducible exact (Q1).out _)|(go_at_call 38;with_reducible exact (Q2).out _))))
     refine wpQuiet_nil ?_;rintro w1 ⟨⟨_,hk_w1⟩,rfl⟩;clear kga kgb Q1 Q2;replace Bga:=jH hk_w1 Bga;replace Bgb:=jH hk_w1 Bgb;replace HkW:=jX (HkW.out.tz hk_w1);clear hk_w1;obtain⟨pga,fga,lga⟩:=jQ Bga;go_wp2_with fail;go_ret
     exact ⟨rfl,by repeat (first|(with_reducible exact HkW.out)|(refine Keep.sP ?_ _ _ _ (by omega))|(refine Keep.aP ?_ _)|(refine Keep.dP ?_))⟩
   refine done (r:=false) rfl ?_;clear done;go_enter func69,ntmps69
   go_wp2_with fail;obtain⟨W,ga,gb,hW,ega,egb,Bga,Bgb,hga,hgb,hgW,HkW⟩:=al2h w (.cells #[.bool f1,.string f2,.bool false,.string f3,.bool f4,.string f5,.bool false,.string f6,.bool f7,.bool t1,.string t2,.bool false,.string t3,.bool t4,.string t5,.bool false,.string t6,.bool t7,.bool false,.bool c] 49) (.cells #[.bool x1,.string x2,.bool false,.string x3,.bool x4,.string x5,.bool false,.string x6,.bool x7] 36);rw [← hW];try rw [egb]
   try rw [ega]
   clear hW ega egb;have kga:=yag Bga.out;have kgb:=yag Bgb.out;have Q1:Hid (∀ m:KW W,Calls prog 38 #[.agg #[.bool f1,.string f2,.bool false,.string f3,.bool f4,.string f5,.bool false,.string f6,.bool f7],.agg #[.bool x1,.string x2,.bool false,.string x3,.bool x4,.string x5,.bool false,.string x6,.bool x7]] (Wk W m) fun e w'=>e = .returned (.int .i64 _)∧∃ m,w'=Wk W m):=fun m=>qk m (H1.out _);have Q2:Hid (∀ m:KW W,Calls prog 38 #[.agg #[.bool x1,.string x2,.bool false,.string x3,.bool x4,.string x5,.bool false,.string x6,.bool x7],.agg #[.bool t1,.string t2,.bool false,.string t3,.bool t4,.string t5,.bool false,.string t6,.bool t7]] (Wk W m) fun e w'=>e = .returned (.int .i64 _)∧∃ m,w'=Wk W m):=fun m=>qk m (H2.out _);refine yac (by kernel_rfl) (by kernel_rfl) ?_
   repeat (first
    | go_big_quiet_skip
    | (go_big_quiet_want;go_big_quiet_op;first|go_big_quiet_on|go_big_quiet_call (first
     | (go_at_call 38;with_reducible exact (Q1).out _)|(go_at_call 38;with_reducible exact (Q2).out _))))
   refine wpQuiet_nil ?_;rintro w1 ⟨⟨_,hk_w1⟩,rfl⟩;clear kga kgb Q1 Q2;replace Bga:=jH hk_w1 Bga;replace Bgb:=jH hk_w1 Bgb;replace HkW:=jX (HkW.out.tz hk_w1);clear hk_w1;obtain⟨pga,fga,lga⟩:=jQ Bga;go_wp2_with fail;go_ret
   exact ⟨rfl,by repeat (first|(with_reducible exact HkW.out)|(refine Keep.sP ?_ _ _ _ (by omega))|(refine Keep.aP ?_ _)|(refine Keep.dP ?_))⟩
  refine done (r:=false) rfl ?_;clear done;go_enter func69,ntmps69
  go_wp2_with fail;obtain⟨W,ga,gb,hW,ega,egb,Bga,Bgb,hga,hgb,hgW,HkW⟩:=al2h w (.cells #[.bool f1,.string f2,.bool false,.string f3,.bool f4,.string f5,.bool false,.string f6,.bool f7,.bool t1,.string t2,.bool false,.string t3,.bool t4,.string t5,.bool false,.string t6,.bool t7,.bool true,.bool c] 49) (.cells #[.bool x1,.string x2,.bool false,.string x3,.bool x4,.string x5,.bool false,.string x6,.bool x7] 36);rw [← hW];try rw [egb]
  try rw [ega]
  clear hW ega egb;have kga:=yag Bga.out;have kgb:=yag Bgb.out;have Q1:Hid (∀ m:KW W,Calls prog 38 #[.agg #[.bool f1,.string f2,.bool false,.string f3,.bool f4,.string f5,.bool false,.string f6,.bool f7],.agg #[.bool x1,.string x2,.bool false,.string x3,.bool x4,.string x5,.bool false,.string x6,.bool x7]] (Wk W m) fun e w'=>e = .returned (.int .i64 _)∧∃ m,w'=Wk W m):=fun m=>qk m (H1.out _);have Q2:Hid (∀ m:KW W,Calls prog 38 #[.agg #[.bool x1,.string x2,.bool false,.string x3,.bool x4,.string x5,.bool false,.string x6,.bool x7],.agg #[.bool t1,.string t2,.bool false,.string t3,.bool t4,.string t5,.bool false,.string t6,.bool t7]] (Wk W m) fun e w'=>e = .returned (.int .i64 _)∧∃ m,w'=Wk W m):=fun m=>qk m (H2.out _);refine yac (by kernel_rfl) (by kernel_rfl) ?_
  repeat (first
   | go_big_quiet_skip
   | (go_big_quiet_want;go_big_quiet_op;first|go_big_quiet_on|go_big_quiet_call (first
    | (go_at_call 38;with_reducible exact (Q1).out _)|(go_at_call 38;with_reducible exact (Q2).out _))))
  refine wpQuiet_nil ?_;rintro w1 ⟨⟨_,hk_w1⟩,rfl⟩;clear kga kgb Q1 Q2;replace Bga:=jH hk_w1 Bga;replace Bgb:=jH hk_w1 Bgb;replace HkW:=jX (HkW.out.tz hk_w1);clear hk_w1;obtain⟨pga,fga,lga⟩:=jQ Bga;go_wp2_with fail;go_ret
  exact ⟨rfl,by repeat (first|(with_reducible exact HkW.out)|(refine Keep.sP ?_ _ _ _ (by omega))|(refine Keep.aP ?_ _)|(refine Keep.dP ?_))⟩
 refine done (r:=false) rfl ?_;clear done;go_enter func69,ntmps69
 go_wp2_with fail;obtain⟨W,ga,gb,hW,ega,egb,Bga,Bgb,hga,hgb,hgW,HkW⟩:=al2h w (.cells #[.bool f1,.string f2,.bool false,.string f3,.bool f4,.string f5,.bool false,.string f6,.bool f7,.bool t1,.string t2,.bool false,.string t3,.bool t4,.string t5,.bool false,.string t6,.bool t7,.bool o,.bool c] 49) (.cells #[.bool x1,.string x2,.bool false,.string x3,.bool x4,.string x5,.bool false,.string x6,.bool x7] 36);rw [← hW];try rw [egb]
 try rw [ega]
 clear hW ega egb;have kga:=yag Bga.out;have kgb:=yag Bgb.out;have Q1:Hid (∀ m:KW W,Calls prog 38 #[.agg #[.bool f1,.string f2,.bool false,.string f3,.bool f4,.string f5,.bool false,.string f6,.bool f7],.agg #[.bool x1,.string x2,.bool false,.string x3,.bool x4,.string x5,.bool false,.string x6,.bool x7]] (Wk W m) fun e w'=>e = .returned (.int .i64 _)∧∃ m,w'=Wk W m):=fun m=>qk m (H1.out _);have Q2:Hid (∀ m:KW W,Calls prog 38 #[.agg #[.bool x1,.string x2,.bool false,.string x3,.bool x4,.string x5,.bool false,.string x6,.bool x7],.agg #[.bool t1,.string t2,.bool false,.string t3,.bool t4,.string t5,.bool false,.string t6,.bool t7]] (Wk W m) fun e w'=>e = .returned (.int .i64 _)∧∃ m,w'=Wk W m):=fun m=>qk m (H2.out _);refine yac (by kernel_rfl) (by kernel_rfl) ?_
 repeat (first
  | go_big_quiet_skip
  | (go_big_quiet_want;go_big_quiet_op;first|go_big_quiet_on|go_big_quiet_call (first
   | (go_at_call 38;with_reducible exact (Q1).out _)|(go_at_call 38;with_reducible exact (Q2).out _))))
 refine wpQuiet_nil ?_;rintro w1 ⟨⟨_,hk_w1⟩,rfl⟩;clear kga kgb Q1 Q2;replace Bga:=jH hk_w1 Bga;replace Bgb:=jH hk_w1 Bgb;replace HkW:=jX (HkW.out.tz hk_w1);clear hk_w1;obtain⟨pga,fga,lga⟩:=jQ Bga;go_wp2_with fail;go_ret
 exact ⟨rfl,by repeat (first|(with_reducible exact HkW.out)|(refine Keep.sP ?_ _ _ _ (by omega))|(refine Keep.aP ?_ _)|(refine Keep.dP ?_))⟩
end Go.Proofs.YtejegogbhpmgfaaGreatDoor
