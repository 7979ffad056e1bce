/- Parts of a proof: Ps Sm Sn. -/
import Derived.Test.YtpgffjjpiafhpaaGreatDoorJ15
import Derived.Test.YtpgffjjpiafhpaaGreatDoorJ19
set_option linter.unusedVariables false
set_option linter.unusedSimpArgs false
set_option maxRecDepth 100000
set_option maxHeartbeats 8000000
namespace Go.Proofs.YtpgffjjpiafhpaaGreatDoor
open Go.RowKit Tryz
theorem neg1_cast:((-1:Int):Rat) = -1:=rfl
theorem one_cast:((1:Int):Rat)=1:=rfl
theorem neg1_sq:((-1:Int):Rat)*((-1:Int):Rat)=1:=by rw [neg1_cast];grind
theorem one_sq:((1:Int):Rat)*((1:Int):Rat)=1:=by rw [one_cast];grind
theorem sgn_pos {q:Rat} (h:0<q):sgn q=1:=by unfold sgn;rw [if_neg (by grind),if_pos h]
theorem sgn_neg {q:Rat} (h:q<0):sgn q = -1:=by unfold sgn;rw [if_pos h]
theorem sgn_zero:sgn 0=0:=by decide
theorem sgn_sign (q:Rat):sgn ((sgn q:Int):Rat)=sgn q:=by
 rcases yaJ q with ⟨_,h⟩|⟨_,h⟩|⟨_,h⟩<;>rw [h]<;>decide
theorem yea (a b:Rat):sgn (a*b)=sgn a*sgn b:=by
 rcases yaJ a with ⟨a1,a2⟩|⟨a1,a2⟩|⟨a1,a2⟩<;>rcases yaJ b with ⟨b1,b2⟩|⟨b1,b2⟩|⟨b1,b2⟩<;>rw [a2,b2]
 ·have:=yal (a:=-a) (b:=-b) (by grind) (by grind)
  rw [sgn_pos (by grind)];decide
 ·rw [b1,Rat.mul_zero,sgn_zero];decide
 ·have:=yal (a:=-a) (b:=b) (by grind) b1
  rw [sgn_neg (by grind)];decide
 ·rw [a1,Rat.zero_mul,sgn_zero];decide
 ·rw [a1,Rat.zero_mul,sgn_zero];decide
 ·rw [a1,Rat.zero_mul,sgn_zero];decide
 ·have:=yal (a:=a) (b:=-b) a1 (by grind)
  rw [sgn_neg (by grind)];decide
 ·rw [b1,Rat.mul_zero,sgn_zero];decide
 have:=yal a1 b1;rw [sgn_pos this];decide
def Unit1 (u:Int):Prop:=u = -1∨u=0∨u=1
def d1 (a:Rat) (u:Int) (r:Rat):Int :=
 if sgn a=0 then u*sgn r else if u*sgn r=0∨sgn a=u*sgn r then sgn a else sgn a*sgn (a*a-r)
theorem d1_sg1 {u:Int} (hu:Unit1 u) (a r:Rat):d1 a u r=sg1 a (u:Rat) r:=by
 have hs:sgn ((u:Int):Rat)=u:=by rcases hu with rfl|rfl|rfl<;>decide
 unfold d1 sg1;rw [hs];rcases hu with rfl|rfl|rfl
 ·have e : a * a - ((-1 : Int) : Rat) * ((-1 : Int) : Rat) * r = a * a - r := by
   rw [neg1_sq,Rat.one_mul]
  rw [e];generalize sgn a=x;generalize sgn r=y;generalize sgn (a*a-r)=z;grind
 ·simp
  intro h;exact h.symm
 have e:a*a-((1:Int):Rat)*((1:Int):Rat)*r=a*a-r:=by
  rw [one_sq,Rat.one_mul]
 rw [e];generalize sgn a=x;generalize sgn r=y;generalize sgn (a*a-r)=z;grind
theorem sg1_four {u:Int} (hu:u = -1∨u=1) (A a r:Rat):sg1 A ((u*sgn a:Int):Rat) (4*(a*a*r))=sg1 A (2*(a*(u:Rat))) r:=by
 have hu2:((u:Int):Rat)*(u:Rat)=1:=by
  rcases hu with rfl|rfl
  ·exact neg1_sq
  exact one_sq
 have hsu:sgn ((u:Int):Rat)=u:=by rcases hu with rfl|rfl<;>decide
 have h1:sgn ((u*sgn a:Int):Rat)*sgn (4*(a*a*r))=sgn (2*(a*(u:Rat)))*sgn r:=by
  rw [Rat.intCast_mul,yea,yea,yea,yea,yea,yea,sgn_sign,hsu,show sgn 4=1 by decide,show sgn 2=1 by decide]
  rcases yaJ a with ⟨_,h⟩|⟨_,h⟩|⟨_,h⟩<;>rw [h]<;>simp
 have h2:((u*sgn a:Int):Rat)*((u*sgn a:Int):Rat)*(4*(a*a*r))=2*(a*(u:Rat))*(2*(a*(u:Rat)))*r:=by
  rw [Rat.intCast_mul]
  have h3:((sgn a:Int):Rat)*(sgn a:Rat)*(a*a)=a*a:=by
   rcases yaJ a with ⟨_,h⟩|⟨h0,h⟩|⟨_,h⟩
   ·rw [h,neg1_sq,Rat.one_mul]
   ·rw [h0];simp
   rw [h,one_sq,Rat.one_mul]
  generalize ((sgn a:Int):Rat)=x at *;generalize ((u:Int):Rat)=y at *;grind
 unfold sg1;rw [h1,h2]
def d2 (a:Rat) (u:Int) (r:Rat) (v:Int) (s:Rat):Int :=
 if d1 a u r≠v*sgn s∨d1 a u r=0 then (if v*sgn s<d1 a u r then 1 else d1 a u r-v*sgn s) else d1 a u r*d1 (a*a+r-s) (u*sgn a) (4*(a*a*r))
def yci (x:Qn):Int:=if x.neg then -1 else 1
theorem sideQ_u (x:Qn):((yci x:Int):Rat)=x.u:=by unfold yci Qn.u;cases x.neg<;>decide
theorem ycZ (x:Qn):yci x = -1∨yci x=1:=by unfold yci;cases x.neg<;>simp
def signI (n:Int):Int:=if n<0 then -1 else if 0<n then 1 else 0
theorem ych (q:Rat):sgn q = -1∨sgn q=0∨sgn q=1:=by rcases yaJ q with h|h|h<;>simp [h.2]
theorem yev {u:Int} (hu:Unit1 u) (a r:Rat):d1 a u r = -1∨d1 a u r=0∨d1 a u r=1:=by
 unfold d1;have h1:=ych a;have h2:=ych r;have h3:=ych (a*a-r);generalize sgn a=x at *;generalize sgn r=y at *;generalize sgn (a*a-r)=z at *;split
 ·rcases hu with rfl|rfl|rfl<;>omega
 split
 ·exact h1
 rcases h1 with rfl|rfl|rfl<;>omega
theorem d2_cmp (x y:Qn):signI (d2 (x.p-y.p) (yci x) x.r (yci y) y.r)=cmpQ x y:=by
 have hx:Unit1 (yci x):=by rcases ycZ x with h|h<;>rw [h]<;>simp [Unit1]
 have e1:d1 (x.p-y.p) (yci x) x.r=sg1 (x.p-y.p) x.u x.r:=by rw [d1_sg1 hx,sideQ_u]
 have hxa:Unit1 (yci x*sgn (x.p-y.p)):=by
  rcases ycZ x with h|h<;>rw [h]<;>rcases ych (x.p-y.p) with k|k|k<;>rw [k]<;>simp [Unit1]
 have e2:d1 ((x.p-y.p)*(x.p-y.p)+x.r-y.r) (yci x*sgn (x.p-y.p)) (4*((x.p-y.p)*(x.p-y.p)*x.r))=sg1 ((x.p-y.p)*(x.p-y.p)+x.r-y.r) (2*((x.p-y.p)*x.u)) x.r:=by
  rw [d1_sg1 hxa,sg1_four (ycZ x),sideQ_u]
 have r1:=yev hx (x.p-y.p) x.r;have r2:=yev hxa ((x.p-y.p)*(x.p-y.p)+x.r-y.r) (4*((x.p-y.p)*(x.p-y.p)*x.r));rw [e1] at r1;rw [e2] at r2;have e3:sgn (-y.u) = -yci y:=by unfold Qn.u yci;cases y.neg<;>decide
 unfold d2 cmpQ;rw [e1,e2,e3];have r3:=ych y.r;have r4:=ycZ y;generalize sg1 (x.p-y.p) x.u x.r=A at *;generalize sg1 ((x.p-y.p)*(x.p-y.p)+x.r-y.r) (2*((x.p-y.p)*x.u)) x.r=B at *;generalize sgn y.r=s at *;generalize yci y=v at *;clear e1 e2 e3 hx hxa;unfold signI;rcases r1 with rfl|rfl|rfl<;>rcases r2 with rfl|rfl|rfl<;>rcases r3 with rfl|rfl|rfl<;>rcases r4 with rfl|rfl<;>decide
theorem yfQ {u m:Int} (hu:Unit1 u) (hm:m = -1∨m=0∨m=1):Unit1 (u*m):=by
 unfold Unit1 at *;rcases hu with rfl|rfl|rfl<;>rcases hm with rfl|rfl|rfl<;>decide
theorem sign1_c (a:Rat) (u:Int) (r:Rat) (hu:Unit1 u) (ha:FitQ 5000000 a) (hr:FitQ 5000000 r) (w:World) :
  Calls prog 167 #[rv a,.int .i64 u,rv r] w fun e w'=>e = .returned (.int .i64 (d1 a u r))∧Keep [] w w':=by
 have HA:=jX (ycY a);have HR:=jX (ycY r);rw [ydO] at HA HR;have HM:=jX (yiO a a (ha.mono (by decide)) (ha.mono (by decide)));have HC:=jX (ygB (a*a) r ((ha.mul ha).mono (by decide)) (hr.mono (by decide)));have hx:=ych a;have hy:=ych r;have hz:=ych (a*a-r);unfold d1;generalize sgn (a*a-r)=z at *;generalize sgn a=x at *;generalize sgn r=y at *;unfold rv at *;generalize sgB (a*a).num=nm at *;generalize mgS (a*a).num=sm at *;generalize dnS (a*a).den=dm at *;generalize sgB (a).num=na at *;generalize mgS (a).num=sa at *;generalize dnS (a).den=da at *;generalize sgB (r).num=nr at *;generalize mgS (r).num=sr at *;generalize dnS (r).den=dr at *;clear ha hr;have hp:=yfQ hu hy;obtain⟨p,hpe⟩:∃ p,u*y=p:=⟨_,rfl⟩;rw [hpe] at hp ⊢;have hpb : -1≤p∧p≤1:=by rcases hp with h|h|h<;>omega
 have hwp:IntKind.i64.wrap p=p:=by simp [IntKind.wrap,IntKind.bits,IntKind.signed];omega
 have Hub:Hid (-1≤u∧u≤1):=by rcases hu with h|h|h<;>subst h<;>exact ⟨by decide,by decide⟩
 have Hyb:Hid (-1≤y∧y≤1):=by rcases hy with h|h|h<;>subst h<;>exact ⟨by decide,by decide⟩
 clear hu hp hy;by_cases h0:x=0
 ·rw [if_pos h0]
  have t0:(x == 0)=true:=by simpa using h0
  clear HM HC hz hx h0;go_enter func167,ntmps167
  go_wp2_with fail;obtain⟨W,ga,gb,hW,ega,egb,Bga,Bgb,hga,hgb,hgW,HkW⟩:=al2h w (.cells #[.bool na,.string sa,.bool false,.string da] 28) (.cells #[.bool nr,.string sr,.bool false,.string dr] 28);rw [← hW];try rw [egb]
  try rw [ega]
  clear hW ega egb;have kga:=yaf Bga.out;have kgb:=yaf Bgb.out;have Q1:Hid (∀ m:KW W,Calls prog 29 #[.agg #[.bool na,.string sa,.bool false,.string da]] (Wk W m) fun e w'=>e = .returned (.int .i64 x)∧∃ m,w'=Wk W m):=fun m=>qk m (HA.out _);have Q2:Hid (∀ m:KW W,Calls prog 29 #[.agg #[.bool nr,.string sr,.bool false,.string dr]] (Wk W m) fun e w'=>e = .returned (.int .i64 y)∧∃ m,w'=Wk W m):=fun m=>qk m (HR.out _);refine yad (by kernel_rfl) (by kernel_rfl) ?_
  repeat (first
   | go_big_quiet_skip
   | (go_big_quiet_want;go_big_quiet_op;first|go_big_quiet_on|go_big_quiet_call (first
    | (go_at_call 29;with_reducible exact (Q1).out _)|(go_at_call 29;with_reducible exact (Q2).out _))))
  refine wpQuiet_nil ?_;rintro w1 ⟨⟨_,hk_w1⟩,rfl⟩;clear kga kgb Q1 Q2 HA HR;replace Bga:=jH hk_w1 Bga;replace Bgb:=jH hk_w1 Bgb;replace HkW:=jX (HkW.out.tz hk_w1);clear hk_w1;go_wp2_with fail;go_ret
  exact ⟨rfl,by repeat (first|(with_reducible exact HkW.out)|(refine Keep.sP ?_ _ _ _ (by omega))|(refine Keep.aP ?_ _)|(refine Keep.dP ?_))⟩
 rw [if_neg h0];have t0:(x == 0)=false:=by simpa using h0
 by_cases h1:p=0
 ·rw [if_pos (.inl h1)]
  have t1:(p == 0)=true:=by simpa using h1
  clear HM HC hz hx h0 h1;go_enter func167,ntmps167
  go_wp2_with fail;obtain⟨W,ga,gb,hW,ega,egb,Bga,Bgb,hga,hgb,hgW,HkW⟩:=al2h w (.cells #[.bool na,.string sa,.bool false,.string da] 28) (.cells #[.bool nr,.string sr,.bool false,.string dr] 28);rw [← hW];try rw [egb]
  try rw [ega]
  clear hW ega egb;have kga:=yaf Bga.out;have kgb:=yaf Bgb.out;have Q1:Hid (∀ m:KW W,Calls prog 29 #[.agg #[.bool na,.string sa,.bool false,.string da]] (Wk W m) fun e w'=>e = .returned (.int .i64 x)∧∃ m,w'=Wk W m):=fun m=>qk m (HA.out _);have Q2:Hid (∀ m:KW W,Calls prog 29 #[.agg #[.bool nr,.string sr,.bool false,.string dr]] (Wk W m) fun e w'=>e = .returned (.int .i64 y)∧∃ m,w'=Wk W m):=fun m=>qk m (HR.out _);refine yad (by kernel_rfl) (by kernel_rfl) ?_
  repeat (first
   | go_big_quiet_skip
   | (go_big_quiet_want;go_big_quiet_op;first|go_big_quiet_on|go_big_quiet_call (first
    | (go_at_call 29;with_reducible exact (Q1).out _)|(go_at_call 29;with_reducible exact (Q2).out _))))
  refine wpQuiet_nil ?_;rintro w1 ⟨⟨_,hk_w1⟩,rfl⟩;clear kga kgb Q1 Q2 HA HR;replace Bga:=jH hk_w1 Bga;replace Bgb:=jH hk_w1 Bgb;replace HkW:=jX (HkW.out.tz hk_w1);clear hk_w1;go_wp2_with fail;go_ret
  exact ⟨rfl,by repeat (first|(with_reducible exact HkW.out)|(refine Keep.sP ?_ _ _ _ (by omega))|(refine Keep.aP ?_ _)|(refine Keep.dP ?_))⟩
 have t1:(p == 0)=false:=by simpa using h1
 by_cases h2:x=p
 ·rw [if_pos (.inr h2)]
  have t2:(x == p)=true:=by simpa using h2
  clear HM HC hz hx h0 h1 h2;go_enter func167,ntmps167
  go_wp2_with fail;obtain⟨W,ga,gb,hW,ega,egb,Bga,Bgb,hga,hgb,hgW,HkW⟩:=al2h w (.cells #[.bool na,.string sa,.bool false,.string da] 28) (.cells #[.bool nr,.string sr,.bool false,.string dr] 28);rw [← hW];try rw [egb]
  try rw [ega]
  clear hW ega egb;have kga:=yaf Bga.out;have kgb:=yaf Bgb.out;have Q1:Hid (∀ m:KW W,Calls prog 29 #[.agg #[.bool na,.string sa,.bool false,.string da]] (Wk W m) fun e w'=>e = .returned (.int .i64 x)∧∃ m,w'=Wk W m):=fun m=>qk m (HA.out _);have Q2:Hid (∀ m:KW W,Calls prog 29 #[.agg #[.bool nr,.string sr,.bool false,.string dr]] (Wk W m) fun e w'=>e = .returned (.int .i64 y)∧∃ m,w'=Wk W m):=fun m=>qk m (HR.out _);refine yad (by kernel_rfl) (by kernel_rfl) ?_
  repeat (first
   | go_big_quiet_skip
   | (go_big_quiet_want;go_big_quiet_op;first|go_big_quiet_on|go_big_quiet_call (first
    | (go_at_call 29;with_reducible exact (Q1).out _)|(go_at_call 29;with_reducible exact (Q2).out _))))
  refine wpQuiet_nil ?_;rintro w1 ⟨⟨_,hk_w1⟩,rfl⟩;clear kga kgb Q1 Q2 HA HR;replace Bga:=jH hk_w1 Bga;replace Bgb:=jH hk_w1 Bgb;replace HkW:=jX (HkW.out.tz hk_w1);clear hk_w1;go_wp2_with fail;go_ret
  exact ⟨rfl,by repeat (first|(with_reducible exact HkW.out)|(refine Keep.sP ?_ _ _ _ (by omega))|(refine Keep.aP ?_ _)|(refine Keep.dP ?_))⟩
 rw [if_neg (by rintro (h|h);exact h1 h;exact h2 h)];have t2:(x == p)=false:=by simpa using h2
 obtain⟨k,hk⟩:∃ k,x*z=k:=⟨_,rfl⟩;rw [hk];have hkb : -1≤k∧k≤1:=by rcases hx with h|h|h<;>rcases hz with h'|h'|h'<;>subst h h'<;>omega
 have hwk:IntKind.i64.wrap k=k:=by simp [IntKind.wrap,IntKind.bits,IntKind.signed];omega
 have Hkb:=jX hkb;clear hz hx h0 h1 h2 hkb;go_enter func167,ntmps167
 go_wp2_with fail;obtain⟨W,ga,gb,hW,ega,egb,Bga,Bgb,hga,hgb,hgW,HkW⟩:=al2h w (.cells #[.bool na,.string sa,.bool false,.string da] 28) (.cells #[.bool nr,.string sr,.bool false,.string dr] 28);rw [← hW];try rw [egb]
 try rw [ega]
 clear hW ega egb;have kga:=yaf Bga.out;have kgb:=yaf Bgb.out;have Q1:Hid (∀ m:KW W,Calls prog 29 #[.agg #[.bool na,.string sa,.bool false,.string da]] (Wk W m) fun e w'=>e = .returned (.int .i64 x)∧∃ m,w'=Wk W m):=fun m=>qk m (HA.out _);have Q2:Hid (∀ m:KW W,Calls prog 29 #[.agg #[.bool nr,.string sr,.bool false,.string dr]] (Wk W m) fun e w'=>e = .returned (.int .i64 y)∧∃ m,w'=Wk W m):=fun m=>qk m (HR.out _);refine yad (by kernel_rfl) (by kernel_rfl) ?_
 repeat (first
  | go_big_quiet_skip
  | (go_big_quiet_want;go_big_quiet_op;first|go_big_quiet_on|go_big_quiet_call (first
   | (go_at_call 29;with_reducible exact (Q1).out _)|(go_at_call 29;with_reducible exact (Q2).out _))))
 refine wpQuiet_nil ?_;rintro w1 ⟨⟨_,hk_w1⟩,rfl⟩;clear kga kgb Q1 Q2 HA HR;replace Bga:=jH hk_w1 Bga;replace Bgb:=jH hk_w1 Bgb;replace HkW:=jX (HkW.out.tz hk_w1);clear hk_w1;go_wp2_with fail;have kga:=yaf Bga.out;have kgb:=yaf Bgb.out;have Q1:Hid (∀ m:KW w1,Calls prog 168 #[.agg #[.bool na,.string sa,.bool false,.string da],.agg #[.bool na,.string sa,.bool false,.string da]] (Wk w1 m) fun e w'=>e = .returned (.agg #[.bool nm,.string sm,.bool false,.string dm])∧∃ m,w'=Wk w1 m):=fun m=>qk m (HM.out _);have Q2:Hid (∀ m:KW w1,Calls prog 30 #[.agg #[.bool nm,.string sm,.bool false,.string dm],.agg #[.bool nr,.string sr,.bool false,.string dr]] (Wk w1 m) fun e w'=>e = .returned (.int .i64 z)∧∃ m,w'=Wk w1 m):=fun m=>qk m (HC.out _);refine yad (by kernel_rfl) (by kernel_rfl) ?_
 repeat (first
  | go_big_quiet_skip
  | (go_big_quiet_want;go_big_quiet_op;first|go_big_quiet_on|go_big_quiet_call (first
   | (go_at_call 168;with_reducible exact (Q1).out _)|(go_at_call 30;with_reducible exact (Q2).out _))))
 refine wpQuiet_nil ?_;rintro w2 ⟨⟨_,hk_w2⟩,rfl⟩;clear kga kgb Q1 Q2 HM HC;replace Bga:=jH hk_w2 Bga;replace Bgb:=jH hk_w2 Bgb;replace HkW:=jX (HkW.out.tz hk_w2);clear hk_w2;go_wp2_with fail;go_ret
 exact ⟨rfl,by repeat (first|(with_reducible exact HkW.out)|(refine Keep.sP ?_ _ _ _ (by omega))|(refine Keep.aP ?_ _)|(refine Keep.dP ?_))⟩
theorem sign2_c (a:Rat) (u:Int) (r:Rat) (v:Int) (s:Rat) (hu:u = -1∨u=1) (hv:v = -1∨v=1) (ha:FitQ 500000 a) (hr:FitQ 500000 r) (hs:FitQ 500000 s) (w:World) :
  Calls prog 126 #[rv a,.int .i64 u,rv r,.int .i64 v,rv s] w fun e w'=>e = .returned (.int .i64 (d2 a u r v s))∧Keep [] w w':=by
 have hu1:Unit1 u:=by rcases hu with h|h<;>simp [Unit1,h]
 have hv1:Unit1 v:=by rcases hv with h|h<;>simp [Unit1,h]
 have hua:=yfQ hu1 (ych a);have f2:=ha.mul ha;have f3:=f2.add hr;have f4:=f3.sub hs;have f5:=f2.mul hr;have f6:FitQ 1 (4:Rat):=by refine ⟨?_,?_⟩<;>rw [Fit_iff]<;>decide
 have f7:=f6.mul f5;have H1:=jX (sign1_c a u r hu1 (ha.mono (by decide)) (hr.mono (by decide)));have HS:=jX (ycY s);have HSa:=jX (ycY a);rw [ydO] at HS HSa;have HM:=jX (yiO a a (ha.mono (by decide)) (ha.mono (by decide)));have HA:=jX (radd_c (a*a) r (f2.mono (by decide)) (hr.mono (by decide)));have HF:=jX (rof_c 4 1 (by decide) (by decide) (by decide) (by decide) (by decide));rw [show Rat.divInt 4 1=(4:Rat) from rfl] at HF
 have HM2:=jX (yiO (a*a) r (f2.mono (by decide)) (hr.mono (by decide)));have HM3:=jX (yiO 4 (a*a*r) (f6.mono (by decide)) (f5.mono (by decide)));have HB:=jX (yif (a*a+r) s (f3.mono (by decide)) (hs.mono (by decide)));have HL:=jX (sign1_c (a*a+r-s) (u*sgn a) (4*(a*a*r)) hua (f4.mono (by decide)) (f7.mono (by decide)));have hx:=yev hu1 a r;have hz:=yev hua (a*a+r-s) (4*(a*a*r));have hy:=ych s;have hxa:=ych a;unfold d2;generalize d1 (a*a+r-s) (u*sgn a) (4*(a*a*r))=z at *;generalize d1 a u r=x at *;generalize sgn s=y at *;generalize sgn a=xa at *;unfold rv at *;generalize sgB (a*a+r-s).num=n1 at *;generalize mgS (a*a+r-s).num=s1 at *;generalize dnS (a*a+r-s).den=e1 at *;generalize sgB (4*(a*a*r)).num=n2 at *;generalize mgS (4*(a*a*r)).num=s2 at *;generalize dnS (4*(a*a*r)).den=e2 at *;generalize sgB (a*a*r).num=n3 at *;generalize mgS (a*a*r).num=s3 at *;generalize dnS (a*a*r).den=e3 at *;generalize sgB (a*a+r).num=n4 at *;generalize mgS (a*a+r).num=s4 at *;generalize dnS (a*a+r).den=e4 at *;generalize sgB (a*a).num=n5 at *;generalize mgS (a*a).num=s5 at *;generalize dnS (a*a).den=e5 at *;generalize sgB ((4:Rat)).num=n6 at *;generalize mgS ((4:Rat)).num=s6 at *;generalize dnS ((4:Rat)).den=e6 at *;generalize sgB (a).num=na at *;generalize mgS (a).num=sa at *;generalize dnS (a).den=da at *;generalize sgB (r).num=nr at *;generalize mgS (r).num=sr at *;generalize dnS (r).den=dr at *;generalize sgB (s).num=ns at *;generalize mgS (s).num=ss at *;generalize dnS (s).den=ds at *;clear ha hr hs f2 f3 f4 f5 f6 f7;obtain⟨p,hpe⟩:∃ p,v*y=p:=⟨_,rfl⟩;obtain⟨q,hqe⟩:∃ q,u*xa=q:=⟨_,rfl⟩;have hp:p = -1∨p=0∨p=1:=by rw [← hpe];exact yfQ hv1 hy
 rw [hqe] at hua HL;rw [hpe];have hwp:IntKind.i64.wrap p=p:=by simp [IntKind.wrap,IntKind.bits,IntKind.signed];omega
 have hwq:IntKind.i64.wrap q=q:=by
  have:q = -1∨q=0∨q=1:=hua;simp [IntKind.wrap,IntKind.bits,IntKind.signed];omega
 clear hu hv hu1 hv1 hua hy hxa;by_cases h0:x≠p∨x=0
 ·rw [if_pos h0]
  clear HSa HM HA HF HM2 HM3 HB HL hz;by_cases h1:x=p
  ·have h2:x=0:=by rcases h0 with h|h;exact absurd h1 h;exact h
   rw [if_neg (by omega)];have e0:x-p=0:=by omega
   rw [e0];have t1:(x != p)=false:=by simp [h1]
   have t2:(x == 0)=true:=by simp [h2]
   have t3:decide (p<x)=false:=by simp;omega
   have t4:IntKind.i64.wrap (x-p)=0:=by rw [e0];rfl
   clear h0 h1 h2 e0 hx hp;go_enter func126,ntmps126
   go_wp2_with fail;obtain⟨W,ga,gb,gc,hW,ega,egb,egc,Bga,Bgb,Bgc,hga,hgb,hgc,hgW,HkW⟩:=al3h w (.cells #[.bool na,.string sa,.bool false,.string da] 28) (.cells #[.bool nr,.string sr,.bool false,.string dr] 28) (.cells #[.bool ns,.string ss,.bool false,.string ds] 28);rw [← hW];try rw [egc]
   try rw [egb]
   try rw [ega]
   clear hW ega egb egc;have kga:=yaf Bga.out;have kgb:=yaf Bgb.out;have kgc:=yaf Bgc.out;have Q1:Hid (∀ m:KW W,Calls prog 167 #[.agg #[.bool na,.string sa,.bool false,.string da],.int .i64 u,.agg #[.bool nr,.string sr,.bool false,.string dr]] (Wk W m) fun e w'=>e = .returned (.int .i64 x)∧∃ m,w'=Wk W m):=fun m=>qk m (H1.out _);have Q2:Hid (∀ m:KW W,Calls prog 29 #[.agg #[.bool ns,.string ss,.bool false,.string ds]] (Wk W m) fun e w'=>e = .returned (.int .i64 y)∧∃ m,w'=Wk W m):=fun m=>qk m (HS.out _);refine yad (by kernel_rfl) (by kernel_rfl) ?_
   repeat (first
    | go_big_quiet_skip
    | (go_big_quiet_want;go_big_quiet_op;first|go_big_quiet_on|go_big_quiet_call (first
     | (go_at_call 167;with_reducible exact (Q1).out _)|(go_at_call 29;with_reducible exact (Q2).out _))))
   refine wpQuiet_nil ?_;rintro w1 ⟨⟨_,hk_w1⟩,rfl⟩;clear kga kgb kgc Q1 Q2;replace Bga:=jH hk_w1 Bga;replace Bgb:=jH hk_w1 Bgb;replace Bgc:=jH hk_w1 Bgc;replace HkW:=jX (HkW.out.tz hk_w1);clear hk_w1;go_wp2_with fail;go_ret
   exact ⟨rfl,by repeat (first|(with_reducible exact HkW.out)|(refine Keep.sP ?_ _ _ _ (by omega))|(refine Keep.aP ?_ _)|(refine Keep.dP ?_))⟩
  have t1:(x != p)=true:=by simp [h1]
  by_cases h2:p<x
  ·rw [if_pos h2]
   have t3:decide (p<x)=true:=by simpa using h2
   clear h0 h1 h2 hx hp;go_enter func126,ntmps126
   go_wp2_with fail;obtain⟨W,ga,gb,gc,hW,ega,egb,egc,Bga,Bgb,Bgc,hga,hgb,hgc,hgW,HkW⟩:=al3h w (.cells #[.bool na,.string sa,.bool false,.string da] 28) (.cells #[.bool nr,.string sr,.bool false,.string dr] 28) (.cells #[.bool ns,.string ss,.bool false,.string ds] 28);rw [← hW];try rw [egc]
   try rw [egb]
   try rw [ega]
   clear hW ega egb egc;have kga:=yaf Bga.out;have kgb:=yaf Bgb.out;have kgc:=yaf Bgc.out;have Q1:Hid (∀ m:KW W,Calls prog 167 #[.agg #[.bool na,.string sa,.bool false,.string da],.int .i64 u,.agg #[.bool nr,.string sr,.bool false,.string dr]] (Wk W m) fun e w'=>e = .returned (.int .i64 x)∧∃ m,w'=Wk W m):=fun m=>qk m (H1.out _);have Q2:Hid (∀ m:KW W,Calls prog 29 #[.agg #[.bool ns,.string ss,.bool false,.string ds]] (Wk W m) fun e w'=>e = .returned (.int .i64 y)∧∃ m,w'=Wk W m):=fun m=>qk m (HS.out _);refine yad (by kernel_rfl) (by kernel_rfl) ?_
   repeat (first
    | go_big_quiet_skip
    | (go_big_quiet_want;go_big_quiet_op;first|go_big_quiet_on|go_big_quiet_call (first
     | (go_at_call 167;with_reducible exact (Q1).out _)|(go_at_call 29;with_reducible exact (Q2).out _))))
   refine wpQuiet_nil ?_;rintro w1 ⟨⟨_,hk_w1⟩,rfl⟩;clear kga kgb kgc Q1 Q2;replace Bga:=jH hk_w1 Bga;replace Bgb:=jH hk_w1 Bgb;replace Bgc:=jH hk_w1 Bgc;replace HkW:=jX (HkW.out.tz hk_w1);clear hk_w1;go_wp2_with fail;go_ret
   exact ⟨rfl,by repeat (first|(with_reducible exact HkW.out)|(refine Keep.sP ?_ _ _ _ (by omega))|(refine Keep.aP ?_ _)|(refine Keep.dP ?_))⟩
  rw [if_neg h2];have t3:decide (p<x)=false:=by simpa using h2
  obtain⟨k,hk⟩:∃ k,x-p=k:=⟨_,rfl⟩;rw [hk];have t4:IntKind.i64.wrap k=k:=by simp [IntKind.wrap,IntKind.bits,IntKind.signed];omega
  clear h0 h1 h2 hx hp;go_enter func126,ntmps126
  go_wp2_with fail;obtain⟨W,ga,gb,gc,hW,ega,egb,egc,Bga,Bgb,Bgc,hga,hgb,hgc,hgW,HkW⟩:=al3h w (.cells #[.bool na,.string sa,.bool false,.string da] 28) (.cells #[.bool nr,.string sr,.bool false,.string dr] 28) (.cells #[.bool ns,.string ss,.bool false,.string ds] 28);rw [← hW];try rw [egc]
  try rw [egb]
  try rw [ega]
  clear hW ega egb egc;have kga:=yaf Bga.out;have kgb:=yaf Bgb.out;have kgc:=yaf Bgc.out;have Q1:Hid (∀ m:KW W,Calls prog 167 #[.agg #[.bool na,.string sa,.bool false,.string da],.int .i64 u,.agg #[.bool nr,.string sr,.bool false,.string dr]] (Wk W m) fun e w'=>e = .returned (.int .i64 x)∧∃ m,w'=Wk W m):=fun m=>qk m (H1.out _);have Q2:Hid (∀ m:KW W,Calls prog 29 #[.agg #[.bool ns,.string ss,.bool false,.string ds]] (Wk W m) fun e w'=>e = .returned (.int .i64 y)∧∃ m,w'=Wk W m):=fun m=>qk m (HS.out _);refine yad (by kernel_rfl) (by kernel_rfl) ?_
  repeat (first
   | go_big_quiet_skip
   | (go_big_quiet_want;go_big_quiet_op;first|go_big_quiet_on|go_big_quiet_call (first
    | (go_at_call 167;with_reducible exact (Q1).out _)|(go_at_call 29;with_reducible exact (Q2).out _))))
  refine wpQuiet_nil ?_;rintro w1 ⟨⟨_,hk_w1⟩,rfl⟩;clear kga kgb kgc Q1 Q2;replace Bga:=jH hk_w1 Bga;replace Bgb:=jH hk_w1 Bgb;replace Bgc:=jH hk_w1 Bgc;replace HkW:=jX (HkW.out.tz hk_w1);clear hk_w1;go_wp2_with fail;go_ret
  exact ⟨rfl,by repeat (first|(with_reducible exact HkW.out)|(refine Keep.sP ?_ _ _ _ (by omega))|(refine Keep.aP ?_ _)|(refine Keep.dP ?_))⟩
 rw [if_neg h0]
 have h1:x=p:=by
  by_cases h:x=p
  ·exact h
  exact absurd (.inl h) h0
 have t1:(x != p)=false:=by simp [h1]
 have t2:(x == 0)=false:=by
  rw [beq_eq_false_iff_ne];exact fun h=>h0 (.inr h)
 obtain⟨k,hk⟩:∃ k,x*z=k:=⟨_,rfl⟩;rw [hk]
 have hwk:IntKind.i64.wrap k=k:=by
  have hkb : -1≤k∧k≤1:=by rcases hx with h|h|h<;>rcases hz with h'|h'|h'<;>subst h h'<;>omega
  simp [IntKind.wrap,IntKind.bits,IntKind.signed];omega
 clear h0 h1 hx hp hz;go_enter func126,ntmps126
 go_wp2_with fail;obtain⟨W,ga,gb,gc,hW,ega,egb,egc,Bga,Bgb,Bgc,hga,hgb,hgc,hgW,HkW⟩:=al3h w (.cells #[.bool na,.string sa,.bool false,.string da] 28) (.cells #[.bool nr,.string sr,.bool false,.string dr] 28) (.cells #[.bool ns,.string ss,.bool false,.string ds] 28);rw [← hW];try rw [egc]
 try rw [egb]
 try rw [ega]
 clear hW ega egb egc;have kga:=yaf Bga.out;have kgb:=yaf Bgb.out;have kgc:=yaf Bgc.out;have Q1:Hid (∀ m:KW W,Calls prog 167 #[.agg #[.bool na,.string sa,.bool false,.string da],.int .i64 u,.agg #[.bool nr,.string sr,.bool false,.string dr]] (Wk W m) fun e w'=>e = .returned (.int .i64 x)∧∃ m,w'=Wk W m):=fun m=>qk m (H1.out _);have Q2:Hid (∀ m:KW W,Calls prog 29 #[.agg #[.bool ns,.string ss,.bool false,.string ds]] (Wk W m) fun e w'=>e = .returned (.int .i64 y)∧∃ m,w'=Wk W m):=fun m=>qk m (HS.out _);refine yad (by kernel_rfl) (by kernel_rfl) ?_
 repeat (first
  | go_big_quiet_skip
  | (go_big_quiet_want;go_big_quiet_op;first|go_big_quiet_on|go_big_quiet_call (first
   | (go_at_call 167;with_reducible exact (Q1).out _)|(go_at_call 29;with_reducible exact (Q2).out _))))
 refine wpQuiet_nil ?_;rintro w1 ⟨⟨_,hk_w1⟩,rfl⟩;clear kga kgb kgc Q1 Q2;replace Bga:=jH hk_w1 Bga;replace Bgb:=jH hk_w1 Bgb;replace Bgc:=jH hk_w1 Bgc;replace HkW:=jX (HkW.out.tz hk_w1);clear hk_w1;go_wp2_with fail;have hgW1:ga<w1.heap.size∧gb<w1.heap.size∧gc<w1.heap.size:=⟨yaa Bga.out,yaa Bgb.out,yaa Bgc.out⟩;refine yaI 6 [(13,28)] (fun _=>.cells #[.bool false,.string ⟨#[]⟩,.bool false,.string ⟨#[]⟩] 28) (by kernel_rfl) (by kernel_rfl) (by kernel_rfl) (fun t ht ev w o ho=>by simp at ht;subst ht;exact ycA ev w o ho) ?_;intro U hU;have kga:=yaf (hU.heap Bga.out (by simp));have kgb:=yaf (hU.heap Bgb.out (by simp));have Q1:Hid (∀ m:KW U,Calls prog 168 #[.agg #[.bool na,.string sa,.bool false,.string da],.agg #[.bool na,.string sa,.bool false,.string da]] (Wk U m) fun e w'=>e = .returned (.agg #[.bool n5,.string s5,.bool false,.string e5])∧∃ m,w'=Wk U m):=fun m=>qk m (HM.out _);have Q2:Hid (∀ m:KW U,Calls prog 143 #[.agg #[.bool n5,.string s5,.bool false,.string e5],.agg #[.bool nr,.string sr,.bool false,.string dr]] (Wk U m) fun e w'=>e = .returned (.agg #[.bool n4,.string s4,.bool false,.string e4])∧∃ m,w'=Wk U m):=fun m=>qk m (HA.out _);simp only [List.map_cons,List.map_nil,unal,isAl,if_true,if_false,Bool.false_eq_true,List.take_succ_cons,List.take_zero]
 repeat (first
  | go_big_quiet_skip
  | (go_big_quiet_want;go_big_quiet_op;first|go_big_quiet_on|go_big_quiet_call (first
   | (go_at_call 168;with_reducible exact (Q1).out _)|(go_at_call 143;with_reducible exact (Q2).out _))))
 refine wpQuiet_nil ?_;intro p hp1 hp2 w2 hk_w2 hz;have bgx:=hz (13,28) (by simp);have hgx:=hp1 13 (by simp);simp only [List.map_cons,List.map_nil,pl,List.drop_succ_cons,List.drop_zero];dsimp only at bgx;generalize p 13=gd at *;have Bgd:=jX bgx;have hgd:=hgx;clear hz hp1 hp2 bgx hgx;clear kga kgb Q1 Q2 hU p U;replace Bga:=jH hk_w2 Bga;replace Bgb:=jH hk_w2 Bgb;replace Bgc:=jH hk_w2 Bgc;replace HkW:=jX (HkW.out.tz hk_w2);clear hk_w2;obtain⟨pgd,fgd,lgd⟩:=jQ Bgd;go_simp;go_wp2_with fail;clear pgd fgd lgd;obtain⟨W3,hW2,bgd,hkW2⟩:=st4 (x:=.bool n4) (y:=.string s4) (z:=.bool false) (u:=.string e4) (Bgd.out:(w2).heap[gd]? = _);rw [← hW2];clear Bgd;have Bgd:=jX bgd;clear hW2 bgd;have B2ga:=jX (hkW2.heap Bga.out (by simp;omega));clear Bga;have Bga:=B2ga;clear B2ga;have B2gb:=jX (hkW2.heap Bgb.out (by simp;omega));clear Bgb;have Bgb:=B2gb;clear B2gb;have B2gc:=jX (hkW2.heap Bgc.out (by simp;omega));clear Bgc;have Bgc:=B2gc;clear B2gc;have HkW2:=jX (HkW.out.trans hkW2 (by simp;omega));clear HkW hkW2;have HkW:=HkW2;clear HkW2;have hgW2:ga<W3.heap.size∧gb<W3.heap.size∧gc<W3.heap.size∧gd<W3.heap.size:=⟨yaa Bga.out,yaa Bgb.out,yaa Bgc.out,yaa Bgd.out⟩;refine yaI 8 [(14,28)] (fun _=>.cells #[.bool false,.string ⟨#[]⟩,.bool false,.string ⟨#[]⟩] 28) (by kernel_rfl) (by kernel_rfl) (by kernel_rfl) (fun t ht ev w o ho=>by simp at ht;subst ht;exact ycA ev w o ho) ?_;intro U hU;have kga:=yaf (hU.heap Bga.out (by simp));have kgb:=yaf (hU.heap Bgb.out (by simp));have Q1:Hid (∀ m:KW U,Calls prog 168 #[.agg #[.bool na,.string sa,.bool false,.string da],.agg #[.bool na,.string sa,.bool false,.string da]] (Wk U m) fun e w'=>e = .returned (.agg #[.bool n5,.string s5,.bool false,.string e5])∧∃ m,w'=Wk U m):=fun m=>qk m (HM.out _);have Q2:Hid (∀ m:KW U,Calls prog 91 #[.int .i64 4,.int .i64 1] (Wk U m) fun e w'=>e = .returned (.agg #[.bool n6,.string s6,.bool false,.string e6])∧∃ m,w'=Wk U m):=fun m=>qk m (HF.out _);have Q3:Hid (∀ m:KW U,Calls prog 168 #[.agg #[.bool n5,.string s5,.bool false,.string e5],.agg #[.bool nr,.string sr,.bool false,.string dr]] (Wk U m) fun e w'=>e = .returned (.agg #[.bool n3,.string s3,.bool false,.string e3])∧∃ m,w'=Wk U m):=fun m=>qk m (HM2.out _);have Q4:Hid (∀ m:KW U,Calls prog 168 #[.agg #[.bool n6,.string s6,.bool false,.string e6],.agg #[.bool n3,.string s3,.bool false,.string e3]] (Wk U m) fun e w'=>e = .returned (.agg #[.bool n2,.string s2,.bool false,.string e2])∧∃ m,w'=Wk U m):=fun m=>qk m (HM3.out _);simp only [List.map_cons,List.map_nil,unal,isAl,if_true,if_false,Bool.false_eq_true,List.take_succ_cons,List.take_zero]
 repeat (first
  | go_big_quiet_skip
  | (go_big_quiet_want;go_big_quiet_op;first|go_big_quiet_on|go_big_quiet_call (first
   | (go_at_call 168;with_reducible exact (Q1).out _)|(go_at_call 91;with_reducible exact (Q2).out _)|(go_at_call 168;with_reducible exact (Q3).out _)|(go_at_call 168;with_reducible exact (Q4).out _))))
 refine wpQuiet_nil ?_;intro p hp1 hp2 w4 hk_w4 hz;have bgx:=hz (14,28) (by simp);have hgx:=hp1 14 (by simp);simp only [List.map_cons,List.map_nil,pl,List.drop_succ_cons,List.drop_zero];dsimp only at bgx;generalize p 14=ge at *;have Bge:=jX bgx;have hge:=hgx;clear hz hp1 hp2 bgx hgx;clear kga kgb Q1 Q2 Q3 Q4 HM HF HM2 HM3 HA hU p U;replace Bga:=jH hk_w4 Bga;replace Bgb:=jH hk_w4 Bgb;replace Bgc:=jH hk_w4 Bgc;replace Bgd:=jH hk_w4 Bgd;replace HkW:=jX (HkW.out.tz hk_w4);clear hk_w4;obtain⟨pge,fge,lge⟩:=jQ Bge;go_simp;go_wp2_with fail;clear pge fge lge;obtain⟨W5,hW2,bge,hkW2⟩:=st4 (x:=.bool n2) (y:=.string s2) (z:=.bool false) (u:=.string e2) (Bge.out:(w4).heap[ge]? = _);rw [← hW2];clear Bge;have Bge:=jX bge;clear hW2 bge;have B2ga:=jX (hkW2.heap Bga.out (by simp;omega));clear Bga;have Bga:=B2ga;clear B2ga;have B2gb:=jX (hkW2.heap Bgb.out (by simp;omega));clear Bgb;have Bgb:=B2gb;clear B2gb;have B2gc:=jX (hkW2.heap Bgc.out (by simp;omega));clear Bgc;have Bgc:=B2gc;clear B2gc;have B2gd:=jX (hkW2.heap Bgd.out (by simp;omega));clear Bgd;have Bgd:=B2gd;clear B2gd;have HkW2:=jX (HkW.out.trans hkW2 (by simp;omega));clear HkW hkW2;have HkW:=HkW2;clear HkW2;have kga:=yaf Bga.out;have kgb:=yaf Bgb.out;have kgc:=yaf Bgc.out;have kgd:=yaf Bgd.out;have kge:=yaf Bge.out;have Q1:Hid (∀ m:KW W5,Calls prog 88 #[.agg #[.bool n4,.string s4,.bool false,.string e4],.agg #[.bool ns,.string ss,.bool false,.string ds]] (Wk W5 m) fun e w'=>e = .returned (.agg #[.bool n1,.string s1,.bool false,.string e1])∧∃ m,w'=Wk W5 m):=fun m=>qk m (HB.out _);have Q2:Hid (∀ m:KW W5,Calls prog 29 #[.agg #[.bool na,.string sa,.bool false,.string da]] (Wk W5 m) fun e w'=>e = .returned (.int .i64 xa)∧∃ m,w'=Wk W5 m):=fun m=>qk m (HSa.out _);have Q3:Hid (∀ m:KW W5,Calls prog 167 #[.agg #[.bool n1,.string s1,.bool false,.string e1],.int .i64 q,.agg #[.bool n2,.string s2,.bool false,.string e2]] (Wk W5 m) fun e w'=>e = .returned (.int .i64 z)∧∃ m,w'=Wk W5 m):=fun m=>qk m (HL.out _);refine yad (by kernel_rfl) (by kernel_rfl) ?_
 repeat (first
  | go_big_quiet_skip
  | (go_big_quiet_want;go_big_quiet_op;first|go_big_quiet_on|go_big_quiet_call (first
   | (go_at_call 88;with_reducible exact (Q1).out _)|(go_at_call 29;with_reducible exact (Q2).out _)|(go_at_call 167;with_reducible exact (Q3).out _))))
 refine wpQuiet_nil ?_;rintro w6 ⟨⟨_,hk_w6⟩,rfl⟩;clear kga kgb kgc kgd kge Q1 Q2 Q3;replace Bga:=jH hk_w6 Bga;replace Bgb:=jH hk_w6 Bgb;replace Bgc:=jH hk_w6 Bgc;replace Bgd:=jH hk_w6 Bgd;replace Bge:=jH hk_w6 Bge;replace HkW:=jX (HkW.out.tz hk_w6);clear hk_w6;go_wp2_with fail;go_ret
 exact ⟨rfl,by repeat (first|(with_reducible exact HkW.out)|(refine Keep.sP ?_ _ _ _ (by omega))|(refine Keep.aP ?_ _)|(refine Keep.dP ?_))⟩
end Go.Proofs.YtpgffjjpiafhpaaGreatDoor
