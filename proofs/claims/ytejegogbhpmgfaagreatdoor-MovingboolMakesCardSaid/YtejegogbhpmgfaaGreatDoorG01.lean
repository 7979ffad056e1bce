/- Parts of a proof: Or Oq Oc Pl. -/
import Derived.Lib.Hide
set_option linter.unusedVariables false
set_option linter.unusedSimpArgs false
set_option linter.unusedSectionVars false
set_option maxRecDepth 100000
set_option maxHeartbeats 8000000
namespace Go.Proofs.YtejegogbhpmgfaaGreatDoor
open Go.RowKit
theorem ycg {a b c:Rat} (h:a≤b) (hc:0≤c):a*c≤b*c:=Rat.mul_le_mul_of_nonneg_right h hc
theorem yaG {a b:Rat} (h:0<a) (h2:0<b):0<a*b:=Rat.mul_pos h h2
theorem ybT {a b:Rat} (h:0≤a) (h2:0≤b):0≤a*b:=Rat.mul_nonneg h h2
theorem ygq (a:Rat):0≤a*a:=by
 rcases Rat.le_total (a:=0) (b:=a) with h|h
 ·exact ybT h h
 have:=ybT (a:=-a) (b:=-a) (by grind) (by grind);grind
theorem sq_lt {a b:Rat} (h:0≤a) (h2:a<b):a*a<b*b:=by
 have h3:0<b-a:=by grind
 have h4:0<b+a:=by grind
 have:=yaG h3 h4;grind
theorem sq_le {a b:Rat} (h:0≤a) (h2:a≤b):a*a≤b*b:=by
 have:=ybT (a:=b-a) (b:=b+a) (by grind) (by grind);grind
theorem yep {a b:Rat} (h:0≤b) (h2:a*a<b*b):a<b:=by
 rcases Rat.le_total (a:=b) (b:=a) with h3|h3
 ·have:=sq_le h h3
  grind
 by_cases h4:a=b
 ·subst h4;grind
 grind
theorem yiV {a b:Rat} (h:0≤b) (h2:a*a≤b*b):a≤b:=by
 by_cases h3:a≤b
 ·exact h3
 have:=sq_lt h (show b<a by grind)
 grind
def Pos (a b r:Rat):Prop:=(0<a∧(0≤b∨b*b*r<a*a))∨(a≤0∧0<b∧a*a<b*b*r)
structure Near (r t e:Rat):Prop where
 nn:0≤t
 le:t*t≤r
 lt:r<(t+e)*(t+e)
theorem Near.top {r t e:Rat} (h:Near r t e) (hr:0≤r):t≤r+1:=by
 refine yiV (by grind) ?_;have:=h.le;have:=ygq r;grind
theorem yhl {d m:Rat} (hd:0<d) (hm:0<m):∃ g,0<g∧g*m≤d:=by
 refine ⟨d / m,?_,?_⟩
 ·rw [Rat.lt_div_iff hm];grind
 rw [Rat.div_mul_cancel (by grind)];grind
theorem ygl {d m:Rat} (hd:0<d) (hm:0<m):∃ g,0<g∧g≤1∧g*m≤d:=by
 obtain⟨g,h1,h2⟩:=yhl hd hm;by_cases h:g≤1
 ·exact ⟨g,h1,h,h2⟩
 refine ⟨1,by grind,by grind,?_⟩;have:=ycg (show (1:Rat)≤g by grind) (Rat.le_of_lt hm)
 grind
theorem Pos.gap {a b r:Rat} (hr:0≤r) (h:Pos a b r):∃ g e0:Rat,0<g∧0<e0∧∀ e t,0<e→e≤e0→Near r t e→g≤a+b*t:=by
 rcases h with ⟨ha,hb|hb⟩|⟨ha,hb,hab⟩
 ·refine ⟨a,1,ha,by grind,fun e t he _ hn=>?_⟩
  have:=ybT hb hn.nn;grind
 ·obtain⟨g,hg,hgm⟩:=yhl (d:=a*a-b*b*r) (m:=2*a) (by grind) (by grind)
  refine ⟨g,1,hg,by grind,fun e t he _ hn=>?_⟩
  have h1:b*b*(t*t)≤b*b*r:=by
   have:=ycg hn.le (ygq b);grind
  have h2:b*t<a:=yep (Rat.le_of_lt ha) (by grind);have h3 : -(b*t)<a:=yep (Rat.le_of_lt ha) (by grind);have h4:=ybT (a:=a+b*t) (b:=a+b*t) (by grind) (by grind);by_cases h5:g≤a+b*t
  ·exact h5
  exfalso;have h6:=yaG (a:=g-(a+b*t)) (b:=2*a) (by grind) (by grind);grind
 obtain⟨g,hg,hgm⟩:=yhl (d:=b*b*r-a*a) (m:=2*(b*(r+2)-a+1)) (by grind) (by
  have:=ybT (a:=b) (b:=r+2) (by grind) (by grind)
  grind)
 obtain⟨e0,he0,he1,heb⟩:=ygl hg hb;refine ⟨g,e0,hg,he0,fun e t he hle hn=>?_⟩
 have h1:b*e≤g:=by
  have:=ycg hle (Rat.le_of_lt hb);grind
 have h2:=hn.top hr
 have h3:b*(t+e)≤b*(r+2):=by
  have:=ycg (a:=t+e) (b:=r+2) (c:=b) (by grind) (Rat.le_of_lt hb);grind
 have h4:b*b*r≤b*b*((t+e)*(t+e)):=by
  have:=ycg (Rat.le_of_lt hn.lt) (ygq b);grind
 have h5:0≤b*(t+e):=ybT (Rat.le_of_lt hb) (by have:=hn.nn;grind);by_cases h6:g≤a+b*t
 ·exact h6
 exfalso
 -- W=b (t+e)+a<2 g
 have h7:b*(t+e)+a<2*g:=by grind
 have h8:0<b*(t+e)+a:=by
  have : -a<b*(t+e):=yep h5 (by grind);grind
 have h9:=ybT (a:=b*(t+e)+a) (b:=(b*(r+2)-a+1)-(b*(t+e)-a)) (by grind) (by grind);have h10:=yaG (a:=2*g-(b*(t+e)+a)) (b:=b*(r+2)-a+1) (by grind) (by grind);grind
theorem Near.zero {t e:Rat} (h:Near 0 t e):t=0:=by
 have h1:=h.le;have h2:=h.nn;by_cases h3:t=0
 ·exact h3
 have:=yaG (a:=t) (b:=t) (by grind) (by grind);grind
inductive Pos3 (a b r c s:Rat):Prop
 | same (h:Pos a b r) (hc:s=0∨c=1)
 | none (h1:¬ Pos a b r) (h2:¬ Pos (-a) (-b) r) (hc:c=1) (hs:0<s)
 | less (h:Pos a b r) (hc:c = -1) (hs:0<s) (h2:Pos (a*a+r-s) (2*(a*b)) r)
 | more (h:Pos (-a) (-b) r) (hc:c=1) (hs:0<s) (h2:Pos (-(a*a+r-s)) (-(2*(a*b))) r)
theorem ydY {x y:Rat} (hx:0<x) (hy:0<y):∃ e,0<e∧e≤x∧e≤y:=by
 by_cases h:x≤y
 ·exact ⟨x,hx,by grind,h⟩
 exact ⟨y,hy,by grind,by grind⟩
theorem near_none {a b r t e:Rat} (hb:b=1∨b = -1) (h1:¬ Pos a b r) (h2:¬ Pos (-a) (-b) r) (he:0<e) (ht:Near r t e) : -e≤a+b*t:=by
 have t1:=ht.nn;have t2:=ht.le;have t3:=ht.lt;unfold Pos at h1 h2;rcases hb with rfl|rfl
 ·have ha:a≤0:=by grind
  by_cases h0:a=0
  ·subst h0;grind
  have h4:(-a)*(-a)≤r:=by grind
  have h5 : -a<t+e:=yep (by grind) (by grind);grind
 have ha:0≤a:=by grind
 have h4:r≤a*a:=by grind
 have h5:t≤a:=yiV ha (by grind);grind
theorem yhb (a:Rat):a≤a*a+1 ∧ -a≤a*a+1:=by
 have h1:=ygq (a-1);have h2:=ygq (a+1);have h3:=ygq a;constructor<;>grind
theorem yiO {x y g M d:Rat} (h:d≤x*y) (hd:0<d) (hy:0≤y) (hM:y≤M) (hM0:0<M) (hg:g*M≤d) (hg0:0<g):g≤x:=by
 by_cases h1:g≤x
 ·exact h1
 exfalso;by_cases h2:x≤0
 ·have:=ybT (a:=-x) (b:=y) (by grind) hy
  grind
 have h3:=ybT (a:=x) (b:=M-y) (by grind) (by grind);have h4:=yaG (a:=g-x) (b:=M) (by grind) hM0;grind
theorem Pos3.gap {a b r c s:Rat} (hr:0≤r) (hs0:0≤s) (hb:b=1∨b = -1) (h:Pos3 a b r c s) :
  ∃ g e0:Rat,0<g∧0<e0∧∀ e t u,0<e→e≤e0→Near r t e→Near s u e→g≤a+b*t+c*u:=by
 have hbb:b*b=1:=by rcases hb with rfl|rfl<;>grind
 cases h with
 | same h hc =>
  obtain⟨g,e0,hg,he0,k⟩:=h.gap hr;refine ⟨g,e0,hg,he0,fun e t u he hle ht hu=>?_⟩;have k1:=k e t he hle ht;rcases hc with rfl|rfl
  ·rw [hu.zero];grind
  have:=hu.nn;grind
 | none h1 h2 hc hs =>
  subst hc;obtain⟨g,e0,hg,he0,k⟩:=Pos.gap (a:=0) (b:=1) (r:=s) hs0 (.inr ⟨by grind,by grind,by grind⟩);obtain⟨e1,h4,h5,h6⟩:=ydY he0 (show 0<g / 2 by grind)
  refine ⟨g / 2,e1,by grind,h4,fun e t u he hle ht hu=>?_⟩;have k1:=k e u he (by grind) hu;have k2:=near_none hb h1 h2 he ht;grind
 | less h hc hs h2 =>
  subst hc;obtain⟨g1,e1,hg1,he1,k1⟩:=h.gap hr;obtain⟨g2,e2,hg2,he2,k2⟩:=h2.gap hr;obtain⟨e3,he3,h31,h32⟩:=ygl (d:=g2 / 2) (m:=2*(r+1)+1) (by grind) (by grind);obtain⟨e4,he4,h41,h42⟩:=ydY he1 he2;obtain⟨e5,he5,h51,h52⟩:=ydY he3 he4;have hM0:0<a*a+r+s+4:=by have:=ygq a;grind
  obtain⟨g,hg,hgM⟩:=yhl (d:=g2 / 2) (m:=a*a+r+s+4) (by grind) hM0;refine ⟨g,e5,hg,he5,fun e t u he hle ht hu=>?_⟩;have p1:=k1 e t he (by grind) ht;have p2:=k2 e t he (by grind) ht;have t1:=ht.nn;have t2:=ht.le;have t3:=ht.lt;have t4:=ht.top hr;have u1:=hu.nn;have u2:=hu.le;have u4:=hu.top hs0
  have q1:e*(2*t+e)≤e3*(2*(r+1)+1):=by
   have x1:=ycg (a:=e) (b:=e3) (c:=2*t+e) (by grind) (by grind);have x2:=ycg (a:=2*t+e) (b:=2*(r+1)+1) (c:=e3) (by grind) (by grind);grind
  have q2:(a+b*t)*(a+b*t)=a*a+2*(a*b)*t+t*t:=by
   have:(a+b*t)*(a+b*t)=a*a+2*(a*b)*t+(b*b)*(t*t):=by grind
   rw [this,hbb];grind
  have q3:g2 / 2≤((a+b*t)-u)*((a+b*t)+u):=by grind
  have q4:b*t≤t:=by rcases hb with rfl|rfl<;>grind
  have q5:=yhb a;have:=yiO q3 (by grind) (by grind) (M:=a*a+r+s+4) (by grind) hM0 hgM hg;grind
 | more h hc hs h2 =>
  subst hc;obtain⟨g1,e1,hg1,he1,k1⟩:=h.gap hr;obtain⟨g2,e2,hg2,he2,k2⟩:=h2.gap hr;obtain⟨e3,he3,h31,h32⟩:=ygl (d:=g2 / 2) (m:=2*(s+1)+1) (by grind) (by grind);obtain⟨e4,he4,h41,h42⟩:=ydY he1 he2;obtain⟨e5,he5,h51,h52⟩:=ydY he3 he4;have hM0:0<a*a+r+s+4:=by have:=ygq a;grind
  obtain⟨g,hg,hgM⟩:=yhl (d:=g2 / 2) (m:=a*a+r+s+4) (by grind) hM0;refine ⟨g,e5,hg,he5,fun e t u he hle ht hu=>?_⟩;have p1:=k1 e t he (by grind) ht;have p2:=k2 e t he (by grind) ht;have t1:=ht.nn;have t2:=ht.le;have t4:=ht.top hr;have u1:=hu.nn;have u2:=hu.le;have u3:=hu.lt;have u4:=hu.top hs0
  have q1:e*(2*u+e)≤e3*(2*(s+1)+1):=by
   have x1:=ycg (a:=e) (b:=e3) (c:=2*u+e) (by grind) (by grind);have x2:=ycg (a:=2*u+e) (b:=2*(s+1)+1) (c:=e3) (by grind) (by grind);grind
  have q2:(a+b*t)*(a+b*t)=a*a+2*(a*b)*t+t*t:=by
   have:(a+b*t)*(a+b*t)=a*a+2*(a*b)*t+(b*b)*(t*t):=by grind
   rw [this,hbb];grind
  have q3:g2 / 2≤(u+(a+b*t))*(u-(a+b*t)):=by grind
  have q4 : -(b*t)≤t:=by rcases hb with rfl|rfl<;>grind
  have q5:=yhb a;have:=yiO q3 (by grind) (by grind) (M:=a*a+r+s+4) (by grind) hM0 hgM hg;grind
theorem Pos.mono {a a' b r:Rat} (hr:0≤r) (h:Pos a b r) (ha:a≤a'):Pos a' b r:=by
 rcases h with ⟨h1,h2|h2⟩|⟨h1,h2,h3⟩
 ·exact .inl ⟨by grind,.inl h2⟩
 ·refine .inl ⟨by grind,.inr ?_⟩
  have:=sq_le (Rat.le_of_lt h1) ha;grind
 by_cases h4:0<a'
 ·exact .inl ⟨h4,.inl (by grind)⟩
 refine .inr ⟨by grind,h2,?_⟩;have:=sq_le (a:=-a') (b:=-a) (by grind) (by grind);grind
theorem yev {w r t e h:Rat} (hr:0≤r) (hw:w=1∨w = -1) (ht:Near r t e) (he:0<e) (hh:e≤h):Pos (h+w*t) (-w) r:=by
 have t1:=ht.nn;have t2:=ht.le;have t3:=ht.lt;rcases hw with rfl|rfl
 ·refine .inl ⟨by grind,.inr ?_⟩
  have:=sq_le (a:=t+e) (b:=h+1*t) (by grind) (by grind);grind
 by_cases h4:0<h + -1*t
 ·exact .inl ⟨h4,.inl (by grind)⟩
 refine .inr ⟨by grind,by grind,?_⟩;have:=sq_lt (a:=t-h) (b:=t) (by grind) (by grind);grind
theorem ex_nat (x:Rat):∃ n:Nat,x≤n:=by
 refine ⟨x.ceil.toNat,?_⟩;have h1:=@Rat.le_ceil x
 have h2:(x.ceil:Rat)≤((x.ceil.toNat:Int):Rat):=by
  rw [Rat.intCast_le_intCast];omega
 have h3:((x.ceil.toNat:Int):Rat)=((x.ceil.toNat:Nat):Rat):=rfl;grind
theorem yfo {r e:Rat} (hr:0≤r) (he:0<e):∃ t,Near r t e:=by
 have step:∀ n:Nat,r<((n:Rat)*e)*((n:Rat)*e)→∃ t,Near r t e:=by
  intro n;induction n with
  | zero=>intro h;exfalso;have:((0:Nat):Rat)=0:=rfl;grind
  | succ n ih =>
   intro h;by_cases h1:r<((n:Rat)*e)*((n:Rat)*e)
   ·exact ih h1
   have hn:(0:Rat)≤(n:Rat):=by exact Rat.natCast_nonneg
   have hc:((n+1:Nat):Rat)=(n:Rat)+1:=by simp
   refine ⟨(n:Rat)*e,ybT hn (Rat.le_of_lt he),by grind,?_⟩;rw [hc] at h;grind
 obtain⟨n,hn⟩:=ex_nat ((r+1) / e);refine step n ?_
 have h1:r+1≤(n:Rat)*e:=by
  have:=ycg hn (Rat.le_of_lt he);rw [Rat.div_mul_cancel (by grind)] at this;exact this
 have:=sq_le (a:=r+1) (b:=(n:Rat)*e) (by grind) h1;have:=ygq r;grind
structure Qn where
 p:Rat
 r:Rat
 neg:Bool
def Qn.u (x:Qn):Rat:=if x.neg then -1 else 1
theorem Qn.u_or (x:Qn):x.u=1∨x.u = -1:=by unfold Qn.u;cases x.neg<;>simp
structure Qn.Ok (x:Qn):Prop where
 nn:0≤x.r
 zero:x.r=0→x.neg=false
 sq:x.r≠0→∀ q:Rat,q*q≠x.r
def Below1 (q:Rat) (x:Qn):Prop:=Pos (x.p-q) x.u x.r
def Above1 (q:Rat) (x:Qn):Prop:=Pos (q-x.p) (-x.u) x.r
theorem Below1.mono {q q':Rat} {x:Qn} (hx:0≤x.r) (h:Below1 q x) (hq:q'≤q):Below1 q' x:=Pos.mono hx h (by grind)
theorem Above1.mono {q q':Rat} {x:Qn} (hx:0≤x.r) (h:Above1 q x) (hq:q≤q'):Above1 q' x:=Pos.mono hx h (by grind)
theorem yfp {q q':Rat} {x:Qn} (hx:0≤x.r) (h:Below1 q x) (h':Above1 q' x):q<q':=by
 obtain⟨g,e0,hg,he,k⟩:=Pos.gap hx h;obtain⟨g',e0',hg',he',k'⟩:=Pos.gap hx h';obtain⟨e,h1,h2,h3⟩:=ydY he he';obtain⟨t,ht⟩:=yfo hx h1;have:=k e t h1 h2 ht;have:=k' e t h1 h3 ht;grind
def Lt (x y:Qn):Prop:=∃ q,Above1 q x∧Below1 q y
theorem Lt.trans {x y z:Qn} (hx:0≤x.r) (hy:0≤y.r) (h:Lt x y) (h':Lt y z):Lt x z:=by
 obtain⟨q,h1,h2⟩:=h;obtain⟨q',h3,h4⟩:=h';exact ⟨q',h1.mono hx (Rat.le_of_lt (yfp hy h2 h3)),h4⟩
theorem Lt.irrefl {x:Qn} (hx:0≤x.r) (h:Lt x x):False:=by
 obtain⟨q,h1,h2⟩:=h;have:=yfp hx h2 h1;grind
theorem yjf {x y:Qn} (hx:0≤x.r) (hy:0≤y.r) (h:Pos3 (x.p-y.p) x.u x.r (-y.u) y.r):Lt y x:=by
 obtain⟨g,e0,hg,he0,k⟩:=h.gap hx hy x.u_or;obtain⟨e,h1,h2,h3⟩:=ydY he0 (show 0<g / 2 by grind)
 obtain⟨t,ht⟩:=yfo hx h1;obtain⟨v,hv⟩:=yfo hy h1;have hk:=k e t v h1 h2 ht hv;refine ⟨y.p+y.u*v+g / 2,?_,?_⟩
 ·have:=yev hy y.u_or hv h1 h3
  exact Pos.mono hy this (by grind)
 have hw : -x.u=1 ∨ -x.u = -1:=by rcases x.u_or with h|h<;>rw [h]<;>simp
 have:=yev hx hw ht h1 h3;rw [Rat.neg_neg] at this;exact Pos.mono hx this (by grind)
theorem yhK {x y:Qn} (hx:0≤x.r) (hy:0≤y.r) (h:Pos3 (-(x.p-y.p)) (-x.u) x.r (-(-y.u)) y.r):Lt x y:=by
 have hw : -x.u=1 ∨ -x.u = -1:=by rcases x.u_or with h|h<;>rw [h]<;>simp
 obtain⟨g,e0,hg,he0,k⟩:=h.gap hx hy hw;obtain⟨e,h1,h2,h3⟩:=ydY he0 (show 0<g / 2 by grind)
 obtain⟨t,ht⟩:=yfo hx h1;obtain⟨v,hv⟩:=yfo hy h1;have hk:=k e t v h1 h2 ht hv;refine ⟨x.p+x.u*t+g / 2,?_,?_⟩
 ·have:=yev hx x.u_or ht h1 h3
  exact Pos.mono hx this (by grind)
 have hw' : -y.u=1 ∨ -y.u = -1:=by rcases y.u_or with h|h<;>rw [h]<;>simp
 have:=yev hy hw' hv h1 h3;rw [Rat.neg_neg] at this;exact Pos.mono hy this (by grind)
def sgn (q:Rat):Int:=if q<0 then -1 else if 0<q then 1 else 0
theorem yaM (q:Rat):(q<0∧sgn q = -1)∨(q=0∧sgn q=0)∨(0<q∧sgn q=1):=by
 unfold sgn;by_cases h:q<0
 ·exact .inl ⟨h,if_pos h⟩
 rw [if_neg h];by_cases h2:0<q
 ·exact .inr (.inr ⟨h2,if_pos h2⟩)
 exact .inr (.inl ⟨by grind,if_neg h2⟩)
def sg1 (a b r:Rat):Int :=
 if sgn b*sgn r=0∨sgn a=sgn b*sgn r then sgn a else if sgn a=0 then sgn b*sgn r else sgn a*sgn (a*a-b*b*r)
theorem ycJ {a b r:Rat} (hr:0≤r) :
  (sg1 a b r=1∧Pos a b r)∨(sg1 a b r = -1∧Pos (-a) (-b) r)∨(sg1 a b r=0 ∧ ¬ Pos a b r ∧ ¬ Pos (-a) (-b) r∧a*a=b*b*r∧(r=0∨a*b≤0)):=by
 have f1:a<0∨0<a→0<a*a:=fun h=>by
  rcases h with h|h
  ·have:=yaG (a:=-a) (b:=-a) (by grind) (by grind)
   grind
  exact yaG h h
 have f2:(b<0∨0<b)→0<r→0<b*b*r:=fun h h2=>by
  rcases h with h|h
  ·have:=yaG (yaG (a:=-b) (b:=-b) (by grind) (by grind)) h2
   grind
  exact yaG (yaG h h) h2
 have f3:a<0→0<b→a*b<0:=fun h h2=>by
  have:=yaG (a:=-a) (b:=b) (by grind) h2;grind
 have f4:0<a→b<0→a*b<0:=fun h h2=>by
  have:=yaG (a:=a) (b:=-b) h (by grind);grind
 unfold sg1
 rcases yaM a with ⟨a1,a2⟩|⟨a1,a2⟩|⟨a1,a2⟩<;>rcases yaM b with ⟨b1,b2⟩|⟨b1,b2⟩|⟨b1,b2⟩<;>rcases yaM r with ⟨r1,r2⟩|⟨r1,r2⟩|⟨r1,r2⟩ <;>
  rcases yaM (a*a-b*b*r) with ⟨d1,d2⟩|⟨d1,d2⟩|⟨d1,d2⟩<;>rw [a2,b2,r2,d2]<;>simp
 all_goals unfold Pos
 all_goals first|grind|(subst r1;grind)|(subst a1;grind)|(subst r1;simp;grind)|(subst a1;simp;grind)
def cmpQ (x y:Qn):Int :=
 if sgn (-y.u)*sgn y.r=0∨sg1 (x.p-y.p) x.u x.r=sgn (-y.u)*sgn y.r then sg1 (x.p-y.p) x.u x.r
 else if sg1 (x.p-y.p) x.u x.r=0 then sgn (-y.u)*sgn y.r
 else sg1 (x.p-y.p) x.u x.r*sg1 ((x.p-y.p)*(x.p-y.p)+x.r-y.r) (2*((x.p-y.p)*x.u)) x.r
theorem sgn_neg_one:sgn (-1) = -1:=by decide
theorem Qn.eq_of {x y:Qn} (hx:x.Ok) (hy:y.Ok) (hp:x.p=y.p) (hr:x.r=y.r) (hu:x.r≠0→x.u=y.u):x=y:=by
 obtain⟨p,r,neg⟩:=x;obtain⟨p',r',neg'⟩:=y;dsimp only at hp hr;subst hp hr;by_cases h:r=0
 ·have h1:=hx.zero h
  have h2:=hy.zero h;dsimp only at h1 h2;rw [h1,h2]
 have:=hu h;unfold Qn.u at this;dsimp only at this;cases neg<;>cases neg'<;>simp_all<;>grind
theorem ygu {a:Rat} (h:a*a=0):a=0:=by
 by_cases h0:a=0
 ·exact h0
 exfalso;rcases Rat.le_total (a:=0) (b:=a) with h1|h1
 ·have:=yaG (a:=a) (b:=a) (by grind) (by grind)
  grind
 have:=yaG (a:=-a) (b:=-a) (by grind) (by grind);grind
theorem no_root {A B r:Rat} (h:A*A=B*B*r) (hB:B≠0):(A / B)*(A / B)=r:=by
 have h1:A / B*B=A:=Rat.div_mul_cancel hB;have h2:(A / B*B)*(A / B*B)=B*B*r:=by rw [h1];exact h
 have h3:(B*B)*((A / B)*(A / B)-r)=0:=by grind
 have h4:B*B≠0:=fun e=>hB (ygu e);rcases Rat.mul_eq_zero.1 h3 with h5|h5
 ·exact absurd h5 h4
 grind
theorem ygT {x y:Qn} (hx:x.Ok) (hy:y.Ok) (r1:0<y.r) {a:Rat} (k4:(a*a+x.r-y.r)*(a*a+x.r-y.r)=2*(a*x.u)*(2*(a*x.u))*x.r):a=0∧x.r=y.r∧x.r≠0:=by
 have hu:=x.u_or;by_cases h:x.r=0
 ·exfalso
  rw [h] at k4;have h1:a*a+0-y.r=0:=ygu (by grind);exact hy.sq (by grind) a (by grind)
 have h0:a=0:=by
  by_cases h0:a=0
  ·exact h0
  exfalso;have hB:2*(a*x.u)≠0:=by rcases hu with e|e<;>rw [e]<;>grind
  exact hx.sq h _ (no_root k4 hB)
 subst h0;have h1:0*0+x.r-y.r=0:=ygu (by grind);exact ⟨rfl,by grind,h⟩
theorem yjE {x y:Qn} (hx:x.Ok) (hy:y.Ok):(cmpQ x y=1∧Lt y x)∨(cmpQ x y = -1∧Lt x y)∨(cmpQ x y=0∧x=y):=by
 have hxn:=hx.nn;have hyn:=hy.nn;have hu:=x.u_or;have hu2:x.u*x.u=1:=by rcases hu with h|h<;>rw [h]<;>grind
 have g1:Pos3 (x.p-y.p) x.u x.r (-y.u) y.r→Lt y x:=yjf hxn hyn;have g2:Pos3 (-(x.p-y.p)) (-x.u) x.r (-(-y.u)) y.r→Lt x y:=yhK hxn hyn;unfold cmpQ;generalize ha:x.p-y.p=a at *;rcases yaM y.r with ⟨r1,r2⟩|⟨r1,r2⟩|⟨r1,r2⟩
 ·exfalso;grind
 ·-- the second number is a fraction
  rw [r2,Int.mul_zero,if_pos (.inl rfl)];rcases ycJ (a:=a) (b:=x.u) hxn with ⟨m1,m2⟩|⟨m1,m2⟩|⟨m1,m2,m3,m4,m5⟩
  ·exact .inl ⟨m1,g1 (.same m2 (.inl r1))⟩
  ·exact .inr (.inl ⟨m1,g2 (.same m2 (.inl r1))⟩)
  refine .inr (.inr ⟨m1,?_⟩);rw [hu2] at m4
  have hxr:x.r=0:=by
   by_cases h:x.r=0
   ·exact h
   exact absurd (by grind) (hx.sq h a)
  have ha0:a=0:=by
   by_cases h:a=0
   ·exact h
   exfalso
   have:0<a*a:=by
    rcases Rat.le_total (a:=0) (b:=a) with h1|h1
    ·exact yaG (by grind) (by grind)
    have:=yaG (a:=-a) (b:=-a) (by grind) (by grind);grind
   grind
  exact Qn.eq_of hx hy (by grind) (by grind) (fun h=>absurd hxr h)
 rcases y.u_or with hv|hv
 ·-- root is taken away
  have hn:sgn (-y.u) = -1:=by rw [hv];exact sgn_neg_one
  rw [hn,r2];have hc:(-y.u:Rat) = -1:=by rw [hv]
  rcases ycJ (a:=a) (b:=x.u) hxn with ⟨m1,m2⟩|⟨m1,m2⟩|⟨m1,m2,m3,m4,m5⟩
  ·rw [m1,if_neg (by decide),if_neg (by decide)]
   rcases ycJ (a:=a*a+x.r-y.r) (b:=2*(a*x.u)) hxn with ⟨k1,k2⟩|⟨k1,k2⟩|⟨k1,k2,k3,k4,k5⟩
   ·rw [k1];exact .inl ⟨by decide,g1 (.less m2 hc r1 k2)⟩
   ·rw [k1]
    refine .inr (.inl ⟨by decide,g2 (.more ?_ (by grind) r1 ?_)⟩)
    ·rw [Rat.neg_neg,Rat.neg_neg];exact m2
    have e1 : -(-a * -a+x.r-y.r) = -(a*a+x.r-y.r):=by grind
    have e2 : -(2*(-a * -x.u)) = -(2*(a*x.u)):=by grind
    rw [e1,e2];exact k2
   rw [k1];refine .inr (.inr ⟨by decide,?_⟩);obtain⟨z1,z2,z3⟩:=ygT hx hy r1 k4;refine Qn.eq_of hx hy (by grind) z2 (fun _=>?_);rw [z1] at m2;unfold Pos at m2;rcases hu with e|e
   ·rw [e,hv]
   rw [e] at m2;grind
  ·rw [m1,if_pos (.inr (by decide))]
   exact .inr (.inl ⟨rfl,g2 (.same m2 (.inr (by grind)))⟩)
  rw [m1,if_neg (by decide),if_pos rfl];refine .inr (.inl ⟨by decide,g2 (.none m3 ?_ (by grind) r1)⟩);rw [Rat.neg_neg,Rat.neg_neg];exact m2
 have hn:sgn (-y.u)=1:=by rw [hv];decide
 rw [hn,r2];have hc:(-y.u:Rat)=1:=by rw [hv];decide
 rcases ycJ (a:=a) (b:=x.u) hxn with ⟨m1,m2⟩|⟨m1,m2⟩|⟨m1,m2,m3,m4,m5⟩
 ·rw [m1,if_pos (.inr (by decide))]
  exact .inl ⟨rfl,g1 (.same m2 (.inr hc))⟩
 ·rw [m1,if_neg (by decide),if_neg (by decide)]
  rcases ycJ (a:=a*a+x.r-y.r) (b:=2*(a*x.u)) hxn with ⟨k1,k2⟩|⟨k1,k2⟩|⟨k1,k2,k3,k4,k5⟩
  ·rw [k1]
   refine .inr (.inl ⟨by decide,g2 (.less m2 (by grind) r1 ?_)⟩);have e1 : -a * -a+x.r-y.r=a*a+x.r-y.r:=by grind
   have e2:2*(-a * -x.u)=2*(a*x.u):=by grind
   rw [e1,e2];exact k2
  ·rw [k1];exact .inl ⟨by decide,g1 (.more m2 hc r1 k2)⟩
  rw [k1];refine .inr (.inr ⟨by decide,?_⟩);obtain⟨z1,z2,z3⟩:=ygT hx hy r1 k4;refine Qn.eq_of hx hy (by grind) z2 (fun _=>?_);rw [z1] at m2;unfold Pos at m2;rcases hu with e|e
  ·rw [e] at m2;grind
  rw [e,hv]
 rw [m1,if_neg (by decide),if_pos rfl];exact .inl ⟨by decide,g1 (.none m2 m3 hc r1)⟩
structure Bd (α:Type) where
 pt:α
 beh:Bool
section
open Classical
variable {α:Type} [LE α] [LT α] [Std.LawfulOrderLT α] [Std.IsLinearOrder α]
instance:LE (Bd α):=⟨fun a b=>a.pt<b.pt∨(a.pt=b.pt∧(a.beh=true→b.beh=true))⟩
instance:LT (Bd α):=⟨fun a b=>a.pt<b.pt∨(a.pt=b.pt∧a.beh=false∧b.beh=true)⟩
theorem Bd.le_def {a b:Bd α}:a≤b↔a.pt<b.pt∨(a.pt=b.pt∧(a.beh=true→b.beh=true)):=Iff.rfl
theorem Bd.lt_def {a b:Bd α}:a<b↔a.pt<b.pt∨(a.pt=b.pt∧a.beh=false∧b.beh=true):=Iff.rfl
theorem Bd.ext {a b:Bd α} (h:a.pt=b.pt) (h2:a.beh=b.beh):a=b:=by cases a;cases b;simp_all
instance:Std.IsLinearOrder (Bd α) where
 le_refl a:=.inr ⟨rfl,id⟩
 le_trans a b c h h2:=by
  rw [Bd.le_def] at *;grind
 le_antisymm a b h h2:=by
  rw [Bd.le_def] at *;have h3:a.pt=b.pt:=by grind
  refine Bd.ext h3 ?_;cases ha:a.beh<;>cases hb:b.beh<;>grind
 le_total a b:=by
  rw [Bd.le_def,Bd.le_def];grind
instance:Std.LawfulOrderLT (Bd α) where
 lt_iff a b:=by
  rw [Bd.lt_def,Bd.le_def,Bd.le_def];cases ha:a.beh<;>cases hb:b.beh<;>grind
structure Iv (α:Type) where
 f:Bd α
 l:Bd α
noncomputable def Iv.has (i:Iv α) (x:Bd α):Bool:=decide (i.f≤x∧x<i.l)
noncomputable def hasL (l:List (Iv α)) (x:Bd α):Bool:=l.any (fun i=>i.has x)
def NormF:List (Iv α)→Bd α→Prop
 | [],_=>True
 | i :: l,b=>b<i.f∧i.f<i.l∧NormF l i.l
def Norm:List (Iv α)→Prop
 | []=>True
 | i :: l=>i.f<i.l∧NormF l i.l
theorem Iv.hI {i:Iv α} {x:Bd α}:i.has x=true↔i.f≤x∧x<i.l:=by unfold Iv.has;simp
theorem yaD {i:Iv α} {l:List (Iv α)} {x:Bd α}:hasL (i :: l) x=(i.has x || hasL l x):=rfl
theorem yeg {x:Bd α}:hasL [] x=false:=rfl
theorem NormF.before {l:List (Iv α)} {b:Bd α} (h:NormF l b) {x:Bd α} (hx:x≤b):hasL l x=false:=by
 induction l generalizing b with
 | nil=>rfl
 | cons i l ih =>
  obtain⟨h1,h2,h3⟩:=h;rw [yaD,ih h3 (by grind),Bool.or_false];rw [← Bool.not_eq_true,Iv.hI];grind
theorem NormF.norm {l:List (Iv α)} {b:Bd α} (h:NormF l b):Norm l:=by
 cases l with
 | nil=>trivial
 | cons i l=>exact h.2
theorem NormF.mono {l:List (Iv α)} {b c:Bd α} (h:NormF l b) (hc:c≤b):NormF l c:=by
 cases l with
 | nil=>trivial
 | cons i l=>exact ⟨by have:=h.1;grind,h.2⟩
theorem yeF {l m:List (Iv α)} (hl:Norm l) (hm:Norm m) (h:∀ x,hasL l x=hasL m x):l=m:=by
 induction l generalizing m with
 | nil =>
  cases m with
  | nil=>rfl
  | cons j m =>
   exfalso;have:=h j.f;rw [yaD,Iv.hI.2 ⟨by grind,hm.1⟩,yeg] at this;simp at this
 | cons i l ih =>
  cases m with
  | nil =>
   exfalso;have:=h i.f;rw [yaD,Iv.hI.2 ⟨by grind,hl.1⟩,yeg] at this;simp at this
  | cons j m =>
   have e1:i.f=j.f:=by
    have k1:=h i.f;have k2:=h j.f;rw [yaD,yaD] at k1 k2;rw [Iv.hI.2 ⟨by grind,hl.1⟩,Bool.true_or] at k1;rw [Iv.hI.2 ⟨by grind,hm.1⟩,Bool.true_or] at k2;by_cases c:i.f<j.f
    ·exfalso
     rw [hm.2.before (by have:=hm.1;grind),Bool.or_false] at k1;have:=Iv.hI.1 k1.symm;grind
    by_cases c2:j.f<i.f
    ·exfalso
     rw [hl.2.before (by have:=hl.1;grind),Bool.or_false] at k2;have:=Iv.hI.1 k2;grind
    grind
   have e2:i.l=j.l:=by
    by_cases c:i.l<j.l
    ·exfalso
     have k:=h i.l;rw [yaD,yaD,hl.2.before (by grind),Bool.or_false,Iv.hI.2 ⟨by have:=hl.1;grind,c⟩,Bool.true_or] at k;have:=Iv.hI.1 k;grind
    by_cases c2:j.l<i.l
    ·exfalso
     have k:=h j.l;rw [yaD,yaD,hm.2.before (by grind),Bool.or_false,(Iv.hI (i:=i)).2 ⟨by have:=hm.1;grind,c2⟩,Bool.true_or] at k;have:=Iv.hI.1 k.symm;grind
    grind
   have e:i=j:=by cases i;cases j;simp_all
   subst e;rw [ih hl.2.norm hm.2.norm];intro x;by_cases c:x<i.l
   ·rw [hl.2.before (by grind),hm.2.before (by grind)]
   have:=h x;rw [yaD,yaD] at this
   have hn:i.has x=false:=by
    rw [← Bool.not_eq_true,Iv.hI];grind
   rw [hn] at this
   simpa using this
def run (F:Bd α→Bool):List (Bd α)→Option (Bd α)→List (Iv α)
 | [],_=>[]
 | b :: l,none=>if F b then run F l (some b) else run F l none
 | b :: l,some c=>if F b then run F l (some c) else ⟨c,b⟩ :: run F l none
def Up:List (Bd α)→Bd α→Prop
 | [],_=>True
 | b :: l,a=>a<b∧Up l b
theorem Up.all {l:List (Bd α)} {a:Bd α} (h:Up l a):∀ c∈l,a<c:=by
 induction l generalizing a with
 | nil=>simp
 | cons b l ih =>
  intro c hc;rcases List.mem_cons.1 hc with rfl|hc
  ·exact h.1
  have:=ih h.2 c hc;have:=h.1;grind
theorem run_law {F:Bd α→Bool} (l:List (Bd α)):∀ lo:Bd α,Up l lo→(∀ x y,lo≤x→lo≤y→(∀ c∈l,c≤x↔c≤y)→F x=F y)→(∀ x,lo≤x→(∀ c∈l,c≤x)→F x=false) →
  (F lo=false→NormF (run F l none) lo∧∀ x,lo≤x→hasL (run F l none) x=F x) ∧
  (∀ c,c≤lo→F lo=true→∃ e m,run F l (some c)=⟨c,e⟩ :: m∧lo<e∧NormF m e∧∀ x,lo≤x→hasL (run F l (some c)) x=F x):=by
 induction l with
 | nil =>
  intro lo hu hj he;refine ⟨fun _=>⟨trivial,fun x hx=>?_⟩,fun c hc h=>?_⟩
  ·rw [he x hx (by simp)];rfl
  rw [he lo (by grind) (by simp)] at h;exact absurd h (by simp)
 | cons b l ih =>
  intro lo hu hj he;have hlo:lo<b:=hu.1
  have hjb:∀ x y,b≤x→b≤y→(∀ c∈l,c≤x↔c≤y)→F x=F y:=fun x y hx hy h=>by
   refine hj x y (by grind) (by grind) (fun c hc=>?_);rcases List.mem_cons.1 hc with rfl|hc
   ·grind
   exact h c hc
  have heb:∀ x,b≤x→(∀ c∈l,c≤x)→F x=false:=fun x hx h=>by
   refine he x (by grind) (fun c hc=>?_);rcases List.mem_cons.1 hc with rfl|hc
   ·exact hx
   exact h c hc
  obtain⟨i1,i2⟩:=ih b hu.2 hjb heb;have hall:=hu.2.all
  have same:∀ x,lo≤x→x<b→F x=F lo:=fun x hx hb=>by
   refine hj x lo hx (by grind) (fun c hc=>?_);rcases List.mem_cons.1 hc with rfl|hc
   ·grind
   have:=hall c hc;grind
  refine ⟨fun h0=>?_,fun c hc h0=>?_⟩
  ·unfold run
   by_cases hb:F b=true
   ·rw [if_pos hb]
    obtain⟨e,m,e1,e2,e3,e4⟩:=i2 b (by grind) hb;rw [e1] at e4 ⊢;refine ⟨⟨hlo,e2,e3⟩,fun x hx=>?_⟩;by_cases hxb:x<b
    ·have hn:NormF (⟨b,e⟩ :: m) lo:=⟨hlo,e2,e3⟩
     rw [same x hx hxb,h0,yaD,e3.before (by grind),Bool.or_false,← Bool.not_eq_true,Iv.hI];grind
    exact e4 x (by grind)
   rw [if_neg hb];obtain⟨k1,k2⟩:=i1 (by simpa using hb);refine ⟨k1.mono (by grind),fun x hx=>?_⟩;by_cases hxb:x<b
   ·rw [same x hx hxb,h0,k1.before (by grind)]
   exact k2 x (by grind)
  unfold run;by_cases hb:F b=true
  ·rw [if_pos hb]
   obtain⟨e,m,e1,e2,e3,e4⟩:=i2 c (by grind) hb;refine ⟨e,m,e1,by grind,e3,fun x hx=>?_⟩;by_cases hxb:x<b
   ·rw [same x hx hxb,h0,e1,yaD,Iv.hI.2 ⟨by grind,by grind⟩,Bool.true_or]
   exact e4 x (by grind)
  rw [if_neg hb];obtain⟨k1,k2⟩:=i1 (by simpa using hb);refine ⟨b,_,rfl,hlo,k1,fun x hx=>?_⟩;by_cases hxb:x<b
  ·rw [same x hx hxb,h0,yaD,Iv.hI.2 ⟨by grind,by grind⟩,Bool.true_or]
  rw [yaD,k2 x (by grind)]
  have hn:(Iv.mk c b).has x=false:=by
   rw [← Bool.not_eq_true,Iv.hI];grind
  rw [hn,Bool.false_or]
def Ups:List (Bd α)→Prop
 | []=>True
 | b :: l=>Up l b
theorem yiP {F:Bd α→Bool} {l:List (Bd α)} (hu:Ups l) (hj:∀ x y,(∀ c∈l,c≤x↔c≤y)→F x=F y) (h0:∀ x,(∀ c∈l,x<c)→F x=false) (h1:∀ x,(∀ c∈l,c≤x)→F x=false) :
  Norm (run F l none)∧∀ x,hasL (run F l none) x=F x:=by
 cases l with
 | nil=>exact ⟨trivial,fun x=>by rw [h0 x (by simp)];rfl⟩
 | cons b l =>
  have hall:=Up.all hu
  obtain⟨i1,i2⟩:=run_law (F:=F) l b hu (fun x y hx hy h=>hj x y (fun c hc=>by
   rcases List.mem_cons.1 hc with rfl|hc
   ·grind
   ·exact h c hc)) (fun x hx h=>h1 x (fun c hc=>by
   rcases List.mem_cons.1 hc with rfl|hc
   ·exact hx
   exact h c hc))
  have low:∀ x,x<b→F x=false:=fun x hx=>h0 x (fun c hc=>by
   rcases List.mem_cons.1 hc with rfl|hc
   ·exact hx
   have:=hall c hc
   grind)
  unfold run;by_cases hb:F b=true
  ·rw [if_pos hb]
   obtain⟨e,m,e1,e2,e3,e4⟩:=i2 b (by grind) hb;rw [e1] at e4 ⊢;refine ⟨⟨e2,e3⟩,fun x=>?_⟩;by_cases hx:x<b
   ·rw [low x hx,yaD,e3.before (by grind),Bool.or_false,← Bool.not_eq_true,Iv.hI]
    grind
   exact e4 x (by grind)
  rw [if_neg hb];obtain⟨k1,k2⟩:=i1 (by simpa using hb);refine ⟨k1.norm,fun x=>?_⟩;by_cases hx:x<b
  ·rw [low x hx,k1.before (by grind)]
  exact k2 x (by grind)
def ygt (l:List (Iv α)) (b:Bd α):List (Iv α):=match l.getLast? with
 | none=>l
 | some i=>l.dropLast++[⟨i.f,b⟩]
theorem yaN {l:List (Iv α)} {i:Iv α} {b:Bd α}:ygt (l++[i]) b=l++[⟨i.f,b⟩]:=by
 unfold ygt;simp
def ybh (here op:Bool) (t:α) (out:List (Iv α)):List (Iv α) :=
 if op then ygt out ⟨t,here⟩ else if here then out++[⟨⟨t,false⟩,⟨t,true⟩⟩] else out
def ydd (here btw:Bool) (t n:α) (out:List (Iv α)):List (Iv α) :=
 if btw && !here then out++[⟨⟨t,true⟩,⟨n,false⟩⟩] else out
def combL (H:α→Bool) (S:α→α→Bool):List α→Bool→List (Iv α)→List (Iv α)
 | [],_,out=>out
 | [t],op,out=>ybh (H t) op t out
 | t :: n :: r,op,out=>combL H S (n :: r) (S t n) (ydd (H t) (S t n) t n (ybh (H t) op t out))
def bor:List α→List (Bd α)
 | []=>[]
 | t :: r=>⟨t,false⟩ :: ⟨t,true⟩ :: bor r
def Asks (F:Bd α→Bool) (H:α→Bool) (S:α→α→Bool):List α→Prop
 | []=>True
 | [t]=>H t=F ⟨t,false⟩∧F ⟨t,true⟩=false
 | t :: n :: r=>H t=F ⟨t,false⟩∧S t n=F ⟨t,true⟩∧Asks F H S (n :: r)
theorem combL_run {F:Bd α→Bool} {H:α→Bool} {S:α→α→Bool} (l:List α):Asks F H S l→∀ out,
  combL H S l false out=out++run F (bor l) none∧∀ c e,(l≠[])→combL H S l true (out++[⟨c,e⟩])=out++run F (bor l) (some c):=by
 induction l with
 | nil=>intro h out;exact ⟨by simp [combL,bor,run],fun c e h=>absurd rfl h⟩
 | cons t r ih =>
  cases r with
  | nil =>
   intro h out;obtain⟨h1,h2⟩:=h;refine ⟨?_,fun c e _=>?_⟩
   ·cases hh:F ⟨t,false⟩<;>simp [combL,ybh,bor,run,h1,h2,hh]
   cases hh:F ⟨t,false⟩<;>simp [combL,ybh,bor,run,h1,h2,hh,yaN]
  | cons n r =>
   intro h out;obtain⟨h1,h2,h3⟩:=h;have ih:=ih h3;have hne:n :: r≠[]:=by simp
   refine ⟨?_,fun c e _=>?_⟩
   ·cases hh:F ⟨t,false⟩<;>cases hb:F ⟨t,true⟩<;>rw [combL,h1,h2,hh,hb]
    ·simp only [ybh,ydd,Bool.false_eq_true,if_false,Bool.false_and]
     rw [(ih _).1];simp [bor,run,hh,hb]
    ·simp only [ybh,ydd,Bool.false_eq_true,if_false,Bool.not_false,Bool.and_self,if_true]
     rw [(ih _).2 _ _ hne];simp [bor,run,hh,hb]
    ·simp only [ybh,ydd,Bool.false_eq_true,if_false,if_true,Bool.false_and]
     rw [(ih _).1];simp [bor,run,hh,hb]
    simp only [ybh,ydd,Bool.false_eq_true,if_false,if_true,Bool.not_true,Bool.and_false];rw [(ih _).2 _ _ hne];simp [bor,run,hh,hb]
   cases hh:F ⟨t,false⟩<;>cases hb:F ⟨t,true⟩<;>rw [combL,h1,h2,hh,hb]
   ·simp only [ybh,ydd,Bool.false_eq_true,if_false,if_true,Bool.false_and,yaN]
    rw [(ih _).1];simp [bor,run,hh,hb]
   ·simp only [ybh,ydd,Bool.false_eq_true,if_false,Bool.not_false,Bool.and_self,if_true,yaN]
    rw [(ih _).2 _ _ hne];simp [bor,run,hh,hb]
   ·simp only [ybh,ydd,Bool.false_eq_true,if_false,if_true,Bool.false_and,yaN]
    rw [(ih _).1];simp [bor,run,hh,hb]
   simp only [ybh,ydd,Bool.false_eq_true,if_false,if_true,Bool.not_true,Bool.and_false,yaN];rw [(ih _).2 _ _ hne];simp [bor,run,hh,hb]
structure Ev (α:Type) where
 at_:Bd α
 x:Int
 y:Int
def ycn (keep:Bool→Bool→Bool) (n m:Int):Bool:=keep (decide (0<n)) (decide (0<m))
def sweepF (now inn:Bool) (at_ frm:Bd α):Bd α:=if now && !inn then at_ else frm
def sweepO (now inn:Bool) (at_ frm:Bd α) (out:List (Iv α)):List (Iv α):=if !now&&inn then out++[⟨frm,at_⟩] else out
noncomputable def ybR (keep:Bool→Bool→Bool):List (Ev α)→Int→Int→Bool→Bd α→List (Iv α)→List (Iv α)
 | [],_,_,_,_,out=>out
 | e :: r,n,m,inn,frm,out =>
  if (∃ e' r',r=e' :: r'∧e.at_=e'.at_) then ybR keep r (n+e.x) (m+e.y) inn frm out
  else ybR keep r (n+e.x) (m+e.y) (ycn keep (n+e.x) (m+e.y)) (sweepF (ycn keep (n+e.x) (m+e.y)) inn e.at_ frm) (sweepO (ycn keep (n+e.x) (m+e.y)) inn e.at_ frm out)
noncomputable def ded:List (Ev α)→List (Bd α)
 | []=>[]
 | e :: r=>if (∃ e' r',r=e' :: r'∧e.at_=e'.at_) then ded r else e.at_ :: ded r
noncomputable def cntX (l:List (Ev α)) (x:Bd α):Int:=(l.map (fun e=>if e.at_≤x then e.x else 0)).sum
noncomputable def cntY (l:List (Ev α)) (x:Bd α):Int:=(l.map (fun e=>if e.at_≤x then e.y else 0)).sum
def InOrd (l:List (Ev α)):Prop:=l.Pairwise (fun e e'=>e.at_≤e'.at_)
theorem yfY (l:List (Ev α)) (c:Bd α):c∈ded l↔∃ e∈l,e.at_=c:=by
 induction l with
 | nil=>simp [ded]
 | cons e r ih =>
  unfold ded;split
  ·rename_i h
   obtain⟨e',r',rfl,h⟩:=h;rw [ih];constructor
   ·rintro ⟨d,h1,h2⟩;exact ⟨d,List.mem_cons_of_mem _ h1,h2⟩
   rintro ⟨d,h1,h2⟩;rcases List.mem_cons.1 h1 with rfl|h1
   ·exact ⟨e',List.mem_cons_self,by rw [← h];exact h2⟩
   exact ⟨d,h1,h2⟩
  rw [List.mem_cons,ih];constructor
  ·rintro (rfl|⟨d,h1,h2⟩)
   ·exact ⟨e,List.mem_cons_self,rfl⟩
   exact ⟨d,List.mem_cons_of_mem _ h1,h2⟩
  rintro ⟨d,h1,h2⟩;rcases List.mem_cons.1 h1 with rfl|h1
  ·exact .inl h2.symm
  exact .inr ⟨d,h1,h2⟩
theorem Up.of {l:List (Bd α)} {a:Bd α} (h:Ups l) (h2:∀ c∈l,a<c):Up l a:=by
 cases l with
 | nil=>trivial
 | cons b l=>exact ⟨h2 b List.mem_cons_self,h⟩
theorem yho {e:Ev α} {r:List (Ev α)} (h:InOrd (e :: r)) (hn:¬ ∃ e' r',r=e' :: r'∧e.at_=e'.at_):∀ d∈r,e.at_<d.at_:=by
 unfold InOrd at h;rw [List.pairwise_cons] at h;cases r with
 | nil=>simp
 | cons e' r' =>
  intro d hd;have h1:=h.1 e' List.mem_cons_self;have h2:e.at_≠e'.at_:=fun h=>hn ⟨_,_,rfl,h⟩;have h3:=(List.pairwise_cons.1 h.2).1;rcases List.mem_cons.1 hd with rfl|hd
  ·grind
  have:=h3 d hd;grind
theorem ded_ups {l:List (Ev α)} (h:InOrd l):Ups (ded l):=by
 induction l with
 | nil=>trivial
 | cons e r ih =>
  have hr:InOrd r:=(List.pairwise_cons.1 h).2;unfold ded;split
  ·exact ih hr
  rename_i hn;refine Up.of (ih hr) (fun c hc=>?_);obtain⟨d,hd,rfl⟩:=(yfY _ _).1 hc;exact yho h hn d hd
theorem yje {keep:Bool→Bool→Bool} {F:Bd α→Bool} (l:List (Ev α)):∀ n m inn frm out,InOrd l →
  (∀ e∈l,F e.at_=ycn keep (n+cntX l e.at_) (m+cntY l e.at_))→(l=[]→inn=false) →
  (∀ e∈l,(∀ d∈l,d.at_≤e.at_)→F e.at_=false)→ybR keep l n m inn frm out=out++run F (ded l) (if inn then some frm else none):=by
 induction l with
 | nil=>intro n m inn frm out hs hF h0 _;rw [h0 rfl];simp [ybR,ded,run]
 | cons e r ih =>
  intro n m inn frm out hs hF h0 hz0;have hr:InOrd r:=(List.pairwise_cons.1 hs).2;have hle:=(List.pairwise_cons.1 hs).1
  have hlast:∀ d∈r,(∀ c∈r,c.at_≤d.at_)→F d.at_=false:=fun d hd h=>by
   refine hz0 d (List.mem_cons_of_mem _ hd) (fun c hc=>?_);rcases List.mem_cons.1 hc with rfl|hc
   ·exact hle d hd
   exact h c hc
  have hFr:∀ d∈r,F d.at_=ycn keep (n+e.x+cntX r d.at_) (m+e.y+cntY r d.at_):=fun d hd=>by
   rw [hF d (List.mem_cons_of_mem _ hd)];unfold cntX cntY;rw [List.map_cons,List.map_cons,List.sum_cons,List.sum_cons,if_pos (hle d hd),if_pos (hle d hd),Int.add_assoc,Int.add_assoc]
  unfold ybR ded;split
  ·rename_i h
   refine ih _ _ _ _ _ hr hFr ?_ hlast;obtain⟨e',r',h,_⟩:=h;intro h2;rw [h] at h2;exact absurd h2 (by simp)
  rename_i hn;have hst:=yho hs hn
  have hz:cntX (e :: r) e.at_=e.x∧cntY (e :: r) e.at_=e.y:=by
   have:∀ d∈r,¬ d.at_≤e.at_:=fun d hd=>by have:=hst d hd;grind
   unfold cntX cntY;rw [List.map_cons,List.map_cons,List.sum_cons,List.sum_cons,if_pos (by grind),if_pos (by grind)]
   have z1:∀ (s:List (Ev α)),(∀ d∈s,¬ d.at_≤e.at_)→(s.map (fun d=>if d.at_≤e.at_ then d.x else 0)).sum=0∧(s.map (fun d=>if d.at_≤e.at_ then d.y else 0)).sum=0:=by
    intro s;induction s with
    | nil=>simp
    | cons d s ihs =>
     intro h;obtain⟨k1,k2⟩:=ihs (fun d hd=>h d (List.mem_cons_of_mem _ hd));rw [List.map_cons,List.map_cons,List.sum_cons,List.sum_cons,if_neg (h d List.mem_cons_self),if_neg (h d List.mem_cons_self),k1,k2];exact ⟨rfl,rfl⟩
   obtain⟨k1,k2⟩:=z1 r this;rw [k1,k2];exact ⟨by omega,by omega⟩
  have hFe:ycn keep (n+e.x) (m+e.y)=F e.at_:=by rw [hF e List.mem_cons_self,hz.1,hz.2]
  rw [hFe,ih _ _ _ _ _ hr hFr ?_ hlast]
  ·cases hf:F e.at_<;>cases inn<;>simp [sweepO,sweepF,run,hf]
  rintro rfl;exact hz0 e List.mem_cons_self (by simp)
def evA (l:List (Iv α)):List (Ev α):=l.flatMap (fun i=>[⟨i.f,1,0⟩,⟨i.l,-1,0⟩])
def evB (l:List (Iv α)):List (Ev α):=l.flatMap (fun i=>[⟨i.f,0,1⟩,⟨i.l,0,-1⟩])
theorem yiM {l m:List Int} (h:l.Perm m):l.sum=m.sum:=by
 induction h with
 | nil=>rfl
 | cons x _ ih=>rw [List.sum_cons,List.sum_cons,ih]
 | swap x y l=>rw [List.sum_cons,List.sum_cons,List.sum_cons,List.sum_cons];omega
 | trans _ _ ih1 ih2=>rw [ih1,ih2]
theorem cnt_perm {l l':List (Ev α)} (h:l.Perm l') (x:Bd α):cntX l x=cntX l' x∧cntY l x=cntY l' x:=by
 unfold cntX cntY;exact ⟨yiM (h.map _),yiM (h.map _)⟩
theorem cnt_app {l l':List (Ev α)} (x:Bd α):cntX (l++l') x=cntX l x+cntX l' x∧cntY (l++l') x=cntY l x+cntY l' x:=by
 unfold cntX cntY;simp
theorem cnt_evA {l:List (Iv α)} (hl:∀ i∈l,i.f<i.l) (x:Bd α):0≤cntX (evA l) x∧cntY (evA l) x=0∧(decide (0<cntX (evA l) x))=hasL l x:=by
 induction l with
 | nil=>simp [evA,cntX,cntY,hasL]
 | cons i l ih =>
  obtain⟨k1,k2,k3⟩:=ih (fun j hj=>hl j (List.mem_cons_of_mem _ hj));have hi:=hl i List.mem_cons_self;have e:cntX (evA (i :: l)) x=(if i.f≤x then 1 else 0)+((if i.l≤x then -1 else 0)+cntX (evA l) x):=by simp [cntX,evA]
  have e2:cntY (evA (i :: l)) x=cntY (evA l) x:=by simp [cntY,evA]
  rw [e,e2,yaD,← k3];by_cases h1:i.f≤x
  ·by_cases h2:i.l≤x
   ·have hn:i.has x=false:=by rw [← Bool.not_eq_true,Iv.hI];grind
    rw [if_pos h1,if_pos h2,hn,Bool.false_or];exact ⟨by omega,k2,by congr 1;simp;omega⟩
   have hn:i.has x=true:=by rw [Iv.hI];grind
   rw [if_pos h1,if_neg h2,hn,Bool.true_or];exact ⟨by omega,k2,by simp;omega⟩
  have h2:¬ i.l≤x:=by grind
  have hn:i.has x=false:=by rw [← Bool.not_eq_true,Iv.hI];grind
  rw [if_neg h1,if_neg h2,hn,Bool.false_or];exact ⟨by omega,k2,by congr 1;simp⟩
theorem cnt_evB {l:List (Iv α)} (hl:∀ i∈l,i.f<i.l) (x:Bd α):0≤cntY (evB l) x∧cntX (evB l) x=0∧(decide (0<cntY (evB l) x))=hasL l x:=by
 induction l with
 | nil=>simp [evB,cntX,cntY,hasL]
 | cons i l ih =>
  obtain⟨k1,k2,k3⟩:=ih (fun j hj=>hl j (List.mem_cons_of_mem _ hj));have hi:=hl i List.mem_cons_self;have e:cntY (evB (i :: l)) x=(if i.f≤x then 1 else 0)+((if i.l≤x then -1 else 0)+cntY (evB l) x):=by simp [cntY,evB]
  have e2:cntX (evB (i :: l)) x=cntX (evB l) x:=by simp [cntX,evB]
  rw [e,e2,yaD,← k3];by_cases h1:i.f≤x
  ·by_cases h2:i.l≤x
   ·have hn:i.has x=false:=by rw [← Bool.not_eq_true,Iv.hI];grind
    rw [if_pos h1,if_pos h2,hn,Bool.false_or];exact ⟨by omega,k2,by congr 1;simp;omega⟩
   have hn:i.has x=true:=by rw [Iv.hI];grind
   rw [if_pos h1,if_neg h2,hn,Bool.true_or];exact ⟨by omega,k2,by simp;omega⟩
  have h2:¬ i.l≤x:=by grind
  have hn:i.has x=false:=by rw [← Bool.not_eq_true,Iv.hI];grind
  rw [if_neg h1,if_neg h2,hn,Bool.false_or];exact ⟨by omega,k2,by congr 1;simp⟩
theorem yjj {keep:Bool→Bool→Bool} (h0:keep false false=false) {a b:List (Iv α)} (ha:∀ i∈a,i.f<i.l) (hb:∀ i∈b,i.f<i.l) {l:List (Ev α)} (hp:l.Perm (evA a++evB b)) (hs:InOrd l) (frm:Bd α) :
  Norm (ybR keep l 0 0 false frm [])∧∀ x,hasL (ybR keep l 0 0 false frm []) x=keep (hasL a x) (hasL b x):=by
 have hF:∀ x,keep (hasL a x) (hasL b x)=ycn keep (cntX l x) (cntY l x):=fun x=>by
  have h1:=cnt_perm hp x;have h2:=@cnt_app α _ _ _ _ (evA a) (evB b) x;obtain⟨_,k1,k2⟩:=cnt_evA ha x;obtain⟨_,k3,k4⟩:=cnt_evB hb x;unfold ycn;rw [h1.1,h1.2,h2.1,h2.2,k1,k3,Int.add_zero,Int.zero_add,k2,k4]
 have hlast:∀ x,(∀ d∈l,d.at_≤x)→keep (hasL a x) (hasL b x)=false:=fun x h=>by
  have h1:∀ i∈a,i.has x=false:=fun i hi=>by
   rw [← Bool.not_eq_true,Iv.hI];have:=h ⟨i.l,-1,0⟩ (hp.mem_iff.2 (List.mem_append.2 (.inl (List.mem_flatMap.2 ⟨i,hi,by simp⟩))));dsimp only at this;grind
  have h2:∀ i∈b,i.has x=false:=fun i hi=>by
   rw [← Bool.not_eq_true,Iv.hI];have:=h ⟨i.l,0,-1⟩ (hp.mem_iff.2 (List.mem_append.2 (.inr (List.mem_flatMap.2 ⟨i,hi,by simp⟩))));dsimp only at this;grind
  have h3:hasL a x=false:=by unfold hasL;rw [List.any_eq_false];intro i hi;rw [h1 i hi];simp
  have h4:hasL b x=false:=by unfold hasL;rw [List.any_eq_false];intro i hi;rw [h2 i hi];simp
  rw [h3,h4,h0]
 have e:=yje (keep:=keep) (F:=fun x=>keep (hasL a x) (hasL b x)) l 0 0 false frm [] hs (fun e _=>by rw [Int.zero_add,Int.zero_add];exact hF _) (fun _=>rfl) (fun e he h=>hlast _ h);rw [if_neg (by simp),List.nil_append] at e;rw [e];refine yiP (ded_ups hs) (fun x y h=>?_) (fun x h=>?_) (fun x h=>?_)
 ·have h':∀ e∈l,(e.at_≤x↔e.at_≤y):=fun e he=>h _ ((yfY _ _).2 ⟨e,he,rfl⟩)
  have:cntX l x=cntX l y∧cntY l x=cntY l y:=by
   unfold cntX cntY;constructor<;>congr 1<;>refine List.map_congr_left (fun e he=>?_)<;>by_cases k:e.at_≤x
   all_goals first|rw [if_pos k,if_pos ((h' e he).1 k)]|rw [if_neg k,if_neg (fun k'=>k ((h' e he).2 k'))]
  rw [hF,hF,this.1,this.2]
 ·have h':∀ e∈l,¬ e.at_≤x:=fun e he=>by have:=h _ ((yfY _ _).2 ⟨e,he,rfl⟩);grind
  have:cntX l x=0∧cntY l x=0:=by
   unfold cntX cntY
   have z:l.map (fun e=>if e.at_≤x then e.x else 0)=l.map (fun _=>0)∧l.map (fun e=>if e.at_≤x then e.y else 0)=l.map (fun _=>0):=by
    constructor<;>refine List.map_congr_left (fun e he=>?_)<;>rw [if_neg (h' e he)]
   rw [z.1,z.2];have:∀ s:List (Ev α),(s.map (fun _=>(0:Int))).sum=0:=fun s=>by induction s<;>simp_all
   exact ⟨this _,this _⟩
  rw [hF,this.1,this.2];unfold ycn
  simpa using h0
 exact hlast x (fun d hd=>h _ ((yfY _ _).2 ⟨d,hd,rfl⟩))
noncomputable def holds (l:List (Iv α)) (t:α):Bool:=l.any (fun i=>decide (i.f≤⟨t,false⟩∧(⟨t,true⟩:Bd α)≤i.l))
noncomputable def ybt (l:List (Iv α)) (t n:α):Bool:=l.any (fun i=>decide (i.f.pt≤t∧n≤i.l.pt))
theorem ycQ (l:List (Iv α)) (t:α):holds l t=hasL l ⟨t,false⟩:=by
 unfold holds hasL;refine congrArg (fun f=>l.any f) (funext fun i=>?_);unfold Iv.has;congr 1
 rw [Bd.le_def,Bd.le_def,Bd.lt_def];cases i.f.beh<;>cases i.l.beh<;>simp
theorem ygP {l:List (Iv α)} {t n:α} (h:t<n) (hb:∀ i∈l,i.l.pt≤t∨n≤i.l.pt):ybt l t n=hasL l ⟨t,true⟩:=by
 unfold ybt hasL;refine Bool.eq_iff_iff.2 ?_;rw [List.any_eq_true,List.any_eq_true];constructor
 ·rintro ⟨i,hi,h2⟩
  refine ⟨i,hi,?_⟩;rw [decide_eq_true_iff] at h2;rw [Iv.hI,Bd.le_def,Bd.lt_def];grind
 rintro ⟨i,hi,h2⟩;refine ⟨i,hi,?_⟩;have:=hb i hi;rw [decide_eq_true_iff];rw [Iv.hI,Bd.le_def,Bd.lt_def] at h2;grind
theorem ydQ {l:List α} {c:Bd α}:c∈bor l↔c.pt∈l:=by
 induction l with
 | nil=>simp [bor]
 | cons t r ih =>
  simp only [bor,List.mem_cons,ih];constructor
  ·rintro (rfl|rfl|h)
   ·exact .inl rfl
   ·exact .inl rfl
   exact .inr h
  rintro (h|h)
  ·cases hb:c.beh
   ·exact .inl (Bd.ext h hb)
   exact .inr (.inl (Bd.ext h hb))
  exact .inr (.inr h)
theorem bor_ups {l:List α} (h:l.Pairwise (· < ·)):Ups (bor l):=by
 induction l with
 | nil=>trivial
 | cons t r ih =>
  obtain⟨h1,h2⟩:=List.pairwise_cons.1 h;refine ⟨by rw [Bd.lt_def];exact .inr ⟨rfl,rfl,rfl⟩,Up.of (ih h2) (fun c hc=>?_)⟩;rw [Bd.lt_def];exact .inl (h1 _ (ydQ.1 hc))
structure EndsOf (l:List α) (a:List (Iv α)):Prop where
 ord:l.Pairwise (· < ·)
 f:∀ i∈a,i.f.pt∈l
 l:∀ i∈a,i.l.pt∈l
theorem EndsOf.same {l:List α} {a:List (Iv α)} (h:EndsOf l a) {x y:Bd α} (hj:∀ c∈bor l,c≤x↔c≤y):hasL a x=hasL a y:=by
 unfold hasL;refine Bool.eq_iff_iff.2 ?_;rw [List.any_eq_true,List.any_eq_true];constructor<;>rintro ⟨i,hi,h2⟩<;>refine ⟨i,hi,?_⟩<;>rw [Iv.hI] at * <;> have h3:=hj i.f (ydQ.2 (h.f i hi))<;>have h4:=hj i.l (ydQ.2 (h.l i hi))<;>grind
theorem EndsOf.below {l:List α} {a:List (Iv α)} (h:EndsOf l a) {x:Bd α} (hx:∀ c∈bor l,x<c):hasL a x=false:=by
 unfold hasL;rw [List.any_eq_false];intro i hi;rw [Iv.hI];have:=hx i.f (ydQ.2 (h.f i hi));grind
theorem EndsOf.above {l:List α} {a:List (Iv α)} (h:EndsOf l a) {x:Bd α} (hx:∀ c∈bor l,c≤x):hasL a x=false:=by
 unfold hasL;rw [List.any_eq_false];intro i hi;rw [Iv.hI];have:=hx i.l (ydQ.2 (h.l i hi));grind
theorem asks_of {d:Bool→Bool→Bool} (h0:d false false=false) {a b:List (Iv α)} {all:List α} (ha:EndsOf all a) (hb:EndsOf all b) :
  ∀ (l pre:List α),pre++l=all→Asks (fun x=>d (hasL a x) (hasL b x)) (fun t=>d (holds a t) (holds b t)) (fun t n=>d (ybt a t n) (ybt b t n)) l:=by
 intro l;induction l with
 | nil=>intro pre _;trivial
 | cons t r ih =>
  intro pre hp;have hord:=ha.ord;rw [← hp,List.pairwise_append] at hord;obtain⟨o1,o2,o3⟩:=hord;obtain⟨o4,o5⟩:=List.pairwise_cons.1 o2;cases r with
  | nil =>
   refine ⟨by dsimp only;rw [ycQ,ycQ],?_⟩
   have:∀ c∈bor all,c≤(⟨t,true⟩:Bd α):=fun c hc=>by
    have:=ydQ.1 hc;rw [← hp,List.mem_append,List.mem_singleton] at this;rw [Bd.le_def];rcases this with h|h
    ·exact .inl (o3 _ h _ (by simp))
    exact .inr ⟨h,fun _=>rfl⟩
   dsimp only;rw [ha.above this,hb.above this,h0]
  | cons n r =>
   have htn:t<n:=o4 n (by simp)
   have hbtw:∀ c∈all,c≤t∨n≤c:=fun c hc=>by
    rw [← hp,List.mem_append,List.mem_cons,List.mem_cons] at hc;rcases hc with h|h|h|h
    ·have:=o3 _ h t (by simp);grind
    ·grind
    ·grind
    have:=(List.pairwise_cons.1 o5).1 c h;grind
   refine ⟨by dsimp only;rw [ycQ,ycQ],?_,ih (pre++[t]) (by simp [hp])⟩;dsimp only;rw [ygP htn (fun i hi=>hbtw _ (ha.l i hi)),ygP htn (fun i hi=>hbtw _ (hb.l i hi))]
noncomputable def cells (d:Bool→Bool→Bool) (a b:List (Iv α)) (all:List α):List (Iv α) :=
 combL (fun t=>d (holds a t) (holds b t)) (fun t n=>d (ybt a t n) (ybt b t n)) all false []
theorem yha {d:Bool→Bool→Bool} (h0:d false false=false) {a b:List (Iv α)} {all:List α} (ha:EndsOf all a) (hb:EndsOf all b) :
  Norm (cells d a b all)∧∀ x,hasL (cells d a b all) x=d (hasL a x) (hasL b x):=by
 unfold cells;rw [(combL_run all (asks_of h0 ha hb all [] rfl) []).1,List.nil_append];refine yiP (bor_ups ha.ord) (fun x y h=>?_) (fun x h=>?_) (fun x h=>?_)
 ·rw [ha.same h,hb.same h]
 ·rw [ha.below h,hb.below h,h0]
 rw [ha.above h,hb.above h,h0]
end
end Go.Proofs.YtejegogbhpmgfaaGreatDoor
