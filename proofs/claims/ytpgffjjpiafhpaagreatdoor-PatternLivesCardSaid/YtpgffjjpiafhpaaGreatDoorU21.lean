/- Parts of a proof: Wb Nw Wc Wd Fe. -/
import Derived.Test.YtpgffjjpiafhpaaGreatDoorU20
import Derived.Test.YtpgffjjpiafhpaaGreatDoorU01
import Derived.Test.YtpgffjjpiafhpaaGreatDoorU18
set_option linter.unusedVariables false
set_option linter.unusedSimpArgs false
set_option linter.unusedSectionVars false
set_option maxRecDepth 100000
set_option maxHeartbeats 8000000
namespace Go.Proofs.YtpgffjjpiafhpaaGreatDoor
open Go.RowKit
theorem Pos.anti {a b r:Rat} (hr:0≤r) (h:Pos a b r) (h2:Pos (-a) (-b) r):False:=by
 obtain⟨g,e0,hg,he,k⟩:=h.gap hr;obtain⟨g2,e2,hg2,he2,k2⟩:=h2.gap hr;obtain⟨e,h3,h4,h5⟩:=ybQ he he2;obtain⟨t,ht⟩:=ybO hr h3;have:=k e t h3 h4 ht;have:=k2 e t h3 h5 ht;grind
theorem Pos.of_gap {a b r g e0:Rat} (hr:0≤r) (hg:0<g) (he0:0<e0) (k:∀ e t,0<e→e≤e0→Near r t e→g≤a+b*t):Pos a b r:=by
 rcases ybu (a:=a) (b:=b) hr with ⟨_,h⟩|⟨_,h⟩|⟨_,h1,h2,h3,h4⟩
 ·exact h
 ·exfalso
  obtain⟨g2,e2,hg2,he2,k2⟩:=h.gap hr;obtain⟨e,h3,h4,h5⟩:=ybQ he0 he2;obtain⟨t,ht⟩:=ybO hr h3;have:=k e t h3 h4 ht;have:=k2 e t h3 h5 ht;grind
 exfalso;by_cases hb0:b=0
 ·obtain⟨t,ht⟩:=ybO hr he0
  have:=k e0 t he0 (by grind) ht;subst hb0;have:=ybB (a:=a) (by grind);grind
 by_cases hb:0<b
 ·obtain⟨t,ht⟩:=ybO hr he0
  have h5:=k e0 t he0 (by grind) ht
  have h6:a≤0:=by
   rcases h4 with h4|h4
   ·subst h4
    have:=ybB (a:=a) (by grind);grind
   by_cases h:a≤0
   ·exact h
   have:=yal (a:=a) (b:=b) (by grind) hb;grind
  have h7:=yaq ht.le (ycD b);have h8:b*t ≤ -a:=ycv (by grind) (by grind);grind
 have hb':0 < -b:=by grind
 obtain⟨e1,he1,h11,h12⟩:=ycq (d:=g) (m:=-b) hg hb';obtain⟨e,he,h21,h22⟩:=ybQ he0 he1;obtain⟨t,ht⟩:=ybO hr he;have h5:=k e t he h21 ht
 have h6:e*(-b)≤g:=by
  have:=yaq h22 (Rat.le_of_lt hb');grind
 have h7:a*a<(-b*(t+e))*(-b*(t+e)):=by
  have:=yal (a:=(t+e)*(t+e)-r) (b:=b*b) (by have:=ht.lt;grind) (by have:=yal hb' hb';grind);grind
 have h8:a < -b*(t+e):=ydB (yas (by grind) (by have:=ht.nn;grind)) h7;grind
theorem Pos.mul {a b c d r:Rat} (hr:0≤r) (h:Pos a b r) (h2:Pos c d r):Pos (a*c+b*d*r) (a*d+b*c) r:=by
 obtain⟨g,e0,hg,he,k⟩:=h.gap hr;obtain⟨g2,e2,hg2,he2,k2⟩:=h2.gap hr;have hgg:0<g*g2:=yal hg hg2;have hbd:=ycD (b*d);have hm:0<(2*(r+1)+1)*(b*d*(b*d)+1):=yal (by grind) (by grind);obtain⟨e3,he3,h31,h32⟩:=ycq (d:=g*g2 / 2) (m:=(2*(r+1)+1)*(b*d*(b*d)+1)) (by grind) hm;obtain⟨e4,h41,h42,h43⟩:=ybQ he he2;obtain⟨e5,h51,h52,h53⟩:=ybQ he3 h41;refine Pos.of_gap hr (g:=g*g2 / 2) (e0:=e5) (by grind) h51 (fun e t he hle ht=>?_);have p1:=k e t he (by grind) ht;have p2:=k2 e t he (by grind) ht;have t1:=ht.nn;have t2:=ht.le;have t3:=ht.lt;have t4:=ht.top hr
 have q1:g*g2≤(a+b*t)*(c+d*t):=by
  have x1:=yas (a:=a+b*t-g) (b:=c+d*t) (by grind) (by grind);have x2:=yas (a:=c+d*t-g2) (b:=g) (by grind) (by grind);grind
 have q2:r-t*t≤e*(2*(r+1)+1):=by
  have:=yaq (a:=2*t+e) (b:=2*(r+1)+1) (c:=e) (by grind) (by grind);grind
 have q3:=yeF (b*d)
 have q4:(e*(2*(r+1)+1))*(b*d*(b*d)+1)≤g*g2 / 2:=by
  have:=yaq (show e≤e3 by grind) (Rat.le_of_lt hm)
  grind
 have q5:=yas (a:=e*(2*(r+1)+1)-(r-t*t)) (b:=b*d*(b*d)+1) (by grind) (by grind);have q6:=yas (a:=r-t*t) (b:=b*d*(b*d)+1+b*d) (by grind) (by grind);generalize b*d*(b*d)=W at *;grind
theorem Pos.scale {a b r k:Rat} (hr:0≤r) (hk:0<k):Pos (k*a) (k*b) r↔Pos a b r:=by
 have key:∀ {a b k:Rat},0<k→Pos a b r→Pos (k*a) (k*b) r:=by
  intro a b k hk h;have:=Pos.mul (a:=k) (b:=0) (c:=a) (d:=b) hr (.inl ⟨hk,.inl (by grind)⟩) h;have e1:k*a+0*b*r=k*a:=by grind
  have e2:k*b+0*a=k*b:=by grind
  rw [e1,e2] at this;exact this
 refine ⟨fun h=>?_,key hk⟩;have:=key (k:=1 / k) (by rw [Rat.lt_div_iff hk];grind) h;have hc:1 / k*k=1:=Rat.div_mul_cancel (by grind);have e1:1 / k*(k*a)=a:=by grind
 have e2:1 / k*(k*b)=b:=by grind
 rw [e1,e2] at this;exact this
theorem Pos.scale2 {a b r k:Rat} (hk:0<k):Pos (k*a) b (k*k*r)↔Pos a b r:=by
 have h1:0<k*k:=yal hk hk
 have e1:(0<k*a)↔0<a:=by
  constructor
  ·intro h
   by_cases h2:0<a
   ·exact h2
   have:=yas (a:=k) (b:=-a) (by grind) (by grind);grind
  exact yal hk
 have key:∀ x y:Rat,x<y↔k*k*x<k*k*y:=fun x y=>by
  constructor
  ·intro h
   have:=yal (a:=k*k) (b:=y-x) h1 (by grind);grind
  intro h;by_cases h2:x<y
  ·exact h2
  have:=yas (a:=k*k) (b:=x-y) (by grind) (by grind);grind
 have e2:(b*b*(k*k*r)<k*a*(k*a))↔b*b*r<a*a:=by
  rw [key (b*b*r)];constructor<;>intro h<;>grind
 have e3:(k*a*(k*a)<b*b*(k*k*r))↔a*a<b*b*r:=by
  rw [key (a*a)];constructor<;>intro h<;>grind
 have e4:(k*a≤0)↔a≤0:=by
  constructor
  ·intro h;by_cases h2:0<a
   ·have:=e1.2 h2;grind
   grind
  intro h;by_cases h2:0<k*a
  ·have:=e1.1 h2;grind
  grind
 unfold Pos;rw [e1,e2,e3,e4]
theorem gm_am (x k s:Nat) (h:k+x≤2*s):k*x≤s*s:=by
 rcases Nat.le_total x s with hx|hx
 ·obtain⟨t,rfl⟩:=Nat.le.dest hx
  have hk:k≤x+t+t:=by omega
  have h1:k*x≤(x+t+t)*x:=Nat.mul_le_mul_right _ hk;have h2:(x+t)*(x+t)=(x+t+t)*x+t*t:=by grind
  omega
 obtain⟨t,rfl⟩:=Nat.le.dest hx;by_cases hts:t≤s
 ·obtain⟨u,rfl⟩:=Nat.le.dest hts
  have hk:k≤u:=by omega
  have h1:k*(t+u+t)≤u*(t+u+t):=Nat.mul_le_mul_right _ hk;have h2:(t+u)*(t+u)=u*(t+u+t)+t*t:=by grind
  omega
 have hk:k=0:=by omega
 subst hk;rw [Nat.zero_mul];exact Nat.zero_le _
theorem newton_ge {n x s:Nat} (hx:0<x) (hs:s*s≤n):s≤(x+n / x) / 2:=by
 rw [Nat.le_div_iff_mul_le (by decide)];refine Nat.le_of_not_lt fun h=>?_
 have h1:n<(n / x+1)*x:=by
  have:=Nat.div_add_mod n x;have h2:=Nat.mod_lt n hx;have h3:(n / x+1)*x=x*(n / x)+x:=by grind
  omega
 have h2:=gm_am x (n / x+1) s (by omega);omega
theorem newton_lt {n x s:Nat} (hs:n<(s+1)*(s+1)) (hx:s<x):(x+n / x) / 2<x:=by
 have hx0:0<x:=by omega
 have h1:(s+1)*(s+1)≤x*x:=Nat.mul_le_mul hx hx
 have h2:n / x<x:=by
  rw [Nat.div_lt_iff_lt_mul hx0];omega
 omega
theorem yif (n:Nat):∃ s,s*s≤n∧n<(s+1)*(s+1):=by
 induction n with
 | zero=>exact ⟨0,by decide,by decide⟩
 | succ n ih =>
  obtain⟨s,h1,h2⟩:=ih;by_cases h:n+1<(s+1)*(s+1)
  ·exact ⟨s,by omega,h⟩
  refine ⟨s+1,by omega,?_⟩;have:(s+1+1)*(s+1+1)=(s+1)*(s+1)+2*s+3:=by grind
  omega
noncomputable def isq (n:Nat):Nat:=(yif n).choose
theorem yej (n:Nat):isq n*isq n≤n:=(yif n).choose_spec.1
theorem yeH (n:Nat):n<(isq n+1)*(isq n+1):=(yif n).choose_spec.2
theorem yji {n s:Nat} (h1:s*s≤n) (h2:n<(s+1)*(s+1)):s=isq n:=by
 have a1:=yej n;have a2:=yeH n;refine Nat.le_antisymm (Nat.le_of_not_lt fun h=>?_) (Nat.le_of_not_lt fun h=>?_)
 ·have:=Nat.mul_le_mul h h
  simp only [Nat.succ_eq_add_one] at this;omega
 have:=Nat.mul_le_mul h h;simp only [Nat.succ_eq_add_one] at this;omega
theorem yhq {n x:Nat} (hx:isq n≤x) (hx0:0<x):isq n≤(x+n / x) / 2∧((x+n / x) / 2<x∨x=isq n):=by
 refine ⟨newton_ge hx0 (yej n),?_⟩;rcases Nat.eq_or_lt_of_le hx with h|h
 ·exact .inr h.symm
 exact .inl (newton_lt (yeH n) h)
theorem isq_pos {n:Nat} (h:0<n):0<isq n:=Nat.pos_of_ne_zero fun h0=>by
 have:=yeH n;rw [h0] at this;omega
theorem isq_pow {n b m:Nat} (hb:n<2 ^ b) (hm:b≤2*m):isq n<2 ^ m:=Nat.lt_of_not_le fun h=>by
 have h1:=Nat.mul_le_mul h h;have h2:=yej n;have h3:2 ^ m*2 ^ m=2 ^ (m+m):=(Nat.pow_add 2 m m).symm;have h4:2 ^ b≤2 ^ (m+m):=Nat.pow_le_pow_right (by decide) (by omega);omega
theorem ydQ (n:Nat):isq n≤n:=by
 have h:=yej n;rcases Nat.eq_zero_or_pos (isq n) with h0|h0
 ·omega
 exact Nat.le_trans (Nat.le_mul_of_pos_left _ h0) h
theorem yaY {a b:Rat}:Pos a b 0↔0<a:=by
 unfold Pos;constructor
 ·rintro (⟨h,_⟩|⟨h,h2,h3⟩)
  ·exact h
  have:=ycD a;grind
 intro h;refine .inl ⟨h,.inr ?_⟩;have:=yal h h;grind
theorem Pos.dich {a b:Rat} {x:Qn} (hx:x.Ok) (hr:x.r≠0) (hb:b≠0):Pos a b x.r∨Pos (-a) (-b) x.r:=by
 rcases ybu (a:=a) (b:=b) hx.nn with ⟨_,h⟩|⟨_,h⟩|⟨_,h1,h2,h3,h4⟩
 ·exact .inl h
 ·exact .inr h
 exact absurd (yfW h3 hb) (hx.sq hr _)
theorem yca {q:Rat} {x:Qn} (hx:x.Ok) (hr:x.r≠0):Below1 q x ↔ ¬ Above1 q x:=by
 have hu:x.u≠0:=by rcases x.u_or with h|h<;>rw [h]<;>grind
 have e : -(x.p-q)=q-x.p:=by grind
 constructor
 ·intro h h2
  unfold Below1 at h;unfold Above1 at h2;rw [← e] at h2;exact Pos.anti hx.nn h h2
 intro h;rcases Pos.dich (a:=x.p-q) hx hr hu with h2|h2
 ·exact h2
 rw [e] at h2;exact absurd h2 h
noncomputable def Qn.inv (x:Qn):Qn:=if x.r=0 then ⟨1 / x.p,0,false⟩ else ⟨x.p*(1 / (x.p*x.p-x.r)),1 / (x.p*x.p-x.r)*(1 / (x.p*x.p-x.r))*x.r,(!x.neg) != decide (1 / (x.p*x.p-x.r)<0)⟩
theorem ydL {a:Rat} (h:0<a):0<1 / a:=by rw [Rat.lt_div_iff h];grind
theorem inv_above {x:Qn} {q:Rat} (hx:x.Ok) (hp:Below1 0 x) (hq:0<q):Above1 q x.inv↔Below1 (1 / q) x:=by
 have hqq:1 / q*q=1:=Rat.div_mul_cancel (by grind);have hq1:=ydL hq;unfold Qn.inv;by_cases hr:x.r=0
 ·rw [if_pos hr]
  unfold Below1 at hp;unfold Above1 Below1;rw [hr] at hp ⊢;rw [yaY] at hp;rw [yaY,yaY];dsimp only;have hpp:1 / x.p*x.p=1:=Rat.div_mul_cancel (by grind);have hp1:=ydL (a:=x.p) (by grind);generalize 1 / x.p=ip at *;generalize 1 / q=iq at *;generalize x.p=p at *;constructor
  ·intro h
   have:=yal (a:=q-ip) (b:=p*iq) h (yal (by grind) hq1);have e:(q-ip)*(p*iq)=p-iq:=by grind
   rw [e] at this;exact this
  intro h;have:=yal (a:=p-iq) (b:=q*ip) h (yal hq hp1);have e:(p-iq)*(q*ip)=q-ip:=by grind
  rw [e] at this;exact this
 rw [if_neg hr];have hu:=x.u_or;have huu:x.u*x.u=1:=by rcases hu with h|h<;>rw [h]<;>grind
 have hu0:x.u≠0:=by grind
 have hN:x.p*x.p-x.r≠0:=fun e=>hx.sq hr x.p (by grind);have hNN:1 / (x.p*x.p-x.r)*(x.p*x.p-x.r)=1:=Rat.div_mul_cancel hN;have hxn:=hx.nn
 have hb:Below1 (1 / q) x↔Pos (q*x.p-1) (q*x.u) x.r:=by
  unfold Below1;rw [← Pos.scale (k:=q) hxn hq];have:q*(x.p-1 / q)=q*x.p-1:=by grind
  rw [this]
 rw [hb]
 have hp':Pos x.p x.u x.r:=by
  unfold Below1 at hp;have:x.p-0=x.p:=by grind
  rw [this] at hp;exact hp
 have hne:∀ {a b c d:Rat},Pos a b x.r→Pos (-a) (-b) x.r→False:=fun h h2=>Pos.anti hxn h h2;unfold Above1;obtain⟨k,hk⟩:∃ k,1 / (x.p*x.p-x.r)=k:=⟨_,rfl⟩;rw [hk] at hNN ⊢;by_cases hk0:k<0
 ·-- the conjugate is less than zero
  have hd:decide (k<0)=true:=decide_eq_true hk0
  have hu':(⟨x.p*k,k*k*x.r,(!x.neg) != decide (k<0)⟩:Qn).u=x.u:=by
   unfold Qn.u;dsimp only;rw [hd];cases x.neg<;>rfl
  rw [hu'];dsimp only;have e1:q-x.p*k = -k*(x.p-q*(x.p*x.p-x.r)):=by grind
  have e2:k*k = -k * -k:=by grind
  rw [e1,e2,Pos.scale2 (show 0 < -k by grind)]
  have hc:Pos (-x.p) x.u x.r:=by
   rcases Pos.dich (a:=x.p) (b:=-x.u) hx hr (by grind) with h|h
   ·exfalso
    have:=Pos.mul hxn hp' h;have z1:x.p*x.p+x.u * -x.u*x.r=x.p*x.p-x.r:=by grind
    have z2:x.p * -x.u+x.u*x.p=0:=by grind
    rw [z1,z2] at this
    have hneg:0 < -(x.p*x.p-x.r):=by
     by_cases h0:0 < -(x.p*x.p-x.r)
     ·exact h0
     have:=yas (a:=-k) (b:=x.p*x.p-x.r) (by grind) (by grind);grind
    exact Pos.anti hxn this (.inl ⟨hneg,.inl (by grind)⟩)
   rw [Rat.neg_neg] at h;exact h
  constructor
  ·intro h
   rcases Pos.dich (a:=q*x.p-1) (b:=q*x.u) hx hr (by grind) with h2|h2
   ·exact h2
   exfalso;have:=Pos.mul hxn h2 hc;have z1 : -(q*x.p-1) * -x.p + -(q*x.u)*x.u*x.r = -(x.p-q*(x.p*x.p-x.r)):=by grind
   have z2 : -(q*x.p-1)*x.u + -(q*x.u) * -x.p = -(-x.u):=by grind
   rw [z1,z2] at this;exact Pos.anti hxn h this
  intro h;have:=Pos.mul hxn h hc;have z1:(q*x.p-1) * -x.p+q*x.u*x.u*x.r=x.p-q*(x.p*x.p-x.r):=by grind
  have z2:(q*x.p-1)*x.u+q*x.u * -x.p = -x.u:=by grind
  rw [z1,z2] at this;exact this
 have hd:decide (k<0)=false:=decide_eq_false hk0
 have hu':(⟨x.p*k,k*k*x.r,(!x.neg) != decide (k<0)⟩:Qn).u = -x.u:=by
  unfold Qn.u;dsimp only;rw [hd];cases x.neg<;>simp
 have hkp:0<k:=by grind
 rw [hu',Rat.neg_neg];dsimp only;have e1:q-x.p*k=k*(q*(x.p*x.p-x.r)-x.p):=by grind
 rw [e1,Pos.scale2 hkp]
 have hc:Pos x.p (-x.u) x.r:=by
  rcases Pos.dich (a:=x.p) (b:=-x.u) hx hr (by grind) with h|h
  ·exact h
  exfalso;have:=Pos.mul hxn hp' h;have z1:x.p * -x.p+x.u * -(-x.u)*x.r = -(x.p*x.p-x.r):=by grind
  have z2:x.p * -(-x.u)+x.u * -x.p=0:=by grind
  rw [z1,z2] at this
  have hneg:0<x.p*x.p-x.r:=by
   by_cases h0:0<x.p*x.p-x.r
   ·exact h0
   have:=yas (a:=k) (b:=-(x.p*x.p-x.r)) (by grind) (by grind);grind
  exact Pos.anti hxn this (.inl ⟨by grind,.inl (by grind)⟩)
 constructor
 ·intro h
  rcases Pos.dich (a:=q*x.p-1) (b:=q*x.u) hx hr (by grind) with h2|h2
  ·exact h2
  exfalso;have:=Pos.mul hxn h2 hc;have z1 : -(q*x.p-1)*x.p + -(q*x.u) * -x.u*x.r = -(q*(x.p*x.p-x.r)-x.p):=by grind
  have z2 : -(q*x.p-1) * -x.u + -(q*x.u)*x.p = -x.u:=by grind
  rw [z1,z2] at this;exact Pos.anti hxn h this
 intro h;have:=Pos.mul hxn h hc;have z1:(q*x.p-1)*x.p+q*x.u * -x.u*x.r=q*(x.p*x.p-x.r)-x.p:=by grind
 have z2:(q*x.p-1) * -x.u+q*x.u*x.p=x.u:=by grind
 rw [z1,z2] at this;exact this
theorem yem {x:Qn} (hx:x.Ok):x.inv.Ok:=by
 unfold Qn.inv;by_cases hr:x.r=0
 ·rw [if_pos hr]
  exact ⟨by show (0:Rat)≤0;grind,fun _=>rfl,fun h=>absurd rfl h⟩
 rw [if_neg hr];have hN:x.p*x.p-x.r≠0:=fun e=>hx.sq hr x.p (by grind);have hNN:1 / (x.p*x.p-x.r)*(x.p*x.p-x.r)=1:=Rat.div_mul_cancel hN;generalize 1 / (x.p*x.p-x.r)=k at *;generalize x.p*x.p-x.r=N at *;have hk0:k≠0:=by grind
 have hkk:k*k≠0:=fun e=>hk0 (ybB e);refine ⟨yas (ycD k) hx.nn,fun h=>?_,fun h q hq=>?_⟩
 ·rcases Rat.mul_eq_zero.1 h with h|h
  ·exact absurd h hkk
  exact absurd h hr
 dsimp only at hq;exact hx.sq hr (q*N) (by grind)
theorem yeE {x:Qn} {q:Rat} (hx:x.Ok) (hp:Below1 0 x) (hq:0<q):Below1 q x.inv↔Above1 (1 / q) x:=by
 have hqq:1 / q*q=1:=Rat.div_mul_cancel (by grind);have hq1:=ydL hq;by_cases hr:x.r=0
 ·unfold Qn.inv
  rw [if_pos hr];unfold Below1 at hp;unfold Above1 Below1;rw [hr] at hp ⊢;rw [yaY] at hp;rw [yaY,yaY];dsimp only;have hpp:1 / x.p*x.p=1:=Rat.div_mul_cancel (by grind);have hp1:=ydL (a:=x.p) (by grind);generalize 1 / x.p=ip at *;generalize 1 / q=iq at *;generalize x.p=p at *;constructor
  ·intro h
   have:=yal (a:=ip-q) (b:=p*iq) h (yal (by grind) hq1);have e:(ip-q)*(p*iq)=iq-p:=by grind
   rw [e] at this;exact this
  intro h;have:=yal (a:=iq-p) (b:=q*ip) h (yal hq hp1);have e:(iq-p)*(q*ip)=ip-q:=by grind
  rw [e] at this;exact this
 have hr':x.inv.r≠0:=by
  unfold Qn.inv;rw [if_neg hr];have hN:x.p*x.p-x.r≠0:=fun e=>hx.sq hr x.p (by grind);have hNN:1 / (x.p*x.p-x.r)*(x.p*x.p-x.r)=1:=Rat.div_mul_cancel hN;generalize 1 / (x.p*x.p-x.r)=k at *;have hk0:k≠0:=by grind
  have hkk:k*k≠0:=fun e=>hk0 (ybB e);intro h;rcases Rat.mul_eq_zero.1 h with h|h
  ·exact absurd h hkk
  exact absurd h hr
 rw [yca (yem hx) hr',inv_above hx hp hq,yca hx hr,Classical.not_not]
noncomputable def Qn.root (x:Qn):Nat:=isq (x.p.den*x.p.den*(x.r.num.natAbs*x.r.den))
noncomputable def Qn.top (x:Qn):Int:=if x.neg then x.p.num*x.r.den-((x.root:Int)+1) else x.p.num*x.r.den+(x.root:Int)
noncomputable def Qn.flr (x:Qn):Int:=x.top / ((x.p.den:Int)*x.r.den)
theorem yaR (q:Rat):q*((q.den:Int):Rat)=(q.num:Rat):=by
 have hd:=q.den_pos;have e:(q.num:Rat) / ((q.den:Int):Rat)=q:=by rw [← Rat.divInt_eq_div];exact Rat.num_divInt_den q
 have h0:((q.den:Int):Rat)≠0:=fun e=>by
  have:=Rat.intCast_inj.1 (e.trans (show (0:Rat)=((0:Int):Rat) from rfl))
  omega
 have:=Rat.div_mul_cancel (a:=(q.num:Rat)) h0;rw [e] at this;exact this
theorem ybN {a b:Int}:(a:Rat)<(b:Rat)↔a<b:=Rat.intCast_lt_intCast
theorem yaB {a b:Int}:(a:Rat)≤(b:Rat)↔a≤b:=Rat.intCast_le_intCast
theorem yak (a b:Int):((a*b:Int):Rat)=(a:Rat)*b:=Rat.intCast_mul a b
theorem yeL {T:Int} {Z:Nat}:Pos (T:Rat) (-1) ((Z:Int):Rat)↔(isq Z:Int)+1≤T:=by
 have h1:=yej Z;have h2:=yeH Z
 have e:Pos (T:Rat) (-1) ((Z:Int):Rat)↔0<T∧(Z:Int)<T*T:=by
  rw [← ybN (a:=0),← ybN (a:=(Z:Int)),yak];unfold Pos;constructor
  ·rintro (⟨h,h'|h'⟩|⟨h,h2,h3⟩)
   ·grind
   ·exact ⟨h,by grind⟩
   grind
  rintro ⟨h,h2⟩;exact .inl ⟨h,.inr (by grind)⟩
 rw [e];generalize isq Z=s at *;constructor
 ·rintro ⟨h3,h4⟩
  obtain⟨t,rfl⟩:=Int.eq_ofNat_of_zero_le (Int.le_of_lt h3)
  have h5:Z<t*t:=by
   have:((t:Int)*t)=((t*t:Nat):Int):=by simp
   rw [this] at h4;omega
  have h6:s<t:=Nat.lt_of_not_le fun h=>by
   have:=Nat.mul_le_mul h h;omega
  omega
 intro h;obtain⟨t,rfl⟩:=Int.eq_ofNat_of_zero_le (show 0≤T by omega)
 have h5:(s+1)*(s+1)≤t*t:=Nat.mul_le_mul (by omega) (by omega);refine ⟨by omega,?_⟩;have:((t:Int)*t)=((t*t:Nat):Int):=by simp
 rw [this];omega
theorem yfc {T:Int} {Z:Nat} (hZ:T*T≠(Z:Int)):Pos (T:Rat) 1 ((Z:Int):Rat) ↔ -(isq Z:Int)≤T:=by
 have h1:=yej Z;have h2:=yeH Z
 have e:Pos (T:Rat) 1 ((Z:Int):Rat)↔0<T∨(T≤0∧T*T<(Z:Int)):=by
  rw [← ybN (a:=0),← ybN (b:=(Z:Int)),yak,← yaB (b:=0)];unfold Pos;constructor
  ·rintro (⟨h,h'|h'⟩|⟨h,h2,h3⟩)
   ·exact .inl h
   ·exact .inl h
   exact .inr ⟨h,by grind⟩
  rintro (h|⟨h,h2⟩)
  ·exact .inl ⟨h,.inl (by grind)⟩
  exact .inr ⟨h,by grind,by grind⟩
 rw [e];generalize isq Z=s at *;by_cases hT:0<T
 ·exact ⟨fun _=>by omega,fun _=>.inl hT⟩
 obtain⟨t,ht⟩:=Int.eq_ofNat_of_zero_le (show 0 ≤ -T by omega)
 obtain rfl:T = -(t:Int):=by omega
 have e2 : -(t:Int) * -(t:Int)=((t*t:Nat):Int):=by rw [Int.neg_mul_neg,Int.natCast_mul]
 rw [e2] at hZ ⊢;constructor
 ·rintro (h|⟨_,h⟩)
  ·exact absurd h hT
  have:t<s+1:=Nat.lt_of_not_le fun h3=>by
   have:=Nat.mul_le_mul h3 h3;omega
  omega
 intro h;have:=Nat.mul_le_mul (show t≤s by omega) (show t≤s by omega)
 exact .inr ⟨by omega,by omega⟩
theorem ygU {x:Qn} (hx:x.Ok) (z:Int):Above1 (z:Rat) x↔Pos ((z*((x.p.den:Int)*x.r.den)-x.p.num*x.r.den:Int):Rat) (-x.u) (((x.p.den*x.p.den*(x.r.num.natAbs*x.r.den):Nat):Int):Rat):=by
 have hd:=x.p.den_pos;have hb:=x.r.den_pos;have hD:(0:Rat)<((x.p.den:Int):Rat)*((x.r.den:Int):Rat):=yal (ybN (a:=0).2 (by omega)) (ybN (a:=0).2 (by omega));have hp:x.p*((x.p.den:Int):Rat)=(x.p.num:Rat):=yaR x.p;have hr:x.r*((x.r.den:Int):Rat)=(x.r.num:Rat):=yaR x.r
 have hn:((x.r.num.natAbs:Nat):Int)=x.r.num:=by
  have:=Rat.num_nonneg.2 hx.nn;omega
 unfold Above1;rw [← Pos.scale2 (k:=((x.p.den:Int):Rat)*((x.r.den:Int):Rat)) hD]
 have e1:((x.p.den:Int):Rat)*((x.r.den:Int):Rat)*((z:Rat)-x.p)=((z*((x.p.den:Int)*x.r.den)-x.p.num*x.r.den:Int):Rat):=by
  rw [Rat.intCast_sub,yak,yak,yak,← hp];grind
 have e2:((x.p.den:Int):Rat)*((x.r.den:Int):Rat)*(((x.p.den:Int):Rat)*((x.r.den:Int):Rat))*x.r=(((x.p.den*x.p.den*(x.r.num.natAbs*x.r.den):Nat):Int):Rat):=by
  rw [Int.natCast_mul,Int.natCast_mul,Int.natCast_mul,hn,yak,yak,yak,← hr];grind
 rw [e1,e2]
theorem yfC {x:Qn} (hx:x.Ok) (hr:x.r≠0) (T:Int):T*T≠((x.p.den*x.p.den*(x.r.num.natAbs*x.r.den):Nat):Int):=fun e=>by
 have hd:=x.p.den_pos;have hb:=x.r.den_pos;have hD:(0:Rat)<((x.p.den:Int):Rat)*((x.r.den:Int):Rat):=yal (ybN (a:=0).2 (by omega)) (ybN (a:=0).2 (by omega));have hrr:x.r*((x.r.den:Int):Rat)=(x.r.num:Rat):=yaR x.r
 have hn:((x.r.num.natAbs:Nat):Int)=x.r.num:=by
  have:=Rat.num_nonneg.2 hx.nn;omega
 have e':((T*T:Int):Rat)=(((x.p.den*x.p.den*(x.r.num.natAbs*x.r.den):Nat):Int):Rat):=by rw [e]
 rw [Int.natCast_mul,Int.natCast_mul,Int.natCast_mul,hn,yak,yak,yak,yak,← hrr] at e';refine hx.sq hr _ (yfW (A:=(T:Rat)) (B:=((x.p.den:Int):Rat)*((x.r.den:Int):Rat)) ?_ (by grind));grind
theorem yih {x:Qn} (hx:x.Ok):¬ Above1 (x.flr:Rat) x∧Above1 ((x.flr+1:Int):Rat) x:=by
 have hd:=x.p.den_pos;have hb:=x.r.den_pos;have hD:0<(x.p.den:Int)*x.r.den:=Int.mul_pos (by omega) (by omega);have f1:x.flr*((x.p.den:Int)*x.r.den)≤x.top:=Int.ediv_mul_le _ (by omega);have f2:x.top<(x.flr+1)*((x.p.den:Int)*x.r.den):=Int.lt_ediv_add_one_mul_self _ hD;rw [ygU hx,ygU hx];by_cases hneg:x.neg=true
 ·have hr:x.r≠0:=fun e=>by have:=hx.zero e;rw [this] at hneg;cases hneg
  have hu : -x.u=1:=by unfold Qn.u;rw [hneg];decide
  rw [hu,yfc (yfC hx hr _),yfc (yfC hx hr _)];unfold Qn.top at f1 f2;rw [if_pos hneg] at f1 f2;have:isq (x.p.den*x.p.den*(x.r.num.natAbs*x.r.den))=x.root:=rfl;rw [this];constructor<;>omega
 have hu : -x.u = -1:=by unfold Qn.u;rw [if_neg hneg]
 rw [hu,yeL,yeL];unfold Qn.top at f1 f2;rw [if_neg hneg] at f1 f2;have:isq (x.p.den*x.p.den*(x.r.num.natAbs*x.r.den))=x.root:=rfl;rw [this];constructor<;>omega
section
open Classical
def half (n:Int):Rat:=Rat.divInt n 2
theorem ygo (n:Int):half n*2=(n:Rat):=by
 unfold half;rw [Rat.divInt_eq_div];exact Rat.div_mul_cancel (by decide)
theorem ybk {n:Int} (h:n.natAbs≤1000):FitQ 2 (half n) :=
 yby (Fit_iff.2 (by omega)) (Fit_iff.2 (by decide)) (by decide)
theorem ybM {n:Int} (h:n.natAbs≤60000):FitQ 2 (n:Rat):=by
 refine ⟨?_,?_⟩
 ·rw [Rat.num_intCast];exact Fit_iff.2 (by omega)
 rw [Rat.den_intCast];exact Fit_iff.2 (by decide)
theorem yfz {N M:Nat} (h:N*N=2*M):N % 2=0:=by
 rcases Nat.mod_two_eq_zero_or_one N with h1|h1
 ·exact h1
 exfalso;have:(N*N) % 2=1:=by rw [Nat.mul_mod,h1]
 omega
theorem two_sq (q:Rat):q*q≠2:=fun h=>by
 have hd:(q.den:Rat)≠0:=by
  have:=q.den_nz;intro h0;exact this (by exact_mod_cast h0)
 have e:=yaR q
 have e2:(q.num:Rat)*q.num=2*(((q.den:Int):Rat)*((q.den:Int):Rat)):=by
  rw [← e];grind
 have e3:q.num*q.num=2*((q.den:Int)*q.den):=by
  have:((q.num*q.num:Int):Rat)=((2*((q.den:Int)*q.den):Int):Rat):=by
   rw [yak,yak,yak];exact e2
  exact Rat.intCast_inj.1 this
 have e4:q.num.natAbs*q.num.natAbs=2*(q.den*q.den):=by
  have:=congrArg Int.natAbs e3;rw [Int.natAbs_mul,Int.natAbs_mul,Int.natAbs_mul] at this
  simpa using this
 have h1:=yfz e4;obtain⟨m,hm⟩:∃ m,q.num.natAbs=2*m:=⟨q.num.natAbs / 2,by omega⟩
 have h2:q.den*q.den=2*(m*m):=by
  rw [hm] at e4;have:2*m*(2*m)=4*(m*m):=by rw [Nat.mul_mul_mul_comm]
  omega
 have h3:=yfz h2;have h4:=q.reduced;have h5:2∣Nat.gcd q.num.natAbs q.den:=Nat.dvd_gcd (by omega) (by omega);have h6:Nat.gcd q.num.natAbs q.den=1:=h4;omega
theorem two_sqn (n:Int) (hn:n≠0) (q:Rat):q*q≠(n:Rat)*n*2:=fun h=>by
 have h0:(n:Rat)≠0:=fun e=>hn (Rat.intCast_inj.1 (e.trans (show (0:Rat)=((0:Int):Rat) from rfl)))
 refine two_sq (q / n) ?_;have e1:q / n*n=q:=Rat.div_mul_cancel h0
 have e2:(q / n)*(q / n)*((n:Rat)*n)=2*((n:Rat)*n):=by
  have:(q / n)*(q / n)*((n:Rat)*n)=(q / n*n)*(q / n*n):=by grind
  rw [this,e1,h];grind
 have h1:(n:Rat)*n≠0:=fun e=>by
  rcases Rat.mul_eq_zero.1 e with h|h<;>exact h0 h
 grind
def loQ (p:PartA):Qn:=⟨half ((p.a % 64:Nat):Int),0,false⟩
def hiQ (o:Nat) (p:PartA):Qn :=
 if 6≤o % 8 then ⟨half ((p.a % 64:Nat):Int),(((p.b % 16:Nat):Int):Rat)*((p.b % 16:Nat):Int)*2,false⟩ else ⟨half ((p.a % 64:Nat):Int)+half ((p.b % 16:Nat):Int),0,false⟩
theorem lo_ok (p:PartA):(loQ p).Ok:=⟨by show (0:Rat)≤0;grind,fun _=>rfl,fun h=>absurd rfl h⟩
theorem yfa (p:PartA):FitR 3 (loQ p):=⟨(ybk (by omega)).mono (by decide),fit0.mono (by decide)⟩
theorem hi_ok (o:Nat) (p:PartA):(hiQ o p).Ok:=by
 unfold hiQ;split
 ·refine ⟨?_,fun _=>rfl,fun h q=>?_⟩
  ·dsimp only
   have:(0:Rat)≤(((p.b % 16:Nat):Int):Rat):=by
    have:=(yaB (a:=0) (b:=((p.b % 16:Nat):Int))).2 (by omega)
    simpa using this
   exact yas (yas this this) (by decide)
  dsimp only at h ⊢;refine two_sqn _ (fun h0=>h ?_) q;rw [h0];show (0:Rat)*0*2=0
  grind
 exact ⟨by show (0:Rat)≤0;grind,fun _=>rfl,fun h=>absurd rfl h⟩
theorem hi_fit (o:Nat) (p:PartA):FitR 5 (hiQ o p):=by
 unfold hiQ;split
 ·refine ⟨(ybk (by omega)).mono (by decide),?_⟩
  have h1:=ybM (n:=((p.b % 16:Nat):Int)) (by omega);exact (FitQ.mul (FitQ.mul h1 h1) ((fit_nat1 2 (by decide)))).mono (by decide)
 exact ⟨(FitQ.add (ybk (by omega)) (ybk (by omega))).mono (by decide),fit0.mono (by decide)⟩
def loK (p:PartA):K:=⟨loQ p,lo_ok p,(yfa p).1.mono (by decide),(yfa p).2.mono (by decide)⟩
def hiK (o:Nat) (p:PartA):K:=⟨hiQ o p,hi_ok o p,(hi_fit o p).1.mono (by decide),(hi_fit o p).2.mono (by decide)⟩
theorem lo_hi (o:Nat) (p:PartA) (hn:p.b % 16≠0):loK p<hiK o p:=by
 have hc:(0:Rat)<(((p.b % 16:Nat):Int):Rat):=by
  have:=(ybN (a:=0) (b:=((p.b % 16:Nat):Int))).2 (by omega)
  simpa using this
 have h2:=ygo ((p.b % 16:Nat):Int);show Lt (loQ p) (hiQ o p)
 unfold loQ hiQ;generalize half ((p.a % 64:Nat):Int)=a;generalize half ((p.b % 16:Nat):Int)=h at *;generalize (((p.b % 16:Nat):Int):Rat)=n at *;split
 ·refine ⟨a+n,?_,?_⟩
  ·show Pos (a+n-a) _ 0
   exact .inl ⟨by grind,.inr (by have:=yal (a:=a+n-a) (b:=a+n-a) (by grind) (by grind);grind)⟩
  show Pos (a-(a+n)) _ (n*n*2)
  have hu:Qn.u ⟨a,n*n*2,false⟩=1:=rfl;rw [hu];have:=yal hc hc;exact .inr ⟨by grind,by decide,by grind⟩
 refine ⟨a+h / 2,?_,?_⟩
 ·show Pos (a+h / 2-a) _ 0
  exact .inl ⟨by grind,.inr (by have:=yal (a:=a+h / 2-a) (b:=a+h / 2-a) (by grind) (by grind);grind)⟩
 show Pos (a+h-(a+h / 2)) _ 0
 exact .inl ⟨by grind,.inr (by have:=yal (a:=a+h-(a+h / 2)) (b:=a+h-(a+h / 2)) (by grind) (by grind);grind)⟩
def ych (o:Nat) (p:PartA):Iv K:=if p.b % 16=0 then ⟨⟨loK p,false⟩,⟨loK p,true⟩⟩ else ⟨⟨loK p,decide (o % 2=1)⟩,⟨hiK o p,!decide (2≤o % 4)⟩⟩
theorem partI_val (o:Nat) (p:PartA):(ych o p).f<(ych o p).l:=by
 unfold ych;split
 ·exact .inr ⟨rfl,rfl,rfl⟩
 next h=>exact .inl (lo_hi o p h)
def evL (e:EvA):List (Iv K):=(e.ps.take 4).map (ych e.o)
noncomputable def evD (e:EvA):List (Iv K):=normK (evL e)
def evPts (e:EvA):List K:=ptsL (evL e)
theorem yhc (e:EvA):(evPts e).length≤8:=by
 unfold evPts evL;rw [ptsL_len,List.length_map,List.length_take];omega
theorem evPts_sm (e:EvA):∀ x∈evPts e,Sm 5 x:=fun x hx=>by
 obtain⟨i,hi,h⟩:=ycg.1 hx;unfold evL at hi;obtain⟨p,_,rfl⟩:=List.mem_map.1 hi;have hl:Sm 5 (loK p):=⟨(yfa p).1.mono (by decide),(yfa p).2.mono (by decide)⟩;have hh:Sm 5 (hiK e.o p):=hi_fit e.o p;unfold ych at h;split at h
 ·rcases h with rfl|rfl<;>exact hl
 rcases h with rfl|rfl
 ·exact hl
 exact hh
theorem evD_pts (e:EvA):PtsIn (evPts e) (evD e):=ydF (PtsIn.self _) (PtsIn.nil _)
noncomputable def evS (i:Nat) (e:EvA):St :=
 ⟨evD e,half ((e.g % 8:Nat):Int),if i=0 then 0 else half (((e.w % 12:Nat):Int)-4),if i=0 then 0 else half (((e.w % 12:Nat):Int)-4)+half ((e.r % 12:Nat):Int)⟩
noncomputable def yaW (l:List EvA):List St:=(l.take 4).mapIdx evS
def st0:St:=⟨[],0,0,0⟩
noncomputable def sAt (l:List St) (i:Nat):St:=l.getD i st0
theorem fitq0:FitQ 8 0:=fit0.mono (by decide)
theorem evS_ok (i:Nat) (e:EvA):Norm (evS i e).d∧FitQ 8 (evS i e).g∧FitQ 8 (evS i e).a∧FitQ 8 (evS i e).b:=by
 refine ⟨yau _ _ _,(ybk (by omega)).mono (by decide),?_,?_⟩
 ·unfold evS
  dsimp only;split
  ·exact fitq0
  exact (ybk (by omega)).mono (by decide)
 unfold evS;dsimp only;split
 ·exact fitq0
 exact (FitQ.add (ybk (by omega)) (ybk (by omega))).mono (by decide)
def StsOk (l:List St):Prop:=∀ s∈l,Norm s.d∧(∃ S:List K,S.length≤16∧(∀ x∈S,Sm 28 x)∧PtsIn S s.d)∧FitQ 8 s.g∧FitQ 8 s.a∧FitQ 8 s.b
theorem StsOk.at (l:List St) (h:StsOk l):StOk (sAt l):=by
 have hall:∀ i,Norm (sAt l i).d∧(∃ S:List K,S.length≤16∧(∀ x∈S,Sm 28 x)∧PtsIn S (sAt l i).d)∧FitQ 8 (sAt l i).g∧FitQ 8 (sAt l i).a∧FitQ 8 (sAt l i).b:=fun i=>by
  unfold sAt;by_cases hi:i<l.length
  ·rw [List.getD_eq_getElem?_getD,List.getElem?_eq_getElem hi]
   exact h _ (List.getElem_mem hi)
  rw [List.getD_eq_getElem?_getD,List.getElem?_eq_none (by omega)];exact ⟨trivial,⟨[],by simp,by simp,PtsIn.nil _⟩,fitq0,fitq0,fitq0⟩
 exact ⟨fun i=>(hall i).1,fun i=>(hall i).2.1,fun i=>(hall i).2.2.1,fun i=>(hall i).2.2.2.1,fun i=>(hall i).2.2.2.2⟩
theorem ydf {l:List EvA} {s:St} (h:s∈yaW l):∃ i e,s=evS i e:=by
 unfold yaW at h;obtain⟨i,hi,rfl⟩:=List.mem_mapIdx.1 h;exact ⟨i,_,rfl⟩
theorem evS_pts (i:Nat) (e:EvA):∃ S:List K,S.length≤8∧(∀ x∈S,Sm 5 x)∧PtsIn S (evS i e).d:=⟨evPts e,yhc e,evPts_sm e,evD_pts e⟩
theorem yiU (l:List EvA):StsOk (yaW l):=fun s hs=>by
 obtain⟨i,e,rfl⟩:=ydf hs;obtain⟨h1,h2,h3,h4⟩:=evS_ok i e;obtain⟨S,k1,k2,k3⟩:=evS_pts i e;exact ⟨h1,⟨S,by omega,fun x hx=>(k2 x hx).mono (by decide),k3⟩,h2,h3,h4⟩
theorem ydp (l:List EvA):(yaW l).length=min 4 l.length:=by unfold yaW;rw [List.length_mapIdx,List.length_take]
end
end Go.Proofs.YtpgffjjpiafhpaaGreatDoor
