/- Parts of a proof: Wb Nw Wc Wd Fe Kr. -/
import Derived.Deep.DeepCutAuto
import Derived.Deep.Cut
import Derived.Deep.CutRange
import Derived.Test.YtpgffjjpiafhpaaGreatDoorJ29
import Derived.Test.YtpgffjjpiafhpaaGreatDoorJ01
import Derived.Test.YtpgffjjpiafhpaaGreatDoorJ28
import Derived.Test.YtpgffjjpiafhpaaGreatDoorJ02
import Derived.Test.YtpgffjjpiafhpaaGreatDoorJ06
import Derived.Test.YtpgffjjpiafhpaaGreatDoorJ15
import Derived.Test.YtpgffjjpiafhpaaGreatDoorJ16
set_option linter.unusedVariables false
set_option linter.unusedSimpArgs false
set_option linter.unusedSectionVars false
set_option maxRecDepth 100000
set_option maxHeartbeats 8000000
namespace Go.Proofs.YtpgffjjpiafhpaaGreatDoor
open Go.RowKit
theorem Pos.anti {a b r:Rat} (hr:0≤r) (h:Pos a b r) (h2:Pos (-a) (-b) r):False:=by
 obtain⟨g,e0,hg,he,k⟩:=h.gap hr;obtain⟨g2,e2,hg2,he2,k2⟩:=h2.gap hr;obtain⟨e,h3,h4,h5⟩:=ybR he he2;obtain⟨t,ht⟩:=ybQ hr h3;have:=k e t h3 h4 ht;have:=k2 e t h3 h5 ht;grind
theorem Pos.of_gap {a b r g e0:Rat} (hr:0≤r) (hg:0<g) (he0:0<e0) (k:∀ e t,0<e→e≤e0→Near r t e→g≤a+b*t):Pos a b r:=by
 rcases ybt (a:=a) (b:=b) hr with ⟨_,h⟩|⟨_,h⟩|⟨_,h1,h2,h3,h4⟩
 ·exact h
 ·exfalso
  obtain⟨g2,e2,hg2,he2,k2⟩:=h.gap hr;obtain⟨e,h3,h4,h5⟩:=ybR he0 he2;obtain⟨t,ht⟩:=ybQ hr h3;have:=k e t h3 h4 ht;have:=k2 e t h3 h5 ht;grind
 exfalso;by_cases hb0:b=0
 ·obtain⟨t,ht⟩:=ybQ hr he0
  have:=k e0 t he0 (by grind) ht;subst hb0;have:=ybL (a:=a) (by grind);grind
 by_cases hb:0<b
 ·obtain⟨t,ht⟩:=ybQ hr he0
  have h5:=k e0 t he0 (by grind) ht
  have h6:a≤0:=by
   rcases h4 with h4|h4
   ·subst h4
    have:=ybL (a:=a) (by grind);grind
   by_cases h:a≤0
   ·exact h
   have:=yal (a:=a) (b:=b) (by grind) hb;grind
  have h7:=yar ht.le (ycO b);have h8:b*t ≤ -a:=ycK (by grind) (by grind);grind
 have hb':0 < -b:=by grind
 obtain⟨e1,he1,h11,h12⟩:=ycG (d:=g) (m:=-b) hg hb';obtain⟨e,he,h21,h22⟩:=ybR he0 he1;obtain⟨t,ht⟩:=ybQ hr he;have h5:=k e t he h21 ht
 have h6:e*(-b)≤g:=by
  have:=yar h22 (Rat.le_of_lt hb');grind
 have h7:a*a<(-b*(t+e))*(-b*(t+e)):=by
  have:=yal (a:=(t+e)*(t+e)-r) (b:=b*b) (by have:=ht.lt;grind) (by have:=yal hb' hb';grind);grind
 have h8:a < -b*(t+e):=ydJ (yas (by grind) (by have:=ht.nn;grind)) h7;grind
theorem Pos.mul {a b c d r:Rat} (hr:0≤r) (h:Pos a b r) (h2:Pos c d r):Pos (a*c+b*d*r) (a*d+b*c) r:=by
 obtain⟨g,e0,hg,he,k⟩:=h.gap hr;obtain⟨g2,e2,hg2,he2,k2⟩:=h2.gap hr;have hgg:0<g*g2:=yal hg hg2;have hbd:=ycO (b*d);have hm:0<(2*(r+1)+1)*(b*d*(b*d)+1):=yal (by grind) (by grind);obtain⟨e3,he3,h31,h32⟩:=ycG (d:=g*g2 / 2) (m:=(2*(r+1)+1)*(b*d*(b*d)+1)) (by grind) hm;obtain⟨e4,h41,h42,h43⟩:=ybR he he2;obtain⟨e5,h51,h52,h53⟩:=ybR he3 h41;refine Pos.of_gap hr (g:=g*g2 / 2) (e0:=e5) (by grind) h51 (fun e t he hle ht=>?_);have p1:=k e t he (by grind) ht;have p2:=k2 e t he (by grind) ht;have t1:=ht.nn;have t2:=ht.le;have t3:=ht.lt;have t4:=ht.top hr
 have q1:g*g2≤(a+b*t)*(c+d*t):=by
  have x1:=yas (a:=a+b*t-g) (b:=c+d*t) (by grind) (by grind);have x2:=yas (a:=c+d*t-g2) (b:=g) (by grind) (by grind);grind
 have q2:r-t*t≤e*(2*(r+1)+1):=by
  have:=yar (a:=2*t+e) (b:=2*(r+1)+1) (c:=e) (by grind) (by grind);grind
 have q3:=yeM (b*d)
 have q4:(e*(2*(r+1)+1))*(b*d*(b*d)+1)≤g*g2 / 2:=by
  have:=yar (show e≤e3 by grind) (Rat.le_of_lt hm)
  grind
 have q5:=yas (a:=e*(2*(r+1)+1)-(r-t*t)) (b:=b*d*(b*d)+1) (by grind) (by grind);have q6:=yas (a:=r-t*t) (b:=b*d*(b*d)+1+b*d) (by grind) (by grind);generalize b*d*(b*d)=W at *;grind
theorem Pos.scale {a b r k:Rat} (hr:0≤r) (hk:0<k):Pos (k*a) (k*b) r↔Pos a b r:=by
 have key:∀ {a b k:Rat},0<k→Pos a b r→Pos (k*a) (k*b) r:=by
  intro a b k hk h;have:=Pos.mul (a:=k) (b:=0) (c:=a) (d:=b) hr (.inl ⟨hk,.inl (by grind)⟩) h;have e1:k*a+0*b*r=k*a:=by grind
  have e2:k*b+0*a=k*b:=by grind
  rw [e1,e2] at this;exact this
 refine ⟨fun h=>?_,key hk⟩;have:=key (k:=1 / k) (by rw [Rat.lt_div_iff hk];grind) h;have hc:1 / k*k=1:=Rat.div_mul_cancel (by grind);have e1:1 / k*(k*a)=a:=by grind
 have e2:1 / k*(k*b)=b:=by grind
 rw [e1,e2] at this;exact this
theorem Pos.scale2 {a b r k:Rat} (hk:0<k):Pos (k*a) b (k*k*r)↔Pos a b r:=by
 have h1:0<k*k:=yal hk hk
 have e1:(0<k*a)↔0<a:=by
  constructor
  ·intro h
   by_cases h2:0<a
   ·exact h2
   have:=yas (a:=k) (b:=-a) (by grind) (by grind);grind
  exact yal hk
 have key:∀ x y:Rat,x<y↔k*k*x<k*k*y:=fun x y=>by
  constructor
  ·intro h
   have:=yal (a:=k*k) (b:=y-x) h1 (by grind);grind
  intro h;by_cases h2:x<y
  ·exact h2
  have:=yas (a:=k*k) (b:=x-y) (by grind) (by grind);grind
 have e2:(b*b*(k*k*r)<k*a*(k*a))↔b*b*r<a*a:=by
  rw [key (b*b*r)];constructor<;>intro h<;>grind
 have e3:(k*a*(k*a)<b*b*(k*k*r))↔a*a<b*b*r:=by
  rw [key (a*a)];constructor<;>intro h<;>grind
 have e4:(k*a≤0)↔a≤0:=by
  constructor
  ·intro h;by_cases h2:0<a
   ·have:=e1.2 h2;grind
   grind
  intro h;by_cases h2:0<k*a
  ·have:=e1.1 h2;grind
  grind
 unfold Pos;rw [e1,e2,e3,e4]
theorem gm_am (x k s:Nat) (h:k+x≤2*s):k*x≤s*s:=by
 rcases Nat.le_total x s with hx|hx
 ·obtain⟨t,rfl⟩:=Nat.le.dest hx
  have hk:k≤x+t+t:=by omega
  have h1:k*x≤(x+t+t)*x:=Nat.mul_le_mul_right _ hk;have h2:(x+t)*(x+t)=(x+t+t)*x+t*t:=by grind
  omega
 obtain⟨t,rfl⟩:=Nat.le.dest hx;by_cases hts:t≤s
 ·obtain⟨u,rfl⟩:=Nat.le.dest hts
  have hk:k≤u:=by omega
  have h1:k*(t+u+t)≤u*(t+u+t):=Nat.mul_le_mul_right _ hk;have h2:(t+u)*(t+u)=u*(t+u+t)+t*t:=by grind
  omega
 have hk:k=0:=by omega
 subst hk;rw [Nat.zero_mul];exact Nat.zero_le _
theorem newton_ge {n x s:Nat} (hx:0<x) (hs:s*s≤n):s≤(x+n / x) / 2:=by
 rw [Nat.le_div_iff_mul_le (by decide)];refine Nat.le_of_not_lt fun h=>?_
 have h1:n<(n / x+1)*x:=by
  have:=Nat.div_add_mod n x;have h2:=Nat.mod_lt n hx;have h3:(n / x+1)*x=x*(n / x)+x:=by grind
  omega
 have h2:=gm_am x (n / x+1) s (by omega);omega
theorem newton_lt {n x s:Nat} (hs:n<(s+1)*(s+1)) (hx:s<x):(x+n / x) / 2<x:=by
 have hx0:0<x:=by omega
 have h1:(s+1)*(s+1)≤x*x:=Nat.mul_le_mul hx hx
 have h2:n / x<x:=by
  rw [Nat.div_lt_iff_lt_mul hx0];omega
 omega
theorem yhB (n:Nat):∃ s,s*s≤n∧n<(s+1)*(s+1):=by
 induction n with
 | zero=>exact ⟨0,by decide,by decide⟩
 | succ n ih =>
  obtain⟨s,h1,h2⟩:=ih;by_cases h:n+1<(s+1)*(s+1)
  ·exact ⟨s,by omega,h⟩
  refine ⟨s+1,by omega,?_⟩;have:(s+1+1)*(s+1+1)=(s+1)*(s+1)+2*s+3:=by grind
  omega
noncomputable def isq (n:Nat):Nat:=(yhB n).choose
theorem yfF (n:Nat):isq n*isq n≤n:=(yhB n).choose_spec.1
theorem ygM (n:Nat):n<(isq n+1)*(isq n+1):=(yhB n).choose_spec.2
theorem yjk {n s:Nat} (h1:s*s≤n) (h2:n<(s+1)*(s+1)):s=isq n:=by
 have a1:=yfF n;have a2:=ygM n;refine Nat.le_antisymm (Nat.le_of_not_lt fun h=>?_) (Nat.le_of_not_lt fun h=>?_)
 ·have:=Nat.mul_le_mul h h
  simp only [Nat.succ_eq_add_one] at this;omega
 have:=Nat.mul_le_mul h h;simp only [Nat.succ_eq_add_one] at this;omega
theorem yhC {n x:Nat} (hx:isq n≤x) (hx0:0<x):isq n≤(x+n / x) / 2∧((x+n / x) / 2<x∨x=isq n):=by
 refine ⟨newton_ge hx0 (yfF n),?_⟩;rcases Nat.eq_or_lt_of_le hx with h|h
 ·exact .inr h.symm
 exact .inl (newton_lt (ygM n) h)
theorem isq_pos {n:Nat} (h:0<n):0<isq n:=Nat.pos_of_ne_zero fun h0=>by
 have:=ygM n;rw [h0] at this;omega
theorem isq_pow {n b m:Nat} (hb:n<2 ^ b) (hm:b≤2*m):isq n<2 ^ m:=Nat.lt_of_not_le fun h=>by
 have h1:=Nat.mul_le_mul h h;have h2:=yfF n;have h3:2 ^ m*2 ^ m=2 ^ (m+m):=(Nat.pow_add 2 m m).symm;have h4:2 ^ b≤2 ^ (m+m):=Nat.pow_le_pow_right (by decide) (by omega);omega
theorem isq_self (n:Nat):isq n≤n:=by
 have h:=yfF n;rcases Nat.eq_zero_or_pos (isq n) with h0|h0
 ·omega
 exact Nat.le_trans (Nat.le_mul_of_pos_left _ h0) h
theorem ybd {a b:Rat}:Pos a b 0↔0<a:=by
 unfold Pos;constructor
 ·rintro (⟨h,_⟩|⟨h,h2,h3⟩)
  ·exact h
  have:=ycO a;grind
 intro h;refine .inl ⟨h,.inr ?_⟩;have:=yal h h;grind
theorem Pos.dich {a b:Rat} {x:Qn} (hx:x.Ok) (hr:x.r≠0) (hb:b≠0):Pos a b x.r∨Pos (-a) (-b) x.r:=by
 rcases ybt (a:=a) (b:=b) hx.nn with ⟨_,h⟩|⟨_,h⟩|⟨_,h1,h2,h3,h4⟩
 ·exact .inl h
 ·exact .inr h
 exact absurd (ygp h3 hb) (hx.sq hr _)
theorem ycc {q:Rat} {x:Qn} (hx:x.Ok) (hr:x.r≠0):Below1 q x ↔ ¬ Above1 q x:=by
 have hu:x.u≠0:=by rcases x.u_or with h|h<;>rw [h]<;>grind
 have e : -(x.p-q)=q-x.p:=by grind
 constructor
 ·intro h h2
  unfold Below1 at h;unfold Above1 at h2;rw [← e] at h2;exact Pos.anti hx.nn h h2
 intro h;rcases Pos.dich (a:=x.p-q) hx hr hu with h2|h2
 ·exact h2
 rw [e] at h2;exact absurd h2 h
noncomputable def Qn.inv (x:Qn):Qn:=if x.r=0 then ⟨1 / x.p,0,false⟩ else ⟨x.p*(1 / (x.p*x.p-x.r)),1 / (x.p*x.p-x.r)*(1 / (x.p*x.p-x.r))*x.r,(!x.neg) != decide (1 / (x.p*x.p-x.r)<0)⟩
theorem ydB {a:Rat} (h:0<a):0<1 / a:=by rw [Rat.lt_div_iff h];grind
theorem inv_above {x:Qn} {q:Rat} (hx:x.Ok) (hp:Below1 0 x) (hq:0<q):Above1 q x.inv↔Below1 (1 / q) x:=by
 have hqq:1 / q*q=1:=Rat.div_mul_cancel (by grind);have hq1:=ydB hq;unfold Qn.inv;by_cases hr:x.r=0
 ·rw [if_pos hr]
  unfold Below1 at hp;unfold Above1 Below1;rw [hr] at hp ⊢;rw [ybd] at hp;rw [ybd,ybd];dsimp only;have hpp:1 / x.p*x.p=1:=Rat.div_mul_cancel (by grind);have hp1:=ydB (a:=x.p) (by grind);generalize 1 / x.p=ip at *;generalize 1 / q=iq at *;generalize x.p=p at *;constructor
  ·intro h
   have:=yal (a:=q-ip) (b:=p*iq) h (yal (by grind) hq1);have e:(q-ip)*(p*iq)=p-iq:=by grind
   rw [e] at this;exact this
  intro h;have:=yal (a:=p-iq) (b:=q*ip) h (yal hq hp1);have e:(p-iq)*(q*ip)=q-ip:=by grind
  rw [e] at this;exact this
 rw [if_neg hr];have hu:=x.u_or;have huu:x.u*x.u=1:=by rcases hu with h|h<;>rw [h]<;>grind
 have hu0:x.u≠0:=by grind
 have hN:x.p*x.p-x.r≠0:=fun e=>hx.sq hr x.p (by grind);have hNN:1 / (x.p*x.p-x.r)*(x.p*x.p-x.r)=1:=Rat.div_mul_cancel hN;have hxn:=hx.nn
 have hb:Below1 (1 / q) x↔Pos (q*x.p-1) (q*x.u) x.r:=by
  unfold Below1;rw [← Pos.scale (k:=q) hxn hq];have:q*(x.p-1 / q)=q*x.p-1:=by grind
  rw [this]
 rw [hb]
 have hp':Pos x.p x.u x.r:=by
  unfold Below1 at hp;have:x.p-0=x.p:=by grind
  rw [this] at hp;exact hp
 have hne:∀ {a b c d:Rat},Pos a b x.r→Pos (-a) (-b) x.r→False:=fun h h2=>Pos.anti hxn h h2;unfold Above1;obtain⟨k,hk⟩:∃ k,1 / (x.p*x.p-x.r)=k:=⟨_,rfl⟩;rw [hk] at hNN ⊢;by_cases hk0:k<0
 ·-- the conjugate is less than zero
  have hd:decide (k<0)=true:=decide_eq_true hk0
  have hu':(⟨x.p*k,k*k*x.r,(!x.neg) != decide (k<0)⟩:Qn).u=x.u:=by
   unfold Qn.u;dsimp only;rw [hd];cases x.neg<;>rfl
  rw [hu'];dsimp only;have e1:q-x.p*k = -k*(x.p-q*(x.p*x.p-x.r)):=by grind
  have e2:k*k = -k * -k:=by grind
  rw [e1,e2,Pos.scale2 (show 0 < -k by grind)]
  have hc:Pos (-x.p) x.u x.r:=by
   rcases Pos.dich (a:=x.p) (b:=-x.u) hx hr (by grind) with h|h
   ·exfalso
    have:=Pos.mul hxn hp' h;have z1:x.p*x.p+x.u * -x.u*x.r=x.p*x.p-x.r:=by grind
    have z2:x.p * -x.u+x.u*x.p=0:=by grind
    rw [z1,z2] at this
    have hneg:0 < -(x.p*x.p-x.r):=by
     by_cases h0:0 < -(x.p*x.p-x.r)
     ·exact h0
     have:=yas (a:=-k) (b:=x.p*x.p-x.r) (by grind) (by grind);grind
    exact Pos.anti hxn this (.inl ⟨hneg,.inl (by grind)⟩)
   rw [Rat.neg_neg] at h;exact h
  constructor
  ·intro h
   rcases Pos.dich (a:=q*x.p-1) (b:=q*x.u) hx hr (by grind) with h2|h2
   ·exact h2
   exfalso;have:=Pos.mul hxn h2 hc;have z1 : -(q*x.p-1) * -x.p + -(q*x.u)*x.u*x.r = -(x.p-q*(x.p*x.p-x.r)):=by grind
   have z2 : -(q*x.p-1)*x.u + -(q*x.u) * -x.p = -(-x.u):=by grind
   rw [z1,z2] at this;exact Pos.anti hxn h this
  intro h;have:=Pos.mul hxn h hc;have z1:(q*x.p-1) * -x.p+q*x.u*x.u*x.r=x.p-q*(x.p*x.p-x.r):=by grind
  have z2:(q*x.p-1)*x.u+q*x.u * -x.p = -x.u:=by grind
  rw [z1,z2] at this;exact this
 have hd:decide (k<0)=false:=decide_eq_false hk0
 have hu':(⟨x.p*k,k*k*x.r,(!x.neg) != decide (k<0)⟩:Qn).u = -x.u:=by
  unfold Qn.u;dsimp only;rw [hd];cases x.neg<;>simp
 have hkp:0<k:=by grind
 rw [hu',Rat.neg_neg];dsimp only;have e1:q-x.p*k=k*(q*(x.p*x.p-x.r)-x.p):=by grind
 rw [e1,Pos.scale2 hkp]
 have hc:Pos x.p (-x.u) x.r:=by
  rcases Pos.dich (a:=x.p) (b:=-x.u) hx hr (by grind) with h|h
  ·exact h
  exfalso;have:=Pos.mul hxn hp' h;have z1:x.p * -x.p+x.u * -(-x.u)*x.r = -(x.p*x.p-x.r):=by grind
  have z2:x.p * -(-x.u)+x.u * -x.p=0:=by grind
  rw [z1,z2] at this
  have hneg:0<x.p*x.p-x.r:=by
   by_cases h0:0<x.p*x.p-x.r
   ·exact h0
   have:=yas (a:=k) (b:=-(x.p*x.p-x.r)) (by grind) (by grind);grind
  exact Pos.anti hxn this (.inl ⟨by grind,.inl (by grind)⟩)
 constructor
 ·intro h
  rcases Pos.dich (a:=q*x.p-1) (b:=q*x.u) hx hr (by grind) with h2|h2
  ·exact h2
  exfalso;have:=Pos.mul hxn h2 hc;have z1 : -(q*x.p-1)*x.p + -(q*x.u) * -x.u*x.r = -(q*(x.p*x.p-x.r)-x.p):=by grind
  have z2 : -(q*x.p-1) * -x.u + -(q*x.u)*x.p = -x.u:=by grind
  rw [z1,z2] at this;exact Pos.anti hxn h this
 intro h;have:=Pos.mul hxn h hc;have z1:(q*x.p-1)*x.p+q*x.u * -x.u*x.r=q*(x.p*x.p-x.r)-x.p:=by grind
 have z2:(q*x.p-1) * -x.u+q*x.u*x.p=x.u:=by grind
 rw [z1,z2] at this;exact this
theorem yem {x:Qn} (hx:x.Ok):x.inv.Ok:=by
 unfold Qn.inv;by_cases hr:x.r=0
 ·rw [if_pos hr]
  exact ⟨by show (0:Rat)≤0;grind,fun _=>rfl,fun h=>absurd rfl h⟩
 rw [if_neg hr];have hN:x.p*x.p-x.r≠0:=fun e=>hx.sq hr x.p (by grind);have hNN:1 / (x.p*x.p-x.r)*(x.p*x.p-x.r)=1:=Rat.div_mul_cancel hN;generalize 1 / (x.p*x.p-x.r)=k at *;generalize x.p*x.p-x.r=N at *;have hk0:k≠0:=by grind
 have hkk:k*k≠0:=fun e=>hk0 (ybL e);refine ⟨yas (ycO k) hx.nn,fun h=>?_,fun h q hq=>?_⟩
 ·rcases Rat.mul_eq_zero.1 h with h|h
  ·exact absurd h hkk
  exact absurd h hr
 dsimp only at hq;exact hx.sq hr (q*N) (by grind)
theorem yfd {x:Qn} {q:Rat} (hx:x.Ok) (hp:Below1 0 x) (hq:0<q):Below1 q x.inv↔Above1 (1 / q) x:=by
 have hqq:1 / q*q=1:=Rat.div_mul_cancel (by grind);have hq1:=ydB hq;by_cases hr:x.r=0
 ·unfold Qn.inv
  rw [if_pos hr];unfold Below1 at hp;unfold Above1 Below1;rw [hr] at hp ⊢;rw [ybd] at hp;rw [ybd,ybd];dsimp only;have hpp:1 / x.p*x.p=1:=Rat.div_mul_cancel (by grind);have hp1:=ydB (a:=x.p) (by grind);generalize 1 / x.p=ip at *;generalize 1 / q=iq at *;generalize x.p=p at *;constructor
  ·intro h
   have:=yal (a:=ip-q) (b:=p*iq) h (yal (by grind) hq1);have e:(ip-q)*(p*iq)=iq-p:=by grind
   rw [e] at this;exact this
  intro h;have:=yal (a:=iq-p) (b:=q*ip) h (yal hq hp1);have e:(iq-p)*(q*ip)=ip-q:=by grind
  rw [e] at this;exact this
 have hr':x.inv.r≠0:=by
  unfold Qn.inv;rw [if_neg hr];have hN:x.p*x.p-x.r≠0:=fun e=>hx.sq hr x.p (by grind);have hNN:1 / (x.p*x.p-x.r)*(x.p*x.p-x.r)=1:=Rat.div_mul_cancel hN;generalize 1 / (x.p*x.p-x.r)=k at *;have hk0:k≠0:=by grind
  have hkk:k*k≠0:=fun e=>hk0 (ybL e);intro h;rcases Rat.mul_eq_zero.1 h with h|h
  ·exact absurd h hkk
  exact absurd h hr
 rw [ycc (yem hx) hr',inv_above hx hp hq,ycc hx hr,Classical.not_not]
noncomputable def Qn.root (x:Qn):Nat:=isq (x.p.den*x.p.den*(x.r.num.natAbs*x.r.den))
noncomputable def Qn.top (x:Qn):Int:=if x.neg then x.p.num*x.r.den-((x.root:Int)+1) else x.p.num*x.r.den+(x.root:Int)
noncomputable def Qn.flr (x:Qn):Int:=x.top / ((x.p.den:Int)*x.r.den)
theorem ybj (q:Rat):q*((q.den:Int):Rat)=(q.num:Rat):=by
 have hd:=q.den_pos;have e:(q.num:Rat) / ((q.den:Int):Rat)=q:=by rw [← Rat.divInt_eq_div];exact Rat.num_divInt_den q
 have h0:((q.den:Int):Rat)≠0:=fun e=>by
  have:=Rat.intCast_inj.1 (e.trans (show (0:Rat)=((0:Int):Rat) from rfl))
  omega
 have:=Rat.div_mul_cancel (a:=(q.num:Rat)) h0;rw [e] at this;exact this
theorem ycs {a b:Int}:(a:Rat)<(b:Rat)↔a<b:=Rat.intCast_lt_intCast
theorem yaY {a b:Int}:(a:Rat)≤(b:Rat)↔a≤b:=Rat.intCast_le_intCast
theorem yaj (a b:Int):((a*b:Int):Rat)=(a:Rat)*b:=Rat.intCast_mul a b
theorem yeN {T:Int} {Z:Nat}:Pos (T:Rat) (-1) ((Z:Int):Rat)↔(isq Z:Int)+1≤T:=by
 have h1:=yfF Z;have h2:=ygM Z
 have e:Pos (T:Rat) (-1) ((Z:Int):Rat)↔0<T∧(Z:Int)<T*T:=by
  rw [← ycs (a:=0),← ycs (a:=(Z:Int)),yaj];unfold Pos;constructor
  ·rintro (⟨h,h'|h'⟩|⟨h,h2,h3⟩)
   ·grind
   ·exact ⟨h,by grind⟩
   grind
  rintro ⟨h,h2⟩;exact .inl ⟨h,.inr (by grind)⟩
 rw [e];generalize isq Z=s at *;constructor
 ·rintro ⟨h3,h4⟩
  obtain⟨t,rfl⟩:=Int.eq_ofNat_of_zero_le (Int.le_of_lt h3)
  have h5:Z<t*t:=by
   have:((t:Int)*t)=((t*t:Nat):Int):=by simp
   rw [this] at h4;omega
  have h6:s<t:=Nat.lt_of_not_le fun h=>by
   have:=Nat.mul_le_mul h h;omega
  omega
 intro h;obtain⟨t,rfl⟩:=Int.eq_ofNat_of_zero_le (show 0≤T by omega)
 have h5:(s+1)*(s+1)≤t*t:=Nat.mul_le_mul (by omega) (by omega);refine ⟨by omega,?_⟩;have:((t:Int)*t)=((t*t:Nat):Int):=by simp
 rw [this];omega
theorem yff {T:Int} {Z:Nat} (hZ:T*T≠(Z:Int)):Pos (T:Rat) 1 ((Z:Int):Rat) ↔ -(isq Z:Int)≤T:=by
 have h1:=yfF Z;have h2:=ygM Z
 have e:Pos (T:Rat) 1 ((Z:Int):Rat)↔0<T∨(T≤0∧T*T<(Z:Int)):=by
  rw [← ycs (a:=0),← ycs (b:=(Z:Int)),yaj,← yaY (b:=0)];unfold Pos;constructor
  ·rintro (⟨h,h'|h'⟩|⟨h,h2,h3⟩)
   ·exact .inl h
   ·exact .inl h
   exact .inr ⟨h,by grind⟩
  rintro (h|⟨h,h2⟩)
  ·exact .inl ⟨h,.inl (by grind)⟩
  exact .inr ⟨h,by grind,by grind⟩
 rw [e];generalize isq Z=s at *;by_cases hT:0<T
 ·exact ⟨fun _=>by omega,fun _=>.inl hT⟩
 obtain⟨t,ht⟩:=Int.eq_ofNat_of_zero_le (show 0 ≤ -T by omega)
 obtain rfl:T = -(t:Int):=by omega
 have e2 : -(t:Int) * -(t:Int)=((t*t:Nat):Int):=by rw [Int.neg_mul_neg,Int.natCast_mul]
 rw [e2] at hZ ⊢;constructor
 ·rintro (h|⟨_,h⟩)
  ·exact absurd h hT
  have:t<s+1:=Nat.lt_of_not_le fun h3=>by
   have:=Nat.mul_le_mul h3 h3;omega
  omega
 intro h;have:=Nat.mul_le_mul (show t≤s by omega) (show t≤s by omega)
 exact .inr ⟨by omega,by omega⟩
theorem ygH {x:Qn} (hx:x.Ok) (z:Int):Above1 (z:Rat) x↔Pos ((z*((x.p.den:Int)*x.r.den)-x.p.num*x.r.den:Int):Rat) (-x.u) (((x.p.den*x.p.den*(x.r.num.natAbs*x.r.den):Nat):Int):Rat):=by
 have hd:=x.p.den_pos;have hb:=x.r.den_pos;have hD:(0:Rat)<((x.p.den:Int):Rat)*((x.r.den:Int):Rat):=yal (ycs (a:=0).2 (by omega)) (ycs (a:=0).2 (by omega));have hp:x.p*((x.p.den:Int):Rat)=(x.p.num:Rat):=ybj x.p;have hr:x.r*((x.r.den:Int):Rat)=(x.r.num:Rat):=ybj x.r
 have hn:((x.r.num.natAbs:Nat):Int)=x.r.num:=by
  have:=Rat.num_nonneg.2 hx.nn;omega
 unfold Above1;rw [← Pos.scale2 (k:=((x.p.den:Int):Rat)*((x.r.den:Int):Rat)) hD]
 have e1:((x.p.den:Int):Rat)*((x.r.den:Int):Rat)*((z:Rat)-x.p)=((z*((x.p.den:Int)*x.r.den)-x.p.num*x.r.den:Int):Rat):=by
  rw [Rat.intCast_sub,yaj,yaj,yaj,← hp];grind
 have e2:((x.p.den:Int):Rat)*((x.r.den:Int):Rat)*(((x.p.den:Int):Rat)*((x.r.den:Int):Rat))*x.r=(((x.p.den*x.p.den*(x.r.num.natAbs*x.r.den):Nat):Int):Rat):=by
  rw [Int.natCast_mul,Int.natCast_mul,Int.natCast_mul,hn,yaj,yaj,yaj,← hr];grind
 rw [e1,e2]
theorem yfq {x:Qn} (hx:x.Ok) (hr:x.r≠0) (T:Int):T*T≠((x.p.den*x.p.den*(x.r.num.natAbs*x.r.den):Nat):Int):=fun e=>by
 have hd:=x.p.den_pos;have hb:=x.r.den_pos;have hD:(0:Rat)<((x.p.den:Int):Rat)*((x.r.den:Int):Rat):=yal (ycs (a:=0).2 (by omega)) (ycs (a:=0).2 (by omega));have hrr:x.r*((x.r.den:Int):Rat)=(x.r.num:Rat):=ybj x.r
 have hn:((x.r.num.natAbs:Nat):Int)=x.r.num:=by
  have:=Rat.num_nonneg.2 hx.nn;omega
 have e':((T*T:Int):Rat)=(((x.p.den*x.p.den*(x.r.num.natAbs*x.r.den):Nat):Int):Rat):=by rw [e]
 rw [Int.natCast_mul,Int.natCast_mul,Int.natCast_mul,hn,yaj,yaj,yaj,yaj,← hrr] at e';refine hx.sq hr _ (ygp (A:=(T:Rat)) (B:=((x.p.den:Int):Rat)*((x.r.den:Int):Rat)) ?_ (by grind));grind
theorem yiM {x:Qn} (hx:x.Ok):¬ Above1 (x.flr:Rat) x∧Above1 ((x.flr+1:Int):Rat) x:=by
 have hd:=x.p.den_pos;have hb:=x.r.den_pos;have hD:0<(x.p.den:Int)*x.r.den:=Int.mul_pos (by omega) (by omega);have f1:x.flr*((x.p.den:Int)*x.r.den)≤x.top:=Int.ediv_mul_le _ (by omega);have f2:x.top<(x.flr+1)*((x.p.den:Int)*x.r.den):=Int.lt_ediv_add_one_mul_self _ hD;rw [ygH hx,ygH hx];by_cases hneg:x.neg=true
 ·have hr:x.r≠0:=fun e=>by have:=hx.zero e;rw [this] at hneg;cases hneg
  have hu : -x.u=1:=by unfold Qn.u;rw [hneg];decide
  rw [hu,yff (yfq hx hr _),yff (yfq hx hr _)];unfold Qn.top at f1 f2;rw [if_pos hneg] at f1 f2;have:isq (x.p.den*x.p.den*(x.r.num.natAbs*x.r.den))=x.root:=rfl;rw [this];constructor<;>omega
 have hu : -x.u = -1:=by unfold Qn.u;rw [if_neg hneg]
 rw [hu,yeN,yeN];unfold Qn.top at f1 f2;rw [if_neg hneg] at f1 f2;have:isq (x.p.den*x.p.den*(x.r.num.natAbs*x.r.den))=x.root:=rfl;rw [this];constructor<;>omega
section
open Classical
def half (n:Int):Rat:=Rat.divInt n 2
theorem yew {n:Int} (h:n.natAbs≤1000):FitQ 2 (half n) :=
 ybl (Fit_iff.2 (by omega)) (Fit_iff.2 (by decide)) (by decide)
theorem int_fit {n:Int} (h:n.natAbs≤60000):FitQ 2 (n:Rat):=by
 refine ⟨?_,?_⟩
 ·rw [Rat.num_intCast];exact Fit_iff.2 (by omega)
 rw [Rat.den_intCast];exact Fit_iff.2 (by decide)
theorem yfA {N M:Nat} (h:N*N=2*M):N % 2=0:=by
 rcases Nat.mod_two_eq_zero_or_one N with h1|h1
 ·exact h1
 exfalso;have:(N*N) % 2=1:=by rw [Nat.mul_mod,h1]
 omega
theorem two_sq (q:Rat):q*q≠2:=fun h=>by
 have hd:(q.den:Rat)≠0:=by
  have:=q.den_nz;intro h0;exact this (by exact_mod_cast h0)
 have e:=ybj q
 have e2:(q.num:Rat)*q.num=2*(((q.den:Int):Rat)*((q.den:Int):Rat)):=by
  rw [← e];grind
 have e3:q.num*q.num=2*((q.den:Int)*q.den):=by
  have:((q.num*q.num:Int):Rat)=((2*((q.den:Int)*q.den):Int):Rat):=by
   rw [yaj,yaj,yaj];exact e2
  exact Rat.intCast_inj.1 this
 have e4:q.num.natAbs*q.num.natAbs=2*(q.den*q.den):=by
  have:=congrArg Int.natAbs e3;rw [Int.natAbs_mul,Int.natAbs_mul,Int.natAbs_mul] at this
  simpa using this
 have h1:=yfA e4;obtain⟨m,hm⟩:∃ m,q.num.natAbs=2*m:=⟨q.num.natAbs / 2,by omega⟩
 have h2:q.den*q.den=2*(m*m):=by
  rw [hm] at e4;have:2*m*(2*m)=4*(m*m):=by rw [Nat.mul_mul_mul_comm]
  omega
 have h3:=yfA h2;have h4:=q.reduced;have h5:2∣Nat.gcd q.num.natAbs q.den:=Nat.dvd_gcd (by omega) (by omega);have h6:Nat.gcd q.num.natAbs q.den=1:=h4;omega
theorem two_sqn (n:Int) (hn:n≠0) (q:Rat):q*q≠(n:Rat)*n*2:=fun h=>by
 have h0:(n:Rat)≠0:=fun e=>hn (Rat.intCast_inj.1 (e.trans (show (0:Rat)=((0:Int):Rat) from rfl)))
 refine two_sq (q / n) ?_;have e1:q / n*n=q:=Rat.div_mul_cancel h0
 have e2:(q / n)*(q / n)*((n:Rat)*n)=2*((n:Rat)*n):=by
  have:(q / n)*(q / n)*((n:Rat)*n)=(q / n*n)*(q / n*n):=by grind
  rw [this,e1,h];grind
 have h1:(n:Rat)*n≠0:=fun e=>by
  rcases Rat.mul_eq_zero.1 e with h|h<;>exact h0 h
 grind
def loQ (p:PartA):Qn:=⟨half ((p.a % 64:Nat):Int),0,false⟩
def hiQ (o:Nat) (p:PartA):Qn :=
 if 6≤o % 8 then ⟨half ((p.a % 64:Nat):Int),(((p.b % 16:Nat):Int):Rat)*((p.b % 16:Nat):Int)*2,false⟩ else ⟨half ((p.a % 64:Nat):Int)+half ((p.b % 16:Nat):Int),0,false⟩
theorem lo_ok (p:PartA):(loQ p).Ok:=⟨by show (0:Rat)≤0;grind,fun _=>rfl,fun h=>absurd rfl h⟩
theorem lo_fit (p:PartA):FitR 3 (loQ p):=⟨(yew (by omega)).mono (by decide),fit0.mono (by decide)⟩
theorem hi_ok (o:Nat) (p:PartA):(hiQ o p).Ok:=by
 unfold hiQ;split
 ·refine ⟨?_,fun _=>rfl,fun h q=>?_⟩
  ·dsimp only
   have:(0:Rat)≤(((p.b % 16:Nat):Int):Rat):=by
    have:=(yaY (a:=0) (b:=((p.b % 16:Nat):Int))).2 (by omega)
    simpa using this
   exact yas (yas this this) (by decide)
  dsimp only at h ⊢;refine two_sqn _ (fun h0=>h ?_) q;rw [h0];show (0:Rat)*0*2=0
  grind
 exact ⟨by show (0:Rat)≤0;grind,fun _=>rfl,fun h=>absurd rfl h⟩
theorem hi_fit (o:Nat) (p:PartA):FitR 5 (hiQ o p):=by
 unfold hiQ;split
 ·refine ⟨(yew (by omega)).mono (by decide),?_⟩
  have h1:=int_fit (n:=((p.b % 16:Nat):Int)) (by omega);exact (FitQ.mul (FitQ.mul h1 h1) ((yiH 2 (by decide)))).mono (by decide)
 exact ⟨(FitQ.add (yew (by omega)) (yew (by omega))).mono (by decide),fit0.mono (by decide)⟩
def loK (p:PartA):K:=⟨loQ p,lo_ok p,(lo_fit p).1.mono (by decide),(lo_fit p).2.mono (by decide)⟩
def hiK (o:Nat) (p:PartA):K:=⟨hiQ o p,hi_ok o p,(hi_fit o p).1.mono (by decide),(hi_fit o p).2.mono (by decide)⟩
def partI (o:Nat) (p:PartA):Iv K:=if p.b % 16=0 then ⟨⟨loK p,false⟩,⟨loK p,true⟩⟩ else ⟨⟨loK p,decide (o % 2=1)⟩,⟨hiK o p,!decide (2≤o % 4)⟩⟩
def evL (e:EvA):List (Iv K):=(e.ps.take 4).map (partI e.o)
noncomputable def evD (e:EvA):List (Iv K):=normK (evL e)
noncomputable def evS (i:Nat) (e:EvA):St :=
 ⟨evD e,half ((e.g % 8:Nat):Int),if i=0 then 0 else half (((e.w % 12:Nat):Int)-4),if i=0 then 0 else half (((e.w % 12:Nat):Int)-4)+half ((e.r % 12:Nat):Int)⟩
noncomputable def stepsOf (l:List EvA):List St:=(l.take 4).mapIdx evS
theorem fitq0:FitQ 8 0:=fit0.mono (by decide)
end
section
open Go.RowKit Go.Lib
theorem conv1 {u:World} {g pb:Nat} (h:u.heap[g]? = some (.cells #[.int .u8 (pb:Int)] 5)):(convert 211 9 (.slice (some ⟨g,0,none⟩) 1 1)).run Tryz.prog u = .ok (.string (strOfNums [(pb:Int)])) u :=
 run_convert_bytes_arg (P:=Tryz.prog) u 211 5 Tryz.underlying211 Tryz.underlying5 g 0 1 1 [(pb:Int)] rfl (fun i hi=>by
  obtain rfl:i=0:=by omega
  rw [yab h]
  rfl) 9 Tryz.underlying9
def strOf:Value→ByteArray
 | .string s=>s
 | _=>⟨#[]⟩
theorem mag_le {X M c r:Nat} (hX:X≤2 ^ M) (hM:M=r+8*c) (hr:r<8):(magS X).size≤c+1:=by
 rw [yaW];subst hM;have h1:2 ^ r<2 ^ 8:=Nat.pow_lt_pow_right (by decide) hr;have h2:2 ^ (r+8*c)=2 ^ r*256 ^ c:=by rw [Nat.pow_add,show (256:Nat)=2 ^ 8 from rfl,← Nat.pow_mul]
 have h3:256 ^ (c+1)=256*256 ^ c:=by rw [Nat.pow_succ,Nat.mul_comm]
 have h4:2 ^ r*256 ^ c<256*256 ^ c:=Nat.mul_lt_mul_of_pos_right h1 (Nat.pow_pos (by decide));omega
theorem yid {X Y k:Nat} (h:X≤Y) (hY:(magS Y).size≤k):(magS X).size≤k:=(yaW _ _).2 (Nat.lt_of_le_of_lt h ((yaW _ _).1 hY))
theorem mag_sum {X Y k:Nat} (hX:(magS X).size≤k) (hY:(magS Y).size≤k):(magS (X+Y)).size≤k+1:=by
 rw [yaW] at *;have:256 ^ (k+1)=256*256 ^ k:=by rw [Nat.pow_succ,Nat.mul_comm]
 omega
theorem wrap_pow:∀ r:Fin 8,IntKind.u8.wrap ((2:Int) ^ r.val)=((2 ^ r.val:Nat):Int):=by decide
theorem bit8:∀ n:Fin 256,n.val<2 ^ (Lib.bitLen n.val):=by decide +kernel
theorem bit8le:∀ n:Fin 256,Lib.bitLen n.val≤8:=by decide +kernel
theorem ygS (c:Nat):natL (repeatL [0] c)=0:=by
 induction c with
 | zero=>rfl
 | succ c ih =>
  show natL ([0]++repeatL [0] c)=0
  rw [ydq,ih];show natL [0]*_+0=0
  have:natL [0]=0:=rfl;rw [this,Nat.zero_mul]
theorem pow_bytes (r c:Nat) (hr:r<8):(⟨(#[UInt8.ofNat (2 ^ r)]++(repeatL [0] c).toArray)⟩:ByteArray)=magS (2 ^ (r+8*c)):=by
 have hl:(⟨(#[UInt8.ofNat (2 ^ r)]++(repeatL [0] c).toArray)⟩:ByteArray).data.toList=UInt8.ofNat (2 ^ r) :: repeatL [0] c:=by simp
 have hb:(UInt8.ofNat (2 ^ r)).toNat=2 ^ r:=by
  have:2 ^ r<2 ^ 8:=Nat.pow_lt_pow_right (by decide) hr;rw [UInt8.toNat_ofNat'];exact Nat.mod_eq_of_lt this
 have hc:CanS (⟨(#[UInt8.ofNat (2 ^ r)]++(repeatL [0] c).toArray)⟩:ByteArray):=by
  unfold CanS;rw [hl];intro b hb2;simp only [List.head?_cons,Option.some.injEq] at hb2;subst hb2;intro h0;have:=congrArg UInt8.toNat h0;rw [hb] at this;have h2:0<2 ^ r:=Nat.pow_pos (by decide);have h3:(0:UInt8).toNat=0:=rfl;omega
 rw [← yck _ hc];congr 1
 unfold natB;rw [hl,ybC,hb,ygS,repeatL_length,Nat.add_zero];show 2 ^ r*256 ^ (c*1)=_
 rw [Nat.mul_one,Nat.pow_add,show (256:Nat)=2 ^ 8 from rfl,← Nat.pow_mul]
theorem pow_app (r c pb M:Nat) (hr:r<8) (hp:2 ^ r=pb) (hM:M=r+8*c):strOfNums [(pb:Int)]++⟨(repeatL [0] c).toArray⟩=magS (2 ^ M):=by
 subst hp hM;rw [← pow_bytes r c hr];apply ByteArray.ext;rw [ByteArray.data_append];unfold strOfNums;simp only [List.map_cons,List.map_nil,Int.toNat_natCast]
theorem top_lt (s:ByteArray) (h:0<s.size):natB s<2 ^ (8*(s.size-1)+Lib.bitLen (s[0]'h).toNat):=by
 obtain⟨⟨l⟩⟩:=s;cases l with
 | nil=>exact absurd h (by decide)
 | cons a l =>
  have e:natB ⟨⟨a :: l⟩⟩=a.toNat * 256 ^ l.length+natL l:=ybC a l;have h1:=ycP l;have h2:=bit8 ⟨a.toNat,UInt8.toNat_lt a⟩;have e2:((⟨⟨a :: l⟩⟩:ByteArray)[0]'h)=a:=rfl;have e3:(⟨⟨a :: l⟩⟩:ByteArray).size=l.length+1:=rfl;rw [e,e2,e3,Nat.add_sub_cancel,Nat.pow_add,Nat.pow_mul,show (2:Nat) ^ 8=256 from rfl]
  dsimp only at h2;have h3:(a.toNat + 1)*256 ^ l.length≤2 ^ Lib.bitLen a.toNat * 256 ^ l.length:=Nat.mul_le_mul_right _ h2;have h4:(a.toNat + 1)*256 ^ l.length=a.toNat * 256 ^ l.length+256 ^ l.length:=by rw [Nat.add_mul,Nat.one_mul]
  rw [Nat.mul_comm (256 ^ l.length)];omega
theorem index_top (w:World) (s:ByteArray) (h:0<s.size):(Instr.index 9 (.string s) (.int .i64 0)).run Tryz.prog w = .ok (.int .u8 ((s[0]'h).toNat:Nat)) w:=by
 rw [run_index_string (P:=Tryz.prog) w 9 s .i64 _ Tryz.underlying9,dif_pos ⟨by omega,by omega⟩];rfl
theorem root_p (n:Nat) (hs:(magS n).size≤1000000000) (w:World) :
  Calls Tryz.prog 193 #[.string (magS n)] w fun e w'=>e = .returned (.string (magS (isq n)))∧Below w.heap.size w w':=by
 rcases Nat.eq_zero_or_pos n with h0|hpos
 ·subst h0
  have hz:isq 0=0:=(yjk (s:=0) (by decide) (by decide)).symm;rw [hz,magS_zero];go_enter Tryz.func193,Tryz.ntmps193
  go_wp2_with fail;go_ret
  exact ⟨rfl,Below.refl _ _⟩
 have hsz:0<(magS n).size:=Nat.pos_of_ne_zero fun h=>by
  have:=(yaW n 0).1 (by omega);omega
 have htop:=top_lt (magS n) hsz;rw [yax] at htop;have hne:magS n≠⟨#[]⟩:=fun h=>by rw [h] at hsz;exact absurd hsz (by decide)
 have HD:Hid (∀ X:Nat,0<X→(magS X).size≤1000000001→∀ w,Calls Tryz.prog 187 #[.string (magS n),.string (magS X)] w fun e w'=>e = .returned (.tuple #[.string (magS (n / X)),.string (magS (n % X))])∧Keep [] w w'):=fun X hX hXs w=>by
  have:=div_c (magS n) (magS X) (by omega) (by omega) (ycp n) (ycp X) (by rw [yax];exact hX) w;rw [yax,yax] at this;exact this
 have HA:Hid (∀ X Y:Nat,(magS X).size≤1000000001→(magS Y).size≤1000000001→∀ w,Calls Tryz.prog 189 #[.string (magS X),.string (magS Y)] w fun e w'=>e = .returned (.string (magS (X+Y)))∧Keep [] w w'):=fun X Y hX hY w=>by
  have:=add_c (magS X) (magS Y) (by omega) (by omega) w;rw [yax,yax] at this;exact this
 have HH:Hid (∀ X:Nat,(magS X).size≤1000000002→∀ w,Calls Tryz.prog 187 #[.string (magS X),.string ⟨#[2]⟩] w fun e w'=>e = .returned (.tuple #[.string (magS (X / 2)),.string (magS (X % 2))])∧Keep [] w w'):=fun X hX w=>by
  have h2:natB ⟨#[2]⟩=2:=rfl;have c2:CanS ⟨#[2]⟩:=by intro b hb;have:(some 2:Option UInt8)=some b:=hb;injection this with this;subst this;decide
  have:=div_c (magS X) ⟨#[2]⟩ (by omega) (by decide) (ycp X) c2 (by rw [h2];decide) w;rw [yax,h2] at this;exact this
 have HC:Hid (∀ X Y:Nat,∀ w,Calls Tryz.prog 185 #[.string (magS X),.string (magS Y)] w fun e w'=>e = .returned (.int .i64 (Lib.compareInt X Y))∧Keep [] w w'):=fun X Y w=>by
  have:=ycy (magS X) (magS Y) (ycp X) (ycp Y) w;rw [yax,yax] at this;exact this
 obtain⟨d,hd⟩:∃ d,((magS n)[0]'hsz).toNat=d:=⟨_,rfl⟩;have hd9:d<256:=by rw [← hd];exact UInt8.toNat_lt _
 have hix:=fun w=>index_top w (magS n) hsz;rw [hd] at htop hix;have HB:=jX (fun w=>Tryz.bits_Len8 (d:Int) w (by omega) (by omega));have hbl:=bit8le ⟨d,hd9⟩;dsimp only at hbl;rw [Int.toNat_natCast] at HB;obtain⟨bl,hbl2⟩:∃ bl,Lib.bitLen d=bl:=⟨_,rfl⟩;rw [hbl2] at HB hbl htop;have HT:=jX htop;have Hpos:=jX hpos;clear htop hbl2 hd hpos;obtain⟨L,hL⟩:∃ L,(magS n).size=L+1:=⟨(magS n).size-1,by omega⟩;rw [hL,Nat.add_sub_cancel] at HT;have hsub:((magS n).size:Int)-1=(L:Int):=by omega
 have hemp:(magS n).toList.isEmpty=false:=by
  rw [List.isEmpty_eq_false_iff];exact fun h=>hne (yds (by rw [h,Go.Lib.toList_data]))
 have hL9:L≤1000000000:=by omega
 clear hL;have HQs:=jX (fun X=>yid (Nat.div_le_self n X) (Nat.le_trans hs (by decide:1000000000≤1000000001)));generalize magS n=s at *;go_enter Tryz.func193,Tryz.ntmps193
 go_wp2_with fail;refine (HB.out _).mono ?_;rintro e w1 ⟨rfl,rfl⟩;dsimp only;clear HB;obtain⟨M,hM0⟩:∃ M,(8*L+bl+1) / 2=M:=⟨_,rfl⟩;obtain⟨r,hr0⟩:∃ r,M % 8=r:=⟨_,rfl⟩;obtain⟨c,hc0⟩:∃ c,M / 8=c:=⟨_,rfl⟩;have hM:(8*(L:Int)+(bl:Int)+1) / 2=(M:Int):=by omega
 have hr:(M:Int) % 8=(r:Int):=by omega
 have hc:(M:Int) / 8=(c:Int):=by omega
 have hr8:r<8:=by omega
 have HMx:=jX (show M=r+8*c by omega)
 have HM2:=jX (show 8*L+bl≤2*M by omega)
 have hc9:c≤1000000000:=by omega
 have hrt:(M:Int).tmod 8=(r:Int):=by rw [Int.tmod_eq_emod_of_nonneg (by omega)];exact hr
 have hct:(M:Int).tdiv 8=(c:Int):=by rw [Int.tdiv_eq_ediv_of_nonneg (by omega)];exact hc
 have hrn:((r:Int)).toNat=r:=by omega
 have hrm:min r 8=r:=by omega
 have hcw:IntKind.i64.wrap (c:Int)=(c:Int):=IntWalk.i64_in _ (by omega);have hwp:IntKind.u8.wrap ((2:Int) ^ r)=((2 ^ r:Nat):Int):=wrap_pow ⟨r,hr8⟩;obtain⟨pb,hpb⟩:∃ pb,2 ^ r=pb:=⟨_,rfl⟩;have Hpb:=jX hpb;rw [hpb] at hwp;clear hM0 hr0 hc0 hpb;go_upto_region 5 with (fail)
 have Hrep:=jX (fun w=>Tryz.strings_Repeat ⟨#[0]⟩ c w (by omega) (by rw [show (⟨#[0]⟩:ByteArray).size=1 from rfl];omega))
 have HPW:=jX (congrArg Value.string (pow_app r c pb M hr8 Hpb.out HMx.out))
 have HSZ:Hid (¬ 9223372036854775807<(strOfNums [(pb:Int)]).size+(⟨(repeatL [0] c).toArray⟩:ByteArray).size):=by
  have h1:(strOfNums [(pb:Int)]).size=1:=rfl
  have h2:(⟨(repeatL [0] c).toArray⟩:ByteArray).size=c:=by
   show (repeatL [0] c).toArray.size=c
   rw [List.size_toArray,repeatL_length,List.length_singleton,Nat.mul_one]
  refine jX ?_;rw [h1,h2];omega
 go_cut [3,4] (fun _ xv wx=>xv = .string (magS (2 ^ M))∧Below w1.heap.size w1 wx)
 case first =>
  have HBu:=jX ((Below.refl w1.heap.size w1).drew);refine yah (S:=fun _=>True) 8 (by kernel_rfl) (by kernel_rfl) (fun _ _ d _ _ h=>by cases d<;>exact h) ?_;generalize World.drew w1=u at *;refine sV 0 trivial ?_;go_simp;refine sV 1 trivial ?_;go_simp;refine sV 2 trivial ?_;go_simp;refine sV 5 trivial ?_;go_simp;refine sV 6 trivial ?_;go_simp;refine yak 3 7 (by kernel_rfl) (by decide) (by decide) (by rfl) (by rfl) (by rfl) (by rfl) (fun K hK=>?_) (fun K hK=>?_)
  ·skip
   obtain⟨v1,g,e1,e2,bg,hg,hgu,hk2⟩:=al1 u (.cells #[.int .u8 (pb:Int)] 5);go_simp;rw [← e1];clear e1 e2;have HBu:=jX (HBu.out.trans (Below.mono hk2.bz HBu.out.size));refine hK _ _ trivial ?_;clear hK K;refine yak 4 7 (by kernel_rfl) (by decide) (by decide) (by rfl) (by rfl) (by rfl) (by rfl) (fun K hK=>?_) (fun K hK=>?_)
   ·skip
    have hcv:=conv1 bg;go_simp;refine hK _ _ trivial ?_;clear hK K hcv;refine jO 7 (fun K hK=>?_);refine yag 231 #[.string ⟨#[0]⟩,.int .i64 (c:Int)] (by go_simp) ?_;refine (Hrep.out _).mono ?_;rintro e v2 ⟨rfl,hb1⟩;have HBu:=jX (HBu.out.trans (Below.mono hb1 HBu.out.size));refine ⟨_,rfl,?_⟩;refine hK _ _ trivial ?_;clear hK K;refine ⟨by kernel_rfl,?_⟩;simp only [List.drop_succ_cons,List.drop_zero];have HP2:=HPW.out;have hz:=HSZ.out;generalize strOfNums [(pb:Int)]=SA at *;generalize (⟨(repeatL [0] c).toArray⟩:ByteArray)=SB at *;have HP2:=jX HP2;go_wp2_with fail;go_meet
    exact ⟨rfl,HBu.out⟩
   skip
   refine yag 231 #[.string ⟨#[0]⟩,.int .i64 (c:Int)] (by go_simp) ?_;refine (Hrep.out _).mono ?_;rintro e v2 ⟨rfl,hb1⟩;have HBu:=jX (HBu.out.trans (Below.mono hb1 HBu.out.size));refine ⟨_,rfl,?_⟩;refine hK _ _ trivial ?_;clear hK K;have bg:=(hb1.block g hgu).trans bg;refine jO 4 (fun K hK=>?_);have hcv:=conv1 bg;go_simp;refine hK _ _ trivial ?_;clear hK K hcv;refine ⟨by kernel_rfl,?_⟩;simp only [List.drop_succ_cons,List.drop_zero];have HP2:=HPW.out;have hz:=HSZ.out;generalize strOfNums [(pb:Int)]=SA at *;generalize (⟨(repeatL [0] c).toArray⟩:ByteArray)=SB at *;have HP2:=jX HP2;go_wp2_with fail;go_meet
   exact ⟨rfl,HBu.out⟩
  skip
  refine yag 231 #[.string ⟨#[0]⟩,.int .i64 (c:Int)] (by go_simp) ?_;refine (Hrep.out _).mono ?_;rintro e v1 ⟨rfl,hb1⟩;have HBu:=jX (HBu.out.trans (Below.mono hb1 HBu.out.size));refine ⟨_,rfl,?_⟩;refine hK _ _ trivial ?_;clear hK K;refine jO 3 (fun K hK=>?_);obtain⟨v2,g,e1,e2,bg,hg,hgu,hk2⟩:=al1 v1 (.cells #[.int .u8 (pb:Int)] 5);go_simp;rw [← e1];clear e1 e2;have HBu:=jX (HBu.out.trans (Below.mono hk2.bz HBu.out.size));refine hK _ _ trivial ?_;clear hK K;refine jO 4 (fun K hK=>?_);have hcv:=conv1 bg;go_simp;refine hK _ _ trivial ?_;clear hK K hcv;refine ⟨by kernel_rfl,?_⟩;simp only [List.drop_succ_cons,List.drop_zero];have HP2:=HPW.out;have hz:=HSZ.out;generalize strOfNums [(pb:Int)]=SA at *;generalize (⟨(repeatL [0] c).toArray⟩:ByteArray)=SB at *;have HP2:=jX HP2;go_wp2_with fail;go_meet
  exact ⟨rfl,HBu.out⟩
 obtain⟨rfl,hbw⟩:=hcut;have HBw:=jX hbw;have HQ0:=jX (Nat.le_of_lt (isq_pow HT.out HM2.out));have HQp:=jX (isq_pos Hpos.out);have HXs:Hid (∀ X,X≤2 ^ M→(magS X).size≤1000000001):=fun X hX=>Nat.le_trans (mag_le hX HMx.out hr8) (by omega);clear hbw hs;go_wp2_with fail;go_loopw [4] (fun xv wr=>∃ X:Nat,isq n≤X∧X≤2 ^ M∧xv = .string (magS X)∧Keep [] wc wr) (fun xv _=>natB (strOf xv))
 case atStart=>exact ⟨2 ^ M,HQ0.out,Nat.le_refl _,rfl,Keep.refl _ _⟩
 case round =>
  obtain⟨X,hX,hXM,rfl,hk⟩:=hrel;have HX:=jX hX;have HXM:=jX hXM;have HK:=jX hk;have HX0:Hid (0<X):=Nat.lt_of_lt_of_le HQp.out hX;have HN:=jX (yhC hX HX0.out);have HSx:=jX (HXs.out X hXM);have HSq:=jX (HQs.out X);clear hX hXM hk;go_wp2_with fail;refine (HD.out X HX0.out HSx.out _).mono ?_;rintro e w2 ⟨rfl,hk2⟩;dsimp only;have HK:=jX (HK.out.tz hk2);clear hk2;go_wp2_with fail;refine (HA.out X (n / X) HSx.out HSq.out _).mono ?_;rintro e w3 ⟨rfl,hk3⟩;dsimp only;have HK:=jX (HK.out.tz hk3);clear hk3;go_wp2_with fail;refine (HH.out (X+n / X) (mag_sum HSx.out HSq.out) _).mono ?_;rintro e w4 ⟨rfl,hk4⟩;dsimp only;have HK:=jX (HK.out.tz hk4);clear hk4;generalize n / X=q at *;generalize (X+q) / 2=Y at *;go_wp2_with fail;refine (HC.out Y X _).mono ?_;rintro e w5 ⟨rfl,hk5⟩;dsimp only;have HK:=jX (HK.out.tz hk5);clear hk5
  have hcmp:(0≤Lib.compareInt (Y:Int) (X:Int))↔X≤Y:=by
   unfold Lib.compareInt;split
   ·constructor<;>intro h<;>omega
   split
   ·constructor<;>intro h<;>omega
   constructor<;>intro h<;>omega
  generalize Lib.compareInt (Y:Int) (X:Int)=z at *;have Hcmp:=jX hcmp;clear hcmp;by_cases hz:0≤z
  ·have hXY:=Hcmp.out.1 hz
   have hfin:X=isq n:=by
    rcases HN.out.2 with h|h
    ·omega
    exact h
   have HF:=jX hfin;have HBk:=jX (HBw.out.trans (Below.mono HK.out.bz HBw.out.size));clear hfin hXY;go_wp2_with fail;go_ret
   exact ⟨by rw [← HF.out];rfl,HBk.out⟩
  have hYX:Y<X:=Nat.lt_of_not_le fun h=>hz (Hcmp.out.2 h);have HYX:=jX hYX;clear hYX;go_wp2_with fail;go_roundw
  case rel=>exact ⟨Y,HN.out.1,by have:=HYX.out;have:=HXM.out;omega,rfl,HK.out⟩
  case measure=>show natB (magS Y)<natB (magS X);rw [yax,yax];exact HYX.out
end
end Go.Proofs.YtpgffjjpiafhpaaGreatDoor
