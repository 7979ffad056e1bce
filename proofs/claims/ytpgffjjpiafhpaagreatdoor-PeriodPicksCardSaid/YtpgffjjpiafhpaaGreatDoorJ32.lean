/- Parts of a proof: Wf Wg Qd Qe. -/
import Derived.Test.YtpgffjjpiafhpaaGreatDoorJ31
import Derived.Test.YtpgffjjpiafhpaaGreatDoorJ16
set_option linter.unusedVariables false
set_option linter.unusedSimpArgs false
set_option maxRecDepth 100000
set_option maxHeartbeats 8000000
namespace Go.Proofs.YtpgffjjpiafhpaaGreatDoor
open Go.RowKit
section
open Classical
def Form (H:Int) (x:Qn):Prop:=∃ A B C:Int,A≠0 ∧ -H≤A∧A≤H ∧ -(2*H)≤B∧B≤2*H ∧ -H≤C∧C≤H∧x.p*(2*(A:Rat)) = -(B:Rat)∧x.r*(4*((A:Rat)*(A:Rat)))=(B:Rat)*B-4*((A:Rat)*C)
theorem Form.mono {H H':Int} {x:Qn} (h:Form H x) (hH:H≤H'):Form H' x:=by
 obtain⟨A,B,C,h0,h1,h2,h3,h4,h5,h6,h7,h8⟩:=h;exact ⟨A,B,C,h0,by omega,by omega,by omega,by omega,by omega,by omega,h7,h8⟩
theorem Form.pos {H:Int} {x:Qn} (h:Form H x):0<H:=by
 obtain⟨A,B,C,h0,h1,h2,h3,h4,h5,h6,h7,h8⟩:=h;omega
theorem ycr {a b A C:Int} (ha : -A≤a∧a≤A) (hb : -C≤b∧b≤C) : -(A*C)≤a*b∧a*b≤A*C:=by
 obtain⟨a1,a2⟩:=ha;obtain⟨b1,b2⟩:=hb;have x1:=Int.mul_nonneg (a:=A-a) (b:=C-b) (by omega) (by omega);have x2:=Int.mul_nonneg (a:=A+a) (b:=C+b) (by omega) (by omega);have x3:=Int.mul_nonneg (a:=A-a) (b:=C+b) (by omega) (by omega);have x4:=Int.mul_nonneg (a:=A+a) (b:=C-b) (by omega) (by omega);constructor<;>grind
theorem Form.sh {H:Int} {x:Qn} {b:Nat} (h:Form H x):Form (H*((1+b)*(1+b))) (x.sh (-((b:Int):Rat))):=by
 have hH:=h.pos;obtain⟨A,B,C,h0,h1,h2,h3,h4,h5,h6,h7,h8⟩:=h;have a1:=ycr (a:=A) (b:=b) (A:=H) (C:=b) ⟨h1,h2⟩ ⟨by omega,by omega⟩;have a2:=ycr (a:=A*b) (b:=b) (A:=H*b) (C:=b) a1 ⟨by omega,by omega⟩;have a3:=ycr (a:=B) (b:=b) (A:=2*H) (C:=b) ⟨h3,h4⟩ ⟨by omega,by omega⟩;have a4:0≤H*(b:Int):=Int.mul_nonneg (by omega) (by omega);have a5:0≤H*(b:Int)*b:=Int.mul_nonneg a4 (by omega);have e:H*((1+(b:Int))*(1+b))=H+2*(H*b)+H*b*b:=by grind
 rw [e];refine ⟨A,B+2*(A*b),A*b*b+B*b+C,h0,by omega,by omega,by omega,by omega,by grind,by grind,?_,?_⟩
 ·show (x.p + -((b:Int):Rat))*(2*(A:Rat))=_
  rw [Rat.intCast_add,yaj,yaj];have:((2:Int):Rat)=2:=rfl;rw [this];grind
 show x.r*_=_
 rw [h8];rw [Rat.intCast_add,Rat.intCast_add,Rat.intCast_add,yaj,yaj,yaj,yaj,yaj];have:((2:Int):Rat)=2:=rfl;rw [this];grind
theorem yhM {a:Int} (h:a≠0):(a:Rat)≠0:=fun e=>h (Rat.intCast_inj.1 (e.trans (show (0:Rat)=((0:Int):Rat) from rfl)))
theorem Form.inv {H:Int} {x:Qn} (hx:x.Ok) (hp:Below1 0 x) (h:Form H x):Form H x.inv:=by
 obtain⟨A,B,C,h0,h1,h2,h3,h4,h5,h6,h7,h8⟩:=h;have hA:=yhM h0
 have hC:(C:Rat)=(A:Rat)*(x.p*x.p-x.r):=by
  have:(A:Rat)*(C-(A:Rat)*(x.p*x.p-x.r))=0:=by
   have hB:(B:Rat) = -(x.p*(2*(A:Rat))):=by grind
   rw [hB] at h8;grind
  rcases Rat.mul_eq_zero.1 this with h|h
  ·exact absurd h hA
  grind
 unfold Qn.inv;by_cases hr:x.r=0
 ·rw [if_pos hr]
  have hpp:0<x.p:=by
   unfold Below1 at hp;rw [hr,ybd] at hp;grind
  have hip:1 / x.p*x.p=1:=Rat.div_mul_cancel (by grind);rw [hr] at hC h8;refine ⟨C,B,A,?_,h5,h6,h3,h4,h1,h2,?_,?_⟩
  ·rintro rfl
   have h9:(A:Rat)*(x.p*x.p-0)=0:=hC.symm;rcases Rat.mul_eq_zero.1 h9 with h|h
   ·exact hA h
   have:=yal hpp hpp;grind
  ·show 1 / x.p*_=_
   rw [hC];grind
  show 0*_=_
  grind
 rw [if_neg hr];have hN:x.p*x.p-x.r≠0:=fun e=>hx.sq hr x.p (by grind);have hNN:1 / (x.p*x.p-x.r)*(x.p*x.p-x.r)=1:=Rat.div_mul_cancel hN;generalize 1 / (x.p*x.p-x.r)=k at *;refine ⟨C,B,A,?_,h5,h6,h3,h4,h1,h2,?_,?_⟩
 ·rintro rfl
  have h9:(A:Rat)*(x.p*x.p-x.r)=0:=hC.symm;rcases Rat.mul_eq_zero.1 h9 with h|h
  ·exact hA h
  exact hN h
 ·show x.p*k*_=_
  rw [hC];grind
 show k*k*x.r*_=_
 rw [hC];grind
theorem size_step {H M:Int} {p q b r:Nat} (hH:0≤H) (hp:p=b*q+r) (hr0:0<r) (hrq:r<q) (h:H*((p*q:Nat)*(p*q:Nat))≤M):H*((1+(b:Int))*(1+b))*((q*r:Nat)*(q*r:Nat))≤M:=by
 have h1:(1+b)*r≤p:=by
  have:=Nat.mul_le_mul_left b (Nat.le_of_lt hrq);rw [Nat.add_mul,Nat.one_mul];omega
 have h2:(1+b)*(q*r)≤p*q:=by
  have:=Nat.mul_le_mul_right q h1;have e:(1+b)*(q*r)=(1+b)*r*q:=by rw [Nat.mul_assoc,Nat.mul_comm q r]
  rw [e];exact this
 have h3:=Nat.mul_le_mul h2 h2;have h4:(((1+b)*(q*r)*((1+b)*(q*r)):Nat):Int)≤((p*q*(p*q):Nat):Int):=by omega
 have h5:=Int.mul_le_mul_of_nonneg_left h4 hH
 have e2:H*(((1+b)*(q*r)*((1+b)*(q*r)):Nat):Int)=H*((1+(b:Int))*(1+b))*((q*r:Nat)*(q*r:Nat)):=by
  simp only [Int.natCast_mul,Int.natCast_add,Int.natCast_one];grind
 rw [e2] at h5;exact Int.le_trans h5 (by rw [Int.natCast_mul];exact h)
theorem yhl {k:Nat} {q:Rat} {a b:Int} (hb:b≠0) (h:q*(b:Rat)=(a:Rat)) (fa:Fit k a) (fb:Fit k b):FitQ k q:=by
 have hbr:=yhM hb
 have e:q=(a:Rat) / (b:Rat):=by
  rw [← h,Rat.div_def,Rat.mul_assoc,Rat.mul_inv_cancel _ hbr,Rat.mul_one]
 rw [← Rat.divInt_eq_div] at e;rw [e];rcases Int.lt_or_gt_of_ne hb with h1|h1
 ·rw [← Rat.neg_divInt_neg]
  exact ybl fa.neg fb.neg (by omega)
 exact ybl fa fb h1
theorem Form.fit {H:Int} {x:Qn} {k:Nat} (h:Form H x) (hk:8*(H*H)<((256 ^ k:Nat):Int)):FitR k x:=by
 have hH:=h.pos;obtain⟨A,B,C,h0,h1,h2,h3,h4,h5,h6,h7,h8⟩:=h
 have h1H:H≤H*H:=by
  have:=Int.mul_le_mul_of_nonneg_left (show (1:Int)≤H by omega) (show 0≤H by omega)
  omega
 have aa:=ycr (a:=A) (b:=A) (A:=H) (C:=H) ⟨h1,h2⟩ ⟨h1,h2⟩;have bb:=ycr (a:=B) (b:=B) (A:=2*H) (C:=2*H) ⟨h3,h4⟩ ⟨h3,h4⟩;have ac:=ycr (a:=A) (b:=C) (A:=H) (C:=H) ⟨h1,h2⟩ ⟨h5,h6⟩;have e4:2*H*(2*H)=4*(H*H):=by grind
 rw [e4] at bb
 have fit:∀ z:Int,-(8*(H*H))≤z→z≤8*(H*H)→Fit k z:=fun z hz1 hz2=>by
  rw [Fit_iff];omega
 constructor
 ·refine yhl (a:=-B) (b:=2*A) (by omega) ?_ (fit _ (by omega) (by omega)) (fit _ (by omega) (by omega))
  rw [yaj,Rat.intCast_neg];exact h7
 refine yhl (a:=B*B-4*(A*C)) (b:=4*(A*A)) ?_ ?_ (fit _ (by omega) (by omega)) (fit _ (by omega) (by omega))
 ·intro e
  rcases Int.mul_eq_zero.1 (show A*A=0 by omega) with h|h<;>exact h0 h
 rw [Rat.intCast_sub,yaj,yaj,yaj,yaj,yaj];exact h8
theorem Ht.form {m n b:Nat} {x:Qn} (h:Ht (m:Rat) (n:Rat) (b:Rat) x) (hm:0<m) (hn:0<n) (hb:0<b):Form ((2*(n*(m*m)*(b*b)):Nat):Int) x:=by
 obtain⟨i,hi⟩:=h.m;obtain⟨j,hj⟩:=h.l;have hm':=yaE hm;have hn':=yaE hn
 have i1 : -((b:Int)*m)≤i∧i≤(b:Int)*m:=by
  constructor
  ·rw [← yaY,← hi,Rat.intCast_neg,yaj,Rat.intCast_natCast,Rat.intCast_natCast]
   have:=yar h.lo (Rat.le_of_lt hm');grind
  rw [← yaY,← hi,yaj,Rat.intCast_natCast,Rat.intCast_natCast];exact yar h.hi (Rat.le_of_lt hm')
 have j1:0≤j:=by
  rw [← yaY,← hj];exact yas h.ok.nn (Rat.le_of_lt hn')
 have j2:j≤(b:Int)*b*n:=by
  rw [← yaY,← hj,yaj,yaj,Rat.intCast_natCast,Rat.intCast_natCast];exact yar h.rt (Rat.le_of_lt hn')
 rw [← Rat.intCast_natCast] at hi hj;have hm1:(1:Int)≤m:=by omega
 have hn1:(1:Int)≤n:=by omega
 have hb1:(1:Int)≤b:=by omega
 have e0:((2*(n*(m*m)*(b*b)):Nat):Int)=2*((n:Int)*(m*m)*(b*b)):=by simp only [Int.natCast_mul];rfl
 rw [e0];rw [← Rat.intCast_natCast] at hm' hn';clear e0 h;generalize (m:Int)=m at *;generalize (n:Int)=n at *;generalize (b:Int)=b at *;have mm1:1≤m*m:=by have:=Int.mul_le_mul hm1 hm1 (by omega) (by omega);omega
 have bb1:b≤b*b:=by have:=Int.mul_le_mul_of_nonneg_left hb1 (show 0≤b by omega);omega
 have nmm:1≤n*(m*m):=by have:=Int.mul_le_mul hn1 mm1 (by omega) (by omega);omega
 have mn0:0≤m*n:=Int.mul_nonneg (by omega) (by omega);have b1:=ycr i1 i1;have b2:=ycr (a:=i*i) (b:=n) (C:=n) b1 ⟨by omega,by omega⟩;have b3:=ycr (a:=j) (b:=m*m) (A:=b*b*n) (C:=m*m) ⟨by omega,j2⟩ ⟨by omega,by omega⟩;have b4:=ycr (a:=i) (b:=m*n) (A:=b*m) (C:=m*n) i1 ⟨by omega,by omega⟩;have w1:=Int.mul_le_mul_of_nonneg_left (show 1≤b*b by omega) (show 0≤n*(m*m) by omega)
 have w2:=Int.mul_le_mul_of_nonneg_left bb1 (show 0≤n*(m*m) by omega)
 have q1:b*m*(b*m)*n=n*(m*m)*(b*b):=by grind
 have q2:b*b*n*(m*m)=n*(m*m)*(b*b):=by grind
 have q3:b*m*(m*n)=n*(m*m)*b:=by grind
 rw [q1] at b2;rw [q2] at b3;rw [q3] at b4;refine ⟨n*(m*m),-(2*(i*(m*n))),i*i*n-j*(m*m),by omega,by omega,by omega,by omega,by omega,by omega,by omega,?_,?_⟩
 ·rw [Rat.intCast_neg,yaj,yaj,yaj,yaj,yaj,← hi]
  have:((2:Int):Rat)=2:=rfl;rw [this];grind
 rw [Rat.intCast_neg,Rat.intCast_sub,yaj,yaj,yaj,yaj,yaj,yaj,yaj,yaj,← hi,← hj];have:((2:Int):Rat)=2:=rfl;rw [this];grind
end
section
open Classical
noncomputable def Qn.ng (x:Qn):Qn:=⟨-x.p,x.r,decide (x.r≠0) && !x.neg⟩
theorem ng_u {x:Qn} (hr:x.r≠0):x.ng.u = -x.u:=by
 unfold Qn.u Qn.ng;dsimp only;rw [decide_eq_true hr];cases x.neg<;>simp
theorem ng_ok {x:Qn} (hx:x.Ok):x.ng.Ok:=by
 refine ⟨hx.nn,fun h=>?_,hx.sq⟩;have h':x.r=0:=h;unfold Qn.ng;dsimp only;rw [decide_eq_false (fun e=>e h')];rfl
theorem yex {x:Qn} {q:Rat}:Above1 q x.ng↔Below1 (-q) x:=by
 unfold Above1 Below1;have e:q-x.ng.p=x.p - -q:=by show q - -x.p=_;grind
 rw [e];by_cases hr:x.r=0
 ·show Pos _ _ x.r↔_
  rw [hr,ybd,ybd]
 rw [ng_u hr,Rat.neg_neg];rfl
theorem yiI {x:Qn} {q:Rat}:Below1 q x.ng↔Above1 (-q) x:=by
 unfold Above1 Below1;have e:x.ng.p-q = -q-x.p:=by show -x.p-q=_;grind
 rw [e];by_cases hr:x.r=0
 ·show Pos _ _ x.r↔_
  rw [hr,ybd,ybd]
 rw [ng_u hr];rfl
theorem ng_form {H:Int} {x:Qn} (h:Form H x):Form H x.ng:=by
 obtain⟨A,B,C,h0,h1,h2,h3,h4,h5,h6,h7,h8⟩:=h;refine ⟨A,-B,C,h0,h1,h2,by omega,by omega,h5,h6,?_,?_⟩
 ·show -x.p*_=_
  rw [Rat.intCast_neg];grind
 show x.r*_=_
 rw [h8,Rat.intCast_neg];grind
theorem ng_ht {M L B:Rat} {x:Qn} (h:Ht M L B x):Ht M L B x.ng:=by
 obtain⟨i,hi⟩:=h.m;have lo:=h.lo;have hi':=h.hi;refine ⟨ng_ok h.ok,⟨-i,?_⟩,h.l,?_,?_,h.rt⟩
 ·show -x.p*M=_
  rw [Rat.intCast_neg,← hi];grind
 ·show -B ≤ -x.p
  grind
 show -x.p≤B
 grind
noncomputable def fuelQ (x y:Qn):Nat:=if h:∃ q:Rat,Above1 q x∧Below1 q y then h.choose.den else 0
noncomputable def ycx (x y:Qn):Rat :=
 if Above1 0 x∧Below1 0 y then 0
 else if ¬ Below1 0 y then -(simpF (fuelQ y.ng x.ng) y.ng x.ng)
 else simpF (fuelQ x y) x y
theorem wit_fuel {x y:Qn} (hx:x.Ok) (hy:y.Ok) (hn:¬ Above1 0 x) (h:Lt x y):∃ p,Wit x y p (fuelQ x y):=by
 have h':∃ q:Rat,Above1 q x∧Below1 q y:=h;unfold fuelQ;rw [dif_pos h'];obtain⟨h1,h2⟩:=h'.choose_spec;generalize h'.choose=q at *;have h0:=ycT hx hn h1;have hq:0≤q.num:=Rat.num_nonneg.2 (Rat.le_of_lt h0);obtain⟨p,hp⟩:=Int.eq_ofNat_of_zero_le hq
 have e:(p:Rat) / (q.den:Rat)=q:=by
  have:=Rat.num_divInt_den q;rw [hp,Rat.divInt_eq_div,Rat.intCast_natCast,Rat.intCast_natCast] at this;exact this
 exact ⟨p,q.den_pos,hx,hy,hn,by rw [e];exact h1,by rw [e];exact h2⟩
theorem yfh {x y:Qn} {p q n:Nat} (h:Wit x y p q) (hl:Lt x y) (hn:q≤n):simpF n x y=simpF (fuelQ x y) x y:=by
 obtain⟨p',h'⟩:=wit_fuel h.xo h.yo h.nn hl;rw [simpF_fuel n (n+fuelQ x y) p q x y hn (by omega) h,simpF_fuel (fuelQ x y) (n+fuelQ x y) p' _ x y (Nat.le_refl _) (by omega) h']
theorem simp_in {x y:Qn} {p q:Nat} (h:Wit x y p q) (hl:Lt x y):Above1 (simpF (fuelQ x y) x y) x∧Below1 (simpF (fuelQ x y) x y) y∧∃ a c:Nat,0<a∧0<c∧simpF (fuelQ x y) x y=(a:Rat) / (c:Rat)∧a≤p∧c≤q:=by
 rw [← yfh h hl (Nat.le_refl q)];exact simpF_ok q p q x y (Nat.le_refl q) h
theorem ydR {x y:Qn} (h:Lt x y):Lt y.ng x.ng:=by
 obtain⟨q,h1,h2⟩:=h;exact ⟨-q,by rw [yex,Rat.neg_neg];exact h2,by rw [yiI,Rat.neg_neg];exact h1⟩
theorem yix {m l b N:Nat} {x y:Qn} (hm:0<m) (hl0:0<l) (hb:0<b) (hx:Ht (m:Rat) (l:Rat) (b:Rat) x) (hy:Ht (m:Rat) (l:Rat) (b:Rat) y) (h:Lt x y) (hN:512*(b*b*b)*(m*m*(m*m)*(l*l))≤N) :
  Above1 (ycx x y) x∧Below1 (ycx x y) y∧(ycx x y).den≤N∧(ycx x y).num.natAbs≤2*b*N ∧
   (¬ Above1 0 x→∃ p q:Nat,Wit x y p q∧q=N∧p≤2*b*N)∧(¬ Below1 0 y→∃ p q:Nat,Wit y.ng x.ng p q∧q=N∧p≤2*b*N):=by
 have m1:(1:Rat)≤(m:Rat):=by have:=yaY (a:=1) (b:=(m:Int));rw [Rat.intCast_natCast] at this;exact this.2 (by omega)
 have l1:(1:Rat)≤(l:Rat):=by have:=yaY (a:=1) (b:=(l:Int));rw [Rat.intCast_natCast] at this;exact this.2 (by omega)
 have b1:(1:Rat)≤(b:Rat):=by have:=yaY (a:=1) (b:=(b:Int));rw [Rat.intCast_natCast] at this;exact this.2 (by omega)
 have hpos:0<512*(b*b*b)*(m*m*(m*m)*(l*l)):=by
  have a1:=Nat.mul_pos (Nat.mul_pos hb hb) hb;have a2:=Nat.mul_pos (Nat.mul_pos (Nat.mul_pos hm hm) (Nat.mul_pos hm hm)) (Nat.mul_pos hl0 hl0);exact Nat.mul_pos (Nat.mul_pos (by decide) a1) a2
 have hN0:0<N:=by omega
 have N1:(1:Rat)≤(N:Rat):=by have:=yaY (a:=1) (b:=(N:Int));rw [Rat.intCast_natCast] at this;exact this.2 (by omega)
 have hNr:512*((b:Rat)*b*b)*((m:Rat)*m*(m*m)*(l*l))≤(N:Rat):=by
  have:=yaY (a:=((512*(b*b*b)*(m*m*(m*m)*(l*l)):Nat):Int)) (b:=(N:Int));rw [Rat.intCast_natCast,Rat.intCast_natCast] at this;have h2:=this.2 (by omega);simp only [Rat.natCast_mul] at h2;exact h2
 have int:∀ a:Nat,∃ i:Int,(a:Rat)=(i:Rat):=fun a=>⟨a,(Rat.intCast_natCast a).symm⟩
 -- a fraction with this denominator
 have wit:∀ {x y:Qn},Ht (m:Rat) (l:Rat) (b:Rat) x→Ht (m:Rat) (l:Rat) (b:Rat) y→Lt x y → ¬ Above1 0 x→∃ p q:Nat,Wit x y p q∧q=N∧p≤2*b*N:=by
  intro x y hx hy h hn;obtain⟨i,h1,h2,h3,h4⟩:=sep_num m1 l1 b1 (int m) (int l) hx hy h hNr N1;have h0:=ycT hx.ok hn h1;rw [Rat.lt_div_iff (by grind)] at h0;have hi:0<i:=ycs.1 (by have:((0:Int):Rat)=0:=rfl;grind);obtain⟨p,rfl⟩:=Int.eq_ofNat_of_zero_le (Int.le_of_lt hi);rw [Rat.intCast_natCast] at h1 h2 h4;refine ⟨p,N,⟨hN0,hx.ok,hy.ok,hn,h1,h2⟩,rfl,?_⟩;have:=yaY (a:=(p:Int)) (b:=((2*b*N:Nat):Int));rw [Rat.intCast_natCast,Rat.intCast_natCast,Rat.natCast_mul,Rat.natCast_mul] at this;have:=this.1 h4;omega
 have size:∀ {s:Rat} {a c:Nat},0<c→s=(a:Rat) / (c:Rat)→a≤2*b*N→c≤N→s.den≤N∧s.num.natAbs≤2*b*N:=by
  intro s a c hc hs ha hcN;have e:s=Rat.divInt (a:Int) (c:Int):=by rw [Rat.divInt_eq_div,Rat.intCast_natCast,Rat.intCast_natCast];exact hs
  have hgp:0<Int.gcd (a:Int) (c:Int):=Int.gcd_pos_of_ne_zero_right _ (by omega);constructor
  ·rw [e,Rat.den_divInt,if_neg (by omega),Int.natAbs_natCast]
   exact Nat.le_trans (Nat.div_le_self _ _) hcN
  rw [e,Rat.num_divInt,Int.sign_eq_one_of_pos (by omega),Int.one_mul];rw [Int.natAbs_ediv_of_dvd (by rw [Int.gcd_comm];exact Int.gcd_dvd_left _ _)];exact Nat.le_trans (Nat.div_le_self _ _) (by rw [Int.natAbs_natCast];exact ha)
 refine and_assoc.1 (and_assoc.1 (and_assoc.1 ⟨?_,wit hx hy h,?_⟩))
 ·unfold ycx
  by_cases h0:Above1 0 x∧Below1 0 y
  ·rw [if_pos h0]
   refine ⟨⟨⟨h0.1,h0.2⟩,?_⟩,?_⟩
   ·show (1:Nat)≤N;omega
   show (0:Nat)≤_;omega
  rw [if_neg h0];by_cases h1:¬ Below1 0 y
  ·rw [if_pos h1]
   have hn:¬ Above1 0 y.ng:=by rw [yex,Rat.neg_zero];exact h1
   obtain⟨p,q,hw,rfl,hp⟩:=wit (ng_ht hy) (ng_ht hx) (ydR h) hn;obtain⟨s1,s2,a,c,ha,hc,hs,hap,hcq⟩:=simp_in hw (ydR h);generalize simpF (fuelQ y.ng x.ng) y.ng x.ng=s at *;rw [yex] at s1;rw [yiI] at s2;obtain⟨d1,d2⟩:=size hc hs (by omega) (by omega);refine ⟨⟨⟨s2,s1⟩,?_⟩,?_⟩
   ·rw [Rat.neg_den];exact d1
   rw [Rat.neg_num,Int.natAbs_neg];exact d2
  rw [if_neg h1];have hn:¬ Above1 0 x:=fun e=>h0 ⟨e,Classical.not_not.1 h1⟩;obtain⟨p,q,hw,rfl,hp⟩:=wit hx hy h hn;obtain⟨s1,s2,a,c,ha,hc,hs,hap,hcq⟩:=simp_in hw h;obtain⟨d1,d2⟩:=size hc hs (by omega) (by omega);exact ⟨⟨⟨s1,s2⟩,d1⟩,d2⟩
 intro h1;have hn:¬ Above1 0 y.ng:=by rw [yex,Rat.neg_zero];exact h1
 exact wit (ng_ht hy) (ng_ht hx) (ydR h) hn
end
section
variable {P:Program} {ops:Array Oper} {md:Region.Mode} {S:World→Prop} {Q:Exit→Act→World→Prop}
def heldN (P:Program) (md:Region.Mode) (ops:Array Oper) (Q:Exit→Act→World→Prop) (S:World→Prop) (n:Nat) (L:Array Bool→Act→World→Prop):Nat→Array Bool→Act→World→Prop
 | 0,listed,a,w=>∀ U,Keep [] w U→L listed a U
 | f+1,listed,a,w=>∀ U,Keep [] w U →
  (∃ i o v,ops[i]? = some o∧i<n∧Region.free md ops listed i=true∧(Region.ready md ops listed).contains i=true∧YieldsIf P ops S o v a∧S U∧heldN P md ops Q S n L f (listed.setIfInBounds i true) (a.put o.dst v) U) ∨
  (Region.ready md ops listed≠[]∧∀ i∈Region.ready md ops listed,i<n∧wpOp P ops Q i (fun a' w'=>S w'∧Keep [] U w'∧heldN P md ops Q S n L f (listed.setIfInBounds i true) a' w') a U)
def heldM (P:Program) (md:Region.Mode) (ops:Array Oper) (Q:Exit→Act→World→Prop) (S:World→Prop) (n:Nat) (L:Array Bool→Act→World→Prop):Nat→Array Bool→Act→World→Prop
 | 0,listed,a,w=>∀ U,Keep [] w U→L listed a U
 | f+1,listed,a,w=>∀ U,Keep [] w U→Region.ready md ops listed≠[]∧∀ i∈Region.ready md ops listed,i<n∧wpOp P ops Q i (fun a' w'=>S w'∧Keep [] U w'∧heldM P md ops Q S n L f (listed.setIfInBounds i true) a' w') a U
theorem heldM.later {n:Nat} {L:Array Bool→Act→World→Prop}:∀ {f:Nat} {listed:Array Bool} {a:Act} {w U:World},heldM P md ops Q S n L f listed a w→Keep [] w U→heldM P md ops Q S n L f listed a U
 | 0,_,_,_,_,h,hU=>fun V hV=>h V (hU.tz hV)
 | _+1,_,_,_,_,h,hU=>fun V hV=>h V (hU.tz hV)
theorem wpOp_over {j:Nat} {oj:Oper} {d:Tmp} {v:Value} (hj:ops[j]? = some oj) (h1:d ∉ oj.looksAt ops) (h2:oj.dst≠some d) (hsj:∀ cs b,oj.op ≠ .select cs b)
  (hQ:∀ c a w,Q (.panic c) a w→Q (.panic c) (a.put (some d) v) w) {K:Act→World→Prop} {a:Act} {w:World} (h:wpOp P ops Q j K a w) :
  wpOp P ops Q j (fun a' w'=>∃ b,a'=b.put (some d) v∧K b w') (a.put (some d) v) w:=by
 have h1':∀ e,some d=some e→e ∉ oj.looksAt ops:=fun e he=>by injection he with he;subst he;exact h1
 have h2':∀ e,some d=some e→oj.dst≠some e:=fun e he=>by injection he with he;subst he;exact h2
 unfold wpOp at *;simp only [hj] at *;rw [wanted_put oj a (some d) v h1'];split
 ·rename_i hw
  simp only [hw,if_true] at h;rcases h with h|⟨hasks,hlets⟩
  case inr=>exact .inr ⟨by unfold Oper.asks at *;rw [execOp_put oj hsj a (some d) v h1'];exact hasks,hlets⟩
  refine .inl ?_;unfold Oper.wp at *;rw [execOp_put oj hsj a (some d) v h1'];generalize (execOp a.eval oj).run P w=r at *;cases r with
  | ok n w' =>
   cases n<;>simp only [Oper.upon] at h ⊢
   case value u=>exact ⟨_,Act.put_comm a v u h2',h⟩
   case skip=>exact ⟨_,Act.put_comm a v undef h2',h⟩
   case defer e =>
    have h3:({ (a.put (some d) v) with defers:=e :: (a.put (some d) v).defers }:Act)=({ a with defers:=e :: a.defers }:Act).put (some d) v:=Act.put_defers a (some d) v e;refine ⟨_,?_,h⟩;rw [← Act.put_comm _ v undef h2',← h3]
   case enter f args =>
    refine Calls.mono h fun e w'' he=>?_;cases e with
    | returned u=>exact ⟨_,Act.put_comm a v u h2',he⟩
    | panicked c=>exact hQ _ _ _ he
    | outgrown=>exact he
   case row row args=>exact Rows.mono h fun u w'' he=>⟨_,Act.put_comm a v u h2',he⟩
  | halt x w' =>
   cases x<;>simp only [Oper.upon] at h ⊢
   case panic u=>exact hQ _ _ _ h
 rename_i hw;simp only [hw] at h;exact ⟨_,Act.put_comm a v undef h2',h⟩
theorem wpOp_pl {j:Nat} {oj:Oper} (hj:ops[j]? = some oj) (hsj:∀ cs b,oj.op ≠ .select cs b) (hQ:∀ c a d v w,Q (.panic c) a w→Q (.panic c) (Act.put a d v) w) {K:Act→World→Prop} {w:World} :
  ∀ (L:List (Tmp × Nat)) (a:Act),(∀ d∈L.map (·.1),d ∉ oj.looksAt ops∧oj.dst≠some d)→wpOp P ops Q j K a w→wpOp P ops Q j (fun a' w'=>∃ b,a'=pl L b∧K b w') (pl L a) w
 | [],a,_,h=>wpOp_mono (fun a' w' h'=>⟨a',rfl,h'⟩) h
 | (d,g) :: L,a,hL,h=>by
  have ih:=wpOp_pl hj hsj hQ L a (fun e he=>hL e (by simp at he ⊢;exact .inr he)) h;have hd:=hL d (by simp);refine wpOp_mono ?_ (wpOp_over (v:=.pointer (some ⟨g,0,none⟩)) hj hd.1 hd.2 hsj (fun c a w h=>hQ c a _ _ w h) ih);rintro a' w' ⟨b,rfl,c,rfl,hc⟩;exact ⟨c,rfl,hc⟩
theorem unal_dst (o:Oper):(unal o).dst=o.dst:=by unfold unal;split<;>rfl
theorem ygs (tmps:Array Value):yielded (ops.map unal) tmps=yielded ops tmps:=by
 funext i
 unfold yielded;rw [Array.getElem?_map];cases ops[i]? with
 | none=>rfl
 | some o=>simp [unal_dst]
theorem wpOp_unal {i:Nat} {o:Oper} (ho:ops[i]? = some o) (hal:isAl o=false) {K:Act→World→Prop} {a:Act} {w:World} (h:wpOp P (ops.map unal) Q i K a w):wpOp P ops Q i K a w:=by
 have ho':(ops.map unal)[i]? = some o:=by
  rw [Array.getElem?_map,ho];have:unal o=o:=by unfold unal;rw [hal];rfl
  simp [this]
 unfold wpOp at *;simp only [ho,ho'] at *;rw [ygs] at h;exact h
theorem yiQ {i:Nat} {o:Oper} (ho:ops[i]? = some o) (hal:isAl o=true) (hg:o.guard=none) {K:Act→World→Prop} {a:Act} {w:World} (h:wpOp P (ops.map unal) Q i K a w):K (a.put o.dst undef) w:=by
 have h2:unal o = { o with op:=.move (.const undef) }:=by unfold unal;rw [if_pos hal]
 have ho':(ops.map unal)[i]? = some { o with op:=.move (.const undef) }:=by rw [Array.getElem?_map,ho,← h2];rfl
 unfold wpOp at h;simp only [ho'] at h;rw [if_pos (by simp [Region.wanted,hg])] at h;rcases h with h|⟨h,_⟩
 ·unfold Oper.wp execOp at h
  simpa [Sem.run_pure,Oper.upon,Act.eval] using h
 exfalso;unfold Oper.asks execOp at h;simp [Sem.run_pure] at h
 exact absurd h (by
  show ¬ noRoomEvent∈(#[]:Array Event)
  simp)
structure ACon (P:Program) (D:Tmp→Option Obj) (ops:Array Oper) (n:Nat):Prop where
 al:∀ i o,i<n→ops[i]? = some o→isAl o=true→o.guard=none∧∃ d z,o.dst=some d∧D d=some z∧∀ ev w,(execOp ev o).run P w = .ok (.value (.pointer (some ⟨w.heap.size,0,none⟩))) (w.alloc z)
 qu:∀ i o,i<n→ops[i]? = some o→isAl o=false→(∀ cs b,o.op ≠ .select cs b)∧∀ d,(D d).isSome=true→d ∉ o.looksAt ops∧o.dst≠some d
 ap:∀ i j o o' d,i<n→j<n→ops[i]? = some o→ops[j]? = some o'→isAl o=true→isAl o'=true→o.dst=some d→o'.dst=some d→i=j
def noSel (o:Oper):Bool:=match o.op with | .select ..=>false|_=>true
theorem yiU {o:Oper} (h:noSel o=true):∀ cs b,o.op ≠ .select cs b:=by
 intro cs b e;unfold noSel at h;rw [e] at h;cases h
def acN (ops:Array Oper) (n:Nat) (ds:List (Tmp × TypeId)):Bool :=
 decide ((List.range n).filterMap (yeq ops)=ds)&&decide ((ds.map (·.1)).Nodup) &&
 (List.range n).all fun i=>match ops[i]? with
  | some o=>if isAl o then o.guard.isNone&&o.dst.isSome else (noSel o&&(ds.map (·.1)).all fun d=>!(o.looksAt ops).contains d&&o.dst != some d)
  | none=>true
theorem heldN.later {n:Nat} {L:Array Bool→Act→World→Prop}:∀ {f:Nat} {listed:Array Bool} {a:Act} {w U:World},heldN P md ops Q S n L f listed a w→Keep [] w U→heldN P md ops Q S n L f listed a U
 | 0,_,_,_,_,h,hU=>fun V hV=>h V (hU.tz hV)
 | _+1,_,_,_,_,h,hU=>fun V hV=>h V (hU.tz hV)
end
def Bl (w w':World):Prop:=Below w.heap.size w w'
theorem Bl.refl (w:World):Bl w w:=Below.refl _ _
theorem Bl.trans {a b c:World} (h:Bl a b) (k:Bl b c):Bl a c:=Below.trans h (Below.mono k h.size)
theorem Bl.of {w w':World} (h:Keep [] w w'):Bl w w':=h.bz
theorem Bl.alloc (w:World) (z:Obj):Bl w (w.alloc z):=(Keep.alloc [] w z).bz
theorem Bl.drew (w:World):Bl w w.drew:=(Keep.drew [] w).bz
theorem Bl.size {w w':World} (h:Bl w w'):w.heap.size≤w'.heap.size:=Below.size h
theorem Bl.heap {w w':World} (h:Bl w w') {g:Nat} {o:Obj} (hg:w.heap[g]? = some o):w'.heap[g]? = some o:=(Below.block h g (yaa hg)).trans hg
structure BInv (W:World) (D:Tmp→Option Obj) (ops:Array Oper) (n:Nat) (listed:Array Bool) (L:List (Tmp × Nat)) (w:World):Prop where
 keep:Bl W w
 heap:∀ e∈L,∃ z,D e.1=some z∧w.heap[e.2]? = some z∧W.heap.size≤e.2
 nd:(L.map (·.1)).Nodup
 ndb:(L.map (·.2)).Nodup
 cover:∀ i o d,i<n→ops[i]? = some o→isAl o=true→o.dst=some d→(listed.getD i false=true↔d∈L.map (·.1))
 size:listed.size=ops.size
section
variable {P:Program} {ops:Array Oper} {md:Region.Mode} {S:World→Prop} {Q:Exit→Act→World→Prop}
def ycw (P:Program) (md:Region.Mode) (ops:Array Oper) (Q:Exit→Act→World→Prop) (S:World→Prop) (n:Nat) (L:Array Bool→Act→World→Prop):Nat→Array Bool→Act→World→Prop
 | 0,listed,a,w=>∀ U,Bl w U→L listed a U
 | f+1,listed,a,w=>∀ U,Bl w U →
  (∃ i o v,ops[i]? = some o∧i<n∧Region.free md ops listed i=true∧(Region.ready md ops listed).contains i=true∧YieldsIf P ops S o v a∧S U∧ycw P md ops Q S n L f (listed.setIfInBounds i true) (a.put o.dst v) U) ∨
  (Region.ready md ops listed≠[]∧∀ i∈Region.ready md ops listed,i<n∧wpOp P ops Q i (fun a' w'=>S w'∧Bl U w'∧ycw P md ops Q S n L f (listed.setIfInBounds i true) a' w') a U)
def ygR (P:Program) (md:Region.Mode) (ops:Array Oper) (Q:Exit→Act→World→Prop) (S:World→Prop) (n:Nat) (L:Array Bool→Act→World→Prop):Nat→Array Bool→Act→World→Prop
 | 0,listed,a,w=>∀ U,Bl w U→L listed a U
 | f+1,listed,a,w=>∀ U,Bl w U→Region.ready md ops listed≠[]∧∀ i∈Region.ready md ops listed,i<n∧wpOp P ops Q i (fun a' w'=>S w'∧Bl U w'∧ygR P md ops Q S n L f (listed.setIfInBounds i true) a' w') a U
theorem ygR.later {n:Nat} {L:Array Bool→Act→World→Prop}:∀ {f:Nat} {listed:Array Bool} {a:Act} {w U:World},ygR P md ops Q S n L f listed a w→Bl w U→ygR P md ops Q S n L f listed a U
 | 0,_,_,_,_,h,hU=>fun V hV=>h V (hU.trans hV)
 | _+1,_,_,_,_,h,hU=>fun V hV=>h V (hU.trans hV)
theorem yhV {n i:Nat} {oi:Oper} {v:Value} {L:Array Bool→Act→World→Prop} (hi:ops[i]? = some oi) (hsel:∀ (j:Nat) (o:Oper) cs b,ops[j]? = some o→o.op ≠ .select cs b)
  (hQ:∀ c a w,Q (.panic c) (a.put oi.dst v) w→Q (.panic c) a w) (hSk:∀ w U,S w→Bl w U→S U)
  (hs:Region.sinkB md ops n=true) (hc:Region.chainB md ops n=true) (hn:n<ops.size) (hin:i<n)
  (hdone:∀ listed a w,L listed a w→∀ j∈Region.ready md ops listed,n≤j) :
  ∀ (f:Nat) (listed:Array Bool) (a:Act) (w:World),HeadInv md ops n listed →
   (∀ j oj,ops[j]? = some oj→j≠i→listed.getD j true=false→(∀ e∈oj.after,Region.binds md e=true→e.on≠i)→oi.apart ops oj=true) →
   i∈Region.ready md ops listed→YieldsIf P ops S oi v a→S w →
   ygR P md ops Q S n L f (listed.setIfInBounds i true) (a.put oi.dst v) w→ygR P md ops Q S n L (f+1) listed a w:=by
 intro f;induction f with
 | zero =>
  intro listed a w inv _ hr hy hS H U hU;refine ⟨fun h=>(by rw [h] at hr;cases hr),fun j hj=>?_⟩
  have hjn:j<n:=by
   rcases Nat.lt_or_ge j n with h|h
   ·exact h
   exact absurd hj (tail_waits hs hc hn inv _ i rfl hin (mem_ready.1 hr).1 j h)
  refine ⟨hjn,?_⟩;by_cases hji:j=i
  ·subst hji;exact hy.wpOp hi (hSk _ _ hS hU) ⟨hSk _ _ hS hU,Bl.refl _,H.later hU⟩
  have:=hdone _ _ _ (H w (Bl.refl _)) j (ready_mono hj hji);omega
 | succ f ih =>
  intro listed a w inv hfree hr hy hS H U hU;have hSU:=hSk _ _ hS hU;have hun:=(mem_ready.1 hr).1;refine ⟨fun h=>(by rw [h] at hr;cases hr),fun j hj=>?_⟩
  have hjn:j<n:=by
   rcases Nat.lt_or_ge j n with h|h
   ·exact h
   exact absurd hj (tail_waits hs hc hn inv _ i rfl hin hun j h)
  refine ⟨hjn,?_⟩;by_cases hji:j=i
  ·subst hji;exact hy.wpOp hi hSU ⟨hSU,Bl.refl _,H.later hU⟩
  have h1:=((H U hU).2 j (ready_mono hj hji)).2;obtain⟨hjun,oj,hoj,hall⟩:=mem_ready.1 hj
  have hnot:∀ e∈oj.after,Region.binds md e=true→e.on≠i:=fun e he hb heq=>by
   have h1:=hall e he hb;rw [heq,getD_both hun] at h1;cases h1
  have h2:=wpOp_putIf hoj (hfree j oj hoj hji hjun hnot) (fun cs b=>hsel i oi cs b hi) (fun cs b=>hsel j oj cs b hoj) hQ hy h1
  have hfree' : ∀ k ok, ops[k]? = some ok → k ≠ i → (listed.setIfInBounds j true).getD k true = false →
    (∀ e∈ok.after,Region.binds md e=true→e.on≠i)→oi.apart ops ok=true:=fun k ok hk hki hun hno=>by
   refine hfree k ok hk hki ?_ hno;by_cases hjk:j=k
   ·subst hjk;exact hjun
   rw [getD_set_ne true hjk] at hun;exact hun
  refine wpOp_mono (fun a' w' h3=>⟨h3.2.1,h3.2.2.1,ih (listed.setIfInBounds j true) a' w' (inv.set hj hjn) hfree' (ready_mono hr (Ne.symm hji)) h3.1 h3.2.1 ?_⟩) h2;rw [Array.setIfInBounds_comm _ _ hji];exact h3.2.2.2
theorem yfm {n:Nat} {L:Array Bool→Act→World→Prop} (hsel:Region.noSelect ops=true) (hQ:∀ c a d v w,Q (.panic c) (Act.put a d v) w→Q (.panic c) a w) (hSk:∀ w U,S w→Bl w U→S U)
  (hs:Region.sinkB md ops n=true) (hc:Region.chainB md ops n=true) (hn:n<ops.size) (hdone:∀ listed a w,L listed a w→∀ j∈Region.ready md ops listed,n≤j) :
  ∀ (f:Nat) (listed:Array Bool) (a:Act) (w:World),HeadInv md ops n listed→ycw P md ops Q S n L f listed a w→ygR P md ops Q S n L f listed a w
 | 0,_,_,_,_,h=>h
 | f+1,listed,a,w,inv,h=>by
  intro U hU;rcases h U hU with ⟨i,o,v,ho,hi,hf,hr,hy,hS,hrest⟩|⟨hne,hall⟩
  ·have hr':i∈Region.ready md ops listed:=by simpa using hr
   exact yhV ho (Region.noSelect_spec hsel) (fun c a w h=>hQ c _ _ _ w h) hSk hs hc hn hi hdone f listed a U inv (Region.free_spec ho hf) hr' hy hS
    (yfm hsel hQ hSk hs hc hn hdone f _ _ _ (inv.set hr' hi) hrest) U (Bl.refl _)
  exact ⟨hne,fun i hi=>⟨(hall i hi).1,wpOp_mono (fun a' w' h'=>⟨h'.1,h'.2.1,yfm hsel hQ hSk hs hc hn hdone f _ _ _ (inv.set hi (hall i hi).1) h'.2.2⟩) (hall i hi).2⟩⟩
theorem simB {W:World} {D:Tmp→Option Obj} {n g:Nat} {L:Array Bool→Act→World→Prop} (hC:ACon P D ops n) (hQ:∀ c a d v w,Q (.panic c) a w→Q (.panic c) (Act.put a d v) w)
  (hL:∀ listed a Lp w,BInv W D ops n listed Lp w→HeadInv md (ops.map unal) n listed→L listed a w→wpAny P md ops Q g listed (pl Lp a) w) :
  ∀ (f:Nat) (listed:Array Bool) (a:Act) (Lp:List (Tmp × Nat)) (w:World),BInv W D ops n listed Lp w→HeadInv md (ops.map unal) n listed →
   ygR P md (ops.map unal) Q S n L f listed a w→wpAny P md ops Q (f+g) listed (pl Lp a) w
 | 0,listed,a,Lp,w,inv,hI,H=>by rw [Nat.zero_add];exact hL _ _ _ _ inv hI (H w (Bl.refl _))
 | f+1,listed,a,Lp,w,inv,hI,H=>by
  rw [show f+1+g=(f+g)+1 by omega]
  have HW:=H w (Bl.refl _);refine ⟨fun h0=>absurd (by rw [ybT];exact h0) HW.1,fun i hi=>?_⟩;have hi':i∈Region.ready md (ops.map unal) listed:=by rw [ybT];exact hi
  obtain⟨hun,o,ho,_⟩:=mem_ready.1 hi;obtain⟨hin,hop⟩:=HW.2 i hi';have hlt:i<ops.size:=(Array.getElem?_eq_some_iff.1 ho).1
  have hunf:listed.getD i false=false:=by
   have hs:=inv.size;simp [show i<listed.size by omega] at hun ⊢
   exact hun
  have hset:∀ j,j≠i→(listed.setIfInBounds i true).getD j false=listed.getD j false:=fun j hj=>by
   simp [Array.getElem?_setIfInBounds_ne (Ne.symm hj)]
  have hseti:(listed.setIfInBounds i true).getD i false=true:=by
   simp [show i<listed.size by rw [inv.size];exact hlt]
  cases hal:isAl o with
  | true =>
   obtain⟨hg,d,z,hd,hz,hrun⟩:=hC.al i o hin ho hal;obtain⟨_,_,hnext⟩:=yiQ ho hal hg hop;unfold wpOp;simp only [ho];rw [if_pos (by simp [Region.wanted,hg])];refine .inl ?_;unfold Oper.wp;rw [hrun];simp only [Oper.upon];rw [hd] at hnext ⊢
   have hdL:d ∉ Lp.map (·.1):=fun hm=>by
    have:=(inv.cover i o d hin ho hal hd).2 hm;rw [hunf] at this;cases this
   have e:(pl Lp a).put (some d) (.pointer (some ⟨w.heap.size,0,none⟩))=pl ((d,w.heap.size) :: Lp) (a.put (some d) undef):=by
    rw [pl_over _ _ _ _ _ hdL];rfl
   rw [e];refine simB hC hQ hL f _ _ _ _ ⟨inv.keep.trans (Bl.alloc w z),?_,?_,?_,?_,by simp [inv.size]⟩ (hI.set hi' hin) (hnext.later (Bl.alloc w z))
   ·intro x hx
    rcases List.mem_cons.1 hx with rfl|hx
    ·exact ⟨z,hz,World.alloc_heap_new w z,inv.keep.size⟩
    obtain⟨z',h1,h2,h3⟩:=inv.heap x hx;exact ⟨z',h1,(Bl.alloc w z).heap h2,h3⟩
   ·simp only [List.map_cons,List.nodup_cons];exact ⟨hdL,inv.nd⟩
   ·simp only [List.map_cons,List.nodup_cons]
    refine ⟨fun hm=>?_,inv.ndb⟩;obtain⟨x,hx,hxe⟩:=List.mem_map.1 hm;obtain⟨z',_,h2,_⟩:=inv.heap x hx;have:=yaa h2;omega
   intro j oj dj hj hoj hjal hdj;by_cases hji:j=i
   ·subst hji
    have:oj=o:=Option.some.inj (hoj.symm.trans ho);subst this;rw [hd] at hdj;injection hdj with hdj;subst hdj;rw [hseti];simp
   rw [hset j hji,inv.cover j oj dj hj hoj hjal hdj];simp only [List.map_cons,List.mem_cons];constructor
   ·exact fun h=>.inr h
   rintro (h|h)
   ·subst h
    exact absurd (hC.ap j i oj o dj hj hin hoj ho hjal hal hdj hd) hji
   exact h
  | false =>
   obtain⟨hsel,hlook⟩:=hC.qu i o hin ho hal
   have hDm:∀ d∈Lp.map (·.1),(D d).isSome=true:=fun d hd=>by
    obtain⟨x,hx,hxe⟩:=List.mem_map.1 hd;obtain⟨z,h1,_⟩:=inv.heap x hx;rw [← hxe,h1];rfl
   refine wpOp_mono ?_ (wpOp_pl ho hsel hQ Lp a (fun d hd=>hlook d (hDm d hd)) (wpOp_unal ho hal hop));rintro a' w' ⟨b,rfl,_,hk,hn⟩;refine simB hC hQ hL f _ _ _ _ ⟨inv.keep.trans hk,?_,inv.nd,inv.ndb,?_,by simp [inv.size]⟩ (hI.set hi' hin) hn
   ·intro x hx
    obtain⟨z',h1,h2,h3⟩:=inv.heap x hx;exact ⟨z',h1,hk.heap h2,h3⟩
   intro j oj dj hj hoj hjal hdj;by_cases hji:j=i
   ·subst hji
    have:oj=o:=Option.some.inj (hoj.symm.trans ho);subst this;rw [hal] at hjal;cases hjal
   rw [hset j hji];exact inv.cover j oj dj hj hoj hjal hdj
theorem yeg {n:Nat} {L L':Array Bool→Act→World→Prop} (hL:∀ listed a w,L listed a w→L' listed a w):∀ (f:Nat) (listed:Array Bool) (a:Act) (w:World),ycw P md ops Q S n L f listed a w→ycw P md ops Q S n L' f listed a w
 | 0,_,_,_,h=>fun U hU=>hL _ _ _ (h U hU)
 | f+1,listed,a,w,h=>by
  intro U hU;rcases h U hU with ⟨i,o,v,ho,hi,hf,hr,hy,hS,hrest⟩|⟨hne,hall⟩
  ·exact .inl ⟨i,o,v,ho,hi,hf,hr,hy,hS,yeg hL f _ _ _ hrest⟩
  exact .inr ⟨hne,fun i hi=>⟨(hall i hi).1,wpOp_mono (fun a' w' h'=>⟨h'.1,h'.2.1,yeg hL f _ _ _ h'.2.2⟩) (hall i hi).2⟩⟩
theorem yep {id:Nat} {a:Act} {w:World} {l:List Oper} (n:Nat) (D:Tmp→Option Obj) (ds:List Tmp) (hm:P.follows .mixedOrders=true)
  (hB:(Region.noSelect (l.map unal).toArray&&decide (n<(l.map unal).toArray.size)&&Region.sinkB .any (l.map unal).toArray n&&Region.chainB .any (l.map unal).toArray n)=true)
  (hC:ACon P D l.toArray n) (hds:ds.Nodup) (hD:∀ d,(D d).isSome=true↔d∈ds) (hall:∀ d∈ds,∃ i o,i<n∧l.toArray[i]? = some o∧isAl o=true∧o.dst=some d)
  (hQ:∀ c a d v w,Q (.panic c) (Act.put a d v) w→Q (.panic c) a w) (hQ2:∀ c a d v w,Q (.panic c) a w→Q (.panic c) (Act.put a d v) w) (hSk:∀ w U,S w→Bl w U→S U)
  (h:ycw P .any (l.map unal).toArray Q S n (fun listed' a' w'=>Region.seqB .any (l.map unal).toArray (l.toArray.size-n) n listed'=true∧∀ p:Tmp→Nat,(∀ d∈ds,w.heap.size≤p d)→(∀ d∈ds,∀ e∈ds,p d=p e→d=e)→Bl w w'→(∀ d∈ds,∀ z,D d=some z→w'.heap[p d]? = some z)→wpList P l.toArray Q (l.drop n) (pl (ds.map fun d=>(d,p d)) a') w') n (Array.replicate l.toArray.size false) a w.drew) :
  (Code.region id l.toArray true).wp P Q a w:=by
 simp only [Bool.and_eq_true,decide_eq_true_eq] at hB;obtain⟨⟨⟨hsel,hn⟩,hs⟩,hc⟩:=hB;have hn':n<l.length:=by simpa using hn
 have hmap:(l.map unal).toArray=l.toArray.map unal:=by simp
 have hdl:(l.drop n).length=l.toArray.size-n:=by simp
 have inv0:HeadInv .any (l.map unal).toArray n (Array.replicate l.toArray.size false) :=
  ⟨by simp,fun j oj _ hl=>(by rw [getD_replicate_false] at hl;cases hl),fun t _ ht=>getD_in (by simpa using ht) (getD_replicate_false _ _)⟩
 have H:=yfm hsel hQ hSk hs hc hn (fun listed a w hL=>seqB_ready hL.1) n _ a _ inv0 h;refine wp_region_any hm ?_;rw [hmap] at H
 have hsim:=simB (P:=P) (md:=.any) (S:=S) (Q:=Q) (W:=w) (ops:=l.toArray) (D:=D) (n:=n) (g:=l.toArray.size-n) hC hQ2
  (fun listed a' L w' inv hI hL=>by
   rw [← hmap] at hI;obtain⟨hseq,hq⟩:=hL;rw [← hmap] at hseq
   -- all the head has come up
   have hdone:∀ i,i<n→listed.getD i false=true:=fun i hi=>by
    cases hb:listed.getD i true with
    | true =>
     have hs2:=inv.size;have:i<l.toArray.size:=by simp;omega
     simp [show i<listed.size by omega] at hb ⊢
     exact hb
    | false =>
     exfalso;have hw:=tail_waits hs hc hn hI _ i rfl hi hb n (Nat.le_refl _);obtain⟨g,hg⟩:∃ g,l.toArray.size-n=g+1:=⟨l.toArray.size-n-1,by simp at hn ⊢;omega⟩;rw [hg] at hseq;simp only [Region.seqB,Bool.and_eq_true,decide_eq_true_eq] at hseq;rw [hseq.1] at hw;simp at hw
   have hmem:∀ d,d∈L.map (·.1)↔d∈ds:=fun d=>by
    constructor
    ·intro hd
     obtain⟨x,hx,hxe⟩:=List.mem_map.1 hd;obtain⟨z,h1,_⟩:=inv.heap x hx;rw [← hD,← hxe,h1];rfl
    intro hd;obtain⟨i,o,hi,ho,hal,hod⟩:=hall d hd;exact (inv.cover i o d hi ho hal hod).1 (hdone i hi)
   have hlk:=lookup_mem L inv.nd
   have hLe:L=(L.map (·.1)).map fun d=>(d,(L.lookup d).getD 0):=by
    rw [List.map_map];conv=>lhs;rw [← List.map_id L]
    apply List.map_congr_left;intro x hx;show x=(x.1,(L.lookup x.1).getD 0)
    rw [hlk x hx]
   have hpm:L.Perm (ds.map fun d=>(d,(L.lookup d).getD 0)):=by
    have:=(nodup_perm inv.nd hds hmem).map (fun d=>(d,(L.lookup d).getD 0));rwa [← hLe] at this
   have hget:∀ d∈ds,∃ x∈L,x.1=d∧(L.lookup d).getD 0=x.2:=fun d hd=>by
    obtain⟨x,hx,hxe⟩:=List.mem_map.1 ((hmem d).2 hd);exact ⟨x,hx,hxe,by rw [← hxe];exact hlk x hx⟩
   rw [pl_perm hpm inv.nd]
   have hwl:=hq (fun d=>(L.lookup d).getD 0) (fun d hd=>by
    obtain⟨x,hx,hxe,e⟩:=hget d hd;obtain⟨z,_,_,h3⟩:=inv.heap x hx;show w.heap.size≤(L.lookup d).getD 0
    rw [e];exact h3) (fun d hd e he hde=>by
    obtain⟨x,hx,hxe,ex⟩:=hget d hd;obtain⟨y,hy,hye,ey⟩:=hget e he;rw [ex,ey] at hde;have hxy:x=y:=snd_inj inv.ndb hx hy hde
    rw [← hxe,← hye,hxy]) inv.keep (fun d hd z hz=>by
    obtain⟨x,hx,hxe,e⟩:=hget d hd;obtain⟨z',h1,h2,_⟩:=inv.heap x hx;rw [hxe,hz] at h1;injection h1 with h1;subst h1;show w'.heap[(L.lookup d).getD 0]? = _
    rw [e];exact h2)
   have:=wpAny_of_seq (md:=.any) (Q':=Q) (l.drop n) n listed _ w' (fun j=>by simp [List.getElem?_drop]) (by rw [hdl,← yfi,← hmap];exact hseq) hwl
   rwa [hdl] at this) n (Array.replicate l.toArray.size false) a [] w.drew
  ⟨Bl.drew _,by simp,by simp,by simp,fun i o d _ _ _ _=>by rw [getD_replicate_false];simp,by simp⟩ (by rw [← hmap];exact inv0) H
 rw [show n+(l.toArray.size-n)=l.toArray.size by simp;omega] at hsim
 exact hsim
theorem yau {id:Nat} {a:Act} {w:World} {l:List Oper} (n:Nat) (ds:List (Tmp × TypeId)) (Z:TypeId→Obj) (hm:P.follows .mixedOrders=true) 
  (hB:(Region.noSelect (l.map unal).toArray&&decide (n<(l.map unal).toArray.size)&&Region.sinkB .any (l.map unal).toArray n&&Region.chainB .any (l.map unal).toArray n)=true)
  (hA:acN l.toArray n ds=true) (hz:∀ t∈ds.map (·.2),∀ (ev:Operand→Value) (w:World) (o:Oper),o.op = .alloc t→(execOp ev o).run P w = .ok (.value (.pointer (some ⟨w.heap.size,0,none⟩))) (w.alloc (Z t)))
  (hQ:∀ c a d v w,Q (.panic c) (Act.put a d v) w→Q (.panic c) a w) (hQ2:∀ c a d v w,Q (.panic c) a w→Q (.panic c) (Act.put a d v) w) (hSk:∀ w U,S w→Bl w U→S U)
  (h:ycw P .any (l.map unal).toArray Q S n (fun listed' a' w'=>Region.seqB .any (l.map unal).toArray (l.toArray.size-n) n listed'=true∧∀ p:Tmp→Nat,(∀ d∈ds.map (·.1),w.heap.size≤p d)→(∀ d∈ds.map (·.1),∀ e∈ds.map (·.1),p d=p e→d=e)→Bl w w'→(∀ e∈ds,w'.heap[p e.1]? = some (Z e.2))→wpList P l.toArray Q (l.drop n) (pl ((ds.map (·.1)).map fun d=>(d,p d)) a') w') n (Array.replicate l.toArray.size false) a w.drew) :
  (Code.region id l.toArray true).wp P Q a w:=by
 unfold acN at hA;simp only [Bool.and_eq_true,decide_eq_true_eq,List.all_eq_true,List.mem_range] at hA;obtain⟨⟨hf,hnd⟩,hall⟩:=hA
 have hin:∀ i o,i<n→l.toArray[i]? = some o→isAl o=true→∃ d t,o.dst=some d∧o.op = .alloc t∧yeq l.toArray i=some (d,t)∧(d,t)∈ds∧o.guard=none:=fun i o hi ho hal=>by
  have h1:=hall i hi;simp only [ho,hal,if_true,Bool.and_eq_true,Option.isNone_iff_eq_none,Option.isSome_iff_exists] at h1;obtain⟨hg,d,hd⟩:=h1;obtain⟨t,ht⟩:=al_form hal;have e:yeq l.toArray i=some (d,t):=by unfold yeq;simp only [ho,ht,hd]
  exact ⟨d,t,hd,ht,e,by rw [← hf];exact List.mem_filterMap.2 ⟨i,List.mem_range.2 hi,e⟩,hg⟩
 have hlk:∀ d t,(d,t)∈ds→ds.lookup d=some t:=fun d t hm=>by
  have:∀ L:List (Tmp × TypeId),(L.map (·.1)).Nodup→(d,t)∈L→L.lookup d=some t:=by
   intro L;induction L with
   | nil=>intro _ h;cases h
   | cons e L ih =>
    intro hn hm;obtain⟨e1,e2⟩:=e;simp only [List.map_cons,List.nodup_cons] at hn;rw [List.lookup_cons];rcases List.mem_cons.1 hm with h|h
    ·injection h with h1 h2
     subst h1 h2;simp
    have hne:¬ d=e1:=fun h'=>hn.1 (by rw [← h'];exact List.mem_map.2 ⟨(d,t),h,rfl⟩);have:(d == e1)=false:=by simpa using hne
    rw [this];exact ih hn.2 h
  exact this ds hnd hm
 have hlk2:∀ d t,ds.lookup d=some t→(d,t)∈ds:=fun d t hm=>by
  have:∀ L:List (Tmp × TypeId),L.lookup d=some t→(d,t)∈L:=by
   intro L;induction L with
   | nil=>intro h;cases h
   | cons e L ih =>
    obtain⟨e1,e2⟩:=e;intro h;rw [List.lookup_cons] at h;by_cases hd:(d == e1)=true
    ·rw [hd] at h
     simp only [beq_iff_eq] at hd;injection h with h;subst hd h;exact List.mem_cons_self
    have hd':(d == e1)=false:=by simpa using hd
    rw [hd'] at h;exact List.mem_cons_of_mem _ (ih h)
  exact this ds hm
 refine yep n (fun d=>(ds.lookup d).map Z) (ds.map (·.1)) hm hB ⟨?_,?_,?_⟩ hnd ?_ ?_ hQ hQ2 hSk ?_
 ·intro i o hi ho hal
  obtain⟨d,t,hd,ht,_,hmem,hg⟩:=hin i o hi ho hal;exact ⟨hg,d,Z t,hd,by rw [hlk d t hmem];rfl,fun ev w=>hz t (List.mem_map.2 ⟨(d,t),hmem,rfl⟩) ev w o ht⟩
 ·intro i o hi ho hal
  have h1:=hall i hi;simp only [ho,hal,Bool.and_eq_true,Bool.false_eq_true,if_false,List.all_eq_true] at h1;obtain⟨he,hd⟩:=h1;refine ⟨yiU he,fun d hs=>?_⟩;rw [Option.isSome_map,Option.isSome_iff_exists] at hs;obtain⟨t,ht⟩:=hs;have:=hd d (List.mem_map.2 ⟨(d,t),hlk2 d t ht,rfl⟩);simp at this;exact ⟨this.1,this.2⟩
 ·intro i j o o' d hi hj ho ho' hal hal' hd hd'
  obtain⟨d1,t1,e1,ht1,f1,m1,_⟩:=hin i o hi ho hal;obtain⟨d2,t2,e2,ht2,f2,m2,_⟩:=hin j o' hj ho' hal';rw [hd] at e1;injection e1 with e1;subst e1;rw [hd'] at e2;injection e2 with e2;subst e2
  -- two places in a list without repetition
  have key:∀ (r:List Nat),r.Nodup→((r.filterMap (yeq l.toArray)).map (·.1)).Nodup→i∈r→j∈r→i=j:=by
   intro r;induction r with
   | nil=>intro _ _ h;cases h
   | cons k r ih =>
    intro hn hm hi hj;simp only [List.nodup_cons] at hn;rcases List.mem_cons.1 hi with hi'|hi'<;>rcases List.mem_cons.1 hj with hj'|hj'
    ·rw [hi',hj']
    ·exfalso
     subst hi';rw [List.filterMap_cons,f1] at hm;simp only [List.map_cons,List.nodup_cons] at hm;exact hm.1 (List.mem_map.2 ⟨(d,t2),List.mem_filterMap.2 ⟨j,hj',f2⟩,rfl⟩)
    ·exfalso
     subst hj';rw [List.filterMap_cons,f2] at hm;simp only [List.map_cons,List.nodup_cons] at hm;exact hm.1 (List.mem_map.2 ⟨(d,t1),List.mem_filterMap.2 ⟨i,hi',f1⟩,rfl⟩)
    refine ih hn.2 ?_ hi' hj';rw [List.filterMap_cons] at hm;split at hm
    ·exact hm
    simp only [List.map_cons,List.nodup_cons] at hm;exact hm.2
  exact key (List.range n) List.nodup_range (by rw [hf];exact hnd) (List.mem_range.2 hi) (List.mem_range.2 hj)
 ·intro d
  rw [Option.isSome_map,Option.isSome_iff_exists];constructor
  ·rintro ⟨t,ht⟩;exact List.mem_map.2 ⟨(d,t),hlk2 d t ht,rfl⟩
  intro hd;obtain⟨x,hx,hxe⟩:=List.mem_map.1 hd;exact ⟨x.2,by rw [← hxe];exact hlk x.1 x.2 hx⟩
 ·intro d hd
  obtain⟨x,hx,hxe⟩:=List.mem_map.1 hd;rw [← hf] at hx;obtain⟨i,hi,hal⟩:=List.mem_filterMap.1 hx;rw [List.mem_range] at hi;unfold yeq at hal;split at hal
  ·rename_i o ho
   split at hal
   ·rename_i t ht
    split at hal
    ·rename_i d' hd'
     injection hal with hal;refine ⟨i,o,hi,ho,by unfold isAl;rw [ht],?_⟩;rw [hd',← hxe,← hal]
    cases hal
   cases hal
  cases hal
 refine yeg (fun listed a' w' hL=>⟨hL.1,fun p h1 h2 h3 h4=>hL.2 p h1 h2 h3 fun e he=>?_⟩) n _ a _ h;exact h4 e.1 (List.mem_map.2 ⟨e,he,rfl⟩) (Z e.2) (by rw [hlk e.1 e.2 he];rfl)
theorem ycw.later {n:Nat} {L:Array Bool→Act→World→Prop}:∀ {f:Nat} {listed:Array Bool} {a:Act} {w U:World},ycw P md ops Q S n L f listed a w→Bl w U→ycw P md ops Q S n L f listed a U
 | 0,_,_,_,_,h,hU=>fun V hV=>h V (hU.trans hV)
 | _+1,_,_,_,_,h,hU=>fun V hV=>h V (hU.trans hV)
theorem ygx {n f:Nat} {L:Array Bool→Act→World→Prop} {listed:Array Bool} {a:Act} {w:World} (i:Nat) {o:Oper} {v:Value} (ho:ops[i]? = some o) (hi:i<n) (hf:Region.free md ops listed i=true) (hr:(Region.ready md ops listed).contains i=true)
  (hg:Region.wanted o (yielded ops a.tmps)=true) (hS:S w) (hSk:∀ w U,S w→Bl w U→S U) (h1:∀ w,S w→(execOp a.eval o).run P w = .ok (.value v) w)
  (h2:∀ K:Act→Prop,(∀ a,ycw P md ops Q S n L f (listed.setIfInBounds i true) a w→K a)→K (a.put o.dst v)):ycw P md ops Q S n L (f+1) listed a w :=
 fun U hU=>.inl ⟨i,o,v,ho,hi,hf,hr,.inl ⟨hg,h1⟩,hSk _ _ hS hU,(h2 _ (fun _ h=>h)).later hU⟩
theorem heldB_one {n f:Nat} {L:Array Bool→Act→World→Prop} {listed:Array Bool} {a:Act} {w:World} (i:Nat) {o:Oper} (hr:Region.ready md ops listed=[i]) (hi:i<n) (ho:ops[i]? = some o) (hg:Region.wanted o (yielded ops a.tmps)=true)
  (h:∀ U,Bl w U→∀ K:Act→World→Prop,(∀ a w',S w'→Bl U w'→ycw P md ops Q S n L f (listed.setIfInBounds i true) a w'→K a w')→o.wp P a U K Q):ycw P md ops Q S n L (f+1) listed a w:=by
 intro U hU;refine .inr ⟨by rw [hr];simp,fun j hj=>?_⟩;rw [hr] at hj;obtain rfl:j=i:=by simpa using hj
 refine ⟨hi,?_⟩;unfold wpOp;simp only [ho];rw [if_pos hg];exact .inl (h U hU _ (fun _ _ h1 h2 h3=>⟨h1,h2,h3⟩))
end
end Go.Proofs.YtpgffjjpiafhpaaGreatDoor
