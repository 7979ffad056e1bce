/- Parts of a proof: Pv Sh Dv. -/
import Derived.Lib.ItoaNum
import Derived.RegionTactic
import Derived.ChangeAlike
import Derived.Deep.DeepCutAuto
import Derived.Deep.CutBlock
import Derived.Test.YtpgffjjpiafhpaaGreatDoorJ04
import Derived.Test.YtpgffjjpiafhpaaGreatDoorJ02
set_option linter.unusedVariables false
set_option linter.unusedSimpArgs false
set_option maxRecDepth 100000
set_option maxHeartbeats 8000000
namespace Go.Proofs.YtpgffjjpiafhpaaGreatDoor
open Go.RowKit Tryz
theorem kn_facts {B n Y R:Nat} (hB:2≤B) (hn:2≤n) (hY:Y<B ^ n) (hY2:B ^ n≤2*Y) (hR:R<Y*B) :
  ∃ y1 y2 xt x1 x2 q:Nat,Y / B ^ (n-1) % B=y1∧Y / B ^ (n-2) % B=y2∧R / B ^ n % B=xt∧R / B ^ (n-1) % B=x1∧R / B ^ (n-2) % B=x2∧R / Y=q ∧
   q<B∧0<y1∧y1<B∧y2<B∧xt<B∧x1<B∧x2<B∧xt*B+x1≤y1*B+(B-1)∧q≤(xt*B+x1) / y1 ∧
   (∀ g rest,g*y1+rest=xt*B+x1→rest*B+x2<g*y2→q<g)∧(∀ g,g<B→g*(y1*B+y2)≤(xt*B+x1)*B+x2→g≤q+1):=by
 obtain⟨m,rfl⟩:∃ m,n=m+2:=⟨n-2,by omega⟩;simp only [show m+2-1=m+1 by omega,show m+2-2=m by omega]
 have hP:0<B ^ m:=Nat.pow_pos (by omega);have e1:B ^ (m+1)=B ^ m*B:=by rw [Nat.pow_succ]
 have e2:B ^ (m+2)=B ^ m*B*B:=by rw [Nat.pow_succ,Nat.pow_succ]
 rw [e2] at hY hY2;rw [e1,e2];generalize hPd:B ^ m=P at *;have hPB:0<P*B:=Nat.mul_pos hP (by omega);have hPBB:0<P*B*B:=Nat.mul_pos hPB (by omega)
 -- the digits of Y
 have y1lt:Y / (P*B)<B:=by rw [Nat.div_lt_iff_lt_mul hPB,Nat.mul_comm];exact hY
 have ey1:Y / (P*B) % B=Y / (P*B):=Nat.mod_eq_of_lt y1lt;have dY:Y / P=Y / (P*B)*B+Y / P % B:=by rw [← Nat.div_div_eq_div_mul,Nat.div_add_mod']
 have dY2:Y=Y / P*P+Y % P:=by rw [Nat.div_add_mod']
 have y1big:B≤2*(Y / (P*B))+1:=by
  have h1:B*(P*B)≤2*Y:=by rw [Nat.mul_comm B];exact hY2
  have h2:Y<(Y / (P*B)+1)*(P*B):=by
   have:=Nat.lt_mul_div_succ Y hPB;rw [Nat.mul_comm] at this;exact this
  have h3:B*(P*B)<(2*(Y / (P*B))+2)*(P*B):=by
   have:(2*(Y / (P*B))+2)*(P*B)=2*((Y / (P*B)+1)*(P*B)):=by
    generalize P*B=p;rw [← Nat.mul_assoc,Nat.mul_add]
   omega
  have:=Nat.lt_of_mul_lt_mul_right h3;omega
 have y1pos:0<Y / (P*B):=by omega
 have y2lt:=Nat.mod_lt (Y / P) (show 0<B by omega)
 -- the digits of R
 have hRB:R<P*B*B*B:=Nat.lt_trans hR (Nat.mul_lt_mul_of_pos_right hY (by omega));have xtlt:R / (P*B*B)<B:=by rw [Nat.div_lt_iff_lt_mul hPBB,Nat.mul_comm];exact hRB
 have ext:R / (P*B*B) % B=R / (P*B*B):=Nat.mod_eq_of_lt xtlt;have dR1:R / (P*B)=R / (P*B*B)*B+R / (P*B) % B:=by rw [← Nat.div_div_eq_div_mul R (P*B),Nat.div_add_mod']
 have dR2:R / P=R / (P*B)*B+R / P % B:=by rw [← Nat.div_div_eq_div_mul R P,Nat.div_add_mod']
 have dR3:R=R / P*P+R % P:=by rw [Nat.div_add_mod']
 have x1lt:=Nat.mod_lt (R / (P*B)) (show 0<B by omega)
 have x2lt:=Nat.mod_lt (R / P) (show 0<B by omega)
 have hq:R / Y<B:=Nat.div_lt_of_lt_mul hR
 have hxt:R / (P*B*B)≤Y / (P*B):=by
  have h2:Y<(Y / (P*B)+1)*(P*B):=by
   have:=Nat.lt_mul_div_succ Y hPB;rw [Nat.mul_comm] at this;exact this
  have h3:Y*B≤(Y / (P*B)+1)*(P*B)*B:=Nat.mul_le_mul_right _ (Nat.le_of_lt h2)
  have h4:R / (P*B*B)<Y / (P*B)+1:=by
   rw [Nat.div_lt_iff_lt_mul hPBB,← Nat.mul_assoc];exact Nat.lt_of_lt_of_le hR h3
  omega
 have hfirst:=kn_first (R:=R) (Y:=Y) hPB y1pos;have hXl:=Nat.mod_lt R hP;have hYl:=Nat.mod_lt Y hP;refine ⟨Y / (P*B),Y / P % B,R / (P*B*B),R / (P*B) % B,R / P % B,R / Y,ey1,rfl,ext,rfl,rfl,rfl,hq,y1pos,y1lt,y2lt,xtlt,x1lt,x2lt,?_,?_,?_,?_⟩
 ·have:=Nat.mul_le_mul_right B hxt
  omega
 ·rw [← dR1];exact hfirst
 ·intro g rest h hbad
  have:=kn_dec (P:=P) (Xl:=R % P) (Yl:=Y % P) hP hXl h hbad;rw [← dR1,← dR2,← dY,← dR3,← dY2] at this;exact this
 intro g hg hok
 have hV:B≤Y / (P*B)*B:=by
  have:=Nat.mul_le_mul_right B (show 1≤Y / (P*B) by omega)
  omega
 have:=kn_near (P:=P) (V:=Y / (P*B)*B+Y / P % B) (Yl:=Y % P) (Xl:=R % P) (g:=g) hYl (by omega) hok (by omega);rw [← dR1,← dR2,← dY,← dR3,← dY2] at this;exact this
theorem kn_W {B n j Y Z g:Nat} (hB:0<B) (hY:Y<B ^ n) (hg:g≤Z / B ^ j / Y+1) (hgB:g<B) :
  g*Y*B ^ j≤Z+B ^ (j+n+1)∧g*Y*B ^ j<B ^ (j+n+1):=by
 have hp:0<B ^ j:=Nat.pow_pos hB
 have e:B ^ (j+n+1)=B*B ^ n*B ^ j:=by
  rw [Nat.pow_succ,Nat.pow_add,Nat.mul_comm,Nat.mul_comm (B ^ j),Nat.mul_assoc]
 rw [e];generalize B ^ j=p at *
 have h1:g*Y<B*B ^ n:=by
  rcases Nat.eq_zero_or_pos Y with h0|h0
  ·rw [h0,Nat.mul_zero];exact Nat.mul_pos hB (by rw [h0] at hY;exact hY)
  exact Nat.mul_lt_mul'' hgB hY
 have h2:g*Y*p<B*B ^ n*p:=Nat.mul_lt_mul_of_pos_right h1 hp;exact ⟨by omega,h2⟩
theorem kn_digit {B n j i Y Z g:Nat} (hB:0<B) (hi:i<n+1) (hle:g*Y*B ^ j≤Z+B ^ (j+n+1)) :
  (Z / B ^ (j+i) % B<(yaw B i 0 g Y+g*(Y / B ^ i % B)) % B+yaB B (j+i) (Z+B ^ (j+n+1)) (g*Y*B ^ j) →
   yaB B (j+i+1) (Z+B ^ (j+n+1)) (g*Y*B ^ j)=1 ∧
   Z / B ^ (j+i) % B+B=(Z+B ^ (j+n+1)-g*Y*B ^ j) / B ^ (j+i) % B+(yaw B i 0 g Y+g*(Y / B ^ i % B)) % B+yaB B (j+i) (Z+B ^ (j+n+1)) (g*Y*B ^ j)) ∧
  (¬ Z / B ^ (j+i) % B<(yaw B i 0 g Y+g*(Y / B ^ i % B)) % B+yaB B (j+i) (Z+B ^ (j+n+1)) (g*Y*B ^ j) →
   yaB B (j+i+1) (Z+B ^ (j+n+1)) (g*Y*B ^ j)=0 ∧
   Z / B ^ (j+i) % B=(Z+B ^ (j+n+1)-g*Y*B ^ j) / B ^ (j+i) % B+(yaw B i 0 g Y+g*(Y / B ^ i % B)) % B+yaB B (j+i) (Z+B ^ (j+n+1)) (g*Y*B ^ j)):=by
 have hs:=ycE hB (j+i) (Z+B ^ (j+n+1)) (g*Y*B ^ j) hle
 have e1:(Z+B ^ (j+n+1)) / B ^ (j+i) % B=Z / B ^ (j+i) % B:=by
  obtain⟨m,hm⟩:∃ m,j+n+1=j+i+(m+1):=⟨n-i,by omega⟩;rw [hm,Nat.pow_add,Nat.add_mul_div_left _ _ (Nat.pow_pos hB),Nat.pow_succ,Nat.add_mul_mod_self_right]
 have e2:g*Y*B ^ j / B ^ (j+i) % B=(yaw B i 0 g Y+g*(Y / B ^ i % B)) % B:=by
  have:=ycW hB i 0 g Y;simp only [Nat.zero_div,Nat.zero_mod,Nat.add_zero,Nat.zero_add] at this;rw [this,Nat.pow_add,← Nat.div_div_eq_div_mul,Nat.mul_div_cancel _ (Nat.pow_pos hB)]
 rw [e1,e2] at hs;exact hs
theorem kn_carry {B:Nat} (hB:0<B) (i g Y:Nat):(yaw B i 0 g Y+g*(Y / B ^ i % B)) / B=yaw B (i+1) 0 g Y:=by
 have:=ybH hB i 0 g Y
 simpa using this
theorem kn_last {B M Z W k:Nat} (hM:M=B ^ k) (hZ:Z<M) (hW:W<M):yaB B k (Z+M) W=if Z<W then 1 else 0:=by
 subst hM;unfold yaB;rw [Nat.add_mod_right,Nat.mod_eq_of_lt hZ,Nat.mod_eq_of_lt hW]
theorem kn_left {B n j Y Z g q:Nat} (hB:0<B) (hY:Y<B ^ n) (hZ:Z<Y*B ^ (j+1)) (hq:Z / B ^ j / Y=q) (h1:q≤g) (h2:g≤q+1) (hgB:g<B) :
  (¬ Z<g*Y*B ^ j→g=q∧(Z+B ^ (j+n+1)-g*Y*B ^ j) % B ^ (j+n+1)=Z % (Y*B ^ j)) ∧
  (Z<g*Y*B ^ j→g=q+1∧(Z+B ^ (j+n+1)-g*Y*B ^ j)<B ^ (j+n+1)∧(Z+B ^ (j+n+1)-g*Y*B ^ j+B ^ j*(1*Y)) % B ^ (j+n+1)=Z % (Y*B ^ j)):=by
 have hp:0<B ^ j:=Nat.pow_pos hB
 have hY0:0<Y:=by
  rcases Nat.eq_zero_or_pos Y with h|h
  ·rw [h,Nat.zero_mul] at hZ;omega
  exact h
 have hYp:0<Y*B ^ j:=Nat.mul_pos hY0 hp;have e3:Z / (Y*B ^ j)=q:=by rw [← hq,Nat.div_div_eq_div_mul,Nat.mul_comm]
 have hdm:=Nat.div_add_mod Z (Y*B ^ j);have hlt:=Nat.mod_lt Z hYp;rw [e3] at hdm
 have hM:Y*B ^ j<B ^ (j+n+1):=by
  have h3:B ^ (j+n+1)=B ^ n*B ^ j*B:=by rw [Nat.pow_succ,Nat.pow_add,Nat.mul_comm (B ^ j)]
  have h4:Y*B ^ j<B ^ n*B ^ j:=Nat.mul_lt_mul_of_pos_right hY hp;have h5:B ^ n*B ^ j*1≤B ^ n*B ^ j*B:=Nat.mul_le_mul_left _ hB;omega
 have eg:∀ k,k*Y*B ^ j=Y*B ^ j*k:=fun k=>by rw [Nat.mul_assoc,Nat.mul_comm]
 have eY:B ^ j*(1*Y)=Y*B ^ j:=by rw [Nat.one_mul,Nat.mul_comm]
 rw [eg,eY];generalize Y*B ^ j=D at *;generalize B ^ (j+n+1)=M at *;have hsucc:D*(q+1)=D*q+D:=Nat.mul_succ D q;constructor
 ·intro h
  have:g=q:=by
   rcases Nat.eq_or_lt_of_le h2 with h3|h3
   ·exfalso;rw [h3] at h;omega
   omega
  subst this;refine ⟨rfl,?_⟩;rw [show Z+M-D*g=Z % D+M by omega,Nat.add_mod_right,Nat.mod_eq_of_lt (by omega)]
 intro h
 have:g=q+1:=by
  rcases Nat.eq_or_lt_of_le h2 with h3|h3
  ·exact h3
  exfalso;have:g=q:=by omega
  rw [this] at h;omega
 subst this;refine ⟨rfl,by omega,?_⟩;rw [show Z+M-D*(q+1)+D=Z % D+M by omega,Nat.add_mod_right,Nat.mod_eq_of_lt (by omega)]
theorem yiV {B n T j Y:Nat} (hB:0<B) (hY:Y<B ^ n):(T / B ^ (j+n) % B+yaw B n (T / B ^ j) 1 Y) % B=(T+B ^ j*(1*Y)) / B ^ (j+n) % B:=by
 have h:=ycW hB n (T / B ^ j) 1 Y;rw [Nat.div_eq_of_lt hY,Nat.zero_mod,Nat.mul_zero,Nat.add_zero] at h;rw [yay,yay,yeA hB,← h,Nat.add_comm]
theorem kn_next {B j A Y:Nat} (hB:0<B):A % (Y*B ^ (j+1)) % (Y*B ^ j)=A % (Y*B ^ j):=by
 rw [Nat.pow_succ,← Nat.mul_assoc,Nat.mod_mul_right_mod]
theorem kn_quo {B j A Y:Nat} (hB:0<B):A % (Y*B ^ (j+1)) / B ^ j / Y=A / Y / B ^ j % B:=by
 rw [Nat.div_div_eq_div_mul,Nat.mul_comm (B ^ j),Nat.pow_succ,← Nat.mul_assoc,Nat.mod_mul_right_div_self,← Nat.div_div_eq_div_mul]
theorem kn_prep {n nx A D:Nat} (hn:2≤n) (hA:A<4294967296 ^ nx) (hD:D<4294967296 ^ n) (hD2:4294967296 ^ (n-1)≤D) (hle:D≤A) :
  ∃ s top:Nat,s≤31∧D / 4294967296 ^ (n-1) % 4294967296=top∧top<4294967296∧Lib.bitLen top≤32∧32-Lib.bitLen top=s∧D*2 ^ s<4294967296 ^ n∧4294967296 ^ n≤2*(D*2 ^ s)∧n≤nx∧A*2 ^ s<D*2 ^ s*4294967296 ^ (nx+1-n):=by
 have hnx:n≤nx:=by
  rcases Nat.lt_or_ge (n-1) nx with h|h
  ·omega
  exfalso;have:4294967296 ^ nx≤4294967296 ^ (n-1):=Nat.pow_le_pow_right (by decide) h;omega
 obtain⟨m,rfl⟩:∃ m,n=m+1:=⟨n-1,by omega⟩;simp only [Nat.add_sub_cancel] at *;have hp:0<4294967296 ^ m:=Nat.pow_pos (by decide);have hpe:4294967296 ^ (m+1)=4294967296 ^ m*4294967296:=by rw [Nat.pow_succ]
 have htop:D / 4294967296 ^ m<4294967296:=by rw [Nat.div_lt_iff_lt_mul hp,Nat.mul_comm,← hpe];exact hD
 have htop1:1≤D / 4294967296 ^ m:=by rw [Nat.le_div_iff_mul_le hp];omega
 have e1:D / 4294967296 ^ m % 4294967296=D / 4294967296 ^ m:=Nat.mod_eq_of_lt htop;obtain⟨b1,b2,b3⟩:=Lib.bitLenAux_bounds 64 (D / 4294967296 ^ m) (by omega) (by omega);have hb:Lib.bitLen (D / 4294967296 ^ m)=Lib.bitLenAux 64 (D / 4294967296 ^ m):=rfl;rw [← hb] at b1 b2 b3;have h1:=Nat.div_add_mod D (4294967296 ^ m);have h2:=Nat.mod_lt D hp;refine ⟨32-Lib.bitLen (D / 4294967296 ^ m),D / 4294967296 ^ m,?_⟩;generalize Lib.bitLen (D / 4294967296 ^ m)=b at *;generalize D / 4294967296 ^ m=top at *
 have hb32:b≤32:=by
  rcases Nat.lt_or_ge 32 b with h|h
  ·exfalso
   have:2 ^ 32≤2 ^ (b-1):=Nat.pow_le_pow_right (by decide) (by omega);omega
  exact h
 have e32:4294967296=2 ^ b*2 ^ (32-b):=by rw [← Nat.pow_add,show b+(32-b)=32 by omega]
 have e31:2147483648=2 ^ (b-1)*2 ^ (32-b):=by rw [← Nat.pow_add,show b-1+(32-b)=31 by omega]
 have hs:0<2 ^ (32-b):=Nat.pow_pos (by decide)
 have g1:D*2 ^ (32-b)<4294967296 ^ (m+1):=by
  have h3:D<4294967296 ^ m*2 ^ b:=by
   have:4294967296 ^ m*(top+1)≤4294967296 ^ m*2 ^ b:=Nat.mul_le_mul_left _ (by omega);rw [Nat.mul_add] at this;omega
  have h4:D*2 ^ (32-b)<4294967296 ^ m*2 ^ b*2 ^ (32-b):=Nat.mul_lt_mul_of_pos_right h3 hs;rw [Nat.mul_assoc,← e32] at h4;omega
 have g2:4294967296 ^ (m+1)≤2*(D*2 ^ (32-b)):=by
  have h3:4294967296 ^ m*2 ^ (b-1)≤D:=by
   have:4294967296 ^ m*2 ^ (b-1)≤4294967296 ^ m*top:=Nat.mul_le_mul_left _ b2;omega
  have h4:4294967296 ^ m*2 ^ (b-1)*2 ^ (32-b)≤D*2 ^ (32-b):=Nat.mul_le_mul_right _ h3;rw [Nat.mul_assoc,← e31] at h4;omega
 refine ⟨by omega,e1,htop,hb32,rfl,g1,g2,hnx,?_⟩
 have g3:A*2 ^ (32-b)<4294967296 ^ nx*2147483648:=by
  have h3:2 ^ (32-b)≤2147483648:=Nat.pow_le_pow_right (n:=2) (by decide) (show 32-b≤31 by omega)
  have h4:A*2 ^ (32-b)<4294967296 ^ nx*2 ^ (32-b):=Nat.mul_lt_mul_of_pos_right hA hs;have h5:4294967296 ^ nx*2 ^ (32-b)≤4294967296 ^ nx*2147483648:=Nat.mul_le_mul_left _ h3;omega
 have g4:4294967296 ^ (m+1)*4294967296 ^ (nx+1-(m+1))≤2*(D*2 ^ (32-b))*4294967296 ^ (nx+1-(m+1)):=Nat.mul_le_mul_right _ g2;rw [← Nat.pow_add,show m+1+(nx+1-(m+1))=nx+1 by omega,Nat.pow_succ,Nat.mul_assoc 2] at g4
 omega
theorem kn_back {R s i:Nat} (hs:s≤31):((R / 4294967296 ^ (i+1) % 4294967296)*4294967296+R / 4294967296 ^ i % 4294967296) / 2 ^ s % 4294967296=R / 2 ^ s / 4294967296 ^ i % 4294967296:=by
 have e1:R / 4294967296 ^ (i+1)=R / 4294967296 ^ i / 4294967296:=by rw [Nat.pow_succ,Nat.div_div_eq_div_mul]
 have e2:R / 2 ^ s / 4294967296 ^ i=R / 4294967296 ^ i / 2 ^ s:=by rw [Nat.div_div_eq_div_mul,Nat.div_div_eq_div_mul,Nat.mul_comm]
 rw [e1,e2];generalize R / 4294967296 ^ i=M;have e3:M / 4294967296 % 4294967296*4294967296+M % 4294967296=M % (4294967296*4294967296):=by rw [Nat.mod_mul];omega
 have e4:4294967296*4294967296=2 ^ s*(4294967296*2 ^ (32-s)):=by
  rw [Nat.mul_left_comm,← Nat.pow_add,show s+(32-s)=32 by omega]
 rw [e3,e4,Nat.mod_mul_right_div_self,Nat.mod_mul_right_mod]
theorem ydN {B L i Q X:Nat} (h:i<L):(mixd B L (i+1) Q X).set i (Q / B ^ i % B)=mixd B L i Q X:=by
 unfold mixd;apply List.ext_getElem
 ·simp
 intro j h1 h2;rw [List.getElem_set];simp only [List.getElem_map,List.getElem_range];by_cases e:i=j
 ·subst e;simp
 rw [if_neg e];by_cases h3:j<i
 ·rw [if_pos h3,if_pos (by omega)]
 rw [if_neg h3,if_neg (by omega)]
theorem ycq {w:World} {b L i Q X:Nat} (h:w.heap[b]? = some (.cells (u32s (mixd 4294967296 L (i+1) Q X)).toArray 230 (0,0))) (hi:i<L):w.cell? ⟨b,i,none⟩=some (.int .u32 ((X / 4294967296 ^ i % 4294967296:Nat):Int)):=by
 rw [yab h]
 have:(mixd 4294967296 L (i+1) Q X)[i]? = some (X / 4294967296 ^ i % 4294967296):=by
  unfold mixd;rw [List.getElem?_map,List.getElem?_range hi];simp
 simp [u32s,this]
theorem or_lh (r x:Nat) (hr:r<4294967296) (hx:x<4294967296):bits BinOp.or IntKind.u64 ((r:Int)*4294967296) (x:Int)=((r*4294967296+x:Nat):Int):=by
 rw [bits_join .u64 64 (by decide) (fun n h0 h1=>by rw [IntKind.wrap_u64];omega) 32 _ _ (by omega) (by omega) (by omega) (by omega) (by omega) (by omega)];omega
theorem short_c (w:World) (g L c X d:Nat) (hlen:L≤c) (hl9:c≤1000000000000) (hX:X<4294967296 ^ L) (hd0:0<d) (hd:d<4294967296) (hb:w.heap[g]? = some (.cells (u32s (dl 4294967296 L X)).toArray 230 (0,0))) :
  Calls prog 217 #[.slice (some ⟨g,0,none⟩) L c,.int .u32 (d:Int)] w fun e w'=>e = .returned (.int .u32 ((X % d:Nat):Int))∧Keep [g] w w'∧w'.heap[g]? = some (.cells (u32s (dl 4294967296 L (X / d))).toArray 230 (0,0)):=by
 have Hb:=jX hb;have HX:=jX hX;clear hb hX;go_enter func217,ntmps217
 go_wp2_with fail;go_loopw [5,6] (fun r x wr=>∃ j:Nat,j≤L∧x = .int .i64 ((j:Int)-1)∧r = .int .u64 ((X / 4294967296 ^ j % d:Nat):Int)∧Keep [g] w wr∧wr.heap[g]? = some (.cells (u32s (mixd 4294967296 L j (X / d) X)).toArray 230 (0,0))) (fun _ x _=>(intOf x+1).toNat)
 case atStart=>exact ⟨L,Nat.le_refl _,rfl,by rw [Nat.div_eq_of_lt HX.out,Nat.zero_mod];rfl,Keep.refl _ _,by rw [ybA];exact Hb.out⟩
 case round =>
  obtain⟨j,hj,rfl,rfl,hkp,hbx⟩:=hrel;by_cases hj0:j=0
  ·subst hj0
   have Hkp:=jX hkp;have Hbx:=jX hbx;clear hkp hbx;have hr:=Nat.mod_lt X hd0;rw [Nat.pow_zero,Nat.div_one];obtain⟨r,hr0⟩:∃ r,X % d=r:=⟨_,rfl⟩;rw [hr0] at hr ⊢;have Hr0:=jX hr0;clear hr0;go_wp2_with fail;go_ret
   refine ⟨?_,Hkp.out,?_⟩
   ·rw [Hr0.out];rfl
   have:=Hbx.out;rw [yby] at this;exact this
  obtain⟨i,rfl⟩:∃ i,j=i+1:=⟨j-1,by omega⟩;have hi1:(((i+1:Nat):Int)-1)=(i:Int):=by omega
  rw [hi1];have hiL:i<L:=by omega
  have hcx:=ycq hbx hiL;have hset:=jX (ydN (B:=4294967296) (Q:=X / d) (X:=X) hiL);have hr:=Nat.mod_lt (X / 4294967296 ^ (i+1)) hd0;have hx9:=Nat.mod_lt (X / 4294967296 ^ i) (show 0<4294967296 by decide)
  have Hrem:=jX (short_rem 4294967296 i X d);have Hquo:=jX (short_quo (show 0<4294967296 by decide) i X d hd0)
  have hlo:=yaa hbx;have hfo:=yae hbx;have Hkp:=jX hkp;have Hbx:=jX hbx;clear hkp hbx hj0 hi1;generalize X / 4294967296 ^ (i+1) % d=r at *;generalize X / 4294967296 ^ i % 4294967296=x at *;have hor:=or_lh r x (by omega) hx9;have hdne:((d:Int) == 0)=false:=by rw [beq_eq_false_iff_ne];omega
  have hN:r*4294967296+x<18446744073709551616:=by omega
  obtain⟨N,hNe⟩:∃ N,r*4294967296+x=N:=⟨_,rfl⟩;have hq:N / d=(r*4294967296+x) / d:=by rw [hNe]
  rw [hNe] at hN hor;have HNe:=jX hNe;clear hNe;have hq9:=Nat.mod_lt (X / d / 4294967296 ^ i) (show 0<4294967296 by decide)
  rw [Hquo.out] at hq;clear Hquo;generalize X / d / 4294967296 ^ i % 4294967296=q at *
  have hw:IntKind.u64.wrap ((N:Int) / (d:Int))=(q:Int):=by
   rw [← hq,IntKind.wrap_u64];have:((N / d:Nat):Int)=(N:Int) / (d:Int):=by push_cast;rfl
   rw [← this];omega
  clear hq;go_wp2_with fail;go_region
  go_wp2_with fail;go_roundw
  case rel =>
   refine ⟨i,by omega,rfl,?_,(Hkp.out.trans (Keep.setCell [g] _ g i _ (by simp)) (by simp)).dP,?_⟩
   ·rw [← Hrem.out,HNe.out];exact congrArg (Value.int .u64) (by push_cast;rfl)
   show (World.setCell _ _ _).heap[g]? = _
   rw [set_same Hbx.out,List.setIfInBounds_toArray,u32s_set,hset.out]
  case measure=>simp [intOf]
theorem or_lo (x t s:Nat) (hs:s≤31) (hx:x<2 ^ s) (ht:t*2 ^ s<4294967296):bits BinOp.or IntKind.u32 (x:Int) ((t*2 ^ s:Nat):Int)=((x+t*2 ^ s:Nat):Int):=by
 have hp:2 ^ s≤2147483648:=Nat.pow_le_pow_right (n:=2) (by decide) hs
 have hlt:x+t*2 ^ s<4294967296:=by
  have e:4294967296=2 ^ (32-s)*2 ^ s:=by rw [← Nat.pow_add,show 32-s+s=32 by omega]
  rw [e] at ht;have h1:t<2 ^ (32-s):=Nat.lt_of_mul_lt_mul_right ht;have h2:(t+1)*2 ^ s≤2 ^ (32-s)*2 ^ s:=Nat.mul_le_mul_right _ h1;rw [Nat.succ_mul] at h2;omega
 have h1:(BitVec.ofInt 32 (x:Int)).toNat=x:=by
  rw [BitVec.ofInt_natCast,BitVec.toNat_ofNat];exact Nat.mod_eq_of_lt (by omega)
 have h2:(BitVec.ofInt 32 ((t*2 ^ s:Nat):Int)).toNat=t*2 ^ s:=by
  rw [BitVec.ofInt_natCast,BitVec.toNat_ofNat];exact Nat.mod_eq_of_lt (by omega)
 show IntKind.u32.wrap ((BitVec.ofInt 32 (x:Int) ||| BitVec.ofInt 32 ((t*2 ^ s:Nat):Int)).toNat:Int)=_
 have e:x ||| t*2 ^ s=x+t*2 ^ s:=by
  rw [Nat.or_comm,← Nat.shiftLeft_eq,← Nat.shiftLeft_add_eq_or_of_lt hx,Nat.add_comm]
 rw [BitVec.toNat_or,h1,h2,e,IntKind.wrap_u32];omega
theorem yft (s X i:Nat) (hs:s≤31):∃ c t:Nat,c<2 ^ s∧t*2 ^ s<4294967296∧X % 4294967296 ^ i*2 ^ s / 4294967296 ^ i % 4294967296=c∧X / 4294967296 ^ i % 4294967296*2 ^ s % 4294967296=t*2 ^ s ∧
  X % 4294967296 ^ (i+1)*2 ^ s / 4294967296 ^ i % 4294967296=c+t*2 ^ s∧X % 4294967296 ^ (i+1)*2 ^ s / 4294967296 ^ (i+1) % 4294967296=X / 4294967296 ^ i % 4294967296*2 ^ s / 4294967296 ∧
  X / 4294967296 ^ i % 4294967296*2 ^ s / 4294967296<4294967296∧X % 4294967296 ^ i*2 ^ s<4294967296 ^ (i+1):=by
 have hp:0<4294967296 ^ i:=Nat.pow_pos (by decide);have h2:0<2 ^ s:=Nat.pow_pos (by decide);have h3:2 ^ s≤2147483648:=Nat.pow_le_pow_right (n:=2) (by decide) hs;have e32:4294967296=2 ^ (32-s)*2 ^ s:=by rw [← Nat.pow_add,show 32-s+s=32 by omega]
 have hA:=Nat.mod_lt X hp;have hx9:=Nat.mod_lt (X / 4294967296 ^ i) (show 0<4294967296 by decide)
 have eA:X % 4294967296 ^ (i+1)*2 ^ s=X % 4294967296 ^ i*2 ^ s+4294967296 ^ i*(X / 4294967296 ^ i % 4294967296*2 ^ s):=by
  rw [Nat.pow_succ,Nat.mod_mul,Nat.add_mul,Nat.mul_assoc]
 have ediv:X % 4294967296 ^ (i+1)*2 ^ s / 4294967296 ^ (i+1)=X % 4294967296 ^ (i+1)*2 ^ s / 4294967296 ^ i / 4294967296:=by
  rw [Nat.div_div_eq_div_mul,← Nat.pow_succ]
 rw [ediv,eA,Nat.add_mul_div_left _ _ hp];generalize X / 4294967296 ^ i % 4294967296=x at *
 have hc:X % 4294967296 ^ i*2 ^ s / 4294967296 ^ i<2 ^ s:=by
  rw [Nat.div_lt_iff_lt_mul hp,Nat.mul_comm];exact Nat.mul_lt_mul_of_pos_left hA h2
 have hlt:X % 4294967296 ^ i*2 ^ s<4294967296 ^ (i+1):=by
  rw [Nat.pow_succ];have h4:X % 4294967296 ^ i*2 ^ s<4294967296 ^ i*2 ^ s:=Nat.mul_lt_mul_of_pos_right hA h2;have h5:4294967296 ^ i*2 ^ s≤4294967296 ^ i*4294967296:=Nat.mul_le_mul_left _ (by omega);omega
 generalize X % 4294967296 ^ i*2 ^ s / 4294967296 ^ i=c at *;have ht:x*2 ^ s % 4294967296=x % 2 ^ (32-s)*2 ^ s:=by rw [e32,Nat.mul_mod_mul_right]
 have htlt:x % 2 ^ (32-s)*2 ^ s<4294967296:=by rw [← ht];exact Nat.mod_lt _ (by decide)
 have hsum:c+x % 2 ^ (32-s)*2 ^ s<4294967296:=by
  have h1:=Nat.mod_lt x (Nat.pow_pos (n:=32-s) (show 0<2 by decide))
  have h4:(x % 2 ^ (32-s)+1)*2 ^ s≤2 ^ (32-s)*2 ^ s:=Nat.mul_le_mul_right _ h1;rw [Nat.succ_mul,← e32] at h4;omega
 have hxs:x*2 ^ s<4294967296*4294967296:=by
  have h4:x*2 ^ s≤4294967295*2 ^ s:=Nat.mul_le_mul_right _ (by omega);omega
 have hd:=Nat.div_add_mod (x*2 ^ s) 4294967296;rw [ht] at hd;refine ⟨c,x % 2 ^ (32-s),hc,htlt,by omega,ht,?_,?_,by omega,hlt⟩
 ·omega
 omega
theorem dl_set2 {L i N N' a b:Nat} (h:i+1<L) (hN:N<4294967296 ^ (i+1)) (hN':N'<4294967296 ^ (i+2)) (hlow:∀ j,j<i→N / 4294967296 ^ j % 4294967296=N' / 4294967296 ^ j % 4294967296) (ha:N' / 4294967296 ^ i % 4294967296=a) (hb:N' / 4294967296 ^ (i+1) % 4294967296=b) :
  ((dl 4294967296 L N).set i a).set (i+1) b=dl 4294967296 L N':=by
 unfold dl;apply List.ext_getElem
 ·simp
 intro j h1 h2;rw [List.getElem_set,List.getElem_set];simp only [List.getElem_map,List.getElem_range];by_cases e:i+1=j
 ·subst e;rw [if_pos rfl,hb]
 rw [if_neg e];by_cases e2:i=j
 ·subst e2;rw [if_pos rfl,ha]
 rw [if_neg e2];by_cases h3:j<i
 ·exact hlow j h3
 have hle:4294967296 ^ (i+2)≤4294967296 ^ j:=Nat.pow_le_pow_right (by decide) (by omega);have hle2:4294967296 ^ (i+1)≤4294967296 ^ (i+2):=Nat.pow_le_pow_right (by decide) (by omega);rw [Nat.div_eq_of_lt (by omega),Nat.div_eq_of_lt (by omega)]
theorem shift_low (s X i j:Nat) (h:j<i):X % 4294967296 ^ i*2 ^ s / 4294967296 ^ j % 4294967296=X % 4294967296 ^ (i+1)*2 ^ s / 4294967296 ^ j % 4294967296:=by
 obtain⟨m,rfl⟩:∃ m,i=j+(m+1):=⟨i-j-1,by omega⟩
 have eA:X % 4294967296 ^ (j+(m+1)+1)*2 ^ s=X % 4294967296 ^ (j+(m+1))*2 ^ s+4294967296 ^ (j+(m+1))*(X / 4294967296 ^ (j+(m+1)) % 4294967296*2 ^ s):=by
  rw [Nat.pow_succ,Nat.mod_mul,Nat.add_mul,Nat.mul_assoc]
 rw [eA,Nat.pow_add 4294967296 j (m+1),Nat.mul_assoc (4294967296 ^ j),Nat.add_mul_div_left _ _ (Nat.pow_pos (by decide)),Nat.pow_succ,Nat.mul_comm (4294967296 ^ m),Nat.mul_assoc 4294967296,Nat.add_mul_mod_self_left]
theorem ygV (w:World) (g n c X s:Nat) (hlen:n≤c) (hl9:c≤100000000000) (hX:X<4294967296 ^ n) (hs:s≤31) (hb:w.heap[g]? = some (.cells (u32s (dl 4294967296 n X)).toArray 230 (0,0))) :
  Calls prog 220 #[.slice (some ⟨g,0,none⟩) n c,.int .i64 (s:Int)] w fun e w'=>e = .returned (.slice (some ⟨w.heap.size,0,none⟩) (n+1) (n+1))∧Keep [] w w'∧w'.heap[w.heap.size]? = some (.cells (u32s (dl 4294967296 (n+1) (X*2 ^ s))).toArray 230 (0,0)):=by
 have Hb:=jX hb;have HX:=jX hX;have hmk:=ybs w (n+1) (by omega);rw [show ((n+1:Nat):Int)=(n:Int)+1 by omega] at hmk
 clear hb hX;go_enter func220,ntmps220
 go_wp2_with fail;clear hmk;go_loopw [15] (fun x wr=>∃ i:Nat,i≤n∧x = .int .i64 (i:Int)∧Keep [] w wr∧wr.heap[w.heap.size]? = some (.cells (u32s (dl 4294967296 (n+1) (X % 4294967296 ^ i*2 ^ s))).toArray 230 (0,0))) (fun x _=>n-(intOf x).toNat)
 case atStart=>exact ⟨0,by omega,rfl,Keep.alloc _ _ _,by rw [Nat.pow_zero,Nat.mod_one,Nat.zero_mul,ycX];exact World.alloc_heap_new w _⟩
 case round =>
  obtain⟨i,hi,rfl,hkp,hbx⟩:=hrel;by_cases hlt:i<n
  ·have hxw:=hkp.heap Hb.out (by simp)
   have hxc:=yaC hxw i hlt;have hxl:=yaa hxw;have hx9:=Nat.mod_lt (X / 4294967296 ^ i) (show 0<4294967296 by decide)
   obtain⟨cc,t,hc,ht,e1,e2,e3,e4,e5,e6⟩:=yft s X i hs;have Hset:=jX (dl_set2 (L:=n+1) (by omega) e6 (yft s X (i+1) hs).choose_spec.choose_spec.2.2.2.2.2.2.2 (fun j h=>shift_low s X i j h) e3 e4);have hcx:=yaC hbx i (by omega);rw [e1] at hcx;have hcx2:=yaC hbx (i+1) (by omega);generalize X % 4294967296 ^ i*2 ^ s / 4294967296 ^ (i+1) % 4294967296=old at *;have hor:=or_lo cc t s hs hc ht;have hp:2 ^ s≤2147483648:=Nat.pow_le_pow_right (n:=2) (by decide) hs;have hlo:=yaa hbx;have hfo:=yae hbx;have Hkp:=jX hkp;have Hbx:=jX hbx;have E2:=jX e2;clear hxw hkp hbx e1 e2 e3 e4 e6;generalize X / 4294967296 ^ i % 4294967296=x at *
   have hW:IntKind.u64.wrap ((x:Int)*2 ^ s)=((x*2 ^ s:Nat):Int):=by
    have h1:x*2 ^ s≤4294967295*2 ^ s:=Nat.mul_le_mul_right _ (by omega);have h2:((x*2 ^ s:Nat):Int)=(x:Int)*2 ^ s:=by push_cast;rfl
    rw [← h2,IntKind.wrap_u64];omega
   have hW1:((x*2 ^ s:Nat):Int) % 4294967296=((t*2 ^ s:Nat):Int):=by rw [← E2.out];omega
   have hW2:((x*2 ^ s:Nat):Int) / 4294967296=((x*2 ^ s / 4294967296:Nat):Int):=by omega
   generalize x*2 ^ s / 4294967296=hh at *;generalize x*2 ^ s=W at *;generalize t*2 ^ s=lo at *;go_wp2_with fail;go_roundw
   case rel =>
    refine ⟨i+1,by omega,by go_num,(Hkp.out.sP _ _ _ (Nat.le_refl _)).sP _ _ _ (Nat.le_refl _),?_⟩;have e:((hh:Int) % 4294967296)=(hh:Int):=by omega
    rw [set_same (set_same Hbx.out _ _),List.setIfInBounds_toArray,List.setIfInBounds_toArray,← Int.natCast_add,u32s_set,u32s_set,Hset.out]
   case measure=>simp [intOf];omega
  obtain rfl:i=n:=by omega
  have Hkp:=jX hkp;have Hbx:=jX hbx;clear hkp hbx;go_wp2_with fail;go_ret
  refine ⟨rfl,Hkp.out,?_⟩;have:=Hbx.out;rw [Nat.mod_eq_of_lt HX.out] at this;exact this
theorem cmp_neg {a b:Nat} (h:a<b):Lib.compareInt (a:Int) b = -1:=by
 unfold Lib.compareInt;rw [if_pos (by omega)]
theorem cmp_nn {a b:Nat} (h:b≤a):0≤Lib.compareInt (a:Int) b:=by
 unfold Lib.compareInt;rw [if_neg (by omega)];split<;>omega
theorem can_top {s:ByteArray} (h:CanS s) (n:Nat) (h1:(s.size+3) / 4=n) (h2:0<s.size):4294967296 ^ (n-1)≤natB s:=by
 have h3:∃ b l,s.data.toList=b :: l:=by
  rcases hl:s.data.toList with _|⟨b,l⟩
  ·have:s.data.toList.length=0:=by rw [hl];rfl
   rw [Array.length_toList] at this;have:s.size=0:=this;omega
  exact ⟨b,l,rfl⟩
 obtain⟨b,l,hl⟩:=h3
 have hlen:l.length+1=s.size:=by
  have:s.data.toList.length=l.length+1:=by rw [hl];rfl
  rw [Array.length_toList] at this;exact this.symm
 unfold natB;unfold CanS at h;rw [hl] at h ⊢;have h4:=yhR (l:=l) (h b rfl);refine Nat.le_trans ?_ h4;rw [show (4294967296:Nat)=256 ^ 4 from rfl,← Nat.pow_mul]
 exact Nat.pow_le_pow_right (by decide) (by omega)
theorem yao {w:World} {b i:Nat} {cs:Array Value} {t:TypeId} {f:Nat × Nat} {v:Value} (h:w.heap[b]? = some (.cells cs t f)) (hc:w.cell? ⟨b,i,none⟩=some v) (m:KW w):(Wk w m).cell? ⟨b,i,none⟩=some v:=by
 show m.x.cell? _=_
 rw [yab (m.k.heap h (by simp)),← yab h];exact hc
theorem kn_S {B n j Y Z g:Nat} (h:g*Y*B ^ j<B ^ (j+n+1)) (hB:0<B):Z+B ^ (j+n+1)-g*Y*B ^ j=Z+B ^ j*(B ^ (n+1)-g*Y):=by
 have e:B ^ (j+n+1)=B ^ j*B ^ (n+1):=by rw [← Nat.pow_add,Nat.add_assoc]
 rw [e] at h ⊢;have e2:g*Y*B ^ j=B ^ j*(g*Y):=Nat.mul_comm _ _;rw [e2] at h ⊢;rw [Nat.mul_sub,← Nat.add_sub_assoc (Nat.le_of_lt h)]
theorem kn_b0 {B n j Y Z g:Nat}:yaB B j (Z+B ^ (j+n+1)) (g*Y*B ^ j)=0:=by
 unfold yaB;rw [if_neg];rw [Nat.mul_mod_left];exact Nat.not_lt_zero _
theorem ygv (B i X Y:Nat):yaB B i X Y≤1:=by unfold yaB;split<;>omega
theorem kn_end {B n g Y:Nat} (hB:0<B) (hY:Y<B ^ n) (hg:g<B):(yaw B n 0 g Y+g*(Y / B ^ n % B)) % B=yaw B n 0 g Y:=by
 rw [Nat.div_eq_of_lt hY,Nat.zero_mod,Nat.mul_zero,Nat.add_zero,Nat.mod_eq_of_lt (ybh hB _ _ _ _ hg)]
theorem div_knuth (s t:ByteArray) (hs:s.size≤100000000000) (ht:t.size≤100000000000) (cs:CanS s) (ct:CanS t) (hle:natB t≤natB s) (h4:4<t.size) (h8:¬ (s.size≤8∧t.size≤8)) (w:World) :
  Calls prog 187 #[.string s,.string t] w fun e w'=>e = .returned (.tuple #[.string (magS (natB s / natB t)),.string (magS (natB s % natB t))])∧Keep [] w w':=by
 have Hw:=jX (ydv s t h8 (by unfold maxLen;omega) (by unfold maxLen;omega) w);have Hcmp:=jX (ycy s t cs ct);have hc0:=cmp_nn hle;obtain⟨nx,A,eA,_,hnx,hA,Hds⟩:=ybe s (by omega);obtain⟨n,D,eD,en,hn,hD,Hdt⟩:=ybe t (by omega);have htop:=can_top ct n en (by omega);rw [eA,eD] at hle hc0 Hcmp;rw [eD] at htop;rw [eA,eD];have hn2:2≤n:=by omega
 obtain⟨by_,top,hby,etop,htop9,hbl,eby,hY,hY2,hnnx,hAq⟩:=kn_prep hn2 hA hD htop hle;generalize Lib.compareInt (A:Int) D=c at *;clear h8 hs ht eA eD en h4 hle htop cs ct;have Hds:=jX Hds;have Hdt:=jX Hdt;have HA:=jX hA;have HD:=jX hD;have HY:=jX hY;have HY2:=jX hY2;have HAq:=jX hAq;have Htop:=jX etop;have hlz:=fun w=>Tryz.bits_LeadingZeros32 (top:Int) w (by omega) (by omega);rw [Int.toNat_natCast,show (32:Int)-(Lib.bitLen top:Int)=(by_:Int) by omega] at hlz
 have Hlz:=jX hlz;have hn1:((n:Int) == 1)=false:=by rw [beq_eq_false_iff_ne];omega
 clear hA hD hY hY2 hAq etop hlz hbl eby;go_enter func187,ntmps187
 go_wp2_with fail;refine Hw.out.mono ?_;rintro e w1 ⟨⟨_,_,rfl⟩,rfl⟩;dsimp only;go_wp2_with fail;refine (Hcmp.out w1).mono ?_;rintro e w2 ⟨rfl,hk2⟩;dsimp only;have Hk2:=jX hk2;clear hk2 Hcmp;go_wp2_with fail;refine (Hdt.out w2).mono ?_;rintro e w3 ⟨rfl,hk3,hd3⟩;dsimp only;have Hk3:=jX (Hk2.out.tz hk3);have Hd3:=jX hd3;have htc:=yaC hd3 (n-1) (by omega);rw [Htop.out] at htc;have hld:=yaa hd3;clear hk3 hd3 Hk2 Hdt Hw Htop;generalize w2.heap.size=gd at *;have hi1:((n:Int)-1).toNat=n-1:=by omega
 go_wp2_with fail;refine (Hlz.out w3).mono ?_;rintro e w4 ⟨rfl,rfl⟩;dsimp only;clear Hlz htc;go_wp2_with fail;refine (Hds.out w4).mono ?_;rintro e w5 ⟨rfl,hk5,hx5⟩;dsimp only;have Hshx:=jX (ygV w5 w4.heap.size nx nx A by_ (Nat.le_refl _) (by omega) HA.out hby hx5);have Hd5:=jX (hk5.heap Hd3.out (by simp));have Hk5:=jX (Hk3.out.tz hk5);clear hk5 hx5 Hk3 Hd3 Hds;go_wp2_with fail;refine Hshx.out.mono ?_;rintro e w6 ⟨rfl,hk6,hx6⟩;dsimp only;have hd6:=hk6.heap Hd5.out (by simp);have Hshd:=jX (ygV w6 gd n n D by_ (Nat.le_refl _) (by omega) HD.out hby hd6);have Hx6:=jX hx6;have hlx6:=yaa hx6;have hgxw:=Hk5.out.size;have Hk6:=jX (Hk5.out.tz hk6);clear hk6 hx6 hd6 Hk5 Hd5 Hshx;go_wp2_with fail;refine Hshd.out.mono ?_;rintro e w7 ⟨rfl,hk7,hy7⟩;dsimp only;have Hx7:=jX (hk7.heap Hx6.out (by simp));have Hy7:=jX hy7;have Hk7:=jX (Hk6.out.tz hk7);have hlx7:=yaa Hx7.out;have hly7:=yaa hy7;clear hk7 hy7 Hx6 Hk6 Hshd;generalize w5.heap.size=gx at *;generalize w6.heap.size=gy at *;have HQ:Hid (A*2 ^ by_ / (D*2 ^ by_)=A / D):=Nat.mul_div_mul_right _ _ (Nat.pow_pos (by decide))
 have HRm:Hid (A*2 ^ by_ % (D*2 ^ by_) / 2 ^ by_=A % D):=by
  show _=_
  rw [Nat.mul_mod_mul_right,Nat.mul_div_cancel _ (Nat.pow_pos (by decide))]
 obtain⟨Lq,hLq⟩:∃ Lq,nx+1-n=Lq:=⟨_,rfl⟩;rw [hLq] at HAq;generalize D*2 ^ by_=Y at *;generalize A*2 ^ by_=Av at *;generalize hLx:nx+1=L at *;have hsub:(L:Int)-(n:Int)=(Lq:Int):=by omega
 have hLLq:L=n+Lq:=by omega
 have hL9:L≤30000000000:=by omega
 have hLq1:1≤Lq:=by omega
 have hLq9:Lq≤30000000000:=by omega
 have HLLq:=jX hLLq;have hmk:=ybs w7 Lq (by omega);clear hLx hLq hLLq HA HD;go_wp2_with fail;clear hmk hsub;go_loopw [16] (fun x wr=>∃ J:Nat,J≤Lq∧x = .int .i64 ((J:Int)-1)∧Keep [gx] w7 wr∧wr.heap[gx]? = some (.cells (u32s (dl 4294967296 L (Av % (Y*4294967296 ^ J)))).toArray 230 (0,0))∧wr.heap[w7.heap.size]? = some (.cells (u32s (mixd 4294967296 Lq J (Av / Y) 0)).toArray 230 (0,0))) (fun x _=>(intOf x+1).toNat)
 case atStart =>
  refine ⟨Lq,Nat.le_refl _,rfl,(Keep.alloc _ _ _),?_,?_⟩
  ·rw [Nat.mod_eq_of_lt HAq.out]
   rw [show (w7.alloc _).heap[gx]? = w7.heap[gx]? from Below.heap_alloc w7 _ gx hlx7]
   exact Hx7.out
  rw [ybA,ycX];exact World.alloc_heap_new w7 _
 case round =>
  obtain⟨J,hJ,rfl,hkp,hxw,how⟩:=hrel;obtain⟨wo,rfl⟩:∃ wo:World,wo=wr:=⟨_,rfl⟩;by_cases hJ0:J=0
  ·subst hJ0
   have hYpos:0<Y:=by
    rcases Nat.eq_zero_or_pos Y with h|h
    ·have h2:=HY2.out
     rw [h] at h2;have:=Nat.pow_pos (n:=n) (show 0<4294967296 by decide)
     omega
    exact h
   rw [Nat.pow_zero,Nat.mul_one] at hxw;rw [yby] at how;have hR:Av % Y<4294967296 ^ n:=Nat.lt_trans (Nat.mod_lt _ hYpos) HY.out;have hR2:Av % Y / 2 ^ by_<4294967296 ^ n:=Nat.lt_of_le_of_lt (Nat.div_le_self _ _) hR;have hQ:Av / Y<4294967296 ^ Lq:=by rw [Nat.div_lt_iff_lt_mul hYpos,Nat.mul_comm];exact HAq.out
   have HR2:=jX hR2;have HQl:=jX hQ;have Hxw:=jX hxw;have How:=jX how;have Hkp:=jX hkp;have hmk:=ybs wo n (by omega);have hp:=Nat.pow_le_pow_right (n:=2) (by decide) (show by_≤31 from hby)
   have hLLq:=HLLq.out;have HRm2:=HRm;have hgoL:=yaa how;clear hxw how hkp hR hR2 hQ HRm hLLq;generalize Av % Y=R at *;go_wp2_with fail;clear hmk;go_loopw [277] (fun iv wx=>∃ i:Nat,i≤n∧iv = .int .i64 (i:Int)∧Keep [] wo wx∧wx.heap[wo.heap.size]? = some (.cells (u32s (mixd 4294967296 n i 0 (R / 2 ^ by_))).toArray 230 (0,0))) (fun iv _=>n-(intOf iv).toNat)
   case atStart=>exact ⟨0,by omega,rfl,Keep.alloc _ _ _,by rw [yby,ycX];exact World.alloc_heap_new wo _⟩
   case round =>
    obtain⟨i,hi,rfl,hkw,hrw⟩:=hrel;by_cases hlt:i<n
    ·have hL:=HLLq.out
     have hxw:=hkw.heap Hxw.out (by simp);have c1:=yaC hxw (i+1) (by omega);have c0:=yaC hxw i (by omega);have hb:=kn_back (R:=R) (i:=i) hby;have hset:=jX (yaV 4294967296 n i 0 (R / 2 ^ by_) hlt);have hrc:=yaL hrw hlt;rw [Nat.zero_div,Nat.zero_mod] at hrc;have a9:=Nat.mod_lt (R / 4294967296 ^ (i+1)) (show 0<4294967296 by decide)
     have b9:=Nat.mod_lt (R / 4294967296 ^ i) (show 0<4294967296 by decide)
     generalize R / 4294967296 ^ (i+1) % 4294967296=x1 at *;generalize R / 4294967296 ^ i % 4294967296=x0 at *;have hor:=or_lh x1 x0 a9 b9;obtain⟨N,hN⟩:∃ N,x1*4294967296+x0=N:=⟨_,rfl⟩;have hN9:N<18446744073709551616:=by omega
     rw [hN] at hb hor;have k1:=yao hxw c1;have k0:=yao hxw c0;have hsh:((N:Int) / 2 ^ by_)=((N / 2 ^ by_:Nat):Int):=by push_cast;rfl
     have hN2:N / 2 ^ by_≤N:=Nat.div_le_self _ _;have hi1:((i:Int)+1).toNat=i+1:=by omega
     have hi2:i+1<L:=by omega
     have hi3:i<L:=by omega
     have Hb:=jX hb;have Hkw:=jX hkw;have Hrw:=jX hrw;clear hN hb hxw c1 c0 hkw hrw hL;generalize N / 2 ^ by_=N2 at *;go_wp2_with fail;refine yai 19 (by kernel_rfl) (by kernel_rfl) ?_;simp only [List.take_succ_cons,List.take_zero,List.drop_succ_cons,List.drop_zero]
     repeat (first
      | go_big_quiet_skip
      | (go_big_quiet_want;go_big_quiet_op;go_big_quiet_on))
     refine wpQuiet_nil ?_;rintro wq ⟨⟨_,hk_wq⟩,rfl⟩;have hrq:=hk_wq.heap Hrw.out (by simp);have hlq:=yaa hrq;have hfq:=yae hrq;have hcq:wq.cell? ⟨wo.heap.size,i,none⟩=some (.int .u32 ((0:Nat):Int)):=by rw [yab hrq,← yab Hrw.out];exact hrc
     have Hrq:=jX hrq;have Hkq:=jX (Hkw.out.tz hk_wq);clear hrq hk_wq k1 k0 hrc hor;go_wp2_with fail;go_roundw
     case rel =>
      refine ⟨i+1,by omega,by go_num,Hkq.out.sP _ _ _ (Nat.le_refl _),?_⟩;have e:((N2:Int) % 4294967296)=((N2 % 4294967296:Nat):Int):=by omega
      first
       | rw [set_same Hrq.out,e,Hb.out,List.setIfInBounds_toArray,u32s_set,hset.out]
       | rw [set_same Hrq.out,hsh,e,Hb.out,List.setIfInBounds_toArray,u32s_set,hset.out]
     case measure=>simp [intOf];omega
    obtain rfl:i=n:=by omega
    have how2:=hkw.heap How.out (by simp);rw [ybA] at hrw;have Hby1:=jX (ybM how2 HQl.out (by omega));have Hrw:=jX hrw;have Hkw:=jX hkw;clear how2 hrw hkw;go_wp2_with fail;refine Hby1.out.mono ?_;rintro e wz ⟨rfl,hkz⟩;dsimp only;have Hby2:=jX (ybM (hkz.heap Hrw.out (by simp)) HR2.out (by omega));have Hkz:=jX hkz;clear hkz Hby1;go_wp2_with fail;refine Hby2.out.mono ?_;rintro e wz2 ⟨rfl,hkz2⟩;dsimp only;have Hkz2:=jX hkz2;clear hkz2 Hby2;go_wp2_with fail;go_ret2
    refine ⟨?_,((((Hk7.out.trans Hkp.out (by simp;omega)).tz Hkw.out).tz Hkz.out).tz Hkz2.out)⟩;rw [HQ.out,HRm2.out];rfl
  obtain⟨j,rfl⟩:∃ j,J=j+1:=⟨J-1,by omega⟩;rw [show (((j+1:Nat):Int)-1)=(j:Int) by omega]
  obtain⟨Z,hZe⟩:∃ Z,Av % (Y*4294967296 ^ (j+1))=Z:=⟨_,rfl⟩
  have hYpos:0<Y:=by
   rcases Nat.eq_zero_or_pos Y with h|h
   ·have h2:=HY2.out
    rw [h] at h2;have:=Nat.pow_pos (n:=n) (show 0<4294967296 by decide)
    omega
   exact h
  have hZ:Z<Y*4294967296 ^ (j+1):=by rw [← hZe];exact Nat.mod_lt _ (Nat.mul_pos hYpos (Nat.pow_pos (by decide)))
  have hR:Z / 4294967296 ^ j<Y*4294967296:=by
   rw [Nat.div_lt_iff_lt_mul (Nat.pow_pos (by decide)),Nat.mul_assoc,← Nat.pow_succ'];exact hZ
  obtain⟨y1,y2,xt,x1,x2,q,ey1,ey2,ext,ex1,ex2,eq,hq9,hy1,hy19,hy29,hxt9,hx19,hx29,hhi,hqg,hdec,hgood⟩:=kn_facts (by decide) hn2 HY.out HY2.out hR;have HZe:=jX hZe;rw [hZe] at hxw;have hyw:=hkp.heap Hy7.out (by simp;omega);have cy1:=yaC hyw (n-1) (by omega);have cy2:=yaC hyw (n-2) (by omega);have hL:=HLLq.out;have cxt:=yaC hxw (j+n) (by omega);have cx1:=yaC hxw (j+(n-1)) (by omega);have cx2:=yaC hxw (j+(n-2)) (by omega);rw [yay,ext] at cxt;rw [yay,ex1] at cx1;rw [yay,ex2] at cx2;rw [ey1] at cy1;rw [ey2] at cy2;have hor:=or_lh xt x1 hxt9 hx19;have hor2:=fun r=>or_lh r x2;have i1:((j:Int)+(n:Int)-1).toNat=j+(n-1):=by omega
  have i2:((j:Int)+(n:Int)-2).toNat=j+(n-2):=by omega
  have i3:((n:Int)-1).toNat=n-1:=by omega
  have i4:((n:Int)-2).toNat=n-2:=by omega
  have kxt:=yao hxw cxt;have kx1:=yao hxw cx1;have ky1:=yao hyw cy1;have Hxw:=jX hxw;have Hyw:=jX hyw;have How:=jX how;have Hkp:=jX hkp;have Cxt:=jX cxt;have Cx2:=jX cx2;have Cy1:=jX cy1;have Cy2:=jX cy2;have Eq:=jX eq;have Hdec:=jX hdec;have Hgood:=jX hgood;have hjn:j+n<L:=by omega
  have hJ':j<Lq:=by omega
  clear hxw hyw how hkp eq hdec hgood ey1 ey2 ext ex1 ex2 hZe hL hJ0 hR cxt cx1 cx2 cy1 cy2;obtain⟨hi,hhie⟩:∃ hi,xt*4294967296+x1=hi:=⟨_,rfl⟩;rw [hhie] at hor hhi hqg;have Hhi:=jX hhie;have hi64:hi<18446744073709551616:=by omega
  have hq1:=Nat.div_add_mod hi y1;have hr1:=Nat.mod_lt hi hy1;have ed:(hi:Int) / (y1:Int)=((hi / y1:Nat):Int):=by push_cast;rfl
  have ed2:IntKind.u64.wrap ((hi / y1:Nat):Int)=((hi / y1:Nat):Int):=by
   have:=Nat.div_le_self hi y1;rw [IntKind.wrap_u64];omega
  have em:(hi:Int) % (y1:Int)=((hi % y1:Nat):Int):=by push_cast;rfl
  have hdne:((y1:Int) == 0)=false:=by rw [beq_eq_false_iff_ne];omega
  have Hq1:=jX hq1;have Em:=jX em;generalize hi / y1=g0 at *;generalize hi % y1=r0 at *;clear hq1 hhie;go_wp2_with fail;refine yad (by kernel_rfl) (by kernel_rfl) ?_
  repeat (first
   | go_big_quiet_skip
   | (go_big_quiet_want;go_big_quiet_op;go_big_quiet_on))
  refine wpQuiet_nil ?_;rintro wa ⟨⟨_,hk_wa⟩,rfl⟩;have hxa:=hk_wa.heap Hxw.out (by simp);have hya:=hk_wa.heap Hyw.out (by simp);have ky1:=yao hya (by rw [yab hya,← yab Hyw.out];exact Cy1.out);have Hk_wa:=jX hk_wa;clear hk_wa hxa hya kxt kx1;go_wp2_with fail;refine yad (by kernel_rfl) (by kernel_rfl) ?_
  repeat (first
   | go_big_quiet_skip
   | (go_big_quiet_want;go_big_quiet_op;go_big_quiet_on))
  refine wpQuiet_nil ?_;rintro wb ⟨⟨_,hk_wb⟩,rfl⟩;have hkb:=Hk_wa.out.tz hk_wb;clear Hk_wa hk_wb ky1 i1 i3 ed ed2 em hor hdne;have Hkb:=jX hkb;clear hkb;go_upto_block 2 with fail
  go_cut [18] (fun gv wx=>∃ g:Nat,gv = .int .u64 (g:Int)∧q≤g∧g≤q+1∧g<4294967296∧Keep [] wo wx)
  case first =>
   go_wp2_with fail;go_loopw [18,19] (fun gv rv wx=>∃ g r:Nat,gv = .int .u64 (g:Int)∧rv = .int .u64 (r:Int)∧y1*g+r=hi∧q≤g∧r<4294967296∧Keep [] wo wx) (fun gv _ _=>(intOf gv).toNat)
   case atStart=>exact ⟨g0,r0,rfl,congrArg (Value.int .u64) Em.out,Hq1.out,hqg,by omega,Hkb.out⟩
   case round =>
    obtain⟨g,r,rfl,rfl,hsum,hqg',hr9,hkw⟩:=hrel;have hxa:=hkw.heap Hxw.out (by simp);have hya:=hkw.heap Hyw.out (by simp);have kx2:=yao hxa (by rw [yab hxa,← yab Hxw.out];exact Cx2.out);have ky2:=yao hya (by rw [yab hya,← yab Hyw.out];exact Cy2.out);have ky1:=(by rw [yab hya,← yab Hyw.out];exact Cy1.out:wr.cell? ⟨gy,n-1,none⟩=some (.int .u32 (y1:Int)));have Hya:=jX hya;have Hkw:=jX hkw;have Hsum:=jX hsum;have Hqg:=jX hqg';have Ky1:=jX ky1;clear hxa hya hkw hsum hqg' ky1;by_cases hbig:4294967296≤g
    ·have hd1:decide ((4294967296:Int)≤(g:Int))=true:=by simp;omega
     have hi64':g<18446744073709551616:=by
      have:=Hsum.out;have h2:1*g≤y1*g:=Nat.mul_le_mul_right _ hy1;omega
     clear kx2 ky2 hor2;go_wp2_with fail;refine yad (by kernel_rfl) (by kernel_rfl) ?_
     repeat (first
      | go_big_quiet_skip
      | (go_big_quiet_want;go_big_quiet_op;go_big_quiet_on))
     refine wpQuiet_nil ?_;rintro wc ⟨⟨_,hk_wc⟩,rfl⟩;have hqlt:q<g:=by omega
     have hyc:=hk_wc.heap Hya.out (by simp);have cyc:wc.cell? ⟨gy,n-1,none⟩=some (.int .u32 (y1:Int)):=by rw [yab hyc,← yab Hya.out];exact Ky1.out
     have Hkc:=jX (Hkw.out.tz hk_wc)
     have hsum1:y1*(g-1)+(r+y1)=hi:=by
      have h1:y1*g=y1*(g-1)+y1:=by rw [← Nat.mul_succ];congr 1;omega
      have:=Hsum.out;omega
     have Hsum1:=jX hsum1;have hi3:((n:Int)-1).toNat=n-1:=by omega
     clear hk_wc hyc hsum1;by_cases hb:4294967296≤r+y1
     ·have hd3:decide ((4294967296:Int)≤(r:Int)+(y1:Int))=true:=by simp;omega
      go_wp2_with fail;go_meet
      have hglt:g-1<4294967296:=by
       rcases Nat.lt_or_ge (g-1) 4294967296 with h|h
       ·exact h
       exfalso;have h1:y1*4294967296≤y1*(g-1):=Nat.mul_le_mul_left _ h;have:=Hsum1.out;omega
      have hsum2:(g-1)*y1+(r+y1)=xt*4294967296+x1:=by rw [Nat.mul_comm,Hhi.out];exact Hsum1.out
      exact ⟨g-1,congrArg (Value.int .u64) (by omega),by omega,Hgood.out _ hglt (yhF hsum2 (yil hsum2 hglt hy29 hb)),hglt,Hkc.out⟩
     have hd3:decide ((4294967296:Int)≤(r:Int)+(y1:Int))=false:=by simp;omega
     go_wp2_with fail;go_roundw
     case rel=>exact ⟨g-1,r+y1,congrArg (Value.int .u64) (by omega),congrArg (Value.int .u64) (by omega),Hsum1.out,by omega,by omega,Hkc.out⟩
     case measure=>simp [intOf];omega
    have hd1:decide ((4294967296:Int)≤(g:Int))=false:=by simp;omega
    obtain⟨G,hG⟩:∃ G,g*y2=G:=⟨_,rfl⟩;have hG9:G≤4294967295*4294967295:=by rw [← hG];exact Nat.mul_le_mul (by omega) (by omega)
    have hG1:(g:Int)*(y2:Int)=(G:Int):=by rw [← hG];push_cast;rfl
    have hG2:IntKind.u64.wrap (G:Int)=(G:Int):=by rw [IntKind.wrap_u64];omega
    have hor3:=hor2 r hr9 hx29;obtain⟨T,hT⟩:∃ T,r*4294967296+x2=T:=⟨_,rfl⟩;have hT9:T<18446744073709551616:=by omega
    rw [hT] at hor3;have HG:=jX hG;have HT:=jX hT;clear hG hT hor2;by_cases hbad:T<G
    ·have hd2:decide ((T:Int)<(G:Int))=true:=by simpa using hbad
     have hqlt:q<g:=Hdec.out g r (by rw [Nat.mul_comm,Hhi.out];exact Hsum.out) (by rw [HT.out,HG.out];exact hbad);go_wp2_with fail;refine yad (by kernel_rfl) (by kernel_rfl) ?_
     repeat (first
      | go_big_quiet_skip
      | (go_big_quiet_want;go_big_quiet_op;go_big_quiet_on))
     refine wpQuiet_nil ?_;rintro wc ⟨⟨_,hk_wc⟩,rfl⟩;clear kx2 ky2 hG1 hG2 hor3 hd2;have hyc:=hk_wc.heap Hya.out (by simp);have cyc:wc.cell? ⟨gy,n-1,none⟩=some (.int .u32 (y1:Int)):=by rw [yab hyc,← yab Hya.out];exact Ky1.out
     have Hkc:=jX (Hkw.out.tz hk_wc)
     have hsum1:y1*(g-1)+(r+y1)=hi:=by
      have h1:y1*g=y1*(g-1)+y1:=by rw [← Nat.mul_succ];congr 1;omega
      have:=Hsum.out;omega
     have Hsum1:=jX hsum1;have hi3:((n:Int)-1).toNat=n-1:=by omega
     clear hk_wc hyc hsum1;by_cases hb:4294967296≤r+y1
     ·have hd3:decide ((4294967296:Int)≤(r:Int)+(y1:Int))=true:=by simp;omega
      go_wp2_with fail;go_meet
      have hglt:g-1<4294967296:=by
       rcases Nat.lt_or_ge (g-1) 4294967296 with h|h
       ·exact h
       exfalso;have h1:y1*4294967296≤y1*(g-1):=Nat.mul_le_mul_left _ h;have:=Hsum1.out;omega
      have hsum2:(g-1)*y1+(r+y1)=xt*4294967296+x1:=by rw [Nat.mul_comm,Hhi.out];exact Hsum1.out
      exact ⟨g-1,congrArg (Value.int .u64) (by omega),by omega,Hgood.out _ hglt (yhF hsum2 (yil hsum2 hglt hy29 hb)),hglt,Hkc.out⟩
     have hd3:decide ((4294967296:Int)≤(r:Int)+(y1:Int))=false:=by simp;omega
     go_wp2_with fail;go_roundw
     case rel=>exact ⟨g-1,r+y1,congrArg (Value.int .u64) (by omega),congrArg (Value.int .u64) (by omega),Hsum1.out,by omega,by omega,Hkc.out⟩
     case measure=>simp [intOf];omega
    have hd2:decide ((T:Int)<(G:Int))=false:=by simpa using hbad
    have hgood:=Hgood.out g (by omega) (yhF (rest:=r) (by rw [Nat.mul_comm,Hhi.out];exact Hsum.out) (by rw [HT.out,HG.out];omega));have Hgood2:=jX hgood;clear hgood;go_wp2_with fail;refine yad (by kernel_rfl) (by kernel_rfl) ?_
    repeat (first
     | go_big_quiet_skip
     | (go_big_quiet_want;go_big_quiet_op;go_big_quiet_on))
    refine wpQuiet_nil ?_;rintro wc ⟨⟨_,hk_wc⟩,rfl⟩;have Hkc:=jX (Hkw.out.tz hk_wc);clear hk_wc kx2 ky2 hG1 hG2 hor3 hd2;go_wp2_with fail;go_meet
    exact ⟨g,rfl,Hqg.out,Hgood2.out,by omega,Hkc.out⟩
  case rest =>
   obtain⟨g,rfl,hg1,hg2,hg9,hkc⟩:=hcut;obtain⟨hW1,hW2⟩:=kn_W (Z:=Z) (j:=j) (show 0<4294967296 by decide) HY.out (by rw [Eq.out];exact hg2) hg9
   obtain⟨hleft1,hleft2⟩:=kn_left (show 0<4294967296 by decide) HY.out hZ Eq.out hg1 hg2 hg9
   have hkd:=fun i hi=>kn_digit (i:=i) (show 0<4294967296 by decide) hi hW1
   have hS:=kn_S (Z:=Z) hW2 (by decide);have hb0:yaB 4294967296 j (Z+4294967296 ^ (j+n+1)) (g*Y*4294967296 ^ j)=0:=kn_b0
   have hlast:=kn_last (B:=4294967296) (k:=j+n+1) rfl (Z:=Z) (by
    refine Nat.lt_trans hZ ?_;rw [show j+n+1=n+(j+1) by omega,Nat.pow_add 4294967296 n (j+1)]
    exact Nat.mul_lt_mul_of_pos_right HY.out (Nat.pow_pos (show 0<4294967296 by decide))) hW2
   have hZM:Z<4294967296 ^ (j+n+1):=by
    refine Nat.lt_trans hZ ?_;rw [show j+n+1=n+(j+1) by omega,Nat.pow_add 4294967296 n (j+1)]
    exact Nat.mul_lt_mul_of_pos_right HY.out (Nat.pow_pos (show 0<4294967296 by decide))
   generalize hMe:4294967296 ^ (j+n+1)=M at *;generalize hWe:g*Y*4294967296 ^ j=Wg at *;obtain⟨S2,hS2⟩:∃ S2,Z+M-Wg=S2:=⟨_,rfl⟩;simp only [hS2] at hkd hleft1 hleft2 hS;have Hkd:=jX hkd;have Hl1:=jX hleft1;have Hl2:=jX hleft2;have HS:=jX hS;have Hb0:=jX hb0;have Hlast:=jX hlast;have HZM:=jX hZM;have HM:=jX hMe;have Hkc:=jX hkc;have Hxc:=jX (hkc.heap Hxw.out (by simp));clear hkd hleft1 hleft2 hS hb0 hlast hZM hMe hWe hS2 hkc hW1 hW2 Hdec Hgood hhi hqg hr1 hi64 hor2 Hq1 Em;obtain⟨wd,rfl⟩:∃ wd:World,wd=wc:=⟨_,rfl⟩;have hi3:((n:Int)-1).toNat=n-1:=by omega
   go_wp2_with fail;go_loopw [20,21,168] (fun bv cv iv wx=>∃ i:Nat,i≤n∧iv = .int .i64 (i:Int)∧cv = .int .u64 (yaw 4294967296 i 0 g Y:Nat)∧bv = .int .i64 (yaB 4294967296 (j+i) (Z+M) Wg:Nat)∧Keep [gx] wo wx∧wx.heap[gx]? = some (.cells (u32s (mixd 4294967296 L (j+i) Z S2)).toArray 230 (0,0))) (fun _ _ iv _=>n-(intOf iv).toNat)
   case atStart =>
    refine ⟨0,by omega,rfl,by rw [ycd];rfl,by rw [Nat.add_zero,Hb0.out];rfl,Hkc.out.mono (by simp),?_⟩;rw [Nat.add_zero,HS.out,ycv (by decide)];exact Hxc.out
   case round =>
    obtain⟨i,hi,rfl,rfl,rfl,hkw,hxw2⟩:=hrel;have hyw:=hkw.heap Hyw.out (by simp;omega);by_cases hlt:i<n
    ·have hijL:j+i<L:=by omega
     have hcx:=yaL hxw2 hijL;have hcy:=yaC hyw i (by omega);have hyl:=yaa hyw;have hxl:=yaa hxw2;have hxf:=yae hxw2;obtain⟨hs1,hs2⟩:=Hkd.out i (by omega);have Hcs:=jX (kn_carry (show 0<4294967296 by decide) i g Y)
     have hset:=jX (yaV 4294967296 L (j+i) Z S2 hijL);have hb1:=ygv 4294967296 (j+i) (Z+M) Wg;have hc9:=ybh (show 0<4294967296 by decide) i 0 g Y hg9
     have hx9:=Nat.mod_lt (Z / 4294967296 ^ (j+i)) (show 0<4294967296 by decide)
     have hy9:=Nat.mod_lt (Y / 4294967296 ^ i) (show 0<4294967296 by decide)
     have hsd9:=Nat.mod_lt (S2 / 4294967296 ^ (j+i)) (show 0<4294967296 by decide)
     have Hkw:=jX hkw;have Hxw2:=jX hxw2;clear hkw hxw2 hyw;generalize Z / 4294967296 ^ (j+i) % 4294967296=x at *;generalize Y / 4294967296 ^ i % 4294967296=y at *;generalize S2 / 4294967296 ^ (j+i) % 4294967296=sd at *;generalize yaw 4294967296 i 0 g Y=cc at *;generalize yaB 4294967296 (j+i) (Z+M) Wg=b at *;rw [Nat.add_comm j i] at hcx;have hij2:i+j<L:=by omega
     obtain⟨G,hG⟩:∃ G,g*y=G:=⟨_,rfl⟩;have hG9:G≤4294967295*4294967295:=by rw [← hG];exact Nat.mul_le_mul (by omega) (by omega)
     have hG1:(g:Int)*(y:Int)=(G:Int):=by rw [← hG];push_cast;rfl
     rw [hG] at hs1 hs2 Hcs;clear hG;obtain⟨wd9,hwd⟩:∃ wd9,(cc+G) % 4294967296=wd9:=⟨_,rfl⟩;have hwd2:((cc:Int)+(G:Int)) % 4294967296=(wd9:Int):=by omega
     have hwd9:wd9<4294967296:=by omega
     rw [hwd] at hs1 hs2;clear hwd;by_cases hbz0:x<wd9+b
     ·obtain⟨e1,e2⟩:=hs1 hbz0
      have He1:=jX e1;have hbz:(x:Int)-b-wd9<0:=by omega
      have hd2:(x:Int)-b-wd9+4294967296=sd:=by omega
      clear hs1 hs2 e1 e2;go_wp2_with fail;go_roundw
      case rel =>
       refine ⟨i+1,by omega,by go_num,?_,?_,(Hkw.out.trans (Keep.setCell [gx] _ gx _ _ (by simp)) (by simp)),?_⟩
       ·rw [← Hcs.out];exact congrArg (Value.int .u64) (by omega)
       ·rw [← Nat.add_assoc,He1.out];rfl
       rw [set_same Hxw2.out,List.setIfInBounds_toArray,u32s_set,Nat.add_comm i j,hset.out];rfl
      case measure=>simp [intOf];omega
     obtain⟨e1,e2⟩:=hs2 hbz0;have He1:=jX e1;have hbz:¬ (x:Int)-b-wd9<0:=by omega
     have hd2:(x:Int)-b-wd9=sd:=by omega
     clear hs1 hs2 e1 e2;go_wp2_with fail;go_roundw
     case rel =>
      refine ⟨i+1,by omega,by go_num,?_,?_,(Hkw.out.trans (Keep.setCell [gx] _ gx _ _ (by simp)) (by simp)),?_⟩
      ·rw [← Hcs.out];exact congrArg (Value.int .u64) (by omega)
      ·rw [← Nat.add_assoc,He1.out];rfl
      rw [set_same Hxw2.out,List.setIfInBounds_toArray,u32s_set,Nat.add_comm i j,hset.out];rfl
     case measure=>simp [intOf];omega
    obtain rfl:i=n:=by omega
    have hijL:j+i<L:=by omega
    have hcx:=yaL hxw2 hijL;have hxl:=yaa hxw2;have hxf:=yae hxw2;obtain⟨hs1,hs2⟩:=Hkd.out i (by omega);rw [kn_end (by decide) HY.out hg9] at hs1 hs2;have hset:=jX (yaV 4294967296 L (j+i) Z S2 hijL);have hlow:=yir (L:=L) (i:=j+i+1) (S:=S2) (show 0<4294967296 by decide) (show Z<4294967296 ^ (j+i+1) by rw [HM.out];exact HZM.out)
    rw [HM.out] at hlow;have Hlow:=jX hlow;have hb1:=ygv 4294967296 (j+i) (Z+M) Wg;have hc9:=ybh (show 0<4294967296 by decide) i 0 g Y hg9
    have hx9:=Nat.mod_lt (Z / 4294967296 ^ (j+i)) (show 0<4294967296 by decide)
    have hsd9:=Nat.mod_lt (S2 / 4294967296 ^ (j+i)) (show 0<4294967296 by decide)
    have Hkw:=jX hkw;have Hxw2:=jX hxw2;have hol2:=Hkp.out;clear hkw hxw2 hyw hlow;generalize Z / 4294967296 ^ (j+i) % 4294967296=x at *;generalize S2 / 4294967296 ^ (j+i) % 4294967296=sd at *;generalize yaw 4294967296 i 0 g Y=cc at *;generalize yaB 4294967296 (j+i) (Z+M) Wg=b at *;by_cases hbz0:x<cc+b
    ·obtain⟨e1,e2⟩:=hs1 hbz0
     have hzw:Z<Wg:=by
      have h1:=Hlast.out;rw [e1] at h1;by_cases h:Z<Wg
      ·exact h
      rw [if_neg h] at h1;omega
     obtain⟨eg,hS2M,hfin⟩:=Hl2.out hzw;have hbz:(x:Int)-b-cc<0:=by omega
     have hd2:((x:Int)-b-cc) % 4294967296=sd:=by omega
     have Hfin:=jX hfin;have HS2M:=jX hS2M;have hgq:(g:Int)-1=(q:Int):=by omega
     have hg1':1≤g:=by omega
     obtain⟨wx8,hwx8⟩:∃ wx8,wx8=wr.setCell ⟨gx,j+i,none⟩ (.int .u32 (sd:Int)):=⟨_,rfl⟩;have hk8:Keep [gx] wo wx8:=by rw [hwx8];exact Hkw.out.trans (Keep.setCell [gx] _ gx _ _ (by simp)) (by simp)
     have hx8:wx8.heap[gx]? = some (.cells (u32s (dl 4294967296 L S2)).toArray 230 (0,0)):=by
      rw [hwx8,set_same Hxw2.out,List.setIfInBounds_toArray,u32s_set,hset.out,Hlow.out,Nat.mod_eq_of_lt HS2M.out]
     have Hk8:=jX hk8;have Hx8:=jX hx8;have hwx8':=hwx8.symm;clear hs1 hs2 e1 e2 eg hfin hS2M hk8 hx8 hwx8;go_wp2_with fail;clear hwx8' hd2 hbz hcx hxl hxf;obtain⟨wx7,rfl⟩:∃ wx7:World,wx7=wr:=⟨_,rfl⟩;obtain⟨n,rfl⟩:∃ n,n=i:=⟨_,rfl⟩;go_loopw [25,231] (fun cv iv wx=>∃ i:Nat,i≤n∧iv = .int .i64 (i:Int)∧cv = .int .u64 (yaw 4294967296 i (S2 / 4294967296 ^ j) 1 Y:Nat)∧Keep [gx] wo wx∧wx.heap[gx]? = some (.cells (u32s (mixd 4294967296 L (j+i) S2 (S2+4294967296 ^ j*(1*Y)))).toArray 230 (0,0))) (fun _ iv _=>n-(intOf iv).toNat)
     case atStart=>exact ⟨0,by omega,rfl,by rw [ycd];rfl,Hk8.out,by rw [Nat.add_zero,ycv (by decide)];exact Hx8.out⟩
     case round =>
      obtain⟨i,hi,rfl,rfl,hkw,hxw2⟩:=hrel;have hyw:=hkw.heap Hyw.out (by simp;omega);by_cases hlt:i<n
      ·have hijL:j+i<L:=by omega
       have hcx:=yaL hxw2 hijL;rw [yay] at hcx;have hcy:=yaC hyw i (by omega);have hd:=ycR (show 0<4294967296 by decide) j i S2 1 Y
       have hs:=ybH (show 0<4294967296 by decide) i (S2 / 4294967296 ^ j) 1 Y
       have hc1:=ybh (show 0<4294967296 by decide) i (S2 / 4294967296 ^ j) 1 Y (by decide)
       have hset:=jX (yaV 4294967296 L (j+i) S2 (S2+4294967296 ^ j*(1*Y)) hijL);have ho9:=Nat.mod_lt (S2 / 4294967296 ^ j / 4294967296 ^ i) (show 0<4294967296 by decide)
       have hy9:=Nat.mod_lt (Y / 4294967296 ^ i) (show 0<4294967296 by decide)
       generalize S2 / 4294967296 ^ j / 4294967296 ^ i % 4294967296=o at *;generalize Y / 4294967296 ^ i % 4294967296=y at *;generalize yaw 4294967296 i (S2 / 4294967296 ^ j) 1 Y=cc2 at *;rw [Nat.one_mul] at hd hs;have Hd:=jX hd;have Hs:=jX hs;rw [Nat.add_comm j i] at hcx;have hij2:i+j<L:=by omega
       have kx:=yao hxw2 hcx;have ky:=yao hyw hcy;have Hxw2:=jX hxw2;have Hkw2:=jX hkw;clear hd hs hcx hcy hxw2 hkw hyw;go_wp2_with fail;refine yad (by kernel_rfl) (by kernel_rfl) ?_
       repeat (first
        | go_big_quiet_skip
        | (go_big_quiet_want;go_big_quiet_op;go_big_quiet_on))
       refine wpQuiet_nil ?_;rintro wq ⟨⟨_,hk_wq⟩,rfl⟩;have hxq:=hk_wq.heap Hxw2.out (by simp);have hlq:=yaa hxq;have hfq:=yae hxq;have hcq:=kx ⟨wq,hk_wq⟩;have hcq2:wq.cell? ⟨gx,i+j,none⟩=some (.int .u32 (o:Int)):=hcq;have Hxq:=jX hxq;have Hkq:=jX (Hkw2.out.trans hk_wq (by simp));clear hxq hk_wq kx ky hcq;go_wp2_with fail;go_roundw
       case rel =>
        refine ⟨i+1,by omega,by go_num,?_,Hkq.out.trans (Keep.setCell [gx] _ gx _ _ (by simp)) (by simp),?_⟩
        ·rw [← Hs.out];exact congrArg (Value.int .u64) (by omega)
        have e:(((cc2:Int)+((o:Int)+(y:Int))) % 4294967296)=(((cc2+o+y) % 4294967296:Nat):Int):=by omega
        rw [set_same Hxq.out,e,Hd.out,List.setIfInBounds_toArray,u32s_set,Nat.add_comm i j,hset.out];rfl
       case measure=>simp [intOf];omega
      obtain rfl:i=n:=by omega
      have hijL:j+i<L:=by omega
      have hcx:=yaL hxw2 hijL;have hd:=yiV (T:=S2) (j:=j) (show 0<4294967296 by decide) HY.out
      have hc1:=ybh (show 0<4294967296 by decide) i (S2 / 4294967296 ^ j) 1 Y (by decide)
      have hset:=jX (yaV 4294967296 L (j+i) S2 (S2+4294967296 ^ j*(1*Y)) hijL);have ho9:=Nat.mod_lt (S2 / 4294967296 ^ (j+i)) (show 0<4294967296 by decide)
      have hlow:=yir (L:=L) (i:=j+i+1) (S:=S2+4294967296 ^ j*(1*Y)) (show 0<4294967296 by decide) (show S2<4294967296 ^ (j+i+1) by rw [HM.out];exact HS2M.out)
      rw [HM.out] at hlow;generalize S2 / 4294967296 ^ (j+i) % 4294967296=o at *;generalize yaw 4294967296 i (S2 / 4294967296 ^ j) 1 Y=cc2 at *;have hfx:=yae hxw2;have hlx:=yaa hxw2;obtain⟨wx9,hwx9⟩:∃ wx9,wx9=wr.setCell ⟨gx,j+i,none⟩ (.int .u32 (((o:Int)+(cc2:Int)) % 4294967296)):=⟨_,rfl⟩;have hk9:Keep [gx] wo wx9:=by rw [hwx9];exact hkw.trans (Keep.setCell [gx] _ gx _ _ (by simp)) (by simp)
      have hx9:wx9.heap[gx]? = some (.cells (u32s (dl 4294967296 L (Z % (Y*4294967296 ^ j)))).toArray 230 (0,0)):=by
       have e:(((o:Int)+(cc2:Int)) % 4294967296)=(((o+cc2) % 4294967296:Nat):Int):=by omega
       rw [hwx9,set_same hxw2,e,hd,List.setIfInBounds_toArray,u32s_set,hset.out,hlow,Hfin.out]
      have how2:=hk9.heap How.out (by simp;omega);have hwx9':=hwx9.symm;clear hwx9 hd hlow hxw2 hkw hyw;have hqo:=kn_quo (B:=4294967296) (j:=j) (A:=Av) (Y:=Y) (by decide);rw [HZe.out,Eq.out] at hqo;have hsetq:=ydN (B:=4294967296) (Q:=Av / Y) (X:=0) hJ';rw [← hqo] at hsetq;have hnx2:=kn_next (B:=4294967296) (j:=j) (A:=Av) (Y:=Y) (by decide);rw [HZe.out] at hnx2;have hof:=yae how2;have hol:=yaa how2;have hoc:=ycq how2 hJ';have Hsetq:=jX hsetq;have Hnx2:=jX hnx2;have How2:=jX how2;have Hx9:=jX hx9;have Hk9:=jX hk9;clear hqo hsetq hnx2 how2 hx9 hk9;go_wp2_with fail;go_roundw
      case rel =>
       refine ⟨j,by omega,rfl,((Hkp.out.trans Hk9.out (by simp)).sP _ _ _ (Nat.le_refl _)),?_,?_⟩
       ·rw [ygJ _ _ (by omega),Hx9.out,Hnx2.out]
       rw [set_same How2.out,List.setIfInBounds_toArray,u32s_set,Hsetq.out]
      case measure=>simp [intOf]
    obtain⟨e1,e2⟩:=hs2 hbz0
    have hzw:¬ Z<Wg:=by
     have h1:=Hlast.out;rw [e1] at h1;by_cases h:Z<Wg
     ·rw [if_pos h] at h1;omega
     exact h
    obtain⟨eg,hfin⟩:=Hl1.out hzw;have hbz:¬ (x:Int)-b-cc<0:=by omega
    have hd2:(x:Int)-b-cc=sd:=by omega
    have Hfin:=jX hfin;obtain⟨wx9,hwx9⟩:∃ wx9,wx9=wr.setCell ⟨gx,j+i,none⟩ (.int .u32 (sd:Int)):=⟨_,rfl⟩;have hk9:Keep [gx] wo wx9:=by rw [hwx9];exact Hkw.out.trans (Keep.setCell [gx] _ gx _ _ (by simp)) (by simp)
    have hx9:wx9.heap[gx]? = some (.cells (u32s (dl 4294967296 L (Z % (Y*4294967296 ^ j)))).toArray 230 (0,0)):=by
     rw [hwx9,set_same Hxw2.out,List.setIfInBounds_toArray,u32s_set,hset.out,Hlow.out,Hfin.out]
    have how2:=hk9.heap How.out (by simp;omega);subst eg;have hwx9':=hwx9.symm;clear hs1 hs2 e1 e2 hfin hwx9;have hqo:=kn_quo (B:=4294967296) (j:=j) (A:=Av) (Y:=Y) (by decide);rw [HZe.out,Eq.out] at hqo;have hsetq:=ydN (B:=4294967296) (Q:=Av / Y) (X:=0) hJ';rw [← hqo] at hsetq;have hnx2:=kn_next (B:=4294967296) (j:=j) (A:=Av) (Y:=Y) (by decide);rw [HZe.out] at hnx2;have hof:=yae how2;have hol:=yaa how2;have hoc:=ycq how2 hJ';have Hsetq:=jX hsetq;have Hnx2:=jX hnx2;have How2:=jX how2;have Hx9:=jX hx9;have Hk9:=jX hk9;clear hqo hsetq hnx2 how2 hx9 hk9;go_wp2_with fail;go_roundw
    case rel =>
     refine ⟨j,by omega,rfl,((Hkp.out.trans Hk9.out (by simp)).sP _ _ _ (Nat.le_refl _)),?_,?_⟩
     ·rw [ygJ _ _ (by omega),Hx9.out,Hnx2.out]
     rw [set_same How2.out,List.setIfInBounds_toArray,u32s_set,Hsetq.out]
    case measure=>simp [intOf]
end Go.Proofs.YtpgffjjpiafhpaaGreatDoor
