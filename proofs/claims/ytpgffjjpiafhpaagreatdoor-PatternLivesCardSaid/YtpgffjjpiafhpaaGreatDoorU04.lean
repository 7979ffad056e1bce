/- Parts of a proof: Pu Mu Pv. -/
import Derived.Lib.ItoaNum
import Derived.Test.YtpgffjjpiafhpaaGreatDoorU03
import Derived.Test.YtpgffjjpiafhpaaGreatDoorU02
set_option linter.unusedVariables false
set_option linter.unusedSimpArgs false
set_option maxRecDepth 100000
set_option maxHeartbeats 8000000
namespace Go.Proofs.YtpgffjjpiafhpaaGreatDoor
open Go.RowKit Tryz
def yaG (B k U x Y:Nat):Nat:=(U % B ^ k+x*(Y % B ^ k)) / B ^ k
theorem ycp (B U x Y:Nat):yaG B 0 U x Y=0:=by unfold yaG;simp [Nat.mod_one]
theorem ybh {B:Nat} (hB:0<B) (k U x Y:Nat) (hx:x<B):yaG B k U x Y<B:=by
 unfold yaG;have hp:0<B ^ k:=Nat.pow_pos hB;have h1:=Nat.mod_lt U hp;have h2:=Nat.mod_lt Y hp;generalize B ^ k=p at *;rw [Nat.div_lt_iff_lt_mul hp];have h3:x*(Y % p)≤(B-1)*(Y % p):=Nat.mul_le_mul_right _ (by omega);have h4:(B-1)*(Y % p)≤(B-1)*(p-1):=Nat.mul_le_mul_left _ (by omega);obtain⟨b,rfl⟩:∃ b,B=b+1:=⟨B-1,by omega⟩;obtain⟨q,rfl⟩:∃ q,p=q+1:=⟨p-1,by omega⟩;simp only [Nat.add_sub_cancel] at h3 h4;have h5:(b+1)*(q+1)=b*q+b+q+1:=by rw [Nat.add_mul,Nat.mul_add];omega
 omega
theorem ygY {B:Nat} (hB:0<B) (k U x Y:Nat):(U+x*Y) / B ^ k=yaG B k U x Y+U / B ^ k+x*(Y / B ^ k):=by
 unfold yaG;have hp:0<B ^ k:=Nat.pow_pos hB;generalize B ^ k=p at *
 have e1:U+x*Y=U % p+x*(Y % p)+p*(U / p+x*(Y / p)):=by
  have h1:=Nat.div_add_mod U p;have h2:=congrArg (x * ·) (Nat.div_add_mod Y p);simp only [Nat.mul_add] at h2;rw [Nat.mul_add];have h3:p*(x*(Y / p))=x*(p*(Y / p)):=by rw [Nat.mul_left_comm]
  omega
 rw [e1,Nat.add_mul_div_left _ _ hp];omega
theorem ycL {B:Nat} (hB:0<B) (k U x Y:Nat):(yaG B k U x Y+U / B ^ k % B+x*(Y / B ^ k % B)) % B=(U+x*Y) / B ^ k % B:=by
 rw [ygY hB];generalize yaG B k U x Y=c;generalize U / B ^ k=u;generalize Y / B ^ k=y;rw [Nat.add_mod (c+u % B),Nat.mul_mod_mod,Nat.add_mod_mod c u,Nat.mod_add_mod,Nat.add_mod_mod]
theorem ycx {B:Nat} (hB:0<B) (k U x Y:Nat):(yaG B k U x Y+U / B ^ k % B+x*(Y / B ^ k % B)) / B=yaG B (k+1) U x Y:=by
 unfold yaG;have hp:0<B ^ k:=Nat.pow_pos hB;rw [Nat.pow_succ,Nat.mod_mul,Nat.mod_mul];generalize B ^ k=p at *;rw [← Nat.div_div_eq_div_mul]
 have e1:U % p+p*(U / p % B)+x*(Y % p+p*(Y / p % B))=U % p+x*(Y % p)+p*(U / p % B+x*(Y / p % B)):=by
  rw [Nat.mul_add,Nat.mul_add,Nat.mul_left_comm x p];omega
 rw [e1,Nat.add_mul_div_left _ _ hp,Nat.add_assoc]
theorem yaQ (B i k A:Nat):A / B ^ (i+k)=A / B ^ i / B ^ k:=by rw [Nat.pow_add,Nat.div_div_eq_div_mul]
theorem yfO {B:Nat} (hB:0<B) (i A x Y:Nat):(A+B ^ i*(x*Y)) / B ^ i=A / B ^ i+x*Y:=Nat.add_mul_div_left _ _ (Nat.pow_pos hB)
theorem yiT (B i X Y:Nat):X % B ^ i*Y+B ^ i*(X / B ^ i % B*Y)=X % B ^ (i+1)*Y:=by
 rw [Nat.pow_succ,Nat.mod_mul,Nat.add_mul,Nat.mul_assoc]
theorem yfP {B m Y:Nat} (i X:Nat) (hB:0<B) (hY:Y<B ^ m):X % B ^ i*Y<B ^ (i+m):=by
 have h1:=Nat.mod_lt X (Nat.pow_pos hB (n:=i));rw [Nat.pow_add];exact Nat.mul_lt_mul'' h1 hY
theorem yik {B L i X S:Nat} (hB:0<B) (hX:X<B ^ i) (hS:S<B ^ i):mixd B L i X S=dl B L S:=by
 unfold mixd dl;apply List.map_congr_left;intro j hj;by_cases h:j<i
 ·rw [if_pos h]
 rw [if_neg h];have hle:B ^ i≤B ^ j:=Nat.pow_le_pow_right hB (by omega);rw [Nat.div_eq_of_lt (Nat.lt_of_lt_of_le hX hle),Nat.div_eq_of_lt (Nat.lt_of_lt_of_le hS hle)]
theorem digit_mod {B:Nat} (hB:0<B) {i k:Nat} (h:i<k) (N:Nat):N % B ^ k / B ^ i % B=N / B ^ i % B:=by
 obtain⟨m,rfl⟩:∃ m,k=i+(m+1):=⟨k-i-1,by omega⟩;rw [Nat.pow_add,Nat.mod_mul_right_div_self,Nat.pow_succ,Nat.mod_mul_left_mod]
theorem yiM {B L i X S:Nat} (hB:0<B) (hX:X<B ^ i):mixd B L i X S=dl B L (S % B ^ i):=by
 unfold mixd dl;apply List.map_congr_left;intro j hj;by_cases h:j<i
 ·rw [if_pos h,digit_mod hB h]
 rw [if_neg h];have hle:B ^ i≤B ^ j:=Nat.pow_le_pow_right hB (by omega);rw [Nat.div_eq_of_lt (Nat.lt_of_lt_of_le hX hle),Nat.div_eq_of_lt (Nat.lt_of_lt_of_le (Nat.mod_lt _ (Nat.pow_pos hB)) hle)]
theorem ycY {B L i A t:Nat} (hB:0<B):mixd B L i A (A+B ^ i*t)=dl B L A:=by
 unfold mixd dl;apply List.map_congr_left;intro j hj;by_cases h:j<i
 ·rw [if_pos h]
  obtain⟨m,rfl⟩:∃ m,i=j+(m+1):=⟨i-j-1,by omega⟩;rw [Nat.pow_add,Nat.mul_assoc,Nat.add_mul_div_left _ _ (Nat.pow_pos hB),Nat.pow_succ,Nat.mul_comm (B ^ m),Nat.mul_assoc,Nat.add_mul_mod_self_left]
 rw [if_neg h]
theorem yfe {B:Nat} (hB:0<B) (i k A d Y:Nat):(yaG B k (A / B ^ i) d Y+A / B ^ i / B ^ k % B+d*(Y / B ^ k % B)) % B=(A+B ^ i*(d*Y)) / B ^ (i+k) % B:=by
 rw [ycL hB,yaQ B i k (A+B ^ i*(d*Y)),yfO hB]
theorem yeX {B i m A d Y:Nat} (hB:0<B) (hA:A<B ^ (i+m)) (hY:Y<B ^ m) (hd:d<B):(A+B ^ i*(d*Y)) / B ^ (i+m) % B=yaG B m (A / B ^ i) d Y:=by
 rw [yaQ,yfO hB,ygY hB,Nat.div_eq_of_lt hY,Nat.div_div_eq_div_mul,← Nat.pow_add,Nat.div_eq_of_lt hA,Nat.mul_zero,Nat.add_zero];exact Nat.mod_eq_of_lt (ybh hB _ _ _ _ hd)
theorem short_rem (B i X d:Nat):(X / B ^ (i+1) % d*B+X / B ^ i % B) % d=X / B ^ i % d:=by
 have e:X / B ^ i=B*(X / B ^ (i+1))+X / B ^ i % B:=by rw [Nat.pow_succ,← Nat.div_div_eq_div_mul,Nat.div_add_mod]
 generalize X / B ^ i % B=x at *;rw [e,Nat.mul_comm B];rw [Nat.add_mod,Nat.mod_mul_mod,← Nat.add_mod]
theorem short_quo {B:Nat} (hB:0<B) (i X d:Nat) (hd:0<d):(X / B ^ (i+1) % d*B+X / B ^ i % B) / d=X / d / B ^ i % B:=by
 have e:X / B ^ i=B*(X / B ^ (i+1))+X / B ^ i % B:=by rw [Nat.pow_succ,← Nat.div_div_eq_div_mul,Nat.div_add_mod]
 rw [show X / d / B ^ i=X / B ^ i / d by rw [Nat.div_div_eq_div_mul,Nat.div_div_eq_div_mul,Nat.mul_comm]]
 have hx:=Nat.mod_lt (X / B ^ i) hB;generalize X / B ^ i % B=x at *;rw [e];generalize X / B ^ (i+1)=u;have h1:=Nat.div_add_mod u d;have hr:=Nat.mod_lt u hd
 have e2:B*u+x=(u % d*B+x)+d*(B*(u / d)):=by
  have h2:=congrArg (B * ·) h1;simp only [Nat.mul_add] at h2;have h3:d*(B*(u / d))=B*(d*(u / d)):=Nat.mul_left_comm _ _ _;have h4:u % d*B=B*(u % d):=Nat.mul_comm _ _;omega
 rw [e2,Nat.add_mul_div_left _ _ hd,Nat.add_mul_mod_self_left];refine (Nat.mod_eq_of_lt ?_).symm;rw [Nat.div_lt_iff_lt_mul hd];have h5:(u % d+1)*B≤d*B:=Nat.mul_le_mul_right _ (by omega);have h6:(u % d+1)*B=u % d*B+B:=Nat.succ_mul _ _;have h7:d*B=B*d:=Nat.mul_comm _ _;omega
theorem kn_first {R Y p:Nat} (hp:0<p) (hY:0<Y / p):R / Y≤R / p / (Y / p):=by
 rw [Nat.le_div_iff_mul_le hY,Nat.le_div_iff_mul_le hp,Nat.mul_assoc];have h1:Y / p*p≤Y:=Nat.div_mul_le_self Y p;have h2:R / Y*Y≤R:=Nat.div_mul_le_self R Y;exact Nat.le_trans (Nat.mul_le_mul_left _ h1) h2
theorem kn_dec {B y1 y2 x2 P Xl Yl g rest high:Nat} (hP:0<P) (hX:Xl<P) (h:g*y1+rest=high) (hbad:rest*B+x2<g*y2) :
  ((high*B+x2)*P+Xl) / ((y1*B+y2)*P+Yl)<g:=by
 refine kn_up hP hX ?_;rw [← h,Nat.add_mul,Nat.mul_add,Nat.mul_assoc g];omega
theorem yhI {B y1 y2 x2 g rest high:Nat} (h:g*y1+rest=high) (hok:g*y2≤rest*B+x2):g*(y1*B+y2)≤high*B+x2:=by
 rw [← h,Nat.add_mul,Nat.mul_add,Nat.mul_assoc g];omega
theorem yiL {B y1 y2 x2 g rest high:Nat} (h:g*y1+rest=high) (hg:g<B) (hy:y2<B) (hr:B≤rest):g*y2≤rest*B+x2:=by
 have h1:g*y2≤B*B:=Nat.mul_le_mul (by omega) (by omega);have h2:B*B≤rest*B:=Nat.mul_le_mul_right _ hr;omega
theorem mul_long (s t:ByteArray) (hs:s.size≤100000000000) (ht:t.size≤100000000000) (h8:¬ (s.size≤8∧t.size≤8)) (w:World) :
  Calls prog 194 #[.string s,.string t] w fun e w'=>e = .returned (.string (magS (natB s*natB t)))∧Keep [] w w':=by
 have Hw:=jX (ydl s t h8 (by unfold maxLen;omega) (by unfold maxLen;omega) w);obtain⟨n,X,eX,_,hn,hX,Hds⟩:=ybe s (by omega);obtain⟨m,Y,eY,_,hm,hY,Hdt⟩:=ybe t (by omega);rw [eX,eY];clear h8 hs ht eX eY;have Hds:=jX Hds;have Hdt:=jX Hdt;have HX:=jX hX;have HY:=jX hY;clear hX hY;go_enter func194,ntmps194
 go_wp2_with fail;refine Hw.out.mono ?_;rintro e w1 ⟨⟨_,_,rfl⟩,rfl⟩;dsimp only;go_wp2_with fail;refine (Hds.out w1).mono ?_;rintro e w2 ⟨rfl,hk2,hx2⟩;dsimp only;have Hk2:=jX hk2;have Hx2:=jX hx2;have hlx:=yaa hx2;clear hk2 hx2;go_wp2_with fail;refine (Hdt.out w2).mono ?_;rintro e w3 ⟨rfl,hk3,hy3⟩;dsimp only;have hx3:=hk3.heap Hx2.out (by simp);have Hk3:=jX (Hk2.out.tz hk3);have Hy3:=jX hy3;have Hx3:=jX hx3;have hlx3:=yaa hx3;have hly3:=yaa hy3;clear hk3 hx3 hy3 Hk2 Hx2 Hds Hdt Hw;generalize w1.heap.size=gx at *;generalize w2.heap.size=gy at *;obtain⟨L,hL⟩:∃ L,n+m+1=L:=⟨_,rfl⟩;have hL1:(n:Int)+m+1=(L:Int):=by omega
 have hmk:=ybq w3 L (by omega)
 have hS:Hid (X*Y<4294967296 ^ L):=by
  have h1:X*Y<4294967296 ^ n*4294967296 ^ m:=Nat.mul_lt_mul'' HX.out HY.out;rw [← Nat.pow_add] at h1;exact Nat.lt_of_lt_of_le h1 (Nat.pow_le_pow_right (by decide) (by omega))
 have HL:=jX hL;have hL9:L≤60000000000:=by omega
 clear hL;go_wp2_with fail;clear hmk hL1;go_loopw [48] (fun x wr=>∃ i:Nat,i≤n∧x = .int .i64 i∧Keep [] w3 wr∧wr.heap[w3.heap.size]? = some (.cells (u32s (dl 4294967296 L (X % 4294967296 ^ i*Y))).toArray 230 (0,0))) (fun x _=>n-(intOf x).toNat)
 case atStart=>exact ⟨0,by omega,rfl,Keep.alloc _ _ _,by rw [Nat.pow_zero,Nat.mod_one,Nat.zero_mul,ydY];exact World.alloc_heap_new w3 _⟩
 case round =>
  obtain⟨i,hi,rfl,hkp,hbx⟩:=hrel;by_cases hlt:i<n
  ·have hxw:=hkp.heap Hx3.out (by simp)
   have hxc:=yay hxw i hlt;have hxl:=yaa hxw;have hx9:=Nat.mod_lt (X / 4294967296 ^ i) (show 0<4294967296 by decide)
   have Hstep:=jX (yiT 4294967296 i X Y);have HA:=jX (yfP i X (show 0<4294967296 by decide) HY.out)
   have HA2:Hid (X % 4294967296 ^ (i+1)*Y<4294967296 ^ (i+(m+1))):=by
    have h1:=yfP (i+1) X (show 0<4294967296 by decide) HY.out
    rw [show i+(m+1)=i+1+m by omega];exact h1
   have Hkp:=jX hkp;have Hbx:=jX hbx;clear hxw hkp hbx;generalize X % 4294967296 ^ i*Y=A at *;generalize X / 4294967296 ^ i % 4294967296=d at *;go_wp2_with fail;obtain⟨wo,rfl⟩:∃ wo:World,wo=wr:=⟨_,rfl⟩;go_loopw [15,55] (fun c x wr=>∃ k:Nat,k≤m∧x = .int .i64 k∧c = .int .u64 (yaG 4294967296 k (A / 4294967296 ^ i) d Y:Nat)∧Keep [] w3 wr∧wr.heap[w3.heap.size]? = some (.cells (u32s (mixd 4294967296 L (i+k) A (A+4294967296 ^ i*(d*Y)))).toArray 230 (0,0))) (fun _ x _=>m-(intOf x).toNat)
   case atStart =>
    refine ⟨0,by omega,rfl,by rw [ycp];rfl,Hkp.out,?_⟩;rw [Nat.add_zero,ycY (by decide)];exact Hbx.out
   case round =>
    obtain⟨k,hk,rfl,rfl,hkp,hbx⟩:=hrel;clear Hkp Hbx;by_cases hlk:k<m
    ·have hikL:i+k<L:=by have:=HL.out;omega
     have hcx:=yaH hbx hikL;rw [yaQ] at hcx;have hyw:=hkp.heap Hy3.out (by simp);have hyc:=yay hyw k hlk;have hd:=yfe (show 0<4294967296 by decide) i k A d Y
     have Hd:=jX hd;have Hs:=jX (ycx (show 0<4294967296 by decide) k (A / 4294967296 ^ i) d Y)
     have hc1:=ybh (show 0<4294967296 by decide) k (A / 4294967296 ^ i) d Y hx9
     have hset:=jX (ybc 4294967296 L (i+k) A (A+4294967296 ^ i*(d*Y)) hikL);have ho9:=Nat.mod_lt (A / 4294967296 ^ i / 4294967296 ^ k) (show 0<4294967296 by decide)
     have hy9:=Nat.mod_lt (Y / 4294967296 ^ k) (show 0<4294967296 by decide)
     generalize A / 4294967296 ^ i / 4294967296 ^ k % 4294967296=o at *;generalize Y / 4294967296 ^ k % 4294967296=y at *;generalize yaG 4294967296 k (A / 4294967296 ^ i) d Y=c at *;have hdy:d*y≤4294967295*4294967295:=Nat.mul_le_mul (by omega) (by omega);have hdy2:(d:Int)*(y:Int)=((d*y:Nat):Int):=by push_cast;rfl
     have Hdy:=jX hdy2;have hdyb:(d:Int)*(y:Int)≤18446744065119617025:=by rw [hdy2];omega
     have hdy0:0≤(d:Int)*(y:Int):=by rw [hdy2];omega
     clear hdy2 hd
     have hcw:∀ n:KW wr,(Wk wr n).cell? ⟨w3.heap.size,i+k,none⟩=some (.int .u32 (o:Int)):=fun n=>by
      show n.x.cell? _=_
      rw [yab (n.k.heap hbx (by simp)),← yab hbx];exact hcx
     have hcw2:∀ n:KW wr,(Wk wr n).cell? ⟨gy,k,none⟩=some (.int .u32 (y:Int)):=fun n=>by
      show n.x.cell? _=_
      rw [yab (n.k.heap hyw (by simp)),← yab hyw];exact hyc
     have Hbx:=jX hbx;have Hkp:=jX hkp;have hlo:=yaa hbx;clear hbx hkp hyw hcx hyc;go_wp2_with fail;refine yad (by kernel_rfl) (by kernel_rfl) ?_
     repeat (first
      | go_big_quiet_skip
      | (go_big_quiet_want;go_big_quiet_op;go_big_quiet_on))
     refine wpQuiet_nil ?_;rintro w4 ⟨⟨_,hk4⟩,rfl⟩;have hb4:=hk4.heap Hbx.out (by simp);have hl4:=yaa hb4;have hf4:=yai hb4;have Hb4:=jX hb4;have hcc:w4.cell? ⟨w3.heap.size,i+k,none⟩=some (.int .u32 (o:Int)):=hcw ⟨w4,hk4⟩;have Hk4:=jX hk4;clear hb4 hk4 hcw hcw2;go_wp2_with fail;go_roundw
     case rel =>
      refine ⟨k+1,by omega,by go_num,?_,(Hkp.out.tz Hk4.out).sP _ _ _ (Nat.le_refl _),?_⟩
      ·rw [← Hs.out];exact congrArg (Value.int .u64) (by rw [Hdy.out];omega)
      have e:(((c:Int)+((o:Int)+(d:Int)*(y:Int))) % 4294967296)=(((c+o+d*y) % 4294967296:Nat):Int):=by rw [Hdy.out];omega
      rw [set_same Hb4.out,e,Hd.out,List.setIfInBounds_toArray,u32s_set,hset.out];rfl
     case measure=>simp [intOf];omega
    obtain rfl:k=m:=by omega
    have hikL:i+k<L:=by have:=HL.out;omega
    have hlast:=yeX (show 0<4294967296 by decide) HA.out HY.out hx9
    have hc1:=ybh (show 0<4294967296 by decide) k (A / 4294967296 ^ i) d Y hx9
    have hset:=jX (ybc 4294967296 L (i+k) A (A+4294967296 ^ i*(d*Y)) hikL);have htop:=yik (L:=L) (show 0<4294967296 by decide) (Nat.lt_trans HA.out (Nat.pow_lt_pow_right (by decide) (show i+k<i+(k+1) by omega))) (by have h:=HA2.out;rw [← Hstep.out] at h;exact h)
    have Htop:=jX htop;have Hlast:=jX hlast;have hcx:=yaH hbx hikL;have hlo:=yaa hbx;have hfo:=yai hbx;have Hbx:=jX hbx;have Hkp:=jX hkp;clear htop hlast hbx hkp;generalize yaG 4294967296 k (A / 4294967296 ^ i) d Y=c at *;go_wp2_with fail;go_roundw
    case rel =>
     refine ⟨i+1,by omega,by go_num,Hkp.out.sP _ _ _ (Nat.le_refl _),?_⟩;rw [← Hstep.out,← Htop.out];have e:((c:Int) % 4294967296)=(c:Int):=by omega
     rw [set_same Hbx.out,← Hlast.out,List.setIfInBounds_toArray,u32s_set,hset.out];rfl
    case measure=>simp [intOf];omega
  obtain rfl:i=n:=by omega
  have hbx':wr.heap[w3.heap.size]? = some (.cells (u32s (dl 4294967296 L (X*Y))).toArray 230 (0,0)):=by
   rw [Nat.mod_eq_of_lt HX.out] at hbx;exact hbx
  have hby:=jX (ybD hbx' hS.out (by omega));clear hbx hbx';have Hkp:=jX hkp;clear hkp;go_wp2_with fail;refine hby.out.mono ?_;rintro e w5 ⟨rfl,hk5⟩;dsimp only;have Hk5:=jX hk5;clear hk5;go_wp2_with fail;go_ret
  exact ⟨rfl,(Hk3.out.tz Hkp.out).tz Hk5.out⟩
theorem mul_c (s t:ByteArray) (hs:s.size≤100000000000) (ht:t.size≤100000000000) (w:World) :
  Calls prog 194 #[.string s,.string t] w fun e w'=>e = .returned (.string (magS (natB s*natB t)))∧Keep [] w w':=by
 by_cases h8:s.size≤8∧t.size≤8
 ·have Hw:=jX (ydq s t h8.1 h8.2 w)
  have hXb:=yct s;have hYb:=yct t
  have h64:∀ k,k≤8→256 ^ k≤18446744073709551616:=fun k hk=>by
   rw [show (18446744073709551616:Nat)=256 ^ 8 from rfl]
   exact Nat.pow_le_pow_right (by decide) hk
  have hX64:=Nat.lt_of_lt_of_le hXb (h64 _ h8.1);have hY64:=Nat.lt_of_lt_of_le hYb (h64 _ h8.2);clear hXb hYb h64;obtain⟨n,X,eX,_,hn,hX,Hds⟩:=ybe s (by omega);obtain⟨m,Y,eY,_,hm,hY,Hdt⟩:=ybe t (by omega);rw [eX,eY] at Hw;rw [eX] at hX64;rw [eY] at hY64;rw [eX,eY];clear h8 hs ht eX eY;have Hds:=jX Hds;have Hdt:=jX Hdt;have HX:=jX hX;have HY:=jX hY;clear hX hY;have hcall:=fun w=>Tryz.bits_Mul64 X Y hX64 hY64 w;by_cases hov:X*Y<18446744073709551616
  ·rw [Nat.div_eq_of_lt hov,Nat.mod_eq_of_lt hov] at hcall
   have Hm:=jX (ybf (X*Y) hov);have Hcall:=jX hcall;clear hcall;generalize X*Y=Z at *;go_enter func194,ntmps194
   go_wp2_with fail;refine Hw.out.mono ?_;rintro e w1 ⟨rfl,rfl⟩;dsimp only;go_wp2_with fail;refine (Hcall.out w1).mono ?_;rintro e w2 ⟨rfl,rfl⟩;dsimp only;go_wp2_with fail;refine (Hm.out w2).mono ?_;rintro e w3 ⟨rfl,hk2⟩;dsimp only;have Hk2:=jX hk2;clear hk2;go_wp2_with fail;go_ret
   exact ⟨rfl,Hk2.out⟩
  have hne:(((X*Y / 18446744073709551616:Nat):Int) == 0)=false:=by
   have:=Nat.div_pos (Nat.le_of_not_lt hov) (show 0<18446744073709551616 by decide)
   rw [beq_eq_false_iff_ne];omega
  generalize X*Y / 18446744073709551616=zh at *;generalize X*Y % 18446744073709551616=zl at *;have Hcall:=jX hcall;clear hcall;go_enter func194,ntmps194
  go_wp2_with fail;refine Hw.out.mono ?_;rintro e w1 ⟨rfl,rfl⟩;dsimp only;go_wp2_with fail;refine (Hcall.out w1).mono ?_;rintro e w2 ⟨rfl,rfl⟩;dsimp only
  rename_i w1;obtain⟨w1,rfl⟩:∃ x,x=w2:=⟨_,rfl⟩;go_wp2_with fail;clear Hcall hov hX64 hY64 hne;refine (Hds.out w1).mono ?_;rintro e w2 ⟨rfl,hk2,hx2⟩;dsimp only;have Hk2:=jX hk2;have Hx2:=jX hx2;have hlx:=yaa hx2;clear hk2 hx2;go_wp2_with fail;refine (Hdt.out w2).mono ?_;rintro e w3 ⟨rfl,hk3,hy3⟩;dsimp only;have hx3:=hk3.heap Hx2.out (by simp);have Hk3:=jX (Hk2.out.tz hk3);have Hy3:=jX hy3;have Hx3:=jX hx3;have hlx3:=yaa hx3;have hly3:=yaa hy3;clear hk3 hx3 hy3 Hk2 Hx2 Hds Hdt Hw;generalize w1.heap.size=gx at *;generalize w2.heap.size=gy at *;obtain⟨L,hL⟩:∃ L,n+m+1=L:=⟨_,rfl⟩;have hL1:(n:Int)+m+1=(L:Int):=by omega
  have hmk:=ybq w3 L (by omega)
  have hS:Hid (X*Y<4294967296 ^ L):=by
   have h1:X*Y<4294967296 ^ n*4294967296 ^ m:=Nat.mul_lt_mul'' HX.out HY.out;rw [← Nat.pow_add] at h1;exact Nat.lt_of_lt_of_le h1 (Nat.pow_le_pow_right (by decide) (by omega))
  have HL:=jX hL;have hL9:L≤60000000000:=by omega
  clear hL;go_wp2_with fail;clear hmk hL1;go_loopw [48] (fun x wr=>∃ i:Nat,i≤n∧x = .int .i64 i∧Keep [] w3 wr∧wr.heap[w3.heap.size]? = some (.cells (u32s (dl 4294967296 L (X % 4294967296 ^ i*Y))).toArray 230 (0,0))) (fun x _=>n-(intOf x).toNat)
  case atStart=>exact ⟨0,by omega,rfl,Keep.alloc _ _ _,by rw [Nat.pow_zero,Nat.mod_one,Nat.zero_mul,ydY];exact World.alloc_heap_new w3 _⟩
  case round =>
   obtain⟨i,hi,rfl,hkp,hbx⟩:=hrel;by_cases hlt:i<n
   ·have hxw:=hkp.heap Hx3.out (by simp)
    have hxc:=yay hxw i hlt;have hxl:=yaa hxw;have hx9:=Nat.mod_lt (X / 4294967296 ^ i) (show 0<4294967296 by decide)
    have Hstep:=jX (yiT 4294967296 i X Y);have HA:=jX (yfP i X (show 0<4294967296 by decide) HY.out)
    have HA2:Hid (X % 4294967296 ^ (i+1)*Y<4294967296 ^ (i+(m+1))):=by
     have h1:=yfP (i+1) X (show 0<4294967296 by decide) HY.out
     rw [show i+(m+1)=i+1+m by omega];exact h1
    have Hkp:=jX hkp;have Hbx:=jX hbx;clear hxw hkp hbx;generalize X % 4294967296 ^ i*Y=A at *;generalize X / 4294967296 ^ i % 4294967296=d at *;go_wp2_with fail;obtain⟨wo,rfl⟩:∃ wo:World,wo=wr:=⟨_,rfl⟩;go_loopw [15,55] (fun c x wr=>∃ k:Nat,k≤m∧x = .int .i64 k∧c = .int .u64 (yaG 4294967296 k (A / 4294967296 ^ i) d Y:Nat)∧Keep [] w3 wr∧wr.heap[w3.heap.size]? = some (.cells (u32s (mixd 4294967296 L (i+k) A (A+4294967296 ^ i*(d*Y)))).toArray 230 (0,0))) (fun _ x _=>m-(intOf x).toNat)
    case atStart =>
     refine ⟨0,by omega,rfl,by rw [ycp];rfl,Hkp.out,?_⟩;rw [Nat.add_zero,ycY (by decide)];exact Hbx.out
    case round =>
     obtain⟨k,hk,rfl,rfl,hkp,hbx⟩:=hrel;clear Hkp Hbx;by_cases hlk:k<m
     ·have hikL:i+k<L:=by have:=HL.out;omega
      have hcx:=yaH hbx hikL;rw [yaQ] at hcx;have hyw:=hkp.heap Hy3.out (by simp);have hyc:=yay hyw k hlk;have hd:=yfe (show 0<4294967296 by decide) i k A d Y
      have Hd:=jX hd;have Hs:=jX (ycx (show 0<4294967296 by decide) k (A / 4294967296 ^ i) d Y)
      have hc1:=ybh (show 0<4294967296 by decide) k (A / 4294967296 ^ i) d Y hx9
      have hset:=jX (ybc 4294967296 L (i+k) A (A+4294967296 ^ i*(d*Y)) hikL);have ho9:=Nat.mod_lt (A / 4294967296 ^ i / 4294967296 ^ k) (show 0<4294967296 by decide)
      have hy9:=Nat.mod_lt (Y / 4294967296 ^ k) (show 0<4294967296 by decide)
      generalize A / 4294967296 ^ i / 4294967296 ^ k % 4294967296=o at *;generalize Y / 4294967296 ^ k % 4294967296=y at *;generalize yaG 4294967296 k (A / 4294967296 ^ i) d Y=c at *;have hdy:d*y≤4294967295*4294967295:=Nat.mul_le_mul (by omega) (by omega);have hdy2:(d:Int)*(y:Int)=((d*y:Nat):Int):=by push_cast;rfl
      have Hdy:=jX hdy2;have hdyb:(d:Int)*(y:Int)≤18446744065119617025:=by rw [hdy2];omega
      have hdy0:0≤(d:Int)*(y:Int):=by rw [hdy2];omega
      clear hdy2 hd
      have hcw:∀ n:KW wr,(Wk wr n).cell? ⟨w3.heap.size,i+k,none⟩=some (.int .u32 (o:Int)):=fun n=>by
       show n.x.cell? _=_
       rw [yab (n.k.heap hbx (by simp)),← yab hbx];exact hcx
      have hcw2:∀ n:KW wr,(Wk wr n).cell? ⟨gy,k,none⟩=some (.int .u32 (y:Int)):=fun n=>by
       show n.x.cell? _=_
       rw [yab (n.k.heap hyw (by simp)),← yab hyw];exact hyc
      have Hbx:=jX hbx;have Hkp:=jX hkp;have hlo:=yaa hbx;clear hbx hkp hyw hcx hyc;go_wp2_with fail;refine yad (by kernel_rfl) (by kernel_rfl) ?_
      repeat (first
       | go_big_quiet_skip
       | (go_big_quiet_want;go_big_quiet_op;go_big_quiet_on))
      refine wpQuiet_nil ?_;rintro w4 ⟨⟨_,hk4⟩,rfl⟩;have hb4:=hk4.heap Hbx.out (by simp);have hl4:=yaa hb4;have hf4:=yai hb4;have Hb4:=jX hb4;have hcc:w4.cell? ⟨w3.heap.size,i+k,none⟩=some (.int .u32 (o:Int)):=hcw ⟨w4,hk4⟩;have Hk4:=jX hk4;clear hb4 hk4 hcw hcw2;go_wp2_with fail;go_roundw
      case rel =>
       refine ⟨k+1,by omega,by go_num,?_,(Hkp.out.tz Hk4.out).sP _ _ _ (Nat.le_refl _),?_⟩
       ·rw [← Hs.out];exact congrArg (Value.int .u64) (by rw [Hdy.out];omega)
       have e:(((c:Int)+((o:Int)+(d:Int)*(y:Int))) % 4294967296)=(((c+o+d*y) % 4294967296:Nat):Int):=by rw [Hdy.out];omega
       rw [set_same Hb4.out,e,Hd.out,List.setIfInBounds_toArray,u32s_set,hset.out];rfl
      case measure=>simp [intOf];omega
     obtain rfl:k=m:=by omega
     have hikL:i+k<L:=by have:=HL.out;omega
     have hlast:=yeX (show 0<4294967296 by decide) HA.out HY.out hx9
     have hc1:=ybh (show 0<4294967296 by decide) k (A / 4294967296 ^ i) d Y hx9
     have hset:=jX (ybc 4294967296 L (i+k) A (A+4294967296 ^ i*(d*Y)) hikL);have htop:=yik (L:=L) (show 0<4294967296 by decide) (Nat.lt_trans HA.out (Nat.pow_lt_pow_right (by decide) (show i+k<i+(k+1) by omega))) (by have h:=HA2.out;rw [← Hstep.out] at h;exact h)
     have Htop:=jX htop;have Hlast:=jX hlast;have hcx:=yaH hbx hikL;have hlo:=yaa hbx;have hfo:=yai hbx;have Hbx:=jX hbx;have Hkp:=jX hkp;clear htop hlast hbx hkp;generalize yaG 4294967296 k (A / 4294967296 ^ i) d Y=c at *;go_wp2_with fail;go_roundw
     case rel =>
      refine ⟨i+1,by omega,by go_num,Hkp.out.sP _ _ _ (Nat.le_refl _),?_⟩;rw [← Hstep.out,← Htop.out];have e:((c:Int) % 4294967296)=(c:Int):=by omega
      rw [set_same Hbx.out,← Hlast.out,List.setIfInBounds_toArray,u32s_set,hset.out];rfl
     case measure=>simp [intOf];omega
   obtain rfl:i=n:=by omega
   have hbx':wr.heap[w3.heap.size]? = some (.cells (u32s (dl 4294967296 L (X*Y))).toArray 230 (0,0)):=by
    rw [Nat.mod_eq_of_lt HX.out] at hbx;exact hbx
   have hby:=jX (ybD hbx' hS.out (by omega));clear hbx hbx';have Hkp:=jX hkp;clear hkp;go_wp2_with fail;refine hby.out.mono ?_;rintro e w5 ⟨rfl,hk5⟩;dsimp only;have Hk5:=jX hk5;clear hk5;go_wp2_with fail;go_ret
   exact ⟨rfl,(Hk3.out.tz Hkp.out).tz Hk5.out⟩
 exact mul_long s t hs ht h8 w
theorem kn_facts {B n Y R:Nat} (hB:2≤B) (hn:2≤n) (hY:Y<B ^ n) (hY2:B ^ n≤2*Y) (hR:R<Y*B) :
  ∃ y1 y2 xt x1 x2 q:Nat,Y / B ^ (n-1) % B=y1∧Y / B ^ (n-2) % B=y2∧R / B ^ n % B=xt∧R / B ^ (n-1) % B=x1∧R / B ^ (n-2) % B=x2∧R / Y=q ∧
   q<B∧0<y1∧y1<B∧y2<B∧xt<B∧x1<B∧x2<B∧xt*B+x1≤y1*B+(B-1)∧q≤(xt*B+x1) / y1 ∧
   (∀ g rest,g*y1+rest=xt*B+x1→rest*B+x2<g*y2→q<g)∧(∀ g,g<B→g*(y1*B+y2)≤(xt*B+x1)*B+x2→g≤q+1):=by
 obtain⟨m,rfl⟩:∃ m,n=m+2:=⟨n-2,by omega⟩;simp only [show m+2-1=m+1 by omega,show m+2-2=m by omega]
 have hP:0<B ^ m:=Nat.pow_pos (by omega);have e1:B ^ (m+1)=B ^ m*B:=by rw [Nat.pow_succ]
 have e2:B ^ (m+2)=B ^ m*B*B:=by rw [Nat.pow_succ,Nat.pow_succ]
 rw [e2] at hY hY2;rw [e1,e2];generalize hPd:B ^ m=P at *;have hPB:0<P*B:=Nat.mul_pos hP (by omega);have hPBB:0<P*B*B:=Nat.mul_pos hPB (by omega)
 -- the digits of Y
 have y1lt:Y / (P*B)<B:=by rw [Nat.div_lt_iff_lt_mul hPB,Nat.mul_comm];exact hY
 have ey1:Y / (P*B) % B=Y / (P*B):=Nat.mod_eq_of_lt y1lt;have dY:Y / P=Y / (P*B)*B+Y / P % B:=by rw [← Nat.div_div_eq_div_mul,Nat.div_add_mod']
 have dY2:Y=Y / P*P+Y % P:=by rw [Nat.div_add_mod']
 have y1big:B≤2*(Y / (P*B))+1:=by
  have h1:B*(P*B)≤2*Y:=by rw [Nat.mul_comm B];exact hY2
  have h2:Y<(Y / (P*B)+1)*(P*B):=by
   have:=Nat.lt_mul_div_succ Y hPB;rw [Nat.mul_comm] at this;exact this
  have h3:B*(P*B)<(2*(Y / (P*B))+2)*(P*B):=by
   have:(2*(Y / (P*B))+2)*(P*B)=2*((Y / (P*B)+1)*(P*B)):=by
    generalize P*B=p;rw [← Nat.mul_assoc,Nat.mul_add]
   omega
  have:=Nat.lt_of_mul_lt_mul_right h3;omega
 have y1pos:0<Y / (P*B):=by omega
 have y2lt:=Nat.mod_lt (Y / P) (show 0<B by omega)
 -- the digits of R
 have hRB:R<P*B*B*B:=Nat.lt_trans hR (Nat.mul_lt_mul_of_pos_right hY (by omega));have xtlt:R / (P*B*B)<B:=by rw [Nat.div_lt_iff_lt_mul hPBB,Nat.mul_comm];exact hRB
 have ext:R / (P*B*B) % B=R / (P*B*B):=Nat.mod_eq_of_lt xtlt;have dR1:R / (P*B)=R / (P*B*B)*B+R / (P*B) % B:=by rw [← Nat.div_div_eq_div_mul R (P*B),Nat.div_add_mod']
 have dR2:R / P=R / (P*B)*B+R / P % B:=by rw [← Nat.div_div_eq_div_mul R P,Nat.div_add_mod']
 have dR3:R=R / P*P+R % P:=by rw [Nat.div_add_mod']
 have x1lt:=Nat.mod_lt (R / (P*B)) (show 0<B by omega)
 have x2lt:=Nat.mod_lt (R / P) (show 0<B by omega)
 have hq:R / Y<B:=Nat.div_lt_of_lt_mul hR
 have hxt:R / (P*B*B)≤Y / (P*B):=by
  have h2:Y<(Y / (P*B)+1)*(P*B):=by
   have:=Nat.lt_mul_div_succ Y hPB;rw [Nat.mul_comm] at this;exact this
  have h3:Y*B≤(Y / (P*B)+1)*(P*B)*B:=Nat.mul_le_mul_right _ (Nat.le_of_lt h2)
  have h4:R / (P*B*B)<Y / (P*B)+1:=by
   rw [Nat.div_lt_iff_lt_mul hPBB,← Nat.mul_assoc];exact Nat.lt_of_lt_of_le hR h3
  omega
 have hfirst:=kn_first (R:=R) (Y:=Y) hPB y1pos;have hXl:=Nat.mod_lt R hP;have hYl:=Nat.mod_lt Y hP;refine ⟨Y / (P*B),Y / P % B,R / (P*B*B),R / (P*B) % B,R / P % B,R / Y,ey1,rfl,ext,rfl,rfl,rfl,hq,y1pos,y1lt,y2lt,xtlt,x1lt,x2lt,?_,?_,?_,?_⟩
 ·have:=Nat.mul_le_mul_right B hxt
  omega
 ·rw [← dR1];exact hfirst
 ·intro g rest h hbad
  have:=kn_dec (P:=P) (Xl:=R % P) (Yl:=Y % P) hP hXl h hbad;rw [← dR1,← dR2,← dY,← dR3,← dY2] at this;exact this
 intro g hg hok
 have hV:B≤Y / (P*B)*B:=by
  have:=Nat.mul_le_mul_right B (show 1≤Y / (P*B) by omega)
  omega
 have:=kn_near (P:=P) (V:=Y / (P*B)*B+Y / P % B) (Yl:=Y % P) (Xl:=R % P) (g:=g) hYl (by omega) hok (by omega);rw [← dR1,← dR2,← dY,← dR3,← dY2] at this;exact this
theorem kn_W {B n j Y Z g:Nat} (hB:0<B) (hY:Y<B ^ n) (hg:g≤Z / B ^ j / Y+1) (hgB:g<B) :
  g*Y*B ^ j≤Z+B ^ (j+n+1)∧g*Y*B ^ j<B ^ (j+n+1):=by
 have hp:0<B ^ j:=Nat.pow_pos hB
 have e:B ^ (j+n+1)=B*B ^ n*B ^ j:=by
  rw [Nat.pow_succ,Nat.pow_add,Nat.mul_comm,Nat.mul_comm (B ^ j),Nat.mul_assoc]
 rw [e];generalize B ^ j=p at *
 have h1:g*Y<B*B ^ n:=by
  rcases Nat.eq_zero_or_pos Y with h0|h0
  ·rw [h0,Nat.mul_zero];exact Nat.mul_pos hB (by rw [h0] at hY;exact hY)
  exact Nat.mul_lt_mul'' hgB hY
 have h2:g*Y*p<B*B ^ n*p:=Nat.mul_lt_mul_of_pos_right h1 hp;exact ⟨by omega,h2⟩
theorem kn_digit {B n j i Y Z g:Nat} (hB:0<B) (hi:i<n+1) (hle:g*Y*B ^ j≤Z+B ^ (j+n+1)) :
  (Z / B ^ (j+i) % B<(yaG B i 0 g Y+g*(Y / B ^ i % B)) % B+yaO B (j+i) (Z+B ^ (j+n+1)) (g*Y*B ^ j) →
   yaO B (j+i+1) (Z+B ^ (j+n+1)) (g*Y*B ^ j)=1 ∧
   Z / B ^ (j+i) % B+B=(Z+B ^ (j+n+1)-g*Y*B ^ j) / B ^ (j+i) % B+(yaG B i 0 g Y+g*(Y / B ^ i % B)) % B+yaO B (j+i) (Z+B ^ (j+n+1)) (g*Y*B ^ j)) ∧
  (¬ Z / B ^ (j+i) % B<(yaG B i 0 g Y+g*(Y / B ^ i % B)) % B+yaO B (j+i) (Z+B ^ (j+n+1)) (g*Y*B ^ j) →
   yaO B (j+i+1) (Z+B ^ (j+n+1)) (g*Y*B ^ j)=0 ∧
   Z / B ^ (j+i) % B=(Z+B ^ (j+n+1)-g*Y*B ^ j) / B ^ (j+i) % B+(yaG B i 0 g Y+g*(Y / B ^ i % B)) % B+yaO B (j+i) (Z+B ^ (j+n+1)) (g*Y*B ^ j)):=by
 have hs:=yeR hB (j+i) (Z+B ^ (j+n+1)) (g*Y*B ^ j) hle
 have e1:(Z+B ^ (j+n+1)) / B ^ (j+i) % B=Z / B ^ (j+i) % B:=by
  obtain⟨m,hm⟩:∃ m,j+n+1=j+i+(m+1):=⟨n-i,by omega⟩;rw [hm,Nat.pow_add,Nat.add_mul_div_left _ _ (Nat.pow_pos hB),Nat.pow_succ,Nat.add_mul_mod_self_right]
 have e2:g*Y*B ^ j / B ^ (j+i) % B=(yaG B i 0 g Y+g*(Y / B ^ i % B)) % B:=by
  have:=ycL hB i 0 g Y;simp only [Nat.zero_div,Nat.zero_mod,Nat.add_zero,Nat.zero_add] at this;rw [this,Nat.pow_add,← Nat.div_div_eq_div_mul,Nat.mul_div_cancel _ (Nat.pow_pos hB)]
 rw [e1,e2] at hs;exact hs
theorem kn_carry {B:Nat} (hB:0<B) (i g Y:Nat):(yaG B i 0 g Y+g*(Y / B ^ i % B)) / B=yaG B (i+1) 0 g Y:=by
 have:=ycx hB i 0 g Y
 simpa using this
theorem kn_last {B M Z W k:Nat} (hM:M=B ^ k) (hZ:Z<M) (hW:W<M):yaO B k (Z+M) W=if Z<W then 1 else 0:=by
 subst hM;unfold yaO;rw [Nat.add_mod_right,Nat.mod_eq_of_lt hZ,Nat.mod_eq_of_lt hW]
theorem kn_left {B n j Y Z g q:Nat} (hB:0<B) (hY:Y<B ^ n) (hZ:Z<Y*B ^ (j+1)) (hq:Z / B ^ j / Y=q) (h1:q≤g) (h2:g≤q+1) (hgB:g<B) :
  (¬ Z<g*Y*B ^ j→g=q∧(Z+B ^ (j+n+1)-g*Y*B ^ j) % B ^ (j+n+1)=Z % (Y*B ^ j)) ∧
  (Z<g*Y*B ^ j→g=q+1∧(Z+B ^ (j+n+1)-g*Y*B ^ j)<B ^ (j+n+1)∧(Z+B ^ (j+n+1)-g*Y*B ^ j+B ^ j*(1*Y)) % B ^ (j+n+1)=Z % (Y*B ^ j)):=by
 have hp:0<B ^ j:=Nat.pow_pos hB
 have hY0:0<Y:=by
  rcases Nat.eq_zero_or_pos Y with h|h
  ·rw [h,Nat.zero_mul] at hZ;omega
  exact h
 have hYp:0<Y*B ^ j:=Nat.mul_pos hY0 hp;have e3:Z / (Y*B ^ j)=q:=by rw [← hq,Nat.div_div_eq_div_mul,Nat.mul_comm]
 have hdm:=Nat.div_add_mod Z (Y*B ^ j);have hlt:=Nat.mod_lt Z hYp;rw [e3] at hdm
 have hM:Y*B ^ j<B ^ (j+n+1):=by
  have h3:B ^ (j+n+1)=B ^ n*B ^ j*B:=by rw [Nat.pow_succ,Nat.pow_add,Nat.mul_comm (B ^ j)]
  have h4:Y*B ^ j<B ^ n*B ^ j:=Nat.mul_lt_mul_of_pos_right hY hp;have h5:B ^ n*B ^ j*1≤B ^ n*B ^ j*B:=Nat.mul_le_mul_left _ hB;omega
 have eg:∀ k,k*Y*B ^ j=Y*B ^ j*k:=fun k=>by rw [Nat.mul_assoc,Nat.mul_comm]
 have eY:B ^ j*(1*Y)=Y*B ^ j:=by rw [Nat.one_mul,Nat.mul_comm]
 rw [eg,eY];generalize Y*B ^ j=D at *;generalize B ^ (j+n+1)=M at *;have hsucc:D*(q+1)=D*q+D:=Nat.mul_succ D q;constructor
 ·intro h
  have:g=q:=by
   rcases Nat.eq_or_lt_of_le h2 with h3|h3
   ·exfalso;rw [h3] at h;omega
   omega
  subst this;refine ⟨rfl,?_⟩;rw [show Z+M-D*g=Z % D+M by omega,Nat.add_mod_right,Nat.mod_eq_of_lt (by omega)]
 intro h
 have:g=q+1:=by
  rcases Nat.eq_or_lt_of_le h2 with h3|h3
  ·exact h3
  exfalso;have:g=q:=by omega
  rw [this] at h;omega
 subst this;refine ⟨rfl,by omega,?_⟩;rw [show Z+M-D*(q+1)+D=Z % D+M by omega,Nat.add_mod_right,Nat.mod_eq_of_lt (by omega)]
theorem yjr {B n T j Y:Nat} (hB:0<B) (hY:Y<B ^ n):(T / B ^ (j+n) % B+yaG B n (T / B ^ j) 1 Y) % B=(T+B ^ j*(1*Y)) / B ^ (j+n) % B:=by
 have h:=ycL hB n (T / B ^ j) 1 Y;rw [Nat.div_eq_of_lt hY,Nat.zero_mod,Nat.mul_zero,Nat.add_zero] at h;rw [yaQ,yaQ,yfO hB,← h,Nat.add_comm]
theorem kn_next {B j A Y:Nat} (hB:0<B):A % (Y*B ^ (j+1)) % (Y*B ^ j)=A % (Y*B ^ j):=by
 rw [Nat.pow_succ,← Nat.mul_assoc,Nat.mod_mul_right_mod]
theorem kn_quo {B j A Y:Nat} (hB:0<B):A % (Y*B ^ (j+1)) / B ^ j / Y=A / Y / B ^ j % B:=by
 rw [Nat.div_div_eq_div_mul,Nat.mul_comm (B ^ j),Nat.pow_succ,← Nat.mul_assoc,Nat.mod_mul_right_div_self,← Nat.div_div_eq_div_mul]
theorem kn_prep {n nx A D:Nat} (hn:2≤n) (hA:A<4294967296 ^ nx) (hD:D<4294967296 ^ n) (hD2:4294967296 ^ (n-1)≤D) (hle:D≤A) :
  ∃ s top:Nat,s≤31∧D / 4294967296 ^ (n-1) % 4294967296=top∧top<4294967296∧Lib.bitLen top≤32∧32-Lib.bitLen top=s∧D*2 ^ s<4294967296 ^ n∧4294967296 ^ n≤2*(D*2 ^ s)∧n≤nx∧A*2 ^ s<D*2 ^ s*4294967296 ^ (nx+1-n):=by
 have hnx:n≤nx:=by
  rcases Nat.lt_or_ge (n-1) nx with h|h
  ·omega
  exfalso;have:4294967296 ^ nx≤4294967296 ^ (n-1):=Nat.pow_le_pow_right (by decide) h;omega
 obtain⟨m,rfl⟩:∃ m,n=m+1:=⟨n-1,by omega⟩;simp only [Nat.add_sub_cancel] at *;have hp:0<4294967296 ^ m:=Nat.pow_pos (by decide);have hpe:4294967296 ^ (m+1)=4294967296 ^ m*4294967296:=by rw [Nat.pow_succ]
 have htop:D / 4294967296 ^ m<4294967296:=by rw [Nat.div_lt_iff_lt_mul hp,Nat.mul_comm,← hpe];exact hD
 have htop1:1≤D / 4294967296 ^ m:=by rw [Nat.le_div_iff_mul_le hp];omega
 have e1:D / 4294967296 ^ m % 4294967296=D / 4294967296 ^ m:=Nat.mod_eq_of_lt htop;obtain⟨b1,b2,b3⟩:=Lib.bitLenAux_bounds 64 (D / 4294967296 ^ m) (by omega) (by omega);have hb:Lib.bitLen (D / 4294967296 ^ m)=Lib.bitLenAux 64 (D / 4294967296 ^ m):=rfl;rw [← hb] at b1 b2 b3;have h1:=Nat.div_add_mod D (4294967296 ^ m);have h2:=Nat.mod_lt D hp;refine ⟨32-Lib.bitLen (D / 4294967296 ^ m),D / 4294967296 ^ m,?_⟩;generalize Lib.bitLen (D / 4294967296 ^ m)=b at *;generalize D / 4294967296 ^ m=top at *
 have hb32:b≤32:=by
  rcases Nat.lt_or_ge 32 b with h|h
  ·exfalso
   have:2 ^ 32≤2 ^ (b-1):=Nat.pow_le_pow_right (by decide) (by omega);omega
  exact h
 have e32:4294967296=2 ^ b*2 ^ (32-b):=by rw [← Nat.pow_add,show b+(32-b)=32 by omega]
 have e31:2147483648=2 ^ (b-1)*2 ^ (32-b):=by rw [← Nat.pow_add,show b-1+(32-b)=31 by omega]
 have hs:0<2 ^ (32-b):=Nat.pow_pos (by decide)
 have g1:D*2 ^ (32-b)<4294967296 ^ (m+1):=by
  have h3:D<4294967296 ^ m*2 ^ b:=by
   have:4294967296 ^ m*(top+1)≤4294967296 ^ m*2 ^ b:=Nat.mul_le_mul_left _ (by omega);rw [Nat.mul_add] at this;omega
  have h4:D*2 ^ (32-b)<4294967296 ^ m*2 ^ b*2 ^ (32-b):=Nat.mul_lt_mul_of_pos_right h3 hs;rw [Nat.mul_assoc,← e32] at h4;omega
 have g2:4294967296 ^ (m+1)≤2*(D*2 ^ (32-b)):=by
  have h3:4294967296 ^ m*2 ^ (b-1)≤D:=by
   have:4294967296 ^ m*2 ^ (b-1)≤4294967296 ^ m*top:=Nat.mul_le_mul_left _ b2;omega
  have h4:4294967296 ^ m*2 ^ (b-1)*2 ^ (32-b)≤D*2 ^ (32-b):=Nat.mul_le_mul_right _ h3;rw [Nat.mul_assoc,← e31] at h4;omega
 refine ⟨by omega,e1,htop,hb32,rfl,g1,g2,hnx,?_⟩
 have g3:A*2 ^ (32-b)<4294967296 ^ nx*2147483648:=by
  have h3:2 ^ (32-b)≤2147483648:=Nat.pow_le_pow_right (n:=2) (by decide) (show 32-b≤31 by omega)
  have h4:A*2 ^ (32-b)<4294967296 ^ nx*2 ^ (32-b):=Nat.mul_lt_mul_of_pos_right hA hs;have h5:4294967296 ^ nx*2 ^ (32-b)≤4294967296 ^ nx*2147483648:=Nat.mul_le_mul_left _ h3;omega
 have g4:4294967296 ^ (m+1)*4294967296 ^ (nx+1-(m+1))≤2*(D*2 ^ (32-b))*4294967296 ^ (nx+1-(m+1)):=Nat.mul_le_mul_right _ g2;rw [← Nat.pow_add,show m+1+(nx+1-(m+1))=nx+1 by omega,Nat.pow_succ,Nat.mul_assoc 2] at g4
 omega
theorem kn_back {R s i:Nat} (hs:s≤31):((R / 4294967296 ^ (i+1) % 4294967296)*4294967296+R / 4294967296 ^ i % 4294967296) / 2 ^ s % 4294967296=R / 2 ^ s / 4294967296 ^ i % 4294967296:=by
 have e1:R / 4294967296 ^ (i+1)=R / 4294967296 ^ i / 4294967296:=by rw [Nat.pow_succ,Nat.div_div_eq_div_mul]
 have e2:R / 2 ^ s / 4294967296 ^ i=R / 4294967296 ^ i / 2 ^ s:=by rw [Nat.div_div_eq_div_mul,Nat.div_div_eq_div_mul,Nat.mul_comm]
 rw [e1,e2];generalize R / 4294967296 ^ i=M;have e3:M / 4294967296 % 4294967296*4294967296+M % 4294967296=M % (4294967296*4294967296):=by rw [Nat.mod_mul];omega
 have e4:4294967296*4294967296=2 ^ s*(4294967296*2 ^ (32-s)):=by
  rw [Nat.mul_left_comm,← Nat.pow_add,show s+(32-s)=32 by omega]
 rw [e3,e4,Nat.mod_mul_right_div_self,Nat.mod_mul_right_mod]
end Go.Proofs.YtpgffjjpiafhpaaGreatDoor
