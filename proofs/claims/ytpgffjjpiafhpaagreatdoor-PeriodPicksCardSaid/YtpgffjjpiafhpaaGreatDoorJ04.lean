/- Parts of a proof: Ad Pu Mu. -/
import Derived.Laws.Externs
import Derived.Test.YtpgffjjpiafhpaaGreatDoorJ03
set_option linter.unusedVariables false
set_option linter.unusedSimpArgs false
set_option maxRecDepth 100000
set_option maxHeartbeats 8000000
namespace Go.Proofs.YtpgffjjpiafhpaaGreatDoor
open Go.RowKit Tryz
theorem ybe (s:ByteArray) (hs:s.size≤100000000000):∃ n X:Nat,natB s=X∧(s.size+3) / 4=n∧n≤25000000001∧X<4294967296 ^ n∧∀ w,Calls prog 216 #[.string s] w fun e w'=>e = .returned (.slice (some ⟨w.heap.size,0,none⟩) n n) ∧
   Keep [] w w'∧w'.heap[w.heap.size]? = some (.cells (u32s (dl 4294967296 n X)).toArray 230 (0,0)):=by
 refine ⟨_,_,rfl,rfl,by omega,?_,digits_c s (by omega)⟩;refine Nat.lt_of_lt_of_le (ybY s) ?_;rw [show (4294967296:Nat)=256 ^ 4 from rfl,← Nat.pow_mul]
 exact Nat.pow_le_pow_right (by decide) (by omega)
theorem ybM {w:World} {g L S:Nat} (h:w.heap[g]? = some (.cells (u32s (dl 4294967296 L S)).toArray 230 (0,0))) (hS:S<4294967296 ^ L) (hL:L≤1000000000000) :
  Calls prog 218 #[.slice (some ⟨g,0,none⟩) L L] w fun e w'=>e = .returned (.string (magS S))∧Keep [] w w':=by
 have hb:=bytes_c w g 0 L (dl 4294967296 L S) (by rw [yaO];exact Nat.le_refl _) hL (yjq (by decide) L S) (fun i hi=>by
  rw [Nat.zero_add,yaC h i (by rw [yaO] at hi;exact hi),yfJ])
 rwa [yaO,yfl (by decide) L S hS] at hb
theorem yjd (x y:Nat) (w:World) :
  (callFunc 221 #[.int .u64 x,.int .u64 y,.int .u64 0]).run prog w =
   .ok (.value (.tuple #[.int .u64 (((x+y) % 18446744073709551616:Nat):Int),.int .u64 (((x+y) / 18446744073709551616:Nat):Int)])) w:=by
 rw [run_callFunc_extern func221 (by kernel_rfl) (by kernel_rfl) (by kernel_rfl) (e:=add64Entry) (by kernel_rfl),run_add64 x y 0 (by omega) (by omega) (by omega) (by omega)];simp only [Result.andThen];congr 5<;>omega
theorem add_long (s t:ByteArray) (hs:s.size≤100000000000) (ht:t.size≤100000000000) (h8:¬ (s.size≤8∧t.size≤8)) (w:World) :
  Calls prog 189 #[.string s,.string t] w fun e w'=>e = .returned (.string (magS (natB s+natB t)))∧Keep [] w w':=by
 have Hw:=jX (ydv s t h8 (by unfold maxLen;omega) (by unfold maxLen;omega) w);obtain⟨n,X,eX,_,hn,hX,Hds⟩:=ybe s (by omega);obtain⟨m,Y,eY,_,hm,hY,Hdt⟩:=ybe t (by omega);rw [eX,eY];clear h8 hs ht eX eY;have Hds:=jX Hds;have Hdt:=jX Hdt;have HX:=jX hX;have HY:=jX hY;clear hX hY;go_enter func189,ntmps189
 go_wp2_with fail;refine Hw.out.mono ?_;rintro e w1 ⟨⟨_,_,rfl⟩,rfl⟩;dsimp only;go_wp2_with fail;refine (Hds.out w1).mono ?_;rintro e w2 ⟨rfl,hk2,hx2⟩;dsimp only;have Hk2:=jX hk2;have Hx2:=jX hx2;have hlx:=yaa hx2;clear hk2 hx2;go_wp2_with fail;refine (Hdt.out w2).mono ?_;rintro e w3 ⟨rfl,hk3,hy3⟩;dsimp only;have hx3:=hk3.heap Hx2.out (by simp);have Hk3:=jX (Hk2.out.tz hk3);have Hy3:=jX hy3;have Hx3:=jX hx3;have hlx3:=yaa hx3;have hly3:=yaa hy3;clear hk3 hx3 hy3 Hk2 Hx2 Hds Hdt Hw;generalize w1.heap.size=gx at *;generalize w2.heap.size=gy at *;by_cases hnm:n<m
 ·skip
  have hmk:=ybs w3 (m+1) (by omega);rw [show ((m+1:Nat):Int)=(m:Int)+1 by omega] at hmk
  have hcp:=ydX w3 gy m (m+1) Y (Hy3).out (HY).out (by omega)
  have hS:Hid (Y+X<4294967296 ^ (m+1)):=by
   have h1:=(HY).out;have h2:X<4294967296 ^ m:=Nat.lt_of_lt_of_le (HX).out (Nat.pow_le_pow_right (by decide) (by omega));show _<_
   rw [Nat.pow_succ];omega
  go_wp2_with fail;obtain⟨L,hL⟩:∃ L,m+1=L:=⟨_,rfl⟩;rw [hL] at hS;have hL1:(m:Int)+1=(L:Int):=by omega
  rw [hL,hL1];have hlL:n≤L:=by omega
  have hL9:L≤30000000000:=by omega
  clear hmk hcp hL hL1 hnm;go_loopw [13,53] (fun c x wr=>∃ i:Nat,i≤L∧x = .int .i64 i∧c = .int .u64 (carryA 4294967296 i Y X:Nat)∧Keep [] w3 wr∧wr.heap[w3.heap.size]? = some (.cells (u32s (mixd 4294967296 L i Y (Y+X))).toArray 230 (0,0))) (fun _ x _=>L-(intOf x).toNat)
  case atStart=>exact ⟨0,by omega,rfl,by rw [ycb];rfl,Keep.alloc _ _ _,by rw [yby];exact World.alloc_heap_new w3 _⟩
  case round =>
   obtain⟨i,hi,rfl,rfl,hkp,hbx⟩:=hrel;by_cases hlt:i<L
   ·have hcx:=yaL hbx hlt
    have hlo:=yaa hbx;have hfo:=yae hbx;have hd:=jX (yaZ (show 0<4294967296 by decide) i Y X)
    have hsx:=jX (ybg (show 0<4294967296 by decide) i Y X)
    have hset:=jX (yaV 4294967296 L i Y (Y+X) hlt);have hc1:=ybN (show 0<4294967296 by decide) i Y X
    have hx9:=Nat.mod_lt (Y / 4294967296 ^ i) (show 0<4294967296 by decide)
    have hy9:=Nat.mod_lt (X / 4294967296 ^ i) (show 0<4294967296 by decide)
    have hyw:=hkp.heap (Hx3).out (by simp);have Hbx:=jX hbx;have Hkp:=jX hkp;have hyc:=fun h:i<n=>yaC hyw i h;have hgy:=yaa hyw;clear hbx hkp
    have hy0:¬ i<n→X / 4294967296 ^ i % 4294967296=0:=fun h=>by
     rw [Nat.div_eq_of_lt (Nat.lt_of_lt_of_le (HX).out (Nat.pow_le_pow_right (by decide) (by omega)))]
    generalize Y / 4294967296 ^ i % 4294967296=x at *;generalize X / 4294967296 ^ i % 4294967296=y at *;generalize carryA 4294967296 i Y X=c at *;by_cases him:i<n
    ·have hyc:=hyc him
     clear hy0;go_wp2_with fail;go_roundw
     case rel =>
      refine ⟨i+1,by omega,by go_num,?_,Hkp.out.sP _ _ _ (Nat.le_refl _),?_⟩
      ·rw [← hsx.out];exact congrArg (Value.int .u64) (by omega)
      have e:(((c:Int)+x+y) % 4294967296)=(((c+x+y) % 4294967296:Nat):Int):=by omega
      rw [set_same Hbx.out,e,hd.out,List.setIfInBounds_toArray,u32s_set,hset.out]
     case measure=>simp [intOf];omega
    obtain rfl:=hy0 him;clear hyc hy0;go_wp2_with fail;go_roundw
    case rel =>
     refine ⟨i+1,by omega,by go_num,?_,Hkp.out.sP _ _ _ (Nat.le_refl _),?_⟩
     ·rw [← hsx.out];exact congrArg (Value.int .u64) (by omega)
     have e:(((c:Int)+x) % 4294967296)=(((c+x+0) % 4294967296:Nat):Int):=by omega
     rw [set_same Hbx.out,e,hd.out,List.setIfInBounds_toArray,u32s_set,hset.out]
    case measure=>simp [intOf];omega
   obtain rfl:i=L:=by omega
   have hbx':wr.heap[w3.heap.size]? = some (.cells (u32s (dl 4294967296 i (Y+X))).toArray 230 (0,0)):=by rw [← ybA];exact hbx
   have hby:=jX (ybM hbx' hS.out (by omega));rw [Nat.add_comm Y X] at hby;clear hbx hbx';have Hkp:=jX hkp;clear hkp;go_wp2_with fail;refine hby.out.mono ?_;rintro e w5 ⟨rfl,hk5⟩;dsimp only;have Hk5:=jX hk5;clear hk5;go_wp2_with fail;go_ret
   exact ⟨rfl,(Hk3.out.tz Hkp.out).tz Hk5.out⟩
 skip
 have hmk:=ybs w3 (n+1) (by omega);rw [show ((n+1:Nat):Int)=(n:Int)+1 by omega] at hmk
 have hcp:=ydX w3 gx n (n+1) X (Hx3).out (HX).out (by omega)
 have hS:Hid (X+Y<4294967296 ^ (n+1)):=by
  have h1:=(HX).out;have h2:Y<4294967296 ^ n:=Nat.lt_of_lt_of_le (HY).out (Nat.pow_le_pow_right (by decide) (by omega));show _<_
  rw [Nat.pow_succ];omega
 go_wp2_with fail;obtain⟨L,hL⟩:∃ L,n+1=L:=⟨_,rfl⟩;rw [hL] at hS;have hL1:(n:Int)+1=(L:Int):=by omega
 rw [hL,hL1];have hlL:m≤L:=by omega
 have hL9:L≤30000000000:=by omega
 clear hmk hcp hL hL1 hnm;go_loopw [13,53] (fun c x wr=>∃ i:Nat,i≤L∧x = .int .i64 i∧c = .int .u64 (carryA 4294967296 i X Y:Nat)∧Keep [] w3 wr∧wr.heap[w3.heap.size]? = some (.cells (u32s (mixd 4294967296 L i X (X+Y))).toArray 230 (0,0))) (fun _ x _=>L-(intOf x).toNat)
 case atStart=>exact ⟨0,by omega,rfl,by rw [ycb];rfl,Keep.alloc _ _ _,by rw [yby];exact World.alloc_heap_new w3 _⟩
 case round =>
  obtain⟨i,hi,rfl,rfl,hkp,hbx⟩:=hrel;by_cases hlt:i<L
  ·have hcx:=yaL hbx hlt
   have hlo:=yaa hbx;have hfo:=yae hbx;have hd:=jX (yaZ (show 0<4294967296 by decide) i X Y)
   have hsx:=jX (ybg (show 0<4294967296 by decide) i X Y)
   have hset:=jX (yaV 4294967296 L i X (X+Y) hlt);have hc1:=ybN (show 0<4294967296 by decide) i X Y
   have hx9:=Nat.mod_lt (X / 4294967296 ^ i) (show 0<4294967296 by decide)
   have hy9:=Nat.mod_lt (Y / 4294967296 ^ i) (show 0<4294967296 by decide)
   have hyw:=hkp.heap (Hy3).out (by simp);have Hbx:=jX hbx;have Hkp:=jX hkp;have hyc:=fun h:i<m=>yaC hyw i h;have hgy:=yaa hyw;clear hbx hkp
   have hy0:¬ i<m→Y / 4294967296 ^ i % 4294967296=0:=fun h=>by
    rw [Nat.div_eq_of_lt (Nat.lt_of_lt_of_le (HY).out (Nat.pow_le_pow_right (by decide) (by omega)))]
   generalize X / 4294967296 ^ i % 4294967296=x at *;generalize Y / 4294967296 ^ i % 4294967296=y at *;generalize carryA 4294967296 i X Y=c at *;by_cases him:i<m
   ·have hyc:=hyc him
    clear hy0;go_wp2_with fail;go_roundw
    case rel =>
     refine ⟨i+1,by omega,by go_num,?_,Hkp.out.sP _ _ _ (Nat.le_refl _),?_⟩
     ·rw [← hsx.out];exact congrArg (Value.int .u64) (by omega)
     have e:(((c:Int)+x+y) % 4294967296)=(((c+x+y) % 4294967296:Nat):Int):=by omega
     rw [set_same Hbx.out,e,hd.out,List.setIfInBounds_toArray,u32s_set,hset.out]
    case measure=>simp [intOf];omega
   obtain rfl:=hy0 him;clear hyc hy0;go_wp2_with fail;go_roundw
   case rel =>
    refine ⟨i+1,by omega,by go_num,?_,Hkp.out.sP _ _ _ (Nat.le_refl _),?_⟩
    ·rw [← hsx.out];exact congrArg (Value.int .u64) (by omega)
    have e:(((c:Int)+x) % 4294967296)=(((c+x+0) % 4294967296:Nat):Int):=by omega
    rw [set_same Hbx.out,e,hd.out,List.setIfInBounds_toArray,u32s_set,hset.out]
   case measure=>simp [intOf];omega
  obtain rfl:i=L:=by omega
  have hbx':wr.heap[w3.heap.size]? = some (.cells (u32s (dl 4294967296 i (X+Y))).toArray 230 (0,0)):=by rw [← ybA];exact hbx
  have hby:=jX (ybM hbx' hS.out (by omega));clear hbx hbx';have Hkp:=jX hkp;clear hkp;go_wp2_with fail;refine hby.out.mono ?_;rintro e w5 ⟨rfl,hk5⟩;dsimp only;have Hk5:=jX hk5;clear hk5;go_wp2_with fail;go_ret
  exact ⟨rfl,(Hk3.out.tz Hkp.out).tz Hk5.out⟩
theorem add_c (s t:ByteArray) (hs:s.size≤100000000000) (ht:t.size≤100000000000) (w:World) :
  Calls prog 189 #[.string s,.string t] w fun e w'=>e = .returned (.string (magS (natB s+natB t)))∧Keep [] w w':=by
 by_cases h8:s.size≤8∧t.size≤8
 ·have Hw:=jX (ydL s t h8.1 h8.2 w)
  have hXb:=ybY s;have hYb:=ybY t
  have h64:∀ k,k≤8→256 ^ k≤18446744073709551616:=fun k hk=>by
   rw [show (18446744073709551616:Nat)=256 ^ 8 from rfl]
   exact Nat.pow_le_pow_right (by decide) hk
  have hX64:=Nat.lt_of_lt_of_le hXb (h64 _ h8.1);have hY64:=Nat.lt_of_lt_of_le hYb (h64 _ h8.2);clear hXb hYb h64;obtain⟨n,X,eX,_,hn,hX,Hds⟩:=ybe s (by omega);obtain⟨m,Y,eY,_,hm,hY,Hdt⟩:=ybe t (by omega);rw [eX,eY] at Hw;rw [eX] at hX64;rw [eY] at hY64;rw [eX,eY];clear h8 hs ht eX eY;have Hds:=jX Hds;have Hdt:=jX Hdt;have HX:=jX hX;have HY:=jX hY;clear hX hY;have hcall:=yjd X Y;by_cases hov:X+Y<18446744073709551616
  ·rw [Nat.div_eq_of_lt hov,Nat.mod_eq_of_lt hov] at hcall
   have Hm:=jX (ybi (X+Y) hov);go_enter func189,ntmps189
   go_wp2_with fail;refine Hw.out.mono ?_;rintro e w1 ⟨rfl,rfl⟩;dsimp only;go_wp2_with (simp only [hcall])
   rw [← Int.natCast_add];refine (Hm.out w1).mono ?_;rintro e w2 ⟨rfl,hk2⟩;dsimp only;have Hk2:=jX hk2;clear hk2;go_wp2_with fail;go_ret
   exact ⟨rfl,Hk2.out⟩
  rw [show (X+Y) / 18446744073709551616=1 by omega] at hcall
  generalize (X+Y) % 18446744073709551616=z at hcall;go_enter func189,ntmps189
  go_wp2_with fail;refine Hw.out.mono ?_;rintro e w1 ⟨rfl,rfl⟩;dsimp only;go_wp2_with (simp only [hcall])
  clear hcall hov hX64 hY64;refine (Hds.out w1).mono ?_;rintro e w2 ⟨rfl,hk2,hx2⟩;dsimp only;have Hk2:=jX hk2;have Hx2:=jX hx2;have hlx:=yaa hx2;clear hk2 hx2;go_wp2_with fail;refine (Hdt.out w2).mono ?_;rintro e w3 ⟨rfl,hk3,hy3⟩;dsimp only;have hx3:=hk3.heap Hx2.out (by simp);have Hk3:=jX (Hk2.out.tz hk3);have Hy3:=jX hy3;have Hx3:=jX hx3;have hlx3:=yaa hx3;have hly3:=yaa hy3;clear hk3 hx3 hy3 Hk2 Hx2 Hds Hdt Hw;generalize w1.heap.size=gx at *;generalize w2.heap.size=gy at *;by_cases hnm:n<m
  ·skip
   have hmk:=ybs w3 (m+1) (by omega);rw [show ((m+1:Nat):Int)=(m:Int)+1 by omega] at hmk
   have hcp:=ydX w3 gy m (m+1) Y (Hy3).out (HY).out (by omega)
   have hS:Hid (Y+X<4294967296 ^ (m+1)):=by
    have h1:=(HY).out;have h2:X<4294967296 ^ m:=Nat.lt_of_lt_of_le (HX).out (Nat.pow_le_pow_right (by decide) (by omega));show _<_
    rw [Nat.pow_succ];omega
   go_wp2_with fail;obtain⟨L,hL⟩:∃ L,m+1=L:=⟨_,rfl⟩;rw [hL] at hS;have hL1:(m:Int)+1=(L:Int):=by omega
   rw [hL,hL1];have hlL:n≤L:=by omega
   have hL9:L≤30000000000:=by omega
   clear hmk hcp hL hL1 hnm;go_loopw [13,53] (fun c x wr=>∃ i:Nat,i≤L∧x = .int .i64 i∧c = .int .u64 (carryA 4294967296 i Y X:Nat)∧Keep [] w3 wr∧wr.heap[w3.heap.size]? = some (.cells (u32s (mixd 4294967296 L i Y (Y+X))).toArray 230 (0,0))) (fun _ x _=>L-(intOf x).toNat)
   case atStart=>exact ⟨0,by omega,rfl,by rw [ycb];rfl,Keep.alloc _ _ _,by rw [yby];exact World.alloc_heap_new w3 _⟩
   case round =>
    obtain⟨i,hi,rfl,rfl,hkp,hbx⟩:=hrel;by_cases hlt:i<L
    ·have hcx:=yaL hbx hlt
     have hlo:=yaa hbx;have hfo:=yae hbx;have hd:=jX (yaZ (show 0<4294967296 by decide) i Y X)
     have hsx:=jX (ybg (show 0<4294967296 by decide) i Y X)
     have hset:=jX (yaV 4294967296 L i Y (Y+X) hlt);have hc1:=ybN (show 0<4294967296 by decide) i Y X
     have hx9:=Nat.mod_lt (Y / 4294967296 ^ i) (show 0<4294967296 by decide)
     have hy9:=Nat.mod_lt (X / 4294967296 ^ i) (show 0<4294967296 by decide)
     have hyw:=hkp.heap (Hx3).out (by simp);have Hbx:=jX hbx;have Hkp:=jX hkp;have hyc:=fun h:i<n=>yaC hyw i h;have hgy:=yaa hyw;clear hbx hkp
     have hy0:¬ i<n→X / 4294967296 ^ i % 4294967296=0:=fun h=>by
      rw [Nat.div_eq_of_lt (Nat.lt_of_lt_of_le (HX).out (Nat.pow_le_pow_right (by decide) (by omega)))]
     generalize Y / 4294967296 ^ i % 4294967296=x at *;generalize X / 4294967296 ^ i % 4294967296=y at *;generalize carryA 4294967296 i Y X=c at *;by_cases him:i<n
     ·have hyc:=hyc him
      clear hy0;go_wp2_with fail;go_roundw
      case rel =>
       refine ⟨i+1,by omega,by go_num,?_,Hkp.out.sP _ _ _ (Nat.le_refl _),?_⟩
       ·rw [← hsx.out];exact congrArg (Value.int .u64) (by omega)
       have e:(((c:Int)+x+y) % 4294967296)=(((c+x+y) % 4294967296:Nat):Int):=by omega
       rw [set_same Hbx.out,e,hd.out,List.setIfInBounds_toArray,u32s_set,hset.out]
      case measure=>simp [intOf];omega
     obtain rfl:=hy0 him;clear hyc hy0;go_wp2_with fail;go_roundw
     case rel =>
      refine ⟨i+1,by omega,by go_num,?_,Hkp.out.sP _ _ _ (Nat.le_refl _),?_⟩
      ·rw [← hsx.out];exact congrArg (Value.int .u64) (by omega)
      have e:(((c:Int)+x) % 4294967296)=(((c+x+0) % 4294967296:Nat):Int):=by omega
      rw [set_same Hbx.out,e,hd.out,List.setIfInBounds_toArray,u32s_set,hset.out]
     case measure=>simp [intOf];omega
    obtain rfl:i=L:=by omega
    have hbx':wr.heap[w3.heap.size]? = some (.cells (u32s (dl 4294967296 i (Y+X))).toArray 230 (0,0)):=by rw [← ybA];exact hbx
    have hby:=jX (ybM hbx' hS.out (by omega));rw [Nat.add_comm Y X] at hby;clear hbx hbx';have Hkp:=jX hkp;clear hkp;go_wp2_with fail;refine hby.out.mono ?_;rintro e w5 ⟨rfl,hk5⟩;dsimp only;have Hk5:=jX hk5;clear hk5;go_wp2_with fail;go_ret
    exact ⟨rfl,(Hk3.out.tz Hkp.out).tz Hk5.out⟩
  skip
  have hmk:=ybs w3 (n+1) (by omega);rw [show ((n+1:Nat):Int)=(n:Int)+1 by omega] at hmk
  have hcp:=ydX w3 gx n (n+1) X (Hx3).out (HX).out (by omega)
  have hS:Hid (X+Y<4294967296 ^ (n+1)):=by
   have h1:=(HX).out;have h2:Y<4294967296 ^ n:=Nat.lt_of_lt_of_le (HY).out (Nat.pow_le_pow_right (by decide) (by omega));show _<_
   rw [Nat.pow_succ];omega
  go_wp2_with fail;obtain⟨L,hL⟩:∃ L,n+1=L:=⟨_,rfl⟩;rw [hL] at hS;have hL1:(n:Int)+1=(L:Int):=by omega
  rw [hL,hL1];have hlL:m≤L:=by omega
  have hL9:L≤30000000000:=by omega
  clear hmk hcp hL hL1 hnm;go_loopw [13,53] (fun c x wr=>∃ i:Nat,i≤L∧x = .int .i64 i∧c = .int .u64 (carryA 4294967296 i X Y:Nat)∧Keep [] w3 wr∧wr.heap[w3.heap.size]? = some (.cells (u32s (mixd 4294967296 L i X (X+Y))).toArray 230 (0,0))) (fun _ x _=>L-(intOf x).toNat)
  case atStart=>exact ⟨0,by omega,rfl,by rw [ycb];rfl,Keep.alloc _ _ _,by rw [yby];exact World.alloc_heap_new w3 _⟩
  case round =>
   obtain⟨i,hi,rfl,rfl,hkp,hbx⟩:=hrel;by_cases hlt:i<L
   ·have hcx:=yaL hbx hlt
    have hlo:=yaa hbx;have hfo:=yae hbx;have hd:=jX (yaZ (show 0<4294967296 by decide) i X Y)
    have hsx:=jX (ybg (show 0<4294967296 by decide) i X Y)
    have hset:=jX (yaV 4294967296 L i X (X+Y) hlt);have hc1:=ybN (show 0<4294967296 by decide) i X Y
    have hx9:=Nat.mod_lt (X / 4294967296 ^ i) (show 0<4294967296 by decide)
    have hy9:=Nat.mod_lt (Y / 4294967296 ^ i) (show 0<4294967296 by decide)
    have hyw:=hkp.heap (Hy3).out (by simp);have Hbx:=jX hbx;have Hkp:=jX hkp;have hyc:=fun h:i<m=>yaC hyw i h;have hgy:=yaa hyw;clear hbx hkp
    have hy0:¬ i<m→Y / 4294967296 ^ i % 4294967296=0:=fun h=>by
     rw [Nat.div_eq_of_lt (Nat.lt_of_lt_of_le (HY).out (Nat.pow_le_pow_right (by decide) (by omega)))]
    generalize X / 4294967296 ^ i % 4294967296=x at *;generalize Y / 4294967296 ^ i % 4294967296=y at *;generalize carryA 4294967296 i X Y=c at *;by_cases him:i<m
    ·have hyc:=hyc him
     clear hy0;go_wp2_with fail;go_roundw
     case rel =>
      refine ⟨i+1,by omega,by go_num,?_,Hkp.out.sP _ _ _ (Nat.le_refl _),?_⟩
      ·rw [← hsx.out];exact congrArg (Value.int .u64) (by omega)
      have e:(((c:Int)+x+y) % 4294967296)=(((c+x+y) % 4294967296:Nat):Int):=by omega
      rw [set_same Hbx.out,e,hd.out,List.setIfInBounds_toArray,u32s_set,hset.out]
     case measure=>simp [intOf];omega
    obtain rfl:=hy0 him;clear hyc hy0;go_wp2_with fail;go_roundw
    case rel =>
     refine ⟨i+1,by omega,by go_num,?_,Hkp.out.sP _ _ _ (Nat.le_refl _),?_⟩
     ·rw [← hsx.out];exact congrArg (Value.int .u64) (by omega)
     have e:(((c:Int)+x) % 4294967296)=(((c+x+0) % 4294967296:Nat):Int):=by omega
     rw [set_same Hbx.out,e,hd.out,List.setIfInBounds_toArray,u32s_set,hset.out]
    case measure=>simp [intOf];omega
   obtain rfl:i=L:=by omega
   have hbx':wr.heap[w3.heap.size]? = some (.cells (u32s (dl 4294967296 i (X+Y))).toArray 230 (0,0)):=by rw [← ybA];exact hbx
   have hby:=jX (ybM hbx' hS.out (by omega));clear hbx hbx';have Hkp:=jX hkp;clear hkp;go_wp2_with fail;refine hby.out.mono ?_;rintro e w5 ⟨rfl,hk5⟩;dsimp only;have Hk5:=jX hk5;clear hk5;go_wp2_with fail;go_ret
   exact ⟨rfl,(Hk3.out.tz Hkp.out).tz Hk5.out⟩
 exact add_long s t hs ht h8 w
def yaw (B k U x Y:Nat):Nat:=(U % B ^ k+x*(Y % B ^ k)) / B ^ k
theorem ycd (B U x Y:Nat):yaw B 0 U x Y=0:=by unfold yaw;simp [Nat.mod_one]
theorem ybh {B:Nat} (hB:0<B) (k U x Y:Nat) (hx:x<B):yaw B k U x Y<B:=by
 unfold yaw;have hp:0<B ^ k:=Nat.pow_pos hB;have h1:=Nat.mod_lt U hp;have h2:=Nat.mod_lt Y hp;generalize B ^ k=p at *;rw [Nat.div_lt_iff_lt_mul hp];have h3:x*(Y % p)≤(B-1)*(Y % p):=Nat.mul_le_mul_right _ (by omega);have h4:(B-1)*(Y % p)≤(B-1)*(p-1):=Nat.mul_le_mul_left _ (by omega);obtain⟨b,rfl⟩:∃ b,B=b+1:=⟨B-1,by omega⟩;obtain⟨q,rfl⟩:∃ q,p=q+1:=⟨p-1,by omega⟩;simp only [Nat.add_sub_cancel] at h3 h4;have h5:(b+1)*(q+1)=b*q+b+q+1:=by rw [Nat.add_mul,Nat.mul_add];omega
 omega
theorem yeP {B:Nat} (hB:0<B) (k U x Y:Nat):(U+x*Y) / B ^ k=yaw B k U x Y+U / B ^ k+x*(Y / B ^ k):=by
 unfold yaw;have hp:0<B ^ k:=Nat.pow_pos hB;generalize B ^ k=p at *
 have e1:U+x*Y=U % p+x*(Y % p)+p*(U / p+x*(Y / p)):=by
  have h1:=Nat.div_add_mod U p;have h2:=congrArg (x * ·) (Nat.div_add_mod Y p);simp only [Nat.mul_add] at h2;rw [Nat.mul_add];have h3:p*(x*(Y / p))=x*(p*(Y / p)):=by rw [Nat.mul_left_comm]
  omega
 rw [e1,Nat.add_mul_div_left _ _ hp];omega
theorem ycW {B:Nat} (hB:0<B) (k U x Y:Nat):(yaw B k U x Y+U / B ^ k % B+x*(Y / B ^ k % B)) % B=(U+x*Y) / B ^ k % B:=by
 rw [yeP hB];generalize yaw B k U x Y=c;generalize U / B ^ k=u;generalize Y / B ^ k=y;rw [Nat.add_mod (c+u % B),Nat.mul_mod_mod,Nat.add_mod_mod c u,Nat.mod_add_mod,Nat.add_mod_mod]
theorem ybH {B:Nat} (hB:0<B) (k U x Y:Nat):(yaw B k U x Y+U / B ^ k % B+x*(Y / B ^ k % B)) / B=yaw B (k+1) U x Y:=by
 unfold yaw;have hp:0<B ^ k:=Nat.pow_pos hB;rw [Nat.pow_succ,Nat.mod_mul,Nat.mod_mul];generalize B ^ k=p at *;rw [← Nat.div_div_eq_div_mul]
 have e1:U % p+p*(U / p % B)+x*(Y % p+p*(Y / p % B))=U % p+x*(Y % p)+p*(U / p % B+x*(Y / p % B)):=by
  rw [Nat.mul_add,Nat.mul_add,Nat.mul_left_comm x p];omega
 rw [e1,Nat.add_mul_div_left _ _ hp,Nat.add_assoc]
theorem yay (B i k A:Nat):A / B ^ (i+k)=A / B ^ i / B ^ k:=by rw [Nat.pow_add,Nat.div_div_eq_div_mul]
theorem yeA {B:Nat} (hB:0<B) (i A x Y:Nat):(A+B ^ i*(x*Y)) / B ^ i=A / B ^ i+x*Y:=Nat.add_mul_div_left _ _ (Nat.pow_pos hB)
theorem yfV (B i X Y:Nat):X % B ^ i*Y+B ^ i*(X / B ^ i % B*Y)=X % B ^ (i+1)*Y:=by
 rw [Nat.pow_succ,Nat.mod_mul,Nat.add_mul,Nat.mul_assoc]
theorem yfa {B m Y:Nat} (i X:Nat) (hB:0<B) (hY:Y<B ^ m):X % B ^ i*Y<B ^ (i+m):=by
 have h1:=Nat.mod_lt X (Nat.pow_pos hB (n:=i));rw [Nat.pow_add];exact Nat.mul_lt_mul'' h1 hY
theorem yfO {B L i X S:Nat} (hB:0<B) (hX:X<B ^ i) (hS:S<B ^ i):mixd B L i X S=dl B L S:=by
 unfold mixd dl;apply List.map_congr_left;intro j hj;by_cases h:j<i
 ·rw [if_pos h]
 rw [if_neg h];have hle:B ^ i≤B ^ j:=Nat.pow_le_pow_right hB (by omega);rw [Nat.div_eq_of_lt (Nat.lt_of_lt_of_le hX hle),Nat.div_eq_of_lt (Nat.lt_of_lt_of_le hS hle)]
theorem digit_mod {B:Nat} (hB:0<B) {i k:Nat} (h:i<k) (N:Nat):N % B ^ k / B ^ i % B=N / B ^ i % B:=by
 obtain⟨m,rfl⟩:∃ m,k=i+(m+1):=⟨k-i-1,by omega⟩;rw [Nat.pow_add,Nat.mod_mul_right_div_self,Nat.pow_succ,Nat.mod_mul_left_mod]
theorem yir {B L i X S:Nat} (hB:0<B) (hX:X<B ^ i):mixd B L i X S=dl B L (S % B ^ i):=by
 unfold mixd dl;apply List.map_congr_left;intro j hj;by_cases h:j<i
 ·rw [if_pos h,digit_mod hB h]
 rw [if_neg h];have hle:B ^ i≤B ^ j:=Nat.pow_le_pow_right hB (by omega);rw [Nat.div_eq_of_lt (Nat.lt_of_lt_of_le hX hle),Nat.div_eq_of_lt (Nat.lt_of_lt_of_le (Nat.mod_lt _ (Nat.pow_pos hB)) hle)]
theorem ycv {B L i A t:Nat} (hB:0<B):mixd B L i A (A+B ^ i*t)=dl B L A:=by
 unfold mixd dl;apply List.map_congr_left;intro j hj;by_cases h:j<i
 ·rw [if_pos h]
  obtain⟨m,rfl⟩:∃ m,i=j+(m+1):=⟨i-j-1,by omega⟩;rw [Nat.pow_add,Nat.mul_assoc,Nat.add_mul_div_left _ _ (Nat.pow_pos hB),Nat.pow_succ,Nat.mul_comm (B ^ m),Nat.mul_assoc,Nat.add_mul_mod_self_left]
 rw [if_neg h]
theorem ycR {B:Nat} (hB:0<B) (i k A d Y:Nat):(yaw B k (A / B ^ i) d Y+A / B ^ i / B ^ k % B+d*(Y / B ^ k % B)) % B=(A+B ^ i*(d*Y)) / B ^ (i+k) % B:=by
 rw [ycW hB,yay B i k (A+B ^ i*(d*Y)),yeA hB]
theorem yfe {B i m A d Y:Nat} (hB:0<B) (hA:A<B ^ (i+m)) (hY:Y<B ^ m) (hd:d<B):(A+B ^ i*(d*Y)) / B ^ (i+m) % B=yaw B m (A / B ^ i) d Y:=by
 rw [yay,yeA hB,yeP hB,Nat.div_eq_of_lt hY,Nat.div_div_eq_div_mul,← Nat.pow_add,Nat.div_eq_of_lt hA,Nat.mul_zero,Nat.add_zero];exact Nat.mod_eq_of_lt (ybh hB _ _ _ _ hd)
theorem short_rem (B i X d:Nat):(X / B ^ (i+1) % d*B+X / B ^ i % B) % d=X / B ^ i % d:=by
 have e:X / B ^ i=B*(X / B ^ (i+1))+X / B ^ i % B:=by rw [Nat.pow_succ,← Nat.div_div_eq_div_mul,Nat.div_add_mod]
 generalize X / B ^ i % B=x at *;rw [e,Nat.mul_comm B];rw [Nat.add_mod,Nat.mod_mul_mod,← Nat.add_mod]
theorem short_quo {B:Nat} (hB:0<B) (i X d:Nat) (hd:0<d):(X / B ^ (i+1) % d*B+X / B ^ i % B) / d=X / d / B ^ i % B:=by
 have e:X / B ^ i=B*(X / B ^ (i+1))+X / B ^ i % B:=by rw [Nat.pow_succ,← Nat.div_div_eq_div_mul,Nat.div_add_mod]
 rw [show X / d / B ^ i=X / B ^ i / d by rw [Nat.div_div_eq_div_mul,Nat.div_div_eq_div_mul,Nat.mul_comm]]
 have hx:=Nat.mod_lt (X / B ^ i) hB;generalize X / B ^ i % B=x at *;rw [e];generalize X / B ^ (i+1)=u;have h1:=Nat.div_add_mod u d;have hr:=Nat.mod_lt u hd
 have e2:B*u+x=(u % d*B+x)+d*(B*(u / d)):=by
  have h2:=congrArg (B * ·) h1;simp only [Nat.mul_add] at h2;have h3:d*(B*(u / d))=B*(d*(u / d)):=Nat.mul_left_comm _ _ _;have h4:u % d*B=B*(u % d):=Nat.mul_comm _ _;omega
 rw [e2,Nat.add_mul_div_left _ _ hd,Nat.add_mul_mod_self_left];refine (Nat.mod_eq_of_lt ?_).symm;rw [Nat.div_lt_iff_lt_mul hd];have h5:(u % d+1)*B≤d*B:=Nat.mul_le_mul_right _ (by omega);have h6:(u % d+1)*B=u % d*B+B:=Nat.succ_mul _ _;have h7:d*B=B*d:=Nat.mul_comm _ _;omega
theorem kn_first {R Y p:Nat} (hp:0<p) (hY:0<Y / p):R / Y≤R / p / (Y / p):=by
 rw [Nat.le_div_iff_mul_le hY,Nat.le_div_iff_mul_le hp,Nat.mul_assoc];have h1:Y / p*p≤Y:=Nat.div_mul_le_self Y p;have h2:R / Y*Y≤R:=Nat.div_mul_le_self R Y;exact Nat.le_trans (Nat.mul_le_mul_left _ h1) h2
theorem kn_dec {B y1 y2 x2 P Xl Yl g rest high:Nat} (hP:0<P) (hX:Xl<P) (h:g*y1+rest=high) (hbad:rest*B+x2<g*y2) :
  ((high*B+x2)*P+Xl) / ((y1*B+y2)*P+Yl)<g:=by
 refine kn_up hP hX ?_;rw [← h,Nat.add_mul,Nat.mul_add,Nat.mul_assoc g];omega
theorem yhF {B y1 y2 x2 g rest high:Nat} (h:g*y1+rest=high) (hok:g*y2≤rest*B+x2):g*(y1*B+y2)≤high*B+x2:=by
 rw [← h,Nat.add_mul,Nat.mul_add,Nat.mul_assoc g];omega
theorem yil {B y1 y2 x2 g rest high:Nat} (h:g*y1+rest=high) (hg:g<B) (hy:y2<B) (hr:B≤rest):g*y2≤rest*B+x2:=by
 have h1:g*y2≤B*B:=Nat.mul_le_mul (by omega) (by omega);have h2:B*B≤rest*B:=Nat.mul_le_mul_right _ hr;omega
theorem mul_long (s t:ByteArray) (hs:s.size≤100000000000) (ht:t.size≤100000000000) (h8:¬ (s.size≤8∧t.size≤8)) (w:World) :
  Calls prog 194 #[.string s,.string t] w fun e w'=>e = .returned (.string (magS (natB s*natB t)))∧Keep [] w w':=by
 have Hw:=jX (ydv s t h8 (by unfold maxLen;omega) (by unfold maxLen;omega) w);obtain⟨n,X,eX,_,hn,hX,Hds⟩:=ybe s (by omega);obtain⟨m,Y,eY,_,hm,hY,Hdt⟩:=ybe t (by omega);rw [eX,eY];clear h8 hs ht eX eY;have Hds:=jX Hds;have Hdt:=jX Hdt;have HX:=jX hX;have HY:=jX hY;clear hX hY;go_enter func194,ntmps194
 go_wp2_with fail;refine Hw.out.mono ?_;rintro e w1 ⟨⟨_,_,rfl⟩,rfl⟩;dsimp only;go_wp2_with fail;refine (Hds.out w1).mono ?_;rintro e w2 ⟨rfl,hk2,hx2⟩;dsimp only;have Hk2:=jX hk2;have Hx2:=jX hx2;have hlx:=yaa hx2;clear hk2 hx2;go_wp2_with fail;refine (Hdt.out w2).mono ?_;rintro e w3 ⟨rfl,hk3,hy3⟩;dsimp only;have hx3:=hk3.heap Hx2.out (by simp);have Hk3:=jX (Hk2.out.tz hk3);have Hy3:=jX hy3;have Hx3:=jX hx3;have hlx3:=yaa hx3;have hly3:=yaa hy3;clear hk3 hx3 hy3 Hk2 Hx2 Hds Hdt Hw;generalize w1.heap.size=gx at *;generalize w2.heap.size=gy at *;obtain⟨L,hL⟩:∃ L,n+m+1=L:=⟨_,rfl⟩;have hL1:(n:Int)+m+1=(L:Int):=by omega
 have hmk:=ybs w3 L (by omega)
 have hS:Hid (X*Y<4294967296 ^ L):=by
  have h1:X*Y<4294967296 ^ n*4294967296 ^ m:=Nat.mul_lt_mul'' HX.out HY.out;rw [← Nat.pow_add] at h1;exact Nat.lt_of_lt_of_le h1 (Nat.pow_le_pow_right (by decide) (by omega))
 have HL:=jX hL;have hL9:L≤60000000000:=by omega
 clear hL;go_wp2_with fail;clear hmk hL1;go_loopw [48] (fun x wr=>∃ i:Nat,i≤n∧x = .int .i64 i∧Keep [] w3 wr∧wr.heap[w3.heap.size]? = some (.cells (u32s (dl 4294967296 L (X % 4294967296 ^ i*Y))).toArray 230 (0,0))) (fun x _=>n-(intOf x).toNat)
 case atStart=>exact ⟨0,by omega,rfl,Keep.alloc _ _ _,by rw [Nat.pow_zero,Nat.mod_one,Nat.zero_mul,ycX];exact World.alloc_heap_new w3 _⟩
 case round =>
  obtain⟨i,hi,rfl,hkp,hbx⟩:=hrel;by_cases hlt:i<n
  ·have hxw:=hkp.heap Hx3.out (by simp)
   have hxc:=yaC hxw i hlt;have hxl:=yaa hxw;have hx9:=Nat.mod_lt (X / 4294967296 ^ i) (show 0<4294967296 by decide)
   have Hstep:=jX (yfV 4294967296 i X Y);have HA:=jX (yfa i X (show 0<4294967296 by decide) HY.out)
   have HA2:Hid (X % 4294967296 ^ (i+1)*Y<4294967296 ^ (i+(m+1))):=by
    have h1:=yfa (i+1) X (show 0<4294967296 by decide) HY.out
    rw [show i+(m+1)=i+1+m by omega];exact h1
   have Hkp:=jX hkp;have Hbx:=jX hbx;clear hxw hkp hbx;generalize X % 4294967296 ^ i*Y=A at *;generalize X / 4294967296 ^ i % 4294967296=d at *;go_wp2_with fail;obtain⟨wo,rfl⟩:∃ wo:World,wo=wr:=⟨_,rfl⟩;go_loopw [15,55] (fun c x wr=>∃ k:Nat,k≤m∧x = .int .i64 k∧c = .int .u64 (yaw 4294967296 k (A / 4294967296 ^ i) d Y:Nat)∧Keep [] w3 wr∧wr.heap[w3.heap.size]? = some (.cells (u32s (mixd 4294967296 L (i+k) A (A+4294967296 ^ i*(d*Y)))).toArray 230 (0,0))) (fun _ x _=>m-(intOf x).toNat)
   case atStart =>
    refine ⟨0,by omega,rfl,by rw [ycd];rfl,Hkp.out,?_⟩;rw [Nat.add_zero,ycv (by decide)];exact Hbx.out
   case round =>
    obtain⟨k,hk,rfl,rfl,hkp,hbx⟩:=hrel;clear Hkp Hbx;by_cases hlk:k<m
    ·have hikL:i+k<L:=by have:=HL.out;omega
     have hcx:=yaL hbx hikL;rw [yay] at hcx;have hyw:=hkp.heap Hy3.out (by simp);have hyc:=yaC hyw k hlk;have hd:=ycR (show 0<4294967296 by decide) i k A d Y
     have Hd:=jX hd;have Hs:=jX (ybH (show 0<4294967296 by decide) k (A / 4294967296 ^ i) d Y)
     have hc1:=ybh (show 0<4294967296 by decide) k (A / 4294967296 ^ i) d Y hx9
     have hset:=jX (yaV 4294967296 L (i+k) A (A+4294967296 ^ i*(d*Y)) hikL);have ho9:=Nat.mod_lt (A / 4294967296 ^ i / 4294967296 ^ k) (show 0<4294967296 by decide)
     have hy9:=Nat.mod_lt (Y / 4294967296 ^ k) (show 0<4294967296 by decide)
     generalize A / 4294967296 ^ i / 4294967296 ^ k % 4294967296=o at *;generalize Y / 4294967296 ^ k % 4294967296=y at *;generalize yaw 4294967296 k (A / 4294967296 ^ i) d Y=c at *;have hdy:d*y≤4294967295*4294967295:=Nat.mul_le_mul (by omega) (by omega);have hdy2:(d:Int)*(y:Int)=((d*y:Nat):Int):=by push_cast;rfl
     have Hdy:=jX hdy2;have hdyb:(d:Int)*(y:Int)≤18446744065119617025:=by rw [hdy2];omega
     have hdy0:0≤(d:Int)*(y:Int):=by rw [hdy2];omega
     clear hdy2 hd
     have hcw:∀ n:KW wr,(Wk wr n).cell? ⟨w3.heap.size,i+k,none⟩=some (.int .u32 (o:Int)):=fun n=>by
      show n.x.cell? _=_
      rw [yab (n.k.heap hbx (by simp)),← yab hbx];exact hcx
     have hcw2:∀ n:KW wr,(Wk wr n).cell? ⟨gy,k,none⟩=some (.int .u32 (y:Int)):=fun n=>by
      show n.x.cell? _=_
      rw [yab (n.k.heap hyw (by simp)),← yab hyw];exact hyc
     have Hbx:=jX hbx;have Hkp:=jX hkp;have hlo:=yaa hbx;clear hbx hkp hyw hcx hyc;go_wp2_with fail;refine yad (by kernel_rfl) (by kernel_rfl) ?_
     repeat (first
      | go_big_quiet_skip
      | (go_big_quiet_want;go_big_quiet_op;go_big_quiet_on))
     refine wpQuiet_nil ?_;rintro w4 ⟨⟨_,hk4⟩,rfl⟩;have hb4:=hk4.heap Hbx.out (by simp);have hl4:=yaa hb4;have hf4:=yae hb4;have Hb4:=jX hb4;have hcc:w4.cell? ⟨w3.heap.size,i+k,none⟩=some (.int .u32 (o:Int)):=hcw ⟨w4,hk4⟩;have Hk4:=jX hk4;clear hb4 hk4 hcw hcw2;go_wp2_with fail;go_roundw
     case rel =>
      refine ⟨k+1,by omega,by go_num,?_,(Hkp.out.tz Hk4.out).sP _ _ _ (Nat.le_refl _),?_⟩
      ·rw [← Hs.out];exact congrArg (Value.int .u64) (by rw [Hdy.out];omega)
      have e:(((c:Int)+((o:Int)+(d:Int)*(y:Int))) % 4294967296)=(((c+o+d*y) % 4294967296:Nat):Int):=by rw [Hdy.out];omega
      rw [set_same Hb4.out,e,Hd.out,List.setIfInBounds_toArray,u32s_set,hset.out];rfl
     case measure=>simp [intOf];omega
    obtain rfl:k=m:=by omega
    have hikL:i+k<L:=by have:=HL.out;omega
    have hlast:=yfe (show 0<4294967296 by decide) HA.out HY.out hx9
    have hc1:=ybh (show 0<4294967296 by decide) k (A / 4294967296 ^ i) d Y hx9
    have hset:=jX (yaV 4294967296 L (i+k) A (A+4294967296 ^ i*(d*Y)) hikL);have htop:=yfO (L:=L) (show 0<4294967296 by decide) (Nat.lt_trans HA.out (Nat.pow_lt_pow_right (by decide) (show i+k<i+(k+1) by omega))) (by have h:=HA2.out;rw [← Hstep.out] at h;exact h)
    have Htop:=jX htop;have Hlast:=jX hlast;have hcx:=yaL hbx hikL;have hlo:=yaa hbx;have hfo:=yae hbx;have Hbx:=jX hbx;have Hkp:=jX hkp;clear htop hlast hbx hkp;generalize yaw 4294967296 k (A / 4294967296 ^ i) d Y=c at *;go_wp2_with fail;go_roundw
    case rel =>
     refine ⟨i+1,by omega,by go_num,Hkp.out.sP _ _ _ (Nat.le_refl _),?_⟩;rw [← Hstep.out,← Htop.out];have e:((c:Int) % 4294967296)=(c:Int):=by omega
     rw [set_same Hbx.out,← Hlast.out,List.setIfInBounds_toArray,u32s_set,hset.out];rfl
    case measure=>simp [intOf];omega
  obtain rfl:i=n:=by omega
  have hbx':wr.heap[w3.heap.size]? = some (.cells (u32s (dl 4294967296 L (X*Y))).toArray 230 (0,0)):=by
   rw [Nat.mod_eq_of_lt HX.out] at hbx;exact hbx
  have hby:=jX (ybM hbx' hS.out (by omega));clear hbx hbx';have Hkp:=jX hkp;clear hkp;go_wp2_with fail;refine hby.out.mono ?_;rintro e w5 ⟨rfl,hk5⟩;dsimp only;have Hk5:=jX hk5;clear hk5;go_wp2_with fail;go_ret
  exact ⟨rfl,(Hk3.out.tz Hkp.out).tz Hk5.out⟩
theorem mul_c (s t:ByteArray) (hs:s.size≤100000000000) (ht:t.size≤100000000000) (w:World) :
  Calls prog 194 #[.string s,.string t] w fun e w'=>e = .returned (.string (magS (natB s*natB t)))∧Keep [] w w':=by
 by_cases h8:s.size≤8∧t.size≤8
 ·have Hw:=jX (ydL s t h8.1 h8.2 w)
  have hXb:=ybY s;have hYb:=ybY t
  have h64:∀ k,k≤8→256 ^ k≤18446744073709551616:=fun k hk=>by
   rw [show (18446744073709551616:Nat)=256 ^ 8 from rfl]
   exact Nat.pow_le_pow_right (by decide) hk
  have hX64:=Nat.lt_of_lt_of_le hXb (h64 _ h8.1);have hY64:=Nat.lt_of_lt_of_le hYb (h64 _ h8.2);clear hXb hYb h64;obtain⟨n,X,eX,_,hn,hX,Hds⟩:=ybe s (by omega);obtain⟨m,Y,eY,_,hm,hY,Hdt⟩:=ybe t (by omega);rw [eX,eY] at Hw;rw [eX] at hX64;rw [eY] at hY64;rw [eX,eY];clear h8 hs ht eX eY;have Hds:=jX Hds;have Hdt:=jX Hdt;have HX:=jX hX;have HY:=jX hY;clear hX hY;have hcall:=fun w=>Tryz.bits_Mul64 X Y hX64 hY64 w;by_cases hov:X*Y<18446744073709551616
  ·rw [Nat.div_eq_of_lt hov,Nat.mod_eq_of_lt hov] at hcall
   have Hm:=jX (ybi (X*Y) hov);have Hcall:=jX hcall;clear hcall;generalize X*Y=Z at *;go_enter func194,ntmps194
   go_wp2_with fail;refine Hw.out.mono ?_;rintro e w1 ⟨rfl,rfl⟩;dsimp only;go_wp2_with fail;refine (Hcall.out w1).mono ?_;rintro e w2 ⟨rfl,rfl⟩;dsimp only;go_wp2_with fail;refine (Hm.out w2).mono ?_;rintro e w3 ⟨rfl,hk2⟩;dsimp only;have Hk2:=jX hk2;clear hk2;go_wp2_with fail;go_ret
   exact ⟨rfl,Hk2.out⟩
  have hne:(((X*Y / 18446744073709551616:Nat):Int) == 0)=false:=by
   have:=Nat.div_pos (Nat.le_of_not_lt hov) (show 0<18446744073709551616 by decide)
   rw [beq_eq_false_iff_ne];omega
  generalize X*Y / 18446744073709551616=zh at *;generalize X*Y % 18446744073709551616=zl at *;have Hcall:=jX hcall;clear hcall;go_enter func194,ntmps194
  go_wp2_with fail;refine Hw.out.mono ?_;rintro e w1 ⟨rfl,rfl⟩;dsimp only;go_wp2_with fail;refine (Hcall.out w1).mono ?_;rintro e w2 ⟨rfl,rfl⟩;dsimp only
  rename_i w1;obtain⟨w1,rfl⟩:∃ x,x=w2:=⟨_,rfl⟩;go_wp2_with fail;clear Hcall hov hX64 hY64 hne;refine (Hds.out w1).mono ?_;rintro e w2 ⟨rfl,hk2,hx2⟩;dsimp only;have Hk2:=jX hk2;have Hx2:=jX hx2;have hlx:=yaa hx2;clear hk2 hx2;go_wp2_with fail;refine (Hdt.out w2).mono ?_;rintro e w3 ⟨rfl,hk3,hy3⟩;dsimp only;have hx3:=hk3.heap Hx2.out (by simp);have Hk3:=jX (Hk2.out.tz hk3);have Hy3:=jX hy3;have Hx3:=jX hx3;have hlx3:=yaa hx3;have hly3:=yaa hy3;clear hk3 hx3 hy3 Hk2 Hx2 Hds Hdt Hw;generalize w1.heap.size=gx at *;generalize w2.heap.size=gy at *;obtain⟨L,hL⟩:∃ L,n+m+1=L:=⟨_,rfl⟩;have hL1:(n:Int)+m+1=(L:Int):=by omega
  have hmk:=ybs w3 L (by omega)
  have hS:Hid (X*Y<4294967296 ^ L):=by
   have h1:X*Y<4294967296 ^ n*4294967296 ^ m:=Nat.mul_lt_mul'' HX.out HY.out;rw [← Nat.pow_add] at h1;exact Nat.lt_of_lt_of_le h1 (Nat.pow_le_pow_right (by decide) (by omega))
  have HL:=jX hL;have hL9:L≤60000000000:=by omega
  clear hL;go_wp2_with fail;clear hmk hL1;go_loopw [48] (fun x wr=>∃ i:Nat,i≤n∧x = .int .i64 i∧Keep [] w3 wr∧wr.heap[w3.heap.size]? = some (.cells (u32s (dl 4294967296 L (X % 4294967296 ^ i*Y))).toArray 230 (0,0))) (fun x _=>n-(intOf x).toNat)
  case atStart=>exact ⟨0,by omega,rfl,Keep.alloc _ _ _,by rw [Nat.pow_zero,Nat.mod_one,Nat.zero_mul,ycX];exact World.alloc_heap_new w3 _⟩
  case round =>
   obtain⟨i,hi,rfl,hkp,hbx⟩:=hrel;by_cases hlt:i<n
   ·have hxw:=hkp.heap Hx3.out (by simp)
    have hxc:=yaC hxw i hlt;have hxl:=yaa hxw;have hx9:=Nat.mod_lt (X / 4294967296 ^ i) (show 0<4294967296 by decide)
    have Hstep:=jX (yfV 4294967296 i X Y);have HA:=jX (yfa i X (show 0<4294967296 by decide) HY.out)
    have HA2:Hid (X % 4294967296 ^ (i+1)*Y<4294967296 ^ (i+(m+1))):=by
     have h1:=yfa (i+1) X (show 0<4294967296 by decide) HY.out
     rw [show i+(m+1)=i+1+m by omega];exact h1
    have Hkp:=jX hkp;have Hbx:=jX hbx;clear hxw hkp hbx;generalize X % 4294967296 ^ i*Y=A at *;generalize X / 4294967296 ^ i % 4294967296=d at *;go_wp2_with fail;obtain⟨wo,rfl⟩:∃ wo:World,wo=wr:=⟨_,rfl⟩;go_loopw [15,55] (fun c x wr=>∃ k:Nat,k≤m∧x = .int .i64 k∧c = .int .u64 (yaw 4294967296 k (A / 4294967296 ^ i) d Y:Nat)∧Keep [] w3 wr∧wr.heap[w3.heap.size]? = some (.cells (u32s (mixd 4294967296 L (i+k) A (A+4294967296 ^ i*(d*Y)))).toArray 230 (0,0))) (fun _ x _=>m-(intOf x).toNat)
    case atStart =>
     refine ⟨0,by omega,rfl,by rw [ycd];rfl,Hkp.out,?_⟩;rw [Nat.add_zero,ycv (by decide)];exact Hbx.out
    case round =>
     obtain⟨k,hk,rfl,rfl,hkp,hbx⟩:=hrel;clear Hkp Hbx;by_cases hlk:k<m
     ·have hikL:i+k<L:=by have:=HL.out;omega
      have hcx:=yaL hbx hikL;rw [yay] at hcx;have hyw:=hkp.heap Hy3.out (by simp);have hyc:=yaC hyw k hlk;have hd:=ycR (show 0<4294967296 by decide) i k A d Y
      have Hd:=jX hd;have Hs:=jX (ybH (show 0<4294967296 by decide) k (A / 4294967296 ^ i) d Y)
      have hc1:=ybh (show 0<4294967296 by decide) k (A / 4294967296 ^ i) d Y hx9
      have hset:=jX (yaV 4294967296 L (i+k) A (A+4294967296 ^ i*(d*Y)) hikL);have ho9:=Nat.mod_lt (A / 4294967296 ^ i / 4294967296 ^ k) (show 0<4294967296 by decide)
      have hy9:=Nat.mod_lt (Y / 4294967296 ^ k) (show 0<4294967296 by decide)
      generalize A / 4294967296 ^ i / 4294967296 ^ k % 4294967296=o at *;generalize Y / 4294967296 ^ k % 4294967296=y at *;generalize yaw 4294967296 k (A / 4294967296 ^ i) d Y=c at *;have hdy:d*y≤4294967295*4294967295:=Nat.mul_le_mul (by omega) (by omega);have hdy2:(d:Int)*(y:Int)=((d*y:Nat):Int):=by push_cast;rfl
      have Hdy:=jX hdy2;have hdyb:(d:Int)*(y:Int)≤18446744065119617025:=by rw [hdy2];omega
      have hdy0:0≤(d:Int)*(y:Int):=by rw [hdy2];omega
      clear hdy2 hd
      have hcw:∀ n:KW wr,(Wk wr n).cell? ⟨w3.heap.size,i+k,none⟩=some (.int .u32 (o:Int)):=fun n=>by
       show n.x.cell? _=_
       rw [yab (n.k.heap hbx (by simp)),← yab hbx];exact hcx
      have hcw2:∀ n:KW wr,(Wk wr n).cell? ⟨gy,k,none⟩=some (.int .u32 (y:Int)):=fun n=>by
       show n.x.cell? _=_
       rw [yab (n.k.heap hyw (by simp)),← yab hyw];exact hyc
      have Hbx:=jX hbx;have Hkp:=jX hkp;have hlo:=yaa hbx;clear hbx hkp hyw hcx hyc;go_wp2_with fail;refine yad (by kernel_rfl) (by kernel_rfl) ?_
      repeat (first
       | go_big_quiet_skip
       | (go_big_quiet_want;go_big_quiet_op;go_big_quiet_on))
      refine wpQuiet_nil ?_;rintro w4 ⟨⟨_,hk4⟩,rfl⟩;have hb4:=hk4.heap Hbx.out (by simp);have hl4:=yaa hb4;have hf4:=yae hb4;have Hb4:=jX hb4;have hcc:w4.cell? ⟨w3.heap.size,i+k,none⟩=some (.int .u32 (o:Int)):=hcw ⟨w4,hk4⟩;have Hk4:=jX hk4;clear hb4 hk4 hcw hcw2;go_wp2_with fail;go_roundw
      case rel =>
       refine ⟨k+1,by omega,by go_num,?_,(Hkp.out.tz Hk4.out).sP _ _ _ (Nat.le_refl _),?_⟩
       ·rw [← Hs.out];exact congrArg (Value.int .u64) (by rw [Hdy.out];omega)
       have e:(((c:Int)+((o:Int)+(d:Int)*(y:Int))) % 4294967296)=(((c+o+d*y) % 4294967296:Nat):Int):=by rw [Hdy.out];omega
       rw [set_same Hb4.out,e,Hd.out,List.setIfInBounds_toArray,u32s_set,hset.out];rfl
      case measure=>simp [intOf];omega
     obtain rfl:k=m:=by omega
     have hikL:i+k<L:=by have:=HL.out;omega
     have hlast:=yfe (show 0<4294967296 by decide) HA.out HY.out hx9
     have hc1:=ybh (show 0<4294967296 by decide) k (A / 4294967296 ^ i) d Y hx9
     have hset:=jX (yaV 4294967296 L (i+k) A (A+4294967296 ^ i*(d*Y)) hikL);have htop:=yfO (L:=L) (show 0<4294967296 by decide) (Nat.lt_trans HA.out (Nat.pow_lt_pow_right (by decide) (show i+k<i+(k+1) by omega))) (by have h:=HA2.out;rw [← Hstep.out] at h;exact h)
     have Htop:=jX htop;have Hlast:=jX hlast;have hcx:=yaL hbx hikL;have hlo:=yaa hbx;have hfo:=yae hbx;have Hbx:=jX hbx;have Hkp:=jX hkp;clear htop hlast hbx hkp;generalize yaw 4294967296 k (A / 4294967296 ^ i) d Y=c at *;go_wp2_with fail;go_roundw
     case rel =>
      refine ⟨i+1,by omega,by go_num,Hkp.out.sP _ _ _ (Nat.le_refl _),?_⟩;rw [← Hstep.out,← Htop.out];have e:((c:Int) % 4294967296)=(c:Int):=by omega
      rw [set_same Hbx.out,← Hlast.out,List.setIfInBounds_toArray,u32s_set,hset.out];rfl
     case measure=>simp [intOf];omega
   obtain rfl:i=n:=by omega
   have hbx':wr.heap[w3.heap.size]? = some (.cells (u32s (dl 4294967296 L (X*Y))).toArray 230 (0,0)):=by
    rw [Nat.mod_eq_of_lt HX.out] at hbx;exact hbx
   have hby:=jX (ybM hbx' hS.out (by omega));clear hbx hbx';have Hkp:=jX hkp;clear hkp;go_wp2_with fail;refine hby.out.mono ?_;rintro e w5 ⟨rfl,hk5⟩;dsimp only;have Hk5:=jX hk5;clear hk5;go_wp2_with fail;go_ret
   exact ⟨rfl,(Hk3.out.tz Hkp.out).tz Hk5.out⟩
 exact mul_long s t hs ht h8 w
end Go.Proofs.YtpgffjjpiafhpaaGreatDoor
