/- Parts of a proof: Dq Sb Zi. -/
import Derived.Test.YtpgffjjpiafhpaaGreatDoorJ05
import Derived.Test.YtpgffjjpiafhpaaGreatDoorJ04
set_option linter.unusedVariables false
set_option linter.unusedSimpArgs false
set_option maxRecDepth 100000
set_option maxHeartbeats 8000000
namespace Go.Proofs.YtpgffjjpiafhpaaGreatDoor
open Go.RowKit Tryz
theorem div_short (s t:ByteArray) (hs:s.size≤8) (ht:t.size≤8) (hp:0<natB t) (w:World) :
  Calls prog 187 #[.string s,.string t] w fun e w'=>e = .returned (.tuple #[.string (magS (natB s / natB t)),.string (magS (natB s % natB t))])∧Keep [] w w':=by
 have Hw:=jX (ydL s t hs ht w);have hXb:=ybY s;have hYb:=ybY t
 have h64:∀ k,k≤8→256 ^ k≤18446744073709551616:=fun k hk=>by
  rw [show (18446744073709551616:Nat)=256 ^ 8 from rfl]
  exact Nat.pow_le_pow_right (by decide) hk
 have hX64:=Nat.lt_of_lt_of_le hXb (h64 _ hs);have hY64:=Nat.lt_of_lt_of_le hYb (h64 _ ht);clear hXb hYb h64;generalize natB s=X at *;generalize natB t=Y at *;have hq:=Nat.div_le_self X Y;have hr:=Nat.mod_lt X hp;have ed:(X:Int) / (Y:Int)=((X / Y:Nat):Int):=by push_cast;rfl
 have em:(X:Int) % (Y:Int)=((X % Y:Nat):Int):=by push_cast;rfl
 have hne:((Y:Int) == 0)=false:=by rw [beq_eq_false_iff_ne];omega
 generalize X / Y=Q at *;generalize X % Y=R at *;have Hm1:=jX (fun w=>ybi Q (by omega) w);have Hm2:=jX (fun w=>ybi R (by omega) w);have ed2:IntKind.u64.wrap (Q:Int)=(Q:Int):=by rw [IntKind.wrap_u64];omega
 have Hm3:Hid (∀ w,Calls prog 160 #[.int .u64 ((X:Int) % (Y:Int))] w fun e w'=>e = .returned (.string (magS R))∧Keep [] w w'):=by rw [em];exact Hm2
 clear hq hr em;go_enter func187,ntmps187
 go_wp2_with fail;refine Hw.out.mono ?_;rintro e w1 ⟨rfl,rfl⟩;dsimp only;have Q1:Hid (∀ n:KW w1,Calls prog 160 #[.int .u64 (Q:Int)] (Wk w1 n) fun e w'=>e = .returned (.string (magS Q))∧∃ m,w'=Wk w1 m):=fun n=>qk n (Hm1.out _);have Q2:Hid (∀ n:KW w1,Calls prog 160 #[.int .u64 ((X:Int) % (Y:Int))] (Wk w1 n) fun e w'=>e = .returned (.string (magS R))∧∃ m,w'=Wk w1 m):=fun n=>qk n (Hm3.out _);clear Hm1 Hm2 Hm3;go_wp2_with fail;refine yad (by kernel_rfl) (by kernel_rfl) ?_
 repeat (first
  | go_big_quiet_skip
  | (go_big_quiet_want;go_big_quiet_op;first|go_big_quiet_on|go_big_quiet_call (first
   | (go_at_call 160;with_reducible exact (Q1).out _)
   | (go_at_call 160;with_reducible exact (Q2).out _))))
 refine wpQuiet_nil ?_;rintro wz ⟨⟨_,hk_wz⟩,rfl⟩;go_wp2_with fail;go_ret2
 exact ⟨rfl,hk_wz⟩
theorem div_less (s t:ByteArray) (hs:s.size≤100000000000) (ht:t.size≤100000000000) (cs:CanS s) (ct:CanS t) (hlt:natB s<natB t) (h8:¬ (s.size≤8∧t.size≤8)) (w:World) :
  Calls prog 187 #[.string s,.string t] w fun e w'=>e = .returned (.tuple #[.string (magS (natB s / natB t)),.string (magS (natB s % natB t))])∧Keep [] w w':=by
 have Hw:=jX (ydv s t h8 (by unfold maxLen;omega) (by unfold maxLen;omega) w);have hc:=ycy s t cs ct;rw [cmp_neg hlt] at hc;have Hcmp:=jX hc;rw [Nat.div_eq_of_lt hlt,Nat.mod_eq_of_lt hlt,yck s cs,magS_zero];clear h8 hs ht cs ct hc hlt;go_enter func187,ntmps187
 go_wp2_with fail;refine Hw.out.mono ?_;rintro e w1 ⟨⟨_,_,rfl⟩,rfl⟩;dsimp only;go_wp2_with fail;refine (Hcmp.out w1).mono ?_;rintro e w2 ⟨rfl,hk2⟩;dsimp only;have Hk2:=jX hk2;clear hk2 Hcmp;go_wp2_with fail;go_ret2
 exact ⟨rfl,Hk2.out⟩
theorem div_one (s t:ByteArray) (hs:s.size≤100000000000) (ht:t.size≤4) (cs:CanS s) (ct:CanS t) (hle:natB t≤natB s) (hp:0<natB t) (h8:¬ (s.size≤8∧t.size≤8)) (w:World) :
  Calls prog 187 #[.string s,.string t] w fun e w'=>e = .returned (.tuple #[.string (magS (natB s / natB t)),.string (magS (natB s % natB t))])∧Keep [] w w':=by
 have Hw:=jX (ydv s t h8 (by unfold maxLen;omega) (by unfold maxLen;omega) w);have Hcmp:=jX (ycy s t cs ct);have hc0:=cmp_nn hle
 have ht0:0<t.size:=by
  rcases Nat.eq_zero_or_pos t.size with h|h
  ·exfalso
   have:=ybY t;rw [h] at this;omega
  exact h
 obtain⟨n,A,eA,_,hn,hA,Hds⟩:=ybe s (by omega);obtain⟨m,D,eD,em,hm,hD,Hdt⟩:=ybe t (by omega);obtain rfl:m=1:=by omega
 rw [eA,eD] at hc0 Hcmp;rw [eD] at hp;rw [eA,eD];rw [Nat.pow_one] at hD;generalize Lib.compareInt (A:Int) D=c at *;have hr:=Nat.mod_lt A hp;have hq:A / D<4294967296 ^ n:=Nat.lt_of_le_of_lt (Nat.div_le_self _ _) hA;clear h8 hs ht eA eD em hle ht0 cs ct;have Hds:=jX Hds;have Hdt:=jX Hdt;have HA:=jX hA;have HQ:=jX hq;have Hm:=jX (fun w=>ybi (A % D) (by omega) w);clear hA hq;go_enter func187,ntmps187
 go_wp2_with fail;refine Hw.out.mono ?_;rintro e w1 ⟨⟨_,_,rfl⟩,rfl⟩;dsimp only;go_wp2_with fail;refine (Hcmp.out w1).mono ?_;rintro e w2 ⟨rfl,hk2⟩;dsimp only;have Hk2:=jX hk2;clear hk2 Hcmp;go_wp2_with fail;refine (Hdt.out w2).mono ?_;rintro e w3 ⟨rfl,hk3,hd3⟩;dsimp only;have Hk3:=jX (Hk2.out.tz hk3);have Hd3:=jX hd3;clear hk3 hd3 Hk2 Hdt Hw;go_wp2_with fail;refine (Hds.out w3).mono ?_;rintro e w4 ⟨rfl,hk4,ha4⟩;dsimp only;have hd4:=hk4.heap Hd3.out (by simp);have hdc:=yaC hd4 0 (by omega);rw [Nat.pow_zero,Nat.div_one,Nat.mod_eq_of_lt hD] at hdc;have Hsh:=jX (short_c w4 w3.heap.size n n A D (Nat.le_refl _) (by omega) HA.out hp hD ha4);have hdl:=yaa hd4;have Hk4:=jX (Hk3.out.tz hk4);have hz:=Hk3.out.size;clear hk4 ha4 hd4 Hk3 Hd3 Hds;generalize w2.heap.size=gd at *;generalize w3.heap.size=gx at *;go_wp2_with fail;refine Hsh.out.mono ?_;rintro e w5 ⟨rfl,hk5,ha5⟩;dsimp only;have Hby:=jX (ybM ha5 HQ.out (by omega));have Hk5:=jX (Hk4.out.trans hk5 (by simp;omega));clear hk5 ha5 Hsh Hk4;go_wp2_with fail;refine Hby.out.mono ?_;rintro e w6 ⟨rfl,hk6⟩;dsimp only;have Hk6:=jX (Hk5.out.tz hk6);clear hk6 Hk5 Hby;go_wp2_with fail;refine (Hm.out w6).mono ?_;rintro e w7 ⟨rfl,hk7⟩;dsimp only;have Hk7:=jX (Hk6.out.tz hk7);clear hk7 Hk6;go_wp2_with fail;go_ret2
 exact ⟨rfl,Hk7.out⟩
theorem div_c (s t:ByteArray) (hs:s.size≤100000000000) (ht:t.size≤100000000000) (cs:CanS s) (ct:CanS t) (hp:0<natB t) (w:World) :
  Calls prog 187 #[.string s,.string t] w fun e w'=>e = .returned (.tuple #[.string (magS (natB s / natB t)),.string (magS (natB s % natB t))])∧Keep [] w w':=by
 by_cases h8:s.size≤8∧t.size≤8
 ·exact div_short s t h8.1 h8.2 hp w
 rcases Nat.lt_or_ge (natB s) (natB t) with h|h
 ·exact div_less s t hs ht cs ct h h8 w
 by_cases h4:t.size≤4
 ·exact div_one s t hs h4 cs ct h hp h8 w
 exact div_knuth s t hs ht cs ct h (by omega) h8 w
theorem sub_long (s t:ByteArray) (hs:s.size≤100000000000) (ht:t.size≤100000000000) (hle:natB t≤natB s) (h8:¬ (s.size≤8∧t.size≤8)) (w:World) :
  Calls prog 190 #[.string s,.string t] w fun e w'=>e = .returned (.string (magS (natB s-natB t)))∧Keep [] w w':=by
 have Hw:=jX (ydv s t h8 (by unfold maxLen;omega) (by unfold maxLen;omega) w);obtain⟨n,X,eX,_,hn,hX,Hds⟩:=ybe s (by omega);obtain⟨m,Y,eY,_,hm,hY,Hdt⟩:=ybe t (by omega);rw [eX,eY] at hle ⊢;have Hle:=jX hle;clear h8 hs ht eX eY hle;have Hds:=jX Hds;have Hdt:=jX Hdt;have HX:=jX hX;have HY:=jX hY;clear hX hY;go_enter func190,ntmps190
 go_wp2_with fail;refine Hw.out.mono ?_;rintro e w1 ⟨⟨_,_,rfl⟩,rfl⟩;dsimp only;go_wp2_with fail;refine (Hds.out w1).mono ?_;rintro e w2 ⟨rfl,hk2,hx2⟩;dsimp only;have Hk2:=jX hk2;have Hx2:=jX hx2;have hlx:=yaa hx2;clear hk2 hx2;go_wp2_with fail;refine (Hdt.out w2).mono ?_;rintro e w3 ⟨rfl,hk3,hy3⟩;dsimp only;have hx3:=hk3.heap Hx2.out (by simp);have Hk3:=jX (Hk2.out.tz hk3);have Hy3:=jX hy3;have Hx3:=jX hx3;have hlx3:=yaa hx3;have hly3:=yaa hy3;clear hk3 hx3 hy3 Hk2 Hx2 Hds Hdt Hw;generalize w1.heap.size=gx at *;generalize w2.heap.size=gy at *;have hmk:=ybs w3 n (by omega);have hcp:=ydX w3 gx n n X Hx3.out HX.out (Nat.le_refl _);go_wp2_with fail;clear hmk hcp;have hS:Hid (X-Y<4294967296 ^ n):=Nat.lt_of_le_of_lt (Nat.sub_le X Y) HX.out;go_loopw [11,38] (fun c x wr=>∃ i:Nat,i≤n∧x = .int .i64 i∧c = .int .i64 (yaB 4294967296 i X Y:Nat)∧Keep [] w3 wr∧wr.heap[w3.heap.size]? = some (.cells (u32s (mixd 4294967296 n i X (X-Y))).toArray 230 (0,0))) (fun _ x _=>n-(intOf x).toNat)
 case atStart=>exact ⟨0,by omega,rfl,by rw [ydz];rfl,Keep.alloc _ _ _,by rw [yby];exact World.alloc_heap_new w3 _⟩
 case round =>
  obtain⟨i,hi,rfl,rfl,hkp,hbx⟩:=hrel;by_cases hlt:i<n
  ·have hcx:=yaL hbx hlt
   have hlo:=yaa hbx;have hfo:=yae hbx;obtain⟨hs1,hs2⟩:=ycE (show 0<4294967296 by decide) i X Y Hle.out
   have hset:=jX (yaV 4294967296 n i X (X-Y) hlt);have hc1:yaB 4294967296 i X Y≤1:=by unfold yaB;split<;>omega
   have hx9:=Nat.mod_lt (X / 4294967296 ^ i) (show 0<4294967296 by decide)
   have hy9:=Nat.mod_lt (Y / 4294967296 ^ i) (show 0<4294967296 by decide)
   have hd9:=Nat.mod_lt ((X-Y) / 4294967296 ^ i) (show 0<4294967296 by decide)
   have hyw:=hkp.heap Hy3.out (by simp);have Hbx:=jX hbx;have Hkp:=jX hkp;have hyc:=fun h:i<m=>yaC hyw i h;have hgy:=yaa hyw;clear hbx hkp
   have hy0:¬ i<m→Y / 4294967296 ^ i % 4294967296=0:=fun h=>by
    rw [Nat.div_eq_of_lt (Nat.lt_of_lt_of_le HY.out (Nat.pow_le_pow_right (by decide) (by omega)))]
   generalize X / 4294967296 ^ i % 4294967296=x at *;generalize Y / 4294967296 ^ i % 4294967296=y at *;generalize (X-Y) / 4294967296 ^ i % 4294967296=d at *;generalize yaB 4294967296 i X Y=c at *;by_cases hb:x<y+c
   ·obtain⟨e1,e2⟩:=hs1 hb
    have He1:=jX e1;have hbz:(x:Int)-c-y<0:=by omega
    have hd2:(x:Int)-c-y+4294967296=d:=by omega
    have hd3:(x:Int)-c+4294967296=d+y:=by omega
    clear hs1 hs2 e1 e2;by_cases him:i<m
    ·have hyc:=hyc him
     clear hy0 hd3;go_wp2_with fail;go_roundw
     case rel =>
      refine ⟨i+1,by omega,by go_num,by rw [He1.out];rfl,Hkp.out.sP _ _ _ (Nat.le_refl _),?_⟩;rw [set_same Hbx.out,List.setIfInBounds_toArray,u32s_set,hset.out]
     case measure=>simp [intOf];omega
    obtain rfl:=hy0 him;clear hyc hy0 hd3;simp only [Int.natCast_zero,Int.sub_zero] at hd2 hbz;go_wp2_with fail;go_roundw
    case rel =>
     refine ⟨i+1,by omega,by go_num,by rw [He1.out];rfl,Hkp.out.sP _ _ _ (Nat.le_refl _),?_⟩;rw [set_same Hbx.out,List.setIfInBounds_toArray,u32s_set,hset.out]
    case measure=>simp [intOf];omega
   obtain⟨e1,e2⟩:=hs2 hb;have He1:=jX e1;have hbz:¬ (x:Int)-c-y<0:=by omega
   have hd2:(x:Int)-c-y=d:=by omega
   clear hs1 hs2 e1 e2;by_cases him:i<m
   ·have hyc:=hyc him
    clear hy0;go_wp2_with fail;go_roundw
    case rel =>
     refine ⟨i+1,by omega,by go_num,by rw [He1.out];rfl,Hkp.out.sP _ _ _ (Nat.le_refl _),?_⟩;rw [set_same Hbx.out,List.setIfInBounds_toArray,u32s_set,hset.out]
    case measure=>simp [intOf];omega
   obtain rfl:=hy0 him;clear hyc hy0;simp only [Int.natCast_zero,Int.sub_zero] at hd2 hbz;go_wp2_with fail;go_roundw
   case rel =>
    refine ⟨i+1,by omega,by go_num,by rw [He1.out];rfl,Hkp.out.sP _ _ _ (Nat.le_refl _),?_⟩;rw [set_same Hbx.out,List.setIfInBounds_toArray,u32s_set,hset.out]
   case measure=>simp [intOf];omega
  obtain rfl:i=n:=by omega
  have hbx':wr.heap[w3.heap.size]? = some (.cells (u32s (dl 4294967296 i (X-Y))).toArray 230 (0,0)):=by rw [← ybA];exact hbx
  have hby:=jX (ybM hbx' hS.out (by omega));clear hbx hbx';have Hkp:=jX hkp;clear hkp;go_wp2_with fail;refine hby.out.mono ?_;rintro e w5 ⟨rfl,hk5⟩;dsimp only;have Hk5:=jX hk5;clear hk5;go_wp2_with fail;go_ret
  exact ⟨rfl,(Hk3.out.tz Hkp.out).tz Hk5.out⟩
theorem sub_c (s t:ByteArray) (hs:s.size≤100000000000) (ht:t.size≤100000000000) (hle:natB t≤natB s) (w:World) :
  Calls prog 190 #[.string s,.string t] w fun e w'=>e = .returned (.string (magS (natB s-natB t)))∧Keep [] w w':=by
 by_cases h8:s.size≤8∧t.size≤8
 ·have Hw:=jX (ydL s t h8.1 h8.2 w)
  have hXb:=ybY s
  have h64:∀ k,k≤8→256 ^ k≤18446744073709551616:=fun k hk=>by
   rw [show (18446744073709551616:Nat)=256 ^ 8 from rfl]
   exact Nat.pow_le_pow_right (by decide) hk
  have hX64:=Nat.lt_of_lt_of_le hXb (h64 _ h8.1);clear hXb h64;generalize natB s=X at *;generalize natB t=Y at *;clear h8 hs ht;have Hm:=jX (ybi (X-Y) (by omega));have e1:((X-Y:Nat):Int)=(X:Int)-Y:=by omega
  rw [e1] at Hm;clear e1;go_enter func190,ntmps190
  go_wp2_with fail;refine Hw.out.mono ?_;rintro e w1 ⟨rfl,rfl⟩;dsimp only;go_wp2_with fail;refine (Hm.out w1).mono ?_;rintro e w2 ⟨rfl,hk2⟩;dsimp only;have Hk2:=jX hk2;clear hk2;go_wp2_with fail;go_ret
  exact ⟨rfl,Hk2.out⟩
 exact sub_long s t hs ht hle h8 w
theorem yac {fn:Func} {p:Tmp} {ty:TypeId} (h:fn.results = #[.cell p ty]) (tmps:Array Value) (P:Program) (w:World) :
  (results fn tmps).run P w=((asAddr (tmps.getD p undef)).run P w).andThen fun a w₁=>(loadVar ty a).run P w₁:=by
 simp only [results,h];simp [Sem.run_bind,Result.andThen]
theorem yfw (w:World) (A:Obj):∃ W,W=w.alloc A∧W.heap[w.heap.size]? = some A∧w.heap.size<W.heap.size∧Keep [] w W :=
 ⟨_,rfl,World.alloc_heap_new w A,by simp,Keep.alloc _ _ _⟩
theorem ygX (w:World) (A B:Obj):∃ W,W=(w.alloc A).alloc B∧W.heap[w.heap.size]? = some A∧W.heap[w.heap.size+1]? = some B∧w.heap.size+1<W.heap.size∧Keep [] w W:=by
 obtain⟨W1,e1,a1,z1,k1⟩:=yfw w A;obtain⟨W2,e2,a2,z2,k2⟩:=yfw W1 B;have es:W1.heap.size=w.heap.size+1:=by rw [e1];simp
 rw [es] at a2 z2;exact ⟨W2,by rw [e2,e1],k2.heap a1 (by simp),a2,z2,k1.tz k2⟩
theorem yeS (w:World) (A B C:Obj):∃ W,W=((w.alloc A).alloc B).alloc C∧W.heap[w.heap.size]? = some A∧W.heap[w.heap.size+1]? = some B∧W.heap[w.heap.size+2]? = some C∧w.heap.size+2<W.heap.size∧Keep [] w W:=by
 obtain⟨W2,e2,a1,a2,z2,k2⟩:=ygX w A B;obtain⟨W3,e3,a3,z3,k3⟩:=yfw W2 C;have es:W2.heap.size=w.heap.size+2:=by rw [e2];simp
 rw [es] at a3 z3;exact ⟨W3,by rw [e3,e2],k3.heap a1 (by simp),k3.heap a2 (by simp),a3,z3,k2.tz k3⟩
theorem alloc4 (w:World) (A B C D:Obj):∃ W,W=(((w.alloc A).alloc B).alloc C).alloc D∧W.heap[w.heap.size]? = some A∧W.heap[w.heap.size+1]? = some B∧W.heap[w.heap.size+2]? = some C∧W.heap[w.heap.size+3]? = some D∧w.heap.size+3<W.heap.size∧Keep [] w W:=by
 obtain⟨W2,e2,a1,a2,a3,z2,k2⟩:=yeS w A B C;obtain⟨W3,e3,a4,z3,k3⟩:=yfw W2 D;have es:W2.heap.size=w.heap.size+3:=by rw [e2];simp
 rw [es] at a4 z3;exact ⟨W3,by rw [e3,e2],k3.heap a1 (by simp),k3.heap a2 (by simp),k3.heap a3 (by simp),a4,z3,k2.tz k3⟩
def sgB (z:Int):Bool:=decide (z<0)
def mgS (z:Int):ByteArray:=magS z.natAbs
def zv (z:Int):Value:=.agg #[.bool (sgB z),.string (mgS z)]
theorem yaK (z:Int):natB (mgS z)=z.natAbs:=yax _
theorem mg_can (z:Int):CanS (mgS z):=ycp _
theorem yds {s t:ByteArray} (h:s.toList=t.toList):s=t:=by
 rw [Go.Lib.toList_data,Go.Lib.toList_data] at h;cases s;cases t
 simpa using h
theorem yeX {s t:ByteArray} (h:s≠t):(s.toList == t.toList)=false:=by
 rw [beq_eq_false_iff_ne];exact fun e=>h (yds e)
theorem str_yes {s t:ByteArray} (h:s=t):(s.toList == t.toList)=true:=by rw [h];simp
theorem ydW {s:ByteArray} (h:s≠⟨#[]⟩):s.toList.isEmpty=false:=by
 cases h':s.toList with
 | nil=>exact absurd (yds (t:=⟨#[]⟩) (by rw [h',Go.Lib.toList_data])) h
 | cons a l=>rfl
def mk (b:Bool) (n:Nat):Int:=if b then -(n:Int) else n
theorem mk_abs (b:Bool) (n:Nat):(mk b n).natAbs=n:=by unfold mk;cases b<;>simp
theorem ygC (b:Bool) (n:Nat):mgS (mk b n)=magS n:=by unfold mgS;rw [mk_abs]
theorem mk_sg (b:Bool) (n:Nat):sgB (mk b n)=(b&&decide (n≠0)):=by
 unfold mk sgB;cases b
 ·simp
 rw [if_pos rfl,Bool.true_and,decide_eq_decide];omega
theorem ycB (b:Bool) (n:Nat) (w:World) :
  Calls prog 159 #[.bool b,.string (magS n)] w fun e w'=>e = .returned (zv (mk b n))∧Keep [] w w':=by
 unfold zv;rw [ygC,mk_sg];cases b with
 | false =>
  rw [Bool.false_and];generalize magS n=s;go_enter func159,ntmps159
  go_wp2_with fail;refine bodyPost_ret (v:=.agg #[.bool false,.string s]) ?_ rfl ⟨rfl,Keep.alloc _ _ _⟩;rw [yac rfl];go_simp
 | true =>
  rw [Bool.true_and];by_cases hn:n=0
  ·subst hn
   rw [magS_zero];go_enter func159,ntmps159
   go_wp2_with fail;refine bodyPost_ret (v:=.agg #[.bool false,.string ⟨#[]⟩]) ?_ rfl ⟨rfl,Keep.alloc _ _ _⟩;rw [yac rfl];go_simp
  have hne:magS n≠⟨#[]⟩:=fun h=>hn (ybp.1 h);rw [decide_eq_true hn];generalize magS n=s at *;have h1:=yeX hne;have h2:=ydW hne;go_enter func159,ntmps159
  go_wp2_with fail;refine bodyPost_ret (v:=.agg #[.bool true,.string s]) ?_ rfl ⟨rfl,Keep.alloc _ _ _⟩;rw [yac rfl];go_simp
theorem Add_same (na:Bool) (sa sb:ByteArray) (S:Nat) (Ha:Hid (∀ w,Calls prog 189 #[.string sa,.string sb] w fun e w'=>e = .returned (.string (magS S))∧Keep [] w w')) (w:World) :
  Calls prog 156 #[.agg #[.bool na,.string sa],.agg #[.bool na,.string sb]] w fun e w'=>e = .returned (zv (mk na S))∧Keep [] w w':=by
 have Hm:=jX (ycB na S);have hbb:(na == na)=true:=by simp
 unfold zv at Hm ⊢;rw [ygC] at Hm ⊢;generalize sgB (mk na S)=nr at *;generalize magS S=sr at *;go_enter func156,ntmps156
 go_wp2_with fail;obtain⟨W,hW,ba,bb,bc,hz,hkW⟩:=yeS w (.cells #[.bool na,.string sa] 26) (.cells #[.bool na,.string sb] 26) (.cells #[.bool false,.string ⟨#[]⟩] 26);rw [← hW];have HkW:=jX hkW;have Hba:=jX ba;have Hbb:=jX bb;have Hbc:=jX bc;clear hW ba bb bc hkW;have ka0:∀ m:KW W,(Wk W m).cell? ⟨w.heap.size,0,none⟩=some (.bool na):=yao Hba.out (by rw [yab Hba.out];rfl);have ka1:∀ m:KW W,(Wk W m).cell? ⟨w.heap.size,1,none⟩=some (.string sa):=yao Hba.out (by rw [yab Hba.out];rfl);have kb0:∀ m:KW W,(Wk W m).cell? ⟨w.heap.size+1,0,none⟩=some (.bool na):=yao Hbb.out (by rw [yab Hbb.out];rfl);have kb1:∀ m:KW W,(Wk W m).cell? ⟨w.heap.size+1,1,none⟩=some (.string sb):=yao Hbb.out (by rw [yab Hbb.out];rfl);have Q1:Hid (∀ m:KW W,Calls prog 189 #[.string sa,.string sb] (Wk W m) fun e w'=>e = .returned (.string sr)∧∃ m,w'=Wk W m):=fun m=>qk m (Ha.out _);have Q2:Hid (∀ m:KW W,Calls prog 159 #[.bool na,.string sr] (Wk W m) fun e w'=>e = .returned (.agg #[.bool nr,.string sr])∧∃ m,w'=Wk W m):=fun m=>qk m (Hm.out _);clear Ha Hm;go_wp2_with fail;refine yai 8 (by kernel_rfl) (by kernel_rfl) ?_;simp only [List.take_succ_cons,List.take_zero,List.drop_succ_cons,List.drop_zero]
 repeat (first
  | go_big_quiet_skip
  | (go_big_quiet_want;go_big_quiet_op;first|go_big_quiet_on|go_big_quiet_call (first
   | (go_at_call 189;exact (Q1).out _)|(go_at_call 159;exact (Q2).out _))))
 refine wpQuiet_nil ?_;rintro wz ⟨⟨_,hk_wz⟩,rfl⟩;have bz:=hk_wz.heap Hbc.out (by simp);have cz0:wz.cell? ⟨w.heap.size+2,0,none⟩=some (.bool false):=by rw [yab bz];rfl
 have cz1:wz.cell? ⟨w.heap.size+2,1,none⟩=some (.string ⟨#[]⟩):=by rw [yab bz];rfl
 have fz:=yae bz;have lz:=yaa bz;have Hkz:=jX (HkW.out.tz hk_wz);clear bz hk_wz;go_wp2_with fail;refine bodyPost_ret (v:=.agg #[.bool nr,.string sr]) ?_ rfl ⟨rfl,?_⟩
 ·rw [yac rfl];go_simp
 exact (Hkz.out.sP _ _ _ (by omega)).sP _ _ _ (by omega)
theorem Add_ge (na nb:Bool) (hbb:(na == nb)=false) (sa sb:ByteArray) (S:Nat) (c:Int) (hc:0≤c) (Hc:Hid (∀ w,Calls prog 185 #[.string sa,.string sb] w fun e w'=>e = .returned (.int .i64 c)∧Keep [] w w'))
  (Ha:Hid (∀ w,Calls prog 190 #[.string sa,.string sb] w fun e w'=>e = .returned (.string (magS S))∧Keep [] w w')) (w:World) :
  Calls prog 156 #[.agg #[.bool na,.string sa],.agg #[.bool nb,.string sb]] w fun e w'=>e = .returned (zv (mk na S))∧Keep [] w w':=by
 have Hm:=jX (ycB na S);unfold zv at Hm ⊢;rw [ygC] at Hm ⊢;generalize sgB (mk na S)=nr at *;generalize magS S=sr at *;go_enter func156,ntmps156
 go_wp2_with fail;obtain⟨W,hW,ba,bb,bc,hz,hkW⟩:=yeS w (.cells #[.bool na,.string sa] 26) (.cells #[.bool nb,.string sb] 26) (.cells #[.bool false,.string ⟨#[]⟩] 26);rw [← hW];have HkW:=jX hkW;have Hba:=jX ba;have Hbb:=jX bb;have Hbc:=jX bc;clear hW ba bb bc hkW;refine (Hc.out _).mono ?_;rintro e w2 ⟨rfl,hk2⟩;dsimp only;have Hba2:=jX (hk2.heap Hba.out (by simp));have Hbb2:=jX (hk2.heap Hbb.out (by simp));have Hbc2:=jX (hk2.heap Hbc.out (by simp));have HkW2:=jX (HkW.out.tz hk2);clear Hba Hbb Hbc HkW hk2;have Hba:=Hba2;have Hbb:=Hbb2;have Hbc:=Hbc2;have HkW:=HkW2;clear Hba2 Hbb2 Hbc2 HkW2;have ka0:∀ m:KW w2,(Wk w2 m).cell? ⟨w.heap.size,0,none⟩=some (.bool na):=yao Hba.out (by rw [yab Hba.out];rfl);have ka1:∀ m:KW w2,(Wk w2 m).cell? ⟨w.heap.size,1,none⟩=some (.string sa):=yao Hba.out (by rw [yab Hba.out];rfl);have kb0:∀ m:KW w2,(Wk w2 m).cell? ⟨w.heap.size+1,0,none⟩=some (.bool nb):=yao Hbb.out (by rw [yab Hbb.out];rfl);have kb1:∀ m:KW w2,(Wk w2 m).cell? ⟨w.heap.size+1,1,none⟩=some (.string sb):=yao Hbb.out (by rw [yab Hbb.out];rfl);have Q1:Hid (∀ m:KW w2,Calls prog 190 #[.string sa,.string sb] (Wk w2 m) fun e w'=>e = .returned (.string sr)∧∃ m,w'=Wk w2 m):=fun m=>qk m (Ha.out _);have Q2:Hid (∀ m:KW w2,Calls prog 159 #[.bool na,.string sr] (Wk w2 m) fun e w'=>e = .returned (.agg #[.bool nr,.string sr])∧∃ m,w'=Wk w2 m):=fun m=>qk m (Hm.out _);clear Ha Hm Hc;go_wp2_with fail;refine yai 8 (by kernel_rfl) (by kernel_rfl) ?_;simp only [List.take_succ_cons,List.take_zero,List.drop_succ_cons,List.drop_zero]
 repeat (first
  | go_big_quiet_skip
  | (go_big_quiet_want;go_big_quiet_op;first|go_big_quiet_on|go_big_quiet_call (first
   | (go_at_call 190;exact (Q1).out _)|(go_at_call 159;exact (Q2).out _))))
 refine wpQuiet_nil ?_;rintro wz ⟨⟨_,hk_wz⟩,rfl⟩;have bz:=hk_wz.heap Hbc.out (by simp);have cz0:wz.cell? ⟨w.heap.size+2,0,none⟩=some (.bool false):=by rw [yab bz];rfl
 have cz1:wz.cell? ⟨w.heap.size+2,1,none⟩=some (.string ⟨#[]⟩):=by rw [yab bz];rfl
 have fz:=yae bz;have lz:=yaa bz;have Hkz:=jX (HkW.out.tz hk_wz);clear bz hk_wz;go_wp2_with fail;refine bodyPost_ret (v:=.agg #[.bool nr,.string sr]) ?_ rfl ⟨rfl,?_⟩
 ·rw [yac rfl];go_simp
 exact (Hkz.out.sP _ _ _ (by omega)).sP _ _ _ (by omega)
theorem Add_lt (na nb:Bool) (hbb:(na == nb)=false) (sa sb:ByteArray) (S:Nat) (c:Int) (hc:¬ 0≤c) (Hc:Hid (∀ w,Calls prog 185 #[.string sa,.string sb] w fun e w'=>e = .returned (.int .i64 c)∧Keep [] w w'))
  (Ha:Hid (∀ w,Calls prog 190 #[.string sb,.string sa] w fun e w'=>e = .returned (.string (magS S))∧Keep [] w w')) (w:World) :
  Calls prog 156 #[.agg #[.bool na,.string sa],.agg #[.bool nb,.string sb]] w fun e w'=>e = .returned (zv (mk nb S))∧Keep [] w w':=by
 have Hm:=jX (ycB nb S);unfold zv at Hm ⊢;rw [ygC] at Hm ⊢;generalize sgB (mk nb S)=nr at *;generalize magS S=sr at *;go_enter func156,ntmps156
 go_wp2_with fail;obtain⟨W,hW,ba,bb,bc,hz,hkW⟩:=yeS w (.cells #[.bool na,.string sa] 26) (.cells #[.bool nb,.string sb] 26) (.cells #[.bool false,.string ⟨#[]⟩] 26);rw [← hW];have HkW:=jX hkW;have Hba:=jX ba;have Hbb:=jX bb;have Hbc:=jX bc;clear hW ba bb bc hkW;refine (Hc.out _).mono ?_;rintro e w2 ⟨rfl,hk2⟩;dsimp only;have Hba2:=jX (hk2.heap Hba.out (by simp));have Hbb2:=jX (hk2.heap Hbb.out (by simp));have Hbc2:=jX (hk2.heap Hbc.out (by simp));have HkW2:=jX (HkW.out.tz hk2);clear Hba Hbb Hbc HkW hk2;have Hba:=Hba2;have Hbb:=Hbb2;have Hbc:=Hbc2;have HkW:=HkW2;clear Hba2 Hbb2 Hbc2 HkW2;have ka0:∀ m:KW w2,(Wk w2 m).cell? ⟨w.heap.size,0,none⟩=some (.bool na):=yao Hba.out (by rw [yab Hba.out];rfl);have ka1:∀ m:KW w2,(Wk w2 m).cell? ⟨w.heap.size,1,none⟩=some (.string sa):=yao Hba.out (by rw [yab Hba.out];rfl);have kb0:∀ m:KW w2,(Wk w2 m).cell? ⟨w.heap.size+1,0,none⟩=some (.bool nb):=yao Hbb.out (by rw [yab Hbb.out];rfl);have kb1:∀ m:KW w2,(Wk w2 m).cell? ⟨w.heap.size+1,1,none⟩=some (.string sb):=yao Hbb.out (by rw [yab Hbb.out];rfl);have Q1:Hid (∀ m:KW w2,Calls prog 190 #[.string sb,.string sa] (Wk w2 m) fun e w'=>e = .returned (.string sr)∧∃ m,w'=Wk w2 m):=fun m=>qk m (Ha.out _);have Q2:Hid (∀ m:KW w2,Calls prog 159 #[.bool nb,.string sr] (Wk w2 m) fun e w'=>e = .returned (.agg #[.bool nr,.string sr])∧∃ m,w'=Wk w2 m):=fun m=>qk m (Hm.out _);clear Ha Hm Hc;go_wp2_with fail;refine yai 8 (by kernel_rfl) (by kernel_rfl) ?_;simp only [List.take_succ_cons,List.take_zero,List.drop_succ_cons,List.drop_zero]
 repeat (first
  | go_big_quiet_skip
  | (go_big_quiet_want;go_big_quiet_op;first|go_big_quiet_on|go_big_quiet_call (first
   | (go_at_call 190;exact (Q1).out _)|(go_at_call 159;exact (Q2).out _))))
 refine wpQuiet_nil ?_;rintro wz ⟨⟨_,hk_wz⟩,rfl⟩;have bz:=hk_wz.heap Hbc.out (by simp);have cz0:wz.cell? ⟨w.heap.size+2,0,none⟩=some (.bool false):=by rw [yab bz];rfl
 have cz1:wz.cell? ⟨w.heap.size+2,1,none⟩=some (.string ⟨#[]⟩):=by rw [yab bz];rfl
 have fz:=yae bz;have lz:=yaa bz;have Hkz:=jX (HkW.out.tz hk_wz);clear bz hk_wz;go_wp2_with fail;refine bodyPost_ret (v:=.agg #[.bool nr,.string sr]) ?_ rfl ⟨rfl,?_⟩
 ·rw [yac rfl];go_simp
 exact (Hkz.out.sP _ _ _ (by omega)).sP _ _ _ (by omega)
def Fit (k:Nat) (z:Int):Prop:=(mgS z).size≤k
theorem Fit.mono {k l:Nat} {z:Int} (h:Fit k z) (hl:k≤l):Fit l z:=Nat.le_trans h hl
theorem Fit_iff {k:Nat} {z:Int}:Fit k z↔z.natAbs<256 ^ k:=by unfold Fit mgS;exact yaW _ _
theorem Fit.add {k:Nat} {a b:Int} (ha:Fit k a) (hb:Fit k b):Fit (k+1) (a+b):=by
 rw [Fit_iff] at *;rw [Nat.pow_succ];omega
theorem Fit.neg {k:Nat} {a:Int} (ha:Fit k a):Fit k (-a):=by
 rw [Fit_iff] at *;omega
theorem Fit.mul {k l:Nat} {a b:Int} (ha:Fit k a) (hb:Fit l b):Fit (k+l) (a*b):=by
 rw [Fit_iff] at *;rw [Int.natAbs_mul,Nat.pow_add];exact Nat.mul_lt_mul'' ha hb
theorem Fit.le {k:Nat} {a b:Int} (hb:Fit k b) (h:a.natAbs≤b.natAbs):Fit k a:=by
 rw [Fit_iff] at *;omega
theorem Add_c (a b:Int) (ha:Fit 100000000000 a) (hb:Fit 100000000000 b) (w:World) :
  Calls prog 156 #[zv a,zv b] w fun e w'=>e = .returned (zv (a+b))∧Keep [] w w':=by
 by_cases hs:sgB a=sgB b
 ·have e : a + b = mk (sgB a) (a.natAbs + b.natAbs) := by
   unfold mk sgB at *;rw [decide_eq_decide] at hs;by_cases h:a<0
   ·have:=hs.1 h;simp only [h,decide_true,if_true];omega
   have:¬ b<0:=fun x=>h (hs.2 x);simp only [h,decide_false];simp;omega
  rw [e];unfold zv;rw [← hs];refine Add_same _ _ _ _ ?_ w;have:=fun w=>add_c (mgS a) (mgS b) ha hb w;rw [yaK,yaK] at this;exact this
 have hbb:(sgB a == sgB b)=false:=by simpa using hs
 have hc:=fun w=>ycy (mgS a) (mgS b) (mg_can a) (mg_can b) w;rw [yaK,yaK] at hc;by_cases hle:b.natAbs≤a.natAbs
 ·have e : a + b = mk (sgB a) (a.natAbs - b.natAbs) := by
   unfold mk sgB at *;by_cases h:a<0<;>by_cases h2:b<0<;>simp [h,h2] at hs ⊢ <;> omega
  rw [e];refine Add_ge _ _ hbb _ _ _ _ (cmp_nn hle) hc ?_ w;have:=fun w=>sub_c (mgS a) (mgS b) ha hb (by rw [yaK,yaK];exact hle) w;rw [yaK,yaK] at this;exact this
 have e:a+b=mk (sgB b) (b.natAbs-a.natAbs):=by
  unfold mk sgB at *;by_cases h:a<0<;>by_cases h2:b<0<;>simp [h,h2] at hs ⊢ <;> omega
 rw [e];refine Add_lt _ _ hbb _ _ _ _ (by rw [cmp_neg (by omega)];decide) hc ?_ w;have:=fun w=>sub_c (mgS b) (mgS a) hb ha (by rw [yaK,yaK];omega) w;rw [yaK,yaK] at this;exact this
theorem Negate_c (a:Int) (w:World) :
  Calls prog 118 #[zv a] w fun e w'=>e = .returned (zv (-a))∧Keep [] w w':=by
 have e : -a=mk (!sgB a) a.natAbs:=by
  unfold mk sgB;by_cases h:a<0<;>simp [h]<;>omega
 rw [e];have Hm:=jX (ycB (!sgB a) a.natAbs);unfold zv at Hm ⊢;rw [ygC] at Hm ⊢;unfold mgS;generalize sgB (mk (!sgB a) a.natAbs)=nr at *;generalize magS a.natAbs=sr at *;generalize sgB a=na at *;clear e;go_enter func118,ntmps118
 go_wp2_with fail;obtain⟨W,hW,ba,bc,hz,hkW⟩:=ygX w (.cells #[.bool na,.string sr] 26) (.cells #[.bool false,.string ⟨#[]⟩] 26);rw [← hW];have HkW:=jX hkW;have Hbc:=jX bc;clear hW ba bc hkW;refine (Hm.out _).mono ?_;rintro e w2 ⟨rfl,hk2⟩;dsimp only;have bz:=hk2.heap Hbc.out (by simp);have cz0:w2.cell? ⟨w.heap.size+1,0,none⟩=some (.bool false):=by rw [yab bz];rfl
 have cz1:w2.cell? ⟨w.heap.size+1,1,none⟩=some (.string ⟨#[]⟩):=by rw [yab bz];rfl
 have fz:=yae bz;have lz:=yaa bz;have Hkz:=jX (HkW.out.tz hk2);clear bz hk2 Hm;go_wp2_with fail;refine bodyPost_ret (v:=.agg #[.bool nr,.string sr]) ?_ rfl ⟨rfl,?_⟩
 ·rw [yac rfl];go_simp
 exact (Hkz.out.sP _ _ _ (by omega)).sP _ _ _ (by omega)
theorem Mul_c (a b:Int) (ha:Fit 100000000000 a) (hb:Fit 100000000000 b) (w:World) :
  Calls prog 169 #[zv a,zv b] w fun e w'=>e = .returned (zv (a*b))∧Keep [] w w':=by
 have e:a*b=mk (sgB a != sgB b) (a.natAbs*b.natAbs):=by
  unfold mk sgB;have h1:∀ x:Int,x<0→(x.natAbs:Int) = -x:=fun x h=>by omega
  have h2:∀ x:Int,¬ x<0→(x.natAbs:Int)=x:=fun x h=>by omega
  by_cases h:a<0<;>by_cases h':b<0<;>simp only [h,h',decide_true,decide_false]<;>simp<;>(try rw [h1 a h])<;>(try rw [h2 a h])<;>(try rw [h1 b h'])<;>(try rw [h2 b h'])<;>(first|grind|simp)
 rw [e];have Ha:=jX (fun w=>mul_c (mgS a) (mgS b) ha hb w);rw [yaK,yaK] at Ha;have Hm:=jX (ycB (sgB a != sgB b) (a.natAbs*b.natAbs));unfold zv at Hm ⊢;rw [ygC] at Hm ⊢;generalize sgB (mk (sgB a != sgB b) (a.natAbs*b.natAbs))=nr at *;generalize magS (a.natAbs*b.natAbs)=sr at *;generalize mgS a=sa at *;generalize mgS b=sb at *;generalize sgB a=na at *;generalize sgB b=nb at *;clear e;go_enter func169,ntmps169
 go_wp2_with fail;obtain⟨W,hW,ba,bb,bc,hz,hkW⟩:=yeS w (.cells #[.bool na,.string sa] 26) (.cells #[.bool nb,.string sb] 26) (.cells #[.bool false,.string ⟨#[]⟩] 26);rw [← hW];have HkW:=jX hkW;have Hba:=jX ba;have Hbb:=jX bb;have Hbc:=jX bc;clear hW ba bb bc hkW;have ka0:∀ m:KW W,(Wk W m).cell? ⟨w.heap.size,0,none⟩=some (.bool na):=yao Hba.out (by rw [yab Hba.out];rfl);have ka1:∀ m:KW W,(Wk W m).cell? ⟨w.heap.size,1,none⟩=some (.string sa):=yao Hba.out (by rw [yab Hba.out];rfl);have kb0:∀ m:KW W,(Wk W m).cell? ⟨w.heap.size+1,0,none⟩=some (.bool nb):=yao Hbb.out (by rw [yab Hbb.out];rfl);have kb1:∀ m:KW W,(Wk W m).cell? ⟨w.heap.size+1,1,none⟩=some (.string sb):=yao Hbb.out (by rw [yab Hbb.out];rfl);have Q1:Hid (∀ m:KW W,Calls prog 194 #[.string sa,.string sb] (Wk W m) fun e w'=>e = .returned (.string sr)∧∃ m,w'=Wk W m):=fun m=>qk m (Ha.out _);have Q2:Hid (∀ m:KW W,Calls prog 159 #[.bool (na != nb),.string sr] (Wk W m) fun e w'=>e = .returned (.agg #[.bool nr,.string sr])∧∃ m,w'=Wk W m):=fun m=>qk m (Hm.out _);clear Ha Hm ha hb;refine yai 11 (by kernel_rfl) (by kernel_rfl) ?_;simp only [List.take_succ_cons,List.take_zero,List.drop_succ_cons,List.drop_zero]
 repeat (first
  | go_big_quiet_skip
  | (go_big_quiet_want;go_big_quiet_op;first|go_big_quiet_on|go_big_quiet_call (first
   | (go_at_call 194;exact (Q1).out _)|(go_at_call 159;exact (Q2).out _))))
 refine wpQuiet_nil ?_;rintro wz ⟨⟨_,hk_wz⟩,rfl⟩;have bz:=hk_wz.heap Hbc.out (by simp);have cz0:wz.cell? ⟨w.heap.size+2,0,none⟩=some (.bool false):=by rw [yab bz];rfl
 have cz1:wz.cell? ⟨w.heap.size+2,1,none⟩=some (.string ⟨#[]⟩):=by rw [yab bz];rfl
 have fz:=yae bz;have lz:=yaa bz;have Hkz:=jX (HkW.out.tz hk_wz);clear bz hk_wz;go_wp2_with fail;refine bodyPost_ret (v:=.agg #[.bool nr,.string sr]) ?_ rfl ⟨rfl,?_⟩
 ·rw [yac rfl];go_simp
 exact (Hkz.out.sP _ _ _ (by omega)).sP _ _ _ (by omega)
theorem Sub_c (a b:Int) (ha:Fit 100000000000 a) (hb:Fit 100000000000 b) (w:World) :
  Calls prog 197 #[zv a,zv b] w fun e w'=>e = .returned (zv (a-b))∧Keep [] w w':=by
 have H1:=jX (Negate_c b);have H2:=jX (Add_c a (-b) ha hb.neg);rw [show a + -b=a-b by omega] at H2
 unfold zv at *;generalize sgB (a-b)=nr at *;generalize mgS (a-b)=sr at *;generalize sgB (-b)=nb' at *;generalize mgS (-b)=sb' at *;generalize sgB a=na at *;generalize sgB b=nb at *;generalize mgS a=sa at *;generalize mgS b=sb at *;clear ha hb;go_enter func197,ntmps197
 go_wp2_with fail;obtain⟨W,hW,ba,bb,bc,hz,hkW⟩:=yeS w (.cells #[.bool na,.string sa] 26) (.cells #[.bool nb,.string sb] 26) (.cells #[.bool false,.string ⟨#[]⟩] 26);rw [← hW];have HkW:=jX hkW;have Hba:=jX ba;have Hbb:=jX bb;have Hbc:=jX bc;clear hW ba bb bc hkW;have ka0:∀ m:KW W,(Wk W m).cell? ⟨w.heap.size,0,none⟩=some (.bool na):=yao Hba.out (by rw [yab Hba.out];rfl);have ka1:∀ m:KW W,(Wk W m).cell? ⟨w.heap.size,1,none⟩=some (.string sa):=yao Hba.out (by rw [yab Hba.out];rfl);have kb0:∀ m:KW W,(Wk W m).cell? ⟨w.heap.size+1,0,none⟩=some (.bool nb):=yao Hbb.out (by rw [yab Hbb.out];rfl);have kb1:∀ m:KW W,(Wk W m).cell? ⟨w.heap.size+1,1,none⟩=some (.string sb):=yao Hbb.out (by rw [yab Hbb.out];rfl);have Q1:Hid (∀ m:KW W,Calls prog 118 #[.agg #[.bool nb,.string sb]] (Wk W m) fun e w'=>e = .returned (.agg #[.bool nb',.string sb'])∧∃ m,w'=Wk W m):=fun m=>qk m (H1.out _);have Q2:Hid (∀ m:KW W,Calls prog 156 #[.agg #[.bool na,.string sa],.agg #[.bool nb',.string sb']] (Wk W m) fun e w'=>e = .returned (.agg #[.bool nr,.string sr])∧∃ m,w'=Wk W m):=fun m=>qk m (H2.out _);clear H1 H2;refine yai 4 (by kernel_rfl) (by kernel_rfl) ?_;simp only [List.take_succ_cons,List.take_zero,List.drop_succ_cons,List.drop_zero]
 repeat (first
  | go_big_quiet_skip
  | (go_big_quiet_want;go_big_quiet_op;first|go_big_quiet_on|go_big_quiet_call (first
   | (go_at_call 118;exact (Q1).out _)|(go_at_call 156;exact (Q2).out _))))
 refine wpQuiet_nil ?_;rintro wz ⟨⟨_,hk_wz⟩,rfl⟩;have bz:=hk_wz.heap Hbc.out (by simp);have cz0:wz.cell? ⟨w.heap.size+2,0,none⟩=some (.bool false):=by rw [yab bz];rfl
 have cz1:wz.cell? ⟨w.heap.size+2,1,none⟩=some (.string ⟨#[]⟩):=by rw [yab bz];rfl
 have fz:=yae bz;have lz:=yaa bz;have Hkz:=jX (HkW.out.tz hk_wz);clear bz hk_wz;go_wp2_with fail;refine bodyPost_ret (v:=.agg #[.bool nr,.string sr]) ?_ rfl ⟨rfl,?_⟩
 ·rw [yac rfl];go_simp
 exact (Hkz.out.sP _ _ _ (by omega)).sP _ _ _ (by omega)
end Go.Proofs.YtpgffjjpiafhpaaGreatDoor
