/- Parts of a proof: Zj Zk Zg. -/
import Derived.Deep.LoopGhost
import Derived.Test.YtpgffjjpiafhpaaGreatDoorJ06
set_option linter.unusedVariables false
set_option linter.unusedSimpArgs false
set_option maxRecDepth 100000
set_option maxHeartbeats 8000000
namespace Go.Proofs.YtpgffjjpiafhpaaGreatDoor
open Go.RowKit Tryz
def zsgn (z:Int):Int:=if z<0 then -1 else if z=0 then 0 else 1
theorem ybn {z:Int}:mgS z=⟨#[]⟩↔z=0:=by unfold mgS;rw [ybp];omega
theorem Sign_c (z:Int) (w:World) :
  Calls prog 158 #[zv z] w fun e w'=>e = .returned (.int .i64 (zsgn z))∧Keep [] w w':=by
 unfold zv;by_cases h0:z=0
 ·subst h0
  rw [show sgB 0=false from rfl,show mgS 0=⟨#[]⟩ from magS_zero]
  go_enter func158,ntmps158
  go_wp2_with fail;go_ret
  exact ⟨rfl,Keep.alloc _ _ _⟩
 have hne:mgS z≠⟨#[]⟩:=fun h=>h0 (ybn.1 h);have h1:=yeX hne;have h2:=ydW hne;by_cases hn:z<0
 ·have e:zsgn z = -1:=by unfold zsgn;rw [if_pos hn]
  rw [show sgB z=true by unfold sgB;simpa using hn,e]
  generalize mgS z=s at *;clear hne h0 hn e;go_enter func158,ntmps158
  go_wp2_with fail;go_ret
  exact ⟨rfl,Keep.alloc _ _ _⟩
 have e:zsgn z=1:=by unfold zsgn;rw [if_neg hn,if_neg h0]
 rw [show sgB z=false by unfold sgB;simpa using hn,e]
 generalize mgS z=s at *;clear hne h0 hn e;go_enter func158,ntmps158
 go_wp2_with fail;go_ret
 exact ⟨rfl,Keep.alloc _ _ _⟩
theorem cmp_sgn (a b:Int) (h:sgB a≠sgB b):Lib.compareInt (zsgn a) (zsgn b)=Lib.compareInt a b:=by
 unfold sgB at h;unfold Lib.compareInt zsgn;by_cases h1:a<0<;>by_cases h2:b<0<;>simp [h1,h2] at h ⊢
 ·by_cases h3:b=0<;>simp [h3]<;>omega
 by_cases h3:a=0<;>simp [h3]<;>omega
theorem yhL (a b:Int) (h1:a<0) (h2:b<0) : -(Lib.compareInt (a.natAbs:Int) b.natAbs)=Lib.compareInt a b:=by
 unfold Lib.compareInt;rcases Int.lt_trichotomy a b with h|h|h
 ·rw [if_neg (by omega),if_pos (by omega),if_pos h]
 ·subst h;simp
 rw [if_pos (by omega),if_neg (by omega),if_pos h];rfl
theorem yhS (a b:Int) (h1:¬ a<0) (h2:¬ b<0):Lib.compareInt (a.natAbs:Int) b.natAbs=Lib.compareInt a b:=by
 rw [show (a.natAbs:Int)=a by omega,show (b.natAbs:Int)=b by omega]
theorem cmp_range (a b:Int) : -1≤Lib.compareInt a b∧Lib.compareInt a b≤1:=by
 unfold Lib.compareInt;split
 ·omega
 split<;>omega
theorem Compare_c (a b:Int) (w:World) :
  Calls prog 151 #[zv a,zv b] w fun e w'=>e = .returned (.int .i64 (Lib.compareInt a b))∧Keep [] w w':=by
 by_cases hs:sgB a=sgB b
 ·have hc:=fun w=>ycy (mgS a) (mgS b) (mg_can a) (mg_can b) w
  rw [yaK,yaK] at hc;have hr:=cmp_range (a.natAbs:Int) b.natAbs;unfold zv;by_cases hn:a<0
  ·have hb : b < 0 := by
    unfold sgB at hs;rw [decide_eq_decide] at hs;exact hs.1 hn
   rw [← yhL a b hn hb];rw [show sgB a=true by unfold sgB;simpa using hn,show sgB b=true by unfold sgB;simpa using hb]
   have Hc:=jX hc;generalize Lib.compareInt (a.natAbs:Int) b.natAbs=c at *;generalize mgS a=sa at *;generalize mgS b=sb at *;clear hc hs hn hb;go_enter func151,ntmps151
   go_wp2_with fail;obtain⟨W,hW,ba,bb,hz,hkW⟩:=ygX w (.cells #[.bool true,.string sa] 26) (.cells #[.bool true,.string sb] 26);rw [← hW];have HkW:=jX hkW;have Hba:=jX ba;have Hbb:=jX bb;clear hW ba bb hkW;refine (Hc.out _).mono ?_;rintro e w2 ⟨rfl,hk2⟩;dsimp only;have ba2:=hk2.heap Hba.out (by simp);have pa0:w2.cell? ⟨w.heap.size,0,none⟩=some (.bool true):=by rw [yab ba2];rfl
   have Hk2:=jX (HkW.out.tz hk2);clear ba2 hk2 Hc;go_wp2_with fail;go_ret
   exact ⟨rfl,Hk2.out⟩
  have hb:¬ b<0:=by
   unfold sgB at hs;rw [decide_eq_decide] at hs;exact fun h=>hn (hs.2 h)
  rw [← yhS a b hn hb];rw [show sgB a=false by unfold sgB;simpa using hn,show sgB b=false by unfold sgB;simpa using hb]
  have Hc:=jX hc;generalize Lib.compareInt (a.natAbs:Int) b.natAbs=c at *;generalize mgS a=sa at *;generalize mgS b=sb at *;clear hc hs hn hb;go_enter func151,ntmps151
  go_wp2_with fail;obtain⟨W,hW,ba,bb,hz,hkW⟩:=ygX w (.cells #[.bool false,.string sa] 26) (.cells #[.bool false,.string sb] 26);rw [← hW];have HkW:=jX hkW;have Hba:=jX ba;have Hbb:=jX bb;clear hW ba bb hkW;refine (Hc.out _).mono ?_;rintro e w2 ⟨rfl,hk2⟩;dsimp only;have ba2:=hk2.heap Hba.out (by simp);have pa0:w2.cell? ⟨w.heap.size,0,none⟩=some (.bool false):=by rw [yab ba2];rfl
  have Hk2:=jX (HkW.out.tz hk2);clear ba2 hk2 Hc;go_wp2_with fail;go_ret
  exact ⟨rfl,Hk2.out⟩
 rw [← cmp_sgn a b hs];have hbb:(sgB a != sgB b)=true:=by simpa using hs
 have hbc:(sgB a == sgB b)=false:=by simpa using hs
 have H1:=jX (Sign_c a);have H2:=jX (Sign_c b);have H3:=jX (Tryz.cmp_Compare_int (zsgn a) (zsgn b));unfold zv at *;generalize Lib.compareInt (zsgn a) (zsgn b)=c at *;generalize zsgn a=xa at *;generalize zsgn b=xb at *;generalize sgB a=na at *;generalize sgB b=nb at *;generalize mgS a=sa at *;generalize mgS b=sb at *;clear hs;go_enter func151,ntmps151
 go_wp2_with fail;obtain⟨W,hW,ba,bb,hz,hkW⟩:=ygX w (.cells #[.bool na,.string sa] 26) (.cells #[.bool nb,.string sb] 26);rw [← hW];have HkW:=jX hkW;have Hba:=jX ba;have Hbb:=jX bb;clear hW ba bb hkW;have ka0:∀ m:KW W,(Wk W m).cell? ⟨w.heap.size,0,none⟩=some (.bool na):=yao Hba.out (by rw [yab Hba.out];rfl);have ka1:∀ m:KW W,(Wk W m).cell? ⟨w.heap.size,1,none⟩=some (.string sa):=yao Hba.out (by rw [yab Hba.out];rfl);have kb0:∀ m:KW W,(Wk W m).cell? ⟨w.heap.size+1,0,none⟩=some (.bool nb):=yao Hbb.out (by rw [yab Hbb.out];rfl);have kb1:∀ m:KW W,(Wk W m).cell? ⟨w.heap.size+1,1,none⟩=some (.string sb):=yao Hbb.out (by rw [yab Hbb.out];rfl);have Q1:Hid (∀ m:KW W,Calls prog 158 #[.agg #[.bool na,.string sa]] (Wk W m) fun e w'=>e = .returned (.int .i64 xa)∧∃ m,w'=Wk W m):=fun m=>qk m (H1.out _);have Q2:Hid (∀ m:KW W,Calls prog 158 #[.agg #[.bool nb,.string sb]] (Wk W m) fun e w'=>e = .returned (.int .i64 xb)∧∃ m,w'=Wk W m):=fun m=>qk m (H2.out _);have Q3:Hid (∀ m:KW W,Calls prog 184 #[.int .i64 xa,.int .i64 xb] (Wk W m) fun e w'=>e = .returned (.int .i64 c)∧∃ m,w'=Wk W m):=fun m=>qp m (H3.out _);clear H1 H2 H3;go_wp2_with fail;refine yad (by kernel_rfl) (by kernel_rfl) ?_
 repeat (first
  | go_big_quiet_skip
  | (go_big_quiet_want;go_big_quiet_op;first|go_big_quiet_on|go_big_quiet_call (first
   | (go_at_call 158;with_reducible exact (Q1).out _)
   | (go_at_call 158;with_reducible exact (Q2).out _)
   | (go_at_call 184;with_reducible exact (Q3).out _))))
 refine wpQuiet_nil ?_;rintro wz ⟨⟨_,hk_wz⟩,rfl⟩;have Hkz:=jX (HkW.out.tz hk_wz);clear hk_wz;go_wp2_with fail;go_ret
 exact ⟨rfl,Hkz.out⟩
theorem FromInt_c (n:Int) (h1 : -9223372036854775808≤n) (h2:n≤9223372036854775807) (w:World) :
  Calls prog 111 #[.int .i64 n] w fun e w'=>e = .returned (zv n)∧Keep [] w w':=by
 have Hg:=jX (fun w=>ybi n.natAbs (by omega) w);by_cases hn:n<0
 ·have Hm:=jX (ycB true n.natAbs)
  have e:mk true n.natAbs=n:=by unfold mk;simp;omega
  rw [e] at Hm;have hu:IntKind.u64.wrap (-IntKind.u64.wrap n)=(n.natAbs:Int):=by rw [IntKind.wrap_u64,IntKind.wrap_u64];omega
  have hu1:n % 18446744073709551616=n+18446744073709551616:=by omega
  have hu2 : -(n+18446744073709551616) % 18446744073709551616=(n.natAbs:Int):=by omega
  have hd:decide (n<0)=true:=by simpa using hn
  unfold zv at Hm ⊢;generalize sgB n=nr at *;generalize mgS n=sr at *;generalize magS n.natAbs=sm at *;generalize n.natAbs=m at *;clear e;go_enter func111,ntmps111
  go_wp2_with fail;obtain⟨W,hW,bc,hz,hkW⟩:=yfw w (.cells #[.bool false,.string ⟨#[]⟩] 26);rw [← hW];have HkW:=jX hkW;have Hbc:=jX bc;clear hW bc hkW;refine (Hg.out W).mono ?_;rintro e w2 ⟨rfl,hk2⟩;dsimp only;have Hbc2:=jX (hk2.heap Hbc.out (by simp));have HkW2:=jX (HkW.out.tz hk2);clear hk2 Hbc HkW Hg;go_wp2_with fail;refine (Hm.out w2).mono ?_;rintro e wz ⟨rfl,hk_wz⟩;dsimp only;have Hbc:=Hbc2;have HkW:=HkW2;clear Hm Hbc2 HkW2;have bz:=hk_wz.heap Hbc.out (by simp);have cz0:wz.cell? ⟨w.heap.size,0,none⟩=some (.bool false):=by rw [yab bz];rfl
  have cz1:wz.cell? ⟨w.heap.size,1,none⟩=some (.string ⟨#[]⟩):=by rw [yab bz];rfl
  have fz:=yae bz;have lz:=yaa bz;have Hkz:=jX (HkW.out.tz hk_wz);clear bz hk_wz;go_wp2_with fail;refine bodyPost_ret (v:=.agg #[.bool nr,.string sr]) ?_ rfl ⟨rfl,?_⟩
  ·rw [yac rfl];go_simp
  exact (Hkz.out.sP _ _ _ (by omega)).sP _ _ _ (by omega)
 obtain⟨m,rfl⟩:∃ m:Nat,n=m:=⟨n.toNat,by omega⟩;have Hm:=jX (ycB false m);have e:mk false m=(m:Int):=by unfold mk;simp
 rw [e] at Hm;have hd:decide ((m:Int)<0)=false:=by simp
 rw [Int.natAbs_natCast] at Hg;unfold zv at Hm ⊢;generalize sgB m=nr at *;generalize mgS m=sr at *;generalize magS m=sm at *;clear e;go_enter func111,ntmps111
 go_wp2_with fail;obtain⟨W,hW,bc,hz,hkW⟩:=yfw w (.cells #[.bool false,.string ⟨#[]⟩] 26);rw [← hW];have HkW:=jX hkW;have Hbc:=jX bc;clear hW bc hkW;refine (Hg.out W).mono ?_;rintro e w2 ⟨rfl,hk2⟩;dsimp only;have Hbc2:=jX (hk2.heap Hbc.out (by simp));have HkW2:=jX (HkW.out.tz hk2);clear hk2 Hbc HkW Hg;go_wp2_with fail;refine (Hm.out w2).mono ?_;rintro e wz ⟨rfl,hk_wz⟩;dsimp only;have Hbc:=Hbc2;have HkW:=HkW2;clear Hm Hbc2 HkW2;have bz:=hk_wz.heap Hbc.out (by simp);have cz0:wz.cell? ⟨w.heap.size,0,none⟩=some (.bool false):=by rw [yab bz];rfl
 have cz1:wz.cell? ⟨w.heap.size,1,none⟩=some (.string ⟨#[]⟩):=by rw [yab bz];rfl
 have fz:=yae bz;have lz:=yaa bz;have Hkz:=jX (HkW.out.tz hk_wz);clear bz hk_wz;go_wp2_with fail;refine bodyPost_ret (v:=.agg #[.bool nr,.string sr]) ?_ rfl ⟨rfl,?_⟩
 ·rw [yac rfl];go_simp
 exact (Hkz.out.sP _ _ _ (by omega)).sP _ _ _ (by omega)
theorem yiR {a b:Int} (hb:0<b):(∀ h:a<0∧a.natAbs % b.natAbs≠0,mk (sgB a) (a.natAbs / b.natAbs+1)=a / b∧mk false (b.natAbs-a.natAbs % b.natAbs)=a % b) ∧
  (∀ h:¬ (a<0∧a.natAbs % b.natAbs≠0),mk (sgB a) (a.natAbs / b.natAbs)=a / b∧mk false (a.natAbs % b.natAbs)=a % b):=by
 have h1:=Nat.div_add_mod a.natAbs b.natAbs;have h2:=Nat.mod_lt a.natAbs (show 0<b.natAbs by omega)
 have hb2:(b.natAbs:Int)=b:=by omega
 have key:∀ q r:Int,r+b*q=a→0≤r→r<b→q=a / b∧r=a % b:=fun q r e1 e2 e3=>by
  have:=(Int.ediv_emod_unique hb).2 ⟨e1,e2,e3⟩;exact ⟨this.1.symm,this.2.symm⟩
 have h3:b*((a.natAbs / b.natAbs:Nat):Int)+((a.natAbs % b.natAbs:Nat):Int)=(a.natAbs:Int):=by
  have:=congrArg (fun x:Nat=>(x:Int)) h1;rw [Int.natCast_add,Int.natCast_mul,hb2] at this;exact this
 generalize a.natAbs / b.natAbs=q at *;generalize a.natAbs % b.natAbs=r at *;constructor
 ·rintro ⟨ha,hr⟩
  refine key _ _ ?_ ?_ ?_<;>unfold mk<;>(try unfold sgB)<;>simp [ha]
  ·have:b * -((q:Int)+1) = -(b*(q:Int))-b:=by rw [Int.mul_neg,Int.mul_add];omega
   omega
  omega
 intro h;refine key _ _ ?_ ?_ ?_
 ·unfold mk sgB
  by_cases ha:a<0
  ·have hr : r = 0 := by
    rcases Nat.eq_zero_or_pos r with h|h'
    ·exact h
    exact absurd ⟨ha,by omega⟩ h
   simp [ha];have:b * -(q:Int) = -(b*(q:Int)):=Int.mul_neg _ _;omega
  simp [ha];omega
 ·unfold mk;simp
 unfold mk;simp;omega
theorem DivMod_c (a b:Int) (ha:Fit 100000000000 a) (hb:Fit 100000000000 b) (h0:0<b) (w:World) :
  Calls prog 198 #[zv a,zv b] w fun e w'=>e = .returned (.tuple #[zv (a / b),zv (a % b),.int .i64 0])∧Keep [] w w':=by
 have Hd:=jX (fun w=>div_c (mgS a) (mgS b) ha hb (mg_can a) (mg_can b) (by rw [yaK];omega) w);rw [yaK,yaK] at Hd;have hbs:sgB b=false:=by unfold sgB;simp;omega
 have hbne:mgS b≠⟨#[]⟩:=fun h=>by have:=ybn.1 h;omega
 obtain⟨hc1,hc2⟩:=yiR (a:=a) h0
 have hq:(magS (a.natAbs / b.natAbs)).size≤100000000000:=by
  rw [yaW];have:=Fit_iff.1 ha;exact Nat.lt_of_le_of_lt (Nat.div_le_self _ _) this
 have hr:(magS (a.natAbs % b.natAbs)).size≤100000000000:=by
  rw [yaW];have:=Fit_iff.1 ha;exact Nat.lt_of_le_of_lt (Nat.mod_le _ _) this
 have hrb:a.natAbs % b.natAbs≤b.natAbs:=Nat.le_of_lt (Nat.mod_lt _ (by omega));have hA:=fun w=>add_c (magS (a.natAbs / b.natAbs)) ⟨#[1]⟩ hq (by decide) w;have hS:=fun w=>sub_c (mgS b) (magS (a.natAbs % b.natAbs)) hb hr (by rw [yaK,yax];exact hrb) w;rw [yax,show natB ⟨#[1]⟩=1 from rfl] at hA
 rw [yaK,yax] at hS;have s1:=yeX hbne;have s2:=ydW hbne;unfold zv;rw [hbs];by_cases hc:a<0∧a.natAbs % b.natAbs≠0
 ·obtain⟨e1,e2⟩:=hc1 hc
  have Hm1:=jX (ycB (sgB a) (a.natAbs / b.natAbs+1));have Hm2:=jX (ycB false (b.natAbs-a.natAbs % b.natAbs));rw [e1] at Hm1;rw [e2] at Hm2;unfold zv at Hm1 Hm2;have hna:sgB a=true:=by unfold sgB;simpa using hc.1
  have hrne:magS (a.natAbs % b.natAbs)≠⟨#[]⟩:=fun h=>hc.2 (ybp.1 h);have r1:=yeX hrne;have r2:=ydW hrne;have Ha:=jX hA;have Hs:=jX hS;rw [hna] at Hm1 ⊢;generalize sgB (a / b)=nq at *;generalize mgS (a / b)=sq at *;generalize sgB (a % b)=nr at *;generalize mgS (a % b)=sr at *;generalize magS (a.natAbs / b.natAbs)=s3 at *;generalize magS (a.natAbs % b.natAbs)=s4 at *;generalize magS (a.natAbs / b.natAbs+1)=s5 at *;generalize magS (b.natAbs-a.natAbs % b.natAbs)=s6 at *;generalize mgS a=sa at *;generalize mgS b=sb at *;clear hc hc1 hc2 e1 e2 hA hS hq hr hrb hbne hrne hbs hna ha hb h0;go_enter func198,ntmps198
  go_wp2_with fail;obtain⟨W,hW,ba,bb,bq,br,hz,hkW⟩:=alloc4 w (.cells #[.bool true,.string sa] 26) (.cells #[.bool false,.string sb] 26) (.cells #[.bool false,.string ⟨#[]⟩] 26) (.cells #[.bool false,.string ⟨#[]⟩] 26);rw [← hW];have HkW1:=jX hkW;have Hba1:=jX ba;have Hbb1:=jX bb;have Hbq1:=jX bq;have Hbr1:=jX br;clear hW ba bb bq br hkW;refine (Hd.out _).mono ?_;rintro e w2 ⟨rfl,hk2⟩;dsimp only;have Hba:=jX (hk2.heap Hba1.out (by simp));have Hbb:=jX (hk2.heap Hbb1.out (by simp));have Hbq:=jX (hk2.heap Hbq1.out (by simp));have Hbr:=jX (hk2.heap Hbr1.out (by simp));have HkW:=jX (HkW1.out.tz hk2);clear HkW1 Hba1 Hbb1 Hbq1 Hbr1 hk2 Hd;have pa0:w2.cell? ⟨w.heap.size,0,none⟩=some (.bool true):=by rw [yab Hba.out];rfl
  have pa1:w2.cell? ⟨w.heap.size,1,none⟩=some (.string sa):=by rw [yab Hba.out];rfl
  have pb0:w2.cell? ⟨w.heap.size+1,0,none⟩=some (.bool false):=by rw [yab Hbb.out];rfl
  have pb1:w2.cell? ⟨w.heap.size+1,1,none⟩=some (.string sb):=by rw [yab Hbb.out];rfl
  have ka0:∀ m:KW w2,(Wk w2 m).cell? ⟨w.heap.size,0,none⟩=some (.bool true):=yao Hba.out (by rw [yab Hba.out];rfl);have ka1:∀ m:KW w2,(Wk w2 m).cell? ⟨w.heap.size,1,none⟩=some (.string sa):=yao Hba.out (by rw [yab Hba.out];rfl);have kb0:∀ m:KW w2,(Wk w2 m).cell? ⟨w.heap.size+1,0,none⟩=some (.bool false):=yao Hbb.out (by rw [yab Hbb.out];rfl);have kb1:∀ m:KW w2,(Wk w2 m).cell? ⟨w.heap.size+1,1,none⟩=some (.string sb):=yao Hbb.out (by rw [yab Hbb.out];rfl);have Q1:Hid (∀ m:KW w2,Calls prog 189 #[.string s3,.string ⟨#[1]⟩] (Wk w2 m) fun e w'=>e = .returned (.string s5)∧∃ m,w'=Wk w2 m):=fun m=>qk m (Ha.out _);have Q2:Hid (∀ m:KW w2,Calls prog 190 #[.string sb,.string s4] (Wk w2 m) fun e w'=>e = .returned (.string s6)∧∃ m,w'=Wk w2 m):=fun m=>qk m (Hs.out _);clear Ha Hs;go_wp2_with fail;refine yad (by kernel_rfl) (by kernel_rfl) ?_
  repeat (first
   | go_big_quiet_skip
   | (go_big_quiet_want;go_big_quiet_op;first|go_big_quiet_on|go_big_quiet_call (first
    | (go_at_call 189;with_reducible exact (Q1).out _)
    | (go_at_call 190;with_reducible exact (Q2).out _))))
  refine wpQuiet_nil ?_;rintro w9 ⟨⟨_,hk_w9⟩,rfl⟩;have Hba2:=jX (hk_w9.heap Hba.out (by simp));have Hbb2:=jX (hk_w9.heap Hbb.out (by simp));have Hbq2:=jX (hk_w9.heap Hbq.out (by simp));have Hbr2:=jX (hk_w9.heap Hbr.out (by simp));have HkW2:=jX (HkW.out.tz hk_w9);clear HkW Hba Hbb Hbq Hbr hk_w9 ka0 ka1 kb0 kb1 pa0 pa1 pb0 pb1 Q1 Q2 w2;obtain⟨w2,rfl⟩:∃ x,x=w9:=⟨_,rfl⟩;have Hba:=Hba2;have Hbb:=Hbb2;have Hbq:=Hbq2;have Hbr:=Hbr2;have HkW:=HkW2;clear Hba2 Hbb2 Hbq2 Hbr2 HkW2;have pa0:w2.cell? ⟨w.heap.size,0,none⟩=some (.bool true):=by rw [yab Hba.out];rfl
  have pa1:w2.cell? ⟨w.heap.size,1,none⟩=some (.string sa):=by rw [yab Hba.out];rfl
  have pb0:w2.cell? ⟨w.heap.size+1,0,none⟩=some (.bool false):=by rw [yab Hbb.out];rfl
  have pb1:w2.cell? ⟨w.heap.size+1,1,none⟩=some (.string sb):=by rw [yab Hbb.out];rfl
  go_wp2_with fail;refine (Hm1.out w2).mono ?_;rintro e w3 ⟨rfl,hk3⟩;dsimp only;have Hk3:=jX hk3;clear hk3 Hm1;go_wp2_with fail;refine (Hm2.out w3).mono ?_;rintro e w4 ⟨rfl,hk4⟩;dsimp only;have hk5:=Hk3.out.tz hk4;have bq:=hk5.heap Hbq.out (by simp);have br:=hk5.heap Hbr.out (by simp);have cz0:w4.cell? ⟨w.heap.size+2,0,none⟩=some (.bool false):=by rw [yab bq];rfl
  have cz1:w4.cell? ⟨w.heap.size+2,1,none⟩=some (.string ⟨#[]⟩):=by rw [yab bq];rfl
  have cz2:w4.cell? ⟨w.heap.size+3,0,none⟩=some (.bool false):=by rw [yab br];rfl
  have cz3:w4.cell? ⟨w.heap.size+3,1,none⟩=some (.string ⟨#[]⟩):=by rw [yab br];rfl
  have fq:=yae bq;have fr:=yae br;have lq:=yaa bq;have lr:=yaa br;have Hkz:=jX (HkW.out.tz hk5);clear bq br hk4 hk5 Hm2 Hk3;go_wp2_with fail;refine bodyPost_ret (v:=.tuple #[.agg #[.bool nq,.string sq],.agg #[.bool nr,.string sr],.int .i64 0]) ?_ rfl ⟨rfl,?_⟩
  ·simp [results,Tryz.results198,go_sem]
   go_simp
  exact ((((Hkz.out.sP _ _ _ (by omega)).sP _ _ _ (by omega)).sP _ _ _ (by omega)).sP _ _ _ (by omega))
 obtain⟨e1,e2⟩:=hc2 hc;have Hm1:=jX (ycB (sgB a) (a.natAbs / b.natAbs));have Hm2:=jX (ycB false (a.natAbs % b.natAbs));rw [e1] at Hm1;rw [e2] at Hm2;unfold zv at Hm1 Hm2;by_cases hna:a<0
 ·have hr0 : a.natAbs % b.natAbs = 0 := by
   rcases Nat.eq_zero_or_pos (a.natAbs % b.natAbs) with h|h
   ·exact h
   exact absurd ⟨hna,by omega⟩ hc
  rw [hr0,magS_zero] at Hd Hm2;have hna2:sgB a=true:=by unfold sgB;simpa using hna
  rw [hna2] at Hm1 ⊢;generalize sgB (a / b)=nq at *;generalize mgS (a / b)=sq at *;generalize sgB (a % b)=nr at *;generalize mgS (a % b)=sr at *;generalize magS (a.natAbs / b.natAbs)=s3 at *;generalize mgS a=sa at *;generalize mgS b=sb at *;clear hc hc1 hc2 e1 e2 hA hS hq hr hrb hbne hbs hna ha hb h0 hr0 hna2;go_enter func198,ntmps198
  go_wp2_with fail;obtain⟨W,hW,ba,bb,bq,br,hz,hkW⟩:=alloc4 w (.cells #[.bool true,.string sa] 26) (.cells #[.bool false,.string sb] 26) (.cells #[.bool false,.string ⟨#[]⟩] 26) (.cells #[.bool false,.string ⟨#[]⟩] 26);rw [← hW];have HkW1:=jX hkW;have Hba1:=jX ba;have Hbb1:=jX bb;have Hbq1:=jX bq;have Hbr1:=jX br;clear hW ba bb bq br hkW;refine (Hd.out _).mono ?_;rintro e w2 ⟨rfl,hk2⟩;dsimp only;have Hba:=jX (hk2.heap Hba1.out (by simp));have Hbb:=jX (hk2.heap Hbb1.out (by simp));have Hbq:=jX (hk2.heap Hbq1.out (by simp));have Hbr:=jX (hk2.heap Hbr1.out (by simp));have HkW:=jX (HkW1.out.tz hk2);clear HkW1 Hba1 Hbb1 Hbq1 Hbr1 hk2 Hd;have pa0:w2.cell? ⟨w.heap.size,0,none⟩=some (.bool true):=by rw [yab Hba.out];rfl
  have pa1:w2.cell? ⟨w.heap.size,1,none⟩=some (.string sa):=by rw [yab Hba.out];rfl
  have pb0:w2.cell? ⟨w.heap.size+1,0,none⟩=some (.bool false):=by rw [yab Hbb.out];rfl
  have pb1:w2.cell? ⟨w.heap.size+1,1,none⟩=some (.string sb):=by rw [yab Hbb.out];rfl
  go_wp2_with fail;refine (Hm1.out w2).mono ?_;rintro e w3 ⟨rfl,hk3⟩;dsimp only;have Hk3:=jX hk3;clear hk3 Hm1;go_wp2_with fail;refine (Hm2.out w3).mono ?_;rintro e w4 ⟨rfl,hk4⟩;dsimp only;have hk5:=Hk3.out.tz hk4;have bq:=hk5.heap Hbq.out (by simp);have br:=hk5.heap Hbr.out (by simp);have cz0:w4.cell? ⟨w.heap.size+2,0,none⟩=some (.bool false):=by rw [yab bq];rfl
  have cz1:w4.cell? ⟨w.heap.size+2,1,none⟩=some (.string ⟨#[]⟩):=by rw [yab bq];rfl
  have cz2:w4.cell? ⟨w.heap.size+3,0,none⟩=some (.bool false):=by rw [yab br];rfl
  have cz3:w4.cell? ⟨w.heap.size+3,1,none⟩=some (.string ⟨#[]⟩):=by rw [yab br];rfl
  have fq:=yae bq;have fr:=yae br;have lq:=yaa bq;have lr:=yaa br;have Hkz:=jX (HkW.out.tz hk5);clear bq br hk4 hk5 Hm2 Hk3;go_wp2_with fail;refine bodyPost_ret (v:=.tuple #[.agg #[.bool nq,.string sq],.agg #[.bool nr,.string sr],.int .i64 0]) ?_ rfl ⟨rfl,?_⟩
  ·simp [results,Tryz.results198,go_sem]
   go_simp
  exact ((((Hkz.out.sP _ _ _ (by omega)).sP _ _ _ (by omega)).sP _ _ _ (by omega)).sP _ _ _ (by omega))
 have hna2:sgB a=false:=by unfold sgB;simpa using hna
 rw [hna2] at Hm1 ⊢;generalize sgB (a / b)=nq at *;generalize mgS (a / b)=sq at *;generalize sgB (a % b)=nr at *;generalize mgS (a % b)=sr at *;generalize magS (a.natAbs / b.natAbs)=s3 at *;generalize magS (a.natAbs % b.natAbs)=s4 at *;generalize mgS a=sa at *;generalize mgS b=sb at *;clear hc hc1 hc2 e1 e2 hA hS hq hr hrb hbne hbs hna ha hb h0 hna2;go_enter func198,ntmps198
 go_wp2_with fail;obtain⟨W,hW,ba,bb,bq,br,hz,hkW⟩:=alloc4 w (.cells #[.bool false,.string sa] 26) (.cells #[.bool false,.string sb] 26) (.cells #[.bool false,.string ⟨#[]⟩] 26) (.cells #[.bool false,.string ⟨#[]⟩] 26);rw [← hW];have HkW1:=jX hkW;have Hba1:=jX ba;have Hbb1:=jX bb;have Hbq1:=jX bq;have Hbr1:=jX br;clear hW ba bb bq br hkW;refine (Hd.out _).mono ?_;rintro e w2 ⟨rfl,hk2⟩;dsimp only;have Hba:=jX (hk2.heap Hba1.out (by simp));have Hbb:=jX (hk2.heap Hbb1.out (by simp));have Hbq:=jX (hk2.heap Hbq1.out (by simp));have Hbr:=jX (hk2.heap Hbr1.out (by simp));have HkW:=jX (HkW1.out.tz hk2);clear HkW1 Hba1 Hbb1 Hbq1 Hbr1 hk2 Hd;have pa0:w2.cell? ⟨w.heap.size,0,none⟩=some (.bool false):=by rw [yab Hba.out];rfl
 have pa1:w2.cell? ⟨w.heap.size,1,none⟩=some (.string sa):=by rw [yab Hba.out];rfl
 have pb0:w2.cell? ⟨w.heap.size+1,0,none⟩=some (.bool false):=by rw [yab Hbb.out];rfl
 have pb1:w2.cell? ⟨w.heap.size+1,1,none⟩=some (.string sb):=by rw [yab Hbb.out];rfl
 go_wp2_with fail;refine (Hm1.out w2).mono ?_;rintro e w3 ⟨rfl,hk3⟩;dsimp only;have Hk3:=jX hk3;clear hk3 Hm1;go_wp2_with fail;refine (Hm2.out w3).mono ?_;rintro e w4 ⟨rfl,hk4⟩;dsimp only;have hk5:=Hk3.out.tz hk4;have bq:=hk5.heap Hbq.out (by simp);have br:=hk5.heap Hbr.out (by simp);have cz0:w4.cell? ⟨w.heap.size+2,0,none⟩=some (.bool false):=by rw [yab bq];rfl
 have cz1:w4.cell? ⟨w.heap.size+2,1,none⟩=some (.string ⟨#[]⟩):=by rw [yab bq];rfl
 have cz2:w4.cell? ⟨w.heap.size+3,0,none⟩=some (.bool false):=by rw [yab br];rfl
 have cz3:w4.cell? ⟨w.heap.size+3,1,none⟩=some (.string ⟨#[]⟩):=by rw [yab br];rfl
 have fq:=yae bq;have fr:=yae br;have lq:=yaa bq;have lr:=yaa br;have Hkz:=jX (HkW.out.tz hk5);clear bq br hk4 hk5 Hm2 Hk3;go_wp2_with fail;refine bodyPost_ret (v:=.tuple #[.agg #[.bool nq,.string sq],.agg #[.bool nr,.string sr],.int .i64 0]) ?_ rfl ⟨rfl,?_⟩
 ·simp [results,Tryz.results198,go_sem]
  go_simp
 exact ((((Hkz.out.sP _ _ _ (by omega)).sP _ _ _ (by omega)).sP _ _ _ (by omega)).sP _ _ _ (by omega))
theorem magS_mono {x y k:Nat} (h:(magS y).size≤k) (hx:x≤y):(magS x).size≤k:=by
 rw [yaW] at *;omega
theorem Gcd_c (a b:Int) (ha:Fit 100000000000 a) (hb:Fit 100000000000 b) (w:World) :
  Calls prog 153 #[zv a,zv b] w fun e w'=>e = .returned (zv (Int.gcd a b:Nat))∧Keep [] w w':=by
 have hg:Int.gcd a b=Nat.gcd a.natAbs b.natAbs:=rfl;have hm:=ycB false (Int.gcd a b);have e:mk false (Int.gcd a b)=((Int.gcd a b:Nat):Int):=by unfold mk;simp
 rw [e] at hm;have Hm:=jX hm;rw [hg] at *;clear e hg hm;generalize hge:Nat.gcd a.natAbs b.natAbs=g at *;unfold zv at Hm ⊢;generalize sgB (g:Int)=nr at *;generalize mgS (g:Int)=sr at *;generalize sgB a=na at *;generalize sgB b=nb at *;have hfa:(magS a.natAbs).size≤100000000000:=ha;have hfb:(magS b.natAbs).size≤100000000000:=hb;unfold mgS;clear ha hb;generalize a.natAbs=xa at *;generalize b.natAbs=xb at *;have Hge:=jX hge;have Hfa:=jX hfa;have Hfb:=jX hfb;clear hge hfa hfb;go_enter func153,ntmps153
 go_wp2_with fail;obtain⟨W,hW,ba,bb,bc,hz,hkW⟩:=yeS w (.cells #[.bool na,.string (magS xa)] 26) (.cells #[.bool nb,.string (magS xb)] 26) (.cells #[.bool false,.string ⟨#[]⟩] 26);rw [← hW];have HkW:=jX hkW;have Hba:=jX ba;have Hbb:=jX bb;have Hbc:=jX bc;clear hW ba bb bc hkW;have ka0:∀ m:KW W,(Wk W m).cell? ⟨w.heap.size,0,none⟩=some (.bool na):=yao Hba.out (by rw [yab Hba.out];rfl);have ka1:∀ m:KW W,(Wk W m).cell? ⟨w.heap.size,1,none⟩=some (.string (magS xa)):=yao Hba.out (by rw [yab Hba.out];rfl);have kb0:∀ m:KW W,(Wk W m).cell? ⟨w.heap.size+1,0,none⟩=some (.bool nb):=yao Hbb.out (by rw [yab Hbb.out];rfl);have kb1:∀ m:KW W,(Wk W m).cell? ⟨w.heap.size+1,1,none⟩=some (.string (magS xb)):=yao Hbb.out (by rw [yab Hbb.out];rfl);refine yad (by kernel_rfl) (by kernel_rfl) ?_
 repeat (first
  | go_big_quiet_skip
  | (go_big_quiet_want;go_big_quiet_op;go_big_quiet_on))
 refine wpQuiet_nil ?_;rintro w1 ⟨⟨_,hk_w1⟩,rfl⟩;have Hbc1:=jX (hk_w1.heap Hbc.out (by simp));have HkW1:=jX (HkW.out.tz hk_w1);clear hk_w1 HkW Hba Hbb Hbc ka0 ka1 kb0 kb1;go_wp2_with fail;go_loopg [5,6] xb (fun gn sx sy wx=>∃ x y:Nat,gn=y∧sx = .string (magS x)∧sy = .string (magS y)∧Nat.gcd x y=g∧(magS x).size≤100000000000∧(magS y).size≤100000000000∧Keep [] w1 wx)
 case atStart=>exact ⟨xa,xb,rfl,rfl,rfl,Hge.out,Hfa.out,Hfb.out,Keep.refl _ _⟩
 case round =>
  obtain⟨x,y,hgn,rfl,rfl,hgc,hx,hy,hk⟩:=hrel;have Hgn:=jX hgn;have Hgc:=jX hgc;have Hx:=jX hx;have Hy:=jX hy;have Hbc:=jX (hk.heap Hbc1.out (by simp));have HkW:=jX (HkW1.out.tz hk);have Hk:=jX hk;clear hgn hgc hx hy hk;by_cases hy0:y=0
  ·subst hy0
   have hxg:x=g:=by rw [← Hgc.out,Nat.gcd_zero_right]
   subst hxg;rw [magS_zero];have Hm':=Hm;clear Hgn Hgc Hx Hy Hk Hm;go_wp2_with fail;refine (Hm'.out _).mono ?_;rintro e wz ⟨rfl,hk_wz⟩;dsimp only;clear Hm';have bz:=hk_wz.heap Hbc.out (by simp);have cz0:wz.cell? ⟨(w.heap.size+2),0,none⟩=some (.bool false):=by rw [yab bz];rfl
   have cz1:wz.cell? ⟨(w.heap.size+2),1,none⟩=some (.string ⟨#[]⟩):=by rw [yab bz];rfl
   have fz:=yae bz;have lz:=yaa bz;have Hkz:=jX (HkW.out.tz hk_wz);clear bz hk_wz;go_wp2_with fail;refine bodyPost_ret (v:=.agg #[.bool nr,.string sr]) ?_ rfl ⟨rfl,?_⟩
   ·rw [yac rfl];go_simp
   exact (Hkz.out.sP _ _ _ (by omega)).sP _ _ _ (by omega)
  have hyne:magS y≠⟨#[]⟩:=fun h=>hy0 (ybp.1 h);have s1:=yeX hyne;have s2:=ydW hyne;clear hyne;by_cases h8:(magS x).size≤8∧(magS y).size≤8
  ·have Hw:=jX (fun w=>ydL (magS x) (magS y) h8.1 h8.2 w)
   have hx64:=(yaW x 8).1 h8.1;have hy64:=(yaW y 8).1 h8.2;rw [show (256:Nat) ^ 8=18446744073709551616 from rfl] at hx64 hy64
   rw [yax,yax] at Hw;have Hm':=Hm;clear h8 Hgn Hx Hy Hk Hm;generalize magS y=sy at *;generalize magS x=sx at *;go_wp2_with fail;refine (Hw.out _).mono ?_;rintro e w2 ⟨rfl,rfl⟩;dsimp only;clear Hw;go_wp2_with fail;obtain⟨wo,rfl⟩:∃ wo:World,wo=w2:=⟨_,rfl⟩;go_loopw [7,8] (fun uv vv wx=>∃ u v:Nat,uv = .int .u64 (u:Int)∧vv = .int .u64 (v:Int)∧Nat.gcd u v=g∧u<18446744073709551616∧v<18446744073709551616∧Keep [] wo wx) (fun _ vv _=>(intOf vv).toNat)
   case atStart=>exact ⟨x,y,rfl,rfl,Hgc.out,hx64,hy64,Keep.refl _ _⟩
   case round =>
    obtain⟨u,v,rfl,rfl,hgc,hu,hv,hk⟩:=hrel;have Hgc2:=jX hgc;have Hk2:=jX hk;clear hgc hk Hgc hx64 hy64;by_cases hv0:v=0
    ·subst hv0
     have hug:u=g:=by rw [← Hgc2.out,Nat.gcd_zero_right]
     subst hug;have Hmg:=jX (ybi u hu);have Hbc2:=jX (Hk2.out.heap Hbc.out (by simp));have HkW2:=jX (HkW.out.tz Hk2.out);clear Hgc2 Hk2 Hbc HkW;go_wp2_with fail;refine (Hmg.out _).mono ?_;rintro e w4 ⟨rfl,hk4⟩;dsimp only;have Hbc:=jX (hk4.heap Hbc2.out (by simp));have HkW:=jX (HkW2.out.tz hk4);clear hk4 Hmg Hbc2 HkW2;go_wp2_with fail;refine (Hm'.out _).mono ?_;rintro e wz ⟨rfl,hk_wz⟩;dsimp only;clear Hm';have bz:=hk_wz.heap Hbc.out (by simp);have cz0:wz.cell? ⟨(w.heap.size+2),0,none⟩=some (.bool false):=by rw [yab bz];rfl
     have cz1:wz.cell? ⟨(w.heap.size+2),1,none⟩=some (.string ⟨#[]⟩):=by rw [yab bz];rfl
     have fz:=yae bz;have lz:=yaa bz;have Hkz:=jX (HkW.out.tz hk_wz);clear bz hk_wz;go_wp2_with fail;refine bodyPost_ret (v:=.agg #[.bool nr,.string sr]) ?_ rfl ⟨rfl,?_⟩
     ·rw [yac rfl];go_simp
     exact (Hkz.out.sP _ _ _ (by omega)).sP _ _ _ (by omega)
    have hne:((v:Int) != 0)=true:=by rw [bne_iff_ne];omega
    have hne2:((v:Int) == 0)=false:=by rw [beq_eq_false_iff_ne];omega
    have hmod:(u:Int) % (v:Int)=((u % v:Nat):Int):=by push_cast;rfl
    have hlt:=Nat.mod_lt u (show 0<v by omega)
    have hgc3:Nat.gcd v (u % v)=g:=by rw [← Hgc2.out,Nat.gcd_comm v,← Nat.gcd_rec,Nat.gcd_comm]
    have Hgc3:=jX hgc3;have Hmod:=jX hmod;clear hgc3;generalize u % v=r at *;go_wp2_with fail;refine yad (by kernel_rfl) (by kernel_rfl) ?_
    repeat (first
     | go_big_quiet_skip
     | (go_big_quiet_want;go_big_quiet_op;go_big_quiet_on))
    refine wpQuiet_nil ?_;rintro w5 ⟨⟨_,hk_w5⟩,rfl⟩;clear hmod;have Hk5:=jX (Hk2.out.tz hk_w5);clear hk_w5;go_wp2_with fail;go_roundw
    case rel=>exact ⟨v,r,rfl,congrArg (Value.int .u64) (by first|exact Hmod.out|rfl),Hgc3.out,by omega,by omega,Hk5.out⟩
    case measure=>first|(simp [intOf];omega)|(rw [Hmod.out];simp [intOf];omega)
  have Hw:=jX (fun w=>ydv (magS x) (magS y) h8 (by unfold maxLen;have:=Hx.out;omega) (by unfold maxLen;have:=Hy.out;omega) w);have Hd:=jX (fun w=>div_c (magS x) (magS y) Hx.out Hy.out (ycp x) (ycp y) (by rw [yax];omega) w);rw [yax,yax] at Hd;have hlt:=Nat.mod_lt x (show 0<y by omega)
  have hgc3:Nat.gcd y (x % y)=g:=by rw [← Hgc.out,Nat.gcd_comm y,← Nat.gcd_rec,Nat.gcd_comm]
  have Hgc3:=jX hgc3;have hr9:=magS_mono Hx.out (Nat.mod_le x y);have Hr9:=jX hr9;have Hlt:=jX hlt;clear hgc3 hr9 hlt h8;generalize x % y=r at *;generalize magS (x / y)=sq at *;go_wp2_with fail;refine (Hw.out _).mono ?_;rintro e w2 ⟨⟨_,_,rfl⟩,rfl⟩;dsimp only;go_wp2_with fail;refine (Hd.out _).mono ?_;rintro e w3 ⟨rfl,hk3⟩;dsimp only;have Hk3:=jX (Hk.out.tz hk3);clear hk3 Hd Hw;go_wp2_with fail;go_roundg r
  case measure=>have:=Hgn.out;have:=Hlt.out;omega
  case rel=>exact ⟨y,r,rfl,rfl,rfl,Hgc3.out,Hy.out,Hr9.out,Hk3.out⟩
end Go.Proofs.YtpgffjjpiafhpaaGreatDoor
