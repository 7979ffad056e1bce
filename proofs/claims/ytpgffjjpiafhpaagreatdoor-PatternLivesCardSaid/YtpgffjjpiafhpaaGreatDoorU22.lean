/- Parts of a proof: Kr Ks Kt. -/
import Derived.Deep.DeepCutAuto
import Derived.Deep.Cut
import Derived.Deep.CutRange
import Derived.Test.YtpgffjjpiafhpaaGreatDoorU21
import Derived.Test.YtpgffjjpiafhpaaGreatDoorU06
import Derived.Test.YtpgffjjpiafhpaaGreatDoorU09
import Derived.Test.YtpgffjjpiafhpaaGreatDoorU11
import Derived.Test.YtpgffjjpiafhpaaGreatDoorU01
import Derived.Test.YtpgffjjpiafhpaaGreatDoorU08
import Derived.Test.YtpgffjjpiafhpaaGreatDoorU13
set_option linter.unusedVariables false
set_option linter.unusedSimpArgs false
set_option maxRecDepth 100000
set_option maxHeartbeats 8000000
namespace Go.Proofs.YtpgffjjpiafhpaaGreatDoor
open Go.RowKit
section
open Go.RowKit Go.Lib
theorem conv1 {u:World} {g pb:Nat} (h:u.heap[g]? = some (.cells #[.int .u8 (pb:Int)] 5)):(convert 211 9 (.slice (some ⟨g,0,none⟩) 1 1)).run Tryz.prog u = .ok (.string (strOfNums [(pb:Int)])) u :=
 run_convert_bytes_arg (P:=Tryz.prog) u 211 5 Tryz.underlying211 Tryz.underlying5 g 0 1 1 [(pb:Int)] rfl (fun i hi=>by
  obtain rfl:i=0:=by omega
  rw [yab h]
  rfl) 9 Tryz.underlying9
def strOf:Value→ByteArray
 | .string s=>s
 | _=>⟨#[]⟩
theorem mag_le {X M c r:Nat} (hX:X≤2 ^ M) (hM:M=r+8*c) (hr:r<8):(magS X).size≤c+1:=by
 rw [yaT];subst hM;have h1:2 ^ r<2 ^ 8:=Nat.pow_lt_pow_right (by decide) hr;have h2:2 ^ (r+8*c)=2 ^ r*256 ^ c:=by rw [Nat.pow_add,show (256:Nat)=2 ^ 8 from rfl,← Nat.pow_mul]
 have h3:256 ^ (c+1)=256*256 ^ c:=by rw [Nat.pow_succ,Nat.mul_comm]
 have h4:2 ^ r*256 ^ c<256*256 ^ c:=Nat.mul_lt_mul_of_pos_right h1 (Nat.pow_pos (by decide));omega
theorem ycX {X Y k:Nat} (h:X≤Y) (hY:(magS Y).size≤k):(magS X).size≤k:=(yaT _ _).2 (Nat.lt_of_le_of_lt h ((yaT _ _).1 hY))
theorem mag_sum {X Y k:Nat} (hX:(magS X).size≤k) (hY:(magS Y).size≤k):(magS (X+Y)).size≤k+1:=by
 rw [yaT] at *;have:256 ^ (k+1)=256*256 ^ k:=by rw [Nat.pow_succ,Nat.mul_comm]
 omega
theorem wrap_pow:∀ r:Fin 8,IntKind.u8.wrap ((2:Int) ^ r.val)=((2 ^ r.val:Nat):Int):=by decide
theorem bit8:∀ n:Fin 256,n.val<2 ^ (Lib.bitLen n.val):=by decide +kernel
theorem bit8le:∀ n:Fin 256,Lib.bitLen n.val≤8:=by decide +kernel
theorem yho (c:Nat):natL (repeatL [0] c)=0:=by
 induction c with
 | zero=>rfl
 | succ c ih =>
  show natL ([0]++repeatL [0] c)=0
  rw [ydh,ih];show natL [0]*_+0=0
  have:natL [0]=0:=rfl;rw [this,Nat.zero_mul]
theorem pow_bytes (r c:Nat) (hr:r<8):(⟨(#[UInt8.ofNat (2 ^ r)]++(repeatL [0] c).toArray)⟩:ByteArray)=magS (2 ^ (r+8*c)):=by
 have hl:(⟨(#[UInt8.ofNat (2 ^ r)]++(repeatL [0] c).toArray)⟩:ByteArray).data.toList=UInt8.ofNat (2 ^ r) :: repeatL [0] c:=by simp
 have hb:(UInt8.ofNat (2 ^ r)).toNat=2 ^ r:=by
  have:2 ^ r<2 ^ 8:=Nat.pow_lt_pow_right (by decide) hr;rw [UInt8.toNat_ofNat'];exact Nat.mod_eq_of_lt this
 have hc:CanS (⟨(#[UInt8.ofNat (2 ^ r)]++(repeatL [0] c).toArray)⟩:ByteArray):=by
  unfold CanS;rw [hl];intro b hb2;simp only [List.head?_cons,Option.some.injEq] at hb2;subst hb2;intro h0;have:=congrArg UInt8.toNat h0;rw [hb] at this;have h2:0<2 ^ r:=Nat.pow_pos (by decide);have h3:(0:UInt8).toNat=0:=rfl;omega
 rw [← ycf _ hc];congr 1
 unfold natB;rw [hl,ybE,hb,yho,repeatL_length,Nat.add_zero];show 2 ^ r*256 ^ (c*1)=_
 rw [Nat.mul_one,Nat.pow_add,show (256:Nat)=2 ^ 8 from rfl,← Nat.pow_mul]
theorem pow_app (r c pb M:Nat) (hr:r<8) (hp:2 ^ r=pb) (hM:M=r+8*c):strOfNums [(pb:Int)]++⟨(repeatL [0] c).toArray⟩=magS (2 ^ M):=by
 subst hp hM;rw [← pow_bytes r c hr];apply ByteArray.ext;rw [ByteArray.data_append];unfold strOfNums;simp only [List.map_cons,List.map_nil,Int.toNat_natCast]
theorem top_lt (s:ByteArray) (h:0<s.size):natB s<2 ^ (8*(s.size-1)+Lib.bitLen (s[0]'h).toNat):=by
 obtain⟨⟨l⟩⟩:=s;cases l with
 | nil=>exact absurd h (by decide)
 | cons a l =>
  have e:natB ⟨⟨a :: l⟩⟩=a.toNat * 256 ^ l.length+natL l:=ybE a l;have h1:=ycK l;have h2:=bit8 ⟨a.toNat,UInt8.toNat_lt a⟩;have e2:((⟨⟨a :: l⟩⟩:ByteArray)[0]'h)=a:=rfl;have e3:(⟨⟨a :: l⟩⟩:ByteArray).size=l.length+1:=rfl;rw [e,e2,e3,Nat.add_sub_cancel,Nat.pow_add,Nat.pow_mul,show (2:Nat) ^ 8=256 from rfl]
  dsimp only at h2;have h3:(a.toNat + 1)*256 ^ l.length≤2 ^ Lib.bitLen a.toNat * 256 ^ l.length:=Nat.mul_le_mul_right _ h2;have h4:(a.toNat + 1)*256 ^ l.length=a.toNat * 256 ^ l.length+256 ^ l.length:=by rw [Nat.add_mul,Nat.one_mul]
  rw [Nat.mul_comm (256 ^ l.length)];omega
theorem ygu (w:World) (s:ByteArray) (h:0<s.size):(Instr.index 9 (.string s) (.int .i64 0)).run Tryz.prog w = .ok (.int .u8 ((s[0]'h).toNat:Nat)) w:=by
 rw [run_index_string (P:=Tryz.prog) w 9 s .i64 _ Tryz.underlying9,dif_pos ⟨by omega,by omega⟩];rfl
theorem root_p (n:Nat) (hs:(magS n).size≤1000000000) (w:World) :
  Calls Tryz.prog 193 #[.string (magS n)] w fun e w'=>e = .returned (.string (magS (isq n)))∧Below w.heap.size w w':=by
 rcases Nat.eq_zero_or_pos n with h0|hpos
 ·subst h0
  have hz:isq 0=0:=(yji (s:=0) (by decide) (by decide)).symm;rw [hz,magS_zero];go_enter Tryz.func193,Tryz.ntmps193
  go_wp2_with fail;go_ret
  exact ⟨rfl,Below.refl _ _⟩
 have hsz:0<(magS n).size:=Nat.pos_of_ne_zero fun h=>by
  have:=(yaT n 0).1 (by omega);omega
 have htop:=top_lt (magS n) hsz;rw [yat] at htop;have hne:magS n≠⟨#[]⟩:=fun h=>by rw [h] at hsz;exact absurd hsz (by decide)
 have HD:Hid (∀ X:Nat,0<X→(magS X).size≤1000000001→∀ w,Calls Tryz.prog 187 #[.string (magS n),.string (magS X)] w fun e w'=>e = .returned (.tuple #[.string (magS (n / X)),.string (magS (n % X))])∧Keep [] w w'):=fun X hX hXs w=>by
  have:=div_c (magS n) (magS X) (by omega) (by omega) (yce n) (yce X) (by rw [yat];exact hX) w;rw [yat,yat] at this;exact this
 have HA:Hid (∀ X Y:Nat,(magS X).size≤1000000001→(magS Y).size≤1000000001→∀ w,Calls Tryz.prog 189 #[.string (magS X),.string (magS Y)] w fun e w'=>e = .returned (.string (magS (X+Y)))∧Keep [] w w'):=fun X Y hX hY w=>by
  have:=add_c (magS X) (magS Y) (by omega) (by omega) w;rw [yat,yat] at this;exact this
 have HH:Hid (∀ X:Nat,(magS X).size≤1000000002→∀ w,Calls Tryz.prog 187 #[.string (magS X),.string ⟨#[2]⟩] w fun e w'=>e = .returned (.tuple #[.string (magS (X / 2)),.string (magS (X % 2))])∧Keep [] w w'):=fun X hX w=>by
  have h2:natB ⟨#[2]⟩=2:=rfl;have c2:CanS ⟨#[2]⟩:=by intro b hb;have:(some 2:Option UInt8)=some b:=hb;injection this with this;subst this;decide
  have:=div_c (magS X) ⟨#[2]⟩ (by omega) (by decide) (yce X) c2 (by rw [h2];decide) w;rw [yat,h2] at this;exact this
 have HC:Hid (∀ X Y:Nat,∀ w,Calls Tryz.prog 185 #[.string (magS X),.string (magS Y)] w fun e w'=>e = .returned (.int .i64 (Lib.compareInt X Y))∧Keep [] w w'):=fun X Y w=>by
  have:=ycn (magS X) (magS Y) (yce X) (yce Y) w;rw [yat,yat] at this;exact this
 obtain⟨d,hd⟩:∃ d,((magS n)[0]'hsz).toNat=d:=⟨_,rfl⟩;have hd9:d<256:=by rw [← hd];exact UInt8.toNat_lt _
 have hix:=fun w=>ygu w (magS n) hsz;rw [hd] at htop hix;have HB:=jX (fun w=>Tryz.bits_Len8 (d:Int) w (by omega) (by omega));have hbl:=bit8le ⟨d,hd9⟩;dsimp only at hbl;rw [Int.toNat_natCast] at HB;obtain⟨bl,hbl2⟩:∃ bl,Lib.bitLen d=bl:=⟨_,rfl⟩;rw [hbl2] at HB hbl htop;have HT:=jX htop;have Hpos:=jX hpos;clear htop hbl2 hd hpos;obtain⟨L,hL⟩:∃ L,(magS n).size=L+1:=⟨(magS n).size-1,by omega⟩;rw [hL,Nat.add_sub_cancel] at HT;have hsub:((magS n).size:Int)-1=(L:Int):=by omega
 have hemp:(magS n).toList.isEmpty=false:=by
  rw [List.isEmpty_eq_false_iff];exact fun h=>hne (yfn (by rw [h,Go.Lib.toList_data]))
 have hL9:L≤1000000000:=by omega
 clear hL;have HQs:=jX (fun X=>ycX (Nat.div_le_self n X) (Nat.le_trans hs (by decide:1000000000≤1000000001)));generalize magS n=s at *;go_enter Tryz.func193,Tryz.ntmps193
 go_wp2_with fail;refine (HB.out _).mono ?_;rintro e w1 ⟨rfl,rfl⟩;dsimp only;clear HB;obtain⟨M,hM0⟩:∃ M,(8*L+bl+1) / 2=M:=⟨_,rfl⟩;obtain⟨r,hr0⟩:∃ r,M % 8=r:=⟨_,rfl⟩;obtain⟨c,hc0⟩:∃ c,M / 8=c:=⟨_,rfl⟩;have hM:(8*(L:Int)+(bl:Int)+1) / 2=(M:Int):=by omega
 have hr:(M:Int) % 8=(r:Int):=by omega
 have hc:(M:Int) / 8=(c:Int):=by omega
 have hr8:r<8:=by omega
 have HMx:=jX (show M=r+8*c by omega)
 have HM2:=jX (show 8*L+bl≤2*M by omega)
 have hc9:c≤1000000000:=by omega
 have hrt:(M:Int).tmod 8=(r:Int):=by rw [Int.tmod_eq_emod_of_nonneg (by omega)];exact hr
 have hct:(M:Int).tdiv 8=(c:Int):=by rw [Int.tdiv_eq_ediv_of_nonneg (by omega)];exact hc
 have hrn:((r:Int)).toNat=r:=by omega
 have hrm:min r 8=r:=by omega
 have hcw:IntKind.i64.wrap (c:Int)=(c:Int):=IntWalk.i64_in _ (by omega);have hwp:IntKind.u8.wrap ((2:Int) ^ r)=((2 ^ r:Nat):Int):=wrap_pow ⟨r,hr8⟩;obtain⟨pb,hpb⟩:∃ pb,2 ^ r=pb:=⟨_,rfl⟩;have Hpb:=jX hpb;rw [hpb] at hwp;clear hM0 hr0 hc0 hpb;go_upto_region 5 with (fail)
 have Hrep:=jX (fun w=>Tryz.strings_Repeat ⟨#[0]⟩ c w (by omega) (by rw [show (⟨#[0]⟩:ByteArray).size=1 from rfl];omega))
 have HPW:=jX (congrArg Value.string (pow_app r c pb M hr8 Hpb.out HMx.out))
 have HSZ:Hid (¬ 9223372036854775807<(strOfNums [(pb:Int)]).size+(⟨(repeatL [0] c).toArray⟩:ByteArray).size):=by
  have h1:(strOfNums [(pb:Int)]).size=1:=rfl
  have h2:(⟨(repeatL [0] c).toArray⟩:ByteArray).size=c:=by
   show (repeatL [0] c).toArray.size=c
   rw [List.size_toArray,repeatL_length,List.length_singleton,Nat.mul_one]
  refine jX ?_;rw [h1,h2];omega
 go_cut [3,4] (fun _ xv wx=>xv = .string (magS (2 ^ M))∧Below w1.heap.size w1 wx)
 case first =>
  have HBu:=jX ((Below.refl w1.heap.size w1).drew);refine yae (S:=fun _=>True) 8 (by kernel_rfl) (by kernel_rfl) (fun _ _ d _ _ h=>by cases d<;>exact h) ?_;generalize World.drew w1=u at *;refine' jV (v:=_) 0 trivial (fun w _=>?ha0) (fun K hK=>?ka0)
  case ha0=>(go_simp;try rfl)
  go_simp;go_step
  refine' jV (v:=_) 1 trivial (fun w _=>?hb1) (fun K hK=>?kb1)
  case hb1=>(go_simp;try rfl)
  go_simp;go_step
  refine' jV (v:=_) 2 trivial (fun w _=>?hc2) (fun K hK=>?kc2)
  case hc2=>(go_simp;try rfl)
  go_simp;go_step
  refine' jV (v:=_) 5 trivial (fun w _=>?hd5) (fun K hK=>?kd5)
  case hd5=>(go_simp;try rfl)
  go_simp;go_step
  refine' jV (v:=_) 6 trivial (fun w _=>?he6) (fun K hK=>?ke6)
  case he6=>(go_simp;try rfl)
  go_simp;go_step
  refine yav 3 7 (by kernel_rfl) (by decide) (by decide) (by rfl) (by rfl) (by rfl) (by rfl) (fun K hK=>?_) (fun K hK=>?_)
  ·skip
   obtain⟨v1,g,e1,e2,bg,hg,hgu,hk2⟩:=al1 u (.cells #[.int .u8 (pb:Int)] 5);go_simp;rw [← e1];clear e1 e2;have HBu:=jX (HBu.out.trans (Below.mono hk2.bz HBu.out.size));refine hK _ _ trivial ?_;clear hK K;refine yav 4 7 (by kernel_rfl) (by decide) (by decide) (by rfl) (by rfl) (by rfl) (by rfl) (fun K hK=>?_) (fun K hK=>?_)
   ·skip
    have hcv:=conv1 bg;go_simp;refine hK _ _ trivial ?_;clear hK K hcv;refine jO 7 (fun K hK=>?_);refine yaf 231 #[.string ⟨#[0]⟩,.int .i64 (c:Int)] (by go_simp) ?_;refine (Hrep.out _).mono ?_;rintro e v2 ⟨rfl,hb1⟩;have HBu:=jX (HBu.out.trans (Below.mono hb1 HBu.out.size));refine ⟨_,rfl,?_⟩;refine hK _ _ trivial ?_;clear hK K;refine ⟨by kernel_rfl,?_⟩;simp only [List.drop_succ_cons,List.drop_zero];have HP2:=HPW.out;have hz:=HSZ.out;generalize strOfNums [(pb:Int)]=SA at *;generalize (⟨(repeatL [0] c).toArray⟩:ByteArray)=SB at *;have HP2:=jX HP2;go_wp2_with fail;go_meet
    exact ⟨rfl,HBu.out⟩
   skip
   refine yaf 231 #[.string ⟨#[0]⟩,.int .i64 (c:Int)] (by go_simp) ?_;refine (Hrep.out _).mono ?_;rintro e v2 ⟨rfl,hb1⟩;have HBu:=jX (HBu.out.trans (Below.mono hb1 HBu.out.size));refine ⟨_,rfl,?_⟩;refine hK _ _ trivial ?_;clear hK K;have bg:=(hb1.block g hgu).trans bg;refine jO 4 (fun K hK=>?_);have hcv:=conv1 bg;go_simp;refine hK _ _ trivial ?_;clear hK K hcv;refine ⟨by kernel_rfl,?_⟩;simp only [List.drop_succ_cons,List.drop_zero];have HP2:=HPW.out;have hz:=HSZ.out;generalize strOfNums [(pb:Int)]=SA at *;generalize (⟨(repeatL [0] c).toArray⟩:ByteArray)=SB at *;have HP2:=jX HP2;go_wp2_with fail;go_meet
   exact ⟨rfl,HBu.out⟩
  skip
  refine yaf 231 #[.string ⟨#[0]⟩,.int .i64 (c:Int)] (by go_simp) ?_;refine (Hrep.out _).mono ?_;rintro e v1 ⟨rfl,hb1⟩;have HBu:=jX (HBu.out.trans (Below.mono hb1 HBu.out.size));refine ⟨_,rfl,?_⟩;refine hK _ _ trivial ?_;clear hK K;refine jO 3 (fun K hK=>?_);obtain⟨v2,g,e1,e2,bg,hg,hgu,hk2⟩:=al1 v1 (.cells #[.int .u8 (pb:Int)] 5);go_simp;rw [← e1];clear e1 e2;have HBu:=jX (HBu.out.trans (Below.mono hk2.bz HBu.out.size));refine hK _ _ trivial ?_;clear hK K;refine jO 4 (fun K hK=>?_);have hcv:=conv1 bg;go_simp;refine hK _ _ trivial ?_;clear hK K hcv;refine ⟨by kernel_rfl,?_⟩;simp only [List.drop_succ_cons,List.drop_zero];have HP2:=HPW.out;have hz:=HSZ.out;generalize strOfNums [(pb:Int)]=SA at *;generalize (⟨(repeatL [0] c).toArray⟩:ByteArray)=SB at *;have HP2:=jX HP2;go_wp2_with fail;go_meet
  exact ⟨rfl,HBu.out⟩
 obtain⟨rfl,hbw⟩:=hcut;have HBw:=jX hbw;have HQ0:=jX (Nat.le_of_lt (isq_pow HT.out HM2.out));have HQp:=jX (isq_pos Hpos.out);have HXs:Hid (∀ X,X≤2 ^ M→(magS X).size≤1000000001):=fun X hX=>Nat.le_trans (mag_le hX HMx.out hr8) (by omega);clear hbw hs;go_wp2_with fail;go_loopw [4] (fun xv wr=>∃ X:Nat,isq n≤X∧X≤2 ^ M∧xv = .string (magS X)∧Keep [] wc wr) (fun xv _=>natB (strOf xv))
 case atStart=>exact ⟨2 ^ M,HQ0.out,Nat.le_refl _,rfl,Keep.refl _ _⟩
 case round =>
  obtain⟨X,hX,hXM,rfl,hk⟩:=hrel;have HX:=jX hX;have HXM:=jX hXM;have HK:=jX hk;have HX0:Hid (0<X):=Nat.lt_of_lt_of_le HQp.out hX;have HN:=jX (yhq hX HX0.out);have HSx:=jX (HXs.out X hXM);have HSq:=jX (HQs.out X);clear hX hXM hk;go_wp2_with fail;refine (HD.out X HX0.out HSx.out _).mono ?_;rintro e w2 ⟨rfl,hk2⟩;dsimp only;have HK:=jX (HK.out.tz hk2);clear hk2;go_wp2_with fail;refine (HA.out X (n / X) HSx.out HSq.out _).mono ?_;rintro e w3 ⟨rfl,hk3⟩;dsimp only;have HK:=jX (HK.out.tz hk3);clear hk3;go_wp2_with fail;refine (HH.out (X+n / X) (mag_sum HSx.out HSq.out) _).mono ?_;rintro e w4 ⟨rfl,hk4⟩;dsimp only;have HK:=jX (HK.out.tz hk4);clear hk4;generalize n / X=q at *;generalize (X+q) / 2=Y at *;go_wp2_with fail;refine (HC.out Y X _).mono ?_;rintro e w5 ⟨rfl,hk5⟩;dsimp only;have HK:=jX (HK.out.tz hk5);clear hk5
  have hcmp:(0≤Lib.compareInt (Y:Int) (X:Int))↔X≤Y:=by
   unfold Lib.compareInt;split
   ·constructor<;>intro h<;>omega
   split
   ·constructor<;>intro h<;>omega
   constructor<;>intro h<;>omega
  generalize Lib.compareInt (Y:Int) (X:Int)=z at *;have Hcmp:=jX hcmp;clear hcmp;by_cases hz:0≤z
  ·have hXY:=Hcmp.out.1 hz
   have hfin:X=isq n:=by
    rcases HN.out.2 with h|h
    ·omega
    exact h
   have HF:=jX hfin;have HBk:=jX (HBw.out.trans (Below.mono HK.out.bz HBw.out.size));clear hfin hXY;go_wp2_with fail;go_ret
   exact ⟨by rw [← HF.out];rfl,HBk.out⟩
  have hYX:Y<X:=Nat.lt_of_not_le fun h=>hz (Hcmp.out.2 h);have HYX:=jX hYX;clear hYX;go_wp2_with fail;go_roundw
  case rel=>exact ⟨Y,HN.out.1,by have:=HYX.out;have:=HXM.out;omega,rfl,HK.out⟩
  case measure=>show natB (magS Y)<natB (magS X);rw [yat,yat];exact HYX.out
end
section
open Go.RowKit Go.Lib
noncomputable def sqI (z:Int):Bool:=!sgB z&&decide (isq z.natAbs*isq z.natAbs=z.natAbs)
theorem issq_p (z:Int) (hz:(mgS z).size≤1000000000) (w:World) :
  Calls Tryz.prog 165 #[zv z] w fun e w'=>e = .returned (.tuple #[zv (if sqI z then (isq z.natAbs:Int) else 0),.bool (sqI z)])∧Below w.heap.size w w':=by
 have hz0:zv 0 = .agg #[.bool false,.string ⟨#[]⟩]:=by
  show Value.agg #[.bool (sgB 0),.string (mgS 0)]=_
  rw [yba.2 rfl];rfl
 have HR:=jX (root_p z.natAbs hz);have HM:=jX (mul_c (magS (isq z.natAbs)) (magS (isq z.natAbs)) (by have:=ycX (ydQ z.natAbs) hz;omega) (by have:=ycX (ydQ z.natAbs) hz;omega));rw [yat] at HM;have HMd:=jX (ycc false (isq z.natAbs));cases hs:sgB z with
 | true =>
  have hq:sqI z=false:=by unfold sqI;rw [hs];rfl
  rw [hq];simp only [if_false,Bool.false_eq_true];rw [hz0];unfold zv;rw [hs];generalize mgS z=s at *;clear HR HM HMd hz0;go_enter Tryz.func165,Tryz.ntmps165
  go_upto_region 1 with (fail)
  obtain⟨W,ga,gb,hW,ega,egb,Bga,Bgb,hga,hgb,hgW,HkW⟩:=al2h w (.cells #[.bool true,.string s] 26) (.cells #[.bool false,.string ⟨#[]⟩] 26);rw [← hW];try rw [egb]
  try rw [ega]
  clear hW ega egb;obtain⟨pga,fga,lga⟩:=jQ Bga;obtain⟨pgb,fgb,lgb⟩:=jQ Bgb;go_wp2_with fail;refine bodyPost_ret (v:=.tuple #[.agg #[.bool false,.string ⟨#[]⟩],.bool false]) ?_ rfl ⟨rfl,Keep.bz (by repeat (first|(with_reducible exact HkW.out)|(refine Keep.sP ?_ _ _ _ (by omega))|(refine Keep.aP ?_ _)|(refine Keep.dP ?_)))⟩;rw [results_cell_tmp rfl];go_simp
 | false =>
  obtain⟨n,hn⟩:∃ n,z.natAbs=n:=⟨_,rfl⟩;have hsn:mgS z=magS n:=by unfold mgS;rw [hn]
  have hq:sqI z=decide (isq n*isq n=n):=by unfold sqI;rw [hs,hn];simp
  rw [hn] at HR HM HMd;rw [hq,hn];have hmk:mk false (isq n)=(isq n:Int):=rfl;rw [hmk] at HMd;unfold zv;rw [hs,hsn];unfold zv at HMd hz0;have h1:sgB ((isq n:Nat):Int)=false:=by unfold sgB;rw [decide_eq_false_iff_not];omega
  have h2:mgS ((isq n:Nat):Int)=magS (isq n):=by unfold mgS;rw [Int.natAbs_natCast]
  rw [h1,h2] at HMd;have HTs:Hid (magS (isq n*isq n)=magS n↔isq n*isq n=n):=ydr
  have HV:Hid (∀ b:Bool,(Value.agg #[.bool (sgB (if b then (isq n:Int) else 0)),.string (mgS (if b then (isq n:Int) else 0))])=if b then .agg #[.bool false,.string (magS (isq n))] else .agg #[.bool false,.string ⟨#[]⟩]):=fun b=>by
   cases b
   ·exact hz0
   simp only [if_true];rw [h1,h2]
  rw [HV.out];clear h1 h2 hz0 hmk HV hz hq hsn hs;generalize isq n=r at *;generalize magS (r*r)=T at *;generalize magS n=s at *;generalize magS r=R at *;obtain⟨b0,hb0⟩:∃ b0,decide (r*r=n)=b0:=⟨_,rfl⟩;rw [hb0];have Hb0:=jX hb0;clear hb0;go_enter Tryz.func165,Tryz.ntmps165
  go_upto_region 1 with (fail)
  obtain⟨W,ga,gb,hW,ega,egb,Bga,Bgb,hga,hgb,hgW,HkW⟩:=al2h w (.cells #[.bool false,.string s] 26) (.cells #[.bool false,.string ⟨#[]⟩] 26);rw [← hW];try rw [egb]
  try rw [ega]
  clear hW ega egb;obtain⟨pga,fga,lga⟩:=jQ Bga;obtain⟨pgb,fgb,lgb⟩:=jQ Bgb;go_wp2_with fail;refine (HR.out _).mono ?_;rintro e w1 ⟨rfl,hb1⟩;dsimp only;clear pga fga lga pgb fgb lgb HR;have B2ga:=jX ((hb1.block ga (yaa Bga.out)).trans Bga.out);clear Bga;have Bga:=B2ga;clear B2ga;have B2gb:=jX ((hb1.block gb (yaa Bgb.out)).trans Bgb.out);clear Bgb;have Bgb:=B2gb;clear B2gb;have HB1:=jX ((HkW.out.bz).trans (Below.mono hb1 HkW.out.size));clear hb1;have kga:=yag Bga.out;have Q1:Hid (∀ m:KW w1,Calls Tryz.prog 194 #[.string R,.string R] (Wk w1 m) fun e w'=>e = .returned (.string T)∧∃ m,w'=Wk w1 m):=fun m=>qk m (HM.out _);by_cases hrr:r*r=n
  ·have hT:=HTs.out.2 hrr
   subst hT;have hb:b0=true:=by rw [← Hb0.out];exact decide_eq_true hrr
   clear Hb0;subst hb;have hy:=str_yes (rfl:T=T);clear HTs hrr;go_wp2_with fail;refine yad (by kernel_rfl) (by kernel_rfl) ?_
   repeat (first
    | go_big_quiet_skip
    | (go_big_quiet_want;go_big_quiet_op;first|go_big_quiet_on|go_big_quiet_call (first
     | (go_at_call 194;with_reducible exact (Q1).out _))))
   refine wpQuiet_nil ?_;rintro w2 ⟨⟨_,hk_w2⟩,rfl⟩;have Bga:=jX (hk_w2.heap Bga.out (by simp));have Bgb:=jX (hk_w2.heap Bgb.out (by simp));have HB2:=jX (HB1.out.trans (Below.mono hk_w2.bz HB1.out.size));clear hk_w2 kga;go_wp2_with fail;refine (HMd.out _).mono ?_;rintro e w3 ⟨rfl,hk3⟩;dsimp only;have Bgb:=jX (hk3.heap Bgb.out (by simp));have HB3:=jX (HB2.out.trans (Below.mono hk3.bz HB2.out.size));clear hk3;obtain⟨pgb,fgb,lgb⟩:=jQ Bgb;go_wp2_with fail;obtain⟨w4,e4,b4,k4⟩:=st2 (x:=.bool false) (y:=.string R) Bgb.out;rw [← e4];have HB4:=jX (HB3.out.trans (k4.below (by simp;omega) HB3.out.size));clear pgb fgb lgb k4 e4;have pgb:=yab b4;refine bodyPost_ret (v:=.tuple #[.agg #[.bool false,.string R],.bool true]) ?_ rfl ⟨rfl,HB4.out⟩;rw [results_cell_tmp rfl];go_simp
  have hT:T≠s:=fun h=>hrr (HTs.out.1 h);have hb:b0=false:=by rw [← Hb0.out];exact decide_eq_false hrr
  clear Hb0;subst hb;have hy:=yfl hT;clear HTs hrr hT;go_wp2_with fail;refine yad (by kernel_rfl) (by kernel_rfl) ?_
  repeat (first
   | go_big_quiet_skip
   | (go_big_quiet_want;go_big_quiet_op;first|go_big_quiet_on|go_big_quiet_call (first
    | (go_at_call 194;with_reducible exact (Q1).out _))))
  refine wpQuiet_nil ?_;rintro w2 ⟨⟨_,hk_w2⟩,rfl⟩;have Bgb:=jX (hk_w2.heap Bgb.out (by simp));have HB2:=jX (HB1.out.trans (Below.mono hk_w2.bz HB1.out.size));clear hk_w2 kga;obtain⟨pgb,fgb,lgb⟩:=jQ Bgb;go_wp2_with fail;obtain⟨w4,e4,b4,k4⟩:=st2 (x:=.bool false) (y:=.string ⟨#[]⟩) Bgb.out;rw [← e4];have HB4:=jX (HB2.out.trans (k4.below (by simp;omega) HB2.out.size));clear pgb fgb lgb k4 e4;have pgb:=yab b4;refine bodyPost_ret (v:=.tuple #[.agg #[.bool false,.string ⟨#[]⟩],.bool false]) ?_ rfl ⟨rfl,HB4.out⟩;rw [results_cell_tmp rfl];go_simp
end
section
open Go.RowKit Go.Lib
theorem yhy (n:Nat):mgS (n:Int)=magS n:=by unfold mgS;rw [Int.natAbs_natCast]
theorem sgB_nat (n:Nat):sgB (n:Int)=false:=by unfold sgB;rw [decide_eq_false_iff_not];omega
theorem sqI_nat (n:Nat):sqI (n:Int)=decide (isq n*isq n=n):=by unfold sqI;rw [sgB_nat,Int.natAbs_natCast];simp
def RootP (w0:World) (a:Rat) (e:Ending) (w':World):Prop:=∃ q ok,e = .returned (.tuple #[rv q,.bool ok])∧QRoot a q ok∧Below w0.heap.size w0 w'
theorem proot_p (a:Rat) (ha:FitQ 100000000 a) (w:World) :
  Calls Tryz.prog 125 #[rv a] w (RootP w a):=by
 have H1:=jX (issq_p a.num (Nat.le_trans ha.1 (by decide)));have H2:=jX (issq_p (a.den:Int) (Nat.le_trans ha.2 (by decide)));have H3:=jX (Den_c a);have h00:=rv_zero;have hden:0<isq a.den:=isq_pos a.den_pos
 have H4:=jX (ycs (isq a.num.natAbs:Int) (isq a.den:Int) (by
  have h:=ycX (ydQ a.num.natAbs) ha.1;unfold Fit;rw [yhy]
  omega) (by
  have h:=ha.2;unfold Fit at h;rw [yhy] at h;have h:=ycX (ydQ a.den) h;unfold Fit;rw [yhy]
  omega) (by omega))
 have Hno:Hid (sqI a.num=false→QRoot a 0 false):=fun h=>by
  cases hs:sgB a.num with
  | true=>exact qroot_neg hs
  | false =>
   unfold sqI at h;rw [hs] at h;exact qroot_num (yej _) (yeH _) (by simpa using h)
 have Hno2:Hid (sqI (a.den:Int)=false→QRoot a 0 false):=fun h=>by
  rw [sqI_nat] at h;exact qroot_den (yej _) (yeH _) (by simpa using h)
 have Hyes:Hid (sqI a.num=true→sqI (a.den:Int)=true→QRoot a (Rat.divInt (isq a.num.natAbs:Int) (isq a.den:Int)) true):=fun h1 h2=>by
  unfold sqI at h1;rw [Bool.and_eq_true,Bool.not_eq_true',decide_eq_true_iff] at h1;rw [sqI_nat,decide_eq_true_iff] at h2;exact qroot_yes h1.1 h1.2 h2
 rw [Int.natAbs_natCast] at H2;generalize Rat.divInt (isq a.num.natAbs:Int) (isq a.den:Int)=R at *;have hP:Hid (∀ q ok w',QRoot a q ok→Below w.heap.size w w'→RootP w a (.returned (.tuple #[rv q,.bool ok])) w'):=fun q ok w' h1 h2=>⟨q,ok,rfl,h1,h2⟩;have hP0:=jX (hP.out 0 false);rw [h00] at hP0;have hPR:=jX (hP.out R true);clear hP h00;generalize hPP:RootP w a=P at *;unfold rv zv at *;generalize sgB a.num=na at *;generalize mgS a.num=sa at *;generalize dnS a.den=da at *;cases hk1:sqI a.num with
 | false =>
  have HQ:=jX (Hno.out hk1);rw [hk1] at H1;simp only [if_false,Bool.false_eq_true] at H1;generalize sgB (0:Int)=x1 at *;generalize mgS (0:Int)=y1 at *;clear H4 Hno Hno2 Hyes hPR hden hPP;generalize sqI (a.den:Int)=k2 at *;generalize sgB (if k2=true then (isq a.den:Int) else 0)=x2 at *
  generalize mgS (if k2=true then (isq a.den:Int) else 0)=y2 at *
  go_enter Tryz.func125,Tryz.ntmps125
  go_upto_region 1 with (fail)
  obtain⟨W,ga,gb,hW,ega,egb,Bga,Bgb,hga,hgb,hgW,HkW⟩:=al2h w (.cells #[.bool na,.string sa,.bool false,.string da] 28) (.cells #[.bool false,.string ⟨#[]⟩,.bool false,.string ⟨#[]⟩] 28);rw [← hW];try rw [egb]
  try rw [ega]
  clear hW ega egb;obtain⟨pga,fga,lga⟩:=jQ Bga;obtain⟨pgb,fgb,lgb⟩:=jQ Bgb;go_wp2_with fail;refine (H1.out _).mono ?_;rintro e w1 ⟨rfl,hb1⟩;dsimp only;clear pga fga lga pgb fgb lgb;have B2ga:=jX ((hb1.block ga (yaa Bga.out)).trans Bga.out);clear Bga;have Bga:=B2ga;clear B2ga;have B2gb:=jX ((hb1.block gb (yaa Bgb.out)).trans Bgb.out);clear Bgb;have Bgb:=B2gb;clear B2gb;have HB:=jX ((HkW.out.bz).trans (Below.mono hb1 HkW.out.size));clear hb1;obtain⟨pga,fga,lga⟩:=jQ Bga;go_wp2_with fail;obtain⟨W2,gc,hW2,egc,bgc,hgc,hgW2,hkW2⟩:=al1 w1 (.cells #[.bool x1,.string y1] 26);rw [← hW2];try rw [egc]
  have Bgc:=jX bgc;clear hW2 egc bgc;have HB2:=jX (HB.out.trans (Below.mono hkW2.bz HB.out.size));have Bga:=jX (hkW2.heap Bga.out (by simp));have Bgb:=jX (hkW2.heap Bgb.out (by simp));clear pga fga lga hkW2;refine (H3.out _).mono ?_;rintro e w3 ⟨rfl,hk3⟩;dsimp only;have HB:=jX (HB2.out.trans (Below.mono hk3.bz HB2.out.size));have Bga:=jX (hk3.heap Bga.out (by simp));have Bgb:=jX (hk3.heap Bgb.out (by simp));have Bgc:=jX (hk3.heap Bgc.out (by simp));clear HB2 hk3;go_wp2_with fail;refine (H2.out _).mono ?_;rintro e w4 ⟨rfl,hb4⟩;dsimp only;have B2gb:=jX ((hb4.block gb (yaa Bgb.out)).trans Bgb.out);clear Bgb;have Bgb:=B2gb;clear B2gb;have B2gc:=jX ((hb4.block gc (yaa Bgc.out)).trans Bgc.out);clear Bgc;have Bgc:=B2gc;clear B2gc;have HB:=jX (HB.out.trans (Below.mono hb4 HB.out.size));clear hb4 Bga;go_upto_region 3 with (fail)
  obtain⟨W2,gd,hW2,egd,bgd,hgd,hgW2,hkW2⟩:=al1 w4 (.cells #[.bool x2,.string y2] 26);rw [← hW2];try rw [egd]
  have Bgd:=jX bgd;clear hW2 egd bgd;have HB:=jX (HB.out.trans (Below.mono hkW2.bz HB.out.size));have Bgb:=jX (hkW2.heap Bgb.out (by simp));have Bgc:=jX (hkW2.heap Bgc.out (by simp));clear hkW2;obtain⟨pgb,fgb,lgb⟩:=jQ Bgb;obtain⟨pgc,fgc,lgc⟩:=jQ Bgc;obtain⟨pgd,fgd,lgd⟩:=jQ Bgd;go_wp2_with fail;obtain⟨w6,e6,b6,k6⟩:=st4 (x:=.bool false) (y:=.string ⟨#[]⟩) (z:=.bool false) (u:=.string ⟨#[]⟩) Bgb.out;rw [← e6];have HB6:=jX (HB.out.trans (k6.below (by simp;omega) HB.out.size));clear pgb fgb lgb k6 e6;have pgb:=yab b6;refine bodyPost_ret (v:=.tuple #[.agg #[.bool false,.string ⟨#[]⟩,.bool false,.string ⟨#[]⟩],.bool false]) ?_ rfl (hP0.out _ HQ.out HB6.out);rw [results_cell_tmp rfl];go_simp
 | true =>
  rw [hk1] at H1;simp only [if_true] at H1;generalize sgB (isq a.num.natAbs:Int)=x1 at *;generalize mgS (isq a.num.natAbs:Int)=y1 at *;cases hk2:sqI (a.den:Int) with
  | false =>
   have HQ:=jX (Hno2.out hk2);rw [hk2] at H2;simp only [if_false,Bool.false_eq_true] at H2;generalize sgB (0:Int)=x2 at *;generalize mgS (0:Int)=y2 at *;clear H4 Hno Hno2 Hyes hPR hden hPP;go_enter Tryz.func125,Tryz.ntmps125
   go_upto_region 1 with (fail)
   obtain⟨W,ga,gb,hW,ega,egb,Bga,Bgb,hga,hgb,hgW,HkW⟩:=al2h w (.cells #[.bool na,.string sa,.bool false,.string da] 28) (.cells #[.bool false,.string ⟨#[]⟩,.bool false,.string ⟨#[]⟩] 28);rw [← hW];try rw [egb]
   try rw [ega]
   clear hW ega egb;obtain⟨pga,fga,lga⟩:=jQ Bga;obtain⟨pgb,fgb,lgb⟩:=jQ Bgb;go_wp2_with fail;refine (H1.out _).mono ?_;rintro e w1 ⟨rfl,hb1⟩;dsimp only;clear pga fga lga pgb fgb lgb;have B2ga:=jX ((hb1.block ga (yaa Bga.out)).trans Bga.out);clear Bga;have Bga:=B2ga;clear B2ga;have B2gb:=jX ((hb1.block gb (yaa Bgb.out)).trans Bgb.out);clear Bgb;have Bgb:=B2gb;clear B2gb;have HB:=jX ((HkW.out.bz).trans (Below.mono hb1 HkW.out.size));clear hb1;obtain⟨pga,fga,lga⟩:=jQ Bga;go_wp2_with fail;obtain⟨W2,gc,hW2,egc,bgc,hgc,hgW2,hkW2⟩:=al1 w1 (.cells #[.bool x1,.string y1] 26);rw [← hW2];try rw [egc]
   have Bgc:=jX bgc;clear hW2 egc bgc;have HB2:=jX (HB.out.trans (Below.mono hkW2.bz HB.out.size));have Bga:=jX (hkW2.heap Bga.out (by simp));have Bgb:=jX (hkW2.heap Bgb.out (by simp));clear pga fga lga hkW2;refine (H3.out _).mono ?_;rintro e w3 ⟨rfl,hk3⟩;dsimp only;have HB:=jX (HB2.out.trans (Below.mono hk3.bz HB2.out.size));have Bga:=jX (hk3.heap Bga.out (by simp));have Bgb:=jX (hk3.heap Bgb.out (by simp));have Bgc:=jX (hk3.heap Bgc.out (by simp));clear HB2 hk3;go_wp2_with fail;refine (H2.out _).mono ?_;rintro e w4 ⟨rfl,hb4⟩;dsimp only;have B2gb:=jX ((hb4.block gb (yaa Bgb.out)).trans Bgb.out);clear Bgb;have Bgb:=B2gb;clear B2gb;have B2gc:=jX ((hb4.block gc (yaa Bgc.out)).trans Bgc.out);clear Bgc;have Bgc:=B2gc;clear B2gc;have HB:=jX (HB.out.trans (Below.mono hb4 HB.out.size));clear hb4 Bga;go_upto_region 3 with (fail)
   obtain⟨W2,gd,hW2,egd,bgd,hgd,hgW2,hkW2⟩:=al1 w4 (.cells #[.bool x2,.string y2] 26);rw [← hW2];try rw [egd]
   have Bgd:=jX bgd;clear hW2 egd bgd;have HB:=jX (HB.out.trans (Below.mono hkW2.bz HB.out.size));have Bgb:=jX (hkW2.heap Bgb.out (by simp));have Bgc:=jX (hkW2.heap Bgc.out (by simp));clear hkW2;obtain⟨pgb,fgb,lgb⟩:=jQ Bgb;obtain⟨pgc,fgc,lgc⟩:=jQ Bgc;obtain⟨pgd,fgd,lgd⟩:=jQ Bgd;go_wp2_with fail;obtain⟨w6,e6,b6,k6⟩:=st4 (x:=.bool false) (y:=.string ⟨#[]⟩) (z:=.bool false) (u:=.string ⟨#[]⟩) Bgb.out;rw [← e6];have HB6:=jX (HB.out.trans (k6.below (by simp;omega) HB.out.size));clear pgb fgb lgb k6 e6;have pgb:=yab b6;refine bodyPost_ret (v:=.tuple #[.agg #[.bool false,.string ⟨#[]⟩,.bool false,.string ⟨#[]⟩],.bool false]) ?_ rfl (hP0.out _ HQ.out HB6.out);rw [results_cell_tmp rfl];go_simp
  | true =>
   have HQ:=jX (Hyes.out hk1 hk2);rw [hk2] at H2;simp only [if_true] at H2;generalize sgB (isq a.den:Int)=x2 at *;generalize mgS (isq a.den:Int)=y2 at *;clear Hno Hno2 Hyes hP0 hden hPP;generalize sgB (R).num=nr at *;generalize mgS (R).num=sr at *;generalize dnS (R).den=dr at *;go_enter Tryz.func125,Tryz.ntmps125
   go_upto_region 1 with (fail)
   obtain⟨W,ga,gb,hW,ega,egb,Bga,Bgb,hga,hgb,hgW,HkW⟩:=al2h w (.cells #[.bool na,.string sa,.bool false,.string da] 28) (.cells #[.bool false,.string ⟨#[]⟩,.bool false,.string ⟨#[]⟩] 28);rw [← hW];try rw [egb]
   try rw [ega]
   clear hW ega egb;obtain⟨pga,fga,lga⟩:=jQ Bga;obtain⟨pgb,fgb,lgb⟩:=jQ Bgb;go_wp2_with fail;refine (H1.out _).mono ?_;rintro e w1 ⟨rfl,hb1⟩;dsimp only;clear pga fga lga pgb fgb lgb;have B2ga:=jX ((hb1.block ga (yaa Bga.out)).trans Bga.out);clear Bga;have Bga:=B2ga;clear B2ga;have B2gb:=jX ((hb1.block gb (yaa Bgb.out)).trans Bgb.out);clear Bgb;have Bgb:=B2gb;clear B2gb;have HB:=jX ((HkW.out.bz).trans (Below.mono hb1 HkW.out.size));clear hb1;obtain⟨pga,fga,lga⟩:=jQ Bga;go_wp2_with fail;obtain⟨W2,gc,hW2,egc,bgc,hgc,hgW2,hkW2⟩:=al1 w1 (.cells #[.bool x1,.string y1] 26);rw [← hW2];try rw [egc]
   have Bgc:=jX bgc;clear hW2 egc bgc;have HB2:=jX (HB.out.trans (Below.mono hkW2.bz HB.out.size));have Bga:=jX (hkW2.heap Bga.out (by simp));have Bgb:=jX (hkW2.heap Bgb.out (by simp));clear pga fga lga hkW2;refine (H3.out _).mono ?_;rintro e w3 ⟨rfl,hk3⟩;dsimp only;have HB:=jX (HB2.out.trans (Below.mono hk3.bz HB2.out.size));have Bga:=jX (hk3.heap Bga.out (by simp));have Bgb:=jX (hk3.heap Bgb.out (by simp));have Bgc:=jX (hk3.heap Bgc.out (by simp));clear HB2 hk3;go_wp2_with fail;refine (H2.out _).mono ?_;rintro e w4 ⟨rfl,hb4⟩;dsimp only;have B2gb:=jX ((hb4.block gb (yaa Bgb.out)).trans Bgb.out);clear Bgb;have Bgb:=B2gb;clear B2gb;have B2gc:=jX ((hb4.block gc (yaa Bgc.out)).trans Bgc.out);clear Bgc;have Bgc:=B2gc;clear B2gc;have HB:=jX (HB.out.trans (Below.mono hb4 HB.out.size));clear hb4 Bga;go_upto_region 3 with (fail)
   obtain⟨W2,gd,hW2,egd,bgd,hgd,hgW2,hkW2⟩:=al1 w4 (.cells #[.bool x2,.string y2] 26);rw [← hW2];try rw [egd]
   have Bgd:=jX bgd;clear hW2 egd bgd;have HB:=jX (HB.out.trans (Below.mono hkW2.bz HB.out.size));have Bgb:=jX (hkW2.heap Bgb.out (by simp));have Bgc:=jX (hkW2.heap Bgc.out (by simp));clear hkW2;obtain⟨pgb,fgb,lgb⟩:=jQ Bgb;obtain⟨pgc,fgc,lgc⟩:=jQ Bgc;obtain⟨pgd,fgd,lgd⟩:=jQ Bgd;go_wp2_with fail;refine (H4.out _).mono ?_;rintro e w6 ⟨rfl,hk6⟩;dsimp only;have HB:=jX (HB.out.trans (Below.mono hk6.bz HB.out.size));have Bgb:=jX (hk6.heap Bgb.out (by simp));clear hk6 pgb fgb lgb pgc fgc lgc pgd fgd lgd;obtain⟨pgb,fgb,lgb⟩:=jQ Bgb;go_wp2_with fail;obtain⟨w7,e7,b7,k7⟩:=st4 (x:=.bool nr) (y:=.string sr) (z:=.bool false) (u:=.string dr) Bgb.out;rw [← e7];have HB7:=jX (HB.out.trans (k7.below (by simp;omega) HB.out.size));clear pgb fgb lgb k7 e7;have pgb:=yab b7;refine bodyPost_ret (v:=.tuple #[.agg #[.bool nr,.string sr,.bool false,.string dr],.bool true]) ?_ rfl (hPR.out _ HQ.out HB7.out);rw [results_cell_tmp rfl];go_simp
end
end Go.Proofs.YtpgffjjpiafhpaaGreatDoor
