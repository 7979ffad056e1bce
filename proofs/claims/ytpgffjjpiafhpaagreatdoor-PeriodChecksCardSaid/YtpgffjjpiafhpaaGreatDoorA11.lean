/- Parts of a proof about this translation: Kr, Ri, Rj, Rm. -/
import Derived.Deep.DeepCutAuto
import Derived.Deep.Cut
import Derived.Deep.CutRange
import Derived.Deep.LoopGhost
import Derived.Test.YtpgffjjpiafhpaaGreatDoorA01
import Derived.Test.YtpgffjjpiafhpaaGreatDoorA06
import Derived.Test.YtpgffjjpiafhpaaGreatDoorA09
import Derived.Test.YtpgffjjpiafhpaaGreatDoorA10
import Derived.Test.YtpgffjjpiafhpaaGreatDoorA08
import Derived.Test.YtpgffjjpiafhpaaGreatDoorA03
set_option linter.unusedVariables false
set_option linter.unusedSimpArgs false
set_option maxRecDepth 100000
set_option maxHeartbeats 8000000
namespace Go.Proofs.YtpgffjjpiafhpaaGreatDoor
open Go.RowKit
section
open Go.RowKit Go.Lib
theorem conv1 {u:World} {g pb:Nat} (h:u.heap[g]? = some (.cells #[.int .u8 (pb:Int)] 5)):(convert 211 9 (.slice (some ⟨g,0,none⟩) 1 1)).run Tryz.prog u = .ok (.string (strOfNums [(pb:Int)])) u :=
 run_convert_bytes_arg (P:=Tryz.prog) u 211 5 Tryz.underlying211 Tryz.underlying5 g 0 1 1 [(pb:Int)] rfl (fun i hi=>by
  obtain rfl:i=0:=by omega
  rw [cell_of h]
  rfl) 9 Tryz.underlying9
def strOf:Value→ByteArray
 | .string s=>s
 | _=>⟨#[]⟩
theorem mag_le {X M c r:Nat} (hX:X≤2 ^ M) (hM:M=r+8*c) (hr:r<8):(magS X).size≤c+1:=by
 rw [magS_size]
 subst hM
 have h1:2 ^ r<2 ^ 8:=Nat.pow_lt_pow_right (by decide) hr
 have h2:2 ^ (r+8*c)=2 ^ r*256 ^ c:=by rw [Nat.pow_add,show (256:Nat)=2 ^ 8 from rfl,← Nat.pow_mul]
 have h3:256 ^ (c+1)=256*256 ^ c:=by rw [Nat.pow_succ,Nat.mul_comm]
 have h4:2 ^ r*256 ^ c<256*256 ^ c:=Nat.mul_lt_mul_of_pos_right h1 (Nat.pow_pos (by decide))
 omega
theorem mag_mono {X Y k:Nat} (h:X≤Y) (hY:(magS Y).size≤k):(magS X).size≤k:=(magS_size _ _).2 (Nat.lt_of_le_of_lt h ((magS_size _ _).1 hY))
theorem mag_sum {X Y k:Nat} (hX:(magS X).size≤k) (hY:(magS Y).size≤k):(magS (X+Y)).size≤k+1:=by
 rw [magS_size] at *
 have:256 ^ (k+1)=256*256 ^ k:=by rw [Nat.pow_succ,Nat.mul_comm]
 omega
theorem wrap_pow:∀ r:Fin 8,IntKind.u8.wrap ((2:Int) ^ r.val)=((2 ^ r.val:Nat):Int):=by decide
theorem bit8:∀ n:Fin 256,n.val<2 ^ (Lib.bitLen n.val):=by decide +kernel
theorem bit8le:∀ n:Fin 256,Lib.bitLen n.val≤8:=by decide +kernel
theorem rep_zero_nat (c:Nat):natL (repeatL [0] c)=0:=by
 induction c with
 | zero=>rfl
 | succ c ih =>
  show natL ([0]++repeatL [0] c)=0
  rw [natL_append,ih]
  show natL [0]*_+0=0
  have:natL [0]=0:=rfl
  rw [this,Nat.zero_mul]
theorem pow_bytes (r c:Nat) (hr:r<8):(⟨(#[UInt8.ofNat (2 ^ r)]++(repeatL [0] c).toArray)⟩:ByteArray)=magS (2 ^ (r+8*c)):=by
 have hl:(⟨(#[UInt8.ofNat (2 ^ r)]++(repeatL [0] c).toArray)⟩:ByteArray).data.toList=UInt8.ofNat (2 ^ r) :: repeatL [0] c:=by simp
 have hb:(UInt8.ofNat (2 ^ r)).toNat=2 ^ r:=by
  have:2 ^ r<2 ^ 8:=Nat.pow_lt_pow_right (by decide) hr
  rw [UInt8.toNat_ofNat']
  exact Nat.mod_eq_of_lt this
 have hc:CanS (⟨(#[UInt8.ofNat (2 ^ r)]++(repeatL [0] c).toArray)⟩:ByteArray):=by
  unfold CanS
  rw [hl]
  intro b hb2
  simp only [List.head?_cons,Option.some.injEq] at hb2
  subst hb2
  intro h0
  have:=congrArg UInt8.toNat h0
  rw [hb] at this
  have h2:0<2 ^ r:=Nat.pow_pos (by decide)
  have h3:(0:UInt8).toNat=0:=rfl
  omega
 rw [← magS_nat _ hc]
 congr 1
 unfold natB
 rw [hl,natL_cons,hb,rep_zero_nat,repeatL_length,Nat.add_zero]
 show 2 ^ r*256 ^ (c*1)=_
 rw [Nat.mul_one,Nat.pow_add,show (256:Nat)=2 ^ 8 from rfl,← Nat.pow_mul]
theorem pow_app (r c pb M:Nat) (hr:r<8) (hp:2 ^ r=pb) (hM:M=r+8*c):strOfNums [(pb:Int)]++⟨(repeatL [0] c).toArray⟩=magS (2 ^ M):=by
 subst hp hM
 rw [← pow_bytes r c hr]
 apply ByteArray.ext
 rw [ByteArray.data_append]
 unfold strOfNums
 simp only [List.map_cons,List.map_nil,Int.toNat_natCast]
theorem top_lt (s:ByteArray) (h:0<s.size):natB s<2 ^ (8*(s.size-1)+Lib.bitLen (s[0]'h).toNat):=by
 obtain⟨⟨l⟩⟩:=s
 cases l with
 | nil=>exact absurd h (by decide)
 | cons a l =>
  have e:natB ⟨⟨a :: l⟩⟩=a.toNat * 256 ^ l.length+natL l:=natL_cons a l
  have h1:=natL_lt l
  have h2:=bit8 ⟨a.toNat,UInt8.toNat_lt a⟩
  have e2:((⟨⟨a :: l⟩⟩:ByteArray)[0]'h)=a:=rfl
  have e3:(⟨⟨a :: l⟩⟩:ByteArray).size=l.length+1:=rfl
  rw [e,e2,e3,Nat.add_sub_cancel,Nat.pow_add,Nat.pow_mul,show (2:Nat) ^ 8=256 from rfl]
  dsimp only at h2
  have h3:(a.toNat + 1)*256 ^ l.length≤2 ^ Lib.bitLen a.toNat * 256 ^ l.length:=Nat.mul_le_mul_right _ h2
  have h4:(a.toNat + 1)*256 ^ l.length=a.toNat * 256 ^ l.length+256 ^ l.length:=by rw [Nat.add_mul,Nat.one_mul]
  rw [Nat.mul_comm (256 ^ l.length)]
  omega
theorem index_top (w:World) (s:ByteArray) (h:0<s.size):(Instr.index 9 (.string s) (.int .i64 0)).run Tryz.prog w = .ok (.int .u8 ((s[0]'h).toNat:Nat)) w:=by
 rw [run_index_string (P:=Tryz.prog) w 9 s .i64 _ Tryz.underlying9,dif_pos ⟨by omega,by omega⟩]
 rfl
theorem root_p (n:Nat) (hs:(magS n).size≤1000000000) (w:World) :
  Calls Tryz.prog 193 #[.string (magS n)] w fun e w'=>e = .returned (.string (magS (isq n)))∧Below w.heap.size w w':=by
 rcases Nat.eq_zero_or_pos n with h0|hpos
 ·subst h0
  have hz:isq 0=0:=(isq_unique (s:=0) (by decide) (by decide)).symm
  rw [hz,magS_zero]
  go_enter Tryz.func193,Tryz.ntmps193
  go_wp2_with fail
  go_ret
  exact ⟨rfl,Below.refl _ _⟩
 have hsz:0<(magS n).size:=Nat.pos_of_ne_zero fun h=>by
  have:=(magS_size n 0).1 (by omega)
  omega
 have htop:=top_lt (magS n) hsz
 rw [natB_mag] at htop
 have hne:magS n≠⟨#[]⟩:=fun h=>by rw [h] at hsz;exact absurd hsz (by decide)
 have HD:Hid (∀ X:Nat,0<X→(magS X).size≤1000000001→∀ w,Calls Tryz.prog 187 #[.string (magS n),.string (magS X)] w fun e w'=>e = .returned (.tuple #[.string (magS (n / X)),.string (magS (n % X))])∧Keep [] w w'):=fun X hX hXs w=>by
  have:=div_c (magS n) (magS X) (by omega) (by omega) (magS_can n) (magS_can X) (by rw [natB_mag];exact hX) w
  rw [natB_mag,natB_mag] at this
  exact this
 have HA:Hid (∀ X Y:Nat,(magS X).size≤1000000001→(magS Y).size≤1000000001→∀ w,Calls Tryz.prog 189 #[.string (magS X),.string (magS Y)] w fun e w'=>e = .returned (.string (magS (X+Y)))∧Keep [] w w'):=fun X Y hX hY w=>by
  have:=add_c (magS X) (magS Y) (by omega) (by omega) w
  rw [natB_mag,natB_mag] at this
  exact this
 have HH:Hid (∀ X:Nat,(magS X).size≤1000000002→∀ w,Calls Tryz.prog 187 #[.string (magS X),.string ⟨#[2]⟩] w fun e w'=>e = .returned (.tuple #[.string (magS (X / 2)),.string (magS (X % 2))])∧Keep [] w w'):=fun X hX w=>by
  have h2:natB ⟨#[2]⟩=2:=rfl
  have c2:CanS ⟨#[2]⟩:=by intro b hb;have:(some 2:Option UInt8)=some b:=hb;injection this with this;subst this;decide
  have:=div_c (magS X) ⟨#[2]⟩ (by omega) (by decide) (magS_can X) c2 (by rw [h2];decide) w
  rw [natB_mag,h2] at this
  exact this
 have HC:Hid (∀ X Y:Nat,∀ w,Calls Tryz.prog 185 #[.string (magS X),.string (magS Y)] w fun e w'=>e = .returned (.int .i64 (Lib.compareInt X Y))∧Keep [] w w'):=fun X Y w=>by
  have:=compare_c (magS X) (magS Y) (magS_can X) (magS_can Y) w
  rw [natB_mag,natB_mag] at this
  exact this
 obtain⟨d,hd⟩:∃ d,((magS n)[0]'hsz).toNat=d:=⟨_,rfl⟩
 have hd9:d<256:=by rw [← hd];exact UInt8.toNat_lt _
 have hix:=fun w=>index_top w (magS n) hsz
 rw [hd] at htop hix
 have HB:=jX (fun w=>Tryz.bits_Len8 (d:Int) w (by omega) (by omega))
 have hbl:=bit8le ⟨d,hd9⟩
 dsimp only at hbl
 rw [Int.toNat_natCast] at HB
 obtain⟨bl,hbl2⟩:∃ bl,Lib.bitLen d=bl:=⟨_,rfl⟩
 rw [hbl2] at HB hbl htop
 have HT:=jX htop
 have Hpos:=jX hpos
 clear htop hbl2 hd hpos
 obtain⟨L,hL⟩:∃ L,(magS n).size=L+1:=⟨(magS n).size-1,by omega⟩
 rw [hL,Nat.add_sub_cancel] at HT
 have hsub:((magS n).size:Int)-1=(L:Int):=by omega
 have hemp:(magS n).toList.isEmpty=false:=by
  rw [List.isEmpty_eq_false_iff]
  exact fun h=>hne (str_inj (by rw [h,Go.Lib.toList_data]))
 have hL9:L≤1000000000:=by omega
 clear hL
 have HQs:=jX (fun X=>mag_mono (Nat.div_le_self n X) (Nat.le_trans hs (by decide:1000000000≤1000000001)))
 generalize magS n=s at *
 go_enter Tryz.func193,Tryz.ntmps193
 go_wp2_with fail
 refine (HB.out _).mono ?_
 rintro e w1 ⟨rfl,rfl⟩
 dsimp only
 clear HB
 obtain⟨M,hM0⟩:∃ M,(8*L+bl+1) / 2=M:=⟨_,rfl⟩
 obtain⟨r,hr0⟩:∃ r,M % 8=r:=⟨_,rfl⟩
 obtain⟨c,hc0⟩:∃ c,M / 8=c:=⟨_,rfl⟩
 have hM:(8*(L:Int)+(bl:Int)+1) / 2=(M:Int):=by omega
 have hr:(M:Int) % 8=(r:Int):=by omega
 have hc:(M:Int) / 8=(c:Int):=by omega
 have hr8:r<8:=by omega
 have HMx:=jX (show M=r+8*c by omega)
 have HM2:=jX (show 8*L+bl≤2*M by omega)
 have hc9:c≤1000000000:=by omega
 have hrt:(M:Int).tmod 8=(r:Int):=by rw [Int.tmod_eq_emod_of_nonneg (by omega)];exact hr
 have hct:(M:Int).tdiv 8=(c:Int):=by rw [Int.tdiv_eq_ediv_of_nonneg (by omega)];exact hc
 have hrn:((r:Int)).toNat=r:=by omega
 have hrm:min r 8=r:=by omega
 have hcw:IntKind.i64.wrap (c:Int)=(c:Int):=IntWalk.i64_in _ (by omega)
 have hwp:IntKind.u8.wrap ((2:Int) ^ r)=((2 ^ r:Nat):Int):=wrap_pow ⟨r,hr8⟩
 obtain⟨pb,hpb⟩:∃ pb,2 ^ r=pb:=⟨_,rfl⟩
 have Hpb:=jX hpb
 rw [hpb] at hwp
 clear hM0 hr0 hc0 hpb
 go_upto_region 5 with (fail)
 have Hrep:=jX (fun w=>Tryz.strings_Repeat ⟨#[0]⟩ c w (by omega) (by rw [show (⟨#[0]⟩:ByteArray).size=1 from rfl];omega))
 have HPW:=jX (congrArg Value.string (pow_app r c pb M hr8 Hpb.out HMx.out))
 have HSZ:Hid (¬ 9223372036854775807<(strOfNums [(pb:Int)]).size+(⟨(repeatL [0] c).toArray⟩:ByteArray).size):=by
  have h1:(strOfNums [(pb:Int)]).size=1:=rfl
  have h2:(⟨(repeatL [0] c).toArray⟩:ByteArray).size=c:=by
   show (repeatL [0] c).toArray.size=c
   rw [List.size_toArray,repeatL_length,List.length_singleton,Nat.mul_one]
  refine jX ?_
  rw [h1,h2]
  omega
 go_cut [3,4] (fun _ xv wx=>xv = .string (magS (2 ^ M))∧Below w1.heap.size w1 wx)
 case first =>
  have HBu:=jX ((Below.refl w1.heap.size w1).drew)
  refine wp_region_heldT (S:=fun _=>True) 8 (by kernel_rfl) (by kernel_rfl) (fun _ _ d _ _ h=>by cases d<;>exact h) ?_
  generalize World.drew w1=u at *
  refine' jV (v:=_) 0 trivial (fun w _=>?ha0) (fun K hK=>?ka0)
  case ha0=>(go_simp;try rfl)
  go_simp
  refine hK _ ?_
  clear hK K
  refine' jV (v:=_) 1 trivial (fun w _=>?hb1) (fun K hK=>?kb1)
  case hb1=>(go_simp;try rfl)
  go_simp
  refine hK _ ?_
  clear hK K
  refine' jV (v:=_) 2 trivial (fun w _=>?hc2) (fun K hK=>?kc2)
  case hc2=>(go_simp;try rfl)
  go_simp
  refine hK _ ?_
  clear hK K
  refine' jV (v:=_) 5 trivial (fun w _=>?hd5) (fun K hK=>?kd5)
  case hd5=>(go_simp;try rfl)
  go_simp
  refine hK _ ?_
  clear hK K
  refine' jV (v:=_) 6 trivial (fun w _=>?he6) (fun K hK=>?ke6)
  case he6=>(go_simp;try rfl)
  go_simp
  refine hK _ ?_
  clear hK K
  refine heldT_two 3 7 (by kernel_rfl) (by decide) (by decide) (by rfl) (by rfl) (by rfl) (by rfl) (fun K hK=>?_) (fun K hK=>?_)
  ·skip
   obtain⟨v1,g,e1,e2,bg,hg,hgu,hk2⟩:=al1 u (.cells #[.int .u8 (pb:Int)] 5)
   go_simp
   rw [← e1]
   clear e1 e2
   have HBu:=jX (HBu.out.trans (Below.mono hk2.below0 HBu.out.size))
   refine hK _ _ trivial ?_
   clear hK K
   refine heldT_two 4 7 (by kernel_rfl) (by decide) (by decide) (by rfl) (by rfl) (by rfl) (by rfl) (fun K hK=>?_) (fun K hK=>?_)
   ·skip
    have hcv:=conv1 bg
    go_simp
    refine hK _ _ trivial ?_
    clear hK K hcv
    refine jO 7 (fun K hK=>?_)
    refine wp_enter 231 #[.string ⟨#[0]⟩,.int .i64 (c:Int)] (by go_simp) ?_
    refine (Hrep.out _).mono ?_
    rintro e v2 ⟨rfl,hb1⟩
    have HBu:=jX (HBu.out.trans (Below.mono hb1 HBu.out.size))
    refine ⟨_,rfl,?_⟩
    refine hK _ _ trivial ?_
    clear hK K
    refine ⟨by kernel_rfl,?_⟩
    simp only [List.drop_succ_cons,List.drop_zero]
    have HP2:=HPW.out
    have hz:=HSZ.out
    generalize strOfNums [(pb:Int)]=SA at *
    generalize (⟨(repeatL [0] c).toArray⟩:ByteArray)=SB at *
    have HP2:=jX HP2
    go_wp2_with fail
    go_meet
    exact ⟨rfl,HBu.out⟩
   skip
   refine wp_enter 231 #[.string ⟨#[0]⟩,.int .i64 (c:Int)] (by go_simp) ?_
   refine (Hrep.out _).mono ?_
   rintro e v2 ⟨rfl,hb1⟩
   have HBu:=jX (HBu.out.trans (Below.mono hb1 HBu.out.size))
   refine ⟨_,rfl,?_⟩
   refine hK _ _ trivial ?_
   clear hK K
   have bg:=(hb1.block g hgu).trans bg
   refine jO 4 (fun K hK=>?_)
   have hcv:=conv1 bg
   go_simp
   refine hK _ _ trivial ?_
   clear hK K hcv
   refine ⟨by kernel_rfl,?_⟩
   simp only [List.drop_succ_cons,List.drop_zero]
   have HP2:=HPW.out
   have hz:=HSZ.out
   generalize strOfNums [(pb:Int)]=SA at *
   generalize (⟨(repeatL [0] c).toArray⟩:ByteArray)=SB at *
   have HP2:=jX HP2
   go_wp2_with fail
   go_meet
   exact ⟨rfl,HBu.out⟩
  skip
  refine wp_enter 231 #[.string ⟨#[0]⟩,.int .i64 (c:Int)] (by go_simp) ?_
  refine (Hrep.out _).mono ?_
  rintro e v1 ⟨rfl,hb1⟩
  have HBu:=jX (HBu.out.trans (Below.mono hb1 HBu.out.size))
  refine ⟨_,rfl,?_⟩
  refine hK _ _ trivial ?_
  clear hK K
  refine jO 3 (fun K hK=>?_)
  obtain⟨v2,g,e1,e2,bg,hg,hgu,hk2⟩:=al1 v1 (.cells #[.int .u8 (pb:Int)] 5)
  go_simp
  rw [← e1]
  clear e1 e2
  have HBu:=jX (HBu.out.trans (Below.mono hk2.below0 HBu.out.size))
  refine hK _ _ trivial ?_
  clear hK K
  refine jO 4 (fun K hK=>?_)
  have hcv:=conv1 bg
  go_simp
  refine hK _ _ trivial ?_
  clear hK K hcv
  refine ⟨by kernel_rfl,?_⟩
  simp only [List.drop_succ_cons,List.drop_zero]
  have HP2:=HPW.out
  have hz:=HSZ.out
  generalize strOfNums [(pb:Int)]=SA at *
  generalize (⟨(repeatL [0] c).toArray⟩:ByteArray)=SB at *
  have HP2:=jX HP2
  go_wp2_with fail
  go_meet
  exact ⟨rfl,HBu.out⟩
 obtain⟨rfl,hbw⟩:=hcut
 have HBw:=jX hbw
 have HQ0:=jX (Nat.le_of_lt (isq_pow HT.out HM2.out))
 have HQp:=jX (isq_pos Hpos.out)
 have HXs:Hid (∀ X,X≤2 ^ M→(magS X).size≤1000000001):=fun X hX=>Nat.le_trans (mag_le hX HMx.out hr8) (by omega)
 clear hbw hs
 go_wp2_with fail
 go_loopw [4] (fun xv wr=>∃ X:Nat,isq n≤X∧X≤2 ^ M∧xv = .string (magS X)∧Keep [] wc wr) (fun xv _=>natB (strOf xv))
 case atStart=>exact ⟨2 ^ M,HQ0.out,Nat.le_refl _,rfl,Keep.refl _ _⟩
 case round =>
  obtain⟨X,hX,hXM,rfl,hk⟩:=hrel
  have HX:=jX hX
  have HXM:=jX hXM
  have HK:=jX hk
  have HX0:Hid (0<X):=Nat.lt_of_lt_of_le HQp.out hX
  have HN:=jX (newton_step hX HX0.out)
  have HSx:=jX (HXs.out X hXM)
  have HSq:=jX (HQs.out X)
  clear hX hXM hk
  go_wp2_with fail
  refine (HD.out X HX0.out HSx.out _).mono ?_
  rintro e w2 ⟨rfl,hk2⟩
  dsimp only
  have HK:=jX (HK.out.trans0 hk2)
  clear hk2
  go_wp2_with fail
  refine (HA.out X (n / X) HSx.out HSq.out _).mono ?_
  rintro e w3 ⟨rfl,hk3⟩
  dsimp only
  have HK:=jX (HK.out.trans0 hk3)
  clear hk3
  go_wp2_with fail
  refine (HH.out (X+n / X) (mag_sum HSx.out HSq.out) _).mono ?_
  rintro e w4 ⟨rfl,hk4⟩
  dsimp only
  have HK:=jX (HK.out.trans0 hk4)
  clear hk4
  generalize n / X=q at *
  generalize (X+q) / 2=Y at *
  go_wp2_with fail
  refine (HC.out Y X _).mono ?_
  rintro e w5 ⟨rfl,hk5⟩
  dsimp only
  have HK:=jX (HK.out.trans0 hk5)
  clear hk5
  have hcmp:(0≤Lib.compareInt (Y:Int) (X:Int))↔X≤Y:=by
   unfold Lib.compareInt
   split
   ·constructor<;>intro h<;>omega
   split
   ·constructor<;>intro h<;>omega
   constructor<;>intro h<;>omega
  generalize Lib.compareInt (Y:Int) (X:Int)=z at *
  have Hcmp:=jX hcmp
  clear hcmp
  by_cases hz:0≤z
  ·have hXY:=Hcmp.out.1 hz
   have hfin:X=isq n:=by
    rcases HN.out.2 with h|h
    ·omega
    exact h
   have HF:=jX hfin
   have HBk:=jX (HBw.out.trans (Below.mono HK.out.below0 HBw.out.size))
   clear hfin hXY
   go_wp2_with fail
   go_ret
   exact ⟨by rw [← HF.out];rfl,HBk.out⟩
  have hYX:Y<X:=Nat.lt_of_not_le fun h=>hz (Hcmp.out.2 h)
  have HYX:=jX hYX
  clear hYX
  go_wp2_with fail
  go_roundw
  case rel=>exact ⟨Y,HN.out.1,by have:=HYX.out;have:=HXM.out;omega,rfl,HK.out⟩
  case measure=>show natB (magS Y)<natB (magS X);rw [natB_mag,natB_mag];exact HYX.out
end
def ints (l:List Nat):List Value:=l.map fun (d:Nat)=>.int .i64 (d:Int)
theorem ints_length (l:List Nat):(ints l).length=l.length:=by simp [ints]
theorem ints_get (l:List Nat) (i:Nat) (h:i<l.length):(ints l)[i]? = some (.int .i64 ((l[i]:Nat):Int)):=by simp [ints,h]
theorem ints_snoc (l:List Nat) (d:Nat):ints l++[.int .i64 (d:Int)]=ints (l++[d]):=by simp [ints]
theorem own_keep' {w w':World} {e:TypeId} {size:Nat} {v:Value} {n:Nat} {xs:List Value} {F:List Nat} (h:w.ownsRow 0 e size v n xs) (hk:Keep F w w') (hF:∀ g,v.ownBlock=some g→g ∉ F):w'.ownsRow 0 e size v n xs:=by
 refine ⟨h.1,?_⟩
 rcases h.2 with hn|⟨g,cap,cur,hv,hb,hg,rest⟩
 ·exact .inl hn
 exact .inr ⟨g,cap,cur,hv,hb,hk.heap hg (hF g (by rw [hv];rfl)),rest⟩
theorem own_form {w:World} {e:TypeId} {size:Nat} {v:Value} {n:Nat} {xs:List Value} (h:w.ownsRow 0 e size v n xs):∃ po pc,v = .slice po n pc:=by
 rcases h.2 with ⟨hv,h0⟩|⟨g,cap,cur,hv,_⟩
 ·exact ⟨none,0,by rw [hv,h0]⟩
 exact ⟨_,cap,hv⟩
theorem one_news (w:World) (v:Value) (t:TypeId):∀ (j:Nat) (u:Value),[v][j]? = some u→(w.alloc (.cells #[v] t)).cell? ((⟨w.heap.size,0,none⟩:Addr).add j)=some u:=by
 intro j u hj
 match j,hj with
 | 0,hj=>simp at hj;subst hj;simp [Addr.add,go_sem]
structure OI (w0 w:World) (v:Value) (l:List Nat):Prop where
 row:w.ownsRow 0 3 1 v l.length (ints l)
 base:∀ g,v.ownBlock=some g→w0.heap.size≤g
 keep:Keep [] w0 w
theorem OI.nil (w:World):OI w w (.slice none 0 0) []:=⟨⟨rfl,.inl ⟨rfl,rfl⟩⟩,by simp [Value.ownBlock],Keep.refl _ _⟩
theorem OI.later {w0 w w':World} {v:Value} {l:List Nat} (h:OI w0 w v l) (hk:Keep [] w w'):OI w0 w' v l :=
 ⟨own_keep' h.row hk (by simp),h.base,h.keep.trans0 hk⟩
theorem OI.form {w0 w:World} {v:Value} {l:List Nat} (h:OI w0 w v l):∃ po pc,v = .slice po l.length pc:=own_form h.row
theorem OI.read {w0 w:World} {v:Value} {l:List Nat} (h:OI w0 w v l):RowR w v (ints l):=by
 exact RowR.of_own h.row
theorem OI.step {w0 wr wa:World} {v:Value} {l:List Nat} (h:OI w0 wr v l) {g cap d:Nat} {t:TypeId} (hoa:wa.ownsRow 0 3 1 (.slice (some ⟨g,0,none⟩) (l.length+1) cap) (l.length+1) (ints l++[.int .i64 (d:Int)]))
  (hga:(wr.alloc (.cells #[.int .i64 (d:Int)] t)).grownBy wa v.ownBlock) (hfa:some g=v.ownBlock∨wr.heap.size+1≤g) (hda:(wr.alloc (.cells #[.int .i64 (d:Int)] t)).drawn≤wa.drawn) :
  OI w0 wa (.slice (some ⟨g,0,none⟩) (l.length+1) cap) (l++[d]):=by
 refine ⟨?_,?_,?_⟩
 ·rw [← ints_snoc,List.length_append];exact hoa
 ·intro k hk
  simp [Value.ownBlock] at hk
  subst hk
  rcases hfa with h1|h1
  ·exact h.base _ h1.symm
  have:=h.keep.size
  omega
 exact (h.keep.allocPast _).grownPast hga hda (fun k hk=>h.base k hk)
theorem infoInt:(Tryz.prog.info? 3).map (fun i=>(i.zero,i.size,i.bytes))=some (some (.int .i64 0),1,8):=by kernel_rfl
def CapOk (v:Value):Prop:=∀ a n c,v = .slice a n c→n≤c
theorem OI.cap {w0 w:World} {v:Value} {l:List Nat} (h:OI w0 w v l):CapOk v:=by
 intro a n c e
 rcases h.row.2 with ⟨hv,_⟩|⟨g,cap,cur,hv,_,_,hc,_⟩
 ·rw [hv] at e;injection e with _ e2 e3;omega
 rw [hv] at e;injection e with _ e2 e3;omega
def DR (w:World) (v:Value) (N:Nat):Prop:=RowR w v (ints (digs 256 N))∧CapOk v
theorem DR.later {w w':World} {v:Value} {N:Nat} (h:DR w v N) (hk:Keep [] w w'):DR w' v N:=⟨h.1.keep0 hk,h.2⟩
def Trimmed (w:World) (l:List Nat) (e:Ending):Prop:=∃ v,e = .returned v∧RowR w v (ints (trimD l))∧CapOk v
theorem trimmed_of {w:World} {l:List Nat} {g o c m:Nat} (hm:m≤l.length) (hc:l.length≤c) (ht:trimD l=l.take m) (hg:g<w.heap.size) (h:∀ i u,(ints l)[i]? = some u→w.cell? ⟨g,o+i,none⟩=some u) :
  Trimmed w l (.returned (.slice (some ⟨g,o,none⟩) m c)):=by
 have hlen:(ints (trimD l)).length=m:=by rw [ints_length,ht,List.length_take,Nat.min_eq_left hm]
 refine ⟨_,rfl,.inr ⟨g,o,c,by rw [hlen],hg,fun i u hi=>h i u ?_⟩,fun a n c' e=>?_⟩
 ·have hlt:i<(ints (trimD l)).length:=(List.getElem?_eq_some_iff.1 hi).1
  rw [hlen] at hlt
  rw [ht] at hi
  have:ints (l.take m)=(ints l).take m:=by simp [ints,List.map_take]
  rw [this,List.getElem?_take_of_lt hlt] at hi
  exact hi
 injection e with _ e2 e3;omega
theorem rtrim_c (w:World) (sv:Value) (l:List Nat) (hl9:l.length≤1000000000000) (h:RowR w sv (ints l)) (hcap:CapOk sv) :
  Calls Tryz.prog 179 #[sv] w fun e w'=>Trimmed w l e∧w'=w:=by
 rcases h with ⟨rfl,h0⟩|⟨g,o,c,rfl,hg,hc⟩
 ·have h1:l=[]:=by simpa [ints] using h0
  subst h1
  go_enter Tryz.func179,Tryz.ntmps179
  go_wp2_with fail
  go_rounds 1
  go_wp2_with fail
  go_ret
  exact ⟨⟨_,rfl,.inl ⟨rfl,rfl⟩,fun a n c e=>by injection e with _ e2 e3;omega⟩,rfl⟩
 rw [ints_length] at hcap ⊢
 have hlc:l.length≤c:=hcap _ _ _ rfl
 have Hc:=jX hc
 clear hc hcap
 go_enter Tryz.func179,Tryz.ntmps179
 go_wp2_with fail
 go_loop [3] (fun x=>∃ m:Nat,m≤l.length∧x = .int .i64 (m:Int)∧trimD (l.take m)=trimD l) (fun x=>(intOf x).toNat)
 case atStart=>exact ⟨l.length,Nat.le_refl _,rfl,by rw [List.take_length]⟩
 case round =>
  obtain⟨m,hm,rfl,ht⟩:=hrel
  have Ht:=jX ht
  clear ht
  match m,hm,Ht with
  | 0,hm,Ht =>
   have hT:=jX (trimmed_of (c:=c) hm hlc Ht.out.symm hg Hc.out)
   go_wp2_with fail
   go_ret
   exact ⟨hT.out,rfl⟩
  | k+1,hm,Ht =>
   have hcell:=Hc.out k _ (ints_get l k (by omega))
   have hi:(((k+1:Nat):Int)-1).toNat=k:=by omega
   by_cases hz:l[k]=0
   ·have hstep:=trimD_take_zero l k (by omega) hz
    rw [hz] at hcell
    have Hstep:=jX (hstep.symm.trans Ht.out)
    clear hstep hz
    go_wp2_with fail
    go_round
    case rel=>exact ⟨k,by omega,congrArg (Value.int .i64) (by omega),Hstep.out⟩
    case measure=>simp [intOf]
   have hstep:=trimD_take_ne l k (by omega) hz
   have hT:=jX (trimmed_of (c:=c) hm hlc (Ht.out.symm.trans hstep) hg Hc.out)
   have hne:(((l[k]:Nat):Int) == 0)=false:=by rw [beq_eq_false_iff_ne];omega
   generalize l[k]=d at *
   clear hstep hz
   go_wp2_with fail
   go_ret
   exact ⟨hT.out,rfl⟩
def revB (s:ByteArray):List Nat:=s.data.toList.reverse.map UInt8.toNat
theorem revB_length (s:ByteArray):(revB s).length=s.size:=by simp [revB]
theorem val_rev:∀ l:List UInt8,val 256 (l.reverse.map UInt8.toNat)=natL l
 | []=>rfl
 | b :: l=>by
  rw [List.reverse_cons,List.map_append,List.map_singleton,val_snoc,val_rev l,natL_cons]
  rw [List.length_map,List.length_reverse,Nat.mul_comm (256 ^ l.length),Nat.add_comm]
theorem val_revB (s:ByteArray):val 256 (revB s)=natB s:=val_rev _
theorem revB_lt (s:ByteArray):∀ d∈revB s,d<256:=by
 intro d hd
 unfold revB at hd
 obtain⟨b,_,rfl⟩:=List.mem_map.1 hd
 exact b.toNat_lt
theorem revB_take (s:ByteArray) (k:Nat) (h:k<s.size):(revB s).take (k+1)=(revB s).take k++[(s[s.size-1-k]'(by omega)).toNat]:=by
 have hl:k<(revB s).length:=by rw [revB_length];exact h
 rw [List.take_add_one,List.getElem?_eq_getElem hl,Option.toList_some]
 congr 2
 simp only [revB,List.getElem_map]
 rw [List.getElem_reverse]
 congr 1
theorem trimmed_dr {w:World} {l:List Nat} {e:Ending} (h:Trimmed w l e) (hd:∀ d∈l,d<256):∃ v,e = .returned v∧DR w v (val 256 l):=by
 obtain⟨v,h1,h2,h3⟩:=h
 rw [trimD_digs (B:=256) (by decide) l hd] at h2
 exact ⟨v,h1,h2,h3⟩
def Digits (w0:World) (N:Nat) (e:Ending) (w':World):Prop:=∃ v,e = .returned v∧DR w' v N∧Keep [] w0 w'
theorem rdigits_s (n:Bool) (s:ByteArray) (hs:s.size≤1000000000000) (w:World) :
  Calls Tryz.prog 137 #[.agg #[.bool n,.string s]] w (Digits w (natB s)):=by
 obtain⟨i0,hi,hz0,hz1,hz2⟩:=info_parts2 infoInt
 have Hi:=jX (And.intro hi (And.intro hz0 (And.intro hz1 hz2)))
 clear hi hz0 hz1 hz2
 go_enter Tryz.func137,Tryz.ntmps137
 go_wp2_with fail
 obtain⟨W,ga,hW,ega,Bga,hga,hgW,HkW⟩:=al1h w (.cells #[.bool n,.string s] 26)
 rw [← hW]
 try rw [ega]
 clear hW ega
 obtain⟨pga,fga,lga⟩:=jQ Bga
 go_wp2_with fail
 go_loopw [3,4] (fun b i wr=>∃ k:Nat,k≤s.size∧i = .int .i64 ((s.size:Int)-1-(k:Int))∧∃ l,l=(revB s).take k∧OI W wr b l) (fun _ i _=>(intOf i+1).toNat)
 case atStart=>exact ⟨0,by omega,congrArg (Value.int .i64) (by omega),_,rfl,OI.nil _⟩
 case round =>
  obtain⟨k,hk,rfl,l,hl,hoi⟩:=hrel
  have Bga2:=jX (hoi.keep.heap Bga.out (by simp))
  have pga2:=cell_of Bga2.out
  have Hrow:=jX hoi
  have hll:l.length=k:=by rw [hl,List.length_take,revB_length];omega
  have hl9:l.length≤1000000000000:=by omega
  clear hll
  obtain⟨po,pc,rfl⟩:=hoi.form
  have Hl:=jX hl
  clear hl hoi
  by_cases hlt:k<s.size
  ·have hix:=fun w=>index_low w s k hlt
   have hrt:=revB_take s k hlt
   rw [← Hl.out] at hrt
   have Hrt:=jX hrt
   have hgw:=lt_of_heap Bga2.out
   have hd9:(s[s.size-1-k]'(by omega)).toNat≤255:=by have:=UInt8.toNat_lt (s[s.size-1-k]'(by omega));omega
   generalize (s[s.size-1-k]'(by omega)).toNat=d at *
   clear hrt
   go_wp2_with (at_builtin;refine wpList_append2 _ rfl _ _ 156 rfl 3 i0 _ 1 8 Tryz.underlying156 Hi.out.1 Hi.out.2.1 Hi.out.2.2.1 Hi.out.2.2.2 rfl (by decide) _ _ _ rfl (own_keep' Hrow.out.row (Keep.alloc [] _ _) (by simp)) ⟨wr.heap.size,0,none⟩ 1 1 [.int .i64 (d)] rfl rfl (one_news _ _ _) ?c2 (by decide) ?c3 ?c4 ?_)
   case c2=>first|(intro u hu;simp at hu;subst hu;rfl)|rfl
   case c3=>unfold maxLen;omega
   case c4=>omega
   intro g cap wa hoa hga hfa hda
   have Hn:=jX (Hrow.out.step hoa hga hfa hda)
   clear hoa hga hfa hda
   go_wp2_with fail
   go_roundw
   case rel=>exact ⟨k+1,by omega,congrArg (Value.int .i64) (by omega),_,Hrt.out.symm,Hn.out⟩
   case measure=>simp [intOf];omega
  obtain rfl:k=s.size:=by omega
  have hfull:l=revB s:=by rw [Hl.out,List.take_of_length_le (by rw [revB_length];omega)]
  have HT:=jX (rtrim_c wr _ l (by omega) Hrow.out.read Hrow.out.cap)
  have Hf:=jX hfull
  clear hfull
  go_wp2_with fail
  refine HT.out.mono ?_
  rintro e w2 ⟨ht,rfl⟩
  obtain⟨v,rfl,hdr⟩:=trimmed_dr ht (by rw [Hf.out];exact revB_lt s)
  rw [Hf.out,val_revB] at hdr
  have Hdr:=jX hdr
  clear ht hdr HT
  dsimp only
  go_wp2_with fail
  go_ret
  exact ⟨v,rfl,Hdr.out,HkW.out.trans0 Hrow.out.keep⟩
def Ln (N:Nat):Nat:=(digs 256 N).length
theorem Ln_le {N k:Nat}:Ln N≤k↔N<256 ^ k:=digs_length (by decide) N k
theorem Ln_lt (N:Nat):N<256 ^ Ln N:=Ln_le.1 (Nat.le_refl _)
theorem Ln_mono {M N:Nat} (h:M≤N):Ln M≤Ln N:=Ln_le.2 (Nat.lt_of_le_of_lt h (Ln_lt N))
theorem Ln_add (M N:Nat):Ln (M+N)≤max (Ln M) (Ln N)+1:=by
 rw [Ln_le,Nat.pow_succ]
 have h1:=Nat.lt_of_lt_of_le (Ln_lt M) (Nat.pow_le_pow_right (n:=256) (by decide) (Nat.le_max_left (Ln M) (Ln N)))
 have h2:=Nat.lt_of_lt_of_le (Ln_lt N) (Nat.pow_le_pow_right (n:=256) (by decide) (Nat.le_max_right (Ln M) (Ln N)))
 omega
theorem Ln_mul (M N:Nat):Ln (M*N)≤Ln M+Ln N:=by
 rw [Ln_le,Nat.pow_add]
 exact Nat.mul_lt_mul'' (Ln_lt M) (Ln_lt N)
theorem Ln_high {N i:Nat} (h:¬ i<Ln N):N / 256 ^ i % 256=0:=by
 rw [Nat.div_eq_of_lt (Nat.lt_of_lt_of_le (Ln_lt N) (Nat.pow_le_pow_right (by decide) (by omega)))]
theorem Ln_get (N i:Nat) (h:i<(digs 256 N).length):(digs 256 N)[i]=N / 256 ^ i % 256:=by
 have:=val_digit (B:=256) (by decide) (digs 256 N) i h (digs_lt (by decide) N)
 rw [val_digs (by decide)] at this
 exact this.symm
theorem DR.form {w:World} {v:Value} {N:Nat} (h:DR w v N):∃ ao c,v = .slice ao (Ln N) c∧Ln N≤c:=by
 obtain⟨ao,c,e⟩:=h.1.form
 rw [ints_length] at e
 exact ⟨ao,c,e,h.2 _ _ _ e⟩
theorem DR.cell {w:World} {ao:Option Addr} {n c N:Nat} (h:DR w (.slice ao n c) N) {i:Nat} (hi:i<Ln N):∃ g o,ao=some ⟨g,o,none⟩∧g<w.heap.size∧w.cell? ⟨g,o+i,none⟩=some (.int .i64 ((N / 256 ^ i % 256:Nat):Int)):=by
 have hl:i<(digs 256 N).length:=hi
 rcases h.1 with ⟨h1,h2⟩|⟨g,o,c',h1,hg,hc⟩
 ·have:(digs 256 N).length=0:=by rw [← ints_length,h2];rfl
  omega
 injection h1 with h1 _ _
 exact ⟨g,o,h1,hg,by have:=hc i _ (ints_get _ i hl);rwa [Ln_get] at this⟩
theorem dl_snocd (B k S:Nat):dl B (k+1) S=dl B k S++[S / B ^ k % B]:=by
 unfold dl
 rw [List.range_succ,List.map_append];rfl
theorem carry_none {A B n m i:Nat} (hA:A<256 ^ n) (hB:B<256 ^ m) (hi:max n m+1≤i):carryA 256 i A B=0:=by
 have h1:=Nat.lt_of_lt_of_le hA (Nat.pow_le_pow_right (n:=256) (by decide) (Nat.le_max_left n m))
 have h2:=Nat.lt_of_lt_of_le hB (Nat.pow_le_pow_right (n:=256) (by decide) (Nat.le_max_right n m))
 have h3:256 ^ (max n m+1)≤256 ^ i:=Nat.pow_le_pow_right (by decide) hi
 rw [Nat.pow_succ] at h3
 unfold carryA
 rw [Nat.mod_eq_of_lt (by omega),Nat.mod_eq_of_lt (by omega)]
 exact Nat.div_eq_of_lt (by omega)
theorem carry_done {A B n m i:Nat} (hA:A<256 ^ n) (hB:B<256 ^ m) (hn:n≤i) (hm:m≤i) (h:carryA 256 i A B=0):A+B<256 ^ i:=by
 have h1:=Nat.lt_of_lt_of_le hA (Nat.pow_le_pow_right (n:=256) (by decide) hn)
 have h2:=Nat.lt_of_lt_of_le hB (Nat.pow_le_pow_right (n:=256) (by decide) hm)
 unfold carryA at h
 rw [Nat.mod_eq_of_lt h1,Nat.mod_eq_of_lt h2] at h
 rcases Nat.lt_or_ge (A+B) (256 ^ i) with h3|h3
 ·exact h3
 have:=Nat.div_pos h3 (Nat.pow_pos (n:=i) (show 0<256 by decide))
 omega
theorem plus_c (w:World) (v1 v2:Value) (A B:Nat) (h1:DR w v1 A) (h2:DR w v2 B) (hA:Ln A≤1000000000) (hB:Ln B≤1000000000) :
  Calls Tryz.prog 180 #[v1,v2] w (Digits w (A+B)):=by
 obtain⟨i0,hi,hz0,hz1,hz2⟩:=info_parts2 infoInt
 have Hi:=jX (And.intro hi (And.intro hz0 (And.intro hz1 hz2)))
 clear hi hz0 hz1 hz2
 obtain⟨ao,ac,rfl,_⟩:=h1.form
 obtain⟨bo,bc,rfl,_⟩:=h2.form
 obtain⟨n,hn⟩:∃ n,Ln A=n:=⟨_,rfl⟩
 obtain⟨m,hm⟩:∃ m,Ln B=m:=⟨_,rfl⟩
 have Hca:Hid (∀ w',Keep [] w w'→∀ i,i<n→∃ g o,ao=some ⟨g,o,none⟩∧g<w'.heap.size∧w'.cell? ⟨g,o+i,none⟩=some (.int .i64 ((A / 256 ^ i % 256:Nat):Int))):=fun w' hk i hi=>(h1.later hk).cell (by omega)
 have Hcb:Hid (∀ w',Keep [] w w'→∀ i,i<m→∃ g o,bo=some ⟨g,o,none⟩∧g<w'.heap.size∧w'.cell? ⟨g,o+i,none⟩=some (.int .i64 ((B / 256 ^ i % 256:Nat):Int))):=fun w' hk i hi=>(h2.later hk).cell (by omega)
 have Hza:Hid (∀ i,¬ i<n→A / 256 ^ i % 256=0):=fun i h=>Ln_high (by omega)
 have Hzb:Hid (∀ i,¬ i<m→B / 256 ^ i % 256=0):=fun i h=>Ln_high (by omega)
 have HLa:Hid (A<256 ^ n):=by rw [← hn];exact Ln_lt A
 have HLb:Hid (B<256 ^ m):=by rw [← hm];exact Ln_lt B
 rw [hn] at hA ⊢
 rw [hm] at hB ⊢
 clear h1 h2 hn hm
 go_enter Tryz.func180,Tryz.ntmps180
 go_wp2_with fail
 go_loopw [5,6,7] (fun b c x wr=>∃ i:Nat,i≤max n m+1∧x = .int .i64 (i:Int)∧c = .int .i64 (carryA 256 i A B:Nat)∧∃ l,l=dl 256 i (A+B)∧OI w wr b l) (fun _ _ x _=>max n m+2-(intOf x).toNat)
 case atStart=>exact ⟨0,by omega,rfl,by rw [carryA_zero];rfl,_,rfl,OI.nil _⟩
 case round =>
  obtain⟨i,hi,rfl,rfl,l,hl,hoi⟩:=hrel
  have Hrow:=jX hoi
  have hl9:l.length≤1000000001:=by rw [hl,dl_length];omega
  obtain⟨po,pc,rfl⟩:=hoi.form
  have Hl:=jX hl
  clear hl hoi
  by_cases ha:i<n
  ·obtain⟨g1,o1,rfl,hg1,c1⟩:=Hca.out wr Hrow.out.keep i ha
   have him:i<max n m:=by omega
   have x9:=Nat.mod_lt (A / 256 ^ i) (show 0<256 by decide)
   have y9:=Nat.mod_lt (B / 256 ^ i) (show 0<256 by decide)
   have Hnext:=jX (carryA_succ (show 0<256 by decide) i A B)
   have hdg:=carryA_digit (show 0<256 by decide) i A B
   have hsn:=dl_snocd 256 i (A+B)
   rw [← hdg] at hsn
   have Hsn:=jX hsn
   have hc1:=carryA_le (show 0<256 by decide) i A B
   clear hdg hsn
   by_cases hb:i<m
   ·obtain⟨g2,o2,rfl,hg2,c2⟩:=Hcb.out wr Hrow.out.keep i hb
    generalize A / 256 ^ i % 256=x at *
    generalize B / 256 ^ i % 256=y at *
    generalize carryA 256 i A B=c at *
    obtain⟨d,hd⟩:∃ d,(c+x+y) % 256=d:=⟨_,rfl⟩
    rw [hd] at Hsn
    have hd2:((c:Int)+x+y) % 256=(d:Int):=by omega
    have hd9:d≤255:=by omega
    clear hd
    go_wp2_with (at_builtin;refine wpList_append2 _ rfl _ _ 156 rfl 3 i0 _ 1 8 Tryz.underlying156 Hi.out.1 Hi.out.2.1 Hi.out.2.2.1 Hi.out.2.2.2 rfl (by decide) _ _ _ rfl (own_keep' Hrow.out.row (Keep.alloc [] _ _) (by simp)) ⟨wr.heap.size,0,none⟩ 1 1 [.int .i64 (d)] rfl rfl (one_news _ _ _) ?c2 (by decide) ?c3 ?c4 ?_)
    case c2=>first|(intro u hu;simp at hu;subst hu;rfl)|rfl
    case c3=>unfold maxLen;omega
    case c4=>omega
    intro g cap wa hoa hga hfa hda
    have Hn:=jX (Hrow.out.step (d:=d) hoa hga hfa hda)
    clear hoa hga hfa hda
    go_wp2_with fail
    go_roundw
    case rel=>exact ⟨i+1,by omega,by go_num,by rw [← Hnext.out];exact congrArg (Value.int .i64) (by omega),l++[d],by rw [Hsn.out,← Hl.out],Hn.out⟩
    case measure=>simp [intOf];omega
   have hy0:=Hzb.out i hb
   rw [hy0] at Hnext Hsn
   generalize A / 256 ^ i % 256=x at *
   generalize carryA 256 i A B=c at *
   obtain⟨d,hd⟩:∃ d,(c+x+0) % 256=d:=⟨_,rfl⟩
   rw [hd] at Hsn
   have hd2:((c:Int)+x) % 256=(d:Int):=by omega
   have hd9:d≤255:=by omega
   clear hd hy0 y9
   go_wp2_with (at_builtin;refine wpList_append2 _ rfl _ _ 156 rfl 3 i0 _ 1 8 Tryz.underlying156 Hi.out.1 Hi.out.2.1 Hi.out.2.2.1 Hi.out.2.2.2 rfl (by decide) _ _ _ rfl (own_keep' Hrow.out.row (Keep.alloc [] _ _) (by simp)) ⟨wr.heap.size,0,none⟩ 1 1 [.int .i64 (d)] rfl rfl (one_news _ _ _) ?c2 (by decide) ?c3 ?c4 ?_)
   case c2=>first|(intro u hu;simp at hu;subst hu;rfl)|rfl
   case c3=>unfold maxLen;omega
   case c4=>omega
   intro g cap wa hoa hga hfa hda
   have Hn:=jX (Hrow.out.step (d:=d) hoa hga hfa hda)
   clear hoa hga hfa hda
   go_wp2_with fail
   go_roundw
   case rel=>exact ⟨i+1,by omega,by go_num,by rw [← Hnext.out];exact congrArg (Value.int .i64) (by omega),l++[d],by rw [Hsn.out,← Hl.out],Hn.out⟩
   case measure=>simp [intOf];omega
  have hx0:=Hza.out i ha
  have y9:=Nat.mod_lt (B / 256 ^ i) (show 0<256 by decide)
  by_cases hb:i<m
  ·obtain⟨g2,o2,rfl,hg2,c2⟩:=Hcb.out wr Hrow.out.keep i hb
   have him:i<max n m:=by omega
   have Hnext:=jX (carryA_succ (show 0<256 by decide) i A B)
   have hdg:=carryA_digit (show 0<256 by decide) i A B
   have hsn:=dl_snocd 256 i (A+B)
   rw [← hdg] at hsn
   have Hsn:=jX hsn
   have hc1:=carryA_le (show 0<256 by decide) i A B
   clear hdg hsn
   rw [hx0] at Hnext Hsn
   generalize B / 256 ^ i % 256=y at *
   generalize carryA 256 i A B=c at *
   obtain⟨d,hd⟩:∃ d,(c+0+y) % 256=d:=⟨_,rfl⟩
   rw [hd] at Hsn
   have hd2:((c:Int)+y) % 256=(d:Int):=by omega
   have hd9:d≤255:=by omega
   clear hd hx0
   go_wp2_with (at_builtin;refine wpList_append2 _ rfl _ _ 156 rfl 3 i0 _ 1 8 Tryz.underlying156 Hi.out.1 Hi.out.2.1 Hi.out.2.2.1 Hi.out.2.2.2 rfl (by decide) _ _ _ rfl (own_keep' Hrow.out.row (Keep.alloc [] _ _) (by simp)) ⟨wr.heap.size,0,none⟩ 1 1 [.int .i64 (d)] rfl rfl (one_news _ _ _) ?c2 (by decide) ?c3 ?c4 ?_)
   case c2=>first|(intro u hu;simp at hu;subst hu;rfl)|rfl
   case c3=>unfold maxLen;omega
   case c4=>omega
   intro g cap wa hoa hga hfa hda
   have Hn:=jX (Hrow.out.step (d:=d) hoa hga hfa hda)
   clear hoa hga hfa hda
   go_wp2_with fail
   go_roundw
   case rel=>exact ⟨i+1,by omega,by go_num,by rw [← Hnext.out];exact congrArg (Value.int .i64) (by omega),l++[d],by rw [Hsn.out,← Hl.out],Hn.out⟩
   case measure=>simp [intOf];omega
  have hy0:=Hzb.out i hb
  by_cases hc:carryA 256 i A B=0
  ·have hS:=carry_done HLa.out HLb.out (by omega) (by omega) hc
   have HT:=jX (rtrim_c wr _ l (by omega) Hrow.out.read Hrow.out.cap)
   have HS:=jX hS
   rw [hc]
   clear hS hx0 hy0 hc y9
   go_wp2_with fail
   refine HT.out.mono ?_
   rintro e w2 ⟨ht,rfl⟩
   obtain⟨v,rfl,hdr⟩:=trimmed_dr ht (by rw [Hl.out];exact dl_lt (by decide) _ _)
   rw [Hl.out,val_dl (by decide) _ _ HS.out] at hdr
   have Hdr:=jX hdr
   clear ht hdr HT
   dsimp only
   go_wp2_with fail
   go_ret
   exact ⟨v,rfl,Hdr.out,Hrow.out.keep⟩
  have him:i≤max n m:=by
   rcases Nat.lt_or_ge (max n m) i with h|h
   ·exact absurd (carry_none HLa.out HLb.out h) hc
   exact h
  have Hnext:=jX (carryA_succ (show 0<256 by decide) i A B)
  have hdg:=carryA_digit (show 0<256 by decide) i A B
  have hsn:=dl_snocd 256 i (A+B)
  rw [← hdg] at hsn
  have Hsn:=jX hsn
  have hc1:=carryA_le (show 0<256 by decide) i A B
  clear hdg hsn
  rw [hx0,hy0] at Hnext Hsn
  have hcp:0<carryA 256 i A B:=by omega
  generalize carryA 256 i A B=c at *
  obtain⟨d,hd⟩:∃ d,(c+0+0) % 256=d:=⟨_,rfl⟩
  rw [hd] at Hsn
  have hd2:(c:Int) % 256=(d:Int):=by omega
  have hd9:d≤255:=by omega
  clear hd hx0 hy0 y9 hc
  go_wp2_with (at_builtin;refine wpList_append2 _ rfl _ _ 156 rfl 3 i0 _ 1 8 Tryz.underlying156 Hi.out.1 Hi.out.2.1 Hi.out.2.2.1 Hi.out.2.2.2 rfl (by decide) _ _ _ rfl (own_keep' Hrow.out.row (Keep.alloc [] _ _) (by simp)) ⟨wr.heap.size,0,none⟩ 1 1 [.int .i64 (d)] rfl rfl (one_news _ _ _) ?c2 (by decide) ?c3 ?c4 ?_)
  case c2=>first|(intro u hu;simp at hu;subst hu;rfl)|rfl
  case c3=>unfold maxLen;omega
  case c4=>omega
  intro g cap wa hoa hga hfa hda
  have Hn:=jX (Hrow.out.step (d:=d) hoa hga hfa hda)
  clear hoa hga hfa hda
  go_wp2_with fail
  go_roundw
  case rel=>exact ⟨i+1,by omega,by go_num,by rw [← Hnext.out];exact congrArg (Value.int .i64) (by omega),l++[d],by rw [Hsn.out,← Hl.out],Hn.out⟩
  case measure=>simp [intOf];omega
end Go.Proofs.YtpgffjjpiafhpaaGreatDoor
