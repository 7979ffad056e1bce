/- Parts of a proof: Rz Sa Sc Sd. -/
import Derived.Deep.DeepCutAuto
import Derived.Deep.Cut
import Derived.Deep.CutRange
import Derived.Test.YtpgffjjpiafhpaaGreatDoorJ02
import Derived.Test.YtpgffjjpiafhpaaGreatDoorJ12
set_option linter.unusedVariables false
set_option linter.unusedSimpArgs false
set_option maxRecDepth 100000
set_option maxHeartbeats 8000000
namespace Go.Proofs.YtpgffjjpiafhpaaGreatDoor
open Go.RowKit Tryz
theorem yfC (n:Bool) (s:ByteArray) (hs:s.size≤1000000000000) (w:World) :
  Calls prog 137 #[.agg #[.bool n,.string s]] w (DigitsN w (natB s)):=by
 obtain⟨i0,hi,hz0,hz1,hz2⟩:=yaN infoInt;have Hi:=jX (And.intro hi (And.intro hz0 (And.intro hz1 hz2)));clear hi hz0 hz1 hz2;go_enter func137,ntmps137
 go_wp2_with fail;obtain⟨W,ga,hW,ega,Bga,hga,hgW,HkW⟩:=al1h w (.cells #[.bool n,.string s] 26);rw [← hW];try rw [ega]
 clear hW ega;obtain⟨pga,fga,lga⟩:=jQ Bga;go_wp2_with fail;go_loopw [3,4] (fun b i wr=>∃ k:Nat,k≤s.size∧i = .int .i64 ((s.size:Int)-1-(k:Int))∧∃ l,l=(revB s).take k∧OI W wr b l) (fun _ i _=>(intOf i+1).toNat)
 case atStart=>exact ⟨0,by omega,congrArg (Value.int .i64) (by omega),_,rfl,OI.nil _⟩
 case round =>
  obtain⟨k,hk,rfl,l,hl,hoi⟩:=hrel;have Bga2:=jX (hoi.keep.heap Bga.out (by simp));have pga2:=yab Bga2.out;have Hrow:=jX hoi;have hll:l.length=k:=by rw [hl,List.length_take,yce];omega
  have hl9:l.length≤1000000000000:=by omega
  clear hll;obtain⟨po,pc,rfl⟩:=hoi.form;have Hl:=jX hl;clear hl hoi;by_cases hlt:k<s.size
  ·have hix:=fun w=>yfj w s k hlt
   have hrt:=ygu s k hlt;rw [← Hl.out] at hrt;have Hrt:=jX hrt;have hgw:=yaa Bga2.out;have hd9:(s[s.size-1-k]'(by omega)).toNat≤255:=by have:=UInt8.toNat_lt (s[s.size-1-k]'(by omega));omega
   generalize (s[s.size-1-k]'(by omega)).toNat=d at *;clear hrt;go_wp2_with (at_builtin;refine yan _ rfl _ _ 156 rfl 3 i0 _ 1 8 underlying156 Hi.out.1 Hi.out.2.1 Hi.out.2.2.1 Hi.out.2.2.2 rfl (by decide) _ _ _ rfl (yat Hrow.out.row (Keep.alloc [] _ _) (by simp)) ⟨wr.heap.size,0,none⟩ 1 1 [.int .i64 (d)] rfl rfl (yaP _ _ _) ?c2 (by decide) ?c3 ?c4 ?_)
   case c2=>first|(intro u hu;simp at hu;subst hu;rfl)|rfl
   case c3=>unfold maxLen;omega
   case c4=>omega
   intro g cap wa hoa hga hfa hda;have Hn:=jX (Hrow.out.step hoa hga hfa hda);clear hoa hga hfa hda;go_wp2_with fail;go_roundw
   case rel=>exact ⟨k+1,by omega,congrArg (Value.int .i64) (by omega),_,Hrt.out.symm,Hn.out⟩
   case measure=>simp [intOf];omega
  obtain rfl:k=s.size:=by omega
  have hfull:l=revB s:=by rw [Hl.out,List.take_of_length_le (by rw [yce];omega)]
  have HT:=jX (yiw wr _ l (by omega) Hrow.out.read Hrow.out.cap);have Hf:=jX hfull;clear hfull;go_wp2_with fail;refine HT.out.mono ?_;rintro e w2 ⟨ht,rfl,hat⟩;obtain⟨v,rfl,hdr⟩:=ybk ht (by rw [Hf.out];exact revB_lt s);rw [Hf.out,yiD] at hdr;have Hdr:=jX hdr;have Hat:=jX (hat v rfl);clear ht hdr HT hat;dsimp only;go_wp2_with fail;go_ret
  exact ⟨v,rfl,Hdr.out,HkW.out.tz Hrow.out.keep,fun g hg=>Nat.le_trans HkW.out.size (Hrow.out.base g (by rw [← Hat.out];exact hg))⟩
theorem digs_one:digs 256 1=[1]:=by rw [ybz (by decide) (by decide)];simp [yaS]
theorem dr_one (w:World):DR (w.alloc (.cells #[.int .i64 1] 3)) (.slice (some ⟨w.heap.size,0,none⟩) 1 1) 1:=by
 refine ⟨?_,yhK (yeW w (.int .i64 1))⟩;rw [digs_one];exact RowR.of_own (yeW w (.int .i64 1))
def FracPost (w0:World) (q:Rat) (e:Ending) (w':World):Prop:=∃ v1 v2,e = .returned (.agg #[.bool (sgB q.num),v1,v2])∧DR w' v1 q.num.natAbs∧DR w' v2 q.den∧Keep [] w0 w'
theorem of_c (w:World) (q:Rat) (hn:(mgS q.num).size≤100000000) (hd:(dnS q.den).size≤100000000) :
  Calls prog 138 #[rv q] w (FracPost w q):=by
 have HN:Hid (∀ w',Calls prog 137 #[.agg #[.bool (sgB q.num),.string (mgS q.num)]] w' (DigitsN w' q.num.natAbs)):=fun w'=>by
  have:=yfC (sgB q.num) (mgS q.num) (by omega) w';rwa [yaK] at this
 have HD:Hid (∀ w',Calls prog 137 #[.agg #[.bool false,.string (dnS q.den)]] w' (DigitsN w' (natB (dnS q.den)))):=fun w'=>yfC false (dnS q.den) (by omega) w';by_cases h1:q.den=1
 ·have hdn:natB (dnS q.den)=0:=by rw [h1,ycM rfl];rfl
  rw [hdn] at HD;have hl0:((0:Int) == 0)=true:=rfl;unfold rv;have HQ:Hid (∀ v1 v2 w',DR w' v1 q.num.natAbs→DR w' v2 1→Keep [] w w'→FracPost w q (.returned (.agg #[.bool (sgB q.num),v1,v2])) w'):=fun v1 v2 w' a b c=>⟨v1,v2,rfl,a,by rw [h1];exact b,c⟩;generalize hP:FracPost w q=P at *;generalize sgB q.num=ng at *;generalize mgS q.num=sn at *;generalize dnS q.den=sd at *;generalize q.num.natAbs=A at *;generalize q.den=B at *;clear h1 hdn hn hd hP;go_enter func138,ntmps138
  go_wp2_with fail;obtain⟨W,ga,gb,hW,ega,egb,Bga,Bgb,hga,hgb,hgW,HkW⟩:=al2h w (.cells #[.bool ng,.string sn,.bool false,.string sd] 28) (.cells #[.bool false,.slice none 0 0,.slice none 0 0] 160);rw [← hW];try rw [egb]
  try rw [ega]
  clear hW ega egb;obtain⟨pga,fga,lga⟩:=jQ Bga;go_wp2_with fail;refine (HD.out _).mono ?_;rintro e w3 ⟨dv,rfl,hdd,hk_w3,hnd⟩;clear hnd;obtain⟨yo,yc,rfl,_⟩:=hdd.form;rw [Ln_zero];dsimp only;clear pga fga lga HD hdd;replace Bga:=jH hk_w3 Bga;replace Bgb:=jH hk_w3 Bgb;replace HkW:=jX (HkW.out.tz hk_w3);clear hk_w3;go_wp2_with fail;have Hdd:=jX (dr_one w3)
  have HND:Hid (∀ g,(Value.slice (some ⟨w3.heap.size,0,none⟩) 1 1).ownBlock=some g→g≠gb):=fun g hg=>by
   have:=yaa Bgb.out;simp [Value.ownBlock] at hg;omega
  have hk_w4:=Keep.alloc [] w3 (.cells #[.int .i64 1] 3);generalize w3.alloc (.cells #[.int .i64 1] 3)=w4 at *;generalize w3.heap.size=b3 at *;replace Bga:=jH hk_w4 Bga;replace Bgb:=jH hk_w4 Bgb;replace HkW:=jX (HkW.out.tz hk_w4);clear hk_w4
  have HSk:Hid (∀ W',Keep [] w4 W'→(W'.cell? ⟨ga,0,none⟩=some (.bool ng)∧W'.cell? ⟨ga,1,none⟩=some (.string sn))):=fun W' hk=>by
   have:=hk.heap Bga.out (by simp);exact ⟨by rw [yab this];rfl,by rw [yab this];rfl⟩
  refine yah (S:=fun W'=>W'.cell? ⟨ga,0,none⟩=some (.bool ng)∧W'.cell? ⟨ga,1,none⟩=some (.string sn)) 8 (by kernel_rfl) (by kernel_rfl) (fun _ _ d _ _ h=>by cases d<;>exact h) ?_;have hk0:=Keep.drew [] w4;have hS0:=HSk.out _ hk0;have hl0:=yaa (hk0.heap Bga.out (by simp));have hl1:=yaa (hk0.heap Bgb.out (by simp));generalize World.drew w4=u0 at *;refine sV (h1:=fun w hw=>by (have hw:=hw;go_simp;try rfl)) 0 hS0 ?_;go_simp;refine sV (h1:=fun w hw=>by (have hw:=hw;go_simp;try rfl)) 1 hS0 ?_;go_simp;refine sV (h1:=fun w hw=>by (have hw:=hw;go_simp;try rfl)) 2 hS0 ?_;go_simp;refine sV (h1:=fun w hw=>by (have hw:=hw;go_simp;try rfl)) 3 hS0 ?_;go_simp;refine sV (h1:=fun w hw=>by (have hw:=hw;go_simp;try rfl)) 4 hS0 ?_;go_simp;refine sV (h1:=fun w hw=>by (have hw:=hw;go_simp;try rfl)) 6 hS0 ?_;go_simp;refine jO 5 (fun K hK=>?_);refine yag 137 #[.agg #[.bool ng,.string sn]] (by go_simp) ?_;refine (HN.out _).mono ?_;rintro e u1 ⟨z1,rfl,hd1,hk1,hnz⟩;have HNZ:Hid (∀ g,z1.ownBlock=some g→g≠gb):=fun g hg=>by have:=hnz g hg;omega
  clear hnz;have hk2:=hk0.tz hk1;have hS0:=HSk.out _ hk2;have Hd1:=jX hd1;obtain⟨zo,zc,rfl,_⟩:=hd1.form;refine ⟨_,rfl,?_⟩;refine hK _ _ hS0 ?_;clear hK K;refine sV (h1:=fun w hw=>by (have hw:=hw;go_simp;try rfl)) 7 hS0 ?_;go_simp;refine ⟨by kernel_rfl,?_⟩;simp only [List.drop_succ_cons,List.drop_zero];have Hdd:=jX (Hdd.out.later hk2);clear hd1 hk0 hk1 HSk;replace Bga:=jH hk2 Bga;replace Bgb:=jH hk2 Bgb;replace HkW:=jX (HkW.out.tz hk2);clear hk2;obtain⟨pgb,fgb,lgb⟩:=jQ Bgb;go_wp2_with fail
  have hpst:∀ {v:Value} {N:Nat},DR u1 v N→(∀ g,v.ownBlock=some g→g≠gb)→DR (((u1.setCell ⟨gb,0,none⟩ (.bool ng)).setCell ⟨gb,1,none⟩ (.slice zo (Ln A) zc)).setCell ⟨gb,2,none⟩ (.slice (some ⟨b3,0,none⟩) 1 1)) v N:=fun h1 h2 =>
   ((h1.past (Keep.setCell _ _ _ _ _ (by simp)) h2).past (Keep.setCell _ _ _ _ _ (by simp)) h2).past (Keep.setCell _ _ _ _ _ (by simp)) h2
  refine bodyPost_ret (v:=.agg #[.bool ng,.slice zo (Ln A) zc,.slice (some ⟨b3,0,none⟩) 1 1]) ?_ rfl (HQ.out _ _ _ (hpst Hd1.out HNZ.out) (hpst Hdd.out HND.out) (by repeat (first|(with_reducible exact HkW.out)|(refine Keep.sP ?_ _ _ _ (by omega))|(refine Keep.aP ?_ _)|(refine Keep.dP ?_))));rw [yac rfl];go_simp
 have hdn:natB (dnS q.den)=q.den:=by rw [yel h1,yax]
 rw [hdn] at HD;have hLd:=Ln_pos q.den_pos;have hl0:((Ln q.den:Int) == 0)=false:=by rw [beq_eq_false_iff_ne];omega
 unfold rv;have HQ:Hid (∀ v1 v2 w',DR w' v1 q.num.natAbs→DR w' v2 q.den→Keep [] w w'→FracPost w q (.returned (.agg #[.bool (sgB q.num),v1,v2])) w'):=fun v1 v2 w' a b c=>⟨v1,v2,rfl,a,b,c⟩;generalize hP:FracPost w q=P at *;generalize sgB q.num=ng at *;generalize mgS q.num=sn at *;generalize dnS q.den=sd at *;generalize q.num.natAbs=A at *;generalize q.den=B at *;clear h1 hdn hn hd hP;go_enter func138,ntmps138
 go_wp2_with fail;obtain⟨W,ga,gb,hW,ega,egb,Bga,Bgb,hga,hgb,hgW,HkW⟩:=al2h w (.cells #[.bool ng,.string sn,.bool false,.string sd] 28) (.cells #[.bool false,.slice none 0 0,.slice none 0 0] 160);rw [← hW];try rw [egb]
 try rw [ega]
 clear hW ega egb;obtain⟨pga,fga,lga⟩:=jQ Bga;go_wp2_with fail;refine (HD.out _).mono ?_;rintro e w3 ⟨dv,rfl,hdd,hk_w3,hnd⟩;have HND:Hid (∀ g,dv.ownBlock=some g→g≠gb):=fun g hg=>by have:=hnd g hg;have:=yaa Bgb.out;omega
 clear hnd;have Hdd:=jX hdd;obtain⟨xo,xc,rfl,_⟩:=hdd.form;dsimp only;clear pga fga lga HD hdd;replace Bga:=jH hk_w3 Bga;replace Bgb:=jH hk_w3 Bgb;replace HkW:=jX (HkW.out.tz hk_w3);clear hk_w3;go_wp2_with fail
 have HSk:Hid (∀ W',Keep [] w3 W'→(W'.cell? ⟨ga,0,none⟩=some (.bool ng)∧W'.cell? ⟨ga,1,none⟩=some (.string sn))):=fun W' hk=>by
  have:=hk.heap Bga.out (by simp);exact ⟨by rw [yab this];rfl,by rw [yab this];rfl⟩
 refine yah (S:=fun W'=>W'.cell? ⟨ga,0,none⟩=some (.bool ng)∧W'.cell? ⟨ga,1,none⟩=some (.string sn)) 8 (by kernel_rfl) (by kernel_rfl) (fun _ _ d _ _ h=>by cases d<;>exact h) ?_;have hk0:=Keep.drew [] w3;have hS0:=HSk.out _ hk0;have hl0:=yaa (hk0.heap Bga.out (by simp));have hl1:=yaa (hk0.heap Bgb.out (by simp));generalize World.drew w3=u0 at *;refine sV (h1:=fun w hw=>by (have hw:=hw;go_simp;try rfl)) 0 hS0 ?_;go_simp;refine sV (h1:=fun w hw=>by (have hw:=hw;go_simp;try rfl)) 1 hS0 ?_;go_simp;refine sV (h1:=fun w hw=>by (have hw:=hw;go_simp;try rfl)) 2 hS0 ?_;go_simp;refine sV (h1:=fun w hw=>by (have hw:=hw;go_simp;try rfl)) 3 hS0 ?_;go_simp;refine sV (h1:=fun w hw=>by (have hw:=hw;go_simp;try rfl)) 4 hS0 ?_;go_simp;refine sV (h1:=fun w hw=>by (have hw:=hw;go_simp;try rfl)) 6 hS0 ?_;go_simp;refine jO 5 (fun K hK=>?_);refine yag 137 #[.agg #[.bool ng,.string sn]] (by go_simp) ?_;refine (HN.out _).mono ?_;rintro e u1 ⟨z1,rfl,hd1,hk1,hnz⟩;have HNZ:Hid (∀ g,z1.ownBlock=some g→g≠gb):=fun g hg=>by have:=hnz g hg;omega
 clear hnz;have hk2:=hk0.tz hk1;have hS0:=HSk.out _ hk2;have Hd1:=jX hd1;obtain⟨zo,zc,rfl,_⟩:=hd1.form;refine ⟨_,rfl,?_⟩;refine hK _ _ hS0 ?_;clear hK K;refine sV (h1:=fun w hw=>by (have hw:=hw;go_simp;try rfl)) 7 hS0 ?_;go_simp;refine ⟨by kernel_rfl,?_⟩;simp only [List.drop_succ_cons,List.drop_zero];have Hdd:=jX (Hdd.out.later hk2);clear hd1 hk0 hk1 HSk;replace Bga:=jH hk2 Bga;replace Bgb:=jH hk2 Bgb;replace HkW:=jX (HkW.out.tz hk2);clear hk2;obtain⟨pgb,fgb,lgb⟩:=jQ Bgb;go_wp2_with fail
 have hpst:∀ {v:Value} {N:Nat},DR u1 v N→(∀ g,v.ownBlock=some g→g≠gb)→DR (((u1.setCell ⟨gb,0,none⟩ (.bool ng)).setCell ⟨gb,1,none⟩ (.slice zo (Ln A) zc)).setCell ⟨gb,2,none⟩ (.slice (xo) (Ln B) xc)) v N:=fun h1 h2 =>
  ((h1.past (Keep.setCell _ _ _ _ _ (by simp)) h2).past (Keep.setCell _ _ _ _ _ (by simp)) h2).past (Keep.setCell _ _ _ _ _ (by simp)) h2
 refine bodyPost_ret (v:=.agg #[.bool ng,.slice zo (Ln A) zc,.slice (xo) (Ln B) xc]) ?_ rfl (HQ.out _ _ _ (hpst Hd1.out HNZ.out) (hpst Hdd.out HND.out) (by repeat (first|(with_reducible exact HkW.out)|(refine Keep.sP ?_ _ _ _ (by omega))|(refine Keep.aP ?_ _)|(refine Keep.dP ?_))));rw [yac rfl];go_simp
theorem ycY (a:Rat) (w:World):Calls prog 29 #[rv a] w fun e w'=>e = .returned (.int .i64 (zsgn a.num))∧Keep [] w w':=by
 unfold rv;by_cases h0:a.num=0
 ·have hm:mgS a.num=⟨#[]⟩:=ybn.2 h0
  have hz:zsgn a.num=0:=by rw [h0];rfl
  rw [hm,hz];generalize sgB a.num=na at *;generalize dnS a.den=da at *;clear h0 hm hz;go_enter func29,ntmps29
  go_wp2_with fail;obtain⟨W,ga,hW,ega,Bga,hga,hgW,HkW⟩:=al1h w (.cells #[.bool na,.string ⟨#[]⟩,.bool false,.string da] 28);rw [← hW];try rw [ega]
  clear hW ega;obtain⟨pga,fga,lga⟩:=jQ Bga;go_wp2_with fail;go_ret
  exact ⟨rfl,HkW.out⟩
 have hne:¬ mgS a.num=⟨#[]⟩:=fun h=>h0 (ybn.1 h)
 have hs:(mgS a.num).toList.isEmpty=false:=by
  rw [List.isEmpty_eq_false_iff];exact fun h=>hne (yds (by rw [h,Go.Lib.toList_data]))
 by_cases hn:a.num<0
 ·have hz:zsgn a.num = -1:=by unfold zsgn;rw [if_pos hn]
  have hb:sgB a.num=true:=by unfold sgB;simpa using hn
  rw [hz,hb];generalize mgS a.num=ma at *;generalize dnS a.den=da at *;clear h0 hn hz hb hne;go_enter func29,ntmps29
  go_wp2_with fail;obtain⟨W,ga,hW,ega,Bga,hga,hgW,HkW⟩:=al1h w (.cells #[.bool true,.string ma,.bool false,.string da] 28);rw [← hW];try rw [ega]
  clear hW ega;obtain⟨pga,fga,lga⟩:=jQ Bga;go_wp2_with fail;go_ret
  exact ⟨rfl,HkW.out⟩
 have hz:zsgn a.num=1:=by unfold zsgn;rw [if_neg hn,if_neg h0]
 have hb:sgB a.num=false:=by unfold sgB;simpa using hn
 rw [hz,hb];generalize mgS a.num=ma at *;generalize dnS a.den=da at *;clear h0 hn hz hb hne;go_enter func29,ntmps29
 go_wp2_with fail;obtain⟨W,ga,hW,ega,Bga,hga,hgW,HkW⟩:=al1h w (.cells #[.bool false,.string ma,.bool false,.string da] 28);rw [← hW];try rw [ega]
 clear hW ega;obtain⟨pga,fga,lga⟩:=jQ Bga;go_wp2_with fail;go_ret
 exact ⟨rfl,HkW.out⟩
theorem rneg_c (a:Rat) (w:World):Calls prog 144 #[rv a] w fun e w'=>e = .returned (rv (-a))∧Keep [] w w':=by
 unfold rv;rw [Rat.neg_num,Rat.neg_den];have hm:mgS (-a.num)=mgS a.num:=by unfold mgS;rw [Int.natAbs_neg]
 have hb:sgB (-a.num)=(!sgB a.num && !(mgS a.num).toList.isEmpty):=by
  by_cases h0:a.num=0
  ·rw [h0,ybn.2 rfl,Go.Lib.toList_data];rfl
  have hs:(mgS a.num).toList.isEmpty=false:=by
   rw [List.isEmpty_eq_false_iff];exact fun h=>h0 (ybn.1 (yds (by rw [h,Go.Lib.toList_data])))
  rw [hs];unfold sgB;by_cases h1:a.num<0
  ·simp [h1];omega
  simp [h1];omega
 rw [hm,hb];generalize sgB a.num=na at *;generalize mgS a.num=ma at *;generalize dnS a.den=da at *;generalize hie:ma.toList.isEmpty=ie at *;clear hm hb;cases na<;>cases ie
 all_goals
  go_enter func144,ntmps144
  go_wp2_with fail;have HkW:=jX (Keep.refl [] w);refine bodyPost_ret ?_ rfl ⟨rfl,by repeat (first|(with_reducible exact HkW.out)|(refine Keep.sP ?_ _ _ _ (by omega))|(refine Keep.aP ?_ _)|(refine Keep.dP ?_))⟩;rw [yac rfl];go_simp
section
variable {P:Program} {ops:Array Oper} {md:Region.Mode} {S:World→Prop} {Q:Exit→Act→World→Prop}
theorem ycJ {n f:Nat} {L:Array Bool→Act→World→Prop} {listed:Array Bool} {a:Act} {w:World} (i j k:Nat) {o u x:Oper} (hr:Region.ready md ops listed=[i,j,k]) (hi:i<n) (hj:j<n) (hk:k<n)
  (ho:ops[i]? = some o) (hu:ops[j]? = some u) (hx:ops[k]? = some x) (hg:o.guard=none) (hgu:u.guard=none) (hgx:x.guard=none)
  (h:∀ K:Act→World→Prop,(∀ a w,S w→yav P md ops Q S n L f (listed.setIfInBounds i true) a w→K a w)→o.wp P a w K Q)
  (h':∀ K:Act→World→Prop,(∀ a w,S w→yav P md ops Q S n L f (listed.setIfInBounds j true) a w→K a w)→u.wp P a w K Q)
  (h'':∀ K:Act→World→Prop,(∀ a w,S w→yav P md ops Q S n L f (listed.setIfInBounds k true) a w→K a w)→x.wp P a w K Q):yav P md ops Q S n L (f+1) listed a w:=by
 refine .inr ⟨by rw [hr];simp,fun l hl=>?_⟩;rw [hr] at hl;simp only [List.mem_cons,List.not_mem_nil,or_false] at hl;rcases hl with rfl|rfl|rfl
 ·refine ⟨hi,?_⟩
  unfold wpOp;simp only [ho];rw [if_pos (by simp [Region.wanted,hg])];exact .inl (h _ (fun _ _ h1 h2=>⟨h1,h2⟩))
 ·refine ⟨hj,?_⟩
  unfold wpOp;simp only [hu];rw [if_pos (by simp [Region.wanted,hgu])];exact .inl (h' _ (fun _ _ h1 h2=>⟨h1,h2⟩))
 refine ⟨hk,?_⟩;unfold wpOp;simp only [hx];rw [if_pos (by simp [Region.wanted,hgx])];exact .inl (h'' _ (fun _ _ h1 h2=>⟨h1,h2⟩))
end
def MSt (W u:World) (l:List (Value × Nat)) (bs:List (Nat × Obj)):Prop:=Keep [] W u∧(∀ p∈l,DR u p.1 p.2)∧(∀ b∈bs,u.heap[b.1]? = some b.2∧W.heap.size≤b.1)∧(bs.map (·.1)).Nodup
theorem MSt.start {W u:World} (h:Keep [] W u):MSt W u [] []:=⟨h,by simp,by simp,by simp⟩
theorem MSt.call {W u u':World} {l:List (Value × Nat)} {bs:List (Nat × Obj)} (h:MSt W u l bs) (hk:Keep [] u u') {v y:Value} {A B:Nat} (h1:DR u' v A) (h2:DR u' y B):MSt W u' ((v,A) :: (y,B) :: l) bs:=by
 obtain⟨a1,a2,a3,a4⟩:=h;refine ⟨a1.tz hk,?_,fun b hb=>⟨hk.heap (a3 b hb).1 (by simp),(a3 b hb).2⟩,a4⟩;intro p hp;rcases List.mem_cons.1 hp with rfl|hp
 ·exact h1
 rcases List.mem_cons.1 hp with rfl|hp
 ·exact h2
 exact (a2 p hp).later hk
theorem MSt.new {W u:World} {l:List (Value × Nat)} {bs:List (Nat × Obj)} (h:MSt W u l bs) (z:Obj):MSt W (u.alloc z) l ((u.heap.size,z) :: bs):=by
 obtain⟨a1,a2,a3,a4⟩:=h;have hk:=Keep.alloc [] u z;refine ⟨a1.tz hk,fun p hp=>(a2 p hp).later hk,?_,?_⟩
 ·intro b hb
  rcases List.mem_cons.1 hb with rfl|hb
  ·exact ⟨World.alloc_heap_new u z,a1.size⟩
  exact ⟨hk.heap (a3 b hb).1 (by simp),(a3 b hb).2⟩
 simp only [List.map_cons,List.nodup_cons];refine ⟨fun hm=>?_,a4⟩;obtain⟨x,hx,e⟩:=List.mem_map.1 hm;have:=yaa (a3 x hx).1;omega
theorem DR.aside {w w':World} {v:Value} {N g0:Nat} {cs:Array Value} {t:TypeId} (h:DR w v N) (hb:w.heap[g0]? = some (.cells cs t)) (hno:∀ (i:Nat) (k:IntKind) (z:Int),cs[i]? ≠ some (Value.int k z)) (hk:Keep [g0] w w'):DR w' v N:=by
 refine ⟨?_,h.2⟩;rcases h.1 with h1|⟨g,o,c,rfl,hg,hc⟩
 ·exact .inl h1
 refine .inr ⟨g,o,c,rfl,Nat.lt_of_lt_of_le hg hk.size,fun i u hi=>?_⟩
 have hne:g≠g0:=fun e=>by
  subst e;have h1:=hc i u hi;rw [yab hb] at h1;have hi':=hi;unfold ints at hi';rw [List.getElem?_map,Option.map_eq_some_iff] at hi';obtain⟨d,_,rfl⟩:=hi';exact hno _ _ _ h1
 exact (World.cell?_of_block (hk.block _ hg (by simpa using hne))).trans (hc i u hi)
theorem yhu {b:Bool} {x1 x2:Option Addr} {n m c d:Nat}:∀ (i:Nat) (k:IntKind) (z:Int),(#[Value.bool b,.slice x1 n c,.slice x2 m d]:Array Value)[i]? ≠ some (Value.int k z):=by
 intro i k z h
 match i,h with
 | 0,h=>simp at h
 | 1,h=>simp at h
 | 2,h=>simp at h
theorem MSt.new' {W u:World} {l:List (Value × Nat)} {bs:List (Nat × Obj)} (h:MSt W u l bs) (z:Obj):∃ (u2:World) (g:Nat),u.alloc z=u2∧u.heap.size=g∧MSt W u2 l ((g,z) :: bs):=⟨_,_,rfl,rfl,h.new z⟩
theorem st3 {w:World} {g:Nat} {a b c x y z:Value} {t:TypeId} (h:w.heap[g]? = some (.cells #[a,b,c] t (0,0))) :
  ∃ W,W=((w.setCell ⟨g,0,none⟩ x).setCell ⟨g,1,none⟩ y).setCell ⟨g,2,none⟩ z∧W.heap[g]? = some (.cells #[x,y,z] t (0,0))∧Keep [g] w W :=
 ⟨_,rfl,by rw [set_same (set_same (set_same h 0 x) 1 y) 2 z];rfl,((Keep.setCell [g] w g 0 x (by simp)).trans (Keep.setCell [g] _ g 1 y (by simp)) (by simp)).trans (Keep.setCell [g] _ g 2 z (by simp)) (by simp)⟩
theorem MSt.call1 {W u u':World} {l:List (Value × Nat)} {bs:List (Nat × Obj)} (h:MSt W u l bs) (hk:Keep [] u u') {v:Value} {A:Nat} (h1:DR u' v A):MSt W u' ((v,A) :: l) bs:=by
 obtain⟨a1,a2,a3,a4⟩:=h;refine ⟨a1.tz hk,?_,fun b hb=>⟨hk.heap (a3 b hb).1 (by simp),(a3 b hb).2⟩,a4⟩;intro p hp;rcases List.mem_cons.1 hp with rfl|hp
 ·exact h1
 exact (a2 p hp).later hk
theorem MSt.move {W u u':World} {l:List (Value × Nat)} {bs:List (Nat × Obj)} (h:MSt W u l bs) (hk:Keep [] u u'):MSt W u' l bs :=
 ⟨h.1.tz hk,fun p hp=>(h.2.1 p hp).later hk,fun b hb=>⟨hk.heap (h.2.2.1 b hb).1 (by simp),(h.2.2.1 b hb).2⟩,h.2.2.2⟩
theorem MSt.dr {W u:World} {l:List (Value × Nat)} {bs:List (Nat × Obj)} (h:MSt W u l bs) (v:Value) (N:Nat) (hm:(v,N)∈l):DR u v N:=h.2.1 _ hm
theorem MSt.blk {W u:World} {l:List (Value × Nat)} {bs:List (Nat × Obj)} (h:MSt W u l bs) (g:Nat) (z:Obj) (hm:(g,z)∈bs):u.heap[g]? = some z:=(h.2.2.1 _ hm).1
def TwoF (W:World) (a b:Rat) (pv qv:Value) (wx:World):Prop:=∃ (ea eb:Nat) (xo yo uo vo:Option Addr) (xn yn un vn xc yc uc vc:Nat),pv = .pointer (some ⟨ea,0,none⟩)∧qv = .pointer (some ⟨eb,0,none⟩) ∧
 MSt W wx [(.slice uo un uc,b.num.natAbs),(.slice vo vn vc,b.den),(.slice xo xn xc,a.num.natAbs),(.slice yo yn yc,a.den)] [(ea,.cells #[.bool (sgB a.num),.slice xo xn xc,.slice yo yn yc] 160),(eb,.cells #[.bool (sgB b.num),.slice uo un uc,.slice vo vn vc] 160)]
theorem twoF_of {W u:World} {a b:Rat} {g k:Nat} {xo yo uo vo:Option Addr} {xn yn un vn xc yc uc vc:Nat} {bs:List (Nat × Obj)}
  (h:MSt W u [(.slice uo un uc,b.num.natAbs),(.slice vo vn vc,b.den),(.slice xo xn xc,a.num.natAbs),(.slice yo yn yc,a.den)] bs) (hb:bs=[(g,.cells #[.bool false,.slice none 0 0,.slice none 0 0] 160),(k,.cells #[.bool false,.slice none 0 0,.slice none 0 0] 160)]∨bs=[(k,.cells #[.bool false,.slice none 0 0,.slice none 0 0] 160),(g,.cells #[.bool false,.slice none 0 0,.slice none 0 0] 160)]) :
  TwoF W a b (.pointer (some ⟨g,0,none⟩)) (.pointer (some ⟨k,0,none⟩)) ((((((u.setCell ⟨g,0,none⟩ (.bool (sgB a.num))).setCell ⟨g,1,none⟩ (.slice xo xn xc)).setCell ⟨g,2,none⟩ (.slice yo yn yc)).setCell ⟨k,0,none⟩ (.bool (sgB b.num))).setCell ⟨k,1,none⟩ (.slice uo un uc)).setCell ⟨k,2,none⟩ (.slice vo vn vc)):=by
 obtain⟨a1,a2,a3,a4⟩:=h;have hg:u.heap[g]? = some (.cells #[.bool false,.slice none 0 0,.slice none 0 0] 160)∧W.heap.size≤g:=a3 (g,_) (by rcases hb with rfl|rfl<;>simp);have hk:u.heap[k]? = some (.cells #[.bool false,.slice none 0 0,.slice none 0 0] 160)∧W.heap.size≤k:=a3 (k,_) (by rcases hb with rfl|rfl<;>simp);have hne:g≠k:=by rcases hb with rfl|rfl<;>simp at a4<;>omega
 have d1:=a2 (.slice xo xn xc,a.num.natAbs) (by simp);have d2:=a2 (.slice yo yn yc,a.den) (by simp);have d3:=a2 (.slice uo un uc,b.num.natAbs) (by simp);have d4:=a2 (.slice vo vn vc,b.den) (by simp);clear a2 a3 a4 hb;obtain⟨W1,e1,b1,k1⟩:=st3 (x:=.bool (sgB a.num)) (y:=.slice xo xn xc) (z:=.slice yo yn yc) hg.1;rw [← e1];have hk1:=k1.heap hk.1 (by simp;omega);obtain⟨W2,e2,b2,k2⟩:=st3 (x:=.bool (sgB b.num)) (y:=.slice uo un uc) (z:=.slice vo vn vc) hk1;rw [← e2];have mv:∀ {v:Value} {N:Nat},DR u v N→DR W2 v N:=fun h=>(h.aside hg.1 yhu k1).aside hk1 yhu k2;refine ⟨g,k,xo,yo,uo,vo,xn,yn,un,vn,xc,yc,uc,vc,rfl,rfl,(a1.trans k1 (by simp;omega)).trans k2 (by simp;omega),?_,?_,by simp;omega⟩
 ·intro p hp
  simp only [List.mem_cons,List.not_mem_nil,or_false] at hp;rcases hp with rfl|rfl|rfl|rfl
  ·exact mv d3
  ·exact mv d4
  ·exact mv d1
  exact mv d2
 intro p hp;simp only [List.mem_cons,List.not_mem_nil,or_false] at hp;rcases hp with rfl|rfl
 ·exact ⟨k2.heap b1 (by simp;omega),hg.2⟩
 exact ⟨b2,hk.2⟩
theorem mk_mul (x y:Int):mk (sgB x != sgB y) (x.natAbs*y.natAbs)=x*y:=by
 unfold mk sgB;have h1:(x.natAbs:Int)=if x<0 then -x else x:=by split<;>omega
 have h2:(y.natAbs:Int)=if y<0 then -y else y:=by split<;>omega
 by_cases hx:x<0<;>by_cases hy:y<0<;>simp [hx,hy,h1,h2,Int.natCast_mul,Int.neg_mul,Int.mul_neg]
theorem yjr (a b:Rat):Rat.divInt (a.num*b.num) ((a.den*b.den:Nat):Int)=a*b:=by
 rw [Int.natCast_mul,← Rat.divInt_mul_divInt,Rat.num_divInt_den,Rat.num_divInt_den]
theorem yiq {k:Nat} {z:Int} (h:Fit k z):Ln z.natAbs≤k:=Ln_le.2 (Fit_iff.1 h)
theorem yeJ {k:Nat} {q:Rat} (h:FitQ k q):Ln q.num.natAbs≤k∧Ln q.den≤k:=⟨yiq h.1,by have:=yiq h.2;simpa using this⟩
theorem ycu {k:Nat} {q:Rat} (h:FitQ k q):(mgS q.num).size≤k∧(dnS q.den).size≤k:=by
 refine ⟨h.1,?_⟩;unfold dnS;split
 ·exact Nat.zero_le _
 exact h.2
theorem yiO (a b:Rat) (ha:FitQ 20000000 a) (hb:FitQ 20000000 b) (w:World) :
  Calls prog 168 #[rv a,rv b] w fun e w'=>e = .returned (rv (a*b))∧Keep [] w w':=by
 have HA:Hid (∀ w',Calls prog 138 #[rv a] w' (FracPost w' a)):=fun w'=>of_c w' a (by have:=(ycu ha).1;omega) (by have:=(ycu ha).2;omega);have HB:Hid (∀ w',Calls prog 138 #[rv b] w' (FracPost w' b)):=fun w'=>of_c w' b (by have:=(ycu hb).1;omega) (by have:=(ycu hb).2;omega);have hla:=yeJ ha;have hlb:=yeJ hb;have HL1:Hid (Ln a.num.natAbs≤1000000000∧Ln b.num.natAbs≤1000000000∧Ln a.den≤1000000000∧Ln b.den≤1000000000):=⟨by omega,by omega,by omega,by omega⟩
 have HC:Hid (∀ w' v1 v2,DR w' v1 (a.num.natAbs*b.num.natAbs)→DR w' v2 (a.den*b.den)→Calls prog 142 #[.agg #[.bool (sgB a.num != sgB b.num),v1,v2]] w' fun e w''=>e = .returned (rv (a*b))∧Keep [] w' w''):=fun w' v1 v2 h1 h2=>by
  have:=ycm w' v1 v2 (sgB a.num != sgB b.num) _ _ h1 h2 (by have:=Ln_mul a.num.natAbs b.num.natAbs;omega) (by have:=Ln_mul a.den b.den;omega) (Nat.mul_pos a.den_pos b.den_pos);rwa [mk_mul,yjr] at this
 clear hla hlb ha hb
 have HTW:Hid (∀ {W u:World} (g k:Nat) {xo yo uo vo:Option Addr} {xn yn un vn xc yc uc vc:Nat} {bs:List (Nat × Obj)},
  MSt W u [(.slice uo un uc,b.num.natAbs),(.slice vo vn vc,b.den),(.slice xo xn xc,a.num.natAbs),(.slice yo yn yc,a.den)] bs→(bs=[(g,.cells #[.bool false,.slice none 0 0,.slice none 0 0] 160),(k,.cells #[.bool false,.slice none 0 0,.slice none 0 0] 160)]∨bs=[(k,.cells #[.bool false,.slice none 0 0,.slice none 0 0] 160),(g,.cells #[.bool false,.slice none 0 0,.slice none 0 0] 160)])→_):=fun g k _ _ _ _ _ _ _ _ _ _ _ _ bs h hb=>twoF_of (a:=a) (b:=b) (g:=g) (k:=k) h hb
 unfold rv at HA HB HC;unfold rv;unfold TwoF at HTW;unfold FracPost at HA HB;generalize sgB (a*b).num=nr at *;generalize mgS (a*b).num=sr at *;generalize dnS (a*b).den=dr at *;generalize sgB (a).num=na at *;generalize mgS (a).num=sa at *;generalize dnS (a).den=da at *;generalize sgB (b).num=nb at *;generalize mgS (b).num=sb at *;generalize dnS (b).den=db at *;generalize a.num.natAbs=Aa at *;generalize a.den=Da at *;generalize b.num.natAbs=Ab at *;generalize b.den=Db at *;go_enter func168,ntmps168
 go_upto_region 1 with (fail)
 obtain⟨W,ga,gb,gc,hW,ega,egb,egc,Bga,Bgb,Bgc,hga,hgb,hgc,hgW,HkW⟩:=al3h w (.cells #[.bool na,.string sa,.bool false,.string da] 28) (.cells #[.bool nb,.string sb,.bool false,.string db] 28) (.cells #[.bool false,.string ⟨#[]⟩,.bool false,.string ⟨#[]⟩] 28);rw [← hW];try rw [egc]
 try rw [egb]
 try rw [ega]
 clear hW ega egb egc;go_cut [5,6] (fun pv qv wx=>∃ (ea eb:Nat) (xo yo uo vo:Option Addr) (xn yn un vn xc yc uc vc:Nat),pv = .pointer (some ⟨ea,0,none⟩)∧qv = .pointer (some ⟨eb,0,none⟩)∧MSt W wx [(.slice uo un uc,Ab),(.slice vo vn vc,Db),(.slice xo xn xc,Aa),(.slice yo yn yc,Da)] [(ea,.cells #[.bool na,.slice xo xn xc,.slice yo yn yc] 160),(eb,.cells #[.bool nb,.slice uo un uc,.slice vo vn vc] 160)])
 case first =>
  refine yah (S:=fun u=>Keep [] W u) 6 (by kernel_rfl) (by kernel_rfl) (fun _ _ d _ _ h=>by cases d<;>exact h) ?_;have hS0:=Keep.drew [] W;have HM:=jX (MSt.start hS0);generalize World.drew W=u at *;have Bea:=Bga;have Beb:=Bgb;refine sV (h1:=fun w hw=>by (have pea:=yab (hw.heap Bea.out (by simp));have peb:=yab (hw.heap Beb.out (by simp));go_simp;try rfl)) 0 hS0 ?_;go_simp;refine sV (h1:=fun w hw=>by (have pea:=yab (hw.heap Bea.out (by simp));have peb:=yab (hw.heap Beb.out (by simp));go_simp;try rfl)) 2 hS0 ?_;go_simp;refine fO ?_;clear hS0 Bea Beb;refine ycJ 1 4 5 (by kernel_rfl) (by decide) (by decide) (by decide) (by rfl) (by rfl) (by rfl) (by rfl) (by rfl) (by rfl) (fun K hK=>?_) (fun K hK=>?_) (fun K hK=>?_)
  ·skip
   refine yag 138 #[.agg #[.bool na,.string sa,.bool false,.string da]] (by go_simp) ?_;refine (HA.out _).mono ?_;rintro e u ⟨z1,z2,rfl,hd1,hd2,hk1⟩;obtain⟨xo,xc,rfl,_⟩:=hd1.form;obtain⟨yo,yc,rfl,_⟩:=hd2.form;have HM:=jX (HM.out.call hk1 hd1 hd2);clear hd1 hd2 hk1;refine ⟨_,rfl,?_⟩;refine hK _ _ HM.out.1 ?_;clear hK K;refine ycJ 3 4 5 (by kernel_rfl) (by decide) (by decide) (by decide) (by rfl) (by rfl) (by rfl) (by rfl) (by rfl) (by rfl) (fun K hK=>?_) (fun K hK=>?_) (fun K hK=>?_)
   ·skip
    refine yag 138 #[.agg #[.bool nb,.string sb,.bool false,.string db]] (by go_simp) ?_;refine (HB.out _).mono ?_;rintro e u ⟨y1,y2,rfl,hd1,hd2,hk1⟩;obtain⟨uo,uc,rfl,_⟩:=hd1.form;obtain⟨vo,vc,rfl,_⟩:=hd2.form;have HM:=jX (HM.out.call hk1 hd1 hd2);clear hd1 hd2 hk1;refine ⟨_,rfl,?_⟩;refine hK _ _ HM.out.1 ?_;clear hK K;refine yak 4 5 (by kernel_rfl) (by decide) (by decide) (by rfl) (by rfl) (by rfl) (by rfl) (fun K hK=>?_) (fun K hK=>?_)
    ·skip
     obtain⟨u2,g,e1,e2,hm2⟩:=HM.out.new' (.cells #[.bool false,.slice none 0 0,.slice none 0 0] 160);go_simp;have HM:=jX hm2;clear e1 e2 hm2;refine hK _ _ HM.out.1 ?_;clear hK K;refine jO 5 (fun K hK=>?_);obtain⟨u2,k,e1,e2,hm2⟩:=HM.out.new' (.cells #[.bool false,.slice none 0 0,.slice none 0 0] 160);go_simp;have HM:=jX hm2;clear e1 e2 hm2;refine hK _ _ HM.out.1 ?_;clear hK K;refine ⟨by kernel_rfl,?_⟩;simp only [List.drop_succ_cons,List.drop_zero];have Bg:=jX (HM.out.2.2.1 (g,.cells #[.bool false,.slice none 0 0,.slice none 0 0] 160) (by simp)).1;have Bk:=jX (HM.out.2.2.1 (k,.cells #[.bool false,.slice none 0 0,.slice none 0 0] 160) (by simp)).1;have hgk:g≠k:=by have:=HM.out.2.2.2;simp at this;omega
     have HT:=jX (HTW.out g k HM.out (by first|exact .inl rfl|exact .inr rfl));clear HM;have pg:=yab Bg.out;have fg:=yae Bg.out;have lg:=yaa Bg.out;have pk:=yab Bk.out;have fk:=yae Bk.out;have lk:=yaa Bk.out;go_wp2_with fail;go_meet
     exact HT.out
    skip
    obtain⟨u2,k,e1,e2,hm2⟩:=HM.out.new' (.cells #[.bool false,.slice none 0 0,.slice none 0 0] 160);go_simp;have HM:=jX hm2;clear e1 e2 hm2;refine hK _ _ HM.out.1 ?_;clear hK K;refine jO 4 (fun K hK=>?_);obtain⟨u2,g,e1,e2,hm2⟩:=HM.out.new' (.cells #[.bool false,.slice none 0 0,.slice none 0 0] 160);go_simp;have HM:=jX hm2;clear e1 e2 hm2;refine hK _ _ HM.out.1 ?_;clear hK K;refine ⟨by kernel_rfl,?_⟩;simp only [List.drop_succ_cons,List.drop_zero];have Bg:=jX (HM.out.2.2.1 (g,.cells #[.bool false,.slice none 0 0,.slice none 0 0] 160) (by simp)).1;have Bk:=jX (HM.out.2.2.1 (k,.cells #[.bool false,.slice none 0 0,.slice none 0 0] 160) (by simp)).1;have hgk:g≠k:=by have:=HM.out.2.2.2;simp at this;omega
    have HT:=jX (HTW.out g k HM.out (by first|exact .inl rfl|exact .inr rfl));clear HM;have pg:=yab Bg.out;have fg:=yae Bg.out;have lg:=yaa Bg.out;have pk:=yab Bk.out;have fk:=yae Bk.out;have lk:=yaa Bk.out;go_wp2_with fail;go_meet
    exact HT.out
   ·skip
    obtain⟨u2,g,e1,e2,hm2⟩:=HM.out.new' (.cells #[.bool false,.slice none 0 0,.slice none 0 0] 160);go_simp;have HM:=jX hm2;clear e1 e2 hm2;refine hK _ _ HM.out.1 ?_;clear hK K;refine yak 3 5 (by kernel_rfl) (by decide) (by decide) (by rfl) (by rfl) (by rfl) (by rfl) (fun K hK=>?_) (fun K hK=>?_)
    ·skip
     refine yag 138 #[.agg #[.bool nb,.string sb,.bool false,.string db]] (by go_simp) ?_;refine (HB.out _).mono ?_;rintro e u ⟨y1,y2,rfl,hd1,hd2,hk1⟩;obtain⟨uo,uc,rfl,_⟩:=hd1.form;obtain⟨vo,vc,rfl,_⟩:=hd2.form;have HM:=jX (HM.out.call hk1 hd1 hd2);clear hd1 hd2 hk1;refine ⟨_,rfl,?_⟩;refine hK _ _ HM.out.1 ?_;clear hK K;refine jO 5 (fun K hK=>?_);obtain⟨u2,k,e1,e2,hm2⟩:=HM.out.new' (.cells #[.bool false,.slice none 0 0,.slice none 0 0] 160);go_simp;have HM:=jX hm2;clear e1 e2 hm2;refine hK _ _ HM.out.1 ?_;clear hK K;refine ⟨by kernel_rfl,?_⟩;simp only [List.drop_succ_cons,List.drop_zero];have Bg:=jX (HM.out.2.2.1 (g,.cells #[.bool false,.slice none 0 0,.slice none 0 0] 160) (by simp)).1;have Bk:=jX (HM.out.2.2.1 (k,.cells #[.bool false,.slice none 0 0,.slice none 0 0] 160) (by simp)).1;have hgk:g≠k:=by have:=HM.out.2.2.2;simp at this;omega
     have HT:=jX (HTW.out g k HM.out (by first|exact .inl rfl|exact .inr rfl));clear HM;have pg:=yab Bg.out;have fg:=yae Bg.out;have lg:=yaa Bg.out;have pk:=yab Bk.out;have fk:=yae Bk.out;have lk:=yaa Bk.out;go_wp2_with fail;go_meet
     exact HT.out
    skip
    obtain⟨u2,k,e1,e2,hm2⟩:=HM.out.new' (.cells #[.bool false,.slice none 0 0,.slice none 0 0] 160);go_simp;have HM:=jX hm2;clear e1 e2 hm2;refine hK _ _ HM.out.1 ?_;clear hK K;refine jO 3 (fun K hK=>?_);refine yag 138 #[.agg #[.bool nb,.string sb,.bool false,.string db]] (by go_simp) ?_;refine (HB.out _).mono ?_;rintro e u ⟨y1,y2,rfl,hd1,hd2,hk1⟩;obtain⟨uo,uc,rfl,_⟩:=hd1.form;obtain⟨vo,vc,rfl,_⟩:=hd2.form;have HM:=jX (HM.out.call hk1 hd1 hd2);clear hd1 hd2 hk1;refine ⟨_,rfl,?_⟩;refine hK _ _ HM.out.1 ?_;clear hK K;refine ⟨by kernel_rfl,?_⟩;simp only [List.drop_succ_cons,List.drop_zero];have Bg:=jX (HM.out.2.2.1 (g,.cells #[.bool false,.slice none 0 0,.slice none 0 0] 160) (by simp)).1;have Bk:=jX (HM.out.2.2.1 (k,.cells #[.bool false,.slice none 0 0,.slice none 0 0] 160) (by simp)).1;have hgk:g≠k:=by have:=HM.out.2.2.2;simp at this;omega
    have HT:=jX (HTW.out g k HM.out (by first|exact .inl rfl|exact .inr rfl));clear HM;have pg:=yab Bg.out;have fg:=yae Bg.out;have lg:=yaa Bg.out;have pk:=yab Bk.out;have fk:=yae Bk.out;have lk:=yaa Bk.out;go_wp2_with fail;go_meet
    exact HT.out
   skip
   obtain⟨u2,k,e1,e2,hm2⟩:=HM.out.new' (.cells #[.bool false,.slice none 0 0,.slice none 0 0] 160);go_simp;have HM:=jX hm2;clear e1 e2 hm2;refine hK _ _ HM.out.1 ?_;clear hK K;refine yak 3 4 (by kernel_rfl) (by decide) (by decide) (by rfl) (by rfl) (by rfl) (by rfl) (fun K hK=>?_) (fun K hK=>?_)
   ·skip
    refine yag 138 #[.agg #[.bool nb,.string sb,.bool false,.string db]] (by go_simp) ?_;refine (HB.out _).mono ?_;rintro e u ⟨y1,y2,rfl,hd1,hd2,hk1⟩;obtain⟨uo,uc,rfl,_⟩:=hd1.form;obtain⟨vo,vc,rfl,_⟩:=hd2.form;have HM:=jX (HM.out.call hk1 hd1 hd2);clear hd1 hd2 hk1;refine ⟨_,rfl,?_⟩;refine hK _ _ HM.out.1 ?_;clear hK K;refine jO 4 (fun K hK=>?_);obtain⟨u2,g,e1,e2,hm2⟩:=HM.out.new' (.cells #[.bool false,.slice none 0 0,.slice none 0 0] 160);go_simp;have HM:=jX hm2;clear e1 e2 hm2;refine hK _ _ HM.out.1 ?_;clear hK K;refine ⟨by kernel_rfl,?_⟩;simp only [List.drop_succ_cons,List.drop_zero];have Bg:=jX (HM.out.2.2.1 (g,.cells #[.bool false,.slice none 0 0,.slice none 0 0] 160) (by simp)).1;have Bk:=jX (HM.out.2.2.1 (k,.cells #[.bool false,.slice none 0 0,.slice none 0 0] 160) (by simp)).1;have hgk:g≠k:=by have:=HM.out.2.2.2;simp at this;omega
    have HT:=jX (HTW.out g k HM.out (by first|exact .inl rfl|exact .inr rfl));clear HM;have pg:=yab Bg.out;have fg:=yae Bg.out;have lg:=yaa Bg.out;have pk:=yab Bk.out;have fk:=yae Bk.out;have lk:=yaa Bk.out;go_wp2_with fail;go_meet
    exact HT.out
   skip
   obtain⟨u2,g,e1,e2,hm2⟩:=HM.out.new' (.cells #[.bool false,.slice none 0 0,.slice none 0 0] 160);go_simp;have HM:=jX hm2;clear e1 e2 hm2;refine hK _ _ HM.out.1 ?_;clear hK K;refine jO 3 (fun K hK=>?_);refine yag 138 #[.agg #[.bool nb,.string sb,.bool false,.string db]] (by go_simp) ?_;refine (HB.out _).mono ?_;rintro e u ⟨y1,y2,rfl,hd1,hd2,hk1⟩;obtain⟨uo,uc,rfl,_⟩:=hd1.form;obtain⟨vo,vc,rfl,_⟩:=hd2.form;have HM:=jX (HM.out.call hk1 hd1 hd2);clear hd1 hd2 hk1;refine ⟨_,rfl,?_⟩;refine hK _ _ HM.out.1 ?_;clear hK K;refine ⟨by kernel_rfl,?_⟩;simp only [List.drop_succ_cons,List.drop_zero];have Bg:=jX (HM.out.2.2.1 (g,.cells #[.bool false,.slice none 0 0,.slice none 0 0] 160) (by simp)).1;have Bk:=jX (HM.out.2.2.1 (k,.cells #[.bool false,.slice none 0 0,.slice none 0 0] 160) (by simp)).1;have hgk:g≠k:=by have:=HM.out.2.2.2;simp at this;omega
   have HT:=jX (HTW.out g k HM.out (by first|exact .inl rfl|exact .inr rfl));clear HM;have pg:=yab Bg.out;have fg:=yae Bg.out;have lg:=yaa Bg.out;have pk:=yab Bk.out;have fk:=yae Bk.out;have lk:=yaa Bk.out;go_wp2_with fail;go_meet
   exact HT.out
  ·skip
   obtain⟨u2,g,e1,e2,hm2⟩:=HM.out.new' (.cells #[.bool false,.slice none 0 0,.slice none 0 0] 160);go_simp;have HM:=jX hm2;clear e1 e2 hm2;refine hK _ _ HM.out.1 ?_;clear hK K;refine yak 1 5 (by kernel_rfl) (by decide) (by decide) (by rfl) (by rfl) (by rfl) (by rfl) (fun K hK=>?_) (fun K hK=>?_)
   ·skip
    refine yag 138 #[.agg #[.bool na,.string sa,.bool false,.string da]] (by go_simp) ?_;refine (HA.out _).mono ?_;rintro e u ⟨z1,z2,rfl,hd1,hd2,hk1⟩;obtain⟨xo,xc,rfl,_⟩:=hd1.form;obtain⟨yo,yc,rfl,_⟩:=hd2.form;have HM:=jX (HM.out.call hk1 hd1 hd2);clear hd1 hd2 hk1;refine ⟨_,rfl,?_⟩;refine hK _ _ HM.out.1 ?_;clear hK K;refine yak 3 5 (by kernel_rfl) (by decide) (by decide) (by rfl) (by rfl) (by rfl) (by rfl) (fun K hK=>?_) (fun K hK=>?_)
    ·skip
     refine yag 138 #[.agg #[.bool nb,.string sb,.bool false,.string db]] (by go_simp) ?_;refine (HB.out _).mono ?_;rintro e u ⟨y1,y2,rfl,hd1,hd2,hk1⟩;obtain⟨uo,uc,rfl,_⟩:=hd1.form;obtain⟨vo,vc,rfl,_⟩:=hd2.form;have HM:=jX (HM.out.call hk1 hd1 hd2);clear hd1 hd2 hk1;refine ⟨_,rfl,?_⟩;refine hK _ _ HM.out.1 ?_;clear hK K;refine jO 5 (fun K hK=>?_);obtain⟨u2,k,e1,e2,hm2⟩:=HM.out.new' (.cells #[.bool false,.slice none 0 0,.slice none 0 0] 160);go_simp;have HM:=jX hm2;clear e1 e2 hm2;refine hK _ _ HM.out.1 ?_;clear hK K;refine ⟨by kernel_rfl,?_⟩;simp only [List.drop_succ_cons,List.drop_zero];have Bg:=jX (HM.out.2.2.1 (g,.cells #[.bool false,.slice none 0 0,.slice none 0 0] 160) (by simp)).1;have Bk:=jX (HM.out.2.2.1 (k,.cells #[.bool false,.slice none 0 0,.slice none 0 0] 160) (by simp)).1;have hgk:g≠k:=by have:=HM.out.2.2.2;simp at this;omega
     have HT:=jX (HTW.out g k HM.out (by first|exact .inl rfl|exact .inr rfl));clear HM;have pg:=yab Bg.out;have fg:=yae Bg.out;have lg:=yaa Bg.out;have pk:=yab Bk.out;have fk:=yae Bk.out;have lk:=yaa Bk.out;go_wp2_with fail;go_meet
     exact HT.out
    skip
    obtain⟨u2,k,e1,e2,hm2⟩:=HM.out.new' (.cells #[.bool false,.slice none 0 0,.slice none 0 0] 160);go_simp;have HM:=jX hm2;clear e1 e2 hm2;refine hK _ _ HM.out.1 ?_;clear hK K;refine jO 3 (fun K hK=>?_);refine yag 138 #[.agg #[.bool nb,.string sb,.bool false,.string db]] (by go_simp) ?_;refine (HB.out _).mono ?_;rintro e u ⟨y1,y2,rfl,hd1,hd2,hk1⟩;obtain⟨uo,uc,rfl,_⟩:=hd1.form;obtain⟨vo,vc,rfl,_⟩:=hd2.form;have HM:=jX (HM.out.call hk1 hd1 hd2);clear hd1 hd2 hk1;refine ⟨_,rfl,?_⟩;refine hK _ _ HM.out.1 ?_;clear hK K;refine ⟨by kernel_rfl,?_⟩;simp only [List.drop_succ_cons,List.drop_zero];have Bg:=jX (HM.out.2.2.1 (g,.cells #[.bool false,.slice none 0 0,.slice none 0 0] 160) (by simp)).1;have Bk:=jX (HM.out.2.2.1 (k,.cells #[.bool false,.slice none 0 0,.slice none 0 0] 160) (by simp)).1;have hgk:g≠k:=by have:=HM.out.2.2.2;simp at this;omega
    have HT:=jX (HTW.out g k HM.out (by first|exact .inl rfl|exact .inr rfl));clear HM;have pg:=yab Bg.out;have fg:=yae Bg.out;have lg:=yaa Bg.out;have pk:=yab Bk.out;have fk:=yae Bk.out;have lk:=yaa Bk.out;go_wp2_with fail;go_meet
    exact HT.out
   skip
   obtain⟨u2,k,e1,e2,hm2⟩:=HM.out.new' (.cells #[.bool false,.slice none 0 0,.slice none 0 0] 160);go_simp;have HM:=jX hm2;clear e1 e2 hm2;refine hK _ _ HM.out.1 ?_;clear hK K;refine jO 1 (fun K hK=>?_);refine yag 138 #[.agg #[.bool na,.string sa,.bool false,.string da]] (by go_simp) ?_;refine (HA.out _).mono ?_;rintro e u ⟨z1,z2,rfl,hd1,hd2,hk1⟩;obtain⟨xo,xc,rfl,_⟩:=hd1.form;obtain⟨yo,yc,rfl,_⟩:=hd2.form;have HM:=jX (HM.out.call hk1 hd1 hd2);clear hd1 hd2 hk1;refine ⟨_,rfl,?_⟩;refine hK _ _ HM.out.1 ?_;clear hK K;refine jO 3 (fun K hK=>?_);refine yag 138 #[.agg #[.bool nb,.string sb,.bool false,.string db]] (by go_simp) ?_;refine (HB.out _).mono ?_;rintro e u ⟨y1,y2,rfl,hd1,hd2,hk1⟩;obtain⟨uo,uc,rfl,_⟩:=hd1.form;obtain⟨vo,vc,rfl,_⟩:=hd2.form;have HM:=jX (HM.out.call hk1 hd1 hd2);clear hd1 hd2 hk1;refine ⟨_,rfl,?_⟩;refine hK _ _ HM.out.1 ?_;clear hK K;refine ⟨by kernel_rfl,?_⟩;simp only [List.drop_succ_cons,List.drop_zero];have Bg:=jX (HM.out.2.2.1 (g,.cells #[.bool false,.slice none 0 0,.slice none 0 0] 160) (by simp)).1;have Bk:=jX (HM.out.2.2.1 (k,.cells #[.bool false,.slice none 0 0,.slice none 0 0] 160) (by simp)).1;have hgk:g≠k:=by have:=HM.out.2.2.2;simp at this;omega
   have HT:=jX (HTW.out g k HM.out (by first|exact .inl rfl|exact .inr rfl));clear HM;have pg:=yab Bg.out;have fg:=yae Bg.out;have lg:=yaa Bg.out;have pk:=yab Bk.out;have fk:=yae Bk.out;have lk:=yaa Bk.out;go_wp2_with fail;go_meet
   exact HT.out
  skip
  obtain⟨u2,k,e1,e2,hm2⟩:=HM.out.new' (.cells #[.bool false,.slice none 0 0,.slice none 0 0] 160);go_simp;have HM:=jX hm2;clear e1 e2 hm2;refine hK _ _ HM.out.1 ?_;clear hK K;refine yak 1 4 (by kernel_rfl) (by decide) (by decide) (by rfl) (by rfl) (by rfl) (by rfl) (fun K hK=>?_) (fun K hK=>?_)
  ·skip
   refine yag 138 #[.agg #[.bool na,.string sa,.bool false,.string da]] (by go_simp) ?_;refine (HA.out _).mono ?_;rintro e u ⟨z1,z2,rfl,hd1,hd2,hk1⟩;obtain⟨xo,xc,rfl,_⟩:=hd1.form;obtain⟨yo,yc,rfl,_⟩:=hd2.form;have HM:=jX (HM.out.call hk1 hd1 hd2);clear hd1 hd2 hk1;refine ⟨_,rfl,?_⟩;refine hK _ _ HM.out.1 ?_;clear hK K;refine yak 3 4 (by kernel_rfl) (by decide) (by decide) (by rfl) (by rfl) (by rfl) (by rfl) (fun K hK=>?_) (fun K hK=>?_)
   ·skip
    refine yag 138 #[.agg #[.bool nb,.string sb,.bool false,.string db]] (by go_simp) ?_;refine (HB.out _).mono ?_;rintro e u ⟨y1,y2,rfl,hd1,hd2,hk1⟩;obtain⟨uo,uc,rfl,_⟩:=hd1.form;obtain⟨vo,vc,rfl,_⟩:=hd2.form;have HM:=jX (HM.out.call hk1 hd1 hd2);clear hd1 hd2 hk1;refine ⟨_,rfl,?_⟩;refine hK _ _ HM.out.1 ?_;clear hK K;refine jO 4 (fun K hK=>?_);obtain⟨u2,g,e1,e2,hm2⟩:=HM.out.new' (.cells #[.bool false,.slice none 0 0,.slice none 0 0] 160);go_simp;have HM:=jX hm2;clear e1 e2 hm2;refine hK _ _ HM.out.1 ?_;clear hK K;refine ⟨by kernel_rfl,?_⟩;simp only [List.drop_succ_cons,List.drop_zero];have Bg:=jX (HM.out.2.2.1 (g,.cells #[.bool false,.slice none 0 0,.slice none 0 0] 160) (by simp)).1;have Bk:=jX (HM.out.2.2.1 (k,.cells #[.bool false,.slice none 0 0,.slice none 0 0] 160) (by simp)).1;have hgk:g≠k:=by have:=HM.out.2.2.2;simp at this;omega
    have HT:=jX (HTW.out g k HM.out (by first|exact .inl rfl|exact .inr rfl));clear HM;have pg:=yab Bg.out;have fg:=yae Bg.out;have lg:=yaa Bg.out;have pk:=yab Bk.out;have fk:=yae Bk.out;have lk:=yaa Bk.out;go_wp2_with fail;go_meet
    exact HT.out
   skip
   obtain⟨u2,g,e1,e2,hm2⟩:=HM.out.new' (.cells #[.bool false,.slice none 0 0,.slice none 0 0] 160);go_simp;have HM:=jX hm2;clear e1 e2 hm2;refine hK _ _ HM.out.1 ?_;clear hK K;refine jO 3 (fun K hK=>?_);refine yag 138 #[.agg #[.bool nb,.string sb,.bool false,.string db]] (by go_simp) ?_;refine (HB.out _).mono ?_;rintro e u ⟨y1,y2,rfl,hd1,hd2,hk1⟩;obtain⟨uo,uc,rfl,_⟩:=hd1.form;obtain⟨vo,vc,rfl,_⟩:=hd2.form;have HM:=jX (HM.out.call hk1 hd1 hd2);clear hd1 hd2 hk1;refine ⟨_,rfl,?_⟩;refine hK _ _ HM.out.1 ?_;clear hK K;refine ⟨by kernel_rfl,?_⟩;simp only [List.drop_succ_cons,List.drop_zero];have Bg:=jX (HM.out.2.2.1 (g,.cells #[.bool false,.slice none 0 0,.slice none 0 0] 160) (by simp)).1;have Bk:=jX (HM.out.2.2.1 (k,.cells #[.bool false,.slice none 0 0,.slice none 0 0] 160) (by simp)).1;have hgk:g≠k:=by have:=HM.out.2.2.2;simp at this;omega
   have HT:=jX (HTW.out g k HM.out (by first|exact .inl rfl|exact .inr rfl));clear HM;have pg:=yab Bg.out;have fg:=yae Bg.out;have lg:=yaa Bg.out;have pk:=yab Bk.out;have fk:=yae Bk.out;have lk:=yaa Bk.out;go_wp2_with fail;go_meet
   exact HT.out
  skip
  obtain⟨u2,g,e1,e2,hm2⟩:=HM.out.new' (.cells #[.bool false,.slice none 0 0,.slice none 0 0] 160);go_simp;have HM:=jX hm2;clear e1 e2 hm2;refine hK _ _ HM.out.1 ?_;clear hK K;refine jO 1 (fun K hK=>?_);refine yag 138 #[.agg #[.bool na,.string sa,.bool false,.string da]] (by go_simp) ?_;refine (HA.out _).mono ?_;rintro e u ⟨z1,z2,rfl,hd1,hd2,hk1⟩;obtain⟨xo,xc,rfl,_⟩:=hd1.form;obtain⟨yo,yc,rfl,_⟩:=hd2.form;have HM:=jX (HM.out.call hk1 hd1 hd2);clear hd1 hd2 hk1;refine ⟨_,rfl,?_⟩;refine hK _ _ HM.out.1 ?_;clear hK K;refine jO 3 (fun K hK=>?_);refine yag 138 #[.agg #[.bool nb,.string sb,.bool false,.string db]] (by go_simp) ?_;refine (HB.out _).mono ?_;rintro e u ⟨y1,y2,rfl,hd1,hd2,hk1⟩;obtain⟨uo,uc,rfl,_⟩:=hd1.form;obtain⟨vo,vc,rfl,_⟩:=hd2.form;have HM:=jX (HM.out.call hk1 hd1 hd2);clear hd1 hd2 hk1;refine ⟨_,rfl,?_⟩;refine hK _ _ HM.out.1 ?_;clear hK K;refine ⟨by kernel_rfl,?_⟩;simp only [List.drop_succ_cons,List.drop_zero];have Bg:=jX (HM.out.2.2.1 (g,.cells #[.bool false,.slice none 0 0,.slice none 0 0] 160) (by simp)).1;have Bk:=jX (HM.out.2.2.1 (k,.cells #[.bool false,.slice none 0 0,.slice none 0 0] 160) (by simp)).1;have hgk:g≠k:=by have:=HM.out.2.2.2;simp at this;omega
  have HT:=jX (HTW.out g k HM.out (by first|exact .inl rfl|exact .inr rfl));clear HM;have pg:=yab Bg.out;have fg:=yae Bg.out;have lg:=yaa Bg.out;have pk:=yab Bk.out;have fk:=yae Bk.out;have lk:=yaa Bk.out;go_wp2_with fail;go_meet
  exact HT.out
 case rest =>
  clear HA HB HTW;obtain⟨ea,eb,xo,yo,uo,vo,xn,yn,un,vn,xc,yc,uc,vc,rfl,rfl,hm⟩:=hcut;have HM:=jX hm;clear hm;have Bea:=jX (HM.out.blk ea (.cells #[.bool na,.slice xo xn xc,.slice yo yn yc] 160) (by simp));have Beb:=jX (HM.out.blk eb (.cells #[.bool nb,.slice uo un uc,.slice vo vn vc] 160) (by simp));go_wp2_with fail;refine yah (S:=fun u=>Keep [] wc u) 17 (by kernel_rfl) (by kernel_rfl) (fun _ _ d _ _ h=>by cases d<;>exact h) ?_;have hS0:=Keep.drew [] wc;have HM:=jX (HM.out.move hS0);generalize World.drew wc=u at *;refine sV (h1:=fun w hw=>by (have pea:=yab (hw.heap Bea.out (by simp));have peb:=yab (hw.heap Beb.out (by simp));go_simp;try rfl)) 0 hS0 ?_;go_simp;refine sV (h1:=fun w hw=>by (have pea:=yab (hw.heap Bea.out (by simp));have peb:=yab (hw.heap Beb.out (by simp));go_simp;try rfl)) 1 hS0 ?_;go_simp;refine sV (h1:=fun w hw=>by (have pea:=yab (hw.heap Bea.out (by simp));have peb:=yab (hw.heap Beb.out (by simp));go_simp;try rfl)) 2 hS0 ?_;go_simp;refine sV (h1:=fun w hw=>by (have pea:=yab (hw.heap Bea.out (by simp));have peb:=yab (hw.heap Beb.out (by simp));go_simp;try rfl)) 3 hS0 ?_;go_simp;refine sV (h1:=fun w hw=>by (have pea:=yab (hw.heap Bea.out (by simp));have peb:=yab (hw.heap Beb.out (by simp));go_simp;try rfl)) 4 hS0 ?_;go_simp;refine sV (h1:=fun w hw=>by (have pea:=yab (hw.heap Bea.out (by simp));have peb:=yab (hw.heap Beb.out (by simp));go_simp;try rfl)) 5 hS0 ?_;go_simp;refine sV (h1:=fun w hw=>by (have pea:=yab (hw.heap Bea.out (by simp));have peb:=yab (hw.heap Beb.out (by simp));go_simp;try rfl)) 6 hS0 ?_;go_simp;refine sV (h1:=fun w hw=>by (have pea:=yab (hw.heap Bea.out (by simp));have peb:=yab (hw.heap Beb.out (by simp));go_simp;try rfl)) 7 hS0 ?_;go_simp;refine sV (h1:=fun w hw=>by (have pea:=yab (hw.heap Bea.out (by simp));have peb:=yab (hw.heap Beb.out (by simp));go_simp;try rfl)) 8 hS0 ?_;go_simp;refine sV (h1:=fun w hw=>by (have pea:=yab (hw.heap Bea.out (by simp));have peb:=yab (hw.heap Beb.out (by simp));go_simp;try rfl)) 10 hS0 ?_;go_simp;refine sV (h1:=fun w hw=>by (have pea:=yab (hw.heap Bea.out (by simp));have peb:=yab (hw.heap Beb.out (by simp));go_simp;try rfl)) 11 hS0 ?_;go_simp;refine sV (h1:=fun w hw=>by (have pea:=yab (hw.heap Bea.out (by simp));have peb:=yab (hw.heap Beb.out (by simp));go_simp;try rfl)) 12 hS0 ?_;go_simp;refine sV (h1:=fun w hw=>by (have pea:=yab (hw.heap Bea.out (by simp));have peb:=yab (hw.heap Beb.out (by simp));go_simp;try rfl)) 13 hS0 ?_;go_simp;refine jO 9 (fun K hK=>?_);refine yag 141 #[.slice xo xn xc,.slice uo un uc] (by go_simp) ?_;refine (yca _ _ _ _ _ (HM.out.dr (.slice xo xn xc) Aa (by simp)) (HM.out.dr (.slice uo un uc) Ab (by simp)) HL1.out.1 HL1.out.2.1).mono ?_;rintro e u1 ⟨t,rfl,hd1,hk1⟩;obtain⟨tb,tc,rfl,_⟩:=hd1.form;have hS0:=hS0.tz hk1;have HM:=jX (HM.out.call1 hk1 hd1);refine ⟨_,rfl,?_⟩;refine hK _ _ hS0 ?_;clear hK K hk1 hd1;refine jO 14 (fun K hK=>?_);refine yag 141 #[.slice yo yn yc,.slice vo vn vc] (by go_simp) ?_;refine (yca _ _ _ _ _ (HM.out.dr (.slice yo yn yc) Da (by simp)) (HM.out.dr (.slice vo vn vc) Db (by simp)) HL1.out.2.2.1 HL1.out.2.2.2).mono ?_;rintro e u1 ⟨z,rfl,hd1,hk1⟩;obtain⟨zb,zc,rfl,_⟩:=hd1.form;have hS0:=hS0.tz hk1;have HM:=jX (HM.out.call1 hk1 hd1);refine ⟨_,rfl,?_⟩;refine hK _ _ hS0 ?_;clear hK K hk1 hd1;refine sV (h1:=fun w hw=>by (have pea:=yab (hw.heap Bea.out (by simp));have peb:=yab (hw.heap Beb.out (by simp));go_simp;try rfl)) 15 hS0 ?_;go_simp;refine jO 16 (fun K hK=>?_);refine yag 142 #[.agg #[.bool (!(na == nb)),.slice tb (Ln (Aa*Ab)) tc,.slice zb (Ln (Da*Db)) zc]] (by go_simp) ?_;refine (HC.out _ _ _ (HM.out.dr (.slice tb (Ln (Aa*Ab)) tc) _ (by simp)) (HM.out.dr (.slice zb (Ln (Da*Db)) zc) _ (by simp))).mono ?_;rintro e u1 ⟨rfl,hk1⟩;have hS0:=hS0.tz hk1;have HM:=jX (HM.out.move hk1);refine ⟨_,rfl,?_⟩;refine hK _ _ hS0 ?_;clear hK K hk1;refine ⟨by kernel_rfl,?_⟩;simp only [List.drop_succ_cons,List.drop_zero];have Hgc:=jX (HM.out.1.heap Bgc.out (by simp));have HkW:=jX (HkW.out.tz HM.out.1);have pgc:=yab Hgc.out;have fgc:=yae Hgc.out;have lgc:=yaa Hgc.out;go_wp2_with fail;refine bodyPost_ret (v:=.agg #[.bool nr,.string sr,.bool false,.string dr]) ?_ rfl ⟨rfl,by repeat (first|(with_reducible exact HkW.out)|(refine Keep.sP ?_ _ _ _ (by omega))|(refine Keep.aP ?_ _)|(refine Keep.dP ?_))⟩;rw [yac rfl];go_simp
end Go.Proofs.YtpgffjjpiafhpaaGreatDoor
