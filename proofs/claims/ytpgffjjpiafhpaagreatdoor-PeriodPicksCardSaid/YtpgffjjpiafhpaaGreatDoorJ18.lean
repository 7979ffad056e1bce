/- Parts of a proof: Sf Sg Si Sj. -/
import Derived.Test.YtpgffjjpiafhpaaGreatDoorJ14
import Derived.Test.YtpgffjjpiafhpaaGreatDoorJ17
import Derived.Test.YtpgffjjpiafhpaaGreatDoorJ02
set_option linter.unusedVariables false
set_option linter.unusedSimpArgs false
set_option maxRecDepth 100000
set_option maxHeartbeats 8000000
namespace Go.Proofs.YtpgffjjpiafhpaaGreatDoor
open Go.RowKit Tryz
theorem yif (a b:Rat) (ha:FitQ 20000000 a) (hb:FitQ 20000000 b) (w:World) :
  Calls prog 88 #[rv a,rv b] w fun e w'=>e = .returned (rv (a-b))∧Keep [] w w':=by
 have Hn:=jX (rneg_c b);have Hs:=jX (radd_c a (-b) ha hb.neg);rw [← Rat.sub_eq_add_neg] at Hs;unfold rv at *;generalize sgB (a-b).num=nr at *;generalize mgS (a-b).num=sr at *;generalize dnS (a-b).den=dr at *;generalize sgB (-b).num=nc at *;generalize mgS (-b).num=sc at *;generalize dnS (-b).den=dc at *;generalize sgB (a).num=na at *;generalize mgS (a).num=sa at *;generalize dnS (a).den=da at *;generalize sgB (b).num=nb at *;generalize mgS (b).num=sb at *;generalize dnS (b).den=db at *;clear ha hb;go_enter func88,ntmps88
 go_wp2_with fail;obtain⟨W,ga,gb,gc,hW,ega,egb,egc,Bga,Bgb,Bgc,hga,hgb,hgc,hgW,HkW⟩:=al3h w (.cells #[.bool na,.string sa,.bool false,.string da] 28) (.cells #[.bool nb,.string sb,.bool false,.string db] 28) (.cells #[.bool false,.string ⟨#[]⟩,.bool false,.string ⟨#[]⟩] 28);rw [← hW];try rw [egc]
 try rw [egb]
 try rw [ega]
 clear hW ega egb egc;have kga:=yaf Bga.out;have kgb:=yaf Bgb.out;have Q1:Hid (∀ m:KW W,Calls prog 144 #[.agg #[.bool nb,.string sb,.bool false,.string db]] (Wk W m) fun e w'=>e = .returned (.agg #[.bool nc,.string sc,.bool false,.string dc])∧∃ m,w'=Wk W m):=fun m=>qk m (Hn.out _);have Q2:Hid (∀ m:KW W,Calls prog 143 #[.agg #[.bool na,.string sa,.bool false,.string da],.agg #[.bool nc,.string sc,.bool false,.string dc]] (Wk W m) fun e w'=>e = .returned (.agg #[.bool nr,.string sr,.bool false,.string dr])∧∃ m,w'=Wk W m):=fun m=>qk m (Hs.out _);clear Hn Hs;refine yai 4 (by kernel_rfl) (by kernel_rfl) ?_;simp only [List.take_succ_cons,List.take_zero,List.drop_succ_cons,List.drop_zero]
 repeat (first
  | go_big_quiet_skip
  | (go_big_quiet_want;go_big_quiet_op;first|go_big_quiet_on|go_big_quiet_call (first
   | (go_at_call 144;with_reducible exact (Q1).out _)|(go_at_call 143;with_reducible exact (Q2).out _))))
 refine wpQuiet_nil ?_;rintro wz ⟨⟨_,hk_wz⟩,rfl⟩;clear kga kgb Q1 Q2;replace Bga:=jH hk_wz Bga;replace Bgb:=jH hk_wz Bgb;replace Bgc:=jH hk_wz Bgc;replace HkW:=jX (HkW.out.tz hk_wz);clear hk_wz;obtain⟨pgc,fgc,lgc⟩:=jQ Bgc;go_wp2_with fail;refine bodyPost_ret (v:=.agg #[.bool nr,.string sr,.bool false,.string dr]) ?_ rfl ⟨rfl,by repeat (first|(with_reducible exact HkW.out)|(refine Keep.sP ?_ _ _ _ (by omega))|(refine Keep.aP ?_ _)|(refine Keep.dP ?_))⟩;rw [yac rfl];go_simp
theorem ygB (a b:Rat) (ha:FitQ 20000000 a) (hb:FitQ 20000000 b) (w:World) :
  Calls prog 30 #[rv a,rv b] w fun e w'=>e = .returned (.int .i64 (sgn (a-b)))∧Keep [] w w':=by
 have Hs:=jX (yif a b ha hb);have Hg:=jX (ycY (a-b));rw [ydO] at Hg;generalize sgn (a-b)=c at *;unfold rv at *;generalize sgB (a-b).num=nr at *;generalize mgS (a-b).num=sr at *;generalize dnS (a-b).den=dr at *;generalize sgB (a).num=na at *;generalize mgS (a).num=sa at *;generalize dnS (a).den=da at *;generalize sgB (b).num=nb at *;generalize mgS (b).num=sb at *;generalize dnS (b).den=db at *;clear ha hb;go_enter func30,ntmps30
 go_wp2_with fail;obtain⟨W,ga,gb,hW,ega,egb,Bga,Bgb,hga,hgb,hgW,HkW⟩:=al2h w (.cells #[.bool na,.string sa,.bool false,.string da] 28) (.cells #[.bool nb,.string sb,.bool false,.string db] 28);rw [← hW];try rw [egb]
 try rw [ega]
 clear hW ega egb;obtain⟨pga,fga,lga⟩:=jQ Bga;obtain⟨pgb,fgb,lgb⟩:=jQ Bgb;go_wp2_with fail;refine (Hs.out _).mono ?_;rintro e w1 ⟨rfl,hk1⟩;dsimp only;clear pga fga lga pgb fgb lgb;replace Bga:=jH hk1 Bga;replace Bgb:=jH hk1 Bgb;replace HkW:=jX (HkW.out.tz hk1);clear hk1;go_wp2_with fail;refine (Hg.out _).mono ?_;rintro e w2 ⟨rfl,hk2⟩;dsimp only;replace Bga:=jH hk2 Bga;replace Bgb:=jH hk2 Bgb;replace HkW:=jX (HkW.out.tz hk2);clear hk2;go_wp2_with fail;go_ret
 exact ⟨rfl,by repeat (first|(with_reducible exact HkW.out)|(refine Keep.sP ?_ _ _ _ (by omega))|(refine Keep.aP ?_ _)|(refine Keep.dP ?_))⟩
theorem tmod_neg (k:Nat):(-(k:Int)).tmod 256 = -((k % 256:Nat):Int):=by rw [Int.neg_tmod];rfl
theorem tdiv_neg (k:Nat):(-(k:Int)).tdiv 256 = -((k / 256:Nat):Int):=by rw [Int.neg_tdiv];rfl
theorem yib (n:Int) (h1 : -9223372036854775808≤n) (h2:n≤9223372036854775807) (w:World) :
  Calls prog 133 #[.int .i64 n] w fun e w'=>e = .returned (zv n)∧Keep [] w w':=by
 obtain⟨i0,hi,hz0,hz1,hz2⟩:=yaN infoInt;have Hi:=jX (And.intro hi (And.intro hz0 (And.intro hz1 hz2)));clear hi hz0 hz1 hz2
 have hz:zv n = .agg #[.bool (decide (n<0)&&decide (0<n.natAbs)),.string (magS n.natAbs)]:=by
  unfold zv sgB mgS;by_cases h:n<0
  ·have:0<n.natAbs:=by omega
   simp [h,this]
  simp [h]
 have HWH:Hid (∀ w' v,DR w' v n.natAbs→Calls prog 177 #[v,.bool (decide (n<0))] w' fun e w''=>e = .returned (zv n)∧Keep [] w' w''):=fun w' v h=>by
  rw [hz];exact yeO w' v _ _ h (by have:Ln n.natAbs≤8:=Ln_le.2 (by omega);omega)
 clear hz;unfold zv at *;generalize sgB (n)=nr at *;generalize mgS (n)=sr at *;by_cases hn:n<0
 ·obtain⟨N,rfl⟩:∃ N:Nat,n = -(N:Int):=⟨n.natAbs,by omega⟩
  rw [show (-(N:Int)).natAbs=N by omega] at HWH
  have HN:Hid (0<N∧N≤9223372036854775808):=⟨by omega,by omega⟩;have hd:decide (-(N:Int)<0)=true:=by simpa using hn
  rw [hd] at HWH;clear hd;have hd:decide (0<N)=true:=by simp;omega
  clear h1 h2 hn;go_enter func133,ntmps133
  go_wp2_with fail;obtain⟨W,ga,hW,ega,Bga,hga,hgW,HkW⟩:=al1h w (.cells #[.bool false,.string ⟨#[]⟩] 26);rw [← hW];try rw [ega]
  clear hW ega;go_wp2_with fail;go_loopw [4,3] (fun x b wr=>∃ k:Nat,k≤N∧x = .int .i64 (-(k:Int))∧∃ l,l++digs 256 k=digs 256 N∧l.length≤1000000000∧OI W wr b l) (fun x _ _=>(intOf x).natAbs)
  case atStart=>exact ⟨N,Nat.le_refl _,rfl,[],rfl,by simp,OI.nil _⟩
  case round =>
   obtain⟨k,hk,rfl,l,hl,hl9,hoi⟩:=hrel;have Hrow:=jX hoi;obtain⟨po,pc,rfl⟩:=hoi.form;have Hl:=jX hl;clear hl hoi;by_cases hk0:k=0
   ·subst hk0
    have hfin:l=digs 256 N:=by have:=Hl.out;rwa [yaS,List.append_nil] at this
    have HR:Hid (DR wr (.slice po l.length pc) N):=by
     refine ⟨?_,Hrow.out.cap⟩;rw [← hfin];exact Hrow.out.read
    clear hfin hl9 hk;go_wp2_with fail;refine (HWH.out _ _ HR.out).mono ?_;rintro e w3 ⟨rfl,hk3⟩;dsimp only;have hk3:=Hrow.out.keep.tz hk3;replace Bga:=jH hk3 Bga;replace HkW:=jX (HkW.out.tz hk3);clear hk3;obtain⟨pga,fga,lga⟩:=jQ Bga;go_wp2_with fail;refine bodyPost_ret (v:=.agg #[.bool nr,.string sr]) ?_ rfl ⟨rfl,by repeat (first|(with_reducible exact HkW.out)|(refine Keep.sP ?_ _ _ _ (by omega))|(refine Keep.aP ?_ _)|(refine Keep.dP ?_))⟩;rw [yac rfl];go_simp
   have hkp:0<k:=by omega
   have hpos:=ybz (B:=256) (by decide) hkp
   have hl2:l.length<1000000000:=by
    have h1:l.length≤Ln N:=by
     have h2:(l++digs 256 k).length=(digs 256 N).length:=congrArg List.length Hl.out;rw [List.length_append] at h2;show _≤(digs 256 N).length
     omega
    have h3:Ln N≤8:=Ln_le.2 (by have:=HN.out.2;omega);omega
   have Hpos:=jX hpos;have hm:=tmod_neg k;have hdv:=tdiv_neg k;have hne:(-(k:Int) != 0)=true:=by simp;omega
   obtain⟨d,hd⟩:∃ d,k % 256=d:=⟨_,rfl⟩;rw [hd] at Hpos hm;have hd9:d≤255:=by omega
   have hk9:k≤9223372036854775808:=by have:=HN.out.2;omega
   clear hpos hd hl9;by_cases hd0:d=0
   ·subst hd0
    go_wp2_with (at_builtin;refine yan _ rfl _ _ 156 rfl 3 i0 _ 1 8 underlying156 Hi.out.1 Hi.out.2.1 Hi.out.2.2.1 Hi.out.2.2.2 rfl (by decide) _ _ _ rfl (yat Hrow.out.row (Keep.alloc [] _ _) (by simp)) ⟨wr.heap.size,0,none⟩ 1 1 [.int .i64 (0)] rfl rfl (yaP _ _ _) ?c2 (by decide) ?c3 ?c4 ?_)
    case c2=>first|(intro u hu;simp at hu;subst hu;rfl)|rfl
    case c3=>unfold maxLen;omega
    case c4=>omega
    intro g cap wa hoa hga hfa hda;have Hn:=jX (Hrow.out.step (d:=0) hoa hga hfa hda);clear hoa hga hfa hda;go_wp2_with fail;go_roundw
    case rel=>exact ⟨k / 256,by omega,rfl,l++[0],by rw [List.append_assoc,List.singleton_append,← Hpos.out];exact Hl.out,by rw [List.length_append];simp;omega,Hn.out⟩
    case measure=>simp [intOf];omega
   have hlt:decide (0<d)=true:=by simp;omega
   go_wp2_with (at_builtin;refine yan _ rfl _ _ 156 rfl 3 i0 _ 1 8 underlying156 Hi.out.1 Hi.out.2.1 Hi.out.2.2.1 Hi.out.2.2.2 rfl (by decide) _ _ _ rfl (yat Hrow.out.row (Keep.alloc [] _ _) (by simp)) ⟨wr.heap.size,0,none⟩ 1 1 [.int .i64 (d)] rfl rfl (yaP _ _ _) ?c2 (by decide) ?c3 ?c4 ?_)
   case c2=>first|(intro u hu;simp at hu;subst hu;rfl)|rfl
   case c3=>unfold maxLen;omega
   case c4=>omega
   intro g cap wa hoa hga hfa hda;have Hn:=jX (Hrow.out.step (d:=d) hoa hga hfa hda);clear hoa hga hfa hda;go_wp2_with fail;go_roundw
   case rel=>exact ⟨k / 256,by omega,rfl,l++[d],by rw [List.append_assoc,List.singleton_append,← Hpos.out];exact Hl.out,by rw [List.length_append];simp;omega,Hn.out⟩
   case measure=>simp [intOf];omega
 obtain⟨N,rfl⟩:∃ N:Nat,n=(N:Int):=⟨n.natAbs,by omega⟩;rw [show ((N:Int)).natAbs=N by omega] at HWH
 have HN:=jX (show N≤9223372036854775807 by omega)
 have hd:decide ((N:Int)<0)=false:=by simp
 rw [hd] at HWH;clear h1 h2 hn;go_enter func133,ntmps133
 go_wp2_with fail;obtain⟨W,ga,hW,ega,Bga,hga,hgW,HkW⟩:=al1h w (.cells #[.bool false,.string ⟨#[]⟩] 26);rw [← hW];try rw [ega]
 clear hW ega;go_wp2_with fail;go_loopw [4,3] (fun x b wr=>∃ k:Nat,k≤N∧x = .int .i64 (k:Int)∧∃ l,l++digs 256 k=digs 256 N∧l.length≤1000000000∧OI W wr b l) (fun x _ _=>(intOf x).natAbs)
 case atStart=>exact ⟨N,Nat.le_refl _,rfl,[],rfl,by simp,OI.nil _⟩
 case round =>
  obtain⟨k,hk,rfl,l,hl,hl9,hoi⟩:=hrel;have Hrow:=jX hoi;obtain⟨po,pc,rfl⟩:=hoi.form;have Hl:=jX hl;clear hl hoi;by_cases hk0:k=0
  ·subst hk0
   have hfin:l=digs 256 N:=by have:=Hl.out;rwa [yaS,List.append_nil] at this
   have HR:Hid (DR wr (.slice po l.length pc) N):=by
    refine ⟨?_,Hrow.out.cap⟩;rw [← hfin];exact Hrow.out.read
   clear hfin hl9 hk;go_wp2_with fail;refine (HWH.out _ _ HR.out).mono ?_;rintro e w3 ⟨rfl,hk3⟩;dsimp only;have hk3:=Hrow.out.keep.tz hk3;replace Bga:=jH hk3 Bga;replace HkW:=jX (HkW.out.tz hk3);clear hk3;obtain⟨pga,fga,lga⟩:=jQ Bga;go_wp2_with fail;refine bodyPost_ret (v:=.agg #[.bool nr,.string sr]) ?_ rfl ⟨rfl,by repeat (first|(with_reducible exact HkW.out)|(refine Keep.sP ?_ _ _ _ (by omega))|(refine Keep.aP ?_ _)|(refine Keep.dP ?_))⟩;rw [yac rfl];go_simp
  have hkp:0<k:=by omega
  have hpos:=ybz (B:=256) (by decide) hkp
  have hl2:l.length<1000000000:=by
   have h1:l.length≤Ln N:=by
    have h2:(l++digs 256 k).length=(digs 256 N).length:=congrArg List.length Hl.out;rw [List.length_append] at h2;show _≤(digs 256 N).length
    omega
   have h3:Ln N≤8:=Ln_le.2 (by have:=HN.out;omega);omega
  have Hpos:=jX hpos;obtain⟨d,hd⟩:∃ d,k % 256=d:=⟨_,rfl⟩;rw [hd] at Hpos;have hd2:(k:Int) % 256=(d:Int):=by omega
  have hd9:d≤255:=by omega
  have hk9:k≤9223372036854775807:=by have:=HN.out;omega
  clear hpos hd hl9;go_wp2_with (at_builtin;refine yan _ rfl _ _ 156 rfl 3 i0 _ 1 8 underlying156 Hi.out.1 Hi.out.2.1 Hi.out.2.2.1 Hi.out.2.2.2 rfl (by decide) _ _ _ rfl (yat Hrow.out.row (Keep.alloc [] _ _) (by simp)) ⟨wr.heap.size,0,none⟩ 1 1 [.int .i64 (d)] rfl rfl (yaP _ _ _) ?c2 (by decide) ?c3 ?c4 ?_)
  case c2=>first|(intro u hu;simp at hu;subst hu;rfl)|rfl
  case c3=>unfold maxLen;omega
  case c4=>omega
  intro g cap wa hoa hga hfa hda;have Hn:=jX (Hrow.out.step (d:=d) hoa hga hfa hda);clear hoa hga hfa hda;go_wp2_with fail;go_roundw
  case rel=>exact ⟨k / 256,by omega,congrArg (Value.int .i64) (by omega),l++[d],by rw [List.append_assoc,List.singleton_append,← Hpos.out];exact Hl.out,by rw [List.length_append];simp;omega,Hn.out⟩
  case measure=>simp [intOf];omega
theorem mk_self (a:Int):mk (sgB a) a.natAbs=a:=by
 unfold mk sgB;by_cases h:a<0<;>simp [h]<;>omega
theorem ygN (a b:Int):Rat.divInt (mk (sgB a != sgB b) a.natAbs) ((b.natAbs:Nat):Int)=Rat.divInt a b:=by
 by_cases hb:b<0
 ·have e:((b.natAbs:Nat):Int) = -b:=by omega
  rw [e]
  have e2:mk (sgB a != sgB b) a.natAbs = -a:=by
   unfold mk sgB;by_cases h:a<0<;>simp [h,hb]<;>omega
  rw [e2,Rat.neg_divInt_neg]
 have e:((b.natAbs:Nat):Int)=b:=by omega
 rw [e]
 have e2:mk (sgB a != sgB b) a.natAbs=a:=by
  unfold mk sgB;by_cases h:a<0<;>simp [h,hb]<;>omega
 rw [e2]
theorem rmake_c (a b:Int) (hb:b≠0) (ha9:Fit 100000000 a) (hb9:Fit 100000000 b) (w:World) :
  Calls prog 134 #[zv a,zv b] w fun e w'=>e = .returned (rv (Rat.divInt a b))∧Keep [] w w':=by
 have HA:Hid (∀ w',Calls prog 137 #[zv a] w' (Digits w' a.natAbs)):=fun w'=>by
  have:=yeZ (sgB a) (mgS a) (by have:(mgS a).size≤100000000:=ha9;omega) w';rwa [yaK] at this
 have HB:Hid (∀ w',Calls prog 137 #[zv b] w' (Digits w' b.natAbs)):=fun w'=>by
  have:=yeZ (sgB b) (mgS b) (by have:(mgS b).size≤100000000:=hb9;omega) w';rwa [yaK] at this
 have HC:Hid (∀ w' v1 v2,DR w' v1 a.natAbs→DR w' v2 b.natAbs→Calls prog 142 #[.agg #[.bool (sgB a != sgB b),v1,v2]] w' fun e w''=>e = .returned (rv (Rat.divInt a b))∧Keep [] w' w''):=fun w' v1 v2 h1 h2=>by
  have:=ycm w' v1 v2 (sgB a != sgB b) _ _ h1 h2 (yiq ha9) (yiq hb9) (by omega);rwa [ygN] at this
 clear ha9 hb9 hb;unfold rv at HC;unfold rv;unfold zv at *;generalize sgB (Rat.divInt a b).num=nr at *;generalize mgS (Rat.divInt a b).num=sr at *;generalize dnS (Rat.divInt a b).den=dr at *;generalize sgB (a)=na at *;generalize mgS (a)=sa at *;generalize sgB (b)=nb at *;generalize mgS (b)=sb at *;generalize a.natAbs=Aa at *;generalize b.natAbs=Ab at *;go_enter func134,ntmps134
 go_wp2_with fail;obtain⟨W,ga,gb,gc,hW,ega,egb,egc,Bga,Bgb,Bgc,hga,hgb,hgc,hgW,HkW⟩:=al3h w (.cells #[.bool na,.string sa] 26) (.cells #[.bool nb,.string sb] 26) (.cells #[.bool false,.string ⟨#[]⟩,.bool false,.string ⟨#[]⟩] 28);rw [← hW];try rw [egc]
 try rw [egb]
 try rw [ega]
 clear hW ega egb egc;refine yah (S:=fun u=>Keep [] W u) 11 (by kernel_rfl) (by kernel_rfl) (fun _ _ d _ _ h=>by cases d<;>exact h) ?_;have hS0:=Keep.drew [] W;have HM:=jX (MSt.start hS0);generalize World.drew W=u at *;have Bea:=Bga;have Beb:=Bgb;refine sV (h1:=fun w hw=>by (have pea:=yab (hw.heap Bea.out (by simp));have peb:=yab (hw.heap Beb.out (by simp));go_simp;try rfl)) 0 hS0 ?_;go_simp;refine sV (h1:=fun w hw=>by (have pea:=yab (hw.heap Bea.out (by simp));have peb:=yab (hw.heap Beb.out (by simp));go_simp;try rfl)) 1 hS0 ?_;go_simp;refine sV (h1:=fun w hw=>by (have pea:=yab (hw.heap Bea.out (by simp));have peb:=yab (hw.heap Beb.out (by simp));go_simp;try rfl)) 2 hS0 ?_;go_simp;refine sV (h1:=fun w hw=>by (have pea:=yab (hw.heap Bea.out (by simp));have peb:=yab (hw.heap Beb.out (by simp));go_simp;try rfl)) 3 hS0 ?_;go_simp;refine sV (h1:=fun w hw=>by (have pea:=yab (hw.heap Bea.out (by simp));have peb:=yab (hw.heap Beb.out (by simp));go_simp;try rfl)) 4 hS0 ?_;go_simp;refine sV (h1:=fun w hw=>by (have pea:=yab (hw.heap Bea.out (by simp));have peb:=yab (hw.heap Beb.out (by simp));go_simp;try rfl)) 5 hS0 ?_;go_simp;refine sV (h1:=fun w hw=>by (have pea:=yab (hw.heap Bea.out (by simp));have peb:=yab (hw.heap Beb.out (by simp));go_simp;try rfl)) 7 hS0 ?_;go_simp;refine jO 6 (fun K hK=>?_);refine yag 137 #[.agg #[.bool na,.string sa]] (by go_simp) ?_;refine (HA.out _).mono ?_;rintro e u1 ⟨r,rfl,hd1,hk1⟩;obtain⟨rb,rc,rfl,_⟩:=hd1.form;have hS0:=hS0.tz hk1;have HM:=jX (HM.out.call1 hk1 hd1);refine ⟨_,rfl,?_⟩;refine hK _ _ hS0 ?_;clear hK K hk1 hd1;refine jO 8 (fun K hK=>?_);refine yag 137 #[.agg #[.bool nb,.string sb]] (by go_simp) ?_;refine (HB.out _).mono ?_;rintro e u1 ⟨s,rfl,hd1,hk1⟩;obtain⟨tb,tc,rfl,_⟩:=hd1.form;have hS0:=hS0.tz hk1;have HM:=jX (HM.out.call1 hk1 hd1);refine ⟨_,rfl,?_⟩;refine hK _ _ hS0 ?_;clear hK K hk1 hd1;refine sV (h1:=fun w hw=>by (have pea:=yab (hw.heap Bea.out (by simp));have peb:=yab (hw.heap Beb.out (by simp));go_simp;try rfl)) 9 hS0 ?_;go_simp;refine jO 10 (fun K hK=>?_);refine yag 142 #[.agg #[.bool (!(na == nb)),.slice rb (Ln Aa) rc,.slice tb (Ln Ab) tc]] (by go_simp) ?_;refine (HC.out _ _ _ (HM.out.dr (.slice rb (Ln Aa) rc) _ (by simp)) (HM.out.dr (.slice tb (Ln Ab) tc) _ (by simp))).mono ?_;rintro e u1 ⟨rfl,hk1⟩;have hS0:=hS0.tz hk1;have HM:=jX (HM.out.move hk1);refine ⟨_,rfl,?_⟩;refine hK _ _ hS0 ?_;clear hK K hk1;refine ⟨by kernel_rfl,?_⟩;simp only [List.drop_succ_cons,List.drop_zero];have Hgc:=jX (HM.out.1.heap Bgc.out (by simp));have HkW:=jX (HkW.out.tz HM.out.1);have pgc:=yab Hgc.out;have fgc:=yae Hgc.out;have lgc:=yaa Hgc.out;go_wp2_with fail;refine bodyPost_ret (v:=.agg #[.bool nr,.string sr,.bool false,.string dr]) ?_ rfl ⟨rfl,by repeat (first|(with_reducible exact HkW.out)|(refine Keep.sP ?_ _ _ _ (by omega))|(refine Keep.aP ?_ _)|(refine Keep.dP ?_))⟩;rw [yac rfl];go_simp
theorem rof_c (a b:Int) (hb:b≠0) (a1 : -9223372036854775808≤a) (a2:a≤9223372036854775807) (b1 : -9223372036854775808≤b) (b2:b≤9223372036854775807) (w:World) :
  Calls prog 91 #[.int .i64 a,.int .i64 b] w fun e w'=>e = .returned (rv (Rat.divInt a b))∧Keep [] w w':=by
 have HA:=jX (yib a a1 a2);have HB:=jX (yib b b1 b2);have fa:Fit 8 a:=Fit_iff.2 (by omega);have fb:Fit 8 b:=Fit_iff.2 (by omega);have HC:=jX (rmake_c a b hb (fa.mono (by decide)) (fb.mono (by decide)));clear fa fb;clear hb a1 a2 b1 b2;unfold rv at HC;unfold rv;unfold zv at *;generalize sgB (Rat.divInt a b).num=nr at *;generalize mgS (Rat.divInt a b).num=sr at *;generalize dnS (Rat.divInt a b).den=dr at *;generalize sgB (a)=na at *;generalize mgS (a)=sa at *;generalize sgB (b)=nb at *;generalize mgS (b)=sb at *;go_enter func91,ntmps91
 go_wp2_with fail;obtain⟨W,ga,hW,ega,Bga,hga,hgW,HkW⟩:=al1h w (.cells #[.bool false,.string ⟨#[]⟩,.bool false,.string ⟨#[]⟩] 28);rw [← hW];try rw [ega]
 clear hW ega;go_wp2_with fail;refine (HA.out _).mono ?_;rintro e w1 ⟨rfl,hk1⟩;dsimp only;replace Bga:=jH hk1 Bga;replace HkW:=jX (HkW.out.tz hk1);clear hk1;go_wp2_with fail;refine (HB.out _).mono ?_;rintro e w2 ⟨rfl,hk2⟩;dsimp only;replace Bga:=jH hk2 Bga;replace HkW:=jX (HkW.out.tz hk2);clear hk2;go_wp2_with fail;refine (HC.out _).mono ?_;rintro e w3 ⟨rfl,hk3⟩;dsimp only;replace Bga:=jH hk3 Bga;replace HkW:=jX (HkW.out.tz hk3);clear hk3;obtain⟨pga,fga,lga⟩:=jQ Bga;go_wp2_with fail;refine bodyPost_ret (v:=.agg #[.bool nr,.string sr,.bool false,.string dr]) ?_ rfl ⟨rfl,by repeat (first|(with_reducible exact HkW.out)|(refine Keep.sP ?_ _ _ _ (by omega))|(refine Keep.aP ?_ _)|(refine Keep.dP ?_))⟩;rw [yac rfl];go_simp
theorem dr_dig (w:World) (d:Nat) (h0:0<d) (h:d<256):DR (w.alloc (.cells #[.int .i64 (d:Int)] 3)) (.slice (some ⟨w.heap.size,0,none⟩) 1 1) d:=by
 refine ⟨?_,yhK (yeW w (.int .i64 (d:Int)))⟩
 have e:digs 256 d=[d]:=by
  rw [ybz (by decide) h0,Nat.div_eq_of_lt h,yaS,Nat.mod_eq_of_lt h]
 rw [e];exact RowR.of_own (yeW w (.int .i64 (d:Int)))
theorem dr_empty (w:World) (z:Obj):DR (w.alloc z) (.slice (some ⟨w.heap.size,0,none⟩) 0 0) 0:=by
 refine ⟨.inr ⟨w.heap.size,0,0,by rw [yaS];rfl,by simp,fun i v h=>by rw [yaS] at h;simp [ints] at h⟩,fun a n c e=>by injection e with e1 e2 e3;omega⟩
theorem Ln_small {d:Nat} (h0:0<d) (h:d<256):Ln d=1:=by unfold Ln;rw [ybz (by decide) h0,Nat.div_eq_of_lt h,yaS];rfl
theorem Ln_succ (N:Nat):Ln (N+1)≤Ln N+1:=by
 have:=Ln_add N 1;have h:Ln 1=1:=by unfold Ln;rw [digs_one];rfl
 rcases Nat.eq_zero_or_pos N with h0|h0
 ·subst h0
  rw [Ln_zero];show Ln 1≤1
  omega
 have:=Ln_pos h0;omega
theorem MSt.lit {W u:World} {l:List (Value × Nat)} {bs:List (Nat × Obj)} (h:MSt W u l bs) (d:Nat) (h0:0<d) (h9:d<256) :
  ∃ (u2:World) (g:Nat),u.alloc (.cells #[.int .i64 (d:Int)] 3)=u2∧u.heap.size=g∧MSt W u2 ((.slice (some ⟨g,0,none⟩) 1 1,d) :: l) bs :=
 ⟨_,_,rfl,rfl,h.call1 (Keep.alloc [] u _) (dr_dig u d h0 h9)⟩
theorem MSt.nils {W u:World} {l:List (Value × Nat)} {bs:List (Nat × Obj)} (h:MSt W u l bs) :
  ∃ (u2:World) (g:Nat),u.alloc (.cells #[] 3)=u2∧u.heap.size=g∧u2.heap.size=g+1∧MSt W u2 ((.slice (some ⟨g,0,none⟩) 0 0,0) :: l) bs :=
 ⟨_,_,rfl,rfl,by simp,h.call1 (Keep.alloc [] u _) (dr_empty u _)⟩
theorem MSt.of3 {W u:World} {l:List (Value × Nat)} {bs:List (Nat × Obj)} (h:MSt W u l bs) {a b c:Value} {A B C:Nat} (ha:(a,A)∈l) (hb:(b,B)∈l) (hc:(c,C)∈l):MSt W u [(a,A),(b,B),(c,C)] []:=by
 refine ⟨h.1,fun p hp=>h.2.1 p ?_,by simp,by simp⟩;simp only [List.mem_cons,List.not_mem_nil,or_false] at hp;rcases hp with rfl|rfl|rfl
 ·exact ha
 ·exact hb
 exact hc
def RootPost (w0:World) (A:Nat) (e:Ending) (w':World):Prop:=∃ v R,e = .returned v∧R*R≤A∧A<(R+1)*(R+1)∧DR w' v R∧Keep [] w0 w'
theorem root_c (w:World) (av:Value) (A:Nat) (h1:DR w av A) (hA:Ln A≤10000000) :
  Calls prog 139 #[av] w (RootPost w A):=by
 have HM0:=jX ((MSt.start (Keep.refl [] w)).call1 (Keep.refl [] w) h1);obtain⟨ao,ac,rfl,_⟩:=h1.form;clear h1;have HA:=jX hA;go_enter func139,ntmps139
 go_wp2_with fail;obtain⟨u1,g1,e1,e2,e3,hm⟩:=HM0.out.nils;have HM:=jX hm;obtain⟨u2,g2,e4,e5,hm2⟩:=HM.out.lit 1 (by decide) (by decide);rw [e3] at e5;rw [e1,e2,show ((1:Int))=((1:Nat):Int) from rfl,e4,e5]
 have HM:=jX hm2;clear HM0 hm hm2 e1 e2 e3 e4 e5;refine (yfI _ _ _ _ _ (HM.out.dr (.slice ao (Ln A) ac) A (by simp)) (HM.out.dr (.slice (some ⟨g2,0,none⟩) 1 1) 1 (by simp)) (by omega) (by rw [Ln_small (by decide) (by decide)];decide)).mono ?_;rintro e u3 ⟨hv,rfl,hd1,hk1⟩;have HM:=jX ((HM.out.call1 hk1 hd1).of3 (a:=.slice ao (Ln A) ac) (b:=.slice (some ⟨g1,0,none⟩) 0 0) (c:=hv) (A:=A) (B:=0) (C:=A+1) (by simp) (by simp) (by simp));obtain⟨ho,hc,rfl,_⟩:=hd1.form;clear hk1 hd1 hA;dsimp only;go_wp2_with fail;go_loopw [3,4] (fun lo hi wr=>∃ L H:Nat,L<H∧L*L≤A∧A<H*H∧H≤A+1∧MSt w wr [(.slice ao (Ln A) ac,A),(lo,L),(hi,H)] []) (fun lo hi wr=>ydl wr hi-ydl wr lo)
 case atStart=>exact ⟨0,A+1,by omega,by omega,by rw [Nat.mul_add];omega,by omega,HM.out⟩
 case round =>
  clear HM;obtain⟨L,H,hLH,hL,hH,hHA,hm⟩:=hrel;have HM:=jX hm;have hdl:DR wr _ L:=hm.2.1 _ (List.mem_cons_of_mem _ List.mem_cons_self);have hdh:DR wr _ H:=hm.2.1 _ (List.mem_cons_of_mem _ (List.mem_cons_of_mem _ List.mem_cons_self));have Hml:=jX (yco hdl);have Hmh:=jX (yco hdh);obtain⟨lo,lc,rfl,_⟩:=hdl.form;obtain⟨xo,xc,rfl,_⟩:=hdh.form;clear hdl hdh hm;have hsA:=Ln_succ A;have hlH:Ln H≤10000001:=by have:=Ln_mono hHA;have:=HA.out;omega
  have hlL:Ln L≤10000001:=by have:=Ln_mono (Nat.le_of_lt hLH);omega
  have hlL1:Ln (L+1)≤10000002:=by have:=Ln_succ L;omega
  have hl1:Ln 1≤1000000000:=by rw [Ln_small (by decide) (by decide)];decide
  have HL:=jX (And.intro hlH (And.intro hlL (And.intro hlL1 hl1)));have HI:=jX (And.intro hLH (And.intro hL (And.intro hH hHA)));clear hsA hlH hlL hlL1 hl1 hLH hL hH hHA;obtain⟨u1,g1,e1,e2,hm⟩:=HM.out.lit 1 (by decide) (by decide);rw [show ((1:Nat):Int)=1 from rfl] at e1
  have HM1:=jX hm;clear hm;go_wp2_with fail;refine (yfI _ _ _ _ _ (HM1.out.dr (.slice lo (Ln L) lc) L (by simp)) (HM1.out.dr (.slice (some ⟨g1,0,none⟩) 1 1) 1 (by simp)) (by have:=HL.out.2.1;omega) HL.out.2.2.2).mono ?_;rintro e u2 ⟨sv,rfl,hd1,hk1⟩;have HM2:=jX (HM1.out.call1 hk1 hd1);obtain⟨so,sc,rfl,_⟩:=hd1.form;clear hk1 hd1 HM1 e1 e2;dsimp only;have HCM:=fun w' h1 h2=>yaQ w' (.slice so (Ln (L+1)) sc) (.slice xo (Ln H) xc) (L+1) H h1 h2 (by have:=HL.out.2.2.1;omega) (by have:=HL.out.1;omega);by_cases hend:H≤L+1
  ·have hcm:decide (Lib.compareInt ((L+1:Nat):Int) ((H:Nat):Int)<0)=false:=by unfold Lib.compareInt;simp only [decide_eq_false_iff_not];split<;>(try split)<;>omega
   have Hend:=jX hend;generalize Lib.compareInt ((L+1:Nat):Int) ((H:Nat):Int)=cm at *;clear hend;go_wp2_with fail;refine (HCM _ (HM2.out.dr (.slice so (Ln (L+1)) sc) (L+1) (by simp)) (HM2.out.dr (.slice xo (Ln H) xc) H (by simp))).mono ?_;rintro e u3 ⟨rfl,hk1⟩;dsimp only;have HM3:=jX (HM2.out.move hk1);clear hk1 HCM HM2;go_wp2_with fail;go_ret
   have hHL:H=L+1:=by have:=HI.out.1;have:=Hend.out;omega
   exact ⟨_,L,rfl,HI.out.2.1,by rw [← hHL];exact HI.out.2.2.1,HM3.out.dr (.slice lo (Ln L) lc) L (by simp),HM3.out.1⟩
  have hcm:decide (Lib.compareInt ((L+1:Nat):Int) ((H:Nat):Int)<0)=true:=by unfold Lib.compareInt;simp only [decide_eq_true_eq];split<;>(try split)<;>omega
  have Hend:=jX hend;generalize Lib.compareInt ((L+1:Nat):Int) ((H:Nat):Int)=cm at *;clear hend;go_wp2_with fail;refine (HCM _ (HM2.out.dr (.slice so (Ln (L+1)) sc) (L+1) (by simp)) (HM2.out.dr (.slice xo (Ln H) xc) H (by simp))).mono ?_;rintro e u3 ⟨rfl,hk1⟩;dsimp only;have HM3:=jX ((HM2.out.move hk1).of3 (a:=.slice ao (Ln A) ac) (b:=.slice lo (Ln L) lc) (c:=.slice xo (Ln H) xc) (A:=A) (B:=L) (C:=H) (by simp) (by simp) (by simp));clear hk1 HCM HM2;go_wp2_with fail;refine (yfI _ _ _ _ _ (HM3.out.dr (.slice lo (Ln L) lc) L (by simp)) (HM3.out.dr (.slice xo (Ln H) xc) H (by simp)) (by have:=HL.out.2.1;omega) (by have:=HL.out.1;omega)).mono ?_;rintro e u4 ⟨pv,rfl,hd1,hk1⟩;have HM4:=jX (HM3.out.call1 hk1 hd1);obtain⟨po,pc,rfl,_⟩:=hd1.form;clear hk1 hd1 HM3;obtain⟨u5,g3,e1,e2,hm⟩:=HM4.out.lit 2 (by decide) (by decide);rw [show ((2:Nat):Int)=2 from rfl] at e1
  have HM5:=jX hm;clear hm HM4;dsimp only;go_wp2_with fail;refine (yeD _ _ _ _ _ (HM5.out.dr (.slice po (Ln (L+H)) pc) (L+H) (by simp)) (HM5.out.dr (.slice (some ⟨g3,0,none⟩) 1 1) 2 (by simp)) (by have:=Ln_add L H;have:=HL.out.1;have:=HL.out.2.1;omega) (by rw [Ln_small (by decide) (by decide)];decide) (by decide)).mono ?_;rintro e u6 ⟨qv,rv',rfl,hd1,hd2,hk1⟩;have HM6:=jX ((HM5.out.call hk1 hd1 hd2));obtain⟨qo,qc,rfl,_⟩:=hd1.form;obtain⟨ro,rc,rfl,_⟩:=hd2.form;clear hk1 hd1 hd2 HM5 e1 e2;dsimp only;have hmid:L<(L+H) / 2∧(L+H) / 2<H:=by have:=HI.out.1;have:=Hend.out;omega
  generalize (L+H) / 2=mid at *;have hlm:Ln mid≤10000001:=by have:=Ln_mono (Nat.le_of_lt hmid.2);have:=HL.out.1;omega
  have Hlm:=jX hlm;have Hmid:=jX hmid;clear hlm hmid;go_wp2_with fail;refine (yca _ _ _ _ _ (HM6.out.dr (.slice qo (Ln mid) qc) mid (by simp)) (HM6.out.dr (.slice qo (Ln mid) qc) mid (by simp)) (by have:=Hlm.out;omega) (by have:=Hlm.out;omega)).mono ?_;rintro e u7 ⟨tv,rfl,hd1,hk1⟩;have HM7:=jX (HM6.out.call1 hk1 hd1);obtain⟨tb,tc,rfl,_⟩:=hd1.form;clear hk1 hd1 HM6;dsimp only;have HCM:=fun w' h1 h2=>yaQ w' (.slice tb (Ln (mid*mid)) tc) (.slice ao (Ln A) ac) (mid*mid) A h1 h2 (by have:=Ln_mul mid mid;have:=Hlm.out;omega) (by have:=HA.out;omega);by_cases hle:mid*mid≤A
  ·have hcm:decide (Lib.compareInt ((mid*mid:Nat):Int) (A:Int)≤0)=true:=by unfold Lib.compareInt;simp only [decide_eq_true_eq];split<;>(try split)<;>omega
   have Hle:=jX hle;generalize Lib.compareInt ((mid*mid:Nat):Int) (A:Int)=cm2 at *;clear hle;go_wp2_with fail;refine (HCM _ (HM7.out.dr (.slice tb (Ln (mid*mid)) tc) (mid*mid) (by simp)) (HM7.out.dr (.slice ao (Ln A) ac) A (by simp))).mono ?_;rintro e u8 ⟨rfl,hk1⟩;dsimp only;have HM8:=jX ((HM7.out.move hk1).of3 (a:=.slice ao (Ln A) ac) (b:=.slice qo (Ln mid) qc) (c:=.slice xo (Ln H) xc) (A:=A) (B:=mid) (C:=H) (by simp) (by simp) (by simp));clear hk1 HCM HM7;go_wp2_with fail;go_roundw
   case rel=>exact ⟨mid,H,Hmid.out.2,Hle.out,HI.out.2.2.1,HI.out.2.2.2,HM8.out⟩
   case measure =>
    rw [show ydl _ _=H from yco (HM8.out.dr (.slice xo (Ln H) xc) H (by simp)),show ydl _ _=mid from yco (HM8.out.dr (.slice qo (Ln mid) qc) mid (by simp)),show ydl _ _=H from Hmh.out,show ydl _ _=L from Hml.out]
    have:=Hmid.out;omega
  have hcm:decide (Lib.compareInt ((mid*mid:Nat):Int) (A:Int)≤0)=false:=by unfold Lib.compareInt;simp only [decide_eq_false_iff_not];split<;>(try split)<;>omega
  have Hle:=jX hle;generalize Lib.compareInt ((mid*mid:Nat):Int) (A:Int)=cm2 at *;clear hle;go_wp2_with fail;refine (HCM _ (HM7.out.dr (.slice tb (Ln (mid*mid)) tc) (mid*mid) (by simp)) (HM7.out.dr (.slice ao (Ln A) ac) A (by simp))).mono ?_;rintro e u8 ⟨rfl,hk1⟩;dsimp only;have HM8:=jX ((HM7.out.move hk1).of3 (a:=.slice ao (Ln A) ac) (b:=.slice lo (Ln L) lc) (c:=.slice qo (Ln mid) qc) (A:=A) (B:=L) (C:=mid) (by simp) (by simp) (by simp));clear hk1 HCM HM7;go_wp2_with fail;go_roundw
  case rel=>exact ⟨L,mid,Hmid.out.1,HI.out.2.1,by have:=Hle.out;omega,by have:=Hmid.out;have:=HI.out.2.2.2;omega,HM8.out⟩
  case measure =>
   rw [show ydl _ _=mid from yco (HM8.out.dr (.slice qo (Ln mid) qc) mid (by simp)),show ydl _ _=L from yco (HM8.out.dr (.slice lo (Ln L) lc) L (by simp)),show ydl _ _=H from Hmh.out,show ydl _ _=L from Hml.out]
   have:=Hmid.out;omega
end Go.Proofs.YtpgffjjpiafhpaaGreatDoor
