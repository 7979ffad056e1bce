/- Parts of a proof: Bc Bd Be. -/
import Derived.Test.YtpgffjjpiafhpaaGreatDoorU30
import Derived.Test.YtpgffjjpiafhpaaGreatDoorU15
set_option linter.unusedVariables false
set_option linter.unusedSimpArgs false
set_option maxRecDepth 100000
set_option maxHeartbeats 8000000
namespace Go.Proofs.YtpgffjjpiafhpaaGreatDoor
open Go.RowKit Tryz
theorem ygy (a b:Int) (h:b≠0):Rat.divInt (-a) (-b)=Rat.divInt a b:=by
 have h0:(b:Rat)≠0:=yhw h;rw [Rat.divInt_eq_div,Rat.divInt_eq_div,Rat.intCast_neg,Rat.intCast_neg];grind
theorem QMakeN_c (a b:Int) (ha:Fit 100000000000 a) (hb:Fit 100000000000 b) (h0:b<0) (w:World) :
  Calls prog 110 #[zv a,zv b] w fun e w'=>e = .returned (.tuple #[rv (Rat.divInt (-a) (-b)),.int .i64 0])∧Keep [] w w':=by
 have H1:=jX (Sign_c b);rw [show zsgn b = -1 by unfold zsgn;rw [if_pos h0]] at H1
 have H2:=jX (canonN_c a b ha hb h0);unfold rv zv at *;generalize sgB (Rat.divInt (-a) (-b)).num=nr at *;generalize mgS (Rat.divInt (-a) (-b)).num=sr at *;generalize dnS (Rat.divInt (-a) (-b)).den=dr at *;generalize sgB (a)=na at *;generalize mgS (a)=sa at *;generalize sgB (b)=nb at *;generalize mgS (b)=sb at *;clear ha hb h0;go_enter func110,ntmps110
 go_upto_region 1 with (fail)
 obtain⟨W,ga,gb,gc,hW,ega,egb,egc,Bga,Bgb,Bgc,hga,hgb,hgc,hgW,HkW⟩:=al3h w (.cells #[.bool na,.string sa] 26) (.cells #[.bool nb,.string sb] 26) (.cells #[.bool false,.string ⟨#[]⟩,.bool false,.string ⟨#[]⟩] 28);rw [← hW];try rw [egc]
 try rw [egb]
 try rw [ega]
 clear hW ega egb egc;obtain⟨pgb,fgb,lgb⟩:=jQ Bgb;go_wp2_with fail;refine (H1.out _).mono ?_;rintro e w1 ⟨rfl,hk1⟩;dsimp only;clear pgb fgb lgb;replace Bga:=jH hk1 Bga;replace Bgb:=jH hk1 Bgb;replace Bgc:=jH hk1 Bgc;replace HkW:=jX (HkW.out.tz hk1);clear hk1;go_upto_region 3 with (fail)
 obtain⟨pga,fga,lga⟩:=jQ Bga;obtain⟨pgb,fgb,lgb⟩:=jQ Bgb;go_wp2_with fail;refine (H2.out _).mono ?_;rintro e w2 ⟨rfl,hk2⟩;dsimp only;clear pga fga lga pgb fgb lgb;replace Bga:=jH hk2 Bga;replace Bgb:=jH hk2 Bgb;replace Bgc:=jH hk2 Bgc;replace HkW:=jX (HkW.out.tz hk2);clear hk2;obtain⟨pgc,fgc,lgc⟩:=jQ Bgc;go_wp2_with fail;refine bodyPost_ret (v:=.tuple #[.agg #[.bool nr,.string sr,.bool false,.string dr],.int .i64 0]) ?_ rfl ⟨rfl,by repeat (first|(with_reducible exact HkW.out)|(refine Keep.sP ?_ _ _ _ (by omega))|(refine Keep.aP ?_ _)|(refine Keep.dP ?_))⟩;rw [results_cell_tmp rfl];go_simp
theorem QMakeA_c (a b:Int) (ha:Fit 100000000000 a) (hb:Fit 100000000000 b) (h0:b≠0) (w:World) :
  Calls prog 110 #[.agg (zC a),.agg (zC b)] w fun e w'=>e = .returned (.tuple #[.agg (rC (Rat.divInt a b)),.int .i64 0])∧Keep [] w w':=by
 rw [← ybA,← ybA,← yam];by_cases h:b<0
 ·have:=QMakeN_c a b ha hb h w
  rw [ygy a b h0] at this;exact this
 exact QMake_c a b ha hb (by omega) w
theorem div_eq (a b:Rat) (hb:b≠0):Rat.divInt (a.num*b.den) (a.den*b.num)=a / b:=by
 have h1:=yaR a;have h2:=yaR b
 have hd1:((a.den:Int):Rat)≠0:=fun h=>by
  have:=Rat.intCast_inj.1 (h.trans (show (0:Rat)=((0:Int):Rat) from rfl))
  have:=a.den_pos;omega
 have hd2:((b.den:Int):Rat)≠0:=fun h=>by
  have:=Rat.intCast_inj.1 (h.trans (show (0:Rat)=((0:Int):Rat) from rfl))
  have:=b.den_pos;omega
 rw [Rat.divInt_eq_div,Rat.intCast_mul,Rat.intCast_mul,← h1,← h2];generalize ((a.den:Int):Rat)=x at *;generalize ((b.den:Int):Rat)=y at *;clear h1 h2;grind
theorem FitQ.div {a b:Rat} {k l:Nat} (ha:FitQ k a) (hb:FitQ l b) (h0:b≠0):FitQ (k+l) (a / b):=by
 rw [← div_eq a b h0];have hn:b.num≠0:=fun h=>h0 (Rat.num_eq_zero.1 h);have h1:(0:Int)<a.den:=by have:=a.den_pos;omega
 by_cases hb0:b.num<0
 ·rw [← ygy (a.num*b.den) (a.den*b.num) (Int.mul_ne_zero (by omega) hn)]
  refine yby (ha.1.mul hb.2).neg (ha.2.mul hb.1).neg ?_;have:=Int.mul_neg_of_pos_of_neg h1 hb0;omega
 exact yby (ha.1.mul hb.2) (ha.2.mul hb.1) (Int.mul_pos h1 (by omega))
theorem QDiv_c (a b:Rat) (ha:FitQ 1000000000 a) (hb:FitQ 1000000000 b) (h0:b≠0) (w:World) :
  Calls prog 200 #[.agg (rC a),.agg (rC b)] w fun e w'=>e = .returned (.tuple #[.agg (rC (a / b)),.int .i64 0])∧Keep [] w w':=by
 have h1:=a.den_pos;have hn:b.num≠0:=fun h=>h0 (Rat.num_eq_zero.1 h);have Hm1:=jX (Mul_c a.num b.den (ha.1.mono (by decide)) (hb.2.mono (by decide)));have Hm2:=jX (Mul_c a.den b.num (ha.2.mono (by decide)) (hb.1.mono (by decide)));have Hn:=jX (QMakeA_c (a.num*b.den) ((a.den:Int)*b.num) ((ha.1.mul hb.2).mono (by decide)) ((ha.2.mul hb.1).mono (by decide)) (Int.mul_ne_zero (by omega) hn));rw [div_eq a b h0] at Hn;have Hda:=jX (Den_c a);have Hdb:=jX (Den_c b);rw [yam,ybA] at Hda Hdb;rw [ybA,ybA,ybA] at Hm1 Hm2;have HLa:=jX (fun (u:World) (g:Nat)=>ld_q (w:=u) (g:=g) (q:=a) (t:=28));have HLb:=jX (fun (u:World) (g:Nat)=>ld_q (w:=u) (g:=g) (q:=b) (t:=28));have HNa:=jX (fun (u:World) (g:Nat)=>ld_num (w:=u) (g:=g) (q:=a) (t:=28));have HNb:=jX (fun (u:World) (g:Nat)=>ld_num (w:=u) (g:=g) (q:=b) (t:=28));have HLr:=jX (fun (u:World) (g:Nat)=>ld_q (w:=u) (g:=g) (q:=a / b) (t:=28));have HS:Hid ((rC (a / b)).size=4∧(rC (a / b)).all (·.oneCell')=true):=jX ⟨rfl,yaP _⟩;generalize zC (a.num*b.den)=M1 at *;generalize zC ((a.den:Int)*b.num)=M2 at *;generalize rC (a / b)=R at *;generalize zC (a.den:Int)=DA at *;generalize zC (b.den:Int)=DB at *;generalize zC a.num=NA at *;generalize zC b.num=NB at *;generalize rC a=A at *;generalize rC b=B at *;clear h1 hn ha hb h0;go_enter func200,ntmps200
 go_upto_region 1 with (fail)
 obtain⟨W,ga,gb,gc,hW,ega,egb,egc,Bga,Bgb,Bgc,hga,hgb,hgc,hgW,HkW⟩:=al3h w (.cells A 28) (.cells B 28) (.cells #[.bool false,.string ⟨#[]⟩,.bool false,.string ⟨#[]⟩] 28);rw [← hW];try rw [egc]
 try rw [egb]
 try rw [ega]
 clear hW ega egb egc;refine yae (S:=fun u=>Keep [] W u) 13 (by kernel_rfl) (by kernel_rfl) (fun _ _ d _ _ h=>by cases d<;>exact h) ?_;have hS0:=Keep.drew [] W;generalize World.drew W=u at *;refine tV 0 hS0 ?_;go_simp;refine tX 1 ⟨ga,0,none⟩ hS0 (fun w hw=>HNa.out _ _ (hw.heap Bga.out (by simp))) ?_;go_simp;refine tX 2 ⟨gb,0,none⟩ hS0 (fun w hw=>HLb.out _ _ (hw.heap Bgb.out (by simp))) ?_;go_simp;refine tX 5 ⟨ga,0,none⟩ hS0 (fun w hw=>HLa.out _ _ (hw.heap Bga.out (by simp))) ?_;go_simp;refine tV 7 hS0 ?_;go_simp;refine tX 8 ⟨gb,0,none⟩ hS0 (fun w hw=>HNb.out _ _ (hw.heap Bgb.out (by simp))) ?_;go_simp;refine tQ 3 166 #[.agg B] hS0 (Hdb.out _) (fun u2 hS0=>?_);go_simp;refine tQ 4 169 #[.agg NA,.agg DB] hS0 (Hm1.out _) (fun u3 hS0=>?_);go_simp;refine tQ 6 166 #[.agg A] hS0 (Hda.out _) (fun u4 hS0=>?_);go_simp;refine tQ 9 169 #[.agg DA,.agg NB] hS0 (Hm2.out _) (fun u5 hS0=>?_);go_simp;refine tQ 10 110 #[.agg M1,.agg M2] hS0 (Hn.out _) (fun u6 hS0=>?_);go_simp;refine tV 11 hS0 ?_;go_simp;refine tV 12 hS0 ?_;go_simp;refine ⟨by kernel_rfl,?_⟩;simp only [List.drop_succ_cons,List.drop_zero];have bgc:=hS0.heap Bgc.out (by simp);refine wR gc R bgc (by rw [HS.out.1];exact q_size) (by rw [HS.out.1];rfl) HS.out.2 (fun w9 b9 k9=>?_);go_simp;refine fO ?_;have Hk:=jX ((HkW.out.tz hS0).trans k9 (by simp;omega));have hlr:=HLr.out _ _ b9;clear hS0 k9 b9 bgc;go_wp2_with fail;refine bodyPost_ret (v:=.tuple #[.agg R,.int .i64 0]) ?_ rfl ⟨rfl,Hk.out⟩;rw [results_cell_tmp rfl];show ((loadVar 28 ⟨gc,0,none⟩).run prog w9).andThen _=_
 rw [hlr];rfl
theorem Rquot_c (a b:Rat) (ha:FitQ 1000000000 a) (hb:FitQ 1000000000 b) (h0:b≠0) (w:World) :
  Calls prog 176 #[.agg (rC a),.agg (rC b)] w fun e w'=>e = .returned (.agg (rC (a / b)))∧Keep [] w w':=by
 have H1:=jX (QDiv_c a b ha hb h0);have HLa:=jX (fun (u:World) (g:Nat)=>ld_q (w:=u) (g:=g) (q:=a) (t:=28));have HLb:=jX (fun (u:World) (g:Nat)=>ld_q (w:=u) (g:=g) (q:=b) (t:=28));have HLr:=jX (fun (u:World) (g:Nat)=>ld_q (w:=u) (g:=g) (q:=a / b) (t:=28));have HS:Hid ((rC (a / b)).size=4∧(rC (a / b)).all (·.oneCell')=true):=jX ⟨rfl,yaP _⟩;generalize rC (a / b)=R at *;generalize rC a=A at *;generalize rC b=B at *;clear ha hb h0;go_enter func176,ntmps176
 go_upto_region 1 with (fail)
 obtain⟨W,ga,gb,gc,hW,ega,egb,egc,Bga,Bgb,Bgc,hga,hgb,hgc,hgW,HkW⟩:=al3h w (.cells A 28) (.cells B 28) (.cells #[.bool false,.string ⟨#[]⟩,.bool false,.string ⟨#[]⟩] 28);rw [← hW];try rw [egc]
 try rw [egb]
 try rw [ega]
 clear hW ega egb egc;refine wp_region_lit ?_;refine wX ⟨ga,0,none⟩ (HLa.out _ _ Bga.out) ?_;go_simp;refine wX ⟨gb,0,none⟩ (HLb.out _ _ Bgb.out) ?_;go_simp;refine wpList_plain (by rfl) (fun K hK=>?_);refine yaf 200 #[.agg A,.agg B] (by go_simp) ?_;refine (H1.out _).mono ?_;rintro e9 w2 ⟨rfl,hk2⟩;refine ⟨_,rfl,?_⟩;go_simp;go_step
 refine wV ?_;go_simp;refine wV ?_;go_simp;refine wV ?_;go_simp;refine wA (ycb _ _ _ rfl) (fun w3 gd e2 bgd hgd _ hk3=>?_);go_simp;refine wR gd R bgd (by rw [HS.out.1];exact q_size) (by rw [HS.out.1];rfl) HS.out.2 (fun w4 b4 k4=>?_);go_simp;refine fO ?_;have hk4:Keep [] W w4:=(hk2.tz hk3).trans k4 (by simp;have:=hk2.size;omega);have Bgc:=jX (hk4.heap Bgc.out (by simp));have HK:=jX (HkW.out.tz hk4);have hlr:=HLr.out _ _ b4;clear hk2 hk3 k4 hk4 bgd e2;go_upto_region 2 with (fail)
 refine wp_region_lit ?_;refine wX ⟨gd,0,none⟩ (hlr) ?_;go_simp;refine wR gc R Bgc.out (by rw [HS.out.1];exact q_size) (by rw [HS.out.1];rfl) HS.out.2 (fun w5 b5 k5=>?_);go_simp;refine fO ?_;have HK:=jX (HK.out.trans k5 (by simp;omega));have hlr:=HLr.out _ _ b5;clear k5 b5 b4;go_wp2_with fail;refine bodyPost_ret (v:=.agg R) ?_ rfl ⟨rfl,HK.out⟩;rw [yac rfl];show (Result.ok (⟨gc,0,none⟩:Addr) w5).andThen (fun a w=>(loadVar 28 a).run prog w)=_
 rw [Result.andThen_ok,hlr]
theorem al_q1:∀ t∈[28],∀ (ev:Operand→Value) (w:World) (o:Oper),o.op = .alloc t→(execOp ev o).run prog w = .ok (.value (.pointer (some ⟨w.heap.size,0,none⟩))) (w.alloc (.cells #[.bool false,.string ⟨#[]⟩,.bool false,.string ⟨#[]⟩] 28)):=fun t ht ev w o ho=>by
 rw [List.mem_singleton] at ht;subst ht;exact ycb ev w o ho
theorem al_z2:∀ t∈[26,26],∀ (ev:Operand→Value) (w:World) (o:Oper),o.op = .alloc t→(execOp ev o).run prog w = .ok (.value (.pointer (some ⟨w.heap.size,0,none⟩))) (w.alloc (.cells #[.bool false,.string ⟨#[]⟩] 26)):=fun t ht ev w o ho=>by
 simp at ht;subst ht;exact al_zN ev w o ho
theorem Rwhole_c (z:Int) (hz:Fit 100000000 z) (w:World) :
  Calls prog 173 #[.agg (zC z)] w fun e w'=>e = .returned (.agg (rC (z:Rat)))∧Keep [] w w':=by
 have h1:Fit 8 1:=by rw [Fit_iff];decide
 have H1:=jX (FromInt_c 1 (by decide) (by decide));rw [ybA] at H1;have H2:=jX (QMakeA_c z 1 (hz.mono (by decide)) (h1.mono (by decide)) (by decide));rw [show Rat.divInt z 1=(z:Rat) by rw [Rat.divInt_eq_div];grind] at H2
 have HLa:=jX (fun (u:World) (g:Nat)=>ld_z (w:=u) (g:=g) (z:=z) (t:=26));have HLr:=jX (fun (u:World) (g:Nat)=>ld_q (w:=u) (g:=g) (q:=(z:Rat)) (t:=28));have HS:Hid ((rC (z:Rat)).size=4∧(rC (z:Rat)).all (·.oneCell')=true):=jX ⟨rfl,yaP _⟩;generalize rC (z:Rat)=R at *;generalize zC z=A at *;generalize zC 1=O at *;clear hz h1;go_enter func173,ntmps173
 go_upto_region 1 with (fail)
 obtain⟨W,ga,gb,hW,ega,egb,Bga,Bgb,hga,hgb,hgW,HkW⟩:=al2h w (.cells A 26) (.cells #[.bool false,.string ⟨#[]⟩,.bool false,.string ⟨#[]⟩] 28);rw [← hW];try rw [egb]
 try rw [ega]
 clear hW ega egb;go_cut [3] (fun xv wx=>∃ g:Nat,xv = .pointer (some ⟨g,0,none⟩)∧W.heap.size≤g∧wx.heap[g]? = some (.cells R 28)∧Keep [] W wx)
 case first =>
  refine yae (S:=fun u=>Keep [] W u) 8 (by kernel_rfl) (by kernel_rfl) (fun _ _ d _ _ h=>by cases d<;>exact h) ?_;have hS0:=Keep.drew [] W;generalize World.drew W=u at *;refine tX 0 ⟨ga,0,none⟩ hS0 (fun w hw=>HLa.out _ _ (hw.heap Bga.out (by simp))) ?_;go_simp;refine yav 1 6 (by kernel_rfl) (by decide) (by decide) (by rfl) (by rfl) (by rfl) (by rfl) (fun K hK=>?_) (fun K hK=>?_)
  ·skip
   refine yaf 111 #[.int .i64 1] (by go_simp) ?_;refine (H1.out _).mono ?_;rintro e u1 ⟨rfl,hb⟩;try replace b_gd:=hb.heap b_gd (by simp)
   replace hS0:=hS0.tz hb;refine ⟨_,rfl,?_⟩;go_simp;refine hK _ _ hS0 ?_;clear hK K hb;refine yav 2 6 (by kernel_rfl) (by decide) (by decide) (by rfl) (by rfl) (by rfl) (by rfl) (fun K hK=>?_) (fun K hK=>?_)
   ·skip
    refine yaf 110 #[.agg A,.agg O] (by go_simp) ?_;refine (H2.out _).mono ?_;rintro e u3 ⟨rfl,hb⟩;try replace b_gd:=hb.heap b_gd (by simp)
    replace hS0:=hS0.tz hb;refine ⟨_,rfl,?_⟩;go_simp;refine hK _ _ hS0 ?_;clear hK K hb;refine tV 3 hS0 ?_;go_simp;refine tV 4 hS0 ?_;go_simp;refine tV 5 hS0 ?_;go_simp;refine jO 6 (fun K hK=>?_);have z_gd:=hS0.size;obtain⟨u5,gd,e1,e2,b_gd,h_gd,l_gd,k2⟩:=al1 u3 (.cells #[.bool false,.string ⟨#[]⟩,.bool false,.string ⟨#[]⟩] 28);go_simp;rw [← e1];replace hS0:=hS0.tz k2;refine hK _ _ hS0 ?_;clear hK K e1 k2;refine jO 7 (fun K hK=>?_);refine wp_store_row _ _ _ rfl gd R rfl rfl _ _ b_gd (by rw [HS.out.1];exact q_size) (by rw [HS.out.1];rfl) HS.out.2 ?_;obtain⟨u6,e6,b6,k6⟩:=yaL (cs:=R) b_gd;rw [e6];go_simp;have hkk:=hS0.trans k6 (by simp;omega);refine hK _ _ hkk ?_;clear hK K e6;refine ⟨by kernel_rfl,?_⟩;simp only [List.drop_succ_cons,List.drop_zero];clear hS0 k6;go_wp2_with fail;go_meet
    exact ⟨_,rfl,by omega,b6,hkk⟩
   skip
   have z_gd:=hS0.size;obtain⟨u7,gd,e1,e2,b_gd,h_gd,l_gd,k2⟩:=al1 u1 (.cells #[.bool false,.string ⟨#[]⟩,.bool false,.string ⟨#[]⟩] 28);go_simp;rw [← e1];replace hS0:=hS0.tz k2;refine hK _ _ hS0 ?_;clear hK K e1 k2;refine jO 2 (fun K hK=>?_);refine yaf 110 #[.agg A,.agg O] (by go_simp) ?_;refine (H2.out _).mono ?_;rintro e u8 ⟨rfl,hb⟩;try replace b_gd:=hb.heap b_gd (by simp)
   replace hS0:=hS0.tz hb;refine ⟨_,rfl,?_⟩;go_simp;refine hK _ _ hS0 ?_;clear hK K hb;refine tV 3 hS0 ?_;go_simp;refine tV 4 hS0 ?_;go_simp;refine tV 5 hS0 ?_;go_simp;refine jO 7 (fun K hK=>?_);refine wp_store_row _ _ _ rfl gd R rfl rfl _ _ b_gd (by rw [HS.out.1];exact q_size) (by rw [HS.out.1];rfl) HS.out.2 ?_;obtain⟨u10,e6,b6,k6⟩:=yaL (cs:=R) b_gd;rw [e6];go_simp;have hkk:=hS0.trans k6 (by simp;omega);refine hK _ _ hkk ?_;clear hK K e6;refine ⟨by kernel_rfl,?_⟩;simp only [List.drop_succ_cons,List.drop_zero];clear hS0 k6;go_wp2_with fail;go_meet
   exact ⟨_,rfl,by omega,b6,hkk⟩
  skip
  have z_gd:=hS0.size;obtain⟨u11,gd,e1,e2,b_gd,h_gd,l_gd,k2⟩:=al1 u (.cells #[.bool false,.string ⟨#[]⟩,.bool false,.string ⟨#[]⟩] 28);go_simp;rw [← e1];replace hS0:=hS0.tz k2;refine hK _ _ hS0 ?_;clear hK K e1 k2;refine jO 1 (fun K hK=>?_);refine yaf 111 #[.int .i64 1] (by go_simp) ?_;refine (H1.out _).mono ?_;rintro e u12 ⟨rfl,hb⟩;try replace b_gd:=hb.heap b_gd (by simp)
  replace hS0:=hS0.tz hb;refine ⟨_,rfl,?_⟩;go_simp;refine hK _ _ hS0 ?_;clear hK K hb;refine jO 2 (fun K hK=>?_);refine yaf 110 #[.agg A,.agg O] (by go_simp) ?_;refine (H2.out _).mono ?_;rintro e u14 ⟨rfl,hb⟩;try replace b_gd:=hb.heap b_gd (by simp)
  replace hS0:=hS0.tz hb;refine ⟨_,rfl,?_⟩;go_simp;refine hK _ _ hS0 ?_;clear hK K hb;refine tV 3 hS0 ?_;go_simp;refine tV 4 hS0 ?_;go_simp;refine tV 5 hS0 ?_;go_simp;refine jO 7 (fun K hK=>?_);refine wp_store_row _ _ _ rfl gd R rfl rfl _ _ b_gd (by rw [HS.out.1];exact q_size) (by rw [HS.out.1];rfl) HS.out.2 ?_;obtain⟨u16,e6,b6,k6⟩:=yaL (cs:=R) b_gd;rw [e6];go_simp;have hkk:=hS0.trans k6 (by simp;omega);refine hK _ _ hkk ?_;clear hK K e6;refine ⟨by kernel_rfl,?_⟩;simp only [List.drop_succ_cons,List.drop_zero];clear hS0 k6;go_wp2_with fail;go_meet
  exact ⟨_,rfl,by omega,b6,hkk⟩
 obtain⟨gd,rfl,hgd,bgd,hk⟩:=hcut;have HK:=jX (HkW.out.tz hk);have Bgb:=jX (hk.heap Bgb.out (by simp));have hlr:=HLr.out _ _ bgd;clear hk;go_upto_region 2 with (fail)
 refine wp_region_lit ?_;refine wX ⟨gd,0,none⟩ (hlr) ?_;go_simp;refine wR gb R Bgb.out (by rw [HS.out.1];exact q_size) (by rw [HS.out.1];rfl) HS.out.2 (fun w5 b5 k5=>?_);go_simp;refine fO ?_;have HK:=jX (HK.out.trans k5 (by simp;omega));have hlr:=HLr.out _ _ b5;clear k5 b5;go_wp2_with fail;refine bodyPost_ret (v:=.agg R) ?_ rfl ⟨rfl,HK.out⟩;rw [yac rfl];show (Result.ok (⟨gb,0,none⟩:Addr) w5).andThen (fun a w=>(loadVar 28 a).run prog w)=_
 rw [Result.andThen_ok,hlr]
theorem rC_zero:rC 0=(#[.bool false,.string ⟨#[]⟩,.bool false,.string ⟨#[]⟩]):=by
 have h:=rv_zero;rw [yam] at h;injection h
theorem ygE (a:Rat) (w:World):(binOp .neq 28 (.agg (rC a)) (.agg (#[.bool false,.string ⟨#[]⟩,.bool false,.string ⟨#[]⟩]))).run prog w = .ok (.bool (!decide (a=0))) w:=by
 rw [← rC_zero,← yam,← yam];unfold rv;rw [run_neq_struct,show (10000:Nat)=9997+3 from rfl,ygD,yed]
 rfl
theorem eqlQ_zero (a:Rat) (w:World):(binOp .eql 28 (.agg (rC a)) (.agg (#[.bool false,.string ⟨#[]⟩,.bool false,.string ⟨#[]⟩]))).run prog w = .ok (.bool (decide (a=0))) w:=by
 rw [← rC_zero,← yam,← yam];exact eqQ_run a 0 w
theorem built9 (a1 a3 a5 a7 b:Bool) (a2 a4 a6 a8:ByteArray):prog.built 30 [(0,.agg #[.bool a1,.string a2,.bool a3,.string a4]),(1,.agg #[.bool a5,.string a6,.bool a7,.string a8]),(2,.bool b)]=some #[.bool a1,.string a2,.bool a3,.string a4,.bool a5,.string a6,.bool a7,.string a8,.bool b]:=by kernel_rfl
theorem yhr (p r:Rat) (b:Bool):prog.built 30 [(0,.agg (rC p)),(1,.agg (rC r)),(2,.bool b)]=some (qC ⟨p,r,b⟩):=built9 _ _ _ _ _ _ _ _ _
theorem RNeg_c (x:Qn) (w:World):Calls prog 171 #[.agg (qC x)] w fun e w'=>e = .returned (.agg (qC x.ng))∧Keep [] w w':=by
 have H1:=jX (QNeg_c x.p);rw [yam,yam] at H1;have hng:x.ng=⟨-x.p,x.r,decide (x.r≠0) && !x.neg⟩:=rfl;have HLp:=jX (fun (u:World) (g:Nat)=>ld_xp (w:=u) (g:=g) (x:=x) (t:=30));have HLr:=jX (fun (u:World) (g:Nat)=>ld_xr (w:=u) (g:=g) (x:=x) (t:=30));have HLn:=jX (fun (u:World) (g:Nat)=>ld_xn (w:=u) (g:=g) (x:=x) (t:=30));have HLy:=jX (fun (u:World) (g:Nat)=>ld_x (w:=u) (g:=g) (x:=x.ng) (t:=30));have HS:Hid ((qC x.ng).size=9∧(qC x.ng).all (·.oneCell')=true):=jX ⟨rfl,ybd _⟩;have HN:=jX (ygE x.r);have HBd:=jX (yhr (-x.p) x.r (decide (x.r≠0) && !x.neg));rw [← hng] at HBd;have hgQ:=eqQ_g;by_cases h0:x.r=0
 ·rw [decide_eq_true h0,Bool.not_true] at HN
  rw [decide_eq_false (by simpa using h0),Bool.false_and] at HBd;clear hng h0;generalize qC x.ng=Y at *;generalize rC (-x.p)=NP at *;generalize rC x.p=P at *;generalize rC x.r=R at *;generalize x.neg=n at *;generalize qC x=X at *;go_enter func171,ntmps171
  go_upto_region 1 with (fail)
  obtain⟨W,ga,gb,hW,ega,egb,Bga,Bgb,hga,hgb,hgW,HkW⟩:=al2h w (.cells X 30) (.cells #[.bool false,.string ⟨#[]⟩,.bool false,.string ⟨#[]⟩,.bool false,.string ⟨#[]⟩,.bool false,.string ⟨#[]⟩,.bool false] 30);rw [← hW];try rw [egb]
  try rw [ega]
  clear hW ega egb;refine yae (S:=fun u=>Keep [] W u) 15 (by kernel_rfl) (by kernel_rfl) (fun _ _ d _ _ h=>by cases d<;>exact h) ?_;have hS0:=Keep.drew [] W;generalize World.drew W=u at *;refine tV 0 hS0 ?_;go_simp;refine tX 1 ⟨ga,0,none⟩ hS0 (fun w hw=>HLp.out _ _ (hw.heap Bga.out (by simp))) ?_;go_simp;refine tV 3 hS0 ?_;go_simp;refine tX 4 ⟨ga,4,none⟩ hS0 (fun w hw=>HLr.out _ _ (hw.heap Bga.out (by simp))) ?_;go_simp;refine tV 5 hS0 ?_;go_simp;refine tX 6 ⟨ga,4,none⟩ hS0 (fun w hw=>HLr.out _ _ (hw.heap Bga.out (by simp))) ?_;go_simp;refine tV 7 hS0 ?_;go_simp;refine' jG (v:=_) 8 hS0 (fun w hw=>?hak08) (fun K hK=>?kak08)
  case hak08=>(have hN:=HN.out;go_simp;try rfl)
  go_simp;go_step
  refine tQ 2 60 #[.agg P] hS0 (H1.out _) (fun u2 hS0=>?_);go_simp;refine tV 9 hS0 ?_;go_simp;refine tS 10 hS0 ?_;go_simp;refine tS 11 hS0 ?_;go_simp;refine tS 12 hS0 ?_;go_simp;refine tV 13 hS0 ?_;go_simp;refine yaI (v:=.agg Y) 14 (by rfl) (by decide) (by kernel_rfl) (by kernel_rfl) (by rfl) hS0 (fun w hw=>yaC 30 #[(0,.tmp 5),(1,.tmp 7),(2,.tmp 16)] #[(0,.agg NP),(1,.agg R),(2,.bool false)] Y rfl (by simp only [List.map_toArray,List.map_cons,List.map_nil];rfl) HBd.out) (fun K hK=>?_);go_simp;go_step
  refine ⟨by kernel_rfl,?_⟩;simp only [List.drop_succ_cons,List.drop_zero];have bgb:=hS0.heap Bgb.out (by simp);refine wR gb Y bgb (by rw [HS.out.1];exact k_size) (by rw [HS.out.1];rfl) HS.out.2 (fun w5 b5 k5=>?_);go_simp;refine fO ?_;have HK:=jX ((HkW.out.tz hS0).trans k5 (by simp;omega));have hlr:=HLy.out _ _ b5;clear k5 b5 hS0 bgb;go_wp2_with fail;refine bodyPost_ret (v:=.agg Y) ?_ rfl ⟨rfl,HK.out⟩;rw [yac rfl];show (Result.ok (⟨gb,0,none⟩:Addr) w5).andThen (fun a w=>(loadVar 30 a).run prog w)=_
  rw [Result.andThen_ok,hlr]
 rw [decide_eq_false h0,Bool.not_false] at HN;rw [decide_eq_true h0,Bool.true_and] at HBd;clear hng h0;generalize qC x.ng=Y at *;generalize rC (-x.p)=NP at *;generalize rC x.p=P at *;generalize rC x.r=R at *;generalize x.neg=n at *;generalize qC x=X at *;cases n
 ·skip
  go_enter func171,ntmps171
  go_upto_region 1 with (fail)
  obtain⟨W,ga,gb,hW,ega,egb,Bga,Bgb,hga,hgb,hgW,HkW⟩:=al2h w (.cells X 30) (.cells #[.bool false,.string ⟨#[]⟩,.bool false,.string ⟨#[]⟩,.bool false,.string ⟨#[]⟩,.bool false,.string ⟨#[]⟩,.bool false] 30);rw [← hW];try rw [egb]
  try rw [ega]
  clear hW ega egb;refine yae (S:=fun u=>Keep [] W u) 15 (by kernel_rfl) (by kernel_rfl) (fun _ _ d _ _ h=>by cases d<;>exact h) ?_;have hS0:=Keep.drew [] W;generalize World.drew W=u at *;refine tV 0 hS0 ?_;go_simp;refine tX 1 ⟨ga,0,none⟩ hS0 (fun w hw=>HLp.out _ _ (hw.heap Bga.out (by simp))) ?_;go_simp;refine tV 3 hS0 ?_;go_simp;refine tX 4 ⟨ga,4,none⟩ hS0 (fun w hw=>HLr.out _ _ (hw.heap Bga.out (by simp))) ?_;go_simp;refine tV 5 hS0 ?_;go_simp;refine tX 6 ⟨ga,4,none⟩ hS0 (fun w hw=>HLr.out _ _ (hw.heap Bga.out (by simp))) ?_;go_simp;refine tV 7 hS0 ?_;go_simp;refine' jG (v:=_) 8 hS0 (fun w hw=>?hak18) (fun K hK=>?kak18)
  case hak18=>(have hN:=HN.out;go_simp;try rfl)
  go_simp;go_step
  refine tQ 2 60 #[.agg P] hS0 (H1.out _) (fun u2 hS0=>?_);go_simp;refine tV 9 hS0 ?_;go_simp;refine tV 10 hS0 ?_;go_simp;refine' jG (v:=_) 11 hS0 (fun w hw=>?hb11) (fun K hK=>?kb11)
  case hb11=>(have hn:=HLn.out _ _ (hw.heap Bga.out (by simp));go_simp;try rfl)
  go_simp;go_step
  refine tV 12 hS0 ?_;go_simp;refine tV 13 hS0 ?_;go_simp;refine yaI (v:=.agg Y) 14 (by rfl) (by decide) (by kernel_rfl) (by kernel_rfl) (by rfl) hS0 (fun w hw=>yaC 30 #[(0,.tmp 5),(1,.tmp 7),(2,.tmp 16)] #[(0,.agg NP),(1,.agg R),(2,.bool true)] Y rfl (by simp only [List.map_toArray,List.map_cons,List.map_nil];rfl) HBd.out) (fun K hK=>?_);go_simp;go_step
  refine ⟨by kernel_rfl,?_⟩;simp only [List.drop_succ_cons,List.drop_zero];have bgb:=hS0.heap Bgb.out (by simp);refine wR gb Y bgb (by rw [HS.out.1];exact k_size) (by rw [HS.out.1];rfl) HS.out.2 (fun w5 b5 k5=>?_);go_simp;refine fO ?_;have HK:=jX ((HkW.out.tz hS0).trans k5 (by simp;omega));have hlr:=HLy.out _ _ b5;clear k5 b5 hS0 bgb;go_wp2_with fail;refine bodyPost_ret (v:=.agg Y) ?_ rfl ⟨rfl,HK.out⟩;rw [yac rfl];show (Result.ok (⟨gb,0,none⟩:Addr) w5).andThen (fun a w=>(loadVar 30 a).run prog w)=_
  rw [Result.andThen_ok,hlr]
 skip
 go_enter func171,ntmps171
 go_upto_region 1 with (fail)
 obtain⟨W,ga,gb,hW,ega,egb,Bga,Bgb,hga,hgb,hgW,HkW⟩:=al2h w (.cells X 30) (.cells #[.bool false,.string ⟨#[]⟩,.bool false,.string ⟨#[]⟩,.bool false,.string ⟨#[]⟩,.bool false,.string ⟨#[]⟩,.bool false] 30);rw [← hW];try rw [egb]
 try rw [ega]
 clear hW ega egb;refine yae (S:=fun u=>Keep [] W u) 15 (by kernel_rfl) (by kernel_rfl) (fun _ _ d _ _ h=>by cases d<;>exact h) ?_;have hS0:=Keep.drew [] W;generalize World.drew W=u at *;refine tV 0 hS0 ?_;go_simp;refine tX 1 ⟨ga,0,none⟩ hS0 (fun w hw=>HLp.out _ _ (hw.heap Bga.out (by simp))) ?_;go_simp;refine tV 3 hS0 ?_;go_simp;refine tX 4 ⟨ga,4,none⟩ hS0 (fun w hw=>HLr.out _ _ (hw.heap Bga.out (by simp))) ?_;go_simp;refine tV 5 hS0 ?_;go_simp;refine tX 6 ⟨ga,4,none⟩ hS0 (fun w hw=>HLr.out _ _ (hw.heap Bga.out (by simp))) ?_;go_simp;refine tV 7 hS0 ?_;go_simp;refine' jG (v:=_) 8 hS0 (fun w hw=>?hak28) (fun K hK=>?kak28)
 case hak28=>(have hN:=HN.out;go_simp;try rfl)
 go_simp;go_step
 refine tQ 2 60 #[.agg P] hS0 (H1.out _) (fun u2 hS0=>?_);go_simp;refine tV 9 hS0 ?_;go_simp;refine tV 10 hS0 ?_;go_simp;refine' jG (v:=_) 11 hS0 (fun w hw=>?hc11) (fun K hK=>?kc11)
 case hc11=>(have hn:=HLn.out _ _ (hw.heap Bga.out (by simp));go_simp;try rfl)
 go_simp;go_step
 refine tV 12 hS0 ?_;go_simp;refine tV 13 hS0 ?_;go_simp;refine yaI (v:=.agg Y) 14 (by rfl) (by decide) (by kernel_rfl) (by kernel_rfl) (by rfl) hS0 (fun w hw=>yaC 30 #[(0,.tmp 5),(1,.tmp 7),(2,.tmp 16)] #[(0,.agg NP),(1,.agg R),(2,.bool false)] Y rfl (by simp only [List.map_toArray,List.map_cons,List.map_nil];rfl) HBd.out) (fun K hK=>?_);go_simp;go_step
 refine ⟨by kernel_rfl,?_⟩;simp only [List.drop_succ_cons,List.drop_zero];have bgb:=hS0.heap Bgb.out (by simp);refine wR gb Y bgb (by rw [HS.out.1];exact k_size) (by rw [HS.out.1];rfl) HS.out.2 (fun w5 b5 k5=>?_);go_simp;refine fO ?_;have HK:=jX ((HkW.out.tz hS0).trans k5 (by simp;omega));have hlr:=HLy.out _ _ b5;clear k5 b5 hS0 bgb;go_wp2_with fail;refine bodyPost_ret (v:=.agg Y) ?_ rfl ⟨rfl,HK.out⟩;rw [yac rfl];show (Result.ok (⟨gb,0,none⟩:Addr) w5).andThen (fun a w=>(loadVar 30 a).run prog w)=_
 rw [Result.andThen_ok,hlr]
def scQ (x:Qn) (c:Rat):Qn:=⟨x.p*c,c*c*x.r,decide (c*c*x.r≠0)&&(x.neg != decide (sgn c<0))⟩
theorem Rscale_c (x:Qn) (c:Rat) (hx:FitR 10000000 x) (hc:FitQ 10000000 c) (w:World):Calls prog 199 #[.agg (qC x),.agg (rC c)] w fun e w'=>e = .returned (.agg (qC (scQ x c)))∧Bl w w':=by
 have H1:=jX (QMul_c c c (hc.mono (by decide)) (hc.mono (by decide)));have H2:=jX (QMul_c (c*c) x.r ((hc.mul hc).mono (by decide)) (hx.2.mono (by decide)));have H3:=jX (QMul_c x.p c (hx.1.mono (by decide)) (hc.mono (by decide)));have H4:=jX (QSign_c c);rw [yam,yam] at H1;rw [yam,yam,yam] at H2 H3;rw [yam] at H4;have hsc:scQ x c=⟨x.p*c,c*c*x.r,decide (c*c*x.r≠0)&&(x.neg != decide (sgn c<0))⟩:=rfl;have HLp:=jX (fun (u:World) (g:Nat)=>ld_xp (w:=u) (g:=g) (x:=x) (t:=30));have HLr:=jX (fun (u:World) (g:Nat)=>ld_xr (w:=u) (g:=g) (x:=x) (t:=30));have HLn:=jX (fun (u:World) (g:Nat)=>ld_xn (w:=u) (g:=g) (x:=x) (t:=30));have HLc:=jX (fun (u:World) (g:Nat)=>ld_q (w:=u) (g:=g) (q:=c) (t:=28));have HLt:=jX (fun (u:World) (g:Nat)=>ld_q (w:=u) (g:=g) (q:=c*c*x.r) (t:=28));have HLy:=jX (fun (u:World) (g:Nat)=>ld_x (w:=u) (g:=g) (x:=scQ x c) (t:=30));have HS:Hid ((qC (scQ x c)).size=9∧(qC (scQ x c)).all (·.oneCell')=true):=jX ⟨rfl,ybd _⟩;have HSr:Hid ((rC (c*c*x.r)).size=4∧(rC (c*c*x.r)).all (·.oneCell')=true):=jX ⟨rfl,yaP _⟩;have HN:=jX (ygE (c*c*x.r));have HBd:=jX (yhr (x.p*c) (c*c*x.r) (decide (c*c*x.r≠0)&&(x.neg != decide (sgn c<0))));rw [← hsc] at HBd;have hgQ:=eqQ_g;by_cases h0:c*c*x.r=0
 ·rw [decide_eq_true h0,Bool.not_true] at HN
  rw [decide_eq_false (by simpa using h0),Bool.false_and] at HBd;clear hsc h0 hx hc H4;generalize qC (scQ x c)=Y at *;generalize rC (c*c*x.r)=RT at *;generalize rC (c*c)=CC at *;generalize rC (x.p*c)=PC at *;generalize rC x.p=P at *;generalize rC x.r=R at *;generalize rC c=C at *;generalize qC x=X at *;go_enter func199,ntmps199
  go_upto_region 1 with (fail)
  obtain⟨W,ga,gb,gc,hW,ega,egb,egc,Bga,Bgb,Bgc,hga,hgb,hgc,hgW,HkW⟩:=al3h w (.cells X 30) (.cells C 28) (.cells #[.bool false,.string ⟨#[]⟩,.bool false,.string ⟨#[]⟩,.bool false,.string ⟨#[]⟩,.bool false,.string ⟨#[]⟩,.bool false] 30);rw [← hW];try rw [egc]
  try rw [egb]
  try rw [ega]
  clear hW ega egb egc;refine yaM (S:=fun u=>Bl W u) 7 [(5,28)] (fun _=>.cells #[.bool false,.string ⟨#[]⟩,.bool false,.string ⟨#[]⟩] 28) (by kernel_rfl) (by kernel_rfl) (by kernel_rfl) (al_q1) (fun _ _ d _ _ h=>by cases d<;>exact h) (fun _ _ d _ _ h=>by cases d<;>exact h) (fun _ _ h k=>h.trans k) ?_;simp only [List.map_cons,List.map_nil,unal,isAl,if_true,if_false,Bool.false_eq_true];have hS0:=Bl.drew W;generalize World.drew W=u at *;refine bX 0 ⟨gb,0,none⟩ hS0 (fun w hw=>HLc.out _ _ (hw.heap Bgb.out)) ?_;go_simp;refine bX 1 ⟨gb,0,none⟩ hS0 (fun w hw=>HLc.out _ _ (hw.heap Bgb.out)) ?_;go_simp;refine bV 3 hS0 ?_;go_simp;refine bV 6 hS0 ?_;go_simp;refine bX 4 ⟨ga,4,none⟩ hS0 (fun w hw=>HLr.out _ _ (hw.heap Bga.out)) ?_;go_simp;refine bQ 2 131 #[.agg C,.agg C] hS0 (fun _=>H1.out _) (fun u2 hS0=>?_);go_simp;refine bQ 5 131 #[.agg CC,.agg R] hS0 (fun _=>H2.out _) (fun u3 hS0=>?_);go_simp;refine fO ?_;intro w4 hu;have hS0:=hS0.trans hu;clear hu;refine ⟨by kernel_rfl,fun p hp1 hp2 _ hz=>?_⟩;simp only [List.map_cons,List.map_nil,pl,List.drop_succ_cons,List.drop_zero];have bgd:=hz (5,28) (by simp);have hgd:=hp1 5 (by simp);dsimp only at bgd;generalize p 5=gd at *;clear hz hp1 hp2;refine wR gd RT bgd (by rw [HSr.out.1];exact q_size) (by rw [HSr.out.1];rfl) HSr.out.2 (fun w5 b5 k5=>?_);go_simp;refine fO ?_;have hkk:Bl W w5:=Below.trans hS0 (k5.below (by simp;exact hgd) hS0.size);have Bga5:=jX (hkk.heap Bga.out);have Bgb5:=jX (hkk.heap Bgb.out);have Bgc5:=jX (hkk.heap Bgc.out);have Bgd:=jX b5;have HB5:=jX (Bl.trans (Bl.of HkW.out) hkk);have hgd0:w.heap.size≤gd:=Nat.le_trans HkW.out.size hgd;have hc5:=hkk.size;clear hS0 k5 b5 hkk bgd hgd H1 H2;go_upto_region 2 with (fail)
  refine yae (S:=fun u=>Keep [] w5 u) 17 (by kernel_rfl) (by kernel_rfl) (fun _ _ d _ _ h=>by cases d<;>exact h) ?_;have hS0:=Keep.drew [] w5;generalize World.drew w5=u at *;refine tV 0 hS0 ?_;go_simp;refine tX 1 ⟨ga,0,none⟩ hS0 (fun w hw=>HLp.out _ _ (hw.heap Bga5.out (by simp))) ?_;go_simp;refine tX 2 ⟨gb,0,none⟩ hS0 (fun w hw=>HLc.out _ _ (hw.heap Bgb5.out (by simp))) ?_;go_simp;refine tX 4 ⟨gd,0,none⟩ hS0 (fun w hw=>HLt.out _ _ (hw.heap Bgd.out (by simp))) ?_;go_simp;refine tX 5 ⟨gd,0,none⟩ hS0 (fun w hw=>HLt.out _ _ (hw.heap Bgd.out (by simp))) ?_;go_simp;refine tV 6 hS0 ?_;go_simp;refine' jG (v:=_) 7 hS0 (fun w hw=>?htk07) (fun K hK=>?ktk07)
  case htk07=>(have hN:=HN.out;go_simp;try rfl)
  go_simp;go_step
  refine tQ 3 131 #[.agg P,.agg C] hS0 (H3.out _) (fun u6 hS0=>?_);go_simp;refine tV 8 hS0 ?_;go_simp;refine tS 9 hS0 ?_;go_simp;refine tS 10 hS0 ?_;go_simp;refine tS 11 hS0 ?_;go_simp;refine tS 12 hS0 ?_;go_simp;refine tS 13 hS0 ?_;go_simp;refine tS 14 hS0 ?_;go_simp;refine tV 15 hS0 ?_;go_simp;refine yaI (v:=.agg Y) 16 (by rfl) (by decide) (by kernel_rfl) (by kernel_rfl) (by rfl) hS0 (fun w hw=>yaC 30 #[(0,.tmp 15),(1,.tmp 16),(2,.tmp 27)] #[(0,.agg PC),(1,.agg RT),(2,.bool false)] Y rfl (by simp only [List.map_toArray,List.map_cons,List.map_nil];rfl) HBd.out) (fun K hK=>?_);go_simp;go_step
  refine ⟨by kernel_rfl,?_⟩;simp only [List.drop_succ_cons,List.drop_zero];have bgc:=hS0.heap Bgc5.out (by simp);refine wR gc Y bgc (by rw [HS.out.1];exact k_size) (by rw [HS.out.1];rfl) HS.out.2 (fun w9 b9 k9=>?_);go_simp;refine fO ?_;have HK:Hid (Bl w w9):=jX (Below.trans (Bl.trans HB5.out (Bl.of hS0)) (k9.below (by simp;omega) (Bl.trans HB5.out (Bl.of hS0)).size));have hlr:=HLy.out _ _ b9;clear k9 b9 hS0 bgc;go_wp2_with fail;refine bodyPost_ret (v:=.agg Y) ?_ rfl ⟨rfl,HK.out⟩;rw [yac rfl];show (Result.ok (⟨gc,0,none⟩:Addr) w9).andThen (fun a w=>(loadVar 30 a).run prog w)=_
  rw [Result.andThen_ok,hlr]
 rw [decide_eq_false h0,Bool.not_false] at HN;rw [decide_eq_true h0,Bool.true_and] at HBd;clear hsc h0 hx hc;generalize qC (scQ x c)=Y at *;generalize rC (c*c*x.r)=RT at *;generalize rC (c*c)=CC at *;generalize rC (x.p*c)=PC at *;generalize rC x.p=P at *;generalize rC x.r=R at *;generalize rC c=C at *;generalize qC x=X at *;generalize sgn c=n at *;generalize x.neg=ng at *;go_enter func199,ntmps199
 go_upto_region 1 with (fail)
 obtain⟨W,ga,gb,gc,hW,ega,egb,egc,Bga,Bgb,Bgc,hga,hgb,hgc,hgW,HkW⟩:=al3h w (.cells X 30) (.cells C 28) (.cells #[.bool false,.string ⟨#[]⟩,.bool false,.string ⟨#[]⟩,.bool false,.string ⟨#[]⟩,.bool false,.string ⟨#[]⟩,.bool false] 30);rw [← hW];try rw [egc]
 try rw [egb]
 try rw [ega]
 clear hW ega egb egc;refine yaM (S:=fun u=>Bl W u) 7 [(5,28)] (fun _=>.cells #[.bool false,.string ⟨#[]⟩,.bool false,.string ⟨#[]⟩] 28) (by kernel_rfl) (by kernel_rfl) (by kernel_rfl) (al_q1) (fun _ _ d _ _ h=>by cases d<;>exact h) (fun _ _ d _ _ h=>by cases d<;>exact h) (fun _ _ h k=>h.trans k) ?_;simp only [List.map_cons,List.map_nil,unal,isAl,if_true,if_false,Bool.false_eq_true];have hS0:=Bl.drew W;generalize World.drew W=u at *;refine bX 0 ⟨gb,0,none⟩ hS0 (fun w hw=>HLc.out _ _ (hw.heap Bgb.out)) ?_;go_simp;refine bX 1 ⟨gb,0,none⟩ hS0 (fun w hw=>HLc.out _ _ (hw.heap Bgb.out)) ?_;go_simp;refine bV 3 hS0 ?_;go_simp;refine bV 6 hS0 ?_;go_simp;refine bX 4 ⟨ga,4,none⟩ hS0 (fun w hw=>HLr.out _ _ (hw.heap Bga.out)) ?_;go_simp;refine bQ 2 131 #[.agg C,.agg C] hS0 (fun _=>H1.out _) (fun u2 hS0=>?_);go_simp;refine bQ 5 131 #[.agg CC,.agg R] hS0 (fun _=>H2.out _) (fun u3 hS0=>?_);go_simp;refine fO ?_;intro w4 hu;have hS0:=hS0.trans hu;clear hu;refine ⟨by kernel_rfl,fun p hp1 hp2 _ hz=>?_⟩;simp only [List.map_cons,List.map_nil,pl,List.drop_succ_cons,List.drop_zero];have bgd:=hz (5,28) (by simp);have hgd:=hp1 5 (by simp);dsimp only at bgd;generalize p 5=gd at *;clear hz hp1 hp2;refine wR gd RT bgd (by rw [HSr.out.1];exact q_size) (by rw [HSr.out.1];rfl) HSr.out.2 (fun w5 b5 k5=>?_);go_simp;refine fO ?_;have hkk:Bl W w5:=Below.trans hS0 (k5.below (by simp;exact hgd) hS0.size);have Bga5:=jX (hkk.heap Bga.out);have Bgb5:=jX (hkk.heap Bgb.out);have Bgc5:=jX (hkk.heap Bgc.out);have Bgd:=jX b5;have HB5:=jX (Bl.trans (Bl.of HkW.out) hkk);have hgd0:w.heap.size≤gd:=Nat.le_trans HkW.out.size hgd;have hc5:=hkk.size;clear hS0 k5 b5 hkk bgd hgd H1 H2;go_upto_region 2 with (fail)
 refine yae (S:=fun u=>Keep [] w5 u) 17 (by kernel_rfl) (by kernel_rfl) (fun _ _ d _ _ h=>by cases d<;>exact h) ?_;have hS0:=Keep.drew [] w5;generalize World.drew w5=u at *;refine tV 0 hS0 ?_;go_simp;refine tX 1 ⟨ga,0,none⟩ hS0 (fun w hw=>HLp.out _ _ (hw.heap Bga5.out (by simp))) ?_;go_simp;refine tX 2 ⟨gb,0,none⟩ hS0 (fun w hw=>HLc.out _ _ (hw.heap Bgb5.out (by simp))) ?_;go_simp;refine tX 4 ⟨gd,0,none⟩ hS0 (fun w hw=>HLt.out _ _ (hw.heap Bgd.out (by simp))) ?_;go_simp;refine tX 5 ⟨gd,0,none⟩ hS0 (fun w hw=>HLt.out _ _ (hw.heap Bgd.out (by simp))) ?_;go_simp;refine tV 6 hS0 ?_;go_simp;refine' jG (v:=_) 7 hS0 (fun w hw=>?htk17) (fun K hK=>?ktk17)
 case htk17=>(have hN:=HN.out;go_simp;try rfl)
 go_simp;go_step
 refine tQ 3 131 #[.agg P,.agg C] hS0 (H3.out _) (fun u6 hS0=>?_);go_simp;refine tV 8 hS0 ?_;go_simp;refine tV 9 hS0 ?_;go_simp;refine' jG (v:=_) 10 hS0 (fun w hw=>?htk110) (fun K hK=>?ktk110)
 case htk110=>(have hn:=HLn.out _ _ (hw.heap Bga5.out (by simp));go_simp;try rfl)
 go_simp;go_step
 refine tX 11 ⟨gb,0,none⟩ hS0 (fun w hw=>HLc.out _ _ (hw.heap Bgb5.out (by simp))) ?_;go_simp;refine tQ 12 121 #[.agg C] hS0 (H4.out _) (fun u7 hS0=>?_);go_simp;refine tV 13 hS0 ?_;go_simp;refine tV 14 hS0 ?_;go_simp;refine tV 15 hS0 ?_;go_simp;refine yaI (v:=.agg Y) 16 (by rfl) (by decide) (by kernel_rfl) (by kernel_rfl) (by rfl) hS0 (fun w hw=>yaC 30 #[(0,.tmp 15),(1,.tmp 16),(2,.tmp 27)] #[(0,.agg PC),(1,.agg RT),(2,.bool (ng != decide (n<0)))] Y rfl (by simp only [List.map_toArray,List.map_cons,List.map_nil];rfl) HBd.out) (fun K hK=>?_);go_simp;go_step
 refine ⟨by kernel_rfl,?_⟩;simp only [List.drop_succ_cons,List.drop_zero];have bgc:=hS0.heap Bgc5.out (by simp);refine wR gc Y bgc (by rw [HS.out.1];exact k_size) (by rw [HS.out.1];rfl) HS.out.2 (fun w9 b9 k9=>?_);go_simp;refine fO ?_;have HK:Hid (Bl w w9):=jX (Below.trans (Bl.trans HB5.out (Bl.of hS0)) (k9.below (by simp;omega) (Bl.trans HB5.out (Bl.of hS0)).size));have hlr:=HLy.out _ _ b9;clear k9 b9 hS0 bgc;go_wp2_with fail;refine bodyPost_ret (v:=.agg Y) ?_ rfl ⟨rfl,HK.out⟩;rw [yac rfl];show (Result.ok (⟨gc,0,none⟩:Addr) w9).andThen (fun a w=>(loadVar 30 a).run prog w)=_
 rw [Result.andThen_ok,hlr]
end Go.Proofs.YtpgffjjpiafhpaaGreatDoor
