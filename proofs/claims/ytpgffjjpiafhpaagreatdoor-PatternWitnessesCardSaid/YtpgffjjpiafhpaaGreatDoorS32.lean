/- Parts of a proof: Bc Bd. -/
import Derived.Test.YtpgffjjpiafhpaaGreatDoorS31
import Derived.Test.YtpgffjjpiafhpaaGreatDoorS15
set_option linter.unusedVariables false
set_option linter.unusedSimpArgs false
set_option maxRecDepth 100000
set_option maxHeartbeats 8000000
namespace Go.Proofs.YtpgffjjpiafhpaaGreatDoor
open Go.RowKit Tryz
theorem yhq (a b:Int) (h:b≠0):Rat.divInt (-a) (-b)=Rat.divInt a b:=by
 have h0:(b:Rat)≠0:=yih h;rw [Rat.divInt_eq_div,Rat.divInt_eq_div,Rat.intCast_neg,Rat.intCast_neg];grind
theorem QMakeN_c (a b:Int) (ha:Fit 100000000000 a) (hb:Fit 100000000000 b) (h0:b<0) (w:World) :
  Calls prog 110 #[zv a,zv b] w fun e w'=>e = .returned (.tuple #[rv (Rat.divInt (-a) (-b)),.int .i64 0])∧Keep [] w w':=by
 have H1:=jX (Sign_c b);rw [show zsgn b = -1 by unfold zsgn;rw [if_pos h0]] at H1
 have H2:=jX (canonN_c a b ha hb h0);unfold rv zv at *;generalize sgB (Rat.divInt (-a) (-b)).num=nr at *;generalize mgS (Rat.divInt (-a) (-b)).num=sr at *;generalize dnS (Rat.divInt (-a) (-b)).den=dr at *;generalize sgB (a)=na at *;generalize mgS (a)=sa at *;generalize sgB (b)=nb at *;generalize mgS (b)=sb at *;clear ha hb h0;go_enter func110,ntmps110
 go_upto_region 1 with (fail)
 obtain⟨W,ga,gb,gc,hW,ega,egb,egc,Bga,Bgb,Bgc,hga,hgb,hgc,hgW,HkW⟩:=al3h w (.cells #[.bool na,.string sa] 26) (.cells #[.bool nb,.string sb] 26) (.cells #[.bool false,.string ⟨#[]⟩,.bool false,.string ⟨#[]⟩] 28);rw [← hW];try rw [egc]
 try rw [egb]
 try rw [ega]
 clear hW ega egb egc;obtain⟨pgb,fgb,lgb⟩:=jQ Bgb;go_wp2_with fail;refine (H1.out _).mono ?_;rintro e w1 ⟨rfl,hk1⟩;dsimp only;clear pgb fgb lgb;replace Bga:=jH hk1 Bga;replace Bgb:=jH hk1 Bgb;replace Bgc:=jH hk1 Bgc;replace HkW:=jX (HkW.out.tz hk1);clear hk1;go_upto_region 3 with (fail)
 obtain⟨pga,fga,lga⟩:=jQ Bga;obtain⟨pgb,fgb,lgb⟩:=jQ Bgb;go_wp2_with fail;refine (H2.out _).mono ?_;rintro e w2 ⟨rfl,hk2⟩;dsimp only;clear pga fga lga pgb fgb lgb;replace Bga:=jH hk2 Bga;replace Bgb:=jH hk2 Bgb;replace Bgc:=jH hk2 Bgc;replace HkW:=jX (HkW.out.tz hk2);clear hk2;obtain⟨pgc,fgc,lgc⟩:=jQ Bgc;go_wp2_with fail;refine bodyPost_ret (v:=.tuple #[.agg #[.bool nr,.string sr,.bool false,.string dr],.int .i64 0]) ?_ rfl ⟨rfl,by repeat (first|(with_reducible exact HkW.out)|(refine Keep.sP ?_ _ _ _ (by omega))|(refine Keep.aP ?_ _)|(refine Keep.dP ?_))⟩;rw [results_cell_tmp rfl];go_simp
theorem QMakeA_c (a b:Int) (ha:Fit 100000000000 a) (hb:Fit 100000000000 b) (h0:b≠0) (w:World) :
  Calls prog 110 #[.agg (zC a),.agg (zC b)] w fun e w'=>e = .returned (.tuple #[.agg (rC (Rat.divInt a b)),.int .i64 0])∧Keep [] w w':=by
 rw [← ybG,← ybG,← yam];by_cases h:b<0
 ·have:=QMakeN_c a b ha hb h w
  rw [yhq a b h0] at this;exact this
 exact QMake_c a b ha hb (by omega) w
theorem div_eq (a b:Rat) (hb:b≠0):Rat.divInt (a.num*b.den) (a.den*b.num)=a / b:=by
 have h1:=ybl a;have h2:=ybl b
 have hd1:((a.den:Int):Rat)≠0:=fun h=>by
  have:=Rat.intCast_inj.1 (h.trans (show (0:Rat)=((0:Int):Rat) from rfl))
  have:=a.den_pos;omega
 have hd2:((b.den:Int):Rat)≠0:=fun h=>by
  have:=Rat.intCast_inj.1 (h.trans (show (0:Rat)=((0:Int):Rat) from rfl))
  have:=b.den_pos;omega
 rw [Rat.divInt_eq_div,Rat.intCast_mul,Rat.intCast_mul,← h1,← h2];generalize ((a.den:Int):Rat)=x at *;generalize ((b.den:Int):Rat)=y at *;clear h1 h2;grind
theorem FitQ.div {a b:Rat} {k l:Nat} (ha:FitQ k a) (hb:FitQ l b) (h0:b≠0):FitQ (k+l) (a / b):=by
 rw [← div_eq a b h0];have hn:b.num≠0:=fun h=>h0 (Rat.num_eq_zero.1 h);have h1:(0:Int)<a.den:=by have:=a.den_pos;omega
 by_cases hb0:b.num<0
 ·rw [← yhq (a.num*b.den) (a.den*b.num) (Int.mul_ne_zero (by omega) hn)]
  refine ybz (ha.1.mul hb.2).neg (ha.2.mul hb.1).neg ?_;have:=Int.mul_neg_of_pos_of_neg h1 hb0;omega
 exact ybz (ha.1.mul hb.2) (ha.2.mul hb.1) (Int.mul_pos h1 (by omega))
theorem QDiv_c (a b:Rat) (ha:FitQ 1000000000 a) (hb:FitQ 1000000000 b) (h0:b≠0) (w:World) :
  Calls prog 200 #[.agg (rC a),.agg (rC b)] w fun e w'=>e = .returned (.tuple #[.agg (rC (a / b)),.int .i64 0])∧Keep [] w w':=by
 have h1:=a.den_pos;have hn:b.num≠0:=fun h=>h0 (Rat.num_eq_zero.1 h);have Hm1:=jX (Mul_c a.num b.den (ha.1.mono (by decide)) (hb.2.mono (by decide)));have Hm2:=jX (Mul_c a.den b.num (ha.2.mono (by decide)) (hb.1.mono (by decide)));have Hn:=jX (QMakeA_c (a.num*b.den) ((a.den:Int)*b.num) ((ha.1.mul hb.2).mono (by decide)) ((ha.2.mul hb.1).mono (by decide)) (Int.mul_ne_zero (by omega) hn));rw [div_eq a b h0] at Hn;have Hda:=jX (Den_c a);have Hdb:=jX (Den_c b);rw [yam,ybG] at Hda Hdb;rw [ybG,ybG,ybG] at Hm1 Hm2;have HLa:=jX (fun (u:World) (g:Nat)=>ld_q (w:=u) (g:=g) (q:=a) (t:=28));have HLb:=jX (fun (u:World) (g:Nat)=>ld_q (w:=u) (g:=g) (q:=b) (t:=28));have HNa:=jX (fun (u:World) (g:Nat)=>ld_num (w:=u) (g:=g) (q:=a) (t:=28));have HNb:=jX (fun (u:World) (g:Nat)=>ld_num (w:=u) (g:=g) (q:=b) (t:=28));have HLr:=jX (fun (u:World) (g:Nat)=>ld_q (w:=u) (g:=g) (q:=a / b) (t:=28));have HS:Hid ((rC (a / b)).size=4∧(rC (a / b)).all (·.oneCell')=true):=jX ⟨rfl,yaK _⟩;generalize zC (a.num*b.den)=M1 at *;generalize zC ((a.den:Int)*b.num)=M2 at *;generalize rC (a / b)=R at *;generalize zC (a.den:Int)=DA at *;generalize zC (b.den:Int)=DB at *;generalize zC a.num=NA at *;generalize zC b.num=NB at *;generalize rC a=A at *;generalize rC b=B at *;clear h1 hn ha hb h0;go_enter func200,ntmps200
 go_upto_region 1 with (fail)
 obtain⟨W,ga,gb,gc,hW,ega,egb,egc,Bga,Bgb,Bgc,hga,hgb,hgc,hgW,HkW⟩:=al3h w (.cells A 28) (.cells B 28) (.cells #[.bool false,.string ⟨#[]⟩,.bool false,.string ⟨#[]⟩] 28);rw [← hW];try rw [egc]
 try rw [egb]
 try rw [ega]
 clear hW ega egb egc;refine yad (S:=fun u=>Keep [] W u) 13 (by kernel_rfl) (by kernel_rfl) (fun _ _ d _ _ h=>by cases d<;>exact h) ?_;have hS0:=Keep.drew [] W;generalize World.drew W=u at *;refine tV 0 hS0 (fun _ _=>?_);go_simp;go_step;refine tX 1 ⟨ga,0,none⟩ hS0 (fun w hw=>HNa.out _ _ (hw.heap Bga.out (by simp))) (fun _ _=>?_);go_simp;go_step;refine tX 2 ⟨gb,0,none⟩ hS0 (fun w hw=>HLb.out _ _ (hw.heap Bgb.out (by simp))) (fun _ _=>?_);go_simp;go_step;refine tX 5 ⟨ga,0,none⟩ hS0 (fun w hw=>HLa.out _ _ (hw.heap Bga.out (by simp))) (fun _ _=>?_);go_simp;go_step;refine tV 7 hS0 (fun _ _=>?_);go_simp;go_step;refine tX 8 ⟨gb,0,none⟩ hS0 (fun w hw=>HNb.out _ _ (hw.heap Bgb.out (by simp))) (fun _ _=>?_);go_simp;go_step;refine tQ 3 166 #[.agg B] hS0 (Hdb.out _) (fun u2 hS0 _ _=>?_);go_simp;go_step;refine tQ 4 169 #[.agg NA,.agg DB] hS0 (Hm1.out _) (fun u3 hS0 _ _=>?_);go_simp;go_step;refine tQ 6 166 #[.agg A] hS0 (Hda.out _) (fun u4 hS0 _ _=>?_);go_simp;go_step;refine tQ 9 169 #[.agg DA,.agg NB] hS0 (Hm2.out _) (fun u5 hS0 _ _=>?_);go_simp;go_step;refine tQ 10 110 #[.agg M1,.agg M2] hS0 (Hn.out _) (fun u6 hS0 _ _=>?_);go_simp;go_step;refine tV 11 hS0 (fun _ _=>?_);go_simp;go_step;refine tV 12 hS0 (fun _ _=>?_);go_simp;go_step;refine ⟨by kernel_rfl,?_⟩;simp only [List.drop_succ_cons,List.drop_zero];have bgc:=hS0.heap Bgc.out (by simp);refine wR gc R bgc (by rw [HS.out.1];exact q_size) (by rw [HS.out.1];rfl) HS.out.2 (fun w9 b9 k9 _ _=>?_);go_simp;go_step;have Hk:=jX ((HkW.out.tz hS0).trans k9 (by simp;omega));have hlr:=HLr.out _ _ b9;clear hS0 k9 b9 bgc;go_wp2_with fail;refine bodyPost_ret (v:=.tuple #[.agg R,.int .i64 0]) ?_ rfl ⟨rfl,Hk.out⟩;rw [results_cell_tmp rfl];show ((loadVar 28 ⟨gc,0,none⟩).run prog w9).andThen _=_
 rw [hlr];rfl
theorem Rquot_c (a b:Rat) (ha:FitQ 1000000000 a) (hb:FitQ 1000000000 b) (h0:b≠0) (w:World) :
  Calls prog 176 #[.agg (rC a),.agg (rC b)] w fun e w'=>e = .returned (.agg (rC (a / b)))∧Keep [] w w':=by
 have H1:=jX (QDiv_c a b ha hb h0);have HLa:=jX (fun (u:World) (g:Nat)=>ld_q (w:=u) (g:=g) (q:=a) (t:=28));have HLb:=jX (fun (u:World) (g:Nat)=>ld_q (w:=u) (g:=g) (q:=b) (t:=28));have HLr:=jX (fun (u:World) (g:Nat)=>ld_q (w:=u) (g:=g) (q:=a / b) (t:=28));have HS:Hid ((rC (a / b)).size=4∧(rC (a / b)).all (·.oneCell')=true):=jX ⟨rfl,yaK _⟩;generalize rC (a / b)=R at *;generalize rC a=A at *;generalize rC b=B at *;clear ha hb h0;go_enter func176,ntmps176
 go_upto_region 1 with (fail)
 obtain⟨W,ga,gb,gc,hW,ega,egb,egc,Bga,Bgb,Bgc,hga,hgb,hgc,hgW,HkW⟩:=al3h w (.cells A 28) (.cells B 28) (.cells #[.bool false,.string ⟨#[]⟩,.bool false,.string ⟨#[]⟩] 28);rw [← hW];try rw [egc]
 try rw [egb]
 try rw [ega]
 clear hW ega egb egc;refine wp_region_lit ?_;refine wX ⟨ga,0,none⟩ (HLa.out _ _ Bga.out) (fun _ _=>?_);go_simp;go_step;refine wX ⟨gb,0,none⟩ (HLb.out _ _ Bgb.out) (fun _ _=>?_);go_simp;go_step;refine wpList_plain (by rfl) (fun K hK=>?_);refine yaf 200 #[.agg A,.agg B] (by go_simp) ?_;refine (H1.out _).mono ?_;rintro e9 w2 ⟨rfl,hk2⟩;refine ⟨_,rfl,?_⟩;go_simp;go_step;refine wV (fun _ _=>?_);go_simp;go_step;refine wV (fun _ _=>?_);go_simp;go_step;refine wV (fun _ _=>?_);go_simp;go_step;refine wA (ybN _ _ _ rfl) (fun w3 gd e2 bgd hgd _ hk3 _ _=>?_);go_simp;go_step;refine wR gd R bgd (by rw [HS.out.1];exact q_size) (by rw [HS.out.1];rfl) HS.out.2 (fun w4 b4 k4 _ _=>?_);go_simp;go_step;have hk4:Keep [] W w4:=(hk2.tz hk3).trans k4 (by simp;have:=hk2.size;omega);have Bgc:=jX (hk4.heap Bgc.out (by simp));have HK:=jX (HkW.out.tz hk4);have hlr:=HLr.out _ _ b4;clear hk2 hk3 k4 hk4 bgd e2;go_upto_region 2 with (fail)
 refine wp_region_lit ?_;refine wX ⟨gd,0,none⟩ (hlr) (fun _ _=>?_);go_simp;go_step;refine wR gc R Bgc.out (by rw [HS.out.1];exact q_size) (by rw [HS.out.1];rfl) HS.out.2 (fun w5 b5 k5 _ _=>?_);go_simp;go_step;have HK:=jX (HK.out.trans k5 (by simp;omega));have hlr:=HLr.out _ _ b5;clear k5 b5 b4;go_wp2_with fail;refine bodyPost_ret (v:=.agg R) ?_ rfl ⟨rfl,HK.out⟩;rw [yac rfl];show (Result.ok (⟨gc,0,none⟩:Addr) w5).andThen (fun a w=>(loadVar 28 a).run prog w)=_
 rw [Result.andThen_ok,hlr]
theorem al_q1:∀ t∈[28],∀ (ev:Operand→Value) (w:World) (o:Oper),o.op = .alloc t→(execOp ev o).run prog w = .ok (.value (.pointer (some ⟨w.heap.size,0,none⟩))) (w.alloc (.cells #[.bool false,.string ⟨#[]⟩,.bool false,.string ⟨#[]⟩] 28)):=fun t ht ev w o ho=>by
 rw [List.mem_singleton] at ht;subst ht;exact ybN ev w o ho
theorem al_z2:∀ t∈[26,26],∀ (ev:Operand→Value) (w:World) (o:Oper),o.op = .alloc t→(execOp ev o).run prog w = .ok (.value (.pointer (some ⟨w.heap.size,0,none⟩))) (w.alloc (.cells #[.bool false,.string ⟨#[]⟩] 26)):=fun t ht ev w o ho=>by
 simp at ht;subst ht;exact al_zN ev w o ho
theorem Rwhole_c (z:Int) (hz:Fit 100000000 z) (w:World) :
  Calls prog 173 #[.agg (zC z)] w fun e w'=>e = .returned (.agg (rC (z:Rat)))∧Keep [] w w':=by
 have h1:Fit 8 1:=by rw [Fit_iff];decide
 have H1:=jX (FromInt_c 1 (by decide) (by decide));rw [ybG] at H1;have H2:=jX (QMakeA_c z 1 (hz.mono (by decide)) (h1.mono (by decide)) (by decide));rw [show Rat.divInt z 1=(z:Rat) by rw [Rat.divInt_eq_div];grind] at H2
 have HLa:=jX (fun (u:World) (g:Nat)=>ld_z (w:=u) (g:=g) (z:=z) (t:=26));have HLr:=jX (fun (u:World) (g:Nat)=>ld_q (w:=u) (g:=g) (q:=(z:Rat)) (t:=28));have HS:Hid ((rC (z:Rat)).size=4∧(rC (z:Rat)).all (·.oneCell')=true):=jX ⟨rfl,yaK _⟩;generalize rC (z:Rat)=R at *;generalize zC z=A at *;generalize zC 1=O at *;clear hz h1;go_enter func173,ntmps173
 go_upto_region 1 with (fail)
 obtain⟨W,ga,gb,hW,ega,egb,Bga,Bgb,hga,hgb,hgW,HkW⟩:=al2h w (.cells A 26) (.cells #[.bool false,.string ⟨#[]⟩,.bool false,.string ⟨#[]⟩] 28);rw [← hW];try rw [egb]
 try rw [ega]
 clear hW ega egb;go_cut [3] (fun xv wx=>∃ g:Nat,xv = .pointer (some ⟨g,0,none⟩)∧W.heap.size≤g∧wx.heap[g]? = some (.cells R 28)∧Keep [] W wx)
 case first =>
  refine yad (S:=fun u=>Keep [] W u) 8 (by kernel_rfl) (by kernel_rfl) (fun _ _ d _ _ h=>by cases d<;>exact h) ?_;have hS0:=Keep.drew [] W;generalize World.drew W=u at *;refine tX 0 ⟨ga,0,none⟩ hS0 (fun w hw=>HLa.out _ _ (hw.heap Bga.out (by simp))) (fun _ _=>?_);go_simp;go_step;refine yax 1 6 (by kernel_rfl) (by decide) (by decide) (by rfl) (by rfl) (by rfl) (by rfl) (fun K hK=>?_) (fun K hK=>?_)
  ·skip
   refine yaf 111 #[.int .i64 1] (by go_simp) ?_;refine (H1.out _).mono ?_;rintro e u1 ⟨rfl,hb⟩;try replace b_gd:=hb.heap b_gd (by simp)
   replace hS0:=hS0.tz hb;refine ⟨_,rfl,?_⟩;go_simp;refine hK _ _ hS0 ?_;clear hK K hb;refine yax 2 6 (by kernel_rfl) (by decide) (by decide) (by rfl) (by rfl) (by rfl) (by rfl) (fun K hK=>?_) (fun K hK=>?_)
   ·skip
    refine yaf 110 #[.agg A,.agg O] (by go_simp) ?_;refine (H2.out _).mono ?_;rintro e u3 ⟨rfl,hb⟩;try replace b_gd:=hb.heap b_gd (by simp)
    replace hS0:=hS0.tz hb;refine ⟨_,rfl,?_⟩;go_simp;refine hK _ _ hS0 ?_;clear hK K hb;refine tV 3 hS0 (fun _ _=>?_);go_simp;go_step;refine tV 4 hS0 (fun _ _=>?_);go_simp;go_step;refine tV 5 hS0 (fun _ _=>?_);go_simp;go_step;refine jO 6 (fun K hK=>?_);have z_gd:=hS0.size;obtain⟨u5,gd,e1,e2,b_gd,h_gd,l_gd,k2⟩:=al1 u3 (.cells #[.bool false,.string ⟨#[]⟩,.bool false,.string ⟨#[]⟩] 28);go_simp;rw [← e1];replace hS0:=hS0.tz k2;refine hK _ _ hS0 ?_;clear hK K e1 k2;refine jO 7 (fun K hK=>?_);refine wp_store_row _ _ _ rfl gd R rfl rfl _ _ b_gd (by rw [HS.out.1];exact q_size) (by rw [HS.out.1];rfl) HS.out.2 ?_;obtain⟨u6,e6,b6,k6⟩:=yaM (cs:=R) b_gd;rw [e6];go_simp;have hkk:=hS0.trans k6 (by simp;omega);refine hK _ _ hkk ?_;clear hK K e6;refine ⟨by kernel_rfl,?_⟩;simp only [List.drop_succ_cons,List.drop_zero];clear hS0 k6;go_wp2_with fail;go_meet
    exact ⟨_,rfl,by omega,b6,hkk⟩
   skip
   have z_gd:=hS0.size;obtain⟨u7,gd,e1,e2,b_gd,h_gd,l_gd,k2⟩:=al1 u1 (.cells #[.bool false,.string ⟨#[]⟩,.bool false,.string ⟨#[]⟩] 28);go_simp;rw [← e1];replace hS0:=hS0.tz k2;refine hK _ _ hS0 ?_;clear hK K e1 k2;refine jO 2 (fun K hK=>?_);refine yaf 110 #[.agg A,.agg O] (by go_simp) ?_;refine (H2.out _).mono ?_;rintro e u8 ⟨rfl,hb⟩;try replace b_gd:=hb.heap b_gd (by simp)
   replace hS0:=hS0.tz hb;refine ⟨_,rfl,?_⟩;go_simp;refine hK _ _ hS0 ?_;clear hK K hb;refine tV 3 hS0 (fun _ _=>?_);go_simp;go_step;refine tV 4 hS0 (fun _ _=>?_);go_simp;go_step;refine tV 5 hS0 (fun _ _=>?_);go_simp;go_step;refine jO 7 (fun K hK=>?_);refine wp_store_row _ _ _ rfl gd R rfl rfl _ _ b_gd (by rw [HS.out.1];exact q_size) (by rw [HS.out.1];rfl) HS.out.2 ?_;obtain⟨u10,e6,b6,k6⟩:=yaM (cs:=R) b_gd;rw [e6];go_simp;have hkk:=hS0.trans k6 (by simp;omega);refine hK _ _ hkk ?_;clear hK K e6;refine ⟨by kernel_rfl,?_⟩;simp only [List.drop_succ_cons,List.drop_zero];clear hS0 k6;go_wp2_with fail;go_meet
   exact ⟨_,rfl,by omega,b6,hkk⟩
  skip
  have z_gd:=hS0.size;obtain⟨u11,gd,e1,e2,b_gd,h_gd,l_gd,k2⟩:=al1 u (.cells #[.bool false,.string ⟨#[]⟩,.bool false,.string ⟨#[]⟩] 28);go_simp;rw [← e1];replace hS0:=hS0.tz k2;refine hK _ _ hS0 ?_;clear hK K e1 k2;refine jO 1 (fun K hK=>?_);refine yaf 111 #[.int .i64 1] (by go_simp) ?_;refine (H1.out _).mono ?_;rintro e u12 ⟨rfl,hb⟩;try replace b_gd:=hb.heap b_gd (by simp)
  replace hS0:=hS0.tz hb;refine ⟨_,rfl,?_⟩;go_simp;refine hK _ _ hS0 ?_;clear hK K hb;refine jO 2 (fun K hK=>?_);refine yaf 110 #[.agg A,.agg O] (by go_simp) ?_;refine (H2.out _).mono ?_;rintro e u14 ⟨rfl,hb⟩;try replace b_gd:=hb.heap b_gd (by simp)
  replace hS0:=hS0.tz hb;refine ⟨_,rfl,?_⟩;go_simp;refine hK _ _ hS0 ?_;clear hK K hb;refine tV 3 hS0 (fun _ _=>?_);go_simp;go_step;refine tV 4 hS0 (fun _ _=>?_);go_simp;go_step;refine tV 5 hS0 (fun _ _=>?_);go_simp;go_step;refine jO 7 (fun K hK=>?_);refine wp_store_row _ _ _ rfl gd R rfl rfl _ _ b_gd (by rw [HS.out.1];exact q_size) (by rw [HS.out.1];rfl) HS.out.2 ?_;obtain⟨u16,e6,b6,k6⟩:=yaM (cs:=R) b_gd;rw [e6];go_simp;have hkk:=hS0.trans k6 (by simp;omega);refine hK _ _ hkk ?_;clear hK K e6;refine ⟨by kernel_rfl,?_⟩;simp only [List.drop_succ_cons,List.drop_zero];clear hS0 k6;go_wp2_with fail;go_meet
  exact ⟨_,rfl,by omega,b6,hkk⟩
 obtain⟨gd,rfl,hgd,bgd,hk⟩:=hcut;have HK:=jX (HkW.out.tz hk);have Bgb:=jX (hk.heap Bgb.out (by simp));have hlr:=HLr.out _ _ bgd;clear hk;go_upto_region 2 with (fail)
 refine wp_region_lit ?_;refine wX ⟨gd,0,none⟩ (hlr) (fun _ _=>?_);go_simp;go_step;refine wR gb R Bgb.out (by rw [HS.out.1];exact q_size) (by rw [HS.out.1];rfl) HS.out.2 (fun w5 b5 k5 _ _=>?_);go_simp;go_step;have HK:=jX (HK.out.trans k5 (by simp;omega));have hlr:=HLr.out _ _ b5;clear k5 b5;go_wp2_with fail;refine bodyPost_ret (v:=.agg R) ?_ rfl ⟨rfl,HK.out⟩;rw [yac rfl];show (Result.ok (⟨gb,0,none⟩:Addr) w5).andThen (fun a w=>(loadVar 28 a).run prog w)=_
 rw [Result.andThen_ok,hlr]
theorem rC_zero:rC 0=(#[.bool false,.string ⟨#[]⟩,.bool false,.string ⟨#[]⟩]):=by
 have h:=rv_zero;rw [yam] at h;injection h
theorem yhc (a:Rat) (w:World):(binOp .neq 28 (.agg (rC a)) (.agg (#[.bool false,.string ⟨#[]⟩,.bool false,.string ⟨#[]⟩]))).run prog w = .ok (.bool (!decide (a=0))) w:=by
 rw [← rC_zero,← yam,← yam];unfold rv;rw [run_neq_struct,show (10000:Nat)=9997+3 from rfl,yhw,yeh]
 rfl
theorem eqlQ_zero (a:Rat) (w:World):(binOp .eql 28 (.agg (rC a)) (.agg (#[.bool false,.string ⟨#[]⟩,.bool false,.string ⟨#[]⟩]))).run prog w = .ok (.bool (decide (a=0))) w:=by
 rw [← rC_zero,← yam,← yam];exact eqQ_run a 0 w
theorem built9 (a1 a3 a5 a7 b:Bool) (a2 a4 a6 a8:ByteArray):prog.built 30 [(0,.agg #[.bool a1,.string a2,.bool a3,.string a4]),(1,.agg #[.bool a5,.string a6,.bool a7,.string a8]),(2,.bool b)]=some #[.bool a1,.string a2,.bool a3,.string a4,.bool a5,.string a6,.bool a7,.string a8,.bool b]:=by kernel_rfl
theorem yhF (p r:Rat) (b:Bool):prog.built 30 [(0,.agg (rC p)),(1,.agg (rC r)),(2,.bool b)]=some (qC ⟨p,r,b⟩):=built9 _ _ _ _ _ _ _ _ _
theorem RNeg_c (x:Qn) (w:World):Calls prog 171 #[.agg (qC x)] w fun e w'=>e = .returned (.agg (qC x.ng))∧Keep [] w w':=by
 have H1:=jX (QNeg_c x.p);rw [yam,yam] at H1;have hng:x.ng=⟨-x.p,x.r,decide (x.r≠0) && !x.neg⟩:=rfl;have HLp:=jX (fun (u:World) (g:Nat)=>ld_xp (w:=u) (g:=g) (x:=x) (t:=30));have HLr:=jX (fun (u:World) (g:Nat)=>ld_xr (w:=u) (g:=g) (x:=x) (t:=30));have HLn:=jX (fun (u:World) (g:Nat)=>ld_xn (w:=u) (g:=g) (x:=x) (t:=30));have HLy:=jX (fun (u:World) (g:Nat)=>ld_x (w:=u) (g:=g) (x:=x.ng) (t:=30));have HS:Hid ((qC x.ng).size=9∧(qC x.ng).all (·.oneCell')=true):=jX ⟨rfl,ybe _⟩;have HN:=jX (yhc x.r);have HBd:=jX (yhF (-x.p) x.r (decide (x.r≠0) && !x.neg));rw [← hng] at HBd;have hgQ:=eqQ_g;by_cases h0:x.r=0
 ·rw [decide_eq_true h0,Bool.not_true] at HN
  rw [decide_eq_false (by simpa using h0),Bool.false_and] at HBd;clear hng h0;generalize qC x.ng=Y at *;generalize rC (-x.p)=NP at *;generalize rC x.p=P at *;generalize rC x.r=R at *;generalize x.neg=n at *;generalize qC x=X at *;go_enter func171,ntmps171
  go_upto_region 1 with (fail)
  obtain⟨W,ga,gb,hW,ega,egb,Bga,Bgb,hga,hgb,hgW,HkW⟩:=al2h w (.cells X 30) (.cells #[.bool false,.string ⟨#[]⟩,.bool false,.string ⟨#[]⟩,.bool false,.string ⟨#[]⟩,.bool false,.string ⟨#[]⟩,.bool false] 30);rw [← hW];try rw [egb]
  try rw [ega]
  clear hW ega egb;refine yad (S:=fun u=>Keep [] W u) 15 (by kernel_rfl) (by kernel_rfl) (fun _ _ d _ _ h=>by cases d<;>exact h) ?_;have hS0:=Keep.drew [] W;generalize World.drew W=u at *;refine tV 0 hS0 (fun _ _=>?_);go_simp;go_step;refine tX 1 ⟨ga,0,none⟩ hS0 (fun w hw=>HLp.out _ _ (hw.heap Bga.out (by simp))) (fun _ _=>?_);go_simp;go_step;refine tV 3 hS0 (fun _ _=>?_);go_simp;go_step;refine tX 4 ⟨ga,4,none⟩ hS0 (fun w hw=>HLr.out _ _ (hw.heap Bga.out (by simp))) (fun _ _=>?_);go_simp;go_step;refine tV 5 hS0 (fun _ _=>?_);go_simp;go_step;refine tX 6 ⟨ga,4,none⟩ hS0 (fun w hw=>HLr.out _ _ (hw.heap Bga.out (by simp))) (fun _ _=>?_);go_simp;go_step;refine tV 7 hS0 (fun _ _=>?_);go_simp;go_step;refine' jG (v:=_) 8 hS0 (fun w hw=>?hak08) (fun K hK=>?kak08)
  case hak08=>(have hN:=HN.out;go_simp;try rfl)
  go_simp;go_step;refine tQ 2 60 #[.agg P] hS0 (H1.out _) (fun u2 hS0 _ _=>?_);go_simp;go_step;refine tV 9 hS0 (fun _ _=>?_);go_simp;go_step;refine tS 10 hS0 (fun _ _=>?_);go_simp;go_step;refine tS 11 hS0 (fun _ _=>?_);go_simp;go_step;refine tS 12 hS0 (fun _ _=>?_);go_simp;go_step;refine tV 13 hS0 (fun _ _=>?_);go_simp;go_step;refine yaG (v:=.agg Y) 14 (by rfl) (by decide) (by kernel_rfl) (by kernel_rfl) (by rfl) hS0 (fun w hw=>yaB 30 #[(0,.tmp 5),(1,.tmp 7),(2,.tmp 16)] #[(0,.agg NP),(1,.agg R),(2,.bool false)] Y rfl (by simp only [List.map_toArray,List.map_cons,List.map_nil];rfl) HBd.out) (fun _ _=>?_);go_simp;go_step;refine ⟨by kernel_rfl,?_⟩;simp only [List.drop_succ_cons,List.drop_zero];have bgb:=hS0.heap Bgb.out (by simp);refine wR gb Y bgb (by rw [HS.out.1];exact k_size) (by rw [HS.out.1];rfl) HS.out.2 (fun w5 b5 k5 _ _=>?_);go_simp;go_step;have HK:=jX ((HkW.out.tz hS0).trans k5 (by simp;omega));have hlr:=HLy.out _ _ b5;clear k5 b5 hS0 bgb;go_wp2_with fail;refine bodyPost_ret (v:=.agg Y) ?_ rfl ⟨rfl,HK.out⟩;rw [yac rfl];show (Result.ok (⟨gb,0,none⟩:Addr) w5).andThen (fun a w=>(loadVar 30 a).run prog w)=_
  rw [Result.andThen_ok,hlr]
 rw [decide_eq_false h0,Bool.not_false] at HN;rw [decide_eq_true h0,Bool.true_and] at HBd;clear hng h0;generalize qC x.ng=Y at *;generalize rC (-x.p)=NP at *;generalize rC x.p=P at *;generalize rC x.r=R at *;generalize x.neg=n at *;generalize qC x=X at *;cases n
 ·skip
  go_enter func171,ntmps171
  go_upto_region 1 with (fail)
  obtain⟨W,ga,gb,hW,ega,egb,Bga,Bgb,hga,hgb,hgW,HkW⟩:=al2h w (.cells X 30) (.cells #[.bool false,.string ⟨#[]⟩,.bool false,.string ⟨#[]⟩,.bool false,.string ⟨#[]⟩,.bool false,.string ⟨#[]⟩,.bool false] 30);rw [← hW];try rw [egb]
  try rw [ega]
  clear hW ega egb;refine yad (S:=fun u=>Keep [] W u) 15 (by kernel_rfl) (by kernel_rfl) (fun _ _ d _ _ h=>by cases d<;>exact h) ?_;have hS0:=Keep.drew [] W;generalize World.drew W=u at *;refine tV 0 hS0 (fun _ _=>?_);go_simp;go_step;refine tX 1 ⟨ga,0,none⟩ hS0 (fun w hw=>HLp.out _ _ (hw.heap Bga.out (by simp))) (fun _ _=>?_);go_simp;go_step;refine tV 3 hS0 (fun _ _=>?_);go_simp;go_step;refine tX 4 ⟨ga,4,none⟩ hS0 (fun w hw=>HLr.out _ _ (hw.heap Bga.out (by simp))) (fun _ _=>?_);go_simp;go_step;refine tV 5 hS0 (fun _ _=>?_);go_simp;go_step;refine tX 6 ⟨ga,4,none⟩ hS0 (fun w hw=>HLr.out _ _ (hw.heap Bga.out (by simp))) (fun _ _=>?_);go_simp;go_step;refine tV 7 hS0 (fun _ _=>?_);go_simp;go_step;refine' jG (v:=_) 8 hS0 (fun w hw=>?hak18) (fun K hK=>?kak18)
  case hak18=>(have hN:=HN.out;go_simp;try rfl)
  go_simp;go_step;refine tQ 2 60 #[.agg P] hS0 (H1.out _) (fun u2 hS0 _ _=>?_);go_simp;go_step;refine tV 9 hS0 (fun _ _=>?_);go_simp;go_step;refine tV 10 hS0 (fun _ _=>?_);go_simp;go_step;refine' jG (v:=_) 11 hS0 (fun w hw=>?hb11) (fun K hK=>?kb11)
  case hb11=>(have hn:=HLn.out _ _ (hw.heap Bga.out (by simp));go_simp;try rfl)
  go_simp;go_step;refine tV 12 hS0 (fun _ _=>?_);go_simp;go_step;refine tV 13 hS0 (fun _ _=>?_);go_simp;go_step;refine yaG (v:=.agg Y) 14 (by rfl) (by decide) (by kernel_rfl) (by kernel_rfl) (by rfl) hS0 (fun w hw=>yaB 30 #[(0,.tmp 5),(1,.tmp 7),(2,.tmp 16)] #[(0,.agg NP),(1,.agg R),(2,.bool true)] Y rfl (by simp only [List.map_toArray,List.map_cons,List.map_nil];rfl) HBd.out) (fun _ _=>?_);go_simp;go_step;refine ⟨by kernel_rfl,?_⟩;simp only [List.drop_succ_cons,List.drop_zero];have bgb:=hS0.heap Bgb.out (by simp);refine wR gb Y bgb (by rw [HS.out.1];exact k_size) (by rw [HS.out.1];rfl) HS.out.2 (fun w5 b5 k5 _ _=>?_);go_simp;go_step;have HK:=jX ((HkW.out.tz hS0).trans k5 (by simp;omega));have hlr:=HLy.out _ _ b5;clear k5 b5 hS0 bgb;go_wp2_with fail;refine bodyPost_ret (v:=.agg Y) ?_ rfl ⟨rfl,HK.out⟩;rw [yac rfl];show (Result.ok (⟨gb,0,none⟩:Addr) w5).andThen (fun a w=>(loadVar 30 a).run prog w)=_
  rw [Result.andThen_ok,hlr]
 skip
 go_enter func171,ntmps171
 go_upto_region 1 with (fail)
 obtain⟨W,ga,gb,hW,ega,egb,Bga,Bgb,hga,hgb,hgW,HkW⟩:=al2h w (.cells X 30) (.cells #[.bool false,.string ⟨#[]⟩,.bool false,.string ⟨#[]⟩,.bool false,.string ⟨#[]⟩,.bool false,.string ⟨#[]⟩,.bool false] 30);rw [← hW];try rw [egb]
 try rw [ega]
 clear hW ega egb;refine yad (S:=fun u=>Keep [] W u) 15 (by kernel_rfl) (by kernel_rfl) (fun _ _ d _ _ h=>by cases d<;>exact h) ?_;have hS0:=Keep.drew [] W;generalize World.drew W=u at *;refine tV 0 hS0 (fun _ _=>?_);go_simp;go_step;refine tX 1 ⟨ga,0,none⟩ hS0 (fun w hw=>HLp.out _ _ (hw.heap Bga.out (by simp))) (fun _ _=>?_);go_simp;go_step;refine tV 3 hS0 (fun _ _=>?_);go_simp;go_step;refine tX 4 ⟨ga,4,none⟩ hS0 (fun w hw=>HLr.out _ _ (hw.heap Bga.out (by simp))) (fun _ _=>?_);go_simp;go_step;refine tV 5 hS0 (fun _ _=>?_);go_simp;go_step;refine tX 6 ⟨ga,4,none⟩ hS0 (fun w hw=>HLr.out _ _ (hw.heap Bga.out (by simp))) (fun _ _=>?_);go_simp;go_step;refine tV 7 hS0 (fun _ _=>?_);go_simp;go_step;refine' jG (v:=_) 8 hS0 (fun w hw=>?hak28) (fun K hK=>?kak28)
 case hak28=>(have hN:=HN.out;go_simp;try rfl)
 go_simp;go_step;refine tQ 2 60 #[.agg P] hS0 (H1.out _) (fun u2 hS0 _ _=>?_);go_simp;go_step;refine tV 9 hS0 (fun _ _=>?_);go_simp;go_step;refine tV 10 hS0 (fun _ _=>?_);go_simp;go_step;refine' jG (v:=_) 11 hS0 (fun w hw=>?hc11) (fun K hK=>?kc11)
 case hc11=>(have hn:=HLn.out _ _ (hw.heap Bga.out (by simp));go_simp;try rfl)
 go_simp;go_step;refine tV 12 hS0 (fun _ _=>?_);go_simp;go_step;refine tV 13 hS0 (fun _ _=>?_);go_simp;go_step;refine yaG (v:=.agg Y) 14 (by rfl) (by decide) (by kernel_rfl) (by kernel_rfl) (by rfl) hS0 (fun w hw=>yaB 30 #[(0,.tmp 5),(1,.tmp 7),(2,.tmp 16)] #[(0,.agg NP),(1,.agg R),(2,.bool false)] Y rfl (by simp only [List.map_toArray,List.map_cons,List.map_nil];rfl) HBd.out) (fun _ _=>?_);go_simp;go_step;refine ⟨by kernel_rfl,?_⟩;simp only [List.drop_succ_cons,List.drop_zero];have bgb:=hS0.heap Bgb.out (by simp);refine wR gb Y bgb (by rw [HS.out.1];exact k_size) (by rw [HS.out.1];rfl) HS.out.2 (fun w5 b5 k5 _ _=>?_);go_simp;go_step;have HK:=jX ((HkW.out.tz hS0).trans k5 (by simp;omega));have hlr:=HLy.out _ _ b5;clear k5 b5 hS0 bgb;go_wp2_with fail;refine bodyPost_ret (v:=.agg Y) ?_ rfl ⟨rfl,HK.out⟩;rw [yac rfl];show (Result.ok (⟨gb,0,none⟩:Addr) w5).andThen (fun a w=>(loadVar 30 a).run prog w)=_
 rw [Result.andThen_ok,hlr]
end Go.Proofs.YtpgffjjpiafhpaaGreatDoor
