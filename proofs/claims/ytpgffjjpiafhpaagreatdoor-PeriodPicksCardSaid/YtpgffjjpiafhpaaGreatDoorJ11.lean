/- Parts of a proof: Rc Rt Rv. -/
import Derived.Test.YtpgffjjpiafhpaaGreatDoorJ02
import Derived.Test.YtpgffjjpiafhpaaGreatDoorJ10
set_option linter.unusedVariables false
set_option linter.unusedSimpArgs false
set_option maxRecDepth 100000
set_option maxHeartbeats 8000000
namespace Go.Proofs.YtpgffjjpiafhpaaGreatDoor
open Go.RowKit Tryz
theorem yag {P:Program} {o:Oper} {a:Act} {w:World} {K:Act→World→Prop} {Q:Exit→Act→World→Prop} (f:FuncId) (args:Array Value) (h:(execOp a.eval o).run P w = .ok (.enter f args) w)
  (hc:Calls P f args w fun e w''=>∃ v,e = .returned v∧K (a.put o.dst v) w''):o.wp P a w K Q:=by
 unfold Oper.wp;rw [h,Oper.upon_enter];refine hc.mono ?_;rintro e w ⟨v,rfl,hk⟩;exact hk
theorem cross_eq (na nb nd:Bool) (sa sb da db sd:ByteArray) (heq:∀ w,(binOp .eql 26 (.agg #[.bool false,.string da]) (.agg #[.bool false,.string db])).run prog w = .ok (.bool true) w)
  (Hd:Hid (∀ w,Calls prog 166 #[.agg #[.bool na,.string sa,.bool false,.string da]] w fun e w'=>e = .returned (.agg #[.bool nd,.string sd])∧Keep [] w w')) (w:World) :
  Calls prog 154 #[.agg #[.bool na,.string sa,.bool false,.string da],.agg #[.bool nb,.string sb,.bool false,.string db]] w fun e w'=>e = .returned (.tuple #[.agg #[.bool na,.string sa],.agg #[.bool nb,.string sb],.agg #[.bool nd,.string sd]])∧Keep [] w w':=by
 have hgd:=eqZ_g;go_enter func154,ntmps154
 go_wp2_with fail;obtain⟨W,ga,gb,gc,gd,ge,hW,ega,egb,egc,egd,ege,Bga,Bgb,Bgc,Bgd,Bge,hga,hgb,hgc,hgd,hge,hgW,HkW⟩:=al5h w (.cells #[.bool na,.string sa,.bool false,.string da] 28) (.cells #[.bool nb,.string sb,.bool false,.string db] 28) (.cells #[.bool false,.string ⟨#[]⟩] 26) (.cells #[.bool false,.string ⟨#[]⟩] 26) (.cells #[.bool false,.string ⟨#[]⟩] 26);rw [← hW];try rw [ege]
 try rw [egd]
 try rw [egc]
 try rw [egb]
 try rw [ega]
 clear hW ega egb egc egd ege;go_wp2_with fail
 have HSk:Hid (∀ W',Keep [gc,gd,ge] W W'→(∀ i,W'.cell? ⟨ga,i,none⟩=(#[.bool na,.string sa,.bool false,.string da]:Array Value)[i]?)∧(∀ i,W'.cell? ⟨gb,i,none⟩=(#[.bool nb,.string sb,.bool false,.string db]:Array Value)[i]?)) :=
  fun W' hk=>⟨yab (hk.heap Bga.out (by simp;omega)),yab (hk.heap Bgb.out (by simp;omega))⟩
 refine yah (S:=fun W'=>(∀ i,W'.cell? ⟨ga,i,none⟩=(#[.bool na,.string sa,.bool false,.string da]:Array Value)[i]?)∧(∀ i,W'.cell? ⟨gb,i,none⟩=(#[.bool nb,.string sb,.bool false,.string db]:Array Value)[i]?)) 8 (by kernel_rfl) (by kernel_rfl) (fun _ _ d _ _ h=>by cases d<;>exact h) ?_;have hk0:=Keep.drew [gc,gd,ge] W;have hS0:=HSk.out _ hk0;have Bgc:=jX ((Keep.drew [] W).heap Bgc.out (by simp));have Bgd:=jX ((Keep.drew [] W).heap Bgd.out (by simp));have Bge:=jX ((Keep.drew [] W).heap Bge.out (by simp));generalize W.drew=u0 at *;refine sV (h1:=fun w hw=>by (obtain⟨s1,s2⟩:=hw;go_simp;try rfl)) 0 hS0 ?_;go_simp;refine sV (h1:=fun w hw=>by (obtain⟨s1,s2⟩:=hw;go_simp;try rfl)) 1 hS0 ?_;go_simp;refine sV (h1:=fun w hw=>by (obtain⟨s1,s2⟩:=hw;go_simp;try rfl)) 2 hS0 ?_;go_simp;refine sV (h1:=fun w hw=>by (obtain⟨s1,s2⟩:=hw;go_simp;try rfl)) 3 hS0 ?_;go_simp;refine sV (h1:=fun w hw=>by (obtain⟨s1,s2⟩:=hw;go_simp;try rfl)) 4 hS0 ?_;go_simp;refine jO 5 (fun K hK=>?_);refine yag 166 #[.agg #[.bool na,.string sa,.bool false,.string da]] (by go_simp) ?_;refine (Hd.out u0).mono ?_;rintro e u1 ⟨rfl,hk2⟩;have hk0:=hk0.trans hk2 (by simp);have hS0:=HSk.out _ hk0;have Bgc:=jX (hk2.heap Bgc.out (by simp));have Bgd:=jX (hk2.heap Bgd.out (by simp));have Bge:=jX (hk2.heap Bge.out (by simp));refine ⟨_,rfl,?_⟩;refine hK _ _ hS0 ?_;clear hK K hk2;have pgc:=yab Bgc.out;have fgc:=yae Bgc.out;have lgc:=yaa Bgc.out;refine jO 6 (fun K hK=>?_);go_simp;obtain⟨v1,hv1,bgc1,hkv⟩:=st2 (x:=.bool na) (y:=.string sa) Bgc.out;rw [← hv1];have hk1:=hk0.trans hkv (by simp);have hS1:=HSk.out _ hk1;have Bgc1:=jX bgc1;have Bgd1:=jX (hkv.heap Bgd.out (by simp;omega));have Bge1:=jX (hkv.heap Bge.out (by simp;omega));refine hK _ _ hS1 ?_;clear hK K hv1 bgc1 hkv Bgc Bgd Bge hk0 hS0 pgc fgc lgc;have pgd:=yab Bgd1.out;have fgd:=yae Bgd1.out;have lgd:=yaa Bgd1.out;refine jO 7 (fun K hK=>?_);go_simp;obtain⟨v2,hv2,bgd2,hkv⟩:=st2 (x:=.bool nb) (y:=.string sb) Bgd1.out;rw [← hv2];have hk2:=hk1.trans hkv (by simp);have hS2:=HSk.out _ hk2;have Bgd:=jX bgd2;have Bgc:=jX (hkv.heap Bgc1.out (by simp;omega));have Bge:=jX (hkv.heap Bge1.out (by simp;omega));refine hK _ _ hS2 ?_;clear hK K hv2 bgd2 hkv Bgc1 Bgd1 Bge1 hk1 hS1 pgd fgd lgd;refine ⟨by kernel_rfl,?_⟩;simp only [List.drop_succ_cons,List.drop_zero];have HkW:=jX (HkW.out.trans hk2 (by simp;omega));clear hS2 hk2 HSk;obtain⟨pgc,fgc,lgc⟩:=jQ Bgc;obtain⟨pgd,fgd,lgd⟩:=jQ Bgd;obtain⟨pge,fge,lge⟩:=jQ Bge;go_wp2_with fail;refine bodyPost_ret (v:=.tuple #[.agg #[.bool na,.string sa],.agg #[.bool nb,.string sb],.agg #[.bool nd,.string sd]]) ?_ rfl ⟨rfl,by repeat (first|(with_reducible exact HkW.out)|(refine Keep.sP ?_ _ _ _ (by omega))|(refine Keep.aP ?_ _)|(refine Keep.dP ?_))⟩;simp [results,Tryz.results154,go_sem];go_simp
theorem cross_ne (na nb nd ne n1 n2 n3:Bool) (sa sb da db sd se s1 s2 s3:ByteArray) (heq:∀ w,(binOp .eql 26 (.agg #[.bool false,.string da]) (.agg #[.bool false,.string db])).run prog w = .ok (.bool false) w)
  (Hda:Hid (∀ w,Calls prog 166 #[.agg #[.bool na,.string sa,.bool false,.string da]] w fun e w'=>e = .returned (.agg #[.bool nd,.string sd])∧Keep [] w w'))
  (Hdb:Hid (∀ w,Calls prog 166 #[.agg #[.bool nb,.string sb,.bool false,.string db]] w fun e w'=>e = .returned (.agg #[.bool ne,.string se])∧Keep [] w w'))
  (Hm1:Hid (∀ w,Calls prog 169 #[.agg #[.bool na,.string sa],.agg #[.bool ne,.string se]] w fun e w'=>e = .returned (.agg #[.bool n1,.string s1])∧Keep [] w w'))
  (Hm2:Hid (∀ w,Calls prog 169 #[.agg #[.bool nb,.string sb],.agg #[.bool nd,.string sd]] w fun e w'=>e = .returned (.agg #[.bool n2,.string s2])∧Keep [] w w'))
  (Hm3:Hid (∀ w,Calls prog 169 #[.agg #[.bool nd,.string sd],.agg #[.bool ne,.string se]] w fun e w'=>e = .returned (.agg #[.bool n3,.string s3])∧Keep [] w w')) (w:World) :
  Calls prog 154 #[.agg #[.bool na,.string sa,.bool false,.string da],.agg #[.bool nb,.string sb,.bool false,.string db]] w fun e w'=>e = .returned (.tuple #[.agg #[.bool n1,.string s1],.agg #[.bool n2,.string s2],.agg #[.bool n3,.string s3]])∧Keep [] w w':=by
 have hgd:=eqZ_g;go_enter func154,ntmps154
 go_wp2_with fail;obtain⟨W,ga,gb,gc,gd,ge,hW,ega,egb,egc,egd,ege,Bga,Bgb,Bgc,Bgd,Bge,hga,hgb,hgc,hgd,hge,hgW,HkW⟩:=al5h w (.cells #[.bool na,.string sa,.bool false,.string da] 28) (.cells #[.bool nb,.string sb,.bool false,.string db] 28) (.cells #[.bool false,.string ⟨#[]⟩] 26) (.cells #[.bool false,.string ⟨#[]⟩] 26) (.cells #[.bool false,.string ⟨#[]⟩] 26);rw [← hW];try rw [ege]
 try rw [egd]
 try rw [egc]
 try rw [egb]
 try rw [ega]
 clear hW ega egb egc egd ege;go_wp2_with fail
 have HSk:Hid (∀ W',Keep [gc,gd,ge] W W'→(∀ i,W'.cell? ⟨ga,i,none⟩=(#[.bool na,.string sa,.bool false,.string da]:Array Value)[i]?)∧(∀ i,W'.cell? ⟨gb,i,none⟩=(#[.bool nb,.string sb,.bool false,.string db]:Array Value)[i]?)) :=
  fun W' hk=>⟨yab (hk.heap Bga.out (by simp;omega)),yab (hk.heap Bgb.out (by simp;omega))⟩
 refine yah (S:=fun W'=>(∀ i,W'.cell? ⟨ga,i,none⟩=(#[.bool na,.string sa,.bool false,.string da]:Array Value)[i]?)∧(∀ i,W'.cell? ⟨gb,i,none⟩=(#[.bool nb,.string sb,.bool false,.string db]:Array Value)[i]?)) 17 (by kernel_rfl) (by kernel_rfl) (fun _ _ d _ _ h=>by cases d<;>exact h) ?_;have hk0:=Keep.drew [gc,gd,ge] W;have hS0:=HSk.out _ hk0;have Bgc:=jX ((Keep.drew [] W).heap Bgc.out (by simp));have Bgd:=jX ((Keep.drew [] W).heap Bgd.out (by simp));have Bge:=jX ((Keep.drew [] W).heap Bge.out (by simp));generalize W.drew=u0 at *;refine sV (h1:=fun w hw=>by (obtain⟨s1,s2⟩:=hw;go_simp;try rfl)) 0 hS0 ?_;go_simp;refine sV (h1:=fun w hw=>by (obtain⟨s1,s2⟩:=hw;go_simp;try rfl)) 1 hS0 ?_;go_simp;refine sV (h1:=fun w hw=>by (obtain⟨s1,s2⟩:=hw;go_simp;try rfl)) 2 hS0 ?_;go_simp;refine sV (h1:=fun w hw=>by (obtain⟨s1,s2⟩:=hw;go_simp;try rfl)) 5 hS0 ?_;go_simp;refine sV (h1:=fun w hw=>by (obtain⟨s1,s2⟩:=hw;go_simp;try rfl)) 6 hS0 ?_;go_simp;refine sV (h1:=fun w hw=>by (obtain⟨s1,s2⟩:=hw;go_simp;try rfl)) 7 hS0 ?_;go_simp;refine sV (h1:=fun w hw=>by (obtain⟨s1,s2⟩:=hw;go_simp;try rfl)) 10 hS0 ?_;go_simp;refine sV (h1:=fun w hw=>by (obtain⟨s1,s2⟩:=hw;go_simp;try rfl)) 12 hS0 ?_;go_simp;refine jO 3 (fun K hK=>?_);refine yag 166 #[.agg #[.bool nb,.string sb,.bool false,.string db]] (by go_simp) ?_;refine (Hdb.out u0).mono ?_;rintro e u1 ⟨rfl,hk2⟩;have hk0:=hk0.trans hk2 (by simp);have hS0:=HSk.out _ hk0;have Bgc:=jX (hk2.heap Bgc.out (by simp));have Bgd:=jX (hk2.heap Bgd.out (by simp));have Bge:=jX (hk2.heap Bge.out (by simp));refine ⟨_,rfl,?_⟩;refine hK _ _ hS0 ?_;clear hK K hk2;refine jO 4 (fun K hK=>?_);refine yag 169 #[.agg #[.bool na,.string sa],.agg #[.bool ne,.string se]] (by go_simp) ?_;refine (Hm1.out u1).mono ?_;rintro e u2 ⟨rfl,hk2⟩;have hk0:=hk0.trans hk2 (by simp);have hS0:=HSk.out _ hk0;have Bgc:=jX (hk2.heap Bgc.out (by simp));have Bgd:=jX (hk2.heap Bgd.out (by simp));have Bge:=jX (hk2.heap Bge.out (by simp));refine ⟨_,rfl,?_⟩;refine hK _ _ hS0 ?_;clear hK K hk2;refine jO 8 (fun K hK=>?_);refine yag 166 #[.agg #[.bool na,.string sa,.bool false,.string da]] (by go_simp) ?_;refine (Hda.out u2).mono ?_;rintro e u3 ⟨rfl,hk2⟩;have hk0:=hk0.trans hk2 (by simp);have hS0:=HSk.out _ hk0;have Bgc:=jX (hk2.heap Bgc.out (by simp));have Bgd:=jX (hk2.heap Bgd.out (by simp));have Bge:=jX (hk2.heap Bge.out (by simp));refine ⟨_,rfl,?_⟩;refine hK _ _ hS0 ?_;clear hK K hk2;refine jO 9 (fun K hK=>?_);refine yag 169 #[.agg #[.bool nb,.string sb],.agg #[.bool nd,.string sd]] (by go_simp) ?_;refine (Hm2.out u3).mono ?_;rintro e u4 ⟨rfl,hk2⟩;have hk0:=hk0.trans hk2 (by simp);have hS0:=HSk.out _ hk0;have Bgc:=jX (hk2.heap Bgc.out (by simp));have Bgd:=jX (hk2.heap Bgd.out (by simp));have Bge:=jX (hk2.heap Bge.out (by simp));refine ⟨_,rfl,?_⟩;refine hK _ _ hS0 ?_;clear hK K hk2;refine jO 11 (fun K hK=>?_);refine yag 166 #[.agg #[.bool na,.string sa,.bool false,.string da]] (by go_simp) ?_;refine (Hda.out u4).mono ?_;rintro e u5 ⟨rfl,hk2⟩;have hk0:=hk0.trans hk2 (by simp);have hS0:=HSk.out _ hk0;have Bgc:=jX (hk2.heap Bgc.out (by simp));have Bgd:=jX (hk2.heap Bgd.out (by simp));have Bge:=jX (hk2.heap Bge.out (by simp));refine ⟨_,rfl,?_⟩;refine hK _ _ hS0 ?_;clear hK K hk2;refine jO 13 (fun K hK=>?_);refine yag 166 #[.agg #[.bool nb,.string sb,.bool false,.string db]] (by go_simp) ?_;refine (Hdb.out u5).mono ?_;rintro e u6 ⟨rfl,hk2⟩;have hk0:=hk0.trans hk2 (by simp);have hS0:=HSk.out _ hk0;have Bgc:=jX (hk2.heap Bgc.out (by simp));have Bgd:=jX (hk2.heap Bgd.out (by simp));have Bge:=jX (hk2.heap Bge.out (by simp));refine ⟨_,rfl,?_⟩;refine hK _ _ hS0 ?_;clear hK K hk2;refine jO 14 (fun K hK=>?_);refine yag 169 #[.agg #[.bool nd,.string sd],.agg #[.bool ne,.string se]] (by go_simp) ?_;refine (Hm3.out u6).mono ?_;rintro e u7 ⟨rfl,hk2⟩;have hk0:=hk0.trans hk2 (by simp);have hS0:=HSk.out _ hk0;have Bgc:=jX (hk2.heap Bgc.out (by simp));have Bgd:=jX (hk2.heap Bgd.out (by simp));have Bge:=jX (hk2.heap Bge.out (by simp));refine ⟨_,rfl,?_⟩;refine hK _ _ hS0 ?_;clear hK K hk2;have pgc:=yab Bgc.out;have fgc:=yae Bgc.out;have lgc:=yaa Bgc.out;refine jO 15 (fun K hK=>?_);go_simp;obtain⟨v1,hv1,bgc1,hkv⟩:=st2 (x:=.bool n1) (y:=.string s1) Bgc.out;rw [← hv1];have hk1:=hk0.trans hkv (by simp);have hS1:=HSk.out _ hk1;have Bgc1:=jX bgc1;have Bgd1:=jX (hkv.heap Bgd.out (by simp;omega));have Bge1:=jX (hkv.heap Bge.out (by simp;omega));refine hK _ _ hS1 ?_;clear hK K hv1 bgc1 hkv Bgc Bgd Bge hk0 hS0 pgc fgc lgc;have pgd:=yab Bgd1.out;have fgd:=yae Bgd1.out;have lgd:=yaa Bgd1.out;refine jO 16 (fun K hK=>?_);go_simp;obtain⟨v2,hv2,bgd2,hkv⟩:=st2 (x:=.bool n2) (y:=.string s2) Bgd1.out;rw [← hv2];have hk2:=hk1.trans hkv (by simp);have hS2:=HSk.out _ hk2;have Bgd:=jX bgd2;have Bgc:=jX (hkv.heap Bgc1.out (by simp;omega));have Bge:=jX (hkv.heap Bge1.out (by simp;omega));refine hK _ _ hS2 ?_;clear hK K hv2 bgd2 hkv Bgc1 Bgd1 Bge1 hk1 hS1 pgd fgd lgd;refine ⟨by kernel_rfl,?_⟩;simp only [List.drop_succ_cons,List.drop_zero];have HkW:=jX (HkW.out.trans hk2 (by simp;omega));clear hS2 hk2 HSk;obtain⟨pgc,fgc,lgc⟩:=jQ Bgc;obtain⟨pgd,fgd,lgd⟩:=jQ Bgd;obtain⟨pge,fge,lge⟩:=jQ Bge;go_wp2_with fail;refine bodyPost_ret (v:=.tuple #[.agg #[.bool n1,.string s1],.agg #[.bool n2,.string s2],.agg #[.bool n3,.string s3]]) ?_ rfl ⟨rfl,by repeat (first|(with_reducible exact HkW.out)|(refine Keep.sP ?_ _ _ _ (by omega))|(refine Keep.aP ?_ _)|(refine Keep.dP ?_))⟩;simp [results,Tryz.results154,go_sem];go_simp
theorem cross_c (a b:Rat) (ha:FitQ 10000000000 a) (hb:FitQ 10000000000 b) (w:World) :
  Calls prog 154 #[rv a,rv b] w fun e w'=>e = .returned (.tuple #[zv (crX a b),zv (crY a b),zv (crD a b)])∧Keep [] w w':=by
 have heq:=eqD_run a b;unfold crX crY crD;by_cases h:a.den=b.den
 ·rw [if_pos h,if_pos h,if_pos h]
  have hdt:decide (a.den=b.den)=true:=by simpa using h
  rw [hdt] at heq;exact cross_eq _ _ _ _ _ _ _ _ heq (Den_c a) w
 rw [if_neg h,if_neg h,if_neg h];have hdt:decide (a.den=b.den)=false:=by simpa using h
 rw [hdt] at heq;exact cross_ne _ _ _ _ _ _ _ _ _ _ _ _ _ _ _ _ heq (Den_c a) (Den_c b) (Mul_c a.num b.den (ha.1.mono (by decide)) (hb.2.mono (by decide))) (Mul_c b.num a.den (hb.1.mono (by decide)) (ha.2.mono (by decide))) (Mul_c a.den b.den (ha.2.mono (by decide)) (hb.2.mono (by decide))) w
def DivPost (w0:World) (A B:Nat) (e:Ending) (w':World):Prop:=∃ v1 v2,e = .returned (.tuple #[v1,v2])∧DR w' v1 (A / B)∧DR w' v2 (A % B)∧Keep [] w0 w'
theorem quo_nat (a b:Nat):Int.tdiv (a:Int) (b:Int)=((a / b:Nat):Int):=rfl
theorem rem_nat (a b:Nat):Int.tmod (a:Int) (b:Int)=((a % b:Nat):Int):=rfl
theorem divide_s (w:World) (v1 v2:Value) (A B:Nat) (h1:DR w v1 A) (h2:DR w v2 B) (hA:Ln A≤7) (hB:Ln B≤7) (hB0:0<B) :
  Calls prog 178 #[v1,v2] w (DivPost w A B):=by
 have HS1:=jX (ygg w v1 A h1 hA);have HS2:=jX (ygg w v2 B h2 hB);have hA9:A<72057594037927936:=Nat.lt_of_lt_of_le (Ln_lt A) (Nat.le_trans (Nat.pow_le_pow_right (by decide) hA) (by decide));have hB9:B<72057594037927936:=Nat.lt_of_lt_of_le (Ln_lt B) (Nat.le_trans (Nat.pow_le_pow_right (by decide) hB) (by decide));have HL1:Hid (∀ w',Calls prog 202 #[.int .i64 ((A / B:Nat):Int)] w' (Digits w' (A / B))):=fun w'=>large_c w' _ (by have:=Nat.div_le_self A B;omega);have HL2:Hid (∀ w',Calls prog 202 #[.int .i64 ((A % B:Nat):Int)] w' (Digits w' (A % B))):=fun w'=>large_c w' _ (by have:=Nat.mod_lt A hB0;omega);obtain⟨ao,ac,rfl,_⟩:=h1.form;obtain⟨bo,bc,rfl,_⟩:=h2.form;clear h1 h2 hA hB;generalize Ln A=n at *;generalize Ln B=m at *;have hq:=quo_nat A B;have hr:=rem_nat A B;have hq2:(A:Int) / (B:Int)=((A / B:Nat):Int):=rfl;have hr2:(A:Int) % (B:Int)=((A % B:Nat):Int):=rfl;have hB00:¬ B=0:=by omega
 have hq9:A / B<72057594037927936:=by have:=Nat.div_le_self A B;omega
 have hr9:A % B<72057594037927936:=by have:=Nat.mod_lt A hB0;omega
 have hbz:¬ ((B:Int)=0):=by omega
 have hbz2:((B:Int) == 0)=false:=by rw [beq_eq_false_iff_ne];omega
 have hbp:(0:Int)<(B:Int):=by omega
 generalize hQ:A / B=Q at *;generalize hR:A % B=R at *;have HQ:=jX hQ;have HR:=jX hR;clear hQ hR;go_enter func178,ntmps178
 go_wp2_with fail;refine HS1.out.mono ?_;rintro e w2 ⟨rfl,rfl⟩;dsimp only;go_wp2_with fail;refine HS2.out.mono ?_;rintro e w3 ⟨rfl,rfl⟩;dsimp only;clear HS1 HS2;go_wp2_with fail;refine yah (S:=fun _=>True) 9 (by kernel_rfl) (by kernel_rfl) (fun _ _ d _ _ h=>by cases d<;>exact h) ?_;have hk0:=Keep.drew [] w3;generalize w3.drew=u0 at *;refine sV 0 trivial ?_;go_simp;refine sV 1 trivial ?_;go_simp;refine sV 2 trivial ?_;go_simp;refine sV 4 trivial ?_;go_simp;refine sV 5 trivial ?_;go_simp;refine sV 6 trivial ?_;go_simp;refine fO ?_;have hw1:IntKind.i64.wrap (Q:Int)=(Q:Int):=by simp [IntKind.wrap,IntKind.bits,IntKind.signed];omega
 have hw2:IntKind.i64.wrap (R:Int)=(R:Int):=by simp [IntKind.wrap,IntKind.bits,IntKind.signed];omega
 refine jO 3 (fun K hK=>?_);refine yag 202 #[.int .i64 (Q:Int)] (by go_simp) ?_;refine (HL1.out _).mono ?_;rintro e u1 ⟨x1,rfl,hd1,hk1⟩;refine ⟨_,rfl,?_⟩;refine hK _ _ trivial ?_;clear hK K;refine jO 7 (fun K hK=>?_);refine yag 202 #[.int .i64 (R:Int)] (by go_simp) ?_;refine (HL2.out _).mono ?_;rintro e u2 ⟨x2,rfl,hd2,hk2⟩;refine ⟨_,rfl,?_⟩;refine hK _ _ trivial ?_;clear hK K;have HD1:=jX (hd1.later hk2);have HD2:=jX hd2;have HK:=jX ((hk0.tz hk1).tz hk2);clear hd1 hd2 hk0 hk1 hk2 HL1 HL2;refine sV 8 trivial ?_;go_simp;refine ⟨by kernel_rfl,?_⟩;simp only [List.drop_succ_cons,List.drop_zero];go_wp2_with fail;go_ret2
 exact ⟨x1,x2,rfl,by rw [HQ.out];exact HD1.out,by rw [HR.out];exact HD2.out,HK.out⟩
theorem yiz (w:World):DR w (.slice none 0 0) 0:=⟨.inl ⟨rfl,by unfold digs;rfl⟩,fun a n c e=>by injection e with _ e2 e3;omega⟩
theorem ydY (w:World) (v:Value) (N:Nat) (h:DR w v N) (h9:Ln N≤1000000000) :
  Calls prog 201 #[v] w fun e w'=>∃ (y:Int) (f:Bool),e = .returned (.tuple #[.int .i64 y,.bool f])∧w'=w∧(7<Ln N→f=false):=by
 by_cases h7:Ln N≤7
 ·refine (ygg w v N h h7).mono ?_
  rintro e w' ⟨h1,h2⟩;exact ⟨_,_,h1,h2,fun h=>by omega⟩
 refine (small_no w v N h (by omega) h9).mono ?_;rintro e w' ⟨h1,h2⟩;exact ⟨_,_,h1,h2,fun h=>rfl⟩
theorem divide_l (w:World) (v1 v2:Value) (A B:Nat) (h1:DR w v1 A) (h2:DR w v2 B) (hA:Ln A≤1000000000) (hB:Ln B≤1000000000) (hB7:7<Ln B) (hAB:A<B) :
  Calls prog 178 #[v1,v2] w (DivPost w A B):=by
 have HS1:=jX (ydY w v1 A h1 hA);have HS2:=jX (ydY w v2 B h2 hB);have HC:=jX (yaQ w v1 v2 A B h1 h2 hA hB);rw [ygi hAB] at HC;have HE1:=jX (Nat.div_eq_of_lt hAB);have HE2:=jX (Nat.mod_eq_of_lt hAB);have H1:=jX h1;have HB7:=jX hB7;obtain⟨ao,ac,rfl,_⟩:=h1.form;obtain⟨bo,bc,rfl,_⟩:=h2.form;clear h1 h2 hA hB hAB hB7;generalize Ln A=n at *;generalize Ln B=m at *;go_enter func178,ntmps178
 go_wp2_with fail;refine HS1.out.mono ?_;rintro e w2 ⟨y1,f1,rfl,rfl,_⟩;dsimp only;go_wp2_with fail;refine HS2.out.mono ?_;rintro e w3 ⟨y2,f2,rfl,rfl,hf2⟩;obtain rfl:=hf2 HB7.out;dsimp only;clear HS1 HS2 hf2;cases f1
 ·go_wp2_with fail
  refine HC.out.mono ?_;rintro e w4 ⟨rfl,hk⟩;have Hk:=jX hk;clear hk;dsimp only;go_wp2_with fail;go_ret2
  exact ⟨_,_,rfl,by rw [HE1.out];exact yiz _,by rw [HE2.out];exact H1.out.later Hk.out,Hk.out⟩
 go_wp2_with fail;refine HC.out.mono ?_;rintro e w4 ⟨rfl,hk⟩;have Hk:=jX hk;clear hk;dsimp only;go_wp2_with fail;go_ret2
 exact ⟨_,_,rfl,by rw [HE1.out];exact yiz _,by rw [HE2.out];exact H1.out.later Hk.out,Hk.out⟩
def DigitsN (w0:World) (N:Nat) (e:Ending) (w':World):Prop:=∃ v,e = .returned v∧DR w' v N∧Keep [] w0 w'∧∀ g,v.ownBlock=some g→w0.heap.size≤g
theorem yiw (w:World) (sv:Value) (l:List Nat) (hl9:l.length≤1000000000000) (h:RowR w sv (ints l)) (hcap:CapOk sv) :
  Calls prog 179 #[sv] w fun e w'=>Trimmed w l e∧w'=w∧∀ v,e = .returned v→v.ownBlock=sv.ownBlock:=by
 rcases h with ⟨rfl,h0⟩|⟨g,o,c,rfl,hg,hc⟩
 ·have h1:l=[]:=by simpa [ints] using h0
  subst h1;go_enter func179,ntmps179
  go_wp2_with fail;go_rounds 1
  go_wp2_with fail;go_ret
  exact ⟨⟨_,rfl,.inl ⟨rfl,rfl⟩,fun a n c e=>by injection e with _ e2 e3;omega⟩,rfl,fun v h=>by injection h with h;subst h;rfl⟩
 rw [ybo] at hcap ⊢;have hlc:l.length≤c:=hcap _ _ _ rfl;have Hc:=jX hc;clear hc hcap;go_enter func179,ntmps179
 go_wp2_with fail;go_loop [3] (fun x=>∃ m:Nat,m≤l.length∧x = .int .i64 (m:Int)∧trimD (l.take m)=trimD l) (fun x=>(intOf x).toNat)
 case atStart=>exact ⟨l.length,Nat.le_refl _,rfl,by rw [List.take_length]⟩
 case round =>
  obtain⟨m,hm,rfl,ht⟩:=hrel;have Ht:=jX ht;clear ht
  match m,hm,Ht with
  | 0,hm,Ht =>
   have hT:=jX (ydc (c:=c) hm hlc Ht.out.symm hg Hc.out);go_wp2_with fail;go_ret
   exact ⟨hT.out,rfl,fun v h=>by injection h with h;subst h;rfl⟩
  | k+1,hm,Ht =>
   have hcell:=Hc.out k _ (ygn l k (by omega));have hi:(((k+1:Nat):Int)-1).toNat=k:=by omega
   by_cases hz:l[k]=0
   ·have hstep:=ycf l k (by omega) hz
    rw [hz] at hcell;have Hstep:=jX (hstep.symm.trans Ht.out);clear hstep hz;go_wp2_with fail;go_round
    case rel=>exact ⟨k,by omega,congrArg (Value.int .i64) (by omega),Hstep.out⟩
    case measure=>simp [intOf]
   have hstep:=ycH l k (by omega) hz;have hT:=jX (ydc (c:=c) hm hlc (Ht.out.symm.trans hstep) hg Hc.out);have hne:(((l[k]:Nat):Int) == 0)=false:=by rw [beq_eq_false_iff_ne];omega
   generalize l[k]=d at *;clear hstep hz;go_wp2_with fail;go_ret
   exact ⟨hT.out,rfl,fun v h=>by injection h with h;subst h;rfl⟩
theorem yit (w:World) (v1 v2:Value) (A B:Nat) (h1:DR w v1 A) (h2:DR w v2 B) (hA:Ln A≤1000000000) (hBA:B≤A) :
  Calls prog 181 #[v1,v2] w (DigitsN w (A-B)):=by
 obtain⟨i0,hi,hz0,hz1,hz2⟩:=yaN infoInt;have Hi:=jX (And.intro hi (And.intro hz0 (And.intro hz1 hz2)));clear hi hz0 hz1 hz2;have hB:Ln B≤1000000000:=Nat.le_trans (Ln_mono hBA) hA;obtain⟨ao,ac,rfl,_⟩:=h1.form;obtain⟨bo,bc,rfl,_⟩:=h2.form;obtain⟨n,hn⟩:∃ n,Ln A=n:=⟨_,rfl⟩;obtain⟨m,hm⟩:∃ m,Ln B=m:=⟨_,rfl⟩;have Hca:Hid (∀ w',Keep [] w w'→∀ i,i<n→∃ g o,ao=some ⟨g,o,none⟩∧g<w'.heap.size∧w'.cell? ⟨g,o+i,none⟩=some (.int .i64 ((A / 256 ^ i % 256:Nat):Int))):=fun w' hk i hi=>(h1.later hk).cell (by omega);have Hcb:Hid (∀ w',Keep [] w w'→∀ i,i<m→∃ g o,bo=some ⟨g,o,none⟩∧g<w'.heap.size∧w'.cell? ⟨g,o+i,none⟩=some (.int .i64 ((B / 256 ^ i % 256:Nat):Int))):=fun w' hk i hi=>(h2.later hk).cell (by omega);have Hzb:Hid (∀ i,¬ i<m→B / 256 ^ i % 256=0):=fun i h=>Ln_high (by omega);have HLa:Hid (A<256 ^ n):=by rw [← hn];exact Ln_lt A
 have HBA:=jX hBA;rw [hn] at hA ⊢;rw [hm] at hB ⊢;clear h1 h2 hn hm hBA;go_enter func181,ntmps181
 go_wp2_with fail;go_loopw [5,6,7] (fun b c x wr=>∃ i:Nat,i≤n∧x = .int .i64 (i:Int)∧c = .int .i64 (yaB 256 i A B:Nat)∧∃ l,l=dl 256 i (A-B)∧OI w wr b l) (fun _ _ x _=>n-(intOf x).toNat)
 case atStart=>exact ⟨0,by omega,rfl,by rw [ydz];rfl,_,rfl,OI.nil _⟩
 case round =>
  obtain⟨i,hi,rfl,rfl,l,hl,hoi⟩:=hrel;have Hrow:=jX hoi;have hl9:l.length≤1000000001:=by rw [hl,yaO];omega
  obtain⟨po,pc,rfl⟩:=hoi.form;have Hl:=jX hl;clear hl hoi;by_cases ha:i<n
  ·obtain⟨g1,o1,rfl,hg1,c1⟩:=Hca.out wr Hrow.out.keep i ha
   have x9:=Nat.mod_lt (A / 256 ^ i) (show 0<256 by decide)
   have y9:=Nat.mod_lt (B / 256 ^ i) (show 0<256 by decide)
   have d9:=Nat.mod_lt ((A-B) / 256 ^ i) (show 0<256 by decide)
   obtain⟨hs1,hs2⟩:=ycE (show 0<256 by decide) i A B HBA.out
   have Hsn:=jX (ydD 256 i (A-B));have hc1:yaB 256 i A B≤1:=by unfold yaB;split<;>omega
   by_cases hb:i<m
   ·obtain⟨g2,o2,rfl,hg2,c2⟩:=Hcb.out wr Hrow.out.keep i hb
    generalize A / 256 ^ i % 256=x at *;generalize B / 256 ^ i % 256=y at *;generalize (A-B) / 256 ^ i % 256=d at *;generalize yaB 256 i A B=c at *;by_cases hbr:x<y+c
    ·obtain⟨e1,e2⟩:=hs1 hbr
     have He1:=jX e1;have hbz:(x:Int)-c-y<0:=by omega
     have hd2:(x:Int)-c-y+256=d:=by omega
     clear hs1 hs2 e1 e2;go_wp2_with (at_builtin;refine yan _ rfl _ _ 156 rfl 3 i0 _ 1 8 underlying156 Hi.out.1 Hi.out.2.1 Hi.out.2.2.1 Hi.out.2.2.2 rfl (by decide) _ _ _ rfl (yat Hrow.out.row (Keep.alloc [] _ _) (by simp)) ⟨wr.heap.size,0,none⟩ 1 1 [.int .i64 (d)] rfl rfl (yaP _ _ _) ?c2 (by decide) ?c3 ?c4 ?_)
     case c2=>first|(intro u hu;simp at hu;subst hu;rfl)|rfl
     case c3=>unfold maxLen;omega
     case c4=>omega
     intro g cap wa hoa hga hfa hda;have Hn:=jX (Hrow.out.step (d:=d) hoa hga hfa hda);clear hoa hga hfa hda;go_wp2_with fail;go_roundw
     case rel=>exact ⟨i+1,by omega,by go_num,by rw [He1.out];rfl,l++[d],by rw [Hsn.out,← Hl.out],Hn.out⟩
     case measure=>simp [intOf];omega
    obtain⟨e1,e2⟩:=hs2 hbr;have He1:=jX e1;have hbz:¬ (x:Int)-c-y<0:=by omega
    have hd2:(x:Int)-c-y=d:=by omega
    clear hs1 hs2 e1 e2;go_wp2_with (at_builtin;refine yan _ rfl _ _ 156 rfl 3 i0 _ 1 8 underlying156 Hi.out.1 Hi.out.2.1 Hi.out.2.2.1 Hi.out.2.2.2 rfl (by decide) _ _ _ rfl (yat Hrow.out.row (Keep.alloc [] _ _) (by simp)) ⟨wr.heap.size,0,none⟩ 1 1 [.int .i64 (d)] rfl rfl (yaP _ _ _) ?c2 (by decide) ?c3 ?c4 ?_)
    case c2=>first|(intro u hu;simp at hu;subst hu;rfl)|rfl
    case c3=>unfold maxLen;omega
    case c4=>omega
    intro g cap wa hoa hga hfa hda;have Hn:=jX (Hrow.out.step (d:=d) hoa hga hfa hda);clear hoa hga hfa hda;go_wp2_with fail;go_roundw
    case rel=>exact ⟨i+1,by omega,by go_num,by rw [He1.out];rfl,l++[d],by rw [Hsn.out,← Hl.out],Hn.out⟩
    case measure=>simp [intOf];omega
   have hy0:=Hzb.out i hb;rw [hy0] at hs1 hs2;generalize A / 256 ^ i % 256=x at *;generalize (A-B) / 256 ^ i % 256=d at *;generalize yaB 256 i A B=c at *;by_cases hbr:x<0+c
   ·obtain⟨e1,e2⟩:=hs1 hbr
    have He1:=jX e1;have hbz:(x:Int)-c<0:=by omega
    have hd2:(x:Int)-c+256=d:=by omega
    clear hs1 hs2 e1 e2 hy0;go_wp2_with (at_builtin;refine yan _ rfl _ _ 156 rfl 3 i0 _ 1 8 underlying156 Hi.out.1 Hi.out.2.1 Hi.out.2.2.1 Hi.out.2.2.2 rfl (by decide) _ _ _ rfl (yat Hrow.out.row (Keep.alloc [] _ _) (by simp)) ⟨wr.heap.size,0,none⟩ 1 1 [.int .i64 (d)] rfl rfl (yaP _ _ _) ?c2 (by decide) ?c3 ?c4 ?_)
    case c2=>first|(intro u hu;simp at hu;subst hu;rfl)|rfl
    case c3=>unfold maxLen;omega
    case c4=>omega
    intro g cap wa hoa hga hfa hda;have Hn:=jX (Hrow.out.step (d:=d) hoa hga hfa hda);clear hoa hga hfa hda;go_wp2_with fail;go_roundw
    case rel=>exact ⟨i+1,by omega,by go_num,by rw [He1.out];rfl,l++[d],by rw [Hsn.out,← Hl.out],Hn.out⟩
    case measure=>simp [intOf];omega
   obtain⟨e1,e2⟩:=hs2 hbr;have He1:=jX e1;have hbz:¬ (x:Int)-c<0:=by omega
   have hd2:(x:Int)-c=d:=by omega
   clear hs1 hs2 e1 e2 hy0;go_wp2_with (at_builtin;refine yan _ rfl _ _ 156 rfl 3 i0 _ 1 8 underlying156 Hi.out.1 Hi.out.2.1 Hi.out.2.2.1 Hi.out.2.2.2 rfl (by decide) _ _ _ rfl (yat Hrow.out.row (Keep.alloc [] _ _) (by simp)) ⟨wr.heap.size,0,none⟩ 1 1 [.int .i64 (d)] rfl rfl (yaP _ _ _) ?c2 (by decide) ?c3 ?c4 ?_)
   case c2=>first|(intro u hu;simp at hu;subst hu;rfl)|rfl
   case c3=>unfold maxLen;omega
   case c4=>omega
   intro g cap wa hoa hga hfa hda;have Hn:=jX (Hrow.out.step (d:=d) hoa hga hfa hda);clear hoa hga hfa hda;go_wp2_with fail;go_roundw
   case rel=>exact ⟨i+1,by omega,by go_num,by rw [He1.out];rfl,l++[d],by rw [Hsn.out,← Hl.out],Hn.out⟩
   case measure=>simp [intOf];omega
  obtain rfl:i=n:=by omega
  have hS:A-B<256 ^ i:=Nat.lt_of_le_of_lt (Nat.sub_le _ _) HLa.out;have HT:=jX (yiw wr _ l (by omega) Hrow.out.read Hrow.out.cap);have HS:=jX hS;clear hS;go_wp2_with fail;refine HT.out.mono ?_;rintro e w2 ⟨ht,rfl,hat⟩;obtain⟨v,rfl,hdr⟩:=ybk ht (by rw [Hl.out];exact yjq (by decide) _ _);rw [Hl.out,yfl (by decide) _ _ HS.out] at hdr;have Hdr:=jX hdr;have Hat:=jX (hat v rfl);clear ht hdr HT hat;dsimp only;go_wp2_with fail;go_ret
  exact ⟨v,rfl,Hdr.out,Hrow.out.keep,fun g hg=>Hrow.out.base g (by rw [← Hat.out];exact hg)⟩
theorem DR.past {w w':World} {v:Value} {N g0:Nat} (h:DR w v N) (hk:Keep [g0] w w') (hn:∀ g,v.ownBlock=some g→g≠g0):DR w' v N:=by
 refine ⟨?_,h.2⟩;rcases h.1 with h1|⟨g,o,c,rfl,hg,hc⟩
 ·exact .inl h1
 refine .inr ⟨g,o,c,rfl,Nat.lt_of_lt_of_le hg hk.size,fun i u hi=>?_⟩;have hne:g≠g0:=hn g rfl;exact (World.cell?_of_block (hk.block _ hg (by simpa using hne))).trans (hc i u hi)
end Go.Proofs.YtpgffjjpiafhpaaGreatDoor
