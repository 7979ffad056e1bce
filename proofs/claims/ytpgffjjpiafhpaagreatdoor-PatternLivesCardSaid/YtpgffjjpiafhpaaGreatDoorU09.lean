/- Parts of a proof: Ra Rc Rd. -/
import Derived.Test.YtpgffjjpiafhpaaGreatDoorU08
set_option linter.unusedVariables false
set_option linter.unusedSimpArgs false
set_option maxRecDepth 100000
set_option maxHeartbeats 8000000
namespace Go.Proofs.YtpgffjjpiafhpaaGreatDoor
open Go.RowKit Tryz
def FitQ (k:Nat) (q:Rat):Prop:=Fit k q.num∧Fit k (q.den:Int)
theorem FitQ.mono {k l:Nat} {q:Rat} (h:FitQ k q) (hl:k≤l):FitQ l q:=⟨h.1.mono hl,h.2.mono hl⟩
def crX (a b:Rat):Int:=if a.den=b.den then a.num else a.num*b.den
def crY (a b:Rat):Int:=if a.den=b.den then b.num else b.num*a.den
def crD (a b:Rat):Int:=if a.den=b.den then a.den else (a.den:Int)*b.den
theorem yhR (a b:Rat):0<crD a b:=by
 have h1:=a.den_pos;have h2:=b.den_pos;unfold crD;split
 ·omega
 exact Int.mul_pos (by omega) (by omega)
theorem crX_eq (a b:Rat):Rat.divInt (crX a b) (crD a b)=a:=by
 have h2:=b.den_pos;unfold crX crD;split
 ·exact Rat.num_divInt_den a
 rw [Rat.divInt_mul_right (by omega)];exact Rat.num_divInt_den a
theorem crY_eq (a b:Rat):Rat.divInt (crY a b) (crD a b)=b:=by
 have h2:=a.den_pos;unfold crY crD;split
 ·rename_i h;rw [h];exact Rat.num_divInt_den b
 rw [Int.mul_comm (a.den:Int),Rat.divInt_mul_right (by omega)];exact Rat.num_divInt_den b
theorem cr_add (a b:Rat):Rat.divInt (crX a b+crY a b) (crD a b)=a+b:=by
 have hp:=yhR a b
 have h:Rat.divInt (crX a b+crY a b) (crD a b)=Rat.divInt (crX a b) (crD a b)+Rat.divInt (crY a b) (crD a b):=by
  rw [Rat.divInt_eq_div,Rat.divInt_eq_div,Rat.divInt_eq_div,Rat.intCast_add,Rat.div_def,Rat.div_def,Rat.div_def,Rat.add_mul]
 rw [h,crX_eq,crY_eq]
theorem cr_cmp (a b:Rat):Lib.compareInt (crX a b) (crY a b)=Lib.compareInt (a.num*b.den) (b.num*a.den):=by
 have h1:=a.den_pos;unfold crX crY;split
 ·rename_i h
  rw [← h]
  have key:∀ x y:Int,x<y↔x*a.den<y*a.den:=fun x y=>by
   constructor
   ·intro hxy;exact Int.mul_lt_mul_of_pos_right hxy (by omega)
   intro hxy;exact Int.lt_of_mul_lt_mul_right hxy (by omega)
  unfold Lib.compareInt;simp only [gt_iff_lt,← key]
 rfl
theorem cr_fit {a b:Rat} {k l:Nat} (ha:FitQ k a) (hb:FitQ l b):Fit (k+l) (crX a b)∧Fit (k+l) (crY a b)∧Fit (k+l) (crD a b):=by
 unfold crX crY crD;split
 ·exact ⟨ha.1.mono (by omega),hb.1.mono (by omega),ha.2.mono (by omega)⟩
 exact ⟨ha.1.mul hb.2,(hb.1.mul ha.2).mono (by omega),ha.2.mul hb.2⟩
theorem yby {a b:Int} {k:Nat} (ha:Fit k a) (hb:Fit k b) (h0:0<b):FitQ k (Rat.divInt a b):=by
 have hgp:0<Int.gcd a b:=Int.gcd_pos_of_ne_zero_right _ (by omega);refine ⟨ha.le ?_,hb.le ?_⟩
 ·rw [Rat.num_divInt,Int.sign_eq_one_of_pos h0,Int.one_mul]
  rw [Int.natAbs_ediv_of_dvd (by rw [Int.gcd_comm];exact Int.gcd_dvd_left a b)];exact Nat.div_le_self _ _
 rw [Rat.den_divInt,if_neg (by omega),Int.natAbs_natCast];exact Nat.div_le_self _ _
theorem FitQ.add {a b:Rat} {k l:Nat} (ha:FitQ k a) (hb:FitQ l b):FitQ (k+l+1) (a+b):=by
 obtain⟨h1,h2,h3⟩:=cr_fit ha hb;rw [← cr_add];exact yby (h1.add h2) (h3.mono (by omega)) (yhR a b)
theorem FitQ.neg {a:Rat} {k:Nat} (ha:FitQ k a):FitQ k (-a):=by
 refine ⟨?_,?_⟩
 ·rw [Rat.neg_num];exact ha.1.neg
 rw [Rat.neg_den];exact ha.2
theorem mul_eq (a b:Rat):Rat.divInt (a.num*b.num) ((a.den:Int)*b.den)=a*b:=by
 rw [← Rat.divInt_mul_divInt,Rat.num_divInt_den,Rat.num_divInt_den]
theorem FitQ.mul {a b:Rat} {k l:Nat} (ha:FitQ k a) (hb:FitQ l b):FitQ (k+l) (a*b):=by
 rw [← mul_eq];exact yby (ha.1.mul hb.1) (ha.2.mul hb.2) (Int.mul_pos (by have:=a.den_pos;omega) (by have:=b.den_pos;omega))
theorem FitQ.sub {a b:Rat} {k l:Nat} (ha:FitQ k a) (hb:FitQ l b):FitQ (k+l+1) (a-b):=by
 rw [Rat.sub_eq_add_neg];exact ha.add hb.neg
def qcmp (a b:Rat):Int:=Lib.compareInt (a.num*b.den) (b.num*a.den)
theorem yaf {P:Program} {o:Oper} {a:Act} {w:World} {K:Act→World→Prop} {Q:Exit→Act→World→Prop} (f:FuncId) (args:Array Value) (h:(execOp a.eval o).run P w = .ok (.enter f args) w)
  (hc:Calls P f args w fun e w''=>∃ v,e = .returned v∧K (a.put o.dst v) w''):o.wp P a w K Q:=by
 unfold Oper.wp;rw [h,Oper.upon_enter];refine hc.mono ?_;rintro e w ⟨v,rfl,hk⟩;exact hk
theorem cross_eq (na nb nd:Bool) (sa sb da db sd:ByteArray) (heq:∀ w,(binOp .eql 26 (.agg #[.bool false,.string da]) (.agg #[.bool false,.string db])).run prog w = .ok (.bool true) w)
  (Hd:Hid (∀ w,Calls prog 166 #[.agg #[.bool na,.string sa,.bool false,.string da]] w fun e w'=>e = .returned (.agg #[.bool nd,.string sd])∧Keep [] w w')) (w:World) :
  Calls prog 154 #[.agg #[.bool na,.string sa,.bool false,.string da],.agg #[.bool nb,.string sb,.bool false,.string db]] w fun e w'=>e = .returned (.tuple #[.agg #[.bool na,.string sa],.agg #[.bool nb,.string sb],.agg #[.bool nd,.string sd]])∧Keep [] w w':=by
 have hgd:=eqZ_g;go_enter func154,ntmps154
 go_wp2_with fail;obtain⟨W,ga,gb,gc,gd,ge,hW,ega,egb,egc,egd,ege,Bga,Bgb,Bgc,Bgd,Bge,hga,hgb,hgc,hgd,hge,hgW,HkW⟩:=al5h w (.cells #[.bool na,.string sa,.bool false,.string da] 28) (.cells #[.bool nb,.string sb,.bool false,.string db] 28) (.cells #[.bool false,.string ⟨#[]⟩] 26) (.cells #[.bool false,.string ⟨#[]⟩] 26) (.cells #[.bool false,.string ⟨#[]⟩] 26);rw [← hW];try rw [ege]
 try rw [egd]
 try rw [egc]
 try rw [egb]
 try rw [ega]
 clear hW ega egb egc egd ege;go_wp2_with fail
 have HSk:Hid (∀ W',Keep [gc,gd,ge] W W'→(∀ i,W'.cell? ⟨ga,i,none⟩=(#[.bool na,.string sa,.bool false,.string da]:Array Value)[i]?)∧(∀ i,W'.cell? ⟨gb,i,none⟩=(#[.bool nb,.string sb,.bool false,.string db]:Array Value)[i]?)) :=
  fun W' hk=>⟨yab (hk.heap Bga.out (by simp;omega)),yab (hk.heap Bgb.out (by simp;omega))⟩
 refine yae (S:=fun W'=>(∀ i,W'.cell? ⟨ga,i,none⟩=(#[.bool na,.string sa,.bool false,.string da]:Array Value)[i]?)∧(∀ i,W'.cell? ⟨gb,i,none⟩=(#[.bool nb,.string sb,.bool false,.string db]:Array Value)[i]?)) 8 (by kernel_rfl) (by kernel_rfl) (fun _ _ d _ _ h=>by cases d<;>exact h) ?_;have hk0:=Keep.drew [gc,gd,ge] W;have hS0:=HSk.out _ hk0;have Bgc:=jX ((Keep.drew [] W).heap Bgc.out (by simp));have Bgd:=jX ((Keep.drew [] W).heap Bgd.out (by simp));have Bge:=jX ((Keep.drew [] W).heap Bge.out (by simp));generalize W.drew=u0 at *;refine' jV (v:=_) 0 hS0 (fun w hw=>?h0) (fun K hK=>?k0)
 case h0=>(obtain⟨s1,s2⟩:=hw;go_simp;try rfl)
 go_simp;go_step
 refine' jV (v:=_) 1 hS0 (fun w hw=>?h1) (fun K hK=>?k1)
 case h1=>(obtain⟨s1,s2⟩:=hw;go_simp;try rfl)
 go_simp;go_step
 refine' jV (v:=_) 2 hS0 (fun w hw=>?h2) (fun K hK=>?k2)
 case h2=>(obtain⟨s1,s2⟩:=hw;go_simp;try rfl)
 go_simp;go_step
 refine' jV (v:=_) 3 hS0 (fun w hw=>?h3) (fun K hK=>?k3)
 case h3=>(obtain⟨s1,s2⟩:=hw;go_simp;try rfl)
 go_simp;go_step
 refine' jV (v:=_) 4 hS0 (fun w hw=>?h4) (fun K hK=>?k4)
 case h4=>(obtain⟨s1,s2⟩:=hw;go_simp;try rfl)
 go_simp;go_step
 refine jO 5 (fun K hK=>?_);refine yaf 166 #[.agg #[.bool na,.string sa,.bool false,.string da]] (by go_simp) ?_;refine (Hd.out u0).mono ?_;rintro e u1 ⟨rfl,hk2⟩;have hk0:=hk0.trans hk2 (by simp);have hS0:=HSk.out _ hk0;have Bgc:=jX (hk2.heap Bgc.out (by simp));have Bgd:=jX (hk2.heap Bgd.out (by simp));have Bge:=jX (hk2.heap Bge.out (by simp));refine ⟨_,rfl,?_⟩;refine hK _ _ hS0 ?_;clear hK K hk2;have pgc:=yab Bgc.out;have fgc:=yai Bgc.out;have lgc:=yaa Bgc.out;refine jO 6 (fun K hK=>?_);go_simp;obtain⟨v1,hv1,bgc1,hkv⟩:=st2 (x:=.bool na) (y:=.string sa) Bgc.out;rw [← hv1];have hk1:=hk0.trans hkv (by simp);have hS1:=HSk.out _ hk1;have Bgc1:=jX bgc1;have Bgd1:=jX (hkv.heap Bgd.out (by simp;omega));have Bge1:=jX (hkv.heap Bge.out (by simp;omega));refine hK _ _ hS1 ?_;clear hK K hv1 bgc1 hkv Bgc Bgd Bge hk0 hS0 pgc fgc lgc;have pgd:=yab Bgd1.out;have fgd:=yai Bgd1.out;have lgd:=yaa Bgd1.out;refine jO 7 (fun K hK=>?_);go_simp;obtain⟨v2,hv2,bgd2,hkv⟩:=st2 (x:=.bool nb) (y:=.string sb) Bgd1.out;rw [← hv2];have hk2:=hk1.trans hkv (by simp);have hS2:=HSk.out _ hk2;have Bgd:=jX bgd2;have Bgc:=jX (hkv.heap Bgc1.out (by simp;omega));have Bge:=jX (hkv.heap Bge1.out (by simp;omega));refine hK _ _ hS2 ?_;clear hK K hv2 bgd2 hkv Bgc1 Bgd1 Bge1 hk1 hS1 pgd fgd lgd;refine ⟨by kernel_rfl,?_⟩;simp only [List.drop_succ_cons,List.drop_zero];have HkW:=jX (HkW.out.trans hk2 (by simp;omega));clear hS2 hk2 HSk;obtain⟨pgc,fgc,lgc⟩:=jQ Bgc;obtain⟨pgd,fgd,lgd⟩:=jQ Bgd;obtain⟨pge,fge,lge⟩:=jQ Bge;go_wp2_with fail;refine bodyPost_ret (v:=.tuple #[.agg #[.bool na,.string sa],.agg #[.bool nb,.string sb],.agg #[.bool nd,.string sd]]) ?_ rfl ⟨rfl,by repeat (first|(with_reducible exact HkW.out)|(refine Keep.sP ?_ _ _ _ (by omega))|(refine Keep.aP ?_ _)|(refine Keep.dP ?_))⟩;simp [results,Tryz.results154,go_sem];go_simp
theorem cross_ne (na nb nd ne n1 n2 n3:Bool) (sa sb da db sd se s1 s2 s3:ByteArray) (heq:∀ w,(binOp .eql 26 (.agg #[.bool false,.string da]) (.agg #[.bool false,.string db])).run prog w = .ok (.bool false) w)
  (Hda:Hid (∀ w,Calls prog 166 #[.agg #[.bool na,.string sa,.bool false,.string da]] w fun e w'=>e = .returned (.agg #[.bool nd,.string sd])∧Keep [] w w'))
  (Hdb:Hid (∀ w,Calls prog 166 #[.agg #[.bool nb,.string sb,.bool false,.string db]] w fun e w'=>e = .returned (.agg #[.bool ne,.string se])∧Keep [] w w'))
  (Hm1:Hid (∀ w,Calls prog 169 #[.agg #[.bool na,.string sa],.agg #[.bool ne,.string se]] w fun e w'=>e = .returned (.agg #[.bool n1,.string s1])∧Keep [] w w'))
  (Hm2:Hid (∀ w,Calls prog 169 #[.agg #[.bool nb,.string sb],.agg #[.bool nd,.string sd]] w fun e w'=>e = .returned (.agg #[.bool n2,.string s2])∧Keep [] w w'))
  (Hm3:Hid (∀ w,Calls prog 169 #[.agg #[.bool nd,.string sd],.agg #[.bool ne,.string se]] w fun e w'=>e = .returned (.agg #[.bool n3,.string s3])∧Keep [] w w')) (w:World) :
  Calls prog 154 #[.agg #[.bool na,.string sa,.bool false,.string da],.agg #[.bool nb,.string sb,.bool false,.string db]] w fun e w'=>e = .returned (.tuple #[.agg #[.bool n1,.string s1],.agg #[.bool n2,.string s2],.agg #[.bool n3,.string s3]])∧Keep [] w w':=by
 have hgd:=eqZ_g;go_enter func154,ntmps154
 go_wp2_with fail;obtain⟨W,ga,gb,gc,gd,ge,hW,ega,egb,egc,egd,ege,Bga,Bgb,Bgc,Bgd,Bge,hga,hgb,hgc,hgd,hge,hgW,HkW⟩:=al5h w (.cells #[.bool na,.string sa,.bool false,.string da] 28) (.cells #[.bool nb,.string sb,.bool false,.string db] 28) (.cells #[.bool false,.string ⟨#[]⟩] 26) (.cells #[.bool false,.string ⟨#[]⟩] 26) (.cells #[.bool false,.string ⟨#[]⟩] 26);rw [← hW];try rw [ege]
 try rw [egd]
 try rw [egc]
 try rw [egb]
 try rw [ega]
 clear hW ega egb egc egd ege;go_wp2_with fail
 have HSk:Hid (∀ W',Keep [gc,gd,ge] W W'→(∀ i,W'.cell? ⟨ga,i,none⟩=(#[.bool na,.string sa,.bool false,.string da]:Array Value)[i]?)∧(∀ i,W'.cell? ⟨gb,i,none⟩=(#[.bool nb,.string sb,.bool false,.string db]:Array Value)[i]?)) :=
  fun W' hk=>⟨yab (hk.heap Bga.out (by simp;omega)),yab (hk.heap Bgb.out (by simp;omega))⟩
 refine yae (S:=fun W'=>(∀ i,W'.cell? ⟨ga,i,none⟩=(#[.bool na,.string sa,.bool false,.string da]:Array Value)[i]?)∧(∀ i,W'.cell? ⟨gb,i,none⟩=(#[.bool nb,.string sb,.bool false,.string db]:Array Value)[i]?)) 17 (by kernel_rfl) (by kernel_rfl) (fun _ _ d _ _ h=>by cases d<;>exact h) ?_;have hk0:=Keep.drew [gc,gd,ge] W;have hS0:=HSk.out _ hk0;have Bgc:=jX ((Keep.drew [] W).heap Bgc.out (by simp));have Bgd:=jX ((Keep.drew [] W).heap Bgd.out (by simp));have Bge:=jX ((Keep.drew [] W).heap Bge.out (by simp));generalize W.drew=u0 at *;refine' jV (v:=_) 0 hS0 (fun w hw=>?h0) (fun K hK=>?k0)
 case h0=>(obtain⟨s1,s2⟩:=hw;go_simp;try rfl)
 go_simp;go_step
 refine' jV (v:=_) 1 hS0 (fun w hw=>?h1) (fun K hK=>?k1)
 case h1=>(obtain⟨s1,s2⟩:=hw;go_simp;try rfl)
 go_simp;go_step
 refine' jV (v:=_) 2 hS0 (fun w hw=>?h2) (fun K hK=>?k2)
 case h2=>(obtain⟨s1,s2⟩:=hw;go_simp;try rfl)
 go_simp;go_step
 refine' jV (v:=_) 5 hS0 (fun w hw=>?h5) (fun K hK=>?k5)
 case h5=>(obtain⟨s1,s2⟩:=hw;go_simp;try rfl)
 go_simp;go_step
 refine' jV (v:=_) 6 hS0 (fun w hw=>?h6) (fun K hK=>?k6)
 case h6=>(obtain⟨s1,s2⟩:=hw;go_simp;try rfl)
 go_simp;go_step
 refine' jV (v:=_) 7 hS0 (fun w hw=>?h7) (fun K hK=>?k7)
 case h7=>(obtain⟨s1,s2⟩:=hw;go_simp;try rfl)
 go_simp;go_step
 refine' jV (v:=_) 10 hS0 (fun w hw=>?h10) (fun K hK=>?k10)
 case h10=>(obtain⟨s1,s2⟩:=hw;go_simp;try rfl)
 go_simp;go_step
 refine' jV (v:=_) 12 hS0 (fun w hw=>?h12) (fun K hK=>?k12)
 case h12=>(obtain⟨s1,s2⟩:=hw;go_simp;try rfl)
 go_simp;go_step
 refine jO 3 (fun K hK=>?_);refine yaf 166 #[.agg #[.bool nb,.string sb,.bool false,.string db]] (by go_simp) ?_;refine (Hdb.out u0).mono ?_;rintro e u1 ⟨rfl,hk2⟩;have hk0:=hk0.trans hk2 (by simp);have hS0:=HSk.out _ hk0;have Bgc:=jX (hk2.heap Bgc.out (by simp));have Bgd:=jX (hk2.heap Bgd.out (by simp));have Bge:=jX (hk2.heap Bge.out (by simp));refine ⟨_,rfl,?_⟩;refine hK _ _ hS0 ?_;clear hK K hk2;refine jO 4 (fun K hK=>?_);refine yaf 169 #[.agg #[.bool na,.string sa],.agg #[.bool ne,.string se]] (by go_simp) ?_;refine (Hm1.out u1).mono ?_;rintro e u2 ⟨rfl,hk2⟩;have hk0:=hk0.trans hk2 (by simp);have hS0:=HSk.out _ hk0;have Bgc:=jX (hk2.heap Bgc.out (by simp));have Bgd:=jX (hk2.heap Bgd.out (by simp));have Bge:=jX (hk2.heap Bge.out (by simp));refine ⟨_,rfl,?_⟩;refine hK _ _ hS0 ?_;clear hK K hk2;refine jO 8 (fun K hK=>?_);refine yaf 166 #[.agg #[.bool na,.string sa,.bool false,.string da]] (by go_simp) ?_;refine (Hda.out u2).mono ?_;rintro e u3 ⟨rfl,hk2⟩;have hk0:=hk0.trans hk2 (by simp);have hS0:=HSk.out _ hk0;have Bgc:=jX (hk2.heap Bgc.out (by simp));have Bgd:=jX (hk2.heap Bgd.out (by simp));have Bge:=jX (hk2.heap Bge.out (by simp));refine ⟨_,rfl,?_⟩;refine hK _ _ hS0 ?_;clear hK K hk2;refine jO 9 (fun K hK=>?_);refine yaf 169 #[.agg #[.bool nb,.string sb],.agg #[.bool nd,.string sd]] (by go_simp) ?_;refine (Hm2.out u3).mono ?_;rintro e u4 ⟨rfl,hk2⟩;have hk0:=hk0.trans hk2 (by simp);have hS0:=HSk.out _ hk0;have Bgc:=jX (hk2.heap Bgc.out (by simp));have Bgd:=jX (hk2.heap Bgd.out (by simp));have Bge:=jX (hk2.heap Bge.out (by simp));refine ⟨_,rfl,?_⟩;refine hK _ _ hS0 ?_;clear hK K hk2;refine jO 11 (fun K hK=>?_);refine yaf 166 #[.agg #[.bool na,.string sa,.bool false,.string da]] (by go_simp) ?_;refine (Hda.out u4).mono ?_;rintro e u5 ⟨rfl,hk2⟩;have hk0:=hk0.trans hk2 (by simp);have hS0:=HSk.out _ hk0;have Bgc:=jX (hk2.heap Bgc.out (by simp));have Bgd:=jX (hk2.heap Bgd.out (by simp));have Bge:=jX (hk2.heap Bge.out (by simp));refine ⟨_,rfl,?_⟩;refine hK _ _ hS0 ?_;clear hK K hk2;refine jO 13 (fun K hK=>?_);refine yaf 166 #[.agg #[.bool nb,.string sb,.bool false,.string db]] (by go_simp) ?_;refine (Hdb.out u5).mono ?_;rintro e u6 ⟨rfl,hk2⟩;have hk0:=hk0.trans hk2 (by simp);have hS0:=HSk.out _ hk0;have Bgc:=jX (hk2.heap Bgc.out (by simp));have Bgd:=jX (hk2.heap Bgd.out (by simp));have Bge:=jX (hk2.heap Bge.out (by simp));refine ⟨_,rfl,?_⟩;refine hK _ _ hS0 ?_;clear hK K hk2;refine jO 14 (fun K hK=>?_);refine yaf 169 #[.agg #[.bool nd,.string sd],.agg #[.bool ne,.string se]] (by go_simp) ?_;refine (Hm3.out u6).mono ?_;rintro e u7 ⟨rfl,hk2⟩;have hk0:=hk0.trans hk2 (by simp);have hS0:=HSk.out _ hk0;have Bgc:=jX (hk2.heap Bgc.out (by simp));have Bgd:=jX (hk2.heap Bgd.out (by simp));have Bge:=jX (hk2.heap Bge.out (by simp));refine ⟨_,rfl,?_⟩;refine hK _ _ hS0 ?_;clear hK K hk2;have pgc:=yab Bgc.out;have fgc:=yai Bgc.out;have lgc:=yaa Bgc.out;refine jO 15 (fun K hK=>?_);go_simp;obtain⟨v1,hv1,bgc1,hkv⟩:=st2 (x:=.bool n1) (y:=.string s1) Bgc.out;rw [← hv1];have hk1:=hk0.trans hkv (by simp);have hS1:=HSk.out _ hk1;have Bgc1:=jX bgc1;have Bgd1:=jX (hkv.heap Bgd.out (by simp;omega));have Bge1:=jX (hkv.heap Bge.out (by simp;omega));refine hK _ _ hS1 ?_;clear hK K hv1 bgc1 hkv Bgc Bgd Bge hk0 hS0 pgc fgc lgc;have pgd:=yab Bgd1.out;have fgd:=yai Bgd1.out;have lgd:=yaa Bgd1.out;refine jO 16 (fun K hK=>?_);go_simp;obtain⟨v2,hv2,bgd2,hkv⟩:=st2 (x:=.bool n2) (y:=.string s2) Bgd1.out;rw [← hv2];have hk2:=hk1.trans hkv (by simp);have hS2:=HSk.out _ hk2;have Bgd:=jX bgd2;have Bgc:=jX (hkv.heap Bgc1.out (by simp;omega));have Bge:=jX (hkv.heap Bge1.out (by simp;omega));refine hK _ _ hS2 ?_;clear hK K hv2 bgd2 hkv Bgc1 Bgd1 Bge1 hk1 hS1 pgd fgd lgd;refine ⟨by kernel_rfl,?_⟩;simp only [List.drop_succ_cons,List.drop_zero];have HkW:=jX (HkW.out.trans hk2 (by simp;omega));clear hS2 hk2 HSk;obtain⟨pgc,fgc,lgc⟩:=jQ Bgc;obtain⟨pgd,fgd,lgd⟩:=jQ Bgd;obtain⟨pge,fge,lge⟩:=jQ Bge;go_wp2_with fail;refine bodyPost_ret (v:=.tuple #[.agg #[.bool n1,.string s1],.agg #[.bool n2,.string s2],.agg #[.bool n3,.string s3]]) ?_ rfl ⟨rfl,by repeat (first|(with_reducible exact HkW.out)|(refine Keep.sP ?_ _ _ _ (by omega))|(refine Keep.aP ?_ _)|(refine Keep.dP ?_))⟩;simp [results,Tryz.results154,go_sem];go_simp
theorem cross_c (a b:Rat) (ha:FitQ 10000000000 a) (hb:FitQ 10000000000 b) (w:World) :
  Calls prog 154 #[rv a,rv b] w fun e w'=>e = .returned (.tuple #[zv (crX a b),zv (crY a b),zv (crD a b)])∧Keep [] w w':=by
 have heq:=eqD_run a b;unfold crX crY crD;by_cases h:a.den=b.den
 ·rw [if_pos h,if_pos h,if_pos h]
  have hdt:decide (a.den=b.den)=true:=by simpa using h
  rw [hdt] at heq;exact cross_eq _ _ _ _ _ _ _ _ heq (Den_c a) w
 rw [if_neg h,if_neg h,if_neg h];have hdt:decide (a.den=b.den)=false:=by simpa using h
 rw [hdt] at heq;exact cross_ne _ _ _ _ _ _ _ _ _ _ _ _ _ _ _ _ heq (Den_c a) (Den_c b) (Mul_c a.num b.den (ha.1.mono (by decide)) (hb.2.mono (by decide))) (Mul_c b.num a.den (hb.1.mono (by decide)) (ha.2.mono (by decide))) (Mul_c a.den b.den (ha.2.mono (by decide)) (hb.2.mono (by decide))) w
theorem QAdd_c (a b:Rat) (ha:FitQ 10000000000 a) (hb:FitQ 10000000000 b) (w:World) :
  Calls prog 106 #[rv a,rv b] w fun e w'=>e = .returned (rv (a+b))∧Keep [] w w':=by
 obtain⟨f1,f2,f3⟩:=cr_fit ha hb;have Hc:=jX (cross_c a b ha hb);have Hs:=jX (Add_c (crX a b) (crY a b) (f1.mono (by decide)) (f2.mono (by decide)));have Hn:=jX (ycs (crX a b+crY a b) (crD a b) ((f1.add f2).mono (by decide)) (f3.mono (by decide)) (yhR a b));rw [cr_add] at Hn;unfold rv zv at *;generalize crX a b+crY a b=z at *;generalize crX a b=x at *;generalize crY a b=y at *;generalize crD a b=d at *;generalize sgB (x)=nx at *;generalize mgS (x)=sx at *;generalize sgB (y)=ny at *;generalize mgS (y)=sy at *;generalize sgB (d)=nd at *;generalize mgS (d)=sd at *;generalize sgB (z)=nz at *;generalize mgS (z)=sz at *;generalize sgB (a+b).num=nr at *;generalize mgS (a+b).num=sr at *;generalize dnS (a+b).den=dr at *;generalize sgB (a).num=na at *;generalize mgS (a).num=sa at *;generalize dnS (a).den=da at *;generalize sgB (b).num=nb at *;generalize mgS (b).num=sb at *;generalize dnS (b).den=db at *;clear f1 f2 f3 ha hb;go_enter func106,ntmps106
 go_wp2_with fail;obtain⟨W,ga,gb,gc,hW,ega,egb,egc,Bga,Bgb,Bgc,hga,hgb,hgc,hgW,HkW⟩:=al3h w (.cells #[.bool na,.string sa,.bool false,.string da] 28) (.cells #[.bool nb,.string sb,.bool false,.string db] 28) (.cells #[.bool false,.string ⟨#[]⟩,.bool false,.string ⟨#[]⟩] 28);rw [← hW];try rw [egc]
 try rw [egb]
 try rw [ega]
 clear hW ega egb egc;refine (Hc.out W).mono ?_;rintro e w1 ⟨rfl,hk1⟩;dsimp only;clear Hc;replace Bga:=jH hk1 Bga;replace Bgb:=jH hk1 Bgb;replace Bgc:=jH hk1 Bgc;replace HkW:=jX (HkW.out.tz hk1);clear hk1;go_wp2_with fail;obtain⟨W2,gd,ge,gf,hW2,egd,ege,egf,bgd,bge,bgf,hgd,hge,hgf,hgW2,hkW2⟩:=al3 w1 (.cells #[.bool nx,.string sx] 26) (.cells #[.bool ny,.string sy] 26) (.cells #[.bool nd,.string sd] 26);rw [← hW2];try rw [egf]
 try rw [ege]
 try rw [egd]
 have Bgd:=jX bgd;have Bge:=jX bge;have Bgf:=jX bgf;clear hW2 egd ege egf bgd bge bgf;replace Bga:=jH hkW2 Bga;replace Bgb:=jH hkW2 Bgb;replace Bgc:=jH hkW2 Bgc;replace HkW:=jX (HkW.out.tz hkW2);clear hkW2;have kgd:=yag Bgd.out;have kge:=yag Bge.out;have kgf:=yag Bgf.out;have Q1:Hid (∀ m:KW W2,Calls prog 156 #[.agg #[.bool nx,.string sx],.agg #[.bool ny,.string sy]] (Wk W2 m) fun e w'=>e = .returned (.agg #[.bool nz,.string sz])∧∃ m,w'=Wk W2 m):=fun m=>qk m (Hs.out _);have Q2:Hid (∀ m:KW W2,Calls prog 155 #[.agg #[.bool nz,.string sz],.agg #[.bool nd,.string sd]] (Wk W2 m) fun e w'=>e = .returned (.agg #[.bool nr,.string sr,.bool false,.string dr])∧∃ m,w'=Wk W2 m):=fun m=>qk m (Hn.out _);clear Hs Hn;go_wp2_with fail;refine yah 5 (by kernel_rfl) (by kernel_rfl) ?_;simp only [List.take_succ_cons,List.take_zero,List.drop_succ_cons,List.drop_zero]
 repeat (first
  | go_big_quiet_skip
  | (go_big_quiet_want;go_big_quiet_op;first|go_big_quiet_on|go_big_quiet_call (first
   | (go_at_call 156;with_reducible exact (Q1).out _)|(go_at_call 155;with_reducible exact (Q2).out _))))
 refine wpQuiet_nil ?_;rintro wz ⟨⟨_,hk_wz⟩,rfl⟩;clear kgd kge kgf Q1 Q2;replace Bga:=jH hk_wz Bga;replace Bgb:=jH hk_wz Bgb;replace Bgc:=jH hk_wz Bgc;replace HkW:=jX (HkW.out.tz hk_wz);clear hk_wz;obtain⟨pgc,fgc,lgc⟩:=jQ Bgc;go_wp2_with fail;refine bodyPost_ret (v:=.agg #[.bool nr,.string sr,.bool false,.string dr]) ?_ rfl ⟨rfl,by repeat (first|(with_reducible exact HkW.out)|(refine Keep.sP ?_ _ _ _ (by omega))|(refine Keep.aP ?_ _)|(refine Keep.dP ?_))⟩;rw [yac rfl];go_simp
theorem QNeg_c (a:Rat) (w:World) :
  Calls prog 60 #[rv a] w fun e w'=>e = .returned (rv (-a))∧Keep [] w w':=by
 have Hn:=jX (Negate_c a.num);unfold rv zv at *;rw [Rat.neg_num,Rat.neg_den];generalize sgB (-a.num)=nr at *;generalize mgS (-a.num)=sr at *;generalize sgB (a).num=na at *;generalize mgS (a).num=sa at *;generalize dnS (a).den=da at *;go_enter func60,ntmps60
 go_wp2_with fail;obtain⟨W,ga,gb,hW,ega,egb,Bga,Bgb,hga,hgb,hgW,HkW⟩:=al2h w (.cells #[.bool na,.string sa,.bool false,.string da] 28) (.cells #[.bool false,.string ⟨#[]⟩,.bool false,.string ⟨#[]⟩] 28);rw [← hW];try rw [egb]
 try rw [ega]
 clear hW ega egb;have kga:=yag Bga.out;have Q1:Hid (∀ m:KW W,Calls prog 118 #[.agg #[.bool na,.string sa]] (Wk W m) fun e w'=>e = .returned (.agg #[.bool nr,.string sr])∧∃ m,w'=Wk W m):=fun m=>qk m (Hn.out _);clear Hn;refine yah 6 (by kernel_rfl) (by kernel_rfl) ?_;simp only [List.take_succ_cons,List.take_zero,List.drop_succ_cons,List.drop_zero]
 repeat (first
  | go_big_quiet_skip
  | (go_big_quiet_want;go_big_quiet_op;first|go_big_quiet_on|go_big_quiet_call (first
   | (go_at_call 118;with_reducible exact (Q1).out _))))
 refine wpQuiet_nil ?_;rintro wz ⟨⟨_,hk_wz⟩,rfl⟩;clear kga Q1;replace Bga:=jH hk_wz Bga;replace Bgb:=jH hk_wz Bgb;replace HkW:=jX (HkW.out.tz hk_wz);clear hk_wz;obtain⟨pgb,fgb,lgb⟩:=jQ Bgb;go_wp2_with fail;refine bodyPost_ret (v:=.agg #[.bool nr,.string sr,.bool false,.string da]) ?_ rfl ⟨rfl,by repeat (first|(with_reducible exact HkW.out)|(refine Keep.sP ?_ _ _ _ (by omega))|(refine Keep.aP ?_ _)|(refine Keep.dP ?_))⟩;rw [yac rfl];go_simp
theorem QMul_c (a b:Rat) (ha:FitQ 10000000000 a) (hb:FitQ 10000000000 b) (w:World) :
  Calls prog 131 #[rv a,rv b] w fun e w'=>e = .returned (rv (a*b))∧Keep [] w w':=by
 have h1:=a.den_pos;have h2:=b.den_pos;have Hm1:=jX (Mul_c a.num b.num (ha.1.mono (by decide)) (hb.1.mono (by decide)));have Hm2:=jX (Mul_c a.den b.den (ha.2.mono (by decide)) (hb.2.mono (by decide)));have Hn:=jX (ycs (a.num*b.num) ((a.den:Int)*b.den) ((ha.1.mul hb.1).mono (by decide)) ((ha.2.mul hb.2).mono (by decide)) (Int.mul_pos (by omega) (by omega)));rw [mul_eq] at Hn;have Hda:=jX (Den_c a);have Hdb:=jX (Den_c b);unfold rv zv at *;generalize sgB (a.num*b.num)=nx at *;generalize mgS (a.num*b.num)=sx at *;generalize sgB ((a.den:Int)*b.den)=ny at *;generalize mgS ((a.den:Int)*b.den)=sy at *;generalize sgB ((a.den:Int))=nd at *;generalize mgS ((a.den:Int))=sd at *;generalize sgB ((b.den:Int))=ne at *;generalize mgS ((b.den:Int))=se at *;generalize sgB (a*b).num=nr at *;generalize mgS (a*b).num=sr at *;generalize dnS (a*b).den=dr at *;generalize sgB (a).num=na at *;generalize mgS (a).num=sa at *;generalize dnS (a).den=da at *;generalize sgB (b).num=nb at *;generalize mgS (b).num=sb at *;generalize dnS (b).den=db at *;clear h1 h2 ha hb;go_enter func131,ntmps131
 go_wp2_with fail;obtain⟨W,ga,gb,gc,hW,ega,egb,egc,Bga,Bgb,Bgc,hga,hgb,hgc,hgW,HkW⟩:=al3h w (.cells #[.bool na,.string sa,.bool false,.string da] 28) (.cells #[.bool nb,.string sb,.bool false,.string db] 28) (.cells #[.bool false,.string ⟨#[]⟩,.bool false,.string ⟨#[]⟩] 28);rw [← hW];try rw [egc]
 try rw [egb]
 try rw [ega]
 clear hW ega egb egc;have kga:=yag Bga.out;have kgb:=yag Bgb.out;have Q1:Hid (∀ m:KW W,Calls prog 169 #[.agg #[.bool na,.string sa],.agg #[.bool nb,.string sb]] (Wk W m) fun e w'=>e = .returned (.agg #[.bool nx,.string sx])∧∃ m,w'=Wk W m):=fun m=>qk m (Hm1.out _);have Q2:Hid (∀ m:KW W,Calls prog 169 #[.agg #[.bool nd,.string sd],.agg #[.bool ne,.string se]] (Wk W m) fun e w'=>e = .returned (.agg #[.bool ny,.string sy])∧∃ m,w'=Wk W m):=fun m=>qk m (Hm2.out _);have Q3:Hid (∀ m:KW W,Calls prog 166 #[.agg #[.bool na,.string sa,.bool false,.string da]] (Wk W m) fun e w'=>e = .returned (.agg #[.bool nd,.string sd])∧∃ m,w'=Wk W m):=fun m=>qk m (Hda.out _);have Q4:Hid (∀ m:KW W,Calls prog 166 #[.agg #[.bool nb,.string sb,.bool false,.string db]] (Wk W m) fun e w'=>e = .returned (.agg #[.bool ne,.string se])∧∃ m,w'=Wk W m):=fun m=>qk m (Hdb.out _);have Q5:Hid (∀ m:KW W,Calls prog 155 #[.agg #[.bool nx,.string sx],.agg #[.bool ny,.string sy]] (Wk W m) fun e w'=>e = .returned (.agg #[.bool nr,.string sr,.bool false,.string dr])∧∃ m,w'=Wk W m):=fun m=>qk m (Hn.out _);clear Hm1 Hm2 Hn Hda Hdb;refine yah 11 (by kernel_rfl) (by kernel_rfl) ?_;simp only [List.take_succ_cons,List.take_zero,List.drop_succ_cons,List.drop_zero]
 repeat (first
  | go_big_quiet_skip
  | (go_big_quiet_want;go_big_quiet_op;first|go_big_quiet_on|go_big_quiet_call (first
   | (go_at_call 169;with_reducible exact (Q1).out _)|(go_at_call 169;with_reducible exact (Q2).out _)|(go_at_call 166;with_reducible exact (Q3).out _)|(go_at_call 166;with_reducible exact (Q4).out _)|(go_at_call 155;with_reducible exact (Q5).out _))))
 refine wpQuiet_nil ?_;rintro wz ⟨⟨_,hk_wz⟩,rfl⟩;clear kga kgb Q1 Q2 Q3 Q4 Q5;replace Bga:=jH hk_wz Bga;replace Bgb:=jH hk_wz Bgb;replace Bgc:=jH hk_wz Bgc;replace HkW:=jX (HkW.out.tz hk_wz);clear hk_wz;obtain⟨pgc,fgc,lgc⟩:=jQ Bgc;go_wp2_with fail;refine bodyPost_ret (v:=.agg #[.bool nr,.string sr,.bool false,.string dr]) ?_ rfl ⟨rfl,by repeat (first|(with_reducible exact HkW.out)|(refine Keep.sP ?_ _ _ _ (by omega))|(refine Keep.aP ?_ _)|(refine Keep.dP ?_))⟩;rw [yac rfl];go_simp
end Go.Proofs.YtpgffjjpiafhpaaGreatDoor
