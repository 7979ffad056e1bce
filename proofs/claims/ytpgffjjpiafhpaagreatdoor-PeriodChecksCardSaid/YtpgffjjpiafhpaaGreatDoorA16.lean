/- Parts of a proof about this translation: Se. -/
import Derived.Test.YtpgffjjpiafhpaaGreatDoorA15
set_option linter.unusedVariables false
set_option linter.unusedSimpArgs false
set_option maxRecDepth 100000
set_option maxHeartbeats 8000000
namespace Go.Proofs.YtpgffjjpiafhpaaGreatDoor
open Go.RowKit
theorem divInt_add (a b:Rat):Rat.divInt (a.num*(b.den:Int)+b.num*(a.den:Int)) ((a.den*b.den:Nat):Int)=a+b:=by
 rw [Int.natCast_mul,← Rat.divInt_add_divInt _ _ (by have:=a.den_pos;omega) (by have:=b.den_pos;omega),Rat.num_divInt_den,Rat.num_divInt_den]
theorem mk_add1 (x y:Int) (m n:Nat) (h:sgB x=sgB y):mk (sgB x) (x.natAbs*n+y.natAbs*m)=x*(n:Int)+y*(m:Int):=by
 unfold mk sgB at *
 have h1:(x.natAbs:Int)=if x<0 then -x else x:=by split<;>omega
 have h2:(y.natAbs:Int)=if y<0 then -y else y:=by split<;>omega
 by_cases hx:x<0<;>by_cases hy:y<0<;>simp [hx,hy] at h<;>simp [hx,hy,h1,h2,Int.natCast_mul,Int.neg_mul,Int.mul_neg]
 omega
theorem mk_add2 (x y:Int) (m n:Nat) (h:sgB x≠sgB y) (hle:y.natAbs*m≤x.natAbs*n):mk (sgB x) (x.natAbs*n-y.natAbs*m)=x*(n:Int)+y*(m:Int):=by
 have h3:((x.natAbs*n-y.natAbs*m:Nat):Int)=x.natAbs*n-y.natAbs*m:=by rw [Int.ofNat_sub hle];simp
 unfold mk sgB at *
 have h1:(x.natAbs:Int)=if x<0 then -x else x:=by split<;>omega
 have h2:(y.natAbs:Int)=if y<0 then -y else y:=by split<;>omega
 rw [h3]
 by_cases hx:x<0<;>by_cases hy:y<0<;>simp [hx,hy] at h<;>simp [hx,hy,h1,h2,Int.neg_mul,Int.mul_neg]<;>omega
theorem radd_c (a b:Rat) (ha:FitQ 20000000 a) (hb:FitQ 20000000 b) (w:World) :
  Calls Tryz.prog 143 #[rv a,rv b] w fun e w'=>e = .returned (rv (a+b))∧Keep [] w w':=by
 have HA:Hid (∀ w',Calls Tryz.prog 138 #[rv a] w' (FracPost w' a)):=fun w'=>of_c w' a (by have:=(fitq_sz ha).1;omega) (by have:=(fitq_sz ha).2;omega)
 have HB:Hid (∀ w',Calls Tryz.prog 138 #[rv b] w' (FracPost w' b)):=fun w'=>of_c w' b (by have:=(fitq_sz hb).1;omega) (by have:=(fitq_sz hb).2;omega)
 have hla:=fitq_ln ha
 have hlb:=fitq_ln hb
 have hl1:=Ln_mul a.num.natAbs b.den
 have hl2:=Ln_mul b.num.natAbs a.den
 have hl3:=Ln_mul a.den b.den
 have HL1:Hid (Ln a.num.natAbs≤1000000000∧Ln b.num.natAbs≤1000000000∧Ln a.den≤1000000000∧Ln b.den≤1000000000):=⟨by omega,by omega,by omega,by omega⟩
 have HL2:Hid (Ln (a.num.natAbs*b.den)≤1000000000∧Ln (b.num.natAbs*a.den)≤1000000000):=⟨by omega,by omega⟩
 have HC0 : ∀ w' v1 v2 neg N, N ≤ a.num.natAbs * b.den + b.num.natAbs * a.den → mk neg N = a.num * (b.den : Int) + b.num * (a.den : Int) → DR w' v1 N → DR w' v2 (a.den * b.den) →
   Calls Tryz.prog 142 #[.agg #[.bool neg,v1,v2]] w' fun e w''=>e = .returned (rv (a+b))∧Keep [] w' w'':=fun w' v1 v2 neg N hN he h1 h2=>by
  have hN2:=Nat.le_trans (Ln_mono hN) (Ln_add _ _)
  have:=rcanonical_c w' v1 v2 neg _ _ h1 h2 (by omega) (by omega) (Nat.mul_pos a.den_pos b.den_pos)
  rwa [he,divInt_add] at this
 have HC1:Hid ((sgB a.num == sgB b.num)=true→∀ w' v1 v2,DR w' v1 (a.num.natAbs*b.den+b.num.natAbs*a.den)→DR w' v2 (a.den*b.den)→Calls Tryz.prog 142 #[.agg #[.bool (sgB a.num),v1,v2]] w' fun e w''=>e = .returned (rv (a+b))∧Keep [] w' w'') :=
  fun h w' v1 v2=>HC0 w' v1 v2 _ _ (Nat.le_refl _) (mk_add1 _ _ _ _ (by simpa using h))
 have HC2:Hid ((sgB a.num == sgB b.num)=false→b.num.natAbs*a.den≤a.num.natAbs*b.den→∀ w' v1 v2,DR w' v1 (a.num.natAbs*b.den-b.num.natAbs*a.den)→DR w' v2 (a.den*b.den)→Calls Tryz.prog 142 #[.agg #[.bool (sgB a.num),v1,v2]] w' fun e w''=>e = .returned (rv (a+b))∧Keep [] w' w'') :=
  fun h hle w' v1 v2=>HC0 w' v1 v2 _ _ (by omega) (mk_add2 _ _ _ _ (by simpa using h) hle)
 have HC3:Hid ((sgB a.num == sgB b.num)=false→a.num.natAbs*b.den<b.num.natAbs*a.den→∀ w' v1 v2,DR w' v1 (b.num.natAbs*a.den-a.num.natAbs*b.den)→DR w' v2 (a.den*b.den)→Calls Tryz.prog 142 #[.agg #[.bool (sgB b.num),v1,v2]] w' fun e w''=>e = .returned (rv (a+b))∧Keep [] w' w'') :=
  fun h hlt w' v1 v2=>HC0 w' v1 v2 _ _ (by omega) (by rw [mk_add2 _ _ _ _ (fun e=>by simp [e] at h) (by omega),Int.add_comm])
 clear hla hlb ha hb hl1 hl2 hl3 HC0
 have HTW:Hid (∀ {W u:World} (g k:Nat) {xo yo uo vo:Option Addr} {xn yn un vn xc yc uc vc:Nat} {bs:List (Nat × Obj)},
  MSt W u [(.slice uo un uc,b.num.natAbs),(.slice vo vn vc,b.den),(.slice xo xn xc,a.num.natAbs),(.slice yo yn yc,a.den)] bs→(bs=[(g,.cells #[.bool false,.slice none 0 0,.slice none 0 0] 160),(k,.cells #[.bool false,.slice none 0 0,.slice none 0 0] 160)]∨bs=[(k,.cells #[.bool false,.slice none 0 0,.slice none 0 0] 160),(g,.cells #[.bool false,.slice none 0 0,.slice none 0 0] 160)])→_):=fun g k _ _ _ _ _ _ _ _ _ _ _ _ bs h hb=>twoF_of (a:=a) (b:=b) (g:=g) (k:=k) h hb
 unfold rv at HA HB HC1 HC2 HC3
 unfold rv
 unfold TwoF at HTW
 unfold FracPost at HA HB
 generalize sgB (a+b).num=nr at *
 generalize mgS (a+b).num=sr at *
 generalize dnS (a+b).den=dr at *
 generalize sgB (a).num=na at *
 generalize mgS (a).num=sa at *
 generalize dnS (a).den=da at *
 generalize sgB (b).num=nb at *
 generalize mgS (b).num=sb at *
 generalize dnS (b).den=db at *
 generalize a.num.natAbs=Aa at *
 generalize a.den=Da at *
 generalize b.num.natAbs=Ab at *
 generalize b.den=Db at *
 go_enter Tryz.func143,Tryz.ntmps143
 go_upto_region 1 with (fail)
 obtain⟨W,ga,gb,gc,hW,ega,egb,egc,Bga,Bgb,Bgc,hga,hgb,hgc,hgW,HkW⟩:=al3h w (.cells #[.bool na,.string sa,.bool false,.string da] 28) (.cells #[.bool nb,.string sb,.bool false,.string db] 28) (.cells #[.bool false,.string ⟨#[]⟩,.bool false,.string ⟨#[]⟩] 28)
 rw [← hW]
 try rw [egc]
 try rw [egb]
 try rw [ega]
 clear hW ega egb egc
 go_cut [5,6] (fun pv qv wx=>∃ (ea eb:Nat) (xo yo uo vo:Option Addr) (xn yn un vn xc yc uc vc:Nat),pv = .pointer (some ⟨ea,0,none⟩)∧qv = .pointer (some ⟨eb,0,none⟩)∧MSt W wx [(.slice uo un uc,Ab),(.slice vo vn vc,Db),(.slice xo xn xc,Aa),(.slice yo yn yc,Da)] [(ea,.cells #[.bool na,.slice xo xn xc,.slice yo yn yc] 160),(eb,.cells #[.bool nb,.slice uo un uc,.slice vo vn vc] 160)])
 case first =>
  refine wp_region_heldT (S:=fun u=>Keep [] W u) 6 (by kernel_rfl) (by kernel_rfl) (fun _ _ d _ _ h=>by cases d<;>exact h) ?_
  have hS0:=Keep.drew [] W
  have HM:=jX (MSt.start hS0)
  generalize World.drew W=u at *
  have Bea:=Bga
  have Beb:=Bgb
  refine' jV (v:=_) 0 hS0 (fun w hw=>?hf0) (fun K hK=>?kf0)
  case hf0=>(have pea:=cell_of (hw.heap Bea.out (by simp));have peb:=cell_of (hw.heap Beb.out (by simp));go_simp;try rfl)
  go_simp
  refine hK _ ?_
  clear hK K
  refine' jV (v:=_) 2 hS0 (fun w hw=>?hf2) (fun K hK=>?kf2)
  case hf2=>(have pea:=cell_of (hw.heap Bea.out (by simp));have peb:=cell_of (hw.heap Beb.out (by simp));go_simp;try rfl)
  go_simp
  refine hK _ ?_
  clear hK K
  clear hS0 Bea Beb
  refine heldT_three 1 4 5 (by kernel_rfl) (by decide) (by decide) (by decide) (by rfl) (by rfl) (by rfl) (by rfl) (by rfl) (by rfl) (fun K hK=>?_) (fun K hK=>?_) (fun K hK=>?_)
  ·skip
   refine wp_enter 138 #[.agg #[.bool na,.string sa,.bool false,.string da]] (by go_simp) ?_
   refine (HA.out _).mono ?_
   rintro e u ⟨z1,z2,rfl,hd1,hd2,hk1⟩
   obtain⟨xo,xc,rfl,_⟩:=hd1.form
   obtain⟨yo,yc,rfl,_⟩:=hd2.form
   have HM:=jX (HM.out.call hk1 hd1 hd2)
   clear hd1 hd2 hk1
   refine ⟨_,rfl,?_⟩
   refine hK _ _ HM.out.1 ?_
   clear hK K
   refine heldT_three 3 4 5 (by kernel_rfl) (by decide) (by decide) (by decide) (by rfl) (by rfl) (by rfl) (by rfl) (by rfl) (by rfl) (fun K hK=>?_) (fun K hK=>?_) (fun K hK=>?_)
   ·skip
    refine wp_enter 138 #[.agg #[.bool nb,.string sb,.bool false,.string db]] (by go_simp) ?_
    refine (HB.out _).mono ?_
    rintro e u ⟨y1,y2,rfl,hd1,hd2,hk1⟩
    obtain⟨uo,uc,rfl,_⟩:=hd1.form
    obtain⟨vo,vc,rfl,_⟩:=hd2.form
    have HM:=jX (HM.out.call hk1 hd1 hd2)
    clear hd1 hd2 hk1
    refine ⟨_,rfl,?_⟩
    refine hK _ _ HM.out.1 ?_
    clear hK K
    refine heldT_two 4 5 (by kernel_rfl) (by decide) (by decide) (by rfl) (by rfl) (by rfl) (by rfl) (fun K hK=>?_) (fun K hK=>?_)
    ·skip
     obtain⟨u2,g,e1,e2,hm2⟩:=HM.out.new' (.cells #[.bool false,.slice none 0 0,.slice none 0 0] 160)
     go_simp
     have HM:=jX hm2
     clear e1 e2 hm2
     refine hK _ _ HM.out.1 ?_
     clear hK K
     refine jO 5 (fun K hK=>?_)
     obtain⟨u2,k,e1,e2,hm2⟩:=HM.out.new' (.cells #[.bool false,.slice none 0 0,.slice none 0 0] 160)
     go_simp
     have HM:=jX hm2
     clear e1 e2 hm2
     refine hK _ _ HM.out.1 ?_
     clear hK K
     refine ⟨by kernel_rfl,?_⟩
     simp only [List.drop_succ_cons,List.drop_zero]
     have Bg:=jX (HM.out.2.2.1 (g,.cells #[.bool false,.slice none 0 0,.slice none 0 0] 160) (by simp)).1
     have Bk:=jX (HM.out.2.2.1 (k,.cells #[.bool false,.slice none 0 0,.slice none 0 0] 160) (by simp)).1
     have hgk:g≠k:=by have:=HM.out.2.2.2;simp at this;omega
     have HT:=jX (HTW.out g k HM.out (by first|exact .inl rfl|exact .inr rfl))
     clear HM
     have pg:=cell_of Bg.out
     have fg:=frozen_of Bg.out
     have lg:=lt_of_heap Bg.out
     have pk:=cell_of Bk.out
     have fk:=frozen_of Bk.out
     have lk:=lt_of_heap Bk.out
     go_wp2_with fail
     go_meet
     exact HT.out
    skip
    obtain⟨u2,k,e1,e2,hm2⟩:=HM.out.new' (.cells #[.bool false,.slice none 0 0,.slice none 0 0] 160)
    go_simp
    have HM:=jX hm2
    clear e1 e2 hm2
    refine hK _ _ HM.out.1 ?_
    clear hK K
    refine jO 4 (fun K hK=>?_)
    obtain⟨u2,g,e1,e2,hm2⟩:=HM.out.new' (.cells #[.bool false,.slice none 0 0,.slice none 0 0] 160)
    go_simp
    have HM:=jX hm2
    clear e1 e2 hm2
    refine hK _ _ HM.out.1 ?_
    clear hK K
    refine ⟨by kernel_rfl,?_⟩
    simp only [List.drop_succ_cons,List.drop_zero]
    have Bg:=jX (HM.out.2.2.1 (g,.cells #[.bool false,.slice none 0 0,.slice none 0 0] 160) (by simp)).1
    have Bk:=jX (HM.out.2.2.1 (k,.cells #[.bool false,.slice none 0 0,.slice none 0 0] 160) (by simp)).1
    have hgk:g≠k:=by have:=HM.out.2.2.2;simp at this;omega
    have HT:=jX (HTW.out g k HM.out (by first|exact .inl rfl|exact .inr rfl))
    clear HM
    have pg:=cell_of Bg.out
    have fg:=frozen_of Bg.out
    have lg:=lt_of_heap Bg.out
    have pk:=cell_of Bk.out
    have fk:=frozen_of Bk.out
    have lk:=lt_of_heap Bk.out
    go_wp2_with fail
    go_meet
    exact HT.out
   ·skip
    obtain⟨u2,g,e1,e2,hm2⟩:=HM.out.new' (.cells #[.bool false,.slice none 0 0,.slice none 0 0] 160)
    go_simp
    have HM:=jX hm2
    clear e1 e2 hm2
    refine hK _ _ HM.out.1 ?_
    clear hK K
    refine heldT_two 3 5 (by kernel_rfl) (by decide) (by decide) (by rfl) (by rfl) (by rfl) (by rfl) (fun K hK=>?_) (fun K hK=>?_)
    ·skip
     refine wp_enter 138 #[.agg #[.bool nb,.string sb,.bool false,.string db]] (by go_simp) ?_
     refine (HB.out _).mono ?_
     rintro e u ⟨y1,y2,rfl,hd1,hd2,hk1⟩
     obtain⟨uo,uc,rfl,_⟩:=hd1.form
     obtain⟨vo,vc,rfl,_⟩:=hd2.form
     have HM:=jX (HM.out.call hk1 hd1 hd2)
     clear hd1 hd2 hk1
     refine ⟨_,rfl,?_⟩
     refine hK _ _ HM.out.1 ?_
     clear hK K
     refine jO 5 (fun K hK=>?_)
     obtain⟨u2,k,e1,e2,hm2⟩:=HM.out.new' (.cells #[.bool false,.slice none 0 0,.slice none 0 0] 160)
     go_simp
     have HM:=jX hm2
     clear e1 e2 hm2
     refine hK _ _ HM.out.1 ?_
     clear hK K
     refine ⟨by kernel_rfl,?_⟩
     simp only [List.drop_succ_cons,List.drop_zero]
     have Bg:=jX (HM.out.2.2.1 (g,.cells #[.bool false,.slice none 0 0,.slice none 0 0] 160) (by simp)).1
     have Bk:=jX (HM.out.2.2.1 (k,.cells #[.bool false,.slice none 0 0,.slice none 0 0] 160) (by simp)).1
     have hgk:g≠k:=by have:=HM.out.2.2.2;simp at this;omega
     have HT:=jX (HTW.out g k HM.out (by first|exact .inl rfl|exact .inr rfl))
     clear HM
     have pg:=cell_of Bg.out
     have fg:=frozen_of Bg.out
     have lg:=lt_of_heap Bg.out
     have pk:=cell_of Bk.out
     have fk:=frozen_of Bk.out
     have lk:=lt_of_heap Bk.out
     go_wp2_with fail
     go_meet
     exact HT.out
    skip
    obtain⟨u2,k,e1,e2,hm2⟩:=HM.out.new' (.cells #[.bool false,.slice none 0 0,.slice none 0 0] 160)
    go_simp
    have HM:=jX hm2
    clear e1 e2 hm2
    refine hK _ _ HM.out.1 ?_
    clear hK K
    refine jO 3 (fun K hK=>?_)
    refine wp_enter 138 #[.agg #[.bool nb,.string sb,.bool false,.string db]] (by go_simp) ?_
    refine (HB.out _).mono ?_
    rintro e u ⟨y1,y2,rfl,hd1,hd2,hk1⟩
    obtain⟨uo,uc,rfl,_⟩:=hd1.form
    obtain⟨vo,vc,rfl,_⟩:=hd2.form
    have HM:=jX (HM.out.call hk1 hd1 hd2)
    clear hd1 hd2 hk1
    refine ⟨_,rfl,?_⟩
    refine hK _ _ HM.out.1 ?_
    clear hK K
    refine ⟨by kernel_rfl,?_⟩
    simp only [List.drop_succ_cons,List.drop_zero]
    have Bg:=jX (HM.out.2.2.1 (g,.cells #[.bool false,.slice none 0 0,.slice none 0 0] 160) (by simp)).1
    have Bk:=jX (HM.out.2.2.1 (k,.cells #[.bool false,.slice none 0 0,.slice none 0 0] 160) (by simp)).1
    have hgk:g≠k:=by have:=HM.out.2.2.2;simp at this;omega
    have HT:=jX (HTW.out g k HM.out (by first|exact .inl rfl|exact .inr rfl))
    clear HM
    have pg:=cell_of Bg.out
    have fg:=frozen_of Bg.out
    have lg:=lt_of_heap Bg.out
    have pk:=cell_of Bk.out
    have fk:=frozen_of Bk.out
    have lk:=lt_of_heap Bk.out
    go_wp2_with fail
    go_meet
    exact HT.out
   skip
   obtain⟨u2,k,e1,e2,hm2⟩:=HM.out.new' (.cells #[.bool false,.slice none 0 0,.slice none 0 0] 160)
   go_simp
   have HM:=jX hm2
   clear e1 e2 hm2
   refine hK _ _ HM.out.1 ?_
   clear hK K
   refine heldT_two 3 4 (by kernel_rfl) (by decide) (by decide) (by rfl) (by rfl) (by rfl) (by rfl) (fun K hK=>?_) (fun K hK=>?_)
   ·skip
    refine wp_enter 138 #[.agg #[.bool nb,.string sb,.bool false,.string db]] (by go_simp) ?_
    refine (HB.out _).mono ?_
    rintro e u ⟨y1,y2,rfl,hd1,hd2,hk1⟩
    obtain⟨uo,uc,rfl,_⟩:=hd1.form
    obtain⟨vo,vc,rfl,_⟩:=hd2.form
    have HM:=jX (HM.out.call hk1 hd1 hd2)
    clear hd1 hd2 hk1
    refine ⟨_,rfl,?_⟩
    refine hK _ _ HM.out.1 ?_
    clear hK K
    refine jO 4 (fun K hK=>?_)
    obtain⟨u2,g,e1,e2,hm2⟩:=HM.out.new' (.cells #[.bool false,.slice none 0 0,.slice none 0 0] 160)
    go_simp
    have HM:=jX hm2
    clear e1 e2 hm2
    refine hK _ _ HM.out.1 ?_
    clear hK K
    refine ⟨by kernel_rfl,?_⟩
    simp only [List.drop_succ_cons,List.drop_zero]
    have Bg:=jX (HM.out.2.2.1 (g,.cells #[.bool false,.slice none 0 0,.slice none 0 0] 160) (by simp)).1
    have Bk:=jX (HM.out.2.2.1 (k,.cells #[.bool false,.slice none 0 0,.slice none 0 0] 160) (by simp)).1
    have hgk:g≠k:=by have:=HM.out.2.2.2;simp at this;omega
    have HT:=jX (HTW.out g k HM.out (by first|exact .inl rfl|exact .inr rfl))
    clear HM
    have pg:=cell_of Bg.out
    have fg:=frozen_of Bg.out
    have lg:=lt_of_heap Bg.out
    have pk:=cell_of Bk.out
    have fk:=frozen_of Bk.out
    have lk:=lt_of_heap Bk.out
    go_wp2_with fail
    go_meet
    exact HT.out
   skip
   obtain⟨u2,g,e1,e2,hm2⟩:=HM.out.new' (.cells #[.bool false,.slice none 0 0,.slice none 0 0] 160)
   go_simp
   have HM:=jX hm2
   clear e1 e2 hm2
   refine hK _ _ HM.out.1 ?_
   clear hK K
   refine jO 3 (fun K hK=>?_)
   refine wp_enter 138 #[.agg #[.bool nb,.string sb,.bool false,.string db]] (by go_simp) ?_
   refine (HB.out _).mono ?_
   rintro e u ⟨y1,y2,rfl,hd1,hd2,hk1⟩
   obtain⟨uo,uc,rfl,_⟩:=hd1.form
   obtain⟨vo,vc,rfl,_⟩:=hd2.form
   have HM:=jX (HM.out.call hk1 hd1 hd2)
   clear hd1 hd2 hk1
   refine ⟨_,rfl,?_⟩
   refine hK _ _ HM.out.1 ?_
   clear hK K
   refine ⟨by kernel_rfl,?_⟩
   simp only [List.drop_succ_cons,List.drop_zero]
   have Bg:=jX (HM.out.2.2.1 (g,.cells #[.bool false,.slice none 0 0,.slice none 0 0] 160) (by simp)).1
   have Bk:=jX (HM.out.2.2.1 (k,.cells #[.bool false,.slice none 0 0,.slice none 0 0] 160) (by simp)).1
   have hgk:g≠k:=by have:=HM.out.2.2.2;simp at this;omega
   have HT:=jX (HTW.out g k HM.out (by first|exact .inl rfl|exact .inr rfl))
   clear HM
   have pg:=cell_of Bg.out
   have fg:=frozen_of Bg.out
   have lg:=lt_of_heap Bg.out
   have pk:=cell_of Bk.out
   have fk:=frozen_of Bk.out
   have lk:=lt_of_heap Bk.out
   go_wp2_with fail
   go_meet
   exact HT.out
  ·skip
   obtain⟨u2,g,e1,e2,hm2⟩:=HM.out.new' (.cells #[.bool false,.slice none 0 0,.slice none 0 0] 160)
   go_simp
   have HM:=jX hm2
   clear e1 e2 hm2
   refine hK _ _ HM.out.1 ?_
   clear hK K
   refine heldT_two 1 5 (by kernel_rfl) (by decide) (by decide) (by rfl) (by rfl) (by rfl) (by rfl) (fun K hK=>?_) (fun K hK=>?_)
   ·skip
    refine wp_enter 138 #[.agg #[.bool na,.string sa,.bool false,.string da]] (by go_simp) ?_
    refine (HA.out _).mono ?_
    rintro e u ⟨z1,z2,rfl,hd1,hd2,hk1⟩
    obtain⟨xo,xc,rfl,_⟩:=hd1.form
    obtain⟨yo,yc,rfl,_⟩:=hd2.form
    have HM:=jX (HM.out.call hk1 hd1 hd2)
    clear hd1 hd2 hk1
    refine ⟨_,rfl,?_⟩
    refine hK _ _ HM.out.1 ?_
    clear hK K
    refine heldT_two 3 5 (by kernel_rfl) (by decide) (by decide) (by rfl) (by rfl) (by rfl) (by rfl) (fun K hK=>?_) (fun K hK=>?_)
    ·skip
     refine wp_enter 138 #[.agg #[.bool nb,.string sb,.bool false,.string db]] (by go_simp) ?_
     refine (HB.out _).mono ?_
     rintro e u ⟨y1,y2,rfl,hd1,hd2,hk1⟩
     obtain⟨uo,uc,rfl,_⟩:=hd1.form
     obtain⟨vo,vc,rfl,_⟩:=hd2.form
     have HM:=jX (HM.out.call hk1 hd1 hd2)
     clear hd1 hd2 hk1
     refine ⟨_,rfl,?_⟩
     refine hK _ _ HM.out.1 ?_
     clear hK K
     refine jO 5 (fun K hK=>?_)
     obtain⟨u2,k,e1,e2,hm2⟩:=HM.out.new' (.cells #[.bool false,.slice none 0 0,.slice none 0 0] 160)
     go_simp
     have HM:=jX hm2
     clear e1 e2 hm2
     refine hK _ _ HM.out.1 ?_
     clear hK K
     refine ⟨by kernel_rfl,?_⟩
     simp only [List.drop_succ_cons,List.drop_zero]
     have Bg:=jX (HM.out.2.2.1 (g,.cells #[.bool false,.slice none 0 0,.slice none 0 0] 160) (by simp)).1
     have Bk:=jX (HM.out.2.2.1 (k,.cells #[.bool false,.slice none 0 0,.slice none 0 0] 160) (by simp)).1
     have hgk:g≠k:=by have:=HM.out.2.2.2;simp at this;omega
     have HT:=jX (HTW.out g k HM.out (by first|exact .inl rfl|exact .inr rfl))
     clear HM
     have pg:=cell_of Bg.out
     have fg:=frozen_of Bg.out
     have lg:=lt_of_heap Bg.out
     have pk:=cell_of Bk.out
     have fk:=frozen_of Bk.out
     have lk:=lt_of_heap Bk.out
     go_wp2_with fail
     go_meet
     exact HT.out
    skip
    obtain⟨u2,k,e1,e2,hm2⟩:=HM.out.new' (.cells #[.bool false,.slice none 0 0,.slice none 0 0] 160)
    go_simp
    have HM:=jX hm2
    clear e1 e2 hm2
    refine hK _ _ HM.out.1 ?_
    clear hK K
    refine jO 3 (fun K hK=>?_)
    refine wp_enter 138 #[.agg #[.bool nb,.string sb,.bool false,.string db]] (by go_simp) ?_
    refine (HB.out _).mono ?_
    rintro e u ⟨y1,y2,rfl,hd1,hd2,hk1⟩
    obtain⟨uo,uc,rfl,_⟩:=hd1.form
    obtain⟨vo,vc,rfl,_⟩:=hd2.form
    have HM:=jX (HM.out.call hk1 hd1 hd2)
    clear hd1 hd2 hk1
    refine ⟨_,rfl,?_⟩
    refine hK _ _ HM.out.1 ?_
    clear hK K
    refine ⟨by kernel_rfl,?_⟩
    simp only [List.drop_succ_cons,List.drop_zero]
    have Bg:=jX (HM.out.2.2.1 (g,.cells #[.bool false,.slice none 0 0,.slice none 0 0] 160) (by simp)).1
    have Bk:=jX (HM.out.2.2.1 (k,.cells #[.bool false,.slice none 0 0,.slice none 0 0] 160) (by simp)).1
    have hgk:g≠k:=by have:=HM.out.2.2.2;simp at this;omega
    have HT:=jX (HTW.out g k HM.out (by first|exact .inl rfl|exact .inr rfl))
    clear HM
    have pg:=cell_of Bg.out
    have fg:=frozen_of Bg.out
    have lg:=lt_of_heap Bg.out
    have pk:=cell_of Bk.out
    have fk:=frozen_of Bk.out
    have lk:=lt_of_heap Bk.out
    go_wp2_with fail
    go_meet
    exact HT.out
   skip
   obtain⟨u2,k,e1,e2,hm2⟩:=HM.out.new' (.cells #[.bool false,.slice none 0 0,.slice none 0 0] 160)
   go_simp
   have HM:=jX hm2
   clear e1 e2 hm2
   refine hK _ _ HM.out.1 ?_
   clear hK K
   refine jO 1 (fun K hK=>?_)
   refine wp_enter 138 #[.agg #[.bool na,.string sa,.bool false,.string da]] (by go_simp) ?_
   refine (HA.out _).mono ?_
   rintro e u ⟨z1,z2,rfl,hd1,hd2,hk1⟩
   obtain⟨xo,xc,rfl,_⟩:=hd1.form
   obtain⟨yo,yc,rfl,_⟩:=hd2.form
   have HM:=jX (HM.out.call hk1 hd1 hd2)
   clear hd1 hd2 hk1
   refine ⟨_,rfl,?_⟩
   refine hK _ _ HM.out.1 ?_
   clear hK K
   refine jO 3 (fun K hK=>?_)
   refine wp_enter 138 #[.agg #[.bool nb,.string sb,.bool false,.string db]] (by go_simp) ?_
   refine (HB.out _).mono ?_
   rintro e u ⟨y1,y2,rfl,hd1,hd2,hk1⟩
   obtain⟨uo,uc,rfl,_⟩:=hd1.form
   obtain⟨vo,vc,rfl,_⟩:=hd2.form
   have HM:=jX (HM.out.call hk1 hd1 hd2)
   clear hd1 hd2 hk1
   refine ⟨_,rfl,?_⟩
   refine hK _ _ HM.out.1 ?_
   clear hK K
   refine ⟨by kernel_rfl,?_⟩
   simp only [List.drop_succ_cons,List.drop_zero]
   have Bg:=jX (HM.out.2.2.1 (g,.cells #[.bool false,.slice none 0 0,.slice none 0 0] 160) (by simp)).1
   have Bk:=jX (HM.out.2.2.1 (k,.cells #[.bool false,.slice none 0 0,.slice none 0 0] 160) (by simp)).1
   have hgk:g≠k:=by have:=HM.out.2.2.2;simp at this;omega
   have HT:=jX (HTW.out g k HM.out (by first|exact .inl rfl|exact .inr rfl))
   clear HM
   have pg:=cell_of Bg.out
   have fg:=frozen_of Bg.out
   have lg:=lt_of_heap Bg.out
   have pk:=cell_of Bk.out
   have fk:=frozen_of Bk.out
   have lk:=lt_of_heap Bk.out
   go_wp2_with fail
   go_meet
   exact HT.out
  skip
  obtain⟨u2,k,e1,e2,hm2⟩:=HM.out.new' (.cells #[.bool false,.slice none 0 0,.slice none 0 0] 160)
  go_simp
  have HM:=jX hm2
  clear e1 e2 hm2
  refine hK _ _ HM.out.1 ?_
  clear hK K
  refine heldT_two 1 4 (by kernel_rfl) (by decide) (by decide) (by rfl) (by rfl) (by rfl) (by rfl) (fun K hK=>?_) (fun K hK=>?_)
  ·skip
   refine wp_enter 138 #[.agg #[.bool na,.string sa,.bool false,.string da]] (by go_simp) ?_
   refine (HA.out _).mono ?_
   rintro e u ⟨z1,z2,rfl,hd1,hd2,hk1⟩
   obtain⟨xo,xc,rfl,_⟩:=hd1.form
   obtain⟨yo,yc,rfl,_⟩:=hd2.form
   have HM:=jX (HM.out.call hk1 hd1 hd2)
   clear hd1 hd2 hk1
   refine ⟨_,rfl,?_⟩
   refine hK _ _ HM.out.1 ?_
   clear hK K
   refine heldT_two 3 4 (by kernel_rfl) (by decide) (by decide) (by rfl) (by rfl) (by rfl) (by rfl) (fun K hK=>?_) (fun K hK=>?_)
   ·skip
    refine wp_enter 138 #[.agg #[.bool nb,.string sb,.bool false,.string db]] (by go_simp) ?_
    refine (HB.out _).mono ?_
    rintro e u ⟨y1,y2,rfl,hd1,hd2,hk1⟩
    obtain⟨uo,uc,rfl,_⟩:=hd1.form
    obtain⟨vo,vc,rfl,_⟩:=hd2.form
    have HM:=jX (HM.out.call hk1 hd1 hd2)
    clear hd1 hd2 hk1
    refine ⟨_,rfl,?_⟩
    refine hK _ _ HM.out.1 ?_
    clear hK K
    refine jO 4 (fun K hK=>?_)
    obtain⟨u2,g,e1,e2,hm2⟩:=HM.out.new' (.cells #[.bool false,.slice none 0 0,.slice none 0 0] 160)
    go_simp
    have HM:=jX hm2
    clear e1 e2 hm2
    refine hK _ _ HM.out.1 ?_
    clear hK K
    refine ⟨by kernel_rfl,?_⟩
    simp only [List.drop_succ_cons,List.drop_zero]
    have Bg:=jX (HM.out.2.2.1 (g,.cells #[.bool false,.slice none 0 0,.slice none 0 0] 160) (by simp)).1
    have Bk:=jX (HM.out.2.2.1 (k,.cells #[.bool false,.slice none 0 0,.slice none 0 0] 160) (by simp)).1
    have hgk:g≠k:=by have:=HM.out.2.2.2;simp at this;omega
    have HT:=jX (HTW.out g k HM.out (by first|exact .inl rfl|exact .inr rfl))
    clear HM
    have pg:=cell_of Bg.out
    have fg:=frozen_of Bg.out
    have lg:=lt_of_heap Bg.out
    have pk:=cell_of Bk.out
    have fk:=frozen_of Bk.out
    have lk:=lt_of_heap Bk.out
    go_wp2_with fail
    go_meet
    exact HT.out
   skip
   obtain⟨u2,g,e1,e2,hm2⟩:=HM.out.new' (.cells #[.bool false,.slice none 0 0,.slice none 0 0] 160)
   go_simp
   have HM:=jX hm2
   clear e1 e2 hm2
   refine hK _ _ HM.out.1 ?_
   clear hK K
   refine jO 3 (fun K hK=>?_)
   refine wp_enter 138 #[.agg #[.bool nb,.string sb,.bool false,.string db]] (by go_simp) ?_
   refine (HB.out _).mono ?_
   rintro e u ⟨y1,y2,rfl,hd1,hd2,hk1⟩
   obtain⟨uo,uc,rfl,_⟩:=hd1.form
   obtain⟨vo,vc,rfl,_⟩:=hd2.form
   have HM:=jX (HM.out.call hk1 hd1 hd2)
   clear hd1 hd2 hk1
   refine ⟨_,rfl,?_⟩
   refine hK _ _ HM.out.1 ?_
   clear hK K
   refine ⟨by kernel_rfl,?_⟩
   simp only [List.drop_succ_cons,List.drop_zero]
   have Bg:=jX (HM.out.2.2.1 (g,.cells #[.bool false,.slice none 0 0,.slice none 0 0] 160) (by simp)).1
   have Bk:=jX (HM.out.2.2.1 (k,.cells #[.bool false,.slice none 0 0,.slice none 0 0] 160) (by simp)).1
   have hgk:g≠k:=by have:=HM.out.2.2.2;simp at this;omega
   have HT:=jX (HTW.out g k HM.out (by first|exact .inl rfl|exact .inr rfl))
   clear HM
   have pg:=cell_of Bg.out
   have fg:=frozen_of Bg.out
   have lg:=lt_of_heap Bg.out
   have pk:=cell_of Bk.out
   have fk:=frozen_of Bk.out
   have lk:=lt_of_heap Bk.out
   go_wp2_with fail
   go_meet
   exact HT.out
  skip
  obtain⟨u2,g,e1,e2,hm2⟩:=HM.out.new' (.cells #[.bool false,.slice none 0 0,.slice none 0 0] 160)
  go_simp
  have HM:=jX hm2
  clear e1 e2 hm2
  refine hK _ _ HM.out.1 ?_
  clear hK K
  refine jO 1 (fun K hK=>?_)
  refine wp_enter 138 #[.agg #[.bool na,.string sa,.bool false,.string da]] (by go_simp) ?_
  refine (HA.out _).mono ?_
  rintro e u ⟨z1,z2,rfl,hd1,hd2,hk1⟩
  obtain⟨xo,xc,rfl,_⟩:=hd1.form
  obtain⟨yo,yc,rfl,_⟩:=hd2.form
  have HM:=jX (HM.out.call hk1 hd1 hd2)
  clear hd1 hd2 hk1
  refine ⟨_,rfl,?_⟩
  refine hK _ _ HM.out.1 ?_
  clear hK K
  refine jO 3 (fun K hK=>?_)
  refine wp_enter 138 #[.agg #[.bool nb,.string sb,.bool false,.string db]] (by go_simp) ?_
  refine (HB.out _).mono ?_
  rintro e u ⟨y1,y2,rfl,hd1,hd2,hk1⟩
  obtain⟨uo,uc,rfl,_⟩:=hd1.form
  obtain⟨vo,vc,rfl,_⟩:=hd2.form
  have HM:=jX (HM.out.call hk1 hd1 hd2)
  clear hd1 hd2 hk1
  refine ⟨_,rfl,?_⟩
  refine hK _ _ HM.out.1 ?_
  clear hK K
  refine ⟨by kernel_rfl,?_⟩
  simp only [List.drop_succ_cons,List.drop_zero]
  have Bg:=jX (HM.out.2.2.1 (g,.cells #[.bool false,.slice none 0 0,.slice none 0 0] 160) (by simp)).1
  have Bk:=jX (HM.out.2.2.1 (k,.cells #[.bool false,.slice none 0 0,.slice none 0 0] 160) (by simp)).1
  have hgk:g≠k:=by have:=HM.out.2.2.2;simp at this;omega
  have HT:=jX (HTW.out g k HM.out (by first|exact .inl rfl|exact .inr rfl))
  clear HM
  have pg:=cell_of Bg.out
  have fg:=frozen_of Bg.out
  have lg:=lt_of_heap Bg.out
  have pk:=cell_of Bk.out
  have fk:=frozen_of Bk.out
  have lk:=lt_of_heap Bk.out
  go_wp2_with fail
  go_meet
  exact HT.out
 case rest =>
  clear HA HB HTW
  obtain⟨ea,eb,xo,yo,uo,vo,xn,yn,un,vn,xc,yc,uc,vc,rfl,rfl,hm⟩:=hcut
  have HM:=jX hm
  clear hm
  have Bea:=jX (HM.out.blk ea (.cells #[.bool na,.slice xo xn xc,.slice yo yn yc] 160) (by simp))
  have Beb:=jX (HM.out.blk eb (.cells #[.bool nb,.slice uo un uc,.slice vo vn vc] 160) (by simp))
  go_wp2_with fail
  refine wp_region_heldT (S:=fun u=>Keep [] wc u) 10 (by kernel_rfl) (by kernel_rfl) (fun _ _ d _ _ h=>by cases d<;>exact h) ?_
  have hS0:=Keep.drew [] wc
  have HM:=jX (HM.out.move hS0)
  generalize World.drew wc=u at *
  refine' jV (v:=_) 0 hS0 (fun w hw=>?hr0) (fun K hK=>?kr0)
  case hr0=>(have pea:=cell_of (hw.heap Bea.out (by simp));have peb:=cell_of (hw.heap Beb.out (by simp));go_simp;try rfl)
  go_simp
  refine hK _ ?_
  clear hK K
  refine' jV (v:=_) 1 hS0 (fun w hw=>?hr1) (fun K hK=>?kr1)
  case hr1=>(have pea:=cell_of (hw.heap Bea.out (by simp));have peb:=cell_of (hw.heap Beb.out (by simp));go_simp;try rfl)
  go_simp
  refine hK _ ?_
  clear hK K
  refine' jV (v:=_) 2 hS0 (fun w hw=>?hr2) (fun K hK=>?kr2)
  case hr2=>(have pea:=cell_of (hw.heap Bea.out (by simp));have peb:=cell_of (hw.heap Beb.out (by simp));go_simp;try rfl)
  go_simp
  refine hK _ ?_
  clear hK K
  refine' jV (v:=_) 3 hS0 (fun w hw=>?hr3) (fun K hK=>?kr3)
  case hr3=>(have pea:=cell_of (hw.heap Bea.out (by simp));have peb:=cell_of (hw.heap Beb.out (by simp));go_simp;try rfl)
  go_simp
  refine hK _ ?_
  clear hK K
  refine' jV (v:=_) 5 hS0 (fun w hw=>?hr5) (fun K hK=>?kr5)
  case hr5=>(have pea:=cell_of (hw.heap Bea.out (by simp));have peb:=cell_of (hw.heap Beb.out (by simp));go_simp;try rfl)
  go_simp
  refine hK _ ?_
  clear hK K
  refine' jV (v:=_) 6 hS0 (fun w hw=>?hr6) (fun K hK=>?kr6)
  case hr6=>(have pea:=cell_of (hw.heap Bea.out (by simp));have peb:=cell_of (hw.heap Beb.out (by simp));go_simp;try rfl)
  go_simp
  refine hK _ ?_
  clear hK K
  refine' jV (v:=_) 7 hS0 (fun w hw=>?hr7) (fun K hK=>?kr7)
  case hr7=>(have pea:=cell_of (hw.heap Bea.out (by simp));have peb:=cell_of (hw.heap Beb.out (by simp));go_simp;try rfl)
  go_simp
  refine hK _ ?_
  clear hK K
  refine' jV (v:=_) 8 hS0 (fun w hw=>?hr8) (fun K hK=>?kr8)
  case hr8=>(have pea:=cell_of (hw.heap Bea.out (by simp));have peb:=cell_of (hw.heap Beb.out (by simp));go_simp;try rfl)
  go_simp
  refine hK _ ?_
  clear hK K
  refine jO 4 (fun K hK=>?_)
  refine wp_enter 141 #[.slice xo xn xc,.slice vo vn vc] (by go_simp) ?_
  refine (times_c _ _ _ _ _ (HM.out.dr (.slice xo xn xc) Aa (by simp)) (HM.out.dr (.slice vo vn vc) Db (by simp)) HL1.out.1 HL1.out.2.2.2).mono ?_
  rintro e u1 ⟨t,rfl,hd1,hk1⟩
  obtain⟨tb,tc,rfl,_⟩:=hd1.form
  have hS0:=hS0.trans0 hk1
  have HM:=jX (HM.out.call1 hk1 hd1)
  refine ⟨_,rfl,?_⟩
  refine hK _ _ hS0 ?_
  clear hK K hk1 hd1
  refine jO 9 (fun K hK=>?_)
  refine wp_enter 141 #[.slice uo un uc,.slice yo yn yc] (by go_simp) ?_
  refine (times_c _ _ _ _ _ (HM.out.dr (.slice uo un uc) Ab (by simp)) (HM.out.dr (.slice yo yn yc) Da (by simp)) HL1.out.2.1 HL1.out.2.2.1).mono ?_
  rintro e u1 ⟨z,rfl,hd1,hk1⟩
  obtain⟨zb,zc,rfl,_⟩:=hd1.form
  have hS0:=hS0.trans0 hk1
  have HM:=jX (HM.out.call1 hk1 hd1)
  refine ⟨_,rfl,?_⟩
  refine hK _ _ hS0 ?_
  clear hK K hk1 hd1
  refine ⟨by kernel_rfl,?_⟩
  simp only [List.drop_succ_cons,List.drop_zero]
  have pea:=cell_of (hS0.heap Bea.out (by simp))
  have peb:=cell_of (hS0.heap Beb.out (by simp))
  have HS:=jX hS0
  clear hS0
  go_wp2_with fail
  refine (times_c _ _ _ _ _ (HM.out.dr (.slice yo yn yc) Da (by simp)) (HM.out.dr (.slice vo vn vc) Db (by simp)) HL1.out.2.2.1 HL1.out.2.2.2).mono ?_
  rintro e u2 ⟨d,rfl,hd1,hk1⟩
  obtain⟨eb2,ec2,rfl,_⟩:=hd1.form
  have hS0:=HS.out.trans0 hk1
  have HM:=jX (HM.out.call1 hk1 hd1)
  clear HS hk1 hd1 pea peb
  have pea:=cell_of (hS0.heap Bea.out (by simp))
  have peb:=cell_of (hS0.heap Beb.out (by simp))
  have HS:=jX hS0
  clear hS0
  dsimp only
  by_cases hnn:(na == nb)=true
  ·have HC:=jX (HC1.out hnn)
   clear HC1 HC2 HC3
   go_wp2_with fail
   refine wp_region_heldT (S:=fun u=>Keep [] wc u) 8 (by kernel_rfl) (by kernel_rfl) (fun _ _ d _ _ h=>by cases d<;>exact h) ?_
   have hS0:=HS.out.trans0 (Keep.drew [] _)
   have HM:=jX (HM.out.move (Keep.drew [] _))
   generalize World.drew _=u at *
   refine' jV (v:=_) 0 hS0 (fun w hw=>?hp0) (fun K hK=>?kp0)
   case hp0=>(have pea:=cell_of (hw.heap Bea.out (by simp));have peb:=cell_of (hw.heap Beb.out (by simp));go_simp;try rfl)
   go_simp
   refine hK _ ?_
   clear hK K
   refine' jV (v:=_) 1 hS0 (fun w hw=>?hp1) (fun K hK=>?kp1)
   case hp1=>(have pea:=cell_of (hw.heap Bea.out (by simp));have peb:=cell_of (hw.heap Beb.out (by simp));go_simp;try rfl)
   go_simp
   refine hK _ ?_
   clear hK K
   refine' jV (v:=_) 2 hS0 (fun w hw=>?hp2) (fun K hK=>?kp2)
   case hp2=>(have pea:=cell_of (hw.heap Bea.out (by simp));have peb:=cell_of (hw.heap Beb.out (by simp));go_simp;try rfl)
   go_simp
   refine hK _ ?_
   clear hK K
   refine' jV (v:=_) 3 hS0 (fun w hw=>?hp3) (fun K hK=>?kp3)
   case hp3=>(have pea:=cell_of (hw.heap Bea.out (by simp));have peb:=cell_of (hw.heap Beb.out (by simp));go_simp;try rfl)
   go_simp
   refine hK _ ?_
   clear hK K
   refine' jV (v:=_) 5 hS0 (fun w hw=>?hp5) (fun K hK=>?kp5)
   case hp5=>(have pea:=cell_of (hw.heap Bea.out (by simp));have peb:=cell_of (hw.heap Beb.out (by simp));go_simp;try rfl)
   go_simp
   refine hK _ ?_
   clear hK K
   refine jO 4 (fun K hK=>?_)
   refine wp_enter 180 #[.slice tb (Ln (Aa*Db)) tc,.slice zb (Ln (Ab*Da)) zc] (by go_simp) ?_
   refine (plus_c _ _ _ _ _ (HM.out.dr (.slice tb (Ln (Aa*Db)) tc) (Aa*Db) (by simp)) (HM.out.dr (.slice zb (Ln (Ab*Da)) zc) (Ab*Da) (by simp)) HL2.out.1 HL2.out.2).mono ?_
   rintro e u1 ⟨r,rfl,hd1,hk1⟩
   obtain⟨rb,rc,rfl,_⟩:=hd1.form
   have hS0:=hS0.trans0 hk1
   have HM:=jX (HM.out.call1 hk1 hd1)
   refine ⟨_,rfl,?_⟩
   refine hK _ _ hS0 ?_
   clear hK K hk1 hd1
   refine' jV (v:=_) 6 hS0 (fun w hw=>?hp6) (fun K hK=>?kp6)
   case hp6=>(have pea:=cell_of (hw.heap Bea.out (by simp));have peb:=cell_of (hw.heap Beb.out (by simp));go_simp;try rfl)
   go_simp
   refine hK _ ?_
   clear hK K
   refine jO 7 (fun K hK=>?_)
   refine wp_enter 142 #[.agg #[.bool na,.slice rb (Ln (Aa*Db+Ab*Da)) rc,.slice eb2 (Ln (Da*Db)) ec2]] (by go_simp) ?_
   refine (HC.out _ _ _ (HM.out.dr (.slice rb (Ln (Aa*Db+Ab*Da)) rc) _ (by simp)) (HM.out.dr (.slice eb2 (Ln (Da*Db)) ec2) _ (by simp))).mono ?_
   rintro e u1 ⟨rfl,hk1⟩
   have hS0:=hS0.trans0 hk1
   have HM:=jX (HM.out.move hk1)
   refine ⟨_,rfl,?_⟩
   refine hK _ _ hS0 ?_
   clear hK K hk1
   refine ⟨by kernel_rfl,?_⟩
   simp only [List.drop_succ_cons,List.drop_zero]
   have Hgc:=jX (HM.out.1.heap Bgc.out (by simp))
   have HkW:=jX (HkW.out.trans0 HM.out.1)
   have pgc:=cell_of Hgc.out
   have fgc:=frozen_of Hgc.out
   have lgc:=lt_of_heap Hgc.out
   go_wp2_with fail
   refine bodyPost_ret (v:=.agg #[.bool nr,.string sr,.bool false,.string dr]) ?_ rfl ⟨rfl,by repeat (first|(with_reducible exact HkW.out)|(refine Keep.setPast ?_ _ _ _ (by omega))|(refine Keep.allocPast ?_ _)|(refine Keep.drewPast ?_))⟩
   rw [results_cell1 rfl];go_simp
  have hnn:(na == nb)=false:=by simpa using hnn
  have HCM:=fun w' h1 h2=>rcompare_c w' (.slice tb (Ln (Aa*Db)) tc) (.slice zb (Ln (Ab*Da)) zc) (Aa*Db) (Ab*Da) h1 h2 HL2.out.1 HL2.out.2
  by_cases hle:Ab*Da≤Aa*Db
  ·have HC:=jX (HC2.out hnn hle)
   have Hle:=jX hle
   have hge:decide (Lib.compareInt ((Aa*Db:Nat):Int) ((Ab*Da:Nat):Int)≥0)=true:=by unfold Lib.compareInt;simp only [decide_eq_true_eq];split<;>(try split)<;>omega
   generalize Lib.compareInt ((Aa*Db:Nat):Int) ((Ab*Da:Nat):Int)=cm at *
   clear HC1 HC2 HC3 hle
   go_wp2_with fail
   refine (HCM _ (HM.out.dr (.slice tb (Ln (Aa*Db)) tc) (Aa*Db) (by simp)) (HM.out.dr (.slice zb (Ln (Ab*Da)) zc) (Ab*Da) (by simp))).mono ?_
   rintro e u3 ⟨rfl,hk1⟩
   dsimp only
   have hS0:=HS.out.trans0 hk1
   have HM:=jX (HM.out.move hk1)
   clear HS hk1 pea peb HCM
   have pea:=cell_of (hS0.heap Bea.out (by simp))
   have peb:=cell_of (hS0.heap Beb.out (by simp))
   have HS:=jX hS0
   clear hS0
   go_wp2_with fail
   refine wp_region_heldT (S:=fun u=>Keep [] wc u) 8 (by kernel_rfl) (by kernel_rfl) (fun _ _ d _ _ h=>by cases d<;>exact h) ?_
   have hS0:=HS.out.trans0 (Keep.drew [] _)
   have HM:=jX (HM.out.move (Keep.drew [] _))
   generalize World.drew _=u at *
   refine' jV (v:=_) 0 hS0 (fun w hw=>?hq0) (fun K hK=>?kq0)
   case hq0=>(have pea:=cell_of (hw.heap Bea.out (by simp));have peb:=cell_of (hw.heap Beb.out (by simp));go_simp;try rfl)
   go_simp
   refine hK _ ?_
   clear hK K
   refine' jV (v:=_) 1 hS0 (fun w hw=>?hq1) (fun K hK=>?kq1)
   case hq1=>(have pea:=cell_of (hw.heap Bea.out (by simp));have peb:=cell_of (hw.heap Beb.out (by simp));go_simp;try rfl)
   go_simp
   refine hK _ ?_
   clear hK K
   refine' jV (v:=_) 2 hS0 (fun w hw=>?hq2) (fun K hK=>?kq2)
   case hq2=>(have pea:=cell_of (hw.heap Bea.out (by simp));have peb:=cell_of (hw.heap Beb.out (by simp));go_simp;try rfl)
   go_simp
   refine hK _ ?_
   clear hK K
   refine' jV (v:=_) 3 hS0 (fun w hw=>?hq3) (fun K hK=>?kq3)
   case hq3=>(have pea:=cell_of (hw.heap Bea.out (by simp));have peb:=cell_of (hw.heap Beb.out (by simp));go_simp;try rfl)
   go_simp
   refine hK _ ?_
   clear hK K
   refine' jV (v:=_) 5 hS0 (fun w hw=>?hq5) (fun K hK=>?kq5)
   case hq5=>(have pea:=cell_of (hw.heap Bea.out (by simp));have peb:=cell_of (hw.heap Beb.out (by simp));go_simp;try rfl)
   go_simp
   refine hK _ ?_
   clear hK K
   refine jO 4 (fun K hK=>?_)
   refine wp_enter 181 #[.slice tb (Ln (Aa*Db)) tc,.slice zb (Ln (Ab*Da)) zc] (by go_simp) ?_
   refine (minus_c _ _ _ _ _ (HM.out.dr (.slice tb (Ln (Aa*Db)) tc) (Aa*Db) (by simp)) (HM.out.dr (.slice zb (Ln (Ab*Da)) zc) (Ab*Da) (by simp)) HL2.out.1 Hle.out).mono ?_
   rintro e u1 ⟨r,rfl,hd1,hk1⟩
   obtain⟨rb,rc,rfl,_⟩:=hd1.form
   have hS0:=hS0.trans0 hk1
   have HM:=jX (HM.out.call1 hk1 hd1)
   refine ⟨_,rfl,?_⟩
   refine hK _ _ hS0 ?_
   clear hK K hk1 hd1
   refine' jV (v:=_) 6 hS0 (fun w hw=>?hq6) (fun K hK=>?kq6)
   case hq6=>(have pea:=cell_of (hw.heap Bea.out (by simp));have peb:=cell_of (hw.heap Beb.out (by simp));go_simp;try rfl)
   go_simp
   refine hK _ ?_
   clear hK K
   refine jO 7 (fun K hK=>?_)
   refine wp_enter 142 #[.agg #[.bool na,.slice rb (Ln (Aa*Db-Ab*Da)) rc,.slice eb2 (Ln (Da*Db)) ec2]] (by go_simp) ?_
   refine (HC.out _ _ _ (HM.out.dr (.slice rb (Ln (Aa*Db-Ab*Da)) rc) _ (by simp)) (HM.out.dr (.slice eb2 (Ln (Da*Db)) ec2) _ (by simp))).mono ?_
   rintro e u1 ⟨rfl,hk1⟩
   have hS0:=hS0.trans0 hk1
   have HM:=jX (HM.out.move hk1)
   refine ⟨_,rfl,?_⟩
   refine hK _ _ hS0 ?_
   clear hK K hk1
   refine ⟨by kernel_rfl,?_⟩
   simp only [List.drop_succ_cons,List.drop_zero]
   have Hgc:=jX (HM.out.1.heap Bgc.out (by simp))
   have HkW:=jX (HkW.out.trans0 HM.out.1)
   have pgc:=cell_of Hgc.out
   have fgc:=frozen_of Hgc.out
   have lgc:=lt_of_heap Hgc.out
   go_wp2_with fail
   refine bodyPost_ret (v:=.agg #[.bool nr,.string sr,.bool false,.string dr]) ?_ rfl ⟨rfl,by repeat (first|(with_reducible exact HkW.out)|(refine Keep.setPast ?_ _ _ _ (by omega))|(refine Keep.allocPast ?_ _)|(refine Keep.drewPast ?_))⟩
   rw [results_cell1 rfl];go_simp
  have hle2:Aa*Db<Ab*Da:=by omega
  have HC:=jX (HC3.out hnn hle2)
  have Hle:=jX (Nat.le_of_lt hle2)
  have hge:decide (Lib.compareInt ((Aa*Db:Nat):Int) ((Ab*Da:Nat):Int)≥0)=false:=by unfold Lib.compareInt;simp only [decide_eq_false_iff_not];split<;>(try split)<;>omega
  generalize Lib.compareInt ((Aa*Db:Nat):Int) ((Ab*Da:Nat):Int)=cm at *
  clear HC1 HC2 HC3 hle hle2
  go_wp2_with fail
  refine (HCM _ (HM.out.dr (.slice tb (Ln (Aa*Db)) tc) (Aa*Db) (by simp)) (HM.out.dr (.slice zb (Ln (Ab*Da)) zc) (Ab*Da) (by simp))).mono ?_
  rintro e u3 ⟨rfl,hk1⟩
  dsimp only
  have hS0:=HS.out.trans0 hk1
  have HM:=jX (HM.out.move hk1)
  clear HS hk1 pea peb HCM
  have pea:=cell_of (hS0.heap Bea.out (by simp))
  have peb:=cell_of (hS0.heap Beb.out (by simp))
  have HS:=jX hS0
  clear hS0
  go_wp2_with fail
  refine wp_region_heldT (S:=fun u=>Keep [] wc u) 8 (by kernel_rfl) (by kernel_rfl) (fun _ _ d _ _ h=>by cases d<;>exact h) ?_
  have hS0:=HS.out.trans0 (Keep.drew [] _)
  have HM:=jX (HM.out.move (Keep.drew [] _))
  generalize World.drew _=u at *
  refine' jV (v:=_) 0 hS0 (fun w hw=>?hs0) (fun K hK=>?ks0)
  case hs0=>(have pea:=cell_of (hw.heap Bea.out (by simp));have peb:=cell_of (hw.heap Beb.out (by simp));go_simp;try rfl)
  go_simp
  refine hK _ ?_
  clear hK K
  refine' jV (v:=_) 1 hS0 (fun w hw=>?hs1) (fun K hK=>?ks1)
  case hs1=>(have pea:=cell_of (hw.heap Bea.out (by simp));have peb:=cell_of (hw.heap Beb.out (by simp));go_simp;try rfl)
  go_simp
  refine hK _ ?_
  clear hK K
  refine' jV (v:=_) 2 hS0 (fun w hw=>?hs2) (fun K hK=>?ks2)
  case hs2=>(have pea:=cell_of (hw.heap Bea.out (by simp));have peb:=cell_of (hw.heap Beb.out (by simp));go_simp;try rfl)
  go_simp
  refine hK _ ?_
  clear hK K
  refine' jV (v:=_) 3 hS0 (fun w hw=>?hs3) (fun K hK=>?ks3)
  case hs3=>(have pea:=cell_of (hw.heap Bea.out (by simp));have peb:=cell_of (hw.heap Beb.out (by simp));go_simp;try rfl)
  go_simp
  refine hK _ ?_
  clear hK K
  refine' jV (v:=_) 5 hS0 (fun w hw=>?hs5) (fun K hK=>?ks5)
  case hs5=>(have pea:=cell_of (hw.heap Bea.out (by simp));have peb:=cell_of (hw.heap Beb.out (by simp));go_simp;try rfl)
  go_simp
  refine hK _ ?_
  clear hK K
  refine jO 4 (fun K hK=>?_)
  refine wp_enter 181 #[.slice zb (Ln (Ab*Da)) zc,.slice tb (Ln (Aa*Db)) tc] (by go_simp) ?_
  refine (minus_c _ _ _ _ _ (HM.out.dr (.slice zb (Ln (Ab*Da)) zc) (Ab*Da) (by simp)) (HM.out.dr (.slice tb (Ln (Aa*Db)) tc) (Aa*Db) (by simp)) HL2.out.2 Hle.out).mono ?_
  rintro e u1 ⟨r,rfl,hd1,hk1⟩
  obtain⟨rb,rc,rfl,_⟩:=hd1.form
  have hS0:=hS0.trans0 hk1
  have HM:=jX (HM.out.call1 hk1 hd1)
  refine ⟨_,rfl,?_⟩
  refine hK _ _ hS0 ?_
  clear hK K hk1 hd1
  refine' jV (v:=_) 6 hS0 (fun w hw=>?hs6) (fun K hK=>?ks6)
  case hs6=>(have pea:=cell_of (hw.heap Bea.out (by simp));have peb:=cell_of (hw.heap Beb.out (by simp));go_simp;try rfl)
  go_simp
  refine hK _ ?_
  clear hK K
  refine jO 7 (fun K hK=>?_)
  refine wp_enter 142 #[.agg #[.bool nb,.slice rb (Ln (Ab*Da-Aa*Db)) rc,.slice eb2 (Ln (Da*Db)) ec2]] (by go_simp) ?_
  refine (HC.out _ _ _ (HM.out.dr (.slice rb (Ln (Ab*Da-Aa*Db)) rc) _ (by simp)) (HM.out.dr (.slice eb2 (Ln (Da*Db)) ec2) _ (by simp))).mono ?_
  rintro e u1 ⟨rfl,hk1⟩
  have hS0:=hS0.trans0 hk1
  have HM:=jX (HM.out.move hk1)
  refine ⟨_,rfl,?_⟩
  refine hK _ _ hS0 ?_
  clear hK K hk1
  refine ⟨by kernel_rfl,?_⟩
  simp only [List.drop_succ_cons,List.drop_zero]
  have Hgc:=jX (HM.out.1.heap Bgc.out (by simp))
  have HkW:=jX (HkW.out.trans0 HM.out.1)
  have pgc:=cell_of Hgc.out
  have fgc:=frozen_of Hgc.out
  have lgc:=lt_of_heap Hgc.out
  go_wp2_with fail
  refine bodyPost_ret (v:=.agg #[.bool nr,.string sr,.bool false,.string dr]) ?_ rfl ⟨rfl,by repeat (first|(with_reducible exact HkW.out)|(refine Keep.setPast ?_ _ _ _ (by omega))|(refine Keep.allocPast ?_ _)|(refine Keep.drewPast ?_))⟩
  rw [results_cell1 rfl];go_simp
end Go.Proofs.YtpgffjjpiafhpaaGreatDoor
