/- Parts of a proof about this translation: Vb@7, Mb@7, Me@7, Mi@7, Mf@7, Mj@7, Ga@7, H7@7. -/
import Derived.Test.YtejegogbhpmgfaaGreatDoorA33
import Derived.Test.YtejegogbhpmgfaaGreatDoorA32
import Derived.Test.YtejegogbhpmgfaaGreatDoorA34
import Derived.Test.YtejegogbhpmgfaaGreatDoorA38
import Derived.Test.YtejegogbhpmgfaaGreatDoorA37
set_option linter.unusedVariables false
set_option linter.unusedSimpArgs false
set_option maxRecDepth 100000
set_option maxHeartbeats 8000000
namespace Go.Proofs.YtejegogbhpmgfaaGreatDoor
open Go.RowKit
open Classical
section
variable {S:List K} {w0 w w':World} {L:List (Value × List (Iv K))}
variable {v u:Value} {a b:List (Iv K)}
end
theorem comb_ext {op op':Int} {a b a' b':List (Iv K)} (h:∀ x,decV op (hasL a x) (hasL b x)=decV op' (hasL a' x) (hasL b' x)):combK op a b=combK op' a' b' :=
 combK_eq (combK_norm _ _ _) (fun x=>by rw [combK_has,h])
theorem alg1 (a b:List (Iv K)):combK 2 a b=combK 2 b a:=comb_ext fun x=>by rw [dec2,dec2,Bool.and_comm]
theorem alg6 (a b c:List (Iv K)):combK 2 (combK 2 a b) c=combK 2 a (combK 2 b c):=comb_ext fun x=>by
 rw [combK_has,combK_has,dec2,dec2,dec2,dec2];cases hasL a x<;>cases hasL b x<;>cases hasL c x<;>rfl
end Go.Proofs.YtejegogbhpmgfaaGreatDoor
namespace Go.Proofs.YtejegogbhpmgfaaGreatDoor
theorem combK_self {op:Int} {a b l:List (Iv K)} (hl:Norm l) (h:∀ x,decV op (hasL a x) (hasL b x)=hasL l x):combK op a b=l:=combK_eq hl fun x=>(h x).symm
section
variable {D T E U G V P:List (Iv K)}
theorem mb_notnot (hN:Norm T) (hT:SubL T D):combK 3 D (combK 3 D T)=T:=combK_self hN fun x=>by
 have h:=hT x
 revert h
 simp only [combK_has,dec1,dec2,dec3]
 cases hasL D x<;>cases hasL T x<;>simp
theorem mb_idem (hN:Norm D):combK 2 D D=D:=combK_self hN fun x=>by
 simp only [combK_has,dec1,dec2,dec3]
 cases hasL D x<;>rfl
theorem mb_demorgan (hT:SubL T D) (hU:SubL U E):combK 3 (combK 2 D E) (combK 2 (combK 2 D E) (combK 2 T U))=combK 2 (combK 2 D E) (combK 1 (combK 3 D T) (combK 3 E U)):=comb_ext fun x=>by
 simp only [combK_has,dec1,dec2,dec3]
 cases hasL D x<;>cases hasL T x<;>cases hasL E x<;>cases hasL U x<;>rfl
theorem mb_andT:combK 2 (combK 2 D E) (combK 2 T U)=combK 2 (combK 2 E D) (combK 2 U T):=comb_ext fun x=>by
 simp only [combK_has,dec1,dec2,dec3]
 cases hasL D x<;>cases hasL T x<;>cases hasL E x<;>cases hasL U x<;>rfl
theorem mb_assocT:combK 2 (combK 2 (combK 2 D E) G) (combK 2 (combK 2 (combK 2 D E) (combK 2 T U)) V)=combK 2 (combK 2 D (combK 2 E G)) (combK 2 T (combK 2 (combK 2 E G) (combK 2 U V))):=comb_ext fun x=>by
 simp only [combK_has,dec1,dec2,dec3]
 cases hasL D x<;>cases hasL T x<;>cases hasL E x<;>cases hasL U x<;>cases hasL G x<;>cases hasL V x<;>rfl
theorem mb_distrD:combK 2 D (combK 2 E G)=combK 2 (combK 2 D E) (combK 2 D G):=comb_ext fun x=>by
 simp only [combK_has,dec1,dec2,dec3]
 cases hasL D x<;>cases hasL E x<;>cases hasL G x<;>rfl
theorem mb_distrT:combK 2 (combK 2 D (combK 2 E G)) (combK 2 T (combK 2 (combK 2 E G) (combK 1 U V)))=combK 2 (combK 2 (combK 2 D E) (combK 2 D G)) (combK 1 (combK 2 (combK 2 D E) (combK 2 T U)) (combK 2 (combK 2 D G) (combK 2 T V))):=comb_ext fun x=>by
 simp only [combK_has,dec1,dec2,dec3]
 cases hasL D x<;>cases hasL T x<;>cases hasL E x<;>cases hasL U x<;>cases hasL G x<;>cases hasL V x<;>rfl
theorem mb_idem2:combK 2 (combK 2 D E) (combK 2 D E)=combK 2 D E:=mb_idem (combK_norm _ _ _)
theorem mb_xor (hT:SubL T D) (hU:SubL U E):combK 2 (combK 2 D E) (combK 1 (combK 3 T U) (combK 3 U T))=combK 2 (combK 2 (combK 2 D E) (combK 2 D E)) (combK 2 (combK 2 (combK 2 D E) (combK 1 T U)) (combK 3 (combK 2 D E) (combK 2 (combK 2 D E) (combK 2 T U)))):=comb_ext fun x=>by
 simp only [combK_has,dec1,dec2,dec3]
 cases hasL D x<;>cases hasL T x<;>cases hasL E x<;>cases hasL U x<;>rfl
end
end Go.Proofs.YtejegogbhpmgfaaGreatDoor
namespace Go.Proofs.YtejegogbhpmgfaaGreatDoor
open Go.RowKit
open Classical
section
variable {S:List K} {w0 w w' W:World} {L M:List (Value × List (Iv K))}
variable {v u:Value} {a b:List (Iv K)}
end
section
variable {S:List K} {w0 w:World} {L:List (Value × List (Iv K))} {D T E U P:List (Iv K)} {da ta ea ua pa:Option Addr} {dc tc ec uc pc:Nat}
theorem MP.mfalse (h:MP S w0 w L) (hD:(.slice da D.length dc,D)∈L) (hT:(.slice ta T.length tc,T)∈L) :
  Calls Tryz.prog 19 #[.agg #[.slice da D.length dc,.slice ta T.length tc]] w (PerPost S w0 L (combK 3 D T)):=by
 have H0:=jX h
 have hD:=jX hD
 have hT:=jX hT
 clear h
 go_enter Tryz.func19,Tryz.ntmps19
 go_upto_region 1 with (fail)
 obtain⟨W,ga,hW,ega,bga,hga,hgW,hkW⟩:=al1 w (.cells #[.slice da D.length dc,.slice ta T.length tc] 29)
 rw [← hW]
 try rw [ega]
 have Bga:=jX bga
 have HkW:=jX hkW
 clear hW hkW ega bga
 have HM:=jX (H0.out.here.move HkW.out).here
 have pga:=cell_of Bga.out
 go_wp2_with fail
 refine (HM.out.minus (v:=.slice da D.length dc) (a:=D) (u:=.slice ta T.length tc) (b:=T) (by simp [hD.out,hT.out]) (by simp [hD.out,hT.out])).mono ?_
 rintro e w1 ⟨vo_w1,vc_w1,rfl,hm_w1⟩
 dsimp only
 have HM:=jX hm_w1
 clear hm_w1
 go_wp2_with fail
 go_ret
 exact ⟨_,_,rfl,⟨⟨H0.out.keep.trans0 (HkW.out.trans0 HM.out.keep),HM.out.mi.2⟩,HM.out.per,HM.out.few⟩⟩
end
section
variable {S:List K} {w0 w:World} {L:List (Value × List (Iv K))} {D T E U P:List (Iv K)} {da ta ea ua pa:Option Addr} {dc tc ec uc pc:Nat}
theorem MP.mor (h:MP S w0 w L) (hD:(.slice da D.length dc,D)∈L) (hT:(.slice ta T.length tc,T)∈L) (hE:(.slice ea E.length ec,E)∈L) (hU:(.slice ua U.length uc,U)∈L) :
  Calls Tryz.prog 30 #[.agg #[.slice da D.length dc,.slice ta T.length tc],.agg #[.slice ea E.length ec,.slice ua U.length uc]] w (BolPost S w0 L (combK 2 D E) (combK 2 (combK 2 D E) (combK 1 T U))):=by
 have H0:=jX h
 have hD:=jX hD
 have hT:=jX hT
 have hE:=jX hE
 have hU:=jX hU
 clear h
 go_enter Tryz.func30,Tryz.ntmps30
 go_upto_region 1 with (fail)
 obtain⟨W,ga,gb,gc,hW,ega,egb,egc,bga,bgb,bgc,hga,hgb,hgc,hgW,hkW⟩:=al3 w (.cells #[.slice da D.length dc,.slice ta T.length tc] 29) (.cells #[.slice ea E.length ec,.slice ua U.length uc] 29) (.cells #[.slice none 0 0,.slice none 0 0] 29)
 rw [← hW]
 try rw [egc]
 try rw [egb]
 try rw [ega]
 have Bga:=jX bga
 have Bgb:=jX bgb
 have Bgc:=jX bgc
 have HkW:=jX hkW
 clear hW hkW ega egb egc bga bgb bgc
 have HM:=jX (H0.out.here.move HkW.out).here
 refine wp_region_heldT (S:=fun u=>Keep [] W u) 8 (by kernel_rfl) (by kernel_rfl) (fun _ _ d _ _ h=>by cases d<;>exact h) ?_
 have HM:=jX (HM.out.move (Keep.drew [] W))
 generalize World.drew W=u at *
 have hS0:=HM.out.keep
 refine' jV (v:=_) 0 hS0 (fun w hw=>?hrunf0) (fun K hK=>?hnextf0)
 case hrunf0=>(have pga:=cell_of (hw.heap Bga.out (by simp));have pgb:=cell_of (hw.heap Bgb.out (by simp));go_simp;try rfl)
 go_simp
 refine hK _ ?_
 clear hK K
 refine' jV (v:=_) 1 hS0 (fun w hw=>?hrunf1) (fun K hK=>?hnextf1)
 case hrunf1=>(have pga:=cell_of (hw.heap Bga.out (by simp));have pgb:=cell_of (hw.heap Bgb.out (by simp));go_simp;try rfl)
 go_simp
 refine hK _ ?_
 clear hK K
 refine' jV (v:=_) 2 hS0 (fun w hw=>?hrunf2) (fun K hK=>?hnextf2)
 case hrunf2=>(have pga:=cell_of (hw.heap Bga.out (by simp));have pgb:=cell_of (hw.heap Bgb.out (by simp));go_simp;try rfl)
 go_simp
 refine hK _ ?_
 clear hK K
 refine' jV (v:=_) 3 hS0 (fun w hw=>?hrunf3) (fun K hK=>?hnextf3)
 case hrunf3=>(have pga:=cell_of (hw.heap Bga.out (by simp));have pgb:=cell_of (hw.heap Bgb.out (by simp));go_simp;try rfl)
 go_simp
 refine hK _ ?_
 clear hK K
 refine' jV (v:=_) 4 hS0 (fun w hw=>?hrunf4) (fun K hK=>?hnextf4)
 case hrunf4=>(have pga:=cell_of (hw.heap Bga.out (by simp));have pgb:=cell_of (hw.heap Bgb.out (by simp));go_simp;try rfl)
 go_simp
 refine hK _ ?_
 clear hK K
 refine' jV (v:=_) 5 hS0 (fun w hw=>?hrunf5) (fun K hK=>?hnextf5)
 case hrunf5=>(have pga:=cell_of (hw.heap Bga.out (by simp));have pgb:=cell_of (hw.heap Bgb.out (by simp));go_simp;try rfl)
 go_simp
 refine hK _ ?_
 clear hK K
 refine jO 6 (fun K hK=>?_)
 refine wp_enter 70 #[.slice ta T.length tc,.slice ua U.length uc] (by go_simp) ?_
 refine (HM.out.union (v:=.slice ta T.length tc) (a:=T) (u:=.slice ua U.length uc) (b:=U) (by simp [hD.out,hT.out,hE.out,hU.out]) (by simp [hD.out,hT.out,hE.out,hU.out])).mono ?_
 rintro e w1 ⟨vo_w1,vc_w1,rfl,hm_w1⟩
 have HM:=jX hm_w1
 clear hm_w1
 refine ⟨_,rfl,?_⟩
 have hS0:=HM.out.keep
 go_simp
 refine hK _ _ hS0 ?_
 clear hK K
 refine jO 7 (fun K hK=>?_)
 refine wp_enter 72 #[.agg #[.slice da D.length dc,.slice ta T.length tc],.agg #[.slice ea E.length ec,.slice ua U.length uc],.slice vo_w1 (combK 1 T U).length vc_w1] (by go_simp) ?_
 refine (HM.out.mlift (D:=D) (T:=T) (E:=E) (U:=U) (P:=combK 1 T U) (by simp [hD.out,hT.out,hE.out,hU.out]) (by simp [hD.out,hT.out,hE.out,hU.out]) (by simp [hD.out,hT.out,hE.out,hU.out]) (by simp [hD.out,hT.out,hE.out,hU.out]) (by simp [hD.out,hT.out,hE.out,hU.out])).mono ?_
 rintro e w2 ⟨da_w2,dc_w2,ta_w2,tc_w2,rfl,hm_w2⟩
 have HM:=jX hm_w2
 clear hm_w2
 refine ⟨_,rfl,?_⟩
 have hS0:=HM.out.keep
 go_simp
 refine hK _ _ hS0 ?_
 clear hK K
 refine ⟨by kernel_rfl,?_⟩
 simp only [List.drop_succ_cons,List.drop_zero]
 have bz:=jX (HM.out.keep.heap Bgc.out (by simp))
 have pgc:=cell_of bz.out
 have fgc:=frozen_of bz.out
 have lgc:=lt_of_heap bz.out
 go_wp2_with fail
 obtain⟨u9,e9,b9,k9⟩:=st2 (x:=.slice da_w2 (combK 2 D E).length dc_w2) (y:=.slice ta_w2 (combK 2 (combK 2 D E) (combK 1 T U)).length tc_w2) bz.out
 rw [← e9]
 clear e9 pgc fgc lgc
 have pgc:=cell_of b9
 refine bodyPost_ret (v:=.agg #[.slice da_w2 (combK 2 D E).length dc_w2,.slice ta_w2 (combK 2 (combK 2 D E) (combK 1 T U)).length tc_w2]) ?_ rfl ⟨_,_,_,_,rfl,MP.fin H0.out.keep HkW.out HM.out bz.out (by simp) (by omega) k9 ?_⟩
 ·rw [results_cell1 rfl];go_simp
 ·intro p hp;simp only [List.mem_cons] at hp ⊢;grind
theorem MP.mdiffer (h:MP S w0 w L) (hD:(.slice da D.length dc,D)∈L) (hT:(.slice ta T.length tc,T)∈L) (hE:(.slice ea E.length ec,E)∈L) (hU:(.slice ua U.length uc,U)∈L) :
  Calls Tryz.prog 31 #[.agg #[.slice da D.length dc,.slice ta T.length tc],.agg #[.slice ea E.length ec,.slice ua U.length uc]] w (BolPost S w0 L (combK 2 D E) (combK 2 (combK 2 D E) (combK 1 (combK 3 T U) (combK 3 U T)))):=by
 have H0:=jX h
 have hD:=jX hD
 have hT:=jX hT
 have hE:=jX hE
 have hU:=jX hU
 clear h
 go_enter Tryz.func31,Tryz.ntmps31
 go_upto_region 1 with (fail)
 obtain⟨W,ga,gb,gc,hW,ega,egb,egc,bga,bgb,bgc,hga,hgb,hgc,hgW,hkW⟩:=al3 w (.cells #[.slice da D.length dc,.slice ta T.length tc] 29) (.cells #[.slice ea E.length ec,.slice ua U.length uc] 29) (.cells #[.slice none 0 0,.slice none 0 0] 29)
 rw [← hW]
 try rw [egc]
 try rw [egb]
 try rw [ega]
 have Bga:=jX bga
 have Bgb:=jX bgb
 have Bgc:=jX bgc
 have HkW:=jX hkW
 clear hW hkW ega egb egc bga bgb bgc
 have HM:=jX (H0.out.here.move HkW.out).here
 refine wp_region_heldT (S:=fun u=>Keep [] W u) 14 (by kernel_rfl) (by kernel_rfl) (fun _ _ d _ _ h=>by cases d<;>exact h) ?_
 have HM:=jX (HM.out.move (Keep.drew [] W))
 generalize World.drew W=u at *
 have hS0:=HM.out.keep
 refine' jV (v:=_) 0 hS0 (fun w hw=>?hrunf0) (fun K hK=>?hnextf0)
 case hrunf0=>(have pga:=cell_of (hw.heap Bga.out (by simp));have pgb:=cell_of (hw.heap Bgb.out (by simp));go_simp;try rfl)
 go_simp
 refine hK _ ?_
 clear hK K
 refine' jV (v:=_) 1 hS0 (fun w hw=>?hrunf1) (fun K hK=>?hnextf1)
 case hrunf1=>(have pga:=cell_of (hw.heap Bga.out (by simp));have pgb:=cell_of (hw.heap Bgb.out (by simp));go_simp;try rfl)
 go_simp
 refine hK _ ?_
 clear hK K
 refine' jV (v:=_) 2 hS0 (fun w hw=>?hrunf2) (fun K hK=>?hnextf2)
 case hrunf2=>(have pga:=cell_of (hw.heap Bga.out (by simp));have pgb:=cell_of (hw.heap Bgb.out (by simp));go_simp;try rfl)
 go_simp
 refine hK _ ?_
 clear hK K
 refine' jV (v:=_) 3 hS0 (fun w hw=>?hrunf3) (fun K hK=>?hnextf3)
 case hrunf3=>(have pga:=cell_of (hw.heap Bga.out (by simp));have pgb:=cell_of (hw.heap Bgb.out (by simp));go_simp;try rfl)
 go_simp
 refine hK _ ?_
 clear hK K
 refine' jV (v:=_) 4 hS0 (fun w hw=>?hrunf4) (fun K hK=>?hnextf4)
 case hrunf4=>(have pga:=cell_of (hw.heap Bga.out (by simp));have pgb:=cell_of (hw.heap Bgb.out (by simp));go_simp;try rfl)
 go_simp
 refine hK _ ?_
 clear hK K
 refine' jV (v:=_) 5 hS0 (fun w hw=>?hrunf5) (fun K hK=>?hnextf5)
 case hrunf5=>(have pga:=cell_of (hw.heap Bga.out (by simp));have pgb:=cell_of (hw.heap Bgb.out (by simp));go_simp;try rfl)
 go_simp
 refine hK _ ?_
 clear hK K
 refine' jV (v:=_) 7 hS0 (fun w hw=>?hrunf7) (fun K hK=>?hnextf7)
 case hrunf7=>(have pga:=cell_of (hw.heap Bga.out (by simp));have pgb:=cell_of (hw.heap Bgb.out (by simp));go_simp;try rfl)
 go_simp
 refine hK _ ?_
 clear hK K
 refine' jV (v:=_) 8 hS0 (fun w hw=>?hrunf8) (fun K hK=>?hnextf8)
 case hrunf8=>(have pga:=cell_of (hw.heap Bga.out (by simp));have pgb:=cell_of (hw.heap Bgb.out (by simp));go_simp;try rfl)
 go_simp
 refine hK _ ?_
 clear hK K
 refine' jV (v:=_) 9 hS0 (fun w hw=>?hrunf9) (fun K hK=>?hnextf9)
 case hrunf9=>(have pga:=cell_of (hw.heap Bga.out (by simp));have pgb:=cell_of (hw.heap Bgb.out (by simp));go_simp;try rfl)
 go_simp
 refine hK _ ?_
 clear hK K
 refine' jV (v:=_) 10 hS0 (fun w hw=>?hrunf10) (fun K hK=>?hnextf10)
 case hrunf10=>(have pga:=cell_of (hw.heap Bga.out (by simp));have pgb:=cell_of (hw.heap Bgb.out (by simp));go_simp;try rfl)
 go_simp
 refine hK _ ?_
 clear hK K
 refine jO 6 (fun K hK=>?_)
 refine wp_enter 66 #[.slice ta T.length tc,.slice ua U.length uc] (by go_simp) ?_
 refine (HM.out.minus (v:=.slice ta T.length tc) (a:=T) (u:=.slice ua U.length uc) (b:=U) (by simp [hD.out,hT.out,hE.out,hU.out]) (by simp [hD.out,hT.out,hE.out,hU.out])).mono ?_
 rintro e w1 ⟨vo_w1,vc_w1,rfl,hm_w1⟩
 have HM:=jX hm_w1
 clear hm_w1
 refine ⟨_,rfl,?_⟩
 have hS0:=HM.out.keep
 go_simp
 refine hK _ _ hS0 ?_
 clear hK K
 refine jO 11 (fun K hK=>?_)
 refine wp_enter 66 #[.slice ua U.length uc,.slice ta T.length tc] (by go_simp) ?_
 refine (HM.out.minus (v:=.slice ua U.length uc) (a:=U) (u:=.slice ta T.length tc) (b:=T) (by simp [hD.out,hT.out,hE.out,hU.out]) (by simp [hD.out,hT.out,hE.out,hU.out])).mono ?_
 rintro e w2 ⟨vo_w2,vc_w2,rfl,hm_w2⟩
 have HM:=jX hm_w2
 clear hm_w2
 refine ⟨_,rfl,?_⟩
 have hS0:=HM.out.keep
 go_simp
 refine hK _ _ hS0 ?_
 clear hK K
 refine jO 12 (fun K hK=>?_)
 refine wp_enter 70 #[.slice vo_w1 (combK 3 T U).length vc_w1,.slice vo_w2 (combK 3 U T).length vc_w2] (by go_simp) ?_
 refine (HM.out.union (v:=.slice vo_w1 (combK 3 T U).length vc_w1) (a:=combK 3 T U) (u:=.slice vo_w2 (combK 3 U T).length vc_w2) (b:=combK 3 U T) (by simp [hD.out,hT.out,hE.out,hU.out]) (by simp [hD.out,hT.out,hE.out,hU.out])).mono ?_
 rintro e w3 ⟨vo_w3,vc_w3,rfl,hm_w3⟩
 have HM:=jX hm_w3
 clear hm_w3
 refine ⟨_,rfl,?_⟩
 have hS0:=HM.out.keep
 go_simp
 refine hK _ _ hS0 ?_
 clear hK K
 refine jO 13 (fun K hK=>?_)
 refine wp_enter 72 #[.agg #[.slice da D.length dc,.slice ta T.length tc],.agg #[.slice ea E.length ec,.slice ua U.length uc],.slice vo_w3 (combK 1 (combK 3 T U) (combK 3 U T)).length vc_w3] (by go_simp) ?_
 refine (HM.out.mlift (D:=D) (T:=T) (E:=E) (U:=U) (P:=combK 1 (combK 3 T U) (combK 3 U T)) (by simp [hD.out,hT.out,hE.out,hU.out]) (by simp [hD.out,hT.out,hE.out,hU.out]) (by simp [hD.out,hT.out,hE.out,hU.out]) (by simp [hD.out,hT.out,hE.out,hU.out]) (by simp [hD.out,hT.out,hE.out,hU.out])).mono ?_
 rintro e w4 ⟨da_w4,dc_w4,ta_w4,tc_w4,rfl,hm_w4⟩
 have HM:=jX hm_w4
 clear hm_w4
 refine ⟨_,rfl,?_⟩
 have hS0:=HM.out.keep
 go_simp
 refine hK _ _ hS0 ?_
 clear hK K
 refine ⟨by kernel_rfl,?_⟩
 simp only [List.drop_succ_cons,List.drop_zero]
 have bz:=jX (HM.out.keep.heap Bgc.out (by simp))
 have pgc:=cell_of bz.out
 have fgc:=frozen_of bz.out
 have lgc:=lt_of_heap bz.out
 go_wp2_with fail
 obtain⟨u9,e9,b9,k9⟩:=st2 (x:=.slice da_w4 (combK 2 D E).length dc_w4) (y:=.slice ta_w4 (combK 2 (combK 2 D E) (combK 1 (combK 3 T U) (combK 3 U T))).length tc_w4) bz.out
 rw [← e9]
 clear e9 pgc fgc lgc
 have pgc:=cell_of b9
 refine bodyPost_ret (v:=.agg #[.slice da_w4 (combK 2 D E).length dc_w4,.slice ta_w4 (combK 2 (combK 2 D E) (combK 1 (combK 3 T U) (combK 3 U T))).length tc_w4]) ?_ rfl ⟨_,_,_,_,rfl,MP.fin H0.out.keep HkW.out HM.out bz.out (by simp) (by omega) k9 ?_⟩
 ·rw [results_cell1 rfl];go_simp
 ·intro p hp;simp only [List.mem_cons] at hp ⊢;grind
theorem MP.mnot (h:MP S w0 w L) (hD:(.slice da D.length dc,D)∈L) (hT:(.slice ta T.length tc,T)∈L) :
  Calls Tryz.prog 32 #[.agg #[.slice da D.length dc,.slice ta T.length tc]] w (BolPost S w0 L D (combK 3 D T)):=by
 have H0:=jX h
 have hD:=jX hD
 have hT:=jX hT
 clear h
 go_enter Tryz.func32,Tryz.ntmps32
 go_upto_region 1 with (fail)
 obtain⟨W,ga,gb,hW,ega,egb,bga,bgb,hga,hgb,hgW,hkW⟩:=al2 w (.cells #[.slice da D.length dc,.slice ta T.length tc] 29) (.cells #[.slice none 0 0,.slice none 0 0] 29)
 rw [← hW]
 try rw [egb]
 try rw [ega]
 have Bga:=jX bga
 have Bgb:=jX bgb
 have HkW:=jX hkW
 clear hW hkW ega egb bga bgb
 have HM:=jX (H0.out.here.move HkW.out).here
 refine wp_region_heldT (S:=fun u=>Keep [] W u) 5 (by kernel_rfl) (by kernel_rfl) (fun _ _ d _ _ h=>by cases d<;>exact h) ?_
 have HM:=jX (HM.out.move (Keep.drew [] W))
 generalize World.drew W=u at *
 have hS0:=HM.out.keep
 refine' jV (v:=_) 0 hS0 (fun w hw=>?hrunf0) (fun K hK=>?hnextf0)
 case hrunf0=>(have pga:=cell_of (hw.heap Bga.out (by simp));go_simp;try rfl)
 go_simp
 refine hK _ ?_
 clear hK K
 refine' jV (v:=_) 1 hS0 (fun w hw=>?hrunf1) (fun K hK=>?hnextf1)
 case hrunf1=>(have pga:=cell_of (hw.heap Bga.out (by simp));go_simp;try rfl)
 go_simp
 refine hK _ ?_
 clear hK K
 refine' jV (v:=_) 3 hS0 (fun w hw=>?hrunf3) (fun K hK=>?hnextf3)
 case hrunf3=>(have pga:=cell_of (hw.heap Bga.out (by simp));go_simp;try rfl)
 go_simp
 refine hK _ ?_
 clear hK K
 refine jO 2 (fun K hK=>?_)
 refine wp_enter 73 #[.slice da D.length dc] (by go_simp) ?_
 refine (HM.out.clone (v:=.slice da D.length dc) (a:=D) (by simp [hD.out,hT.out])).mono ?_
 rintro e w1 ⟨vo_w1,vc_w1,rfl,hm_w1⟩
 have HM:=jX hm_w1
 clear hm_w1
 refine ⟨_,rfl,?_⟩
 have hS0:=HM.out.keep
 go_simp
 refine hK _ _ hS0 ?_
 clear hK K
 refine jO 4 (fun K hK=>?_)
 refine wp_enter 19 #[.agg #[.slice da D.length dc,.slice ta T.length tc]] (by go_simp) ?_
 refine (HM.out.mfalse (D:=D) (T:=T) (by simp [hD.out,hT.out]) (by simp [hD.out,hT.out])).mono ?_
 rintro e w2 ⟨vo_w2,vc_w2,rfl,hm_w2⟩
 have HM:=jX hm_w2
 clear hm_w2
 refine ⟨_,rfl,?_⟩
 have hS0:=HM.out.keep
 go_simp
 refine hK _ _ hS0 ?_
 clear hK K
 refine ⟨by kernel_rfl,?_⟩
 simp only [List.drop_succ_cons,List.drop_zero]
 have bz:=jX (HM.out.keep.heap Bgb.out (by simp))
 have pgb:=cell_of bz.out
 have fgb:=frozen_of bz.out
 have lgb:=lt_of_heap bz.out
 go_wp2_with fail
 obtain⟨u9,e9,b9,k9⟩:=st2 (x:=.slice vo_w1 (D).length vc_w1) (y:=.slice vo_w2 (combK 3 D T).length vc_w2) bz.out
 rw [← e9]
 clear e9 pgb fgb lgb
 have pgb:=cell_of b9
 refine bodyPost_ret (v:=.agg #[.slice vo_w1 (D).length vc_w1,.slice vo_w2 (combK 3 D T).length vc_w2]) ?_ rfl ⟨_,_,_,_,rfl,MP.fin H0.out.keep HkW.out HM.out bz.out (by simp) (by omega) k9 ?_⟩
 ·rw [results_cell1 rfl];go_simp
 ·intro p hp;simp only [List.mem_cons] at hp ⊢;grind
end
theorem sequal_c (l m:List (Iv K)) (w:World) (sv tv:Value) (hr:IvR w sv l) (hs:IvR w tv m) (h9:l.length≤1000000000) (h8:m.length≤1000000000) :
  Calls Tryz.prog 124 #[sv,tv] w fun e w'=>e = .returned (.bool (decide (l=m)))∧Keep [] w w':=by
 have HR:=jX hr
 have HS:=jX hs
 obtain⟨ao,ac,rfl,_⟩:=hr.form
 obtain⟨bo,bc,rfl,_⟩:=hs.form
 clear hr hs
 by_cases hlen:l.length=m.length
 ·have hne:((l.length:Int) != (m.length:Int))=false:=by rw [hlen];simp
  have Hlen:=jX hlen
  clear hlen
  go_enter Tryz.func124,Tryz.ntmps124
  go_wp2_with fail
  go_loopw [13] (fun c wr=>∃ k:Nat,k≤l.length∧c = .int .i64 (k:Int)∧l.take k=m.take k∧Keep [] w wr) (fun c _=>l.length-(intOf c).toNat)
  case atStart=>exact ⟨0,Nat.zero_le _,rfl,rfl,Keep.refl _ _⟩
  case round =>
   obtain⟨k,hk,rfl,heq,hkeep⟩:=hrel
   have Heq:=jX heq
   have HKr:=jX hkeep
   clear heq hkeep
   by_cases hlt:k<l.length
   ·have hlt2:k<m.length:=by rw [← Hlen.out];exact hlt
    obtain⟨g,o,rfl,hg,hat⟩:=IvR.elem (HR.out.later HKr.out) k hlt
    obtain⟨g2,o2,rfl,hg2,hat2⟩:=IvR.elem (HS.out.later HKr.out) k hlt2
    obtain⟨i,hi⟩:∃ i,l[k]=i:=⟨_,rfl⟩
    obtain⟨j,hj⟩:∃ j,m[k]=j:=⟨_,rfl⟩
    have Hi:=jX hi
    have Hj:=jX hj
    rw [hi] at hat
    rw [hj] at hat2
    clear hi hj
    obtain⟨p,hp⟩:∃ p,o+k*20=p:=⟨_,rfl⟩
    obtain⟨q,hq⟩:∃ q,o2+k*20=q:=⟨_,rfl⟩
    rw [hp] at hat
    rw [hq] at hat2
    have HLa:=jX (hat.ld hg)
    have HLb:=jX (hat2.ld hg2)
    have HN:=jX (neqI_run i j)
    clear hat hat2
    unfold iv at *
    generalize iC i=I at *
    generalize iC j=J at *
    by_cases hij:i=j
    ·rw [decide_eq_true hij] at HN
     have Hij:=jX hij
     clear hij
     go_wp2_with fail
     refine wp_region_keep (by kernel_rfl) (by kernel_rfl) ?_
     repeat (first
      | go_big_quiet_skip
      | (go_big_quiet_want;first
       | (refine quiet_load _ _ _ (.agg I) rfl rfl (by rintro _ ⟨m,rfl⟩;exact HLa.out m) ?_;go_simp;go_big_quiet_on)|(refine quiet_load _ _ _ (.agg J) rfl rfl (by rintro _ ⟨m,rfl⟩;exact HLb.out m) ?_;go_simp;go_big_quiet_on)|(refine quiet_bin _ _ _ _ _ _ _ (_) rfl rfl rfl eqI_g (by intro w;exact HN.out w) ?_;go_simp;go_big_quiet_on)
       | (go_big_quiet_op;first|go_big_quiet_on|go_big_quiet_call (first
        | fail))))
     refine wpQuiet_nil ?_
     rintro w1 ⟨⟨_,hk_w1⟩,rfl⟩
     clear HLa HLb HN
     have Hk1:=jX hk_w1
     clear hk_w1
     go_wp2_with fail
     go_roundw
     case rel=>exact ⟨k+1,by omega,congrArg (Value.int .i64) (by omega),by rw [List.take_succ_eq_append_getElem hlt,List.take_succ_eq_append_getElem hlt2,Heq.out,Hi.out,Hj.out,Hij.out],HKr.out.trans0 Hk1.out⟩
     case measure=>simp [intOf];omega
    ·rw [decide_eq_false hij] at HN
     have Hij:=jX hij
     clear hij
     go_wp2_with fail
     refine wp_region_keep (by kernel_rfl) (by kernel_rfl) ?_
     repeat (first
      | go_big_quiet_skip
      | (go_big_quiet_want;first
       | (refine quiet_load _ _ _ (.agg I) rfl rfl (by rintro _ ⟨m,rfl⟩;exact HLa.out m) ?_;go_simp;go_big_quiet_on)|(refine quiet_load _ _ _ (.agg J) rfl rfl (by rintro _ ⟨m,rfl⟩;exact HLb.out m) ?_;go_simp;go_big_quiet_on)|(refine quiet_bin _ _ _ _ _ _ _ (_) rfl rfl rfl eqI_g (by intro w;exact HN.out w) ?_;go_simp;go_big_quiet_on)
       | (go_big_quiet_op;first|go_big_quiet_on|go_big_quiet_call (first
        | fail))))
     refine wpQuiet_nil ?_
     rintro w1 ⟨⟨_,hk_w1⟩,rfl⟩
     clear HLa HLb HN
     have Hk1:=jX hk_w1
     clear hk_w1
     go_wp2_with fail
     go_ret
     have hno:l≠m:=fun e=>Hij.out (by rw [← Hi.out,← Hj.out];simp only [e])
     exact ⟨by rw [decide_eq_false hno];rfl,HKr.out.trans0 Hk1.out⟩
   ·obtain rfl:k=l.length:=by omega
    go_wp2_with fail
    go_ret
    have he:l=m:=by
     have:=Heq.out
     rw [List.take_length,Hlen.out,List.take_length] at this
     exact this
    exact ⟨by rw [decide_eq_true he];rfl,HKr.out⟩
 ·have hne:((l.length:Int) != (m.length:Int))=true:=by rw [bne_iff_ne];omega
  have hno:l≠m:=fun e=>hlen (by rw [e])
  rw [decide_eq_false hno]
  clear hno hlen
  go_enter Tryz.func124,Tryz.ntmps124
  go_wp2_with fail
  go_ret
  exact ⟨rfl,Keep.refl _ _⟩
theorem pequal_c (l m:List (Iv K)) (w:World) (sv tv:Value) (hr:IvR w sv l) (hs:IvR w tv m) (h9:l.length≤1000000000) (h8:m.length≤1000000000) :
  Calls Tryz.prog 80 #[sv,tv] w fun e w'=>e = .returned (.bool (decide (l=m)))∧Keep [] w w':=by
 have H:=jX (sequal_c l m w sv tv hr hs h9 h8)
 obtain⟨ao,ac,rfl,_⟩:=hr.form
 obtain⟨bo,bc,rfl,_⟩:=hs.form
 clear hr hs
 generalize decide (l=m)=r at *
 go_enter Tryz.func80,Tryz.ntmps80
 go_wp2_with fail
 refine H.out.mono ?_
 rintro e w1 ⟨rfl,hk⟩
 dsimp only
 have HK:=jX hk
 clear hk H
 go_wp2_with fail
 go_ret
 exact ⟨rfl,HK.out⟩
section
variable {S:List K} {w0 w w' W:World} {L M:List (Value × List (Iv K))} {D T E U P:List (Iv K)} {da ta ea ua pa:Option Addr} {dc tc ec uc pc:Nat}
theorem MP.peq {v u:Value} {a b:List (Iv K)} (h:MP S w0 w L) (hv:(v,a)∈L) (hu:(u,b)∈L):Calls Tryz.prog 80 #[v,u] w (BoolPost S w0 L (decide (a=b))) :=
 boolPost_of h (pequal_c a b w v u (h.get hv) (h.get hu) (by have:=h.len hv;omega) (by have:=h.len hu;omega))
theorem MP.meq (h:MP S w0 w L) (hD:(.slice da D.length dc,D)∈L) (hT:(.slice ta T.length tc,T)∈L) (hE:(.slice ea E.length ec,E)∈L) (hU:(.slice ua U.length uc,U)∈L) :
  Calls Tryz.prog 37 #[.agg #[.slice da D.length dc,.slice ta T.length tc],.agg #[.slice ea E.length ec,.slice ua U.length uc]] w (BoolPost S w0 L (decide (D=E)&&decide (T=U))):=by
 have H0:=jX h
 have hD:=jX hD
 have hT:=jX hT
 have hE:=jX hE
 have hU:=jX hU
 clear h
 have K1:=jX (fun b u M (h:MP S b u M) (h1:(.slice da D.length dc,D)∈M) (h2:(.slice ea E.length ec,E)∈M)=>h.peq h1 h2)
 have K2:=jX (fun b u M (h:MP S b u M) (h1:(.slice ta T.length tc,T)∈M) (h2:(.slice ua U.length uc,U)∈M)=>h.peq h1 h2)
 cases hr:decide (D=E) with
 | false =>
  rw [hr] at K1
  clear K2
  generalize decide (T=U)=q
  go_enter Tryz.func37,Tryz.ntmps37
  go_upto_region 1 with (fail)
  obtain⟨W,ga,gb,hW,ega,egb,bga,bgb,hga,hgb,hgW,hkW⟩:=al2 w (.cells #[.slice da D.length dc,.slice ta T.length tc] 29) (.cells #[.slice ea E.length ec,.slice ua U.length uc] 29)
  rw [← hW]
  try rw [egb]
  try rw [ega]
  have Bga:=jX bga
  have Bgb:=jX bgb
  have HkW:=jX hkW
  clear hW hkW ega egb bga bgb
  have HM:=jX (H0.out.here.move HkW.out).here
  have pga:=cell_of (HM.out.keep.heap Bga.out (by simp))
  have pgb:=cell_of (HM.out.keep.heap Bgb.out (by simp))
  go_wp2_with fail
  refine (K1.out _ _ _ HM.out hD.out hE.out).mono ?_
  rintro e w1 ⟨rfl,hm_w1⟩
  dsimp only
  have HM:=jX hm_w1
  clear hm_w1
  clear pga pgb
  go_wp2_with fail
  go_ret
  exact ⟨rfl,H0.out.back HkW.out HM.out (fun p hp=>by simp [hp])⟩
 | true =>
  rw [hr] at K1
  rw [Bool.true_and]
  generalize decide (T=U)=q at *
  go_enter Tryz.func37,Tryz.ntmps37
  go_upto_region 1 with (fail)
  obtain⟨W,ga,gb,hW,ega,egb,bga,bgb,hga,hgb,hgW,hkW⟩:=al2 w (.cells #[.slice da D.length dc,.slice ta T.length tc] 29) (.cells #[.slice ea E.length ec,.slice ua U.length uc] 29)
  rw [← hW]
  try rw [egb]
  try rw [ega]
  have Bga:=jX bga
  have Bgb:=jX bgb
  have HkW:=jX hkW
  clear hW hkW ega egb bga bgb
  have HM:=jX (H0.out.here.move HkW.out).here
  have pga:=cell_of (HM.out.keep.heap Bga.out (by simp))
  have pgb:=cell_of (HM.out.keep.heap Bgb.out (by simp))
  go_wp2_with fail
  refine (K1.out _ _ _ HM.out hD.out hE.out).mono ?_
  rintro e w1 ⟨rfl,hm_w1⟩
  dsimp only
  have HM:=jX hm_w1
  clear hm_w1
  clear pga pgb
  have pga:=cell_of (HM.out.keep.heap Bga.out (by simp))
  have pgb:=cell_of (HM.out.keep.heap Bgb.out (by simp))
  go_wp2_with fail
  refine (K2.out _ _ _ HM.out hT.out hU.out).mono ?_
  rintro e w2 ⟨rfl,hm_w2⟩
  dsimp only
  have HM:=jX hm_w2
  clear hm_w2
  clear pga pgb
  go_wp2_with fail
  go_ret
  exact ⟨rfl,H0.out.back HkW.out HM.out (fun p hp=>by simp [hp])⟩
end
section
variable {P:Program} {ops:Array Oper} {md:Region.Mode} {S:World→Prop} {Q:Exit→Act→World→Prop}
end
section
variable {S:List K} {w0 w w' W:World} {L M:List (Value × List (Iv K))} {D T E U P:List (Iv K)} {da ta ea ua pa:Option Addr} {dc tc ec uc pc:Nat}
theorem MP.meqT (h:MP S w0 w L) (hD:(.slice da D.length dc,D)∈L) (hT:(.slice ta T.length tc,T)∈L) (hE:(.slice ea E.length ec,E)∈L) (hU:(.slice ua U.length uc,U)∈L) (h1:D=E) (h2:T=U) :
  Calls Tryz.prog 37 #[.agg #[.slice da D.length dc,.slice ta T.length tc],.agg #[.slice ea E.length ec,.slice ua U.length uc]] w (BoolPost S w0 L true):=by
 have:=h.meq hD hT hE hU
 rw [decide_eq_true h1,decide_eq_true h2] at this
 exact this
end
theorem movingboolLaws_c (w:World) (v0 v1 v2:Value) (m0:MovArg w v0) (m1:MovArg w v1) (m2:MovArg w v2):Calls Tryz.prog 9 #[v0,v1,v2] w fun e w'=>e = .returned (.bool true)∧Keep [] w w':=by
 obtain⟨l0,q0,D0,T0,c0⟩:=movC_of m0
 obtain⟨l1,q1,D1,T1,c1⟩:=movC_of m1
 obtain⟨l2,q2,D2,T2,c2⟩:=movC_of m2
 have hS:(l0++l1++l2).length≤1000:=by simp only [List.length_append];omega
 have C0:=c0 (l0++l1++l2) (by simp +contextual)
 have C1:=c1 (l0++l1++l2) (by simp +contextual)
 have C2:=c2 (l0++l1++l2) (by simp +contextual)
 generalize l0++l1++l2=S at *
 obtain⟨ao0,an0,ac0,bo0,bn0,bc0,rfl⟩:=C0.form
 have nD0:=C0.nD
 have nT0:=C0.nT
 have sT0:=C0.sub
 obtain⟨ao1,an1,ac1,bo1,bn1,bc1,rfl⟩:=C1.form
 have nD1:=C1.nD
 have nT1:=C1.nT
 have sT1:=C1.sub
 obtain⟨ao2,an2,ac2,bo2,bn2,bc2,rfl⟩:=C2.form
 have nD2:=C2.nD
 have nT2:=C2.nT
 have sT2:=C2.sub
 have HC0:=jX C0
 have HC1:=jX C1
 have HC2:=jX C2
 clear m0 q0 c0 C0 m1 q1 c1 C1 m2 q2 c2 C2 l0 l1 l2
 have E1:=jX (mb_demorgan (D:=D0) (E:=D1) sT0 sT1)
 have E2:=jX (mb_notnot nT0 sT0)
 have E3:=jX (alg1 D0 D1)
 have E4:=jX (mb_andT (D:=D0) (E:=D1) (T:=T0) (U:=T1))
 have E5:=jX (alg6 D0 D1 D2)
 have E6:=jX (mb_assocT (D:=D0) (E:=D1) (G:=D2) (T:=T0) (U:=T1) (V:=T2))
 have E7:=jX (mb_distrD (D:=D0) (E:=D1) (G:=D2))
 have E8:=jX (mb_distrT (D:=D0) (E:=D1) (G:=D2) (T:=T0) (U:=T1) (V:=T2))
 have E9:=jX ((mb_idem2 (D:=D0) (E:=D1)).symm)
 have E0:=jX (mb_xor (D:=D0) (E:=D1) sT0 sT1)
 go_enter Tryz.func9,Tryz.ntmps9
 go_upto_region 1 with (fail)
 obtain⟨W,ga,gb,gc,hW,ega,egb,egc,bga,bgb,bgc,hga,hgb,hgc,hgW,hkW⟩:=al3 w (.cells #[.slice ao0 an0 ac0,.slice bo0 bn0 bc0] 24) (.cells #[.slice ao1 an1 ac1,.slice bo1 bn1 bc1] 24) (.cells #[.slice ao2 an2 ac2,.slice bo2 bn2 bc2] 24)
 rw [← hW]
 try rw [egc]
 try rw [egb]
 try rw [ega]
 have Bga:=jX bga
 have Bgb:=jX bgb
 have Bgc:=jX bgc
 have HkW:=jX hkW
 clear hW hkW ega egb egc bga bgb bgc
 have HM:=jX (MP.start hS W)
 have HK:=jX HkW.out
 clear hS HkW
 refine wp_region_heldN (S:=fun u=>Keep [] W u) 9 [(7,29),(8,29),(9,29)] (fun _=>.cells #[.slice none 0 0,.slice none 0 0] 29) (by kernel_rfl) (by kernel_rfl) (by kernel_rfl) (fun t ht ev w o ho=>(by simp at ht;subst ht;exact al_bool ev w o ho)) (fun _ _ d _ _ h=>by cases d<;>exact h) (fun _ _ d _ _ h=>by cases d<;>exact h) (fun _ _ h k=>h.trans0 k) ?_
 simp only [List.map_cons,List.map_nil,unal,isAl,if_true,if_false,Bool.false_eq_true]
 have hS0:=Keep.drew [] W
 have HM:=jX (HM.out.move hS0).here
 generalize World.drew W=u at *
 refine' jN (v:=_) 0 hS0 (fun _ _ h k=>h.trans0 k) (fun w hw=>?hrunr10) (fun K hK=>?hnextr10)
 case hrunr10=>(have pga:=cell_of (hw.heap Bga.out (by simp));go_simp;try rfl)
 go_simp
 refine hK _ ?_
 clear hK K
 refine' jN (v:=_) 2 hS0 (fun _ _ h k=>h.trans0 k) (fun w hw=>?hrunr12) (fun K hK=>?hnextr12)
 case hrunr12=>(have pgb:=cell_of (hw.heap Bgb.out (by simp));go_simp;try rfl)
 go_simp
 refine hK _ ?_
 clear hK K
 refine' jN (v:=_) 4 hS0 (fun _ _ h k=>h.trans0 k) (fun w hw=>?hrunr14) (fun K hK=>?hnextr14)
 case hrunr14=>(have pgc:=cell_of (hw.heap Bgc.out (by simp));go_simp;try rfl)
 go_simp
 refine hK _ ?_
 clear hK K
 refine' jN (v:=_) 6 hS0 (fun _ _ h k=>h.trans0 k) (fun w hw=>?hrunr16) (fun K hK=>?hnextr16)
 case hrunr16=>(skip;go_simp;try rfl)
 go_simp
 refine hK _ ?_
 clear hK K
 refine' jN (v:=_) 7 hS0 (fun _ _ h k=>h.trans0 k) (fun w hw=>?hrunr17) (fun K hK=>?hnextr17)
 case hrunr17=>(skip;go_simp;try rfl)
 go_simp
 refine hK _ ?_
 clear hK K
 refine' jN (v:=_) 8 hS0 (fun _ _ h k=>h.trans0 k) (fun w hw=>?hrunr18) (fun K hK=>?hnextr18)
 case hrunr18=>(skip;go_simp;try rfl)
 go_simp
 refine hK _ ?_
 clear hK K
 refine jM 1 (fun u hu K hK=>?_)
 have HM:=jX (HM.out.move hu).here
 have hS0:=hS0.trans0 hu
 clear hu
 refine wp_enter 15 #[.agg #[.slice ao0 an0 ac0,.slice bo0 bn0 bc0]] (by go_simp) ?_
 refine (HC0.out.call _ _ _ (HK.out.trans0 hS0) HM.out).mono ?_
 rintro e w1 ⟨da_w1,dc_w1,ta_w1,tc_w1,rfl,hm_w1⟩
 have hk:=hm_w1.keep
 have HM:=jX hm_w1.here
 clear hm_w1
 have hS0:=hS0.trans0 hk
 refine ⟨_,rfl,?_⟩
 go_simp
 refine hK _ _ hS0 hk ?_
 clear hK K hk
 refine jM 3 (fun u hu K hK=>?_)
 have HM:=jX (HM.out.move hu).here
 have hS0:=hS0.trans0 hu
 clear hu
 refine wp_enter 15 #[.agg #[.slice ao1 an1 ac1,.slice bo1 bn1 bc1]] (by go_simp) ?_
 refine (HC1.out.call _ _ _ (HK.out.trans0 hS0) HM.out).mono ?_
 rintro e w2 ⟨da_w2,dc_w2,ta_w2,tc_w2,rfl,hm_w2⟩
 have hk:=hm_w2.keep
 have HM:=jX hm_w2.here
 clear hm_w2
 have hS0:=hS0.trans0 hk
 refine ⟨_,rfl,?_⟩
 go_simp
 refine hK _ _ hS0 hk ?_
 clear hK K hk
 refine jM 5 (fun u hu K hK=>?_)
 have HM:=jX (HM.out.move hu).here
 have hS0:=hS0.trans0 hu
 clear hu
 refine wp_enter 15 #[.agg #[.slice ao2 an2 ac2,.slice bo2 bn2 bc2]] (by go_simp) ?_
 refine (HC2.out.call _ _ _ (HK.out.trans0 hS0) HM.out).mono ?_
 rintro e w3 ⟨da_w3,dc_w3,ta_w3,tc_w3,rfl,hm_w3⟩
 have hk:=hm_w3.keep
 have HM:=jX hm_w3.here
 clear hm_w3
 have hS0:=hS0.trans0 hk
 refine ⟨_,rfl,?_⟩
 go_simp
 refine hK _ _ hS0 hk ?_
 clear hK K hk
 intro w4 hu
 have HM:=jX (HM.out.move hu).here
 have hS0:=hS0.trans0 hu
 clear hu
 refine ⟨by kernel_rfl,fun p hp1 hp2 _ hz=>?_⟩
 simp only [List.map_cons,List.map_nil,pl,List.drop_succ_cons,List.drop_zero]
 have b7:=hz (7,29) (by simp)
 have h7:=hp1 7 (by simp)
 have b8:=hz (8,29) (by simp)
 have h8:=hp1 8 (by simp)
 have b9:=hz (9,29) (by simp)
 have h9:=hp1 9 (by simp)
 have n7_8:p 7≠p 8:=fun h=>absurd (hp2 7 (by simp) 8 (by simp) h) (by decide)
 have n7_9:p 7≠p 9:=fun h=>absurd (hp2 7 (by simp) 9 (by simp) h) (by decide)
 have n8_9:p 8≠p 9:=fun h=>absurd (hp2 8 (by simp) 9 (by simp) h) (by decide)
 dsimp only at b7 b8 b9
 generalize p 7=g7 at *
 generalize p 8=g8 at *
 generalize p 9=g9 at *
 clear hz hp1 hp2 p
 have HM:=jX (HM.out.re hS0)
 clear hS0
 go_simp
 refine wpList_rowK (by rfl) _ _ _ rfl g7 (#[.slice da_w1 D0.length dc_w1,.slice ta_w1 T0.length tc_w1]) rfl rfl _ _ b7 (by exact b_size) (by rfl) (b_one _ _ _ _ _ _) (fun K hK=>?_)
 have o7:=b7
 clear b7
 obtain⟨w5,e7,b7,k7⟩:=setRow_at (cs:=#[.slice da_w1 D0.length dc_w1,.slice ta_w1 T0.length tc_w1]) o7
 rw [e7]
 go_simp
 refine hK _ _ ?_
 clear hK K e7
 have b8:=k7.heap b8 (by simp [n7_8,n7_8.symm])
 have b9:=k7.heap b9 (by simp [n7_9,n7_9.symm])
 have HM:=jX (HM.out.put o7 (by simp) k7 h7)
 clear k7 o7
 refine wpList_rowK (by rfl) _ _ _ rfl g8 (#[.slice da_w2 D1.length dc_w2,.slice ta_w2 T1.length tc_w2]) rfl rfl _ _ b8 (by exact b_size) (by rfl) (b_one _ _ _ _ _ _) (fun K hK=>?_)
 have o8:=b8
 clear b8
 obtain⟨w6,e8,b8,k8⟩:=setRow_at (cs:=#[.slice da_w2 D1.length dc_w2,.slice ta_w2 T1.length tc_w2]) o8
 rw [e8]
 go_simp
 refine hK _ _ ?_
 clear hK K e8
 have b7:=k8.heap b7 (by simp [n7_8,n7_8.symm])
 have b9:=k8.heap b9 (by simp [n8_9,n8_9.symm])
 have HM:=jX (HM.out.put o8 (by simp) k8 h8)
 clear k8 o8
 refine wpList_rowK (by rfl) _ _ _ rfl g9 (#[.slice da_w3 D2.length dc_w3,.slice ta_w3 T2.length tc_w3]) rfl rfl _ _ b9 (by exact b_size) (by rfl) (b_one _ _ _ _ _ _) (fun K hK=>?_)
 have o9:=b9
 clear b9
 obtain⟨w7,e9,b9,k9⟩:=setRow_at (cs:=#[.slice da_w3 D2.length dc_w3,.slice ta_w3 T2.length tc_w3]) o9
 rw [e9]
 go_simp
 refine hK _ _ ?_
 clear hK K e9
 have b7:=k9.heap b7 (by simp [n7_9,n7_9.symm])
 have b8:=k9.heap b8 (by simp [n8_9,n8_9.symm])
 have HM:=jX (HM.out.put o9 (by simp) k9 h9)
 clear k9 o9
 have hk:=HM.out.keep
 have HM:=jX HM.out.here
 have HK:=jX (HK.out.trans0 hk)
 have Bg7:=jX b7
 have Bg8:=jX b8
 have Bg9:=jX b9
 clear hk b7 h7 b8 h8 b9 h9 n7_8 n7_9 n8_9
 clear Bga Bgb Bgc HC0 HC1 HC2
 go_upto_region 2 with (fail)
 refine wp_region_heldT (S:=fun u=>Keep [] w7 u) 22 (by kernel_rfl) (by kernel_rfl) (fun _ _ d _ _ h=>by cases d<;>exact h) ?_
 have hS0:=Keep.drew [] w7
 have HM:=jX (HM.out.move hS0).here
 generalize World.drew w7=u at *
 refine jP 0 (fun K hK=>?_)
 refine wp_enter 20 #[] (by go_simp) ?_
 refine (known12_c _).mono ?_
 rintro e w8 ⟨rfl,hk⟩
 have HM:=jX (HM.out.move hk).here
 have hS0:=hS0.trans0 hk
 refine ⟨_,rfl,?_⟩
 go_simp
 refine hK _ _ hS0 ?_
 clear hK K hk
 refine' jG (v:=_) 1 hS0 (fun w hw=>?hrunr21) (fun K hK=>?hnextr21)
 case hrunr21=>(skip;go_simp;try rfl)
 go_simp
 refine hK _ ?_
 clear hK K
 refine' jG (v:=_) 2 hS0 (fun w hw=>?hrunr22) (fun K hK=>?hnextr22)
 case hrunr22=>(skip;go_simp;try rfl)
 go_simp
 refine hK _ ?_
 clear hK K
 refine' jG (v:=_) 3 hS0 (fun w hw=>?hrunr23) (fun K hK=>?hnextr23)
 case hrunr23=>(have pg7:=cell_of (hw.heap Bg7.out (by simp));go_simp;try rfl)
 go_simp
 refine hK _ ?_
 clear hK K
 refine' jG (v:=_) 4 hS0 (fun w hw=>?hrunr24) (fun K hK=>?hnextr24)
 case hrunr24=>(have pg8:=cell_of (hw.heap Bg8.out (by simp));go_simp;try rfl)
 go_simp
 refine hK _ ?_
 clear hK K
 refine' jG (v:=_) 7 hS0 (fun w hw=>?hrunr27) (fun K hK=>?hnextr27)
 case hrunr27=>(have pg7:=cell_of (hw.heap Bg7.out (by simp));go_simp;try rfl)
 go_simp
 refine hK _ ?_
 clear hK K
 refine' jG (v:=_) 9 hS0 (fun w hw=>?hrunr29) (fun K hK=>?hnextr29)
 case hrunr29=>(have pg8:=cell_of (hw.heap Bg8.out (by simp));go_simp;try rfl)
 go_simp
 refine hK _ ?_
 clear hK K
 refine jP 5 (fun K hK=>?_)
 refine wp_enter 29 #[.agg #[.slice da_w1 D0.length dc_w1,.slice ta_w1 T0.length tc_w1],.agg #[.slice da_w2 D1.length dc_w2,.slice ta_w2 T1.length tc_w2]] (by go_simp) ?_
 refine (HM.out.mand (ma 4 rfl) (ma 5 rfl) (ma 2 rfl) (ma 3 rfl)).mono ?_
 rintro e w9 ⟨da_w9,dc_w9,ta_w9,tc_w9,rfl,hm_w9⟩
 have hk:=hm_w9.keep
 have HM:=jX hm_w9.here
 clear hm_w9
 have hS0:=hS0.trans0 hk
 refine ⟨_,rfl,?_⟩
 go_simp
 refine hK _ _ hS0 ?_
 clear hK K hk
 refine jP 6 (fun K hK=>?_)
 refine wp_enter 32 #[.agg #[.slice da_w9 (combK 2 D0 D1).length dc_w9,.slice ta_w9 (combK 2 (combK 2 D0 D1) (combK 2 T0 T1)).length tc_w9]] (by go_simp) ?_
 refine (HM.out.mnot (ma 0 rfl) (ma 1 rfl)).mono ?_
 rintro e w10 ⟨da_w10,dc_w10,ta_w10,tc_w10,rfl,hm_w10⟩
 have hk:=hm_w10.keep
 have HM:=jX hm_w10.here
 clear hm_w10
 have hS0:=hS0.trans0 hk
 refine ⟨_,rfl,?_⟩
 go_simp
 refine hK _ _ hS0 ?_
 clear hK K hk
 refine jP 8 (fun K hK=>?_)
 refine wp_enter 32 #[.agg #[.slice da_w1 D0.length dc_w1,.slice ta_w1 T0.length tc_w1]] (by go_simp) ?_
 refine (HM.out.mnot (ma 8 rfl) (ma 9 rfl)).mono ?_
 rintro e w11 ⟨da_w11,dc_w11,ta_w11,tc_w11,rfl,hm_w11⟩
 have hk:=hm_w11.keep
 have HM:=jX hm_w11.here
 clear hm_w11
 have hS0:=hS0.trans0 hk
 refine ⟨_,rfl,?_⟩
 go_simp
 refine hK _ _ hS0 ?_
 clear hK K hk
 refine jP 10 (fun K hK=>?_)
 refine wp_enter 32 #[.agg #[.slice da_w2 D1.length dc_w2,.slice ta_w2 T1.length tc_w2]] (by go_simp) ?_
 refine (HM.out.mnot (ma 8 rfl) (ma 9 rfl)).mono ?_
 rintro e w12 ⟨da_w12,dc_w12,ta_w12,tc_w12,rfl,hm_w12⟩
 have hk:=hm_w12.keep
 have HM:=jX hm_w12.here
 clear hm_w12
 have hS0:=hS0.trans0 hk
 refine ⟨_,rfl,?_⟩
 go_simp
 refine hK _ _ hS0 ?_
 clear hK K hk
 refine jP 11 (fun K hK=>?_)
 refine wp_enter 30 #[.agg #[.slice da_w11 D0.length dc_w11,.slice ta_w11 (combK 3 D0 T0).length tc_w11],.agg #[.slice da_w12 D1.length dc_w12,.slice ta_w12 (combK 3 D1 T1).length tc_w12]] (by go_simp) ?_
 refine (HM.out.mor (ma 2 rfl) (ma 3 rfl) (ma 0 rfl) (ma 1 rfl)).mono ?_
 rintro e w13 ⟨da_w13,dc_w13,ta_w13,tc_w13,rfl,hm_w13⟩
 have hk:=hm_w13.keep
 have HM:=jX hm_w13.here
 clear hm_w13
 have hS0:=hS0.trans0 hk
 refine ⟨_,rfl,?_⟩
 go_simp
 refine hK _ _ hS0 ?_
 clear hK K hk
 refine jP 12 (fun K hK=>?_)
 refine wp_enter 37 #[.agg #[.slice da_w10 (combK 2 D0 D1).length dc_w10,.slice ta_w10 (combK 3 (combK 2 D0 D1) (combK 2 (combK 2 D0 D1) (combK 2 T0 T1))).length tc_w10],.agg #[.slice da_w13 (combK 2 D0 D1).length dc_w13,.slice ta_w13 (combK 2 (combK 2 D0 D1) (combK 1 (combK 3 D0 T0) (combK 3 D1 T1))).length tc_w13]] (by go_simp) ?_
 refine (HM.out.meqT (ma 6 rfl) (ma 7 rfl) (ma 0 rfl) (ma 1 rfl) rfl E1.out).mono ?_
 rintro e w14 ⟨rfl,hm_w14⟩
 have hk:=hm_w14.keep
 have HM:=jX hm_w14.here
 clear hm_w14
 have hS0:=hS0.trans0 hk
 refine ⟨_,rfl,?_⟩
 go_simp
 refine hK _ _ hS0 ?_
 clear hK K hk
 refine' jG (v:=_) 13 hS0 (fun w hw=>?hrunr213) (fun K hK=>?hnextr213)
 case hrunr213=>(skip;go_simp;try rfl)
 go_simp
 refine hK _ ?_
 clear hK K
 refine' jG (v:=_) 14 hS0 (fun w hw=>?hrunr214) (fun K hK=>?hnextr214)
 case hrunr214=>(skip;go_simp;try rfl)
 go_simp
 refine hK _ ?_
 clear hK K
 refine' jG (v:=_) 15 hS0 (fun w hw=>?hrunr215) (fun K hK=>?hnextr215)
 case hrunr215=>(skip;go_simp;try rfl)
 go_simp
 refine hK _ ?_
 clear hK K
 refine' jG (v:=_) 16 hS0 (fun w hw=>?hrunr216) (fun K hK=>?hnextr216)
 case hrunr216=>(have pg7:=cell_of (hw.heap Bg7.out (by simp));go_simp;try rfl)
 go_simp
 refine hK _ ?_
 clear hK K
 refine' jG (v:=_) 19 hS0 (fun w hw=>?hrunr219) (fun K hK=>?hnextr219)
 case hrunr219=>(have pg7:=cell_of (hw.heap Bg7.out (by simp));go_simp;try rfl)
 go_simp
 refine hK _ ?_
 clear hK K
 refine jP 17 (fun K hK=>?_)
 refine wp_enter 32 #[.agg #[.slice da_w1 D0.length dc_w1,.slice ta_w1 T0.length tc_w1]] (by go_simp) ?_
 refine (HM.out.mnot (ma 14 rfl) (ma 15 rfl)).mono ?_
 rintro e w15 ⟨da_w15,dc_w15,ta_w15,tc_w15,rfl,hm_w15⟩
 have hk:=hm_w15.keep
 have HM:=jX hm_w15.here
 clear hm_w15
 have hS0:=hS0.trans0 hk
 refine ⟨_,rfl,?_⟩
 go_simp
 refine hK _ _ hS0 ?_
 clear hK K hk
 refine jP 18 (fun K hK=>?_)
 refine wp_enter 32 #[.agg #[.slice da_w15 D0.length dc_w15,.slice ta_w15 (combK 3 D0 T0).length tc_w15]] (by go_simp) ?_
 refine (HM.out.mnot (ma 0 rfl) (ma 1 rfl)).mono ?_
 rintro e w16 ⟨da_w16,dc_w16,ta_w16,tc_w16,rfl,hm_w16⟩
 have hk:=hm_w16.keep
 have HM:=jX hm_w16.here
 clear hm_w16
 have hS0:=hS0.trans0 hk
 refine ⟨_,rfl,?_⟩
 go_simp
 refine hK _ _ hS0 ?_
 clear hK K hk
 refine jP 20 (fun K hK=>?_)
 refine wp_enter 37 #[.agg #[.slice da_w16 D0.length dc_w16,.slice ta_w16 (combK 3 D0 (combK 3 D0 T0)).length tc_w16],.agg #[.slice da_w1 D0.length dc_w1,.slice ta_w1 T0.length tc_w1]] (by go_simp) ?_
 refine (HM.out.meqT (ma 0 rfl) (ma 1 rfl) (ma 18 rfl) (ma 19 rfl) rfl E2.out).mono ?_
 rintro e w17 ⟨rfl,hm_w17⟩
 have hk:=hm_w17.keep
 have HM:=jX hm_w17.here
 clear hm_w17
 have hS0:=hS0.trans0 hk
 refine ⟨_,rfl,?_⟩
 go_simp
 refine hK _ _ hS0 ?_
 clear hK K hk
 refine' jG (v:=_) 21 hS0 (fun w hw=>?hrunr221) (fun K hK=>?hnextr221)
 case hrunr221=>(skip;go_simp;try rfl)
 go_simp
 refine hK _ ?_
 clear hK K
 refine ⟨by kernel_rfl,?_⟩
 simp only [List.drop_succ_cons,List.drop_zero]
 have HK:=jX (HK.out.trans0 hS0)
 have Bg7:=jX (hS0.heap Bg7.out (by simp))
 have Bg8:=jX (hS0.heap Bg8.out (by simp))
 have Bg9:=jX (hS0.heap Bg9.out (by simp))
 clear hS0
 go_upto_region 4 with (fail)
 refine wp_region_heldT (S:=fun u=>Keep [] w17 u) 21 (by kernel_rfl) (by kernel_rfl) (fun _ _ d _ _ h=>by cases d<;>exact h) ?_
 have hS0:=Keep.drew [] w17
 have HM:=jX (HM.out.move hS0).here
 generalize World.drew w17=u at *
 refine' jG (v:=_) 0 hS0 (fun w hw=>?hrunr40) (fun K hK=>?hnextr40)
 case hrunr40=>(have pg7:=cell_of (hw.heap Bg7.out (by simp));go_simp;try rfl)
 go_simp
 refine hK _ ?_
 clear hK K
 refine' jG (v:=_) 1 hS0 (fun w hw=>?hrunr41) (fun K hK=>?hnextr41)
 case hrunr41=>(have pg8:=cell_of (hw.heap Bg8.out (by simp));go_simp;try rfl)
 go_simp
 refine hK _ ?_
 clear hK K
 refine' jG (v:=_) 3 hS0 (fun w hw=>?hrunr43) (fun K hK=>?hnextr43)
 case hrunr43=>(have pg8:=cell_of (hw.heap Bg8.out (by simp));go_simp;try rfl)
 go_simp
 refine hK _ ?_
 clear hK K
 refine' jG (v:=_) 4 hS0 (fun w hw=>?hrunr44) (fun K hK=>?hnextr44)
 case hrunr44=>(have pg7:=cell_of (hw.heap Bg7.out (by simp));go_simp;try rfl)
 go_simp
 refine hK _ ?_
 clear hK K
 refine jP 2 (fun K hK=>?_)
 refine wp_enter 29 #[.agg #[.slice da_w1 D0.length dc_w1,.slice ta_w1 T0.length tc_w1],.agg #[.slice da_w2 D1.length dc_w2,.slice ta_w2 T1.length tc_w2]] (by go_simp) ?_
 refine (HM.out.mand (ma 18 rfl) (ma 19 rfl) (ma 16 rfl) (ma 17 rfl)).mono ?_
 rintro e w18 ⟨da_w18,dc_w18,ta_w18,tc_w18,rfl,hm_w18⟩
 have hk:=hm_w18.keep
 have HM:=jX hm_w18.here
 clear hm_w18
 have hS0:=hS0.trans0 hk
 refine ⟨_,rfl,?_⟩
 go_simp
 refine hK _ _ hS0 ?_
 clear hK K hk
 refine jP 5 (fun K hK=>?_)
 refine wp_enter 29 #[.agg #[.slice da_w2 D1.length dc_w2,.slice ta_w2 T1.length tc_w2],.agg #[.slice da_w1 D0.length dc_w1,.slice ta_w1 T0.length tc_w1]] (by go_simp) ?_
 refine (HM.out.mand (ma 18 rfl) (ma 19 rfl) (ma 20 rfl) (ma 21 rfl)).mono ?_
 rintro e w19 ⟨da_w19,dc_w19,ta_w19,tc_w19,rfl,hm_w19⟩
 have hk:=hm_w19.keep
 have HM:=jX hm_w19.here
 clear hm_w19
 have hS0:=hS0.trans0 hk
 refine ⟨_,rfl,?_⟩
 go_simp
 refine hK _ _ hS0 ?_
 clear hK K hk
 refine jP 6 (fun K hK=>?_)
 refine wp_enter 37 #[.agg #[.slice da_w18 (combK 2 D0 D1).length dc_w18,.slice ta_w18 (combK 2 (combK 2 D0 D1) (combK 2 T0 T1)).length tc_w18],.agg #[.slice da_w19 (combK 2 D1 D0).length dc_w19,.slice ta_w19 (combK 2 (combK 2 D1 D0) (combK 2 T1 T0)).length tc_w19]] (by go_simp) ?_
 refine (HM.out.meqT (ma 2 rfl) (ma 3 rfl) (ma 0 rfl) (ma 1 rfl) E3.out E4.out).mono ?_
 rintro e w20 ⟨rfl,hm_w20⟩
 have hk:=hm_w20.keep
 have HM:=jX hm_w20.here
 clear hm_w20
 have hS0:=hS0.trans0 hk
 refine ⟨_,rfl,?_⟩
 go_simp
 refine hK _ _ hS0 ?_
 clear hK K hk
 refine' jG (v:=_) 7 hS0 (fun w hw=>?hrunr47) (fun K hK=>?hnextr47)
 case hrunr47=>(skip;go_simp;try rfl)
 go_simp
 refine hK _ ?_
 clear hK K
 refine' jG (v:=_) 8 hS0 (fun w hw=>?hrunr48) (fun K hK=>?hnextr48)
 case hrunr48=>(skip;go_simp;try rfl)
 go_simp
 refine hK _ ?_
 clear hK K
 refine' jG (v:=_) 9 hS0 (fun w hw=>?hrunr49) (fun K hK=>?hnextr49)
 case hrunr49=>(have pg7:=cell_of (hw.heap Bg7.out (by simp));go_simp;try rfl)
 go_simp
 refine hK _ ?_
 clear hK K
 refine' jG (v:=_) 10 hS0 (fun w hw=>?hrunr410) (fun K hK=>?hnextr410)
 case hrunr410=>(have pg8:=cell_of (hw.heap Bg8.out (by simp));go_simp;try rfl)
 go_simp
 refine hK _ ?_
 clear hK K
 refine' jG (v:=_) 12 hS0 (fun w hw=>?hrunr412) (fun K hK=>?hnextr412)
 case hrunr412=>(have pg9:=cell_of (hw.heap Bg9.out (by simp));go_simp;try rfl)
 go_simp
 refine hK _ ?_
 clear hK K
 refine' jG (v:=_) 14 hS0 (fun w hw=>?hrunr414) (fun K hK=>?hnextr414)
 case hrunr414=>(have pg7:=cell_of (hw.heap Bg7.out (by simp));go_simp;try rfl)
 go_simp
 refine hK _ ?_
 clear hK K
 refine' jG (v:=_) 15 hS0 (fun w hw=>?hrunr415) (fun K hK=>?hnextr415)
 case hrunr415=>(have pg8:=cell_of (hw.heap Bg8.out (by simp));go_simp;try rfl)
 go_simp
 refine hK _ ?_
 clear hK K
 refine' jG (v:=_) 16 hS0 (fun w hw=>?hrunr416) (fun K hK=>?hnextr416)
 case hrunr416=>(have pg9:=cell_of (hw.heap Bg9.out (by simp));go_simp;try rfl)
 go_simp
 refine hK _ ?_
 clear hK K
 refine jP 11 (fun K hK=>?_)
 refine wp_enter 29 #[.agg #[.slice da_w1 D0.length dc_w1,.slice ta_w1 T0.length tc_w1],.agg #[.slice da_w2 D1.length dc_w2,.slice ta_w2 T1.length tc_w2]] (by go_simp) ?_
 refine (HM.out.mand (ma 22 rfl) (ma 23 rfl) (ma 20 rfl) (ma 21 rfl)).mono ?_
 rintro e w21 ⟨da_w21,dc_w21,ta_w21,tc_w21,rfl,hm_w21⟩
 have hk:=hm_w21.keep
 have HM:=jX hm_w21.here
 clear hm_w21
 have hS0:=hS0.trans0 hk
 refine ⟨_,rfl,?_⟩
 go_simp
 refine hK _ _ hS0 ?_
 clear hK K hk
 refine jP 13 (fun K hK=>?_)
 refine wp_enter 29 #[.agg #[.slice da_w21 (combK 2 D0 D1).length dc_w21,.slice ta_w21 (combK 2 (combK 2 D0 D1) (combK 2 T0 T1)).length tc_w21],.agg #[.slice da_w3 D2.length dc_w3,.slice ta_w3 T2.length tc_w3]] (by go_simp) ?_
 refine (HM.out.mand (ma 0 rfl) (ma 1 rfl) (ma 20 rfl) (ma 21 rfl)).mono ?_
 rintro e w22 ⟨da_w22,dc_w22,ta_w22,tc_w22,rfl,hm_w22⟩
 have hk:=hm_w22.keep
 have HM:=jX hm_w22.here
 clear hm_w22
 have hS0:=hS0.trans0 hk
 refine ⟨_,rfl,?_⟩
 go_simp
 refine hK _ _ hS0 ?_
 clear hK K hk
 refine jP 17 (fun K hK=>?_)
 refine wp_enter 29 #[.agg #[.slice da_w2 D1.length dc_w2,.slice ta_w2 T1.length tc_w2],.agg #[.slice da_w3 D2.length dc_w3,.slice ta_w3 T2.length tc_w3]] (by go_simp) ?_
 refine (HM.out.mand (ma 24 rfl) (ma 25 rfl) (ma 22 rfl) (ma 23 rfl)).mono ?_
 rintro e w23 ⟨da_w23,dc_w23,ta_w23,tc_w23,rfl,hm_w23⟩
 have hk:=hm_w23.keep
 have HM:=jX hm_w23.here
 clear hm_w23
 have hS0:=hS0.trans0 hk
 refine ⟨_,rfl,?_⟩
 go_simp
 refine hK _ _ hS0 ?_
 clear hK K hk
 refine jP 18 (fun K hK=>?_)
 refine wp_enter 29 #[.agg #[.slice da_w1 D0.length dc_w1,.slice ta_w1 T0.length tc_w1],.agg #[.slice da_w23 (combK 2 D1 D2).length dc_w23,.slice ta_w23 (combK 2 (combK 2 D1 D2) (combK 2 T1 T2)).length tc_w23]] (by go_simp) ?_
 refine (HM.out.mand (ma 28 rfl) (ma 29 rfl) (ma 0 rfl) (ma 1 rfl)).mono ?_
 rintro e w24 ⟨da_w24,dc_w24,ta_w24,tc_w24,rfl,hm_w24⟩
 have hk:=hm_w24.keep
 have HM:=jX hm_w24.here
 clear hm_w24
 have hS0:=hS0.trans0 hk
 refine ⟨_,rfl,?_⟩
 go_simp
 refine hK _ _ hS0 ?_
 clear hK K hk
 refine jP 19 (fun K hK=>?_)
 refine wp_enter 37 #[.agg #[.slice da_w22 (combK 2 (combK 2 D0 D1) D2).length dc_w22,.slice ta_w22 (combK 2 (combK 2 (combK 2 D0 D1) D2) (combK 2 (combK 2 (combK 2 D0 D1) (combK 2 T0 T1)) T2)).length tc_w22],.agg #[.slice da_w24 (combK 2 D0 (combK 2 D1 D2)).length dc_w24,.slice ta_w24 (combK 2 (combK 2 D0 (combK 2 D1 D2)) (combK 2 T0 (combK 2 (combK 2 D1 D2) (combK 2 T1 T2)))).length tc_w24]] (by go_simp) ?_
 refine (HM.out.meqT (ma 4 rfl) (ma 5 rfl) (ma 0 rfl) (ma 1 rfl) E5.out E6.out).mono ?_
 rintro e w25 ⟨rfl,hm_w25⟩
 have hk:=hm_w25.keep
 have HM:=jX hm_w25.here
 clear hm_w25
 have hS0:=hS0.trans0 hk
 refine ⟨_,rfl,?_⟩
 go_simp
 refine hK _ _ hS0 ?_
 clear hK K hk
 refine' jG (v:=_) 20 hS0 (fun w hw=>?hrunr420) (fun K hK=>?hnextr420)
 case hrunr420=>(skip;go_simp;try rfl)
 go_simp
 refine hK _ ?_
 clear hK K
 refine ⟨by kernel_rfl,?_⟩
 simp only [List.drop_succ_cons,List.drop_zero]
 have HK:=jX (HK.out.trans0 hS0)
 have Bg7:=jX (hS0.heap Bg7.out (by simp))
 have Bg8:=jX (hS0.heap Bg8.out (by simp))
 have Bg9:=jX (hS0.heap Bg9.out (by simp))
 clear hS0
 go_upto_region 6 with (fail)
 refine wp_region_heldT (S:=fun u=>Keep [] w25 u) 27 (by kernel_rfl) (by kernel_rfl) (fun _ _ d _ _ h=>by cases d<;>exact h) ?_
 have hS0:=Keep.drew [] w25
 have HM:=jX (HM.out.move hS0).here
 generalize World.drew w25=u at *
 refine' jG (v:=_) 0 hS0 (fun w hw=>?hrunr60) (fun K hK=>?hnextr60)
 case hrunr60=>(have pg7:=cell_of (hw.heap Bg7.out (by simp));go_simp;try rfl)
 go_simp
 refine hK _ ?_
 clear hK K
 refine' jG (v:=_) 1 hS0 (fun w hw=>?hrunr61) (fun K hK=>?hnextr61)
 case hrunr61=>(have pg8:=cell_of (hw.heap Bg8.out (by simp));go_simp;try rfl)
 go_simp
 refine hK _ ?_
 clear hK K
 refine' jG (v:=_) 2 hS0 (fun w hw=>?hrunr62) (fun K hK=>?hnextr62)
 case hrunr62=>(have pg9:=cell_of (hw.heap Bg9.out (by simp));go_simp;try rfl)
 go_simp
 refine hK _ ?_
 clear hK K
 refine' jG (v:=_) 5 hS0 (fun w hw=>?hrunr65) (fun K hK=>?hnextr65)
 case hrunr65=>(have pg7:=cell_of (hw.heap Bg7.out (by simp));go_simp;try rfl)
 go_simp
 refine hK _ ?_
 clear hK K
 refine' jG (v:=_) 6 hS0 (fun w hw=>?hrunr66) (fun K hK=>?hnextr66)
 case hrunr66=>(have pg8:=cell_of (hw.heap Bg8.out (by simp));go_simp;try rfl)
 go_simp
 refine hK _ ?_
 clear hK K
 refine' jG (v:=_) 8 hS0 (fun w hw=>?hrunr68) (fun K hK=>?hnextr68)
 case hrunr68=>(have pg7:=cell_of (hw.heap Bg7.out (by simp));go_simp;try rfl)
 go_simp
 refine hK _ ?_
 clear hK K
 refine' jG (v:=_) 9 hS0 (fun w hw=>?hrunr69) (fun K hK=>?hnextr69)
 case hrunr69=>(have pg9:=cell_of (hw.heap Bg9.out (by simp));go_simp;try rfl)
 go_simp
 refine hK _ ?_
 clear hK K
 refine jP 3 (fun K hK=>?_)
 refine wp_enter 30 #[.agg #[.slice da_w2 D1.length dc_w2,.slice ta_w2 T1.length tc_w2],.agg #[.slice da_w3 D2.length dc_w3,.slice ta_w3 T2.length tc_w3]] (by go_simp) ?_
 refine (HM.out.mor (ma 28 rfl) (ma 29 rfl) (ma 26 rfl) (ma 27 rfl)).mono ?_
 rintro e w26 ⟨da_w26,dc_w26,ta_w26,tc_w26,rfl,hm_w26⟩
 have hk:=hm_w26.keep
 have HM:=jX hm_w26.here
 clear hm_w26
 have hS0:=hS0.trans0 hk
 refine ⟨_,rfl,?_⟩
 go_simp
 refine hK _ _ hS0 ?_
 clear hK K hk
 refine jP 4 (fun K hK=>?_)
 refine wp_enter 29 #[.agg #[.slice da_w1 D0.length dc_w1,.slice ta_w1 T0.length tc_w1],.agg #[.slice da_w26 (combK 2 D1 D2).length dc_w26,.slice ta_w26 (combK 2 (combK 2 D1 D2) (combK 1 T1 T2)).length tc_w26]] (by go_simp) ?_
 refine (HM.out.mand (ma 32 rfl) (ma 33 rfl) (ma 0 rfl) (ma 1 rfl)).mono ?_
 rintro e w27 ⟨da_w27,dc_w27,ta_w27,tc_w27,rfl,hm_w27⟩
 have hk:=hm_w27.keep
 have HM:=jX hm_w27.here
 clear hm_w27
 have hS0:=hS0.trans0 hk
 refine ⟨_,rfl,?_⟩
 go_simp
 refine hK _ _ hS0 ?_
 clear hK K hk
 refine jP 7 (fun K hK=>?_)
 refine wp_enter 29 #[.agg #[.slice da_w1 D0.length dc_w1,.slice ta_w1 T0.length tc_w1],.agg #[.slice da_w2 D1.length dc_w2,.slice ta_w2 T1.length tc_w2]] (by go_simp) ?_
 refine (HM.out.mand (ma 34 rfl) (ma 35 rfl) (ma 32 rfl) (ma 33 rfl)).mono ?_
 rintro e w28 ⟨da_w28,dc_w28,ta_w28,tc_w28,rfl,hm_w28⟩
 have hk:=hm_w28.keep
 have HM:=jX hm_w28.here
 clear hm_w28
 have hS0:=hS0.trans0 hk
 refine ⟨_,rfl,?_⟩
 go_simp
 refine hK _ _ hS0 ?_
 clear hK K hk
 refine jP 10 (fun K hK=>?_)
 refine wp_enter 29 #[.agg #[.slice da_w1 D0.length dc_w1,.slice ta_w1 T0.length tc_w1],.agg #[.slice da_w3 D2.length dc_w3,.slice ta_w3 T2.length tc_w3]] (by go_simp) ?_
 refine (HM.out.mand (ma 36 rfl) (ma 37 rfl) (ma 32 rfl) (ma 33 rfl)).mono ?_
 rintro e w29 ⟨da_w29,dc_w29,ta_w29,tc_w29,rfl,hm_w29⟩
 have hk:=hm_w29.keep
 have HM:=jX hm_w29.here
 clear hm_w29
 have hS0:=hS0.trans0 hk
 refine ⟨_,rfl,?_⟩
 go_simp
 refine hK _ _ hS0 ?_
 clear hK K hk
 refine jP 11 (fun K hK=>?_)
 refine wp_enter 30 #[.agg #[.slice da_w28 (combK 2 D0 D1).length dc_w28,.slice ta_w28 (combK 2 (combK 2 D0 D1) (combK 2 T0 T1)).length tc_w28],.agg #[.slice da_w29 (combK 2 D0 D2).length dc_w29,.slice ta_w29 (combK 2 (combK 2 D0 D2) (combK 2 T0 T2)).length tc_w29]] (by go_simp) ?_
 refine (HM.out.mor (ma 2 rfl) (ma 3 rfl) (ma 0 rfl) (ma 1 rfl)).mono ?_
 rintro e w30 ⟨da_w30,dc_w30,ta_w30,tc_w30,rfl,hm_w30⟩
 have hk:=hm_w30.keep
 have HM:=jX hm_w30.here
 clear hm_w30
 have hS0:=hS0.trans0 hk
 refine ⟨_,rfl,?_⟩
 go_simp
 refine hK _ _ hS0 ?_
 clear hK K hk
 refine jP 12 (fun K hK=>?_)
 refine wp_enter 37 #[.agg #[.slice da_w27 (combK 2 D0 (combK 2 D1 D2)).length dc_w27,.slice ta_w27 (combK 2 (combK 2 D0 (combK 2 D1 D2)) (combK 2 T0 (combK 2 (combK 2 D1 D2) (combK 1 T1 T2)))).length tc_w27],.agg #[.slice da_w30 (combK 2 (combK 2 D0 D1) (combK 2 D0 D2)).length dc_w30,.slice ta_w30 (combK 2 (combK 2 (combK 2 D0 D1) (combK 2 D0 D2)) (combK 1 (combK 2 (combK 2 D0 D1) (combK 2 T0 T1)) (combK 2 (combK 2 D0 D2) (combK 2 T0 T2)))).length tc_w30]] (by go_simp) ?_
 refine (HM.out.meqT (ma 6 rfl) (ma 7 rfl) (ma 0 rfl) (ma 1 rfl) E7.out E8.out).mono ?_
 rintro e w31 ⟨rfl,hm_w31⟩
 have hk:=hm_w31.keep
 have HM:=jX hm_w31.here
 clear hm_w31
 have hS0:=hS0.trans0 hk
 refine ⟨_,rfl,?_⟩
 go_simp
 refine hK _ _ hS0 ?_
 clear hK K hk
 refine' jG (v:=_) 13 hS0 (fun w hw=>?hrunr613) (fun K hK=>?hnextr613)
 case hrunr613=>(skip;go_simp;try rfl)
 go_simp
 refine hK _ ?_
 clear hK K
 refine' jG (v:=_) 14 hS0 (fun w hw=>?hrunr614) (fun K hK=>?hnextr614)
 case hrunr614=>(have pg7:=cell_of (hw.heap Bg7.out (by simp));go_simp;try rfl)
 go_simp
 refine hK _ ?_
 clear hK K
 refine' jG (v:=_) 15 hS0 (fun w hw=>?hrunr615) (fun K hK=>?hnextr615)
 case hrunr615=>(have pg8:=cell_of (hw.heap Bg8.out (by simp));go_simp;try rfl)
 go_simp
 refine hK _ ?_
 clear hK K
 refine' jG (v:=_) 17 hS0 (fun w hw=>?hrunr617) (fun K hK=>?hnextr617)
 case hrunr617=>(have pg7:=cell_of (hw.heap Bg7.out (by simp));go_simp;try rfl)
 go_simp
 refine hK _ ?_
 clear hK K
 refine' jG (v:=_) 18 hS0 (fun w hw=>?hrunr618) (fun K hK=>?hnextr618)
 case hrunr618=>(have pg8:=cell_of (hw.heap Bg8.out (by simp));go_simp;try rfl)
 go_simp
 refine hK _ ?_
 clear hK K
 refine' jG (v:=_) 20 hS0 (fun w hw=>?hrunr620) (fun K hK=>?hnextr620)
 case hrunr620=>(have pg7:=cell_of (hw.heap Bg7.out (by simp));go_simp;try rfl)
 go_simp
 refine hK _ ?_
 clear hK K
 refine' jG (v:=_) 21 hS0 (fun w hw=>?hrunr621) (fun K hK=>?hnextr621)
 case hrunr621=>(have pg8:=cell_of (hw.heap Bg8.out (by simp));go_simp;try rfl)
 go_simp
 refine hK _ ?_
 clear hK K
 refine jP 16 (fun K hK=>?_)
 refine wp_enter 31 #[.agg #[.slice da_w1 D0.length dc_w1,.slice ta_w1 T0.length tc_w1],.agg #[.slice da_w2 D1.length dc_w2,.slice ta_w2 T1.length tc_w2]] (by go_simp) ?_
 refine (HM.out.mdiffer (ma 40 rfl) (ma 41 rfl) (ma 38 rfl) (ma 39 rfl)).mono ?_
 rintro e w32 ⟨da_w32,dc_w32,ta_w32,tc_w32,rfl,hm_w32⟩
 have hk:=hm_w32.keep
 have HM:=jX hm_w32.here
 clear hm_w32
 have hS0:=hS0.trans0 hk
 refine ⟨_,rfl,?_⟩
 go_simp
 refine hK _ _ hS0 ?_
 clear hK K hk
 refine jP 19 (fun K hK=>?_)
 refine wp_enter 30 #[.agg #[.slice da_w1 D0.length dc_w1,.slice ta_w1 T0.length tc_w1],.agg #[.slice da_w2 D1.length dc_w2,.slice ta_w2 T1.length tc_w2]] (by go_simp) ?_
 refine (HM.out.mor (ma 42 rfl) (ma 43 rfl) (ma 40 rfl) (ma 41 rfl)).mono ?_
 rintro e w33 ⟨da_w33,dc_w33,ta_w33,tc_w33,rfl,hm_w33⟩
 have hk:=hm_w33.keep
 have HM:=jX hm_w33.here
 clear hm_w33
 have hS0:=hS0.trans0 hk
 refine ⟨_,rfl,?_⟩
 go_simp
 refine hK _ _ hS0 ?_
 clear hK K hk
 refine jP 22 (fun K hK=>?_)
 refine wp_enter 29 #[.agg #[.slice da_w1 D0.length dc_w1,.slice ta_w1 T0.length tc_w1],.agg #[.slice da_w2 D1.length dc_w2,.slice ta_w2 T1.length tc_w2]] (by go_simp) ?_
 refine (HM.out.mand (ma 44 rfl) (ma 45 rfl) (ma 42 rfl) (ma 43 rfl)).mono ?_
 rintro e w34 ⟨da_w34,dc_w34,ta_w34,tc_w34,rfl,hm_w34⟩
 have hk:=hm_w34.keep
 have HM:=jX hm_w34.here
 clear hm_w34
 have hS0:=hS0.trans0 hk
 refine ⟨_,rfl,?_⟩
 go_simp
 refine hK _ _ hS0 ?_
 clear hK K hk
 refine jP 23 (fun K hK=>?_)
 refine wp_enter 32 #[.agg #[.slice da_w34 (combK 2 D0 D1).length dc_w34,.slice ta_w34 (combK 2 (combK 2 D0 D1) (combK 2 T0 T1)).length tc_w34]] (by go_simp) ?_
 refine (HM.out.mnot (ma 0 rfl) (ma 1 rfl)).mono ?_
 rintro e w35 ⟨da_w35,dc_w35,ta_w35,tc_w35,rfl,hm_w35⟩
 have hk:=hm_w35.keep
 have HM:=jX hm_w35.here
 clear hm_w35
 have hS0:=hS0.trans0 hk
 refine ⟨_,rfl,?_⟩
 go_simp
 refine hK _ _ hS0 ?_
 clear hK K hk
 refine jP 24 (fun K hK=>?_)
 refine wp_enter 29 #[.agg #[.slice da_w33 (combK 2 D0 D1).length dc_w33,.slice ta_w33 (combK 2 (combK 2 D0 D1) (combK 1 T0 T1)).length tc_w33],.agg #[.slice da_w35 (combK 2 D0 D1).length dc_w35,.slice ta_w35 (combK 3 (combK 2 D0 D1) (combK 2 (combK 2 D0 D1) (combK 2 T0 T1))).length tc_w35]] (by go_simp) ?_
 refine (HM.out.mand (ma 4 rfl) (ma 5 rfl) (ma 0 rfl) (ma 1 rfl)).mono ?_
 rintro e w36 ⟨da_w36,dc_w36,ta_w36,tc_w36,rfl,hm_w36⟩
 have hk:=hm_w36.keep
 have HM:=jX hm_w36.here
 clear hm_w36
 have hS0:=hS0.trans0 hk
 refine ⟨_,rfl,?_⟩
 go_simp
 refine hK _ _ hS0 ?_
 clear hK K hk
 refine jP 25 (fun K hK=>?_)
 refine wp_enter 37 #[.agg #[.slice da_w32 (combK 2 D0 D1).length dc_w32,.slice ta_w32 (combK 2 (combK 2 D0 D1) (combK 1 (combK 3 T0 T1) (combK 3 T1 T0))).length tc_w32],.agg #[.slice da_w36 (combK 2 (combK 2 D0 D1) (combK 2 D0 D1)).length dc_w36,.slice ta_w36 (combK 2 (combK 2 (combK 2 D0 D1) (combK 2 D0 D1)) (combK 2 (combK 2 (combK 2 D0 D1) (combK 1 T0 T1)) (combK 3 (combK 2 D0 D1) (combK 2 (combK 2 D0 D1) (combK 2 T0 T1))))).length tc_w36]] (by go_simp) ?_
 refine (HM.out.meqT (ma 8 rfl) (ma 9 rfl) (ma 0 rfl) (ma 1 rfl) E9.out E0.out).mono ?_
 rintro e w37 ⟨rfl,hm_w37⟩
 have hk:=hm_w37.keep
 have HM:=jX hm_w37.here
 clear hm_w37
 have hS0:=hS0.trans0 hk
 refine ⟨_,rfl,?_⟩
 go_simp
 refine hK _ _ hS0 ?_
 clear hK K hk
 refine' jG (v:=_) 26 hS0 (fun w hw=>?hrunr626) (fun K hK=>?hnextr626)
 case hrunr626=>(skip;go_simp;try rfl)
 go_simp
 refine hK _ ?_
 clear hK K
 refine ⟨by kernel_rfl,?_⟩
 simp only [List.drop_succ_cons,List.drop_zero]
 have HK:=jX (HK.out.trans0 hS0)
 have Bg7:=jX (hS0.heap Bg7.out (by simp))
 have Bg8:=jX (hS0.heap Bg8.out (by simp))
 have Bg9:=jX (hS0.heap Bg9.out (by simp))
 clear hS0
 go_wp2_with fail
 go_ret
 exact ⟨rfl,HK.out⟩
end Go.Proofs.YtejegogbhpmgfaaGreatDoor
