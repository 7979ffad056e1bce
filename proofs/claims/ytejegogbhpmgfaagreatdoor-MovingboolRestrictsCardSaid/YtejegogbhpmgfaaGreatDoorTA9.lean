/- Parts of a proof about this translation: Sx@9, Va@9, Vb@9, Mb@9, Me@9, Mi@9, Mf@9, Mj@9, Mm@9, Ga@9, H9@9. -/
import Derived.Deep.Slices
import Derived.Lib.SmallJoins
import Derived.Test.YtejegogbhpmgfaaGreatDoorA32
import Derived.Test.YtejegogbhpmgfaaGreatDoorA33
import Derived.Test.YtejegogbhpmgfaaGreatDoorA34
import Derived.Test.YtejegogbhpmgfaaGreatDoorA35
import Derived.Test.YtejegogbhpmgfaaGreatDoorA38
import Derived.Test.YtejegogbhpmgfaaGreatDoorA37
set_option linter.unusedVariables false
set_option linter.unusedSimpArgs false
set_option maxRecDepth 100000
set_option maxHeartbeats 8000000
namespace Go.Proofs.YtejegogbhpmgfaaGreatDoor
open Go.RowKit
open Classical
theorem equal_c (l m:List (Iv K)) (w:World) (sv tv:Value) (hr:IvR w sv l) (hs:IvR w tv m) (h9:l.length≤1000000000) (h8:m.length≤1000000000) :
  Calls Tryz.prog 21 #[sv,tv] w fun e w'=>e = .returned (.bool (decide (l=m)))∧Keep [] w w':=by
 have HR:=jX hr
 have HS:=jX hs
 obtain⟨ao,ac,rfl,_⟩:=hr.form
 obtain⟨bo,bc,rfl,_⟩:=hs.form
 clear hr hs
 by_cases hlen:l.length=m.length
 ·have hne:((l.length:Int) != (m.length:Int))=false:=by rw [hlen];simp
  have Hlen:=jX hlen
  clear hlen
  go_enter Tryz.func21,Tryz.ntmps21
  go_wp2_with fail
  go_loopw [5] (fun c wr=>∃ k:Nat,k≤l.length∧c = .int .i64 (k:Int)∧l.take k=m.take k∧Keep [] w wr) (fun c _=>l.length-(intOf c).toNat)
  case atStart=>exact ⟨0,Nat.zero_le _,rfl,rfl,Keep.refl _ _⟩
  case round =>
   obtain⟨k,hk,rfl,heq,hkeep⟩:=hrel
   have Heq:=jX heq
   have HKr:=jX hkeep
   clear heq hkeep
   by_cases hlt:k<l.length
   ·have hlt2:k<m.length:=by rw [← Hlen.out];exact hlt
    obtain⟨g,o,rfl,hg,hat⟩:=IvR.elem (HR.out.later HKr.out) k hlt
    obtain⟨g2,o2,rfl,hg2,hat2⟩:=IvR.elem (HS.out.later HKr.out) k hlt2
    obtain⟨i,hi⟩:∃ i,l[k]=i:=⟨_,rfl⟩
    obtain⟨j,hj⟩:∃ j,m[k]=j:=⟨_,rfl⟩
    have Hi:=jX hi
    have Hj:=jX hj
    rw [hi] at hat
    rw [hj] at hat2
    clear hi hj
    obtain⟨p,hp⟩:∃ p,o+k*20=p:=⟨_,rfl⟩
    obtain⟨q,hq⟩:∃ q,o2+k*20=q:=⟨_,rfl⟩
    rw [hp] at hat
    rw [hq] at hat2
    have HLa:=jX (hat.ld hg)
    have HLb:=jX (hat2.ld hg2)
    have HN:=jX (neqI_run i j)
    clear hat hat2
    unfold iv at *
    generalize iC i=I at *
    generalize iC j=J at *
    by_cases hij:i=j
    ·rw [decide_eq_true hij] at HN
     have Hij:=jX hij
     clear hij
     go_wp2_with fail
     refine wp_region_keep (by kernel_rfl) (by kernel_rfl) ?_
     repeat (first
      | go_big_quiet_skip
      | (go_big_quiet_want;first
       | (refine quiet_load _ _ _ (.agg I) rfl rfl (by rintro _ ⟨m,rfl⟩;exact HLa.out m) ?_;go_simp;go_big_quiet_on)|(refine quiet_load _ _ _ (.agg J) rfl rfl (by rintro _ ⟨m,rfl⟩;exact HLb.out m) ?_;go_simp;go_big_quiet_on)|(refine quiet_bin _ _ _ _ _ _ _ (_) rfl rfl rfl eqI_g (by intro w;exact HN.out w) ?_;go_simp;go_big_quiet_on)
       | (go_big_quiet_op;first|go_big_quiet_on|go_big_quiet_call (first
        | fail))))
     refine wpQuiet_nil ?_
     rintro w1 ⟨⟨_,hk_w1⟩,rfl⟩
     clear HLa HLb HN
     have Hk1:=jX hk_w1
     clear hk_w1
     go_wp2_with fail
     go_roundw
     case rel=>exact ⟨k+1,by omega,congrArg (Value.int .i64) (by omega),by rw [List.take_succ_eq_append_getElem hlt,List.take_succ_eq_append_getElem hlt2,Heq.out,Hi.out,Hj.out,Hij.out],HKr.out.trans0 Hk1.out⟩
     case measure=>simp [intOf];omega
    ·rw [decide_eq_false hij] at HN
     have Hij:=jX hij
     clear hij
     go_wp2_with fail
     refine wp_region_keep (by kernel_rfl) (by kernel_rfl) ?_
     repeat (first
      | go_big_quiet_skip
      | (go_big_quiet_want;first
       | (refine quiet_load _ _ _ (.agg I) rfl rfl (by rintro _ ⟨m,rfl⟩;exact HLa.out m) ?_;go_simp;go_big_quiet_on)|(refine quiet_load _ _ _ (.agg J) rfl rfl (by rintro _ ⟨m,rfl⟩;exact HLb.out m) ?_;go_simp;go_big_quiet_on)|(refine quiet_bin _ _ _ _ _ _ _ (_) rfl rfl rfl eqI_g (by intro w;exact HN.out w) ?_;go_simp;go_big_quiet_on)
       | (go_big_quiet_op;first|go_big_quiet_on|go_big_quiet_call (first
        | fail))))
     refine wpQuiet_nil ?_
     rintro w1 ⟨⟨_,hk_w1⟩,rfl⟩
     clear HLa HLb HN
     have Hk1:=jX hk_w1
     clear hk_w1
     go_wp2_with fail
     go_ret
     have hno:l≠m:=fun e=>Hij.out (by rw [← Hi.out,← Hj.out];simp only [e])
     exact ⟨by rw [decide_eq_false hno];rfl,HKr.out.trans0 Hk1.out⟩
   ·obtain rfl:k=l.length:=by omega
    go_wp2_with fail
    go_ret
    have he:l=m:=by
     have:=Heq.out
     rw [List.take_length,Hlen.out,List.take_length] at this
     exact this
    exact ⟨by rw [decide_eq_true he];rfl,HKr.out⟩
 ·have hne:((l.length:Int) != (m.length:Int))=true:=by rw [bne_iff_ne];omega
  have hno:l≠m:=fun e=>hlen (by rw [e])
  rw [decide_eq_false hno]
  clear hno hlen
  go_enter Tryz.func21,Tryz.ntmps21
  go_wp2_with fail
  go_ret
  exact ⟨rfl,Keep.refl _ _⟩
end Go.Proofs.YtejegogbhpmgfaaGreatDoor
namespace Go.Proofs.YtejegogbhpmgfaaGreatDoor
open Go.RowKit
open Go.ChangeShapes Go.WideShapes Go.ChangeAt
section
variable {H:Type} {enc:TypeId × Value→H} {w:World} {base:Nat} {held:Bool} {fuel:Nat}
end
theorem SpArg_open {H:Type} {enc:TypeId × Value→H} {W:World} {v:Value} {base:Nat} {d:DataW H} {p:List MemPlace} (hv:Value.okWide Tryz.prog W .any base 22 v)
  (h:∃ m,DataW.trod enc Tryz.prog W 0 (fun _=>true) true m 22 v.cells.toList=some (d,p)):SpArg W v:=by
 obtain⟨a,len,cap,rfl⟩:=okWide_slice Tryz.underlying22 hv
 obtain⟨m,hm⟩:=h
 obtain⟨l,h1,h2⟩:=spans_trod hm
 exact ⟨l,h1,by unfold maxLen at h2;omega⟩
end Go.Proofs.YtejegogbhpmgfaaGreatDoor
namespace Go.Proofs.YtejegogbhpmgfaaGreatDoor
open Go.RowKit
open Classical
section
variable {S:List K} {w0 w w':World} {L:List (Value × List (Iv K))}
variable {v u:Value} {a b:List (Iv K)}
end
theorem comb_ext {op op':Int} {a b a' b':List (Iv K)} (h:∀ x,decV op (hasL a x) (hasL b x)=decV op' (hasL a' x) (hasL b' x)):combK op a b=combK op' a' b' :=
 combK_eq (combK_norm _ _ _) (fun x=>by rw [combK_has,h])
end Go.Proofs.YtejegogbhpmgfaaGreatDoor
namespace Go.Proofs.YtejegogbhpmgfaaGreatDoor
theorem combK_self {op:Int} {a b l:List (Iv K)} (hl:Norm l) (h:∀ x,decV op (hasL a x) (hasL b x)=hasL l x):combK op a b=l:=combK_eq hl fun x=>(h x).symm
section
variable {D T E U G V P:List (Iv K)}
theorem mb_restrict (hT:SubL T D):combK 2 T P=combK 2 T (combK 2 D P):=comb_ext fun x=>by
 have h:=hT x
 revert h
 simp only [combK_has,dec1,dec2,dec3]
 cases hasL D x<;>cases hasL T x<;>cases hasL P x<;>simp
theorem mb_more (D P:List (Iv K)):combK 1 D (combK 3 P D)=combK 1 D P:=comb_ext fun x=>by
 simp only [combK_has,dec1,dec2,dec3]
 cases hasL D x<;>cases hasL P x<;>rfl
theorem mb_ext0 (hN:Norm T) (hT:SubL T D):combK 2 T (combK 1 D P)=T:=combK_self hN fun x=>by
 have h:=hT x
 revert h
 simp only [combK_has,dec1,dec2,dec3]
 cases hasL D x<;>cases hasL T x<;>cases hasL P x<;>simp
theorem mb_ext1 (hT:SubL T D):combK 2 (combK 1 T (combK 3 P D)) (combK 1 D P)=combK 1 T (combK 3 P D):=combK_self (combK_norm _ _ _) fun x=>by
 have h:=hT x
 revert h
 simp only [combK_has,dec1,dec2,dec3]
 cases hasL D x<;>cases hasL T x<;>cases hasL P x<;>simp
theorem mb_back (hN:Norm D):combK 2 (combK 1 D (combK 3 P D)) D=D:=combK_self hN fun x=>by
 simp only [combK_has,dec1,dec2,dec3]
 cases hasL D x<;>cases hasL P x<;>rfl
theorem mb_backT (hN:Norm T) (hT:SubL T D):combK 2 T D=T:=combK_self hN fun x=>by
 have h:=hT x
 revert h
 simp only [combK_has,dec1,dec2,dec3]
 cases hasL D x<;>cases hasL T x<;>simp
theorem mb_backT1 (hN:Norm T) (hT:SubL T D):combK 2 (combK 1 T (combK 3 P D)) D=T:=combK_self hN fun x=>by
 have h:=hT x
 revert h
 simp only [combK_has,dec1,dec2,dec3]
 cases hasL D x<;>cases hasL T x<;>cases hasL P x<;>simp
theorem mb_idem (hN:Norm D):combK 2 D D=D:=combK_self hN fun x=>by
 simp only [combK_has,dec1,dec2,dec3]
 cases hasL D x<;>rfl
end
end Go.Proofs.YtejegogbhpmgfaaGreatDoor
namespace Go.Proofs.YtejegogbhpmgfaaGreatDoor
open Go.RowKit
open Classical
section
variable {S:List K} {w0 w w' W:World} {L M:List (Value × List (Iv K))}
variable {v u:Value} {a b:List (Iv K)}
theorem MP.eqd (h:MP S w0 w L) (hv:(v,a)∈L) (hu:(u,b)∈L):Calls Tryz.prog 21 #[v,u] w (BoolPost S w0 L (decide (a=b))) :=
 boolPost_of h (equal_c a b w v u (h.get hv) (h.get hu) (by have:=h.len hv;omega) (by have:=h.len hu;omega))
end
section
variable {S:List K} {w0 w:World} {L:List (Value × List (Iv K))} {D T E U P:List (Iv K)} {da ta ea ua pa:Option Addr} {dc tc ec uc pc:Nat}
end
section
variable {S:List K} {w0 w:World} {L:List (Value × List (Iv K))} {D T E U P:List (Iv K)} {da ta ea ua pa:Option Addr} {dc tc ec uc pc:Nat}
theorem MP.mrestrict (h:MP S w0 w L) (hD:(.slice da D.length dc,D)∈L) (hT:(.slice ta T.length tc,T)∈L) (hP:(.slice pa P.length pc,P)∈L) :
  Calls Tryz.prog 52 #[.agg #[.slice da D.length dc,.slice ta T.length tc],.slice pa P.length pc] w (BolPost S w0 L (combK 2 D P) (combK 2 T P)):=by
 have H0:=jX h
 have hD:=jX hD
 have hT:=jX hT
 have hP:=jX hP
 clear h
 go_enter Tryz.func52,Tryz.ntmps52
 go_upto_region 1 with (fail)
 obtain⟨W,ga,gb,hW,ega,egb,bga,bgb,hga,hgb,hgW,hkW⟩:=al2 w (.cells #[.slice da D.length dc,.slice ta T.length tc] 29) (.cells #[.slice none 0 0,.slice none 0 0] 29)
 rw [← hW]
 try rw [egb]
 try rw [ega]
 have Bga:=jX bga
 have Bgb:=jX bgb
 have HkW:=jX hkW
 clear hW hkW ega egb bga bgb
 have HM:=jX (H0.out.here.move HkW.out).here
 refine wp_region_heldT (S:=fun u=>Keep [] W u) 8 (by kernel_rfl) (by kernel_rfl) (fun _ _ d _ _ h=>by cases d<;>exact h) ?_
 have HM:=jX (HM.out.move (Keep.drew [] W))
 generalize World.drew W=u at *
 have hS0:=HM.out.keep
 refine' jV (v:=_) 0 hS0 (fun w hw=>?hrunf0) (fun K hK=>?hnextf0)
 case hrunf0=>(have pga:=cell_of (hw.heap Bga.out (by simp));go_simp;try rfl)
 go_simp
 refine hK _ ?_
 clear hK K
 refine' jV (v:=_) 1 hS0 (fun w hw=>?hrunf1) (fun K hK=>?hnextf1)
 case hrunf1=>(have pga:=cell_of (hw.heap Bga.out (by simp));go_simp;try rfl)
 go_simp
 refine hK _ ?_
 clear hK K
 refine' jV (v:=_) 2 hS0 (fun w hw=>?hrunf2) (fun K hK=>?hnextf2)
 case hrunf2=>(have pga:=cell_of (hw.heap Bga.out (by simp));go_simp;try rfl)
 go_simp
 refine hK _ ?_
 clear hK K
 refine' jV (v:=_) 4 hS0 (fun w hw=>?hrunf4) (fun K hK=>?hnextf4)
 case hrunf4=>(have pga:=cell_of (hw.heap Bga.out (by simp));go_simp;try rfl)
 go_simp
 refine hK _ ?_
 clear hK K
 refine' jV (v:=_) 5 hS0 (fun w hw=>?hrunf5) (fun K hK=>?hnextf5)
 case hrunf5=>(have pga:=cell_of (hw.heap Bga.out (by simp));go_simp;try rfl)
 go_simp
 refine hK _ ?_
 clear hK K
 refine' jV (v:=_) 6 hS0 (fun w hw=>?hrunf6) (fun K hK=>?hnextf6)
 case hrunf6=>(have pga:=cell_of (hw.heap Bga.out (by simp));go_simp;try rfl)
 go_simp
 refine hK _ ?_
 clear hK K
 refine jO 3 (fun K hK=>?_)
 refine wp_enter 71 #[.slice da D.length dc,.slice pa P.length pc] (by go_simp) ?_
 refine (HM.out.inter (v:=.slice da D.length dc) (a:=D) (u:=.slice pa P.length pc) (b:=P) (by simp [hD.out,hT.out,hP.out]) (by simp [hD.out,hT.out,hP.out])).mono ?_
 rintro e w1 ⟨vo_w1,vc_w1,rfl,hm_w1⟩
 have HM:=jX hm_w1
 clear hm_w1
 refine ⟨_,rfl,?_⟩
 have hS0:=HM.out.keep
 go_simp
 refine hK _ _ hS0 ?_
 clear hK K
 refine jO 7 (fun K hK=>?_)
 refine wp_enter 71 #[.slice ta T.length tc,.slice pa P.length pc] (by go_simp) ?_
 refine (HM.out.inter (v:=.slice ta T.length tc) (a:=T) (u:=.slice pa P.length pc) (b:=P) (by simp [hD.out,hT.out,hP.out]) (by simp [hD.out,hT.out,hP.out])).mono ?_
 rintro e w2 ⟨vo_w2,vc_w2,rfl,hm_w2⟩
 have HM:=jX hm_w2
 clear hm_w2
 refine ⟨_,rfl,?_⟩
 have hS0:=HM.out.keep
 go_simp
 refine hK _ _ hS0 ?_
 clear hK K
 refine ⟨by kernel_rfl,?_⟩
 simp only [List.drop_succ_cons,List.drop_zero]
 have bz:=jX (HM.out.keep.heap Bgb.out (by simp))
 have pgb:=cell_of bz.out
 have fgb:=frozen_of bz.out
 have lgb:=lt_of_heap bz.out
 go_wp2_with fail
 obtain⟨u9,e9,b9,k9⟩:=st2 (x:=.slice vo_w1 (combK 2 D P).length vc_w1) (y:=.slice vo_w2 (combK 2 T P).length vc_w2) bz.out
 rw [← e9]
 clear e9 pgb fgb lgb
 have pgb:=cell_of b9
 refine bodyPost_ret (v:=.agg #[.slice vo_w1 (combK 2 D P).length vc_w1,.slice vo_w2 (combK 2 T P).length vc_w2]) ?_ rfl ⟨_,_,_,_,rfl,MP.fin H0.out.keep HkW.out HM.out bz.out (by simp) (by omega) k9 ?_⟩
 ·rw [results_cell1 rfl];go_simp
 ·intro p hp;simp only [List.mem_cons] at hp ⊢;grind
theorem MP.rrestrict (h:MP S w0 w L) (hD:(.slice da D.length dc,D)∈L) (hT:(.slice ta T.length tc,T)∈L) (hP:(.slice pa P.length pc,P)∈L) :
  Calls Tryz.prog 49 #[.agg #[.slice da D.length dc,.slice ta T.length tc],.slice pa P.length pc] w (BolPost S w0 L (combK 2 D P) (combK 2 T (combK 2 D P))):=by
 have H0:=jX h
 have hD:=jX hD
 have hT:=jX hT
 have hP:=jX hP
 clear h
 go_enter Tryz.func49,Tryz.ntmps49
 go_upto_region 1 with (fail)
 obtain⟨W,ga,gb,hW,ega,egb,bga,bgb,hga,hgb,hgW,hkW⟩:=al2 w (.cells #[.slice da D.length dc,.slice ta T.length tc] 29) (.cells #[.slice none 0 0,.slice none 0 0] 29)
 rw [← hW]
 try rw [egb]
 try rw [ega]
 have Bga:=jX bga
 have Bgb:=jX bgb
 have HkW:=jX hkW
 clear hW hkW ega egb bga bgb
 have HM:=jX (H0.out.here.move HkW.out).here
 refine wp_region_heldT (S:=fun u=>Keep [] W u) 7 (by kernel_rfl) (by kernel_rfl) (fun _ _ d _ _ h=>by cases d<;>exact h) ?_
 have HM:=jX (HM.out.move (Keep.drew [] W))
 generalize World.drew W=u at *
 have hS0:=HM.out.keep
 refine' jV (v:=_) 0 hS0 (fun w hw=>?hrunf0) (fun K hK=>?hnextf0)
 case hrunf0=>(have pga:=cell_of (hw.heap Bga.out (by simp));go_simp;try rfl)
 go_simp
 refine hK _ ?_
 clear hK K
 refine' jV (v:=_) 1 hS0 (fun w hw=>?hrunf1) (fun K hK=>?hnextf1)
 case hrunf1=>(have pga:=cell_of (hw.heap Bga.out (by simp));go_simp;try rfl)
 go_simp
 refine hK _ ?_
 clear hK K
 refine' jV (v:=_) 2 hS0 (fun w hw=>?hrunf2) (fun K hK=>?hnextf2)
 case hrunf2=>(have pga:=cell_of (hw.heap Bga.out (by simp));go_simp;try rfl)
 go_simp
 refine hK _ ?_
 clear hK K
 refine' jV (v:=_) 4 hS0 (fun w hw=>?hrunf4) (fun K hK=>?hnextf4)
 case hrunf4=>(have pga:=cell_of (hw.heap Bga.out (by simp));go_simp;try rfl)
 go_simp
 refine hK _ ?_
 clear hK K
 refine' jV (v:=_) 5 hS0 (fun w hw=>?hrunf5) (fun K hK=>?hnextf5)
 case hrunf5=>(have pga:=cell_of (hw.heap Bga.out (by simp));go_simp;try rfl)
 go_simp
 refine hK _ ?_
 clear hK K
 refine jO 3 (fun K hK=>?_)
 refine wp_enter 50 #[.int .i64 2,.slice da D.length dc,.slice pa P.length pc] (by go_simp) ?_
 refine (HM.out.comb (op:=2) (by simp) (v:=.slice da D.length dc) (a:=D) (u:=.slice pa P.length pc) (b:=P) (by simp [hD.out,hT.out,hP.out]) (by simp [hD.out,hT.out,hP.out])).mono ?_
 rintro e w1 ⟨vo_w1,vc_w1,rfl,hm_w1⟩
 have HM:=jX hm_w1
 clear hm_w1
 refine ⟨_,rfl,?_⟩
 have hS0:=HM.out.keep
 go_simp
 refine hK _ _ hS0 ?_
 clear hK K
 refine jO 6 (fun K hK=>?_)
 refine wp_enter 60 #[.slice vo_w1 (combK 2 D P).length vc_w1,.slice ta T.length tc] (by go_simp) ?_
 refine (HM.out.rmake (D:=combK 2 D P) (T:=T) (by simp [hD.out,hT.out,hP.out]) (by simp [hD.out,hT.out,hP.out])).mono ?_
 rintro e w2 ⟨da_w2,dc_w2,ta_w2,tc_w2,rfl,hm_w2⟩
 have HM:=jX hm_w2
 clear hm_w2
 refine ⟨_,rfl,?_⟩
 have hS0:=HM.out.keep
 go_simp
 refine hK _ _ hS0 ?_
 clear hK K
 refine ⟨by kernel_rfl,?_⟩
 simp only [List.drop_succ_cons,List.drop_zero]
 have bz:=jX (HM.out.keep.heap Bgb.out (by simp))
 have pgb:=cell_of bz.out
 have fgb:=frozen_of bz.out
 have lgb:=lt_of_heap bz.out
 go_wp2_with fail
 obtain⟨u9,e9,b9,k9⟩:=st2 (x:=.slice da_w2 (combK 2 D P).length dc_w2) (y:=.slice ta_w2 (combK 2 T (combK 2 D P)).length tc_w2) bz.out
 rw [← e9]
 clear e9 pgb fgb lgb
 have pgb:=cell_of b9
 refine bodyPost_ret (v:=.agg #[.slice da_w2 (combK 2 D P).length dc_w2,.slice ta_w2 (combK 2 T (combK 2 D P)).length tc_w2]) ?_ rfl ⟨_,_,_,_,rfl,MP.fin H0.out.keep HkW.out HM.out bz.out (by simp) (by omega) k9 ?_⟩
 ·rw [results_cell1 rfl];go_simp
 ·intro p hp;simp only [List.mem_cons] at hp ⊢;grind
end
theorem sequal_c (l m:List (Iv K)) (w:World) (sv tv:Value) (hr:IvR w sv l) (hs:IvR w tv m) (h9:l.length≤1000000000) (h8:m.length≤1000000000) :
  Calls Tryz.prog 124 #[sv,tv] w fun e w'=>e = .returned (.bool (decide (l=m)))∧Keep [] w w':=by
 have HR:=jX hr
 have HS:=jX hs
 obtain⟨ao,ac,rfl,_⟩:=hr.form
 obtain⟨bo,bc,rfl,_⟩:=hs.form
 clear hr hs
 by_cases hlen:l.length=m.length
 ·have hne:((l.length:Int) != (m.length:Int))=false:=by rw [hlen];simp
  have Hlen:=jX hlen
  clear hlen
  go_enter Tryz.func124,Tryz.ntmps124
  go_wp2_with fail
  go_loopw [13] (fun c wr=>∃ k:Nat,k≤l.length∧c = .int .i64 (k:Int)∧l.take k=m.take k∧Keep [] w wr) (fun c _=>l.length-(intOf c).toNat)
  case atStart=>exact ⟨0,Nat.zero_le _,rfl,rfl,Keep.refl _ _⟩
  case round =>
   obtain⟨k,hk,rfl,heq,hkeep⟩:=hrel
   have Heq:=jX heq
   have HKr:=jX hkeep
   clear heq hkeep
   by_cases hlt:k<l.length
   ·have hlt2:k<m.length:=by rw [← Hlen.out];exact hlt
    obtain⟨g,o,rfl,hg,hat⟩:=IvR.elem (HR.out.later HKr.out) k hlt
    obtain⟨g2,o2,rfl,hg2,hat2⟩:=IvR.elem (HS.out.later HKr.out) k hlt2
    obtain⟨i,hi⟩:∃ i,l[k]=i:=⟨_,rfl⟩
    obtain⟨j,hj⟩:∃ j,m[k]=j:=⟨_,rfl⟩
    have Hi:=jX hi
    have Hj:=jX hj
    rw [hi] at hat
    rw [hj] at hat2
    clear hi hj
    obtain⟨p,hp⟩:∃ p,o+k*20=p:=⟨_,rfl⟩
    obtain⟨q,hq⟩:∃ q,o2+k*20=q:=⟨_,rfl⟩
    rw [hp] at hat
    rw [hq] at hat2
    have HLa:=jX (hat.ld hg)
    have HLb:=jX (hat2.ld hg2)
    have HN:=jX (neqI_run i j)
    clear hat hat2
    unfold iv at *
    generalize iC i=I at *
    generalize iC j=J at *
    by_cases hij:i=j
    ·rw [decide_eq_true hij] at HN
     have Hij:=jX hij
     clear hij
     go_wp2_with fail
     refine wp_region_keep (by kernel_rfl) (by kernel_rfl) ?_
     repeat (first
      | go_big_quiet_skip
      | (go_big_quiet_want;first
       | (refine quiet_load _ _ _ (.agg I) rfl rfl (by rintro _ ⟨m,rfl⟩;exact HLa.out m) ?_;go_simp;go_big_quiet_on)|(refine quiet_load _ _ _ (.agg J) rfl rfl (by rintro _ ⟨m,rfl⟩;exact HLb.out m) ?_;go_simp;go_big_quiet_on)|(refine quiet_bin _ _ _ _ _ _ _ (_) rfl rfl rfl eqI_g (by intro w;exact HN.out w) ?_;go_simp;go_big_quiet_on)
       | (go_big_quiet_op;first|go_big_quiet_on|go_big_quiet_call (first
        | fail))))
     refine wpQuiet_nil ?_
     rintro w1 ⟨⟨_,hk_w1⟩,rfl⟩
     clear HLa HLb HN
     have Hk1:=jX hk_w1
     clear hk_w1
     go_wp2_with fail
     go_roundw
     case rel=>exact ⟨k+1,by omega,congrArg (Value.int .i64) (by omega),by rw [List.take_succ_eq_append_getElem hlt,List.take_succ_eq_append_getElem hlt2,Heq.out,Hi.out,Hj.out,Hij.out],HKr.out.trans0 Hk1.out⟩
     case measure=>simp [intOf];omega
    ·rw [decide_eq_false hij] at HN
     have Hij:=jX hij
     clear hij
     go_wp2_with fail
     refine wp_region_keep (by kernel_rfl) (by kernel_rfl) ?_
     repeat (first
      | go_big_quiet_skip
      | (go_big_quiet_want;first
       | (refine quiet_load _ _ _ (.agg I) rfl rfl (by rintro _ ⟨m,rfl⟩;exact HLa.out m) ?_;go_simp;go_big_quiet_on)|(refine quiet_load _ _ _ (.agg J) rfl rfl (by rintro _ ⟨m,rfl⟩;exact HLb.out m) ?_;go_simp;go_big_quiet_on)|(refine quiet_bin _ _ _ _ _ _ _ (_) rfl rfl rfl eqI_g (by intro w;exact HN.out w) ?_;go_simp;go_big_quiet_on)
       | (go_big_quiet_op;first|go_big_quiet_on|go_big_quiet_call (first
        | fail))))
     refine wpQuiet_nil ?_
     rintro w1 ⟨⟨_,hk_w1⟩,rfl⟩
     clear HLa HLb HN
     have Hk1:=jX hk_w1
     clear hk_w1
     go_wp2_with fail
     go_ret
     have hno:l≠m:=fun e=>Hij.out (by rw [← Hi.out,← Hj.out];simp only [e])
     exact ⟨by rw [decide_eq_false hno];rfl,HKr.out.trans0 Hk1.out⟩
   ·obtain rfl:k=l.length:=by omega
    go_wp2_with fail
    go_ret
    have he:l=m:=by
     have:=Heq.out
     rw [List.take_length,Hlen.out,List.take_length] at this
     exact this
    exact ⟨by rw [decide_eq_true he];rfl,HKr.out⟩
 ·have hne:((l.length:Int) != (m.length:Int))=true:=by rw [bne_iff_ne];omega
  have hno:l≠m:=fun e=>hlen (by rw [e])
  rw [decide_eq_false hno]
  clear hno hlen
  go_enter Tryz.func124,Tryz.ntmps124
  go_wp2_with fail
  go_ret
  exact ⟨rfl,Keep.refl _ _⟩
theorem pequal_c (l m:List (Iv K)) (w:World) (sv tv:Value) (hr:IvR w sv l) (hs:IvR w tv m) (h9:l.length≤1000000000) (h8:m.length≤1000000000) :
  Calls Tryz.prog 80 #[sv,tv] w fun e w'=>e = .returned (.bool (decide (l=m)))∧Keep [] w w':=by
 have H:=jX (sequal_c l m w sv tv hr hs h9 h8)
 obtain⟨ao,ac,rfl,_⟩:=hr.form
 obtain⟨bo,bc,rfl,_⟩:=hs.form
 clear hr hs
 generalize decide (l=m)=r at *
 go_enter Tryz.func80,Tryz.ntmps80
 go_wp2_with fail
 refine H.out.mono ?_
 rintro e w1 ⟨rfl,hk⟩
 dsimp only
 have HK:=jX hk
 clear hk H
 go_wp2_with fail
 go_ret
 exact ⟨rfl,HK.out⟩
section
variable {S:List K} {w0 w w' W:World} {L M:List (Value × List (Iv K))} {D T E U P:List (Iv K)} {da ta ea ua pa:Option Addr} {dc tc ec uc pc:Nat}
theorem MP.peq {v u:Value} {a b:List (Iv K)} (h:MP S w0 w L) (hv:(v,a)∈L) (hu:(u,b)∈L):Calls Tryz.prog 80 #[v,u] w (BoolPost S w0 L (decide (a=b))) :=
 boolPost_of h (pequal_c a b w v u (h.get hv) (h.get hu) (by have:=h.len hv;omega) (by have:=h.len hu;omega))
theorem MP.meq (h:MP S w0 w L) (hD:(.slice da D.length dc,D)∈L) (hT:(.slice ta T.length tc,T)∈L) (hE:(.slice ea E.length ec,E)∈L) (hU:(.slice ua U.length uc,U)∈L) :
  Calls Tryz.prog 37 #[.agg #[.slice da D.length dc,.slice ta T.length tc],.agg #[.slice ea E.length ec,.slice ua U.length uc]] w (BoolPost S w0 L (decide (D=E)&&decide (T=U))):=by
 have H0:=jX h
 have hD:=jX hD
 have hT:=jX hT
 have hE:=jX hE
 have hU:=jX hU
 clear h
 have K1:=jX (fun b u M (h:MP S b u M) (h1:(.slice da D.length dc,D)∈M) (h2:(.slice ea E.length ec,E)∈M)=>h.peq h1 h2)
 have K2:=jX (fun b u M (h:MP S b u M) (h1:(.slice ta T.length tc,T)∈M) (h2:(.slice ua U.length uc,U)∈M)=>h.peq h1 h2)
 cases hr:decide (D=E) with
 | false =>
  rw [hr] at K1
  clear K2
  generalize decide (T=U)=q
  go_enter Tryz.func37,Tryz.ntmps37
  go_upto_region 1 with (fail)
  obtain⟨W,ga,gb,hW,ega,egb,bga,bgb,hga,hgb,hgW,hkW⟩:=al2 w (.cells #[.slice da D.length dc,.slice ta T.length tc] 29) (.cells #[.slice ea E.length ec,.slice ua U.length uc] 29)
  rw [← hW]
  try rw [egb]
  try rw [ega]
  have Bga:=jX bga
  have Bgb:=jX bgb
  have HkW:=jX hkW
  clear hW hkW ega egb bga bgb
  have HM:=jX (H0.out.here.move HkW.out).here
  have pga:=cell_of (HM.out.keep.heap Bga.out (by simp))
  have pgb:=cell_of (HM.out.keep.heap Bgb.out (by simp))
  go_wp2_with fail
  refine (K1.out _ _ _ HM.out hD.out hE.out).mono ?_
  rintro e w1 ⟨rfl,hm_w1⟩
  dsimp only
  have HM:=jX hm_w1
  clear hm_w1
  clear pga pgb
  go_wp2_with fail
  go_ret
  exact ⟨rfl,H0.out.back HkW.out HM.out (fun p hp=>by simp [hp])⟩
 | true =>
  rw [hr] at K1
  rw [Bool.true_and]
  generalize decide (T=U)=q at *
  go_enter Tryz.func37,Tryz.ntmps37
  go_upto_region 1 with (fail)
  obtain⟨W,ga,gb,hW,ega,egb,bga,bgb,hga,hgb,hgW,hkW⟩:=al2 w (.cells #[.slice da D.length dc,.slice ta T.length tc] 29) (.cells #[.slice ea E.length ec,.slice ua U.length uc] 29)
  rw [← hW]
  try rw [egb]
  try rw [ega]
  have Bga:=jX bga
  have Bgb:=jX bgb
  have HkW:=jX hkW
  clear hW hkW ega egb bga bgb
  have HM:=jX (H0.out.here.move HkW.out).here
  have pga:=cell_of (HM.out.keep.heap Bga.out (by simp))
  have pgb:=cell_of (HM.out.keep.heap Bgb.out (by simp))
  go_wp2_with fail
  refine (K1.out _ _ _ HM.out hD.out hE.out).mono ?_
  rintro e w1 ⟨rfl,hm_w1⟩
  dsimp only
  have HM:=jX hm_w1
  clear hm_w1
  clear pga pgb
  have pga:=cell_of (HM.out.keep.heap Bga.out (by simp))
  have pgb:=cell_of (HM.out.keep.heap Bgb.out (by simp))
  go_wp2_with fail
  refine (K2.out _ _ _ HM.out hT.out hU.out).mono ?_
  rintro e w2 ⟨rfl,hm_w2⟩
  dsimp only
  have HM:=jX hm_w2
  clear hm_w2
  clear pga pgb
  go_wp2_with fail
  go_ret
  exact ⟨rfl,H0.out.back HkW.out HM.out (fun p hp=>by simp [hp])⟩
theorem MP.req (h:MP S w0 w L) (hD:(.slice da D.length dc,D)∈L) (hT:(.slice ta T.length tc,T)∈L) (hE:(.slice ea E.length ec,E)∈L) (hU:(.slice ua U.length uc,U)∈L) :
  Calls Tryz.prog 27 #[.agg #[.slice da D.length dc,.slice ta T.length tc],.agg #[.slice ea E.length ec,.slice ua U.length uc]] w (BoolPost S w0 L (decide (D=E)&&decide (T=U))):=by
 have H0:=jX h
 have hD:=jX hD
 have hT:=jX hT
 have hE:=jX hE
 have hU:=jX hU
 clear h
 have K1:=jX (fun b u M (h:MP S b u M) (h1:(.slice da D.length dc,D)∈M) (h2:(.slice ea E.length ec,E)∈M)=>h.eqd h1 h2)
 have K2:=jX (fun b u M (h:MP S b u M) (h1:(.slice ta T.length tc,T)∈M) (h2:(.slice ua U.length uc,U)∈M)=>h.eqd h1 h2)
 cases hr:decide (D=E) with
 | false =>
  rw [hr] at K1
  clear K2
  generalize decide (T=U)=q
  go_enter Tryz.func27,Tryz.ntmps27
  go_upto_region 1 with (fail)
  obtain⟨W,ga,gb,hW,ega,egb,bga,bgb,hga,hgb,hgW,hkW⟩:=al2 w (.cells #[.slice da D.length dc,.slice ta T.length tc] 29) (.cells #[.slice ea E.length ec,.slice ua U.length uc] 29)
  rw [← hW]
  try rw [egb]
  try rw [ega]
  have Bga:=jX bga
  have Bgb:=jX bgb
  have HkW:=jX hkW
  clear hW hkW ega egb bga bgb
  have HM:=jX (H0.out.here.move HkW.out).here
  have pga:=cell_of (HM.out.keep.heap Bga.out (by simp))
  have pgb:=cell_of (HM.out.keep.heap Bgb.out (by simp))
  go_wp2_with fail
  refine (K1.out _ _ _ HM.out hD.out hE.out).mono ?_
  rintro e w1 ⟨rfl,hm_w1⟩
  dsimp only
  have HM:=jX hm_w1
  clear hm_w1
  clear pga pgb
  go_wp2_with fail
  go_ret
  exact ⟨rfl,H0.out.back HkW.out HM.out (fun p hp=>by simp [hp])⟩
 | true =>
  rw [hr] at K1
  rw [Bool.true_and]
  generalize decide (T=U)=q at *
  go_enter Tryz.func27,Tryz.ntmps27
  go_upto_region 1 with (fail)
  obtain⟨W,ga,gb,hW,ega,egb,bga,bgb,hga,hgb,hgW,hkW⟩:=al2 w (.cells #[.slice da D.length dc,.slice ta T.length tc] 29) (.cells #[.slice ea E.length ec,.slice ua U.length uc] 29)
  rw [← hW]
  try rw [egb]
  try rw [ega]
  have Bga:=jX bga
  have Bgb:=jX bgb
  have HkW:=jX hkW
  clear hW hkW ega egb bga bgb
  have HM:=jX (H0.out.here.move HkW.out).here
  have pga:=cell_of (HM.out.keep.heap Bga.out (by simp))
  have pgb:=cell_of (HM.out.keep.heap Bgb.out (by simp))
  go_wp2_with fail
  refine (K1.out _ _ _ HM.out hD.out hE.out).mono ?_
  rintro e w1 ⟨rfl,hm_w1⟩
  dsimp only
  have HM:=jX hm_w1
  clear hm_w1
  clear pga pgb
  have pga:=cell_of (HM.out.keep.heap Bga.out (by simp))
  have pgb:=cell_of (HM.out.keep.heap Bgb.out (by simp))
  go_wp2_with fail
  refine (K2.out _ _ _ HM.out hT.out hU.out).mono ?_
  rintro e w2 ⟨rfl,hm_w2⟩
  dsimp only
  have HM:=jX hm_w2
  clear hm_w2
  clear pga pgb
  go_wp2_with fail
  go_ret
  exact ⟨rfl,H0.out.back HkW.out HM.out (fun p hp=>by simp [hp])⟩
end
section
variable {S:List K} {w0 w w' W:World} {L M:List (Value × List (Iv K))} {D T E U P:List (Iv K)} {da ta ea ua pa:Option Addr} {dc tc ec uc pc:Nat}
theorem MP.mextend0 (h:MP S w0 w L) (hD:(.slice da D.length dc,D)∈L) (hT:(.slice ta T.length tc,T)∈L) (hP:(.slice pa P.length pc,P)∈L) :
  Calls Tryz.prog 51 #[.agg #[.slice da D.length dc,.slice ta T.length tc],.slice pa P.length pc,.bool false] w (BolPost S w0 L (combK 1 D (combK 3 P D)) T):=by
 have H0:=jX h
 have hD:=jX hD
 have hT:=jX hT
 have hP:=jX hP
 clear h
 go_enter Tryz.func51,Tryz.ntmps51
 go_upto_region 1 with (fail)
 obtain⟨W,ga,gb,hW,ega,egb,bga,bgb,hga,hgb,hgW,hkW⟩:=al2 w (.cells #[.slice da D.length dc,.slice ta T.length tc] 29) (.cells #[.slice none 0 0,.slice none 0 0] 29)
 rw [← hW]
 try rw [egb]
 try rw [ega]
 have Bga:=jX bga
 have Bgb:=jX bgb
 have HkW:=jX hkW
 clear hW hkW ega egb bga bgb
 have HM:=jX (H0.out.here.move HkW.out).here
 have pga:=cell_of (HM.out.keep.heap Bga.out (by simp))
 go_wp2_with fail
 refine (HM.out.minus (v:=.slice pa P.length pc) (a:=P) (u:=.slice da D.length dc) (b:=D) (by simp [hD.out,hT.out,hP.out]) (by simp [hD.out,hT.out,hP.out])).mono ?_
 rintro e w1 ⟨vo_w1,vc_w1,rfl,hm_w1⟩
 dsimp only
 have HM:=jX hm_w1
 clear hm_w1
 clear pga
 have HK1:=jX HM.out.keep
 have B1ga:=jX (HK1.out.heap Bga.out (by simp))
 have HM:=jX HM.out.here
 go_upto_region 2 with (fail)
 refine wp_region_heldN (S:=fun u=>Keep [] w1 u) 9 [(8,29)] (fun _=>.cells #[.slice none 0 0,.slice none 0 0] 29) (by kernel_rfl) (by kernel_rfl) (by kernel_rfl) (fun t ht ev w o ho=>(by simp at ht;subst ht;exact al_bool ev w o ho)) (fun _ _ d _ _ h=>by cases d<;>exact h) (fun _ _ d _ _ h=>by cases d<;>exact h) (fun _ _ h k=>h.trans0 k) ?_
 simp only [List.map_cons,List.map_nil,unal,isAl,if_true,if_false,Bool.false_eq_true]
 have hS0:=Keep.drew [] w1
 have HM:=jX (HM.out.move hS0).here
 generalize World.drew w1=u at *
 refine' jN (v:=_) 0 hS0 (fun _ _ h k=>h.trans0 k) (fun w hw=>?hrunf0) (fun K hK=>?hnextf0)
 case hrunf0=>(skip;go_simp;try rfl)
 go_simp
 refine hK _ ?_
 clear hK K
 refine' jN (v:=_) 1 hS0 (fun _ _ h k=>h.trans0 k) (fun w hw=>?hrunf1) (fun K hK=>?hnextf1)
 case hrunf1=>(have p1ga:=cell_of (hw.heap B1ga.out (by simp));go_simp;try rfl)
 go_simp
 refine hK _ ?_
 clear hK K
 refine' jN (v:=_) 2 hS0 (fun _ _ h k=>h.trans0 k) (fun w hw=>?hrunf2) (fun K hK=>?hnextf2)
 case hrunf2=>(skip;go_simp;try rfl)
 go_simp
 refine hK _ ?_
 clear hK K
 refine' jN (v:=_) 4 hS0 (fun _ _ h k=>h.trans0 k) (fun w hw=>?hrunf4) (fun K hK=>?hnextf4)
 case hrunf4=>(skip;go_simp;try rfl)
 go_simp
 refine hK _ ?_
 clear hK K
 refine' jN (v:=_) 5 hS0 (fun _ _ h k=>h.trans0 k) (fun w hw=>?hrunf5) (fun K hK=>?hnextf5)
 case hrunf5=>(have p1ga:=cell_of (hw.heap B1ga.out (by simp));go_simp;try rfl)
 go_simp
 refine hK _ ?_
 clear hK K
 refine' jN (v:=_) 8 hS0 (fun _ _ h k=>h.trans0 k) (fun w hw=>?hrunf8) (fun K hK=>?hnextf8)
 case hrunf8=>(skip;go_simp;try rfl)
 go_simp
 refine hK _ ?_
 clear hK K
 refine jM 3 (fun u hu K hK=>?_)
 have HM:=jX (HM.out.move hu).here
 have hS0:=hS0.trans0 hu
 clear hu
 refine wp_enter 70 #[.slice da D.length dc,.slice vo_w1 (combK 3 P D).length vc_w1] (by go_simp) ?_
 refine (HM.out.union (v:=.slice da D.length dc) (a:=D) (u:=.slice vo_w1 (combK 3 P D).length vc_w1) (b:=combK 3 P D) (by simp [hD.out,hT.out,hP.out]) (by simp)).mono ?_
 rintro e w2 ⟨vo_w2,vc_w2,rfl,hm_w2⟩
 have hk:=hm_w2.keep
 have HM:=jX hm_w2.here
 clear hm_w2
 have hS0:=hS0.trans0 hk
 refine ⟨_,rfl,?_⟩
 go_simp
 refine hK _ _ hS0 hk ?_
 clear hK K hk
 refine jM 6 (fun u hu K hK=>?_)
 have HM:=jX (HM.out.move hu).here
 have hS0:=hS0.trans0 hu
 clear hu
 refine wp_enter 73 #[.slice ta T.length tc] (by go_simp) ?_
 refine (HM.out.clone (v:=.slice ta T.length tc) (a:=T) (by simp [hD.out,hT.out,hP.out])).mono ?_
 rintro e w3 ⟨vo_w3,vc_w3,rfl,hm_w3⟩
 have hk:=hm_w3.keep
 have HM:=jX hm_w3.here
 clear hm_w3
 have hS0:=hS0.trans0 hk
 refine ⟨_,rfl,?_⟩
 go_simp
 refine hK _ _ hS0 hk ?_
 clear hK K hk
 refine' jN (v:=_) 7 hS0 (fun _ _ h k=>h.trans0 k) (fun w hw=>?hrunf7) (fun K hK=>?hnextf7)
 case hrunf7=>(skip;go_simp;try rfl)
 go_simp
 refine hK _ ?_
 clear hK K
 intro w4 hu
 have HM:=jX (HM.out.move hu).here
 have hS0:=hS0.trans0 hu
 clear hu
 refine ⟨by kernel_rfl,fun p hp1 hp2 _ hz=>?_⟩
 simp only [List.map_cons,List.map_nil,pl,List.drop_succ_cons,List.drop_zero]
 have bn:=hz (8,29) (by simp)
 have hgn:=hp1 8 (by simp)
 dsimp only at bn
 generalize p 8=gn at *
 clear hz hp1 hp2 p
 go_simp
 refine wpList_rowK (by rfl) _ _ _ rfl gn #[.slice vo_w2 (combK 1 D (combK 3 P D)).length vc_w2,.slice vo_w3 T.length vc_w3] rfl rfl _ _ bn (by exact b_size) (by rfl) (b_one _ _ _ _ _ _) (fun K hK=>?_)
 obtain⟨w5,e5,b5,k5⟩:=setRow_at (cs:=#[.slice vo_w2 (combK 1 D (combK 3 P D)).length vc_w2,.slice vo_w3 T.length vc_w3]) bn
 rw [e5]
 go_simp
 refine hK _ _ ?_
 clear hK K e5
 have HM:=jX ((HM.out.re hS0).put bn (by simp) k5 hgn)
 have HM:=jX (HM.out.re (HK1.out.trans0 HM.out.keep))
 have Bn:=jX b5
 have Hgn:=jX (Nat.le_trans HK1.out.size hgn)
 clear hS0 b5 k5 bn hgn
 have pgn:=cell_of Bn.out
 have bz:=jX (HM.out.keep.heap Bgb.out (by simp))
 have pgb:=cell_of bz.out
 have fgb:=frozen_of bz.out
 have lgb:=lt_of_heap bz.out
 go_wp2_with fail
 obtain⟨u9,e9,b9,k9⟩:=st2 (x:=.slice vo_w2 (combK 1 D (combK 3 P D)).length vc_w2) (y:=.slice vo_w3 T.length vc_w3) bz.out
 rw [← e9]
 clear e9 pgb fgb lgb
 have pgb:=cell_of b9
 refine bodyPost_ret (v:=.agg #[.slice vo_w2 (combK 1 D (combK 3 P D)).length vc_w2,.slice vo_w3 T.length vc_w3]) ?_ rfl ⟨_,_,_,_,rfl,MP.fin H0.out.keep HkW.out HM.out bz.out (by simp) (by omega) k9 ?_⟩
 ·rw [results_cell1 rfl];go_simp
 ·intro p hp;simp only [List.mem_cons] at hp ⊢;grind
theorem MP.mextend1 (h:MP S w0 w L) (hD:(.slice da D.length dc,D)∈L) (hT:(.slice ta T.length tc,T)∈L) (hP:(.slice pa P.length pc,P)∈L) :
  Calls Tryz.prog 51 #[.agg #[.slice da D.length dc,.slice ta T.length tc],.slice pa P.length pc,.bool true] w (BolPost S w0 L (combK 1 D (combK 3 P D)) (combK 1 T (combK 3 P D))):=by
 have H0:=jX h
 have hD:=jX hD
 have hT:=jX hT
 have hP:=jX hP
 clear h
 go_enter Tryz.func51,Tryz.ntmps51
 go_upto_region 1 with (fail)
 obtain⟨W,ga,gb,hW,ega,egb,bga,bgb,hga,hgb,hgW,hkW⟩:=al2 w (.cells #[.slice da D.length dc,.slice ta T.length tc] 29) (.cells #[.slice none 0 0,.slice none 0 0] 29)
 rw [← hW]
 try rw [egb]
 try rw [ega]
 have Bga:=jX bga
 have Bgb:=jX bgb
 have HkW:=jX hkW
 clear hW hkW ega egb bga bgb
 have HM:=jX (H0.out.here.move HkW.out).here
 have pga:=cell_of (HM.out.keep.heap Bga.out (by simp))
 go_wp2_with fail
 refine (HM.out.minus (v:=.slice pa P.length pc) (a:=P) (u:=.slice da D.length dc) (b:=D) (by simp [hD.out,hT.out,hP.out]) (by simp [hD.out,hT.out,hP.out])).mono ?_
 rintro e w1 ⟨vo_w1,vc_w1,rfl,hm_w1⟩
 dsimp only
 have HM:=jX hm_w1
 clear hm_w1
 clear pga
 have HK1:=jX HM.out.keep
 have B1ga:=jX (HK1.out.heap Bga.out (by simp))
 have HM:=jX HM.out.here
 go_upto_region 2 with (fail)
 refine wp_region_heldN (S:=fun u=>Keep [] w1 u) 9 [(8,29)] (fun _=>.cells #[.slice none 0 0,.slice none 0 0] 29) (by kernel_rfl) (by kernel_rfl) (by kernel_rfl) (fun t ht ev w o ho=>(by simp at ht;subst ht;exact al_bool ev w o ho)) (fun _ _ d _ _ h=>by cases d<;>exact h) (fun _ _ d _ _ h=>by cases d<;>exact h) (fun _ _ h k=>h.trans0 k) ?_
 simp only [List.map_cons,List.map_nil,unal,isAl,if_true,if_false,Bool.false_eq_true]
 have hS0:=Keep.drew [] w1
 have HM:=jX (HM.out.move hS0).here
 generalize World.drew w1=u at *
 refine' jN (v:=_) 0 hS0 (fun _ _ h k=>h.trans0 k) (fun w hw=>?hrunf0) (fun K hK=>?hnextf0)
 case hrunf0=>(skip;go_simp;try rfl)
 go_simp
 refine hK _ ?_
 clear hK K
 refine' jN (v:=_) 1 hS0 (fun _ _ h k=>h.trans0 k) (fun w hw=>?hrunf1) (fun K hK=>?hnextf1)
 case hrunf1=>(have p1ga:=cell_of (hw.heap B1ga.out (by simp));go_simp;try rfl)
 go_simp
 refine hK _ ?_
 clear hK K
 refine' jN (v:=_) 2 hS0 (fun _ _ h k=>h.trans0 k) (fun w hw=>?hrunf2) (fun K hK=>?hnextf2)
 case hrunf2=>(skip;go_simp;try rfl)
 go_simp
 refine hK _ ?_
 clear hK K
 refine' jN (v:=_) 4 hS0 (fun _ _ h k=>h.trans0 k) (fun w hw=>?hrunf4) (fun K hK=>?hnextf4)
 case hrunf4=>(skip;go_simp;try rfl)
 go_simp
 refine hK _ ?_
 clear hK K
 refine' jN (v:=_) 5 hS0 (fun _ _ h k=>h.trans0 k) (fun w hw=>?hrunf5) (fun K hK=>?hnextf5)
 case hrunf5=>(have p1ga:=cell_of (hw.heap B1ga.out (by simp));go_simp;try rfl)
 go_simp
 refine hK _ ?_
 clear hK K
 refine' jN (v:=_) 8 hS0 (fun _ _ h k=>h.trans0 k) (fun w hw=>?hrunf8) (fun K hK=>?hnextf8)
 case hrunf8=>(skip;go_simp;try rfl)
 go_simp
 refine hK _ ?_
 clear hK K
 refine jM 3 (fun u hu K hK=>?_)
 have HM:=jX (HM.out.move hu).here
 have hS0:=hS0.trans0 hu
 clear hu
 refine wp_enter 70 #[.slice da D.length dc,.slice vo_w1 (combK 3 P D).length vc_w1] (by go_simp) ?_
 refine (HM.out.union (v:=.slice da D.length dc) (a:=D) (u:=.slice vo_w1 (combK 3 P D).length vc_w1) (b:=combK 3 P D) (by simp [hD.out,hT.out,hP.out]) (by simp)).mono ?_
 rintro e w2 ⟨vo_w2,vc_w2,rfl,hm_w2⟩
 have hk:=hm_w2.keep
 have HM:=jX hm_w2.here
 clear hm_w2
 have hS0:=hS0.trans0 hk
 refine ⟨_,rfl,?_⟩
 go_simp
 refine hK _ _ hS0 hk ?_
 clear hK K hk
 refine jM 6 (fun u hu K hK=>?_)
 have HM:=jX (HM.out.move hu).here
 have hS0:=hS0.trans0 hu
 clear hu
 refine wp_enter 73 #[.slice ta T.length tc] (by go_simp) ?_
 refine (HM.out.clone (v:=.slice ta T.length tc) (a:=T) (by simp [hD.out,hT.out,hP.out])).mono ?_
 rintro e w3 ⟨vo_w3,vc_w3,rfl,hm_w3⟩
 have hk:=hm_w3.keep
 have HM:=jX hm_w3.here
 clear hm_w3
 have hS0:=hS0.trans0 hk
 refine ⟨_,rfl,?_⟩
 go_simp
 refine hK _ _ hS0 hk ?_
 clear hK K hk
 refine' jN (v:=_) 7 hS0 (fun _ _ h k=>h.trans0 k) (fun w hw=>?hrunf7) (fun K hK=>?hnextf7)
 case hrunf7=>(skip;go_simp;try rfl)
 go_simp
 refine hK _ ?_
 clear hK K
 intro w4 hu
 have HM:=jX (HM.out.move hu).here
 have hS0:=hS0.trans0 hu
 clear hu
 refine ⟨by kernel_rfl,fun p hp1 hp2 _ hz=>?_⟩
 simp only [List.map_cons,List.map_nil,pl,List.drop_succ_cons,List.drop_zero]
 have bn:=hz (8,29) (by simp)
 have hgn:=hp1 8 (by simp)
 dsimp only at bn
 generalize p 8=gn at *
 clear hz hp1 hp2 p
 go_simp
 refine wpList_rowK (by rfl) _ _ _ rfl gn #[.slice vo_w2 (combK 1 D (combK 3 P D)).length vc_w2,.slice vo_w3 T.length vc_w3] rfl rfl _ _ bn (by exact b_size) (by rfl) (b_one _ _ _ _ _ _) (fun K hK=>?_)
 obtain⟨w5,e5,b5,k5⟩:=setRow_at (cs:=#[.slice vo_w2 (combK 1 D (combK 3 P D)).length vc_w2,.slice vo_w3 T.length vc_w3]) bn
 rw [e5]
 go_simp
 refine hK _ _ ?_
 clear hK K e5
 have HM:=jX ((HM.out.re hS0).put bn (by simp) k5 hgn)
 have HM:=jX (HM.out.re (HK1.out.trans0 HM.out.keep))
 have Bn:=jX b5
 have Hgn:=jX (Nat.le_trans HK1.out.size hgn)
 clear hS0 b5 k5 bn hgn
 have pgn:=cell_of Bn.out
 have fgn:=frozen_of Bn.out
 have lgn:=lt_of_heap Bn.out
 have pga:=cell_of (HM.out.keep.heap Bga.out (by simp))
 go_wp2_with fail
 have HK5:=jX HM.out.keep
 clear pgn fgn lgn pga
 refine (HM.out.here.union (v:=.slice ta T.length tc) (a:=T) (u:=.slice vo_w1 (combK 3 P D).length vc_w1) (b:=combK 3 P D) (by simp [hD.out,hT.out,hP.out]) (by simp)).mono ?_
 rintro e w6 ⟨vo_w6,vc_w6,rfl,hm⟩
 dsimp only
 have Bn:=jX (hm.keep.heap Bn.out (by simp))
 have HM:=jX (hm.re (HK5.out.trans0 hm.keep))
 clear hm HK5
 have pgn:=cell_of Bn.out
 have fgn:=frozen_of Bn.out
 have lgn:=lt_of_heap Bn.out
 go_upto_region 5 with (fail)
 obtain⟨w7,e7,b7,k7⟩:=st2b (y:=.slice vo_w6 (combK 1 T (combK 3 P D)).length vc_w6) Bn.out
 rw [← e7]
 have HM:=jX (HM.out.put Bn.out (by simp) k7 Hgn.out)
 clear pgn fgn lgn e7 k7 Bn
 have pgn:=cell_of b7
 have Bn:=jX b7
 clear b7
 have bz:=jX (HM.out.keep.heap Bgb.out (by simp))
 have pgb:=cell_of bz.out
 have fgb:=frozen_of bz.out
 have lgb:=lt_of_heap bz.out
 go_wp2_with fail
 obtain⟨u9,e9,b9,k9⟩:=st2 (x:=.slice vo_w2 (combK 1 D (combK 3 P D)).length vc_w2) (y:=.slice vo_w6 (combK 1 T (combK 3 P D)).length vc_w6) bz.out
 rw [← e9]
 clear e9 pgb fgb lgb
 have pgb:=cell_of b9
 refine bodyPost_ret (v:=.agg #[.slice vo_w2 (combK 1 D (combK 3 P D)).length vc_w2,.slice vo_w6 (combK 1 T (combK 3 P D)).length vc_w6]) ?_ rfl ⟨_,_,_,_,rfl,MP.fin H0.out.keep HkW.out HM.out bz.out (by simp) (by omega) k9 ?_⟩
 ·rw [results_cell1 rfl];go_simp
 ·intro p hp;simp only [List.mem_cons] at hp ⊢;grind
theorem MP.rextend0 (h:MP S w0 w L) (hD:(.slice da D.length dc,D)∈L) (hT:(.slice ta T.length tc,T)∈L) (hP:(.slice pa P.length pc,P)∈L) :
  Calls Tryz.prog 53 #[.agg #[.slice da D.length dc,.slice ta T.length tc],.slice pa P.length pc,.bool false] w (BolPost S w0 L (combK 1 D P) (combK 2 T (combK 1 D P))):=by
 have H0:=jX h
 have hD:=jX hD
 have hT:=jX hT
 have hP:=jX hP
 clear h
 go_enter Tryz.func53,Tryz.ntmps53
 go_upto_region 1 with (fail)
 obtain⟨W,ga,gb,hW,ega,egb,bga,bgb,hga,hgb,hgW,hkW⟩:=al2 w (.cells #[.slice da D.length dc,.slice ta T.length tc] 29) (.cells #[.slice none 0 0,.slice none 0 0] 29)
 rw [← hW]
 try rw [egb]
 try rw [ega]
 have Bga:=jX bga
 have Bgb:=jX bgb
 have HkW:=jX hkW
 clear hW hkW ega egb bga bgb
 have HM:=jX (H0.out.here.move HkW.out).here
 have pga:=cell_of (HM.out.keep.heap Bga.out (by simp))
 go_wp2_with fail
 refine (HM.out.comb (op:=1) (by simp) (v:=.slice da D.length dc) (a:=D) (u:=.slice pa P.length pc) (b:=P) (by simp [hD.out,hT.out,hP.out]) (by simp [hD.out,hT.out,hP.out])).mono ?_
 rintro e w1 ⟨vo_w1,vc_w1,rfl,hm_w1⟩
 dsimp only
 have HM:=jX hm_w1
 clear hm_w1
 clear pga
 go_wp2_with fail
 refine (HM.out.rmake (D:=combK 1 D P) (T:=T) (by simp) (by simp [hD.out,hT.out,hP.out])).mono ?_
 rintro e w2 ⟨da_w2,dc_w2,ta_w2,tc_w2,rfl,hm_w2⟩
 dsimp only
 have HM:=jX hm_w2
 clear hm_w2
 have bz:=jX (HM.out.keep.heap Bgb.out (by simp))
 have pgb:=cell_of bz.out
 have fgb:=frozen_of bz.out
 have lgb:=lt_of_heap bz.out
 go_wp2_with fail
 obtain⟨u9,e9,b9,k9⟩:=st2 (x:=.slice da_w2 (combK 1 D P).length dc_w2) (y:=.slice ta_w2 (combK 2 T (combK 1 D P)).length tc_w2) bz.out
 rw [← e9]
 clear e9 pgb fgb lgb
 have pgb:=cell_of b9
 refine bodyPost_ret (v:=.agg #[.slice da_w2 (combK 1 D P).length dc_w2,.slice ta_w2 (combK 2 T (combK 1 D P)).length tc_w2]) ?_ rfl ⟨_,_,_,_,rfl,MP.fin H0.out.keep HkW.out HM.out bz.out (by simp) (by omega) k9 ?_⟩
 ·rw [results_cell1 rfl];go_simp
 ·intro p hp;simp only [List.mem_cons] at hp ⊢;grind
theorem MP.rextend1 (h:MP S w0 w L) (hD:(.slice da D.length dc,D)∈L) (hT:(.slice ta T.length tc,T)∈L) (hP:(.slice pa P.length pc,P)∈L) :
  Calls Tryz.prog 53 #[.agg #[.slice da D.length dc,.slice ta T.length tc],.slice pa P.length pc,.bool true] w (BolPost S w0 L (combK 1 D P) (combK 2 (combK 1 T (combK 3 P D)) (combK 1 D P))):=by
 have H0:=jX h
 have hD:=jX hD
 have hT:=jX hT
 have hP:=jX hP
 clear h
 go_enter Tryz.func53,Tryz.ntmps53
 go_upto_region 1 with (fail)
 obtain⟨W,ga,gb,hW,ega,egb,bga,bgb,hga,hgb,hgW,hkW⟩:=al2 w (.cells #[.slice da D.length dc,.slice ta T.length tc] 29) (.cells #[.slice none 0 0,.slice none 0 0] 29)
 rw [← hW]
 try rw [egb]
 try rw [ega]
 have Bga:=jX bga
 have Bgb:=jX bgb
 have HkW:=jX hkW
 clear hW hkW ega egb bga bgb
 have HM:=jX (H0.out.here.move HkW.out).here
 have pga:=cell_of (HM.out.keep.heap Bga.out (by simp))
 go_wp2_with fail
 refine (HM.out.comb (op:=3) (by simp) (v:=.slice pa P.length pc) (a:=P) (u:=.slice da D.length dc) (b:=D) (by simp [hD.out,hT.out,hP.out]) (by simp [hD.out,hT.out,hP.out])).mono ?_
 rintro e w1 ⟨vo_w1,vc_w1,rfl,hm_w1⟩
 dsimp only
 have HM:=jX hm_w1
 clear hm_w1
 clear pga
 go_wp2_with fail
 refine (HM.out.comb (op:=1) (by simp) (v:=.slice ta T.length tc) (a:=T) (u:=.slice vo_w1 (combK 3 P D).length vc_w1) (b:=combK 3 P D) (by simp [hD.out,hT.out,hP.out]) (by simp)).mono ?_
 rintro e w2 ⟨vo_w2,vc_w2,rfl,hm_w2⟩
 dsimp only
 have HM:=jX hm_w2
 clear hm_w2
 have pga:=cell_of (HM.out.keep.heap Bga.out (by simp))
 go_wp2_with fail
 refine (HM.out.comb (op:=1) (by simp) (v:=.slice da D.length dc) (a:=D) (u:=.slice pa P.length pc) (b:=P) (by simp [hD.out,hT.out,hP.out]) (by simp [hD.out,hT.out,hP.out])).mono ?_
 rintro e w3 ⟨vo_w3,vc_w3,rfl,hm_w3⟩
 dsimp only
 have HM:=jX hm_w3
 clear hm_w3
 clear pga
 go_wp2_with fail
 refine (HM.out.rmake (D:=combK 1 D P) (T:=combK 1 T (combK 3 P D)) (by simp) (by simp)).mono ?_
 rintro e w4 ⟨da_w4,dc_w4,ta_w4,tc_w4,rfl,hm_w4⟩
 dsimp only
 have HM:=jX hm_w4
 clear hm_w4
 have bz:=jX (HM.out.keep.heap Bgb.out (by simp))
 have pgb:=cell_of bz.out
 have fgb:=frozen_of bz.out
 have lgb:=lt_of_heap bz.out
 go_wp2_with fail
 obtain⟨u9,e9,b9,k9⟩:=st2 (x:=.slice da_w4 (combK 1 D P).length dc_w4) (y:=.slice ta_w4 (combK 2 (combK 1 T (combK 3 P D)) (combK 1 D P)).length tc_w4) bz.out
 rw [← e9]
 clear e9 pgb fgb lgb
 have pgb:=cell_of b9
 refine bodyPost_ret (v:=.agg #[.slice da_w4 (combK 1 D P).length dc_w4,.slice ta_w4 (combK 2 (combK 1 T (combK 3 P D)) (combK 1 D P)).length tc_w4]) ?_ rfl ⟨_,_,_,_,rfl,MP.fin H0.out.keep HkW.out HM.out bz.out (by simp) (by omega) k9 ?_⟩
 ·rw [results_cell1 rfl];go_simp
 ·intro p hp;simp only [List.mem_cons] at hp ⊢;grind
end
structure PerC (S:List K) (w:World) (v:Value) (P:List (Iv K)):Prop where
 form:∃ ao an ac,v = .slice ao an ac
 nP:Norm P
 call:∀ b u M,Keep [] w b→MP S b u M→Calls Tryz.prog 45 #[v] u (PerPost S b M P)
theorem perC_of {w:World} {v:Value} (h:SpArg w v):∃ l:List K,l.length≤100∧∃ P,∀ S,(∀ x∈l,x∈S)→PerC S w v P:=by
 obtain⟨dl,hd,h9⟩:=h
 refine ⟨ptsL (ivsOf dl),?_,perOf dl,fun S hS=>⟨?_,perOf_norm _,fun b u M hk hm=>hm.period (hd.later hk) h9 hS⟩⟩
 ·have:=ptsOf_len dl
  omega
 ·obtain⟨ao,ac,rfl,_⟩:=hd
  exact ⟨_,_,_,rfl⟩
section
variable {P:Program} {ops:Array Oper} {md:Region.Mode} {S:World→Prop} {Q:Exit→Act→World→Prop}
end
section
variable {S:List K} {w0 w w' W:World} {L M:List (Value × List (Iv K))} {D T E U P:List (Iv K)} {da ta ea ua pa:Option Addr} {dc tc ec uc pc:Nat}
theorem MP.meqT (h:MP S w0 w L) (hD:(.slice da D.length dc,D)∈L) (hT:(.slice ta T.length tc,T)∈L) (hE:(.slice ea E.length ec,E)∈L) (hU:(.slice ua U.length uc,U)∈L) (h1:D=E) (h2:T=U) :
  Calls Tryz.prog 37 #[.agg #[.slice da D.length dc,.slice ta T.length tc],.agg #[.slice ea E.length ec,.slice ua U.length uc]] w (BoolPost S w0 L true):=by
 have:=h.meq hD hT hE hU
 rw [decide_eq_true h1,decide_eq_true h2] at this
 exact this
theorem MP.reqT (h:MP S w0 w L) (hD:(.slice da D.length dc,D)∈L) (hT:(.slice ta T.length tc,T)∈L) (hE:(.slice ea E.length ec,E)∈L) (hU:(.slice ua U.length uc,U)∈L) (h1:D=E) (h2:T=U) :
  Calls Tryz.prog 27 #[.agg #[.slice da D.length dc,.slice ta T.length tc],.agg #[.slice ea E.length ec,.slice ua U.length uc]] w (BoolPost S w0 L true):=by
 have:=h.req hD hT hE hU
 rw [decide_eq_true h1,decide_eq_true h2] at this
 exact this
noncomputable def extT (v:Bool) (T P D:List (Iv K)):List (Iv K):=if v then combK 1 T (combK 3 P D) else T
theorem MP.mext (h:MP S w0 w L) {v:Bool} (hD:(.slice da D.length dc,D)∈L) (hT:(.slice ta T.length tc,T)∈L) (hP:(.slice pa P.length pc,P)∈L) :
  Calls Tryz.prog 51 #[.agg #[.slice da D.length dc,.slice ta T.length tc],.slice pa P.length pc,.bool v] w (BolPost S w0 L (combK 1 D (combK 3 P D)) (extT v T P D)):=by
 cases v
 ·exact h.mextend0 hD hT hP
 ·exact h.mextend1 hD hT hP
theorem MP.rext (h:MP S w0 w L) {v:Bool} (hD:(.slice da D.length dc,D)∈L) (hT:(.slice ta T.length tc,T)∈L) (hP:(.slice pa P.length pc,P)∈L) :
  Calls Tryz.prog 53 #[.agg #[.slice da D.length dc,.slice ta T.length tc],.slice pa P.length pc,.bool v] w (BolPost S w0 L (combK 1 D P) (combK 2 (extT v T P D) (combK 1 D P))):=by
 cases v
 ·exact h.rextend0 hD hT hP
 ·exact h.rextend1 hD hT hP
theorem ext_in (v:Bool) (hN:Norm T) (hT:SubL T D):extT v T P D=combK 2 (extT v T P D) (combK 1 D P):=by
 cases v
 ·exact (mb_ext0 hN hT).symm
 ·exact (mb_ext1 hT).symm
theorem ext_back (v:Bool) (hN:Norm T) (hT:SubL T D):combK 2 (extT v T P D) D=T:=by
 cases v
 ·exact mb_backT hN hT
 ·exact mb_backT1 hN hT
end
theorem movingboolRestricts_c (w:World) (v0 v1 v2:Value) (m0:MovArg w v0) (m1:SpArg w v1) (mb:∃ b,v2 = .bool b):Calls Tryz.prog 11 #[v0,v1,v2] w fun e w'=>e = .returned (.bool true)∧Keep [] w w':=by
 obtain⟨l0,q0,D0,T0,c0⟩:=movC_of m0
 obtain⟨l1,q1,P1,c1⟩:=perC_of m1
 have hS:(l0++l1).length≤1000:=by simp only [List.length_append];omega
 have C0:=c0 (l0++l1) (by simp +contextual)
 have C1:=c1 (l0++l1) (by simp +contextual)
 generalize l0++l1=S at *
 obtain⟨ao0,an0,ac0,bo0,bn0,bc0,rfl⟩:=C0.form
 have nD0:=C0.nD
 have nT0:=C0.nT
 have sT0:=C0.sub
 obtain⟨ao1,an1,ac1,rfl⟩:=C1.form
 have nP1:=C1.nP
 have HC0:=jX C0
 have HC1:=jX C1
 clear m0 q0 c0 C0 m1 q1 c1 C1 l0 l1
 obtain⟨vb,rfl⟩:=mb
 have E1:=jX (mb_restrict (P:=P1) sT0)
 have E2:=jX (mb_more D0 P1)
 have E3:=jX (ext_in (P:=P1) vb nT0 sT0)
 have E4:=jX (mb_back (P:=P1) nD0)
 have E5:=jX (ext_back (P:=P1) vb nT0 sT0)
 have E6:=jX (mb_idem nD0)
 have E7:=jX (mb_backT nT0 sT0)
 go_enter Tryz.func11,Tryz.ntmps11
 go_upto_region 1 with (fail)
 obtain⟨W,ga,hW,ega,bga,hga,hgW,hkW⟩:=al1 w (.cells #[.slice ao0 an0 ac0,.slice bo0 bn0 bc0] 24)
 rw [← hW]
 try rw [ega]
 have Bga:=jX bga
 have HkW:=jX hkW
 clear hW hkW ega bga
 have HM:=jX (MP.start hS W)
 have HK:=jX HkW.out
 clear hS HkW
 have pga:=cell_of Bga.out
 go_wp2_with fail
 refine (HC0.out.call _ _ _ HK.out HM.out).mono ?_
 rintro e w1 ⟨da_w1,dc_w1,ta_w1,tc_w1,rfl,hm⟩
 dsimp only
 clear pga
 have hk:=hm.keep
 have HM:=jX hm.here
 have HK:=jX (HK.out.trans0 hk)
 have Bga:=jX (hk.heap Bga.out (by simp))
 clear hm hk
 have pga:=cell_of Bga.out
 go_wp2_with fail
 refine (HC1.out.call _ _ _ HK.out HM.out).mono ?_
 rintro e w2 ⟨vo_w2,vc_w2,rfl,hm⟩
 dsimp only
 clear pga
 have hk:=hm.keep
 have HM:=jX hm.here
 have HK:=jX (HK.out.trans0 hk)
 have Bga:=jX (hk.heap Bga.out (by simp))
 clear hm hk
 have pga:=cell_of Bga.out
 go_upto_region 2 with (fail)
 clear pga
 obtain⟨w3,g7,e2,e3,b2,h2,_,hk⟩:=al1 w2 (.cells #[.slice da_w1 D0.length dc_w1,.slice ta_w1 T0.length tc_w1] 29)
 rw [← e2,e3]
 clear e2 e3
 have HM:=jX (HM.out.move hk).here
 have HK:=jX (HK.out.trans0 hk)
 have Bga:=jX (hk.heap Bga.out (by simp))
 have Bg7:=jX b2
 clear b2 h2 hk
 clear Bga HC0 HC1
 have pg7:=cell_of Bg7.out
 go_wp2_with fail
 refine (HM.out.mext (ma 1 rfl) (ma 2 rfl) (ma 0 rfl)).mono ?_
 rintro e w4 ⟨da_w4,dc_w4,ta_w4,tc_w4,rfl,hm⟩
 dsimp only
 clear pg7
 have hk:=hm.keep
 have HM:=jX hm.here
 have HK:=jX (HK.out.trans0 hk)
 have Bg7:=jX (hk.heap Bg7.out (by simp))
 clear hm hk
 have pg7:=cell_of Bg7.out
 go_upto_region 3 with (fail)
 clear pg7
 obtain⟨w5,g9,e2,e3,b2,h2,_,hk⟩:=al1 w4 (.cells #[.slice da_w4 (combK 1 D0 (combK 3 P1 D0)).length dc_w4,.slice ta_w4 (extT vb T0 P1 D0).length tc_w4] 29)
 rw [← e2,e3]
 clear e2 e3
 have HM:=jX (HM.out.move hk).here
 have HK:=jX (HK.out.trans0 hk)
 have Bg7:=jX (hk.heap Bg7.out (by simp))
 have Bg9:=jX b2
 clear b2 h2 hk
 refine wp_region_heldT (S:=fun u=>Keep [] w5 u) 34 (by kernel_rfl) (by kernel_rfl) (fun _ _ d _ _ h=>by cases d<;>exact h) ?_
 have hS0:=Keep.drew [] w5
 have HM:=jX (HM.out.move hS0).here
 generalize World.drew w5=u at *
 refine jP 0 (fun K hK=>?_)
 refine wp_enter 20 #[] (by go_simp) ?_
 refine (known12_c _).mono ?_
 rintro e w6 ⟨rfl,hk⟩
 have HM:=jX (HM.out.move hk).here
 have hS0:=hS0.trans0 hk
 refine ⟨_,rfl,?_⟩
 go_simp
 refine hK _ _ hS0 ?_
 clear hK K hk
 refine' jG (v:=_) 1 hS0 (fun w hw=>?hrunr31) (fun K hK=>?hnextr31)
 case hrunr31=>(skip;go_simp;try rfl)
 go_simp
 refine hK _ ?_
 clear hK K
 refine' jG (v:=_) 2 hS0 (fun w hw=>?hrunr32) (fun K hK=>?hnextr32)
 case hrunr32=>(have pg7:=cell_of (hw.heap Bg7.out (by simp));go_simp;try rfl)
 go_simp
 refine hK _ ?_
 clear hK K
 refine' jG (v:=_) 3 hS0 (fun w hw=>?hrunr33) (fun K hK=>?hnextr33)
 case hrunr33=>(skip;go_simp;try rfl)
 go_simp
 refine hK _ ?_
 clear hK K
 refine' jG (v:=_) 5 hS0 (fun w hw=>?hrunr35) (fun K hK=>?hnextr35)
 case hrunr35=>(have pg7:=cell_of (hw.heap Bg7.out (by simp));go_simp;try rfl)
 go_simp
 refine hK _ ?_
 clear hK K
 refine' jG (v:=_) 6 hS0 (fun w hw=>?hrunr36) (fun K hK=>?hnextr36)
 case hrunr36=>(skip;go_simp;try rfl)
 go_simp
 refine hK _ ?_
 clear hK K
 refine jP 4 (fun K hK=>?_)
 refine wp_enter 52 #[.agg #[.slice da_w1 D0.length dc_w1,.slice ta_w1 T0.length tc_w1],.slice vo_w2 P1.length vc_w2] (by go_simp) ?_
 refine (HM.out.mrestrict (ma 3 rfl) (ma 4 rfl) (ma 2 rfl)).mono ?_
 rintro e w7 ⟨da_w7,dc_w7,ta_w7,tc_w7,rfl,hm_w7⟩
 have hk:=hm_w7.keep
 have HM:=jX hm_w7.here
 clear hm_w7
 have hS0:=hS0.trans0 hk
 refine ⟨_,rfl,?_⟩
 go_simp
 refine hK _ _ hS0 ?_
 clear hK K hk
 refine jP 7 (fun K hK=>?_)
 refine wp_enter 49 #[.agg #[.slice da_w1 D0.length dc_w1,.slice ta_w1 T0.length tc_w1],.slice vo_w2 P1.length vc_w2] (by go_simp) ?_
 refine (HM.out.rrestrict (ma 5 rfl) (ma 6 rfl) (ma 4 rfl)).mono ?_
 rintro e w8 ⟨da_w8,dc_w8,ta_w8,tc_w8,rfl,hm_w8⟩
 have hk:=hm_w8.keep
 have HM:=jX hm_w8.here
 clear hm_w8
 have hS0:=hS0.trans0 hk
 refine ⟨_,rfl,?_⟩
 go_simp
 refine hK _ _ hS0 ?_
 clear hK K hk
 refine jP 8 (fun K hK=>?_)
 refine wp_enter 27 #[.agg #[.slice da_w7 (combK 2 D0 P1).length dc_w7,.slice ta_w7 (combK 2 T0 P1).length tc_w7],.agg #[.slice da_w8 (combK 2 D0 P1).length dc_w8,.slice ta_w8 (combK 2 T0 (combK 2 D0 P1)).length tc_w8]] (by go_simp) ?_
 refine (HM.out.reqT (ma 2 rfl) (ma 3 rfl) (ma 0 rfl) (ma 1 rfl) rfl E1.out).mono ?_
 rintro e w9 ⟨rfl,hm_w9⟩
 have hk:=hm_w9.keep
 have HM:=jX hm_w9.here
 clear hm_w9
 have hS0:=hS0.trans0 hk
 refine ⟨_,rfl,?_⟩
 go_simp
 refine hK _ _ hS0 ?_
 clear hK K hk
 refine' jG (v:=_) 9 hS0 (fun w hw=>?hrunr39) (fun K hK=>?hnextr39)
 case hrunr39=>(skip;go_simp;try rfl)
 go_simp
 refine hK _ ?_
 clear hK K
 refine' jG (v:=_) 10 hS0 (fun w hw=>?hrunr310) (fun K hK=>?hnextr310)
 case hrunr310=>(skip;go_simp;try rfl)
 go_simp
 refine hK _ ?_
 clear hK K
 refine' jG (v:=_) 11 hS0 (fun w hw=>?hrunr311) (fun K hK=>?hnextr311)
 case hrunr311=>(have pg9:=cell_of (hw.heap Bg9.out (by simp));go_simp;try rfl)
 go_simp
 refine hK _ ?_
 clear hK K
 refine' jG (v:=_) 12 hS0 (fun w hw=>?hrunr312) (fun K hK=>?hnextr312)
 case hrunr312=>(have pg7:=cell_of (hw.heap Bg7.out (by simp));go_simp;try rfl)
 go_simp
 refine hK _ ?_
 clear hK K
 refine' jG (v:=_) 13 hS0 (fun w hw=>?hrunr313) (fun K hK=>?hnextr313)
 case hrunr313=>(skip;go_simp;try rfl)
 go_simp
 refine hK _ ?_
 clear hK K
 refine' jG (v:=_) 14 hS0 (fun w hw=>?hrunr314) (fun K hK=>?hnextr314)
 case hrunr314=>(skip;go_simp;try rfl)
 go_simp
 refine hK _ ?_
 clear hK K
 refine jP 15 (fun K hK=>?_)
 refine wp_enter 53 #[.agg #[.slice da_w1 D0.length dc_w1,.slice ta_w1 T0.length tc_w1],.slice vo_w2 P1.length vc_w2,.bool vb] (by go_simp) ?_
 refine (HM.out.rext (ma 7 rfl) (ma 8 rfl) (ma 6 rfl)).mono ?_
 rintro e w10 ⟨da_w10,dc_w10,ta_w10,tc_w10,rfl,hm_w10⟩
 have hk:=hm_w10.keep
 have HM:=jX hm_w10.here
 clear hm_w10
 have hS0:=hS0.trans0 hk
 refine ⟨_,rfl,?_⟩
 go_simp
 refine hK _ _ hS0 ?_
 clear hK K hk
 refine jP 16 (fun K hK=>?_)
 refine wp_enter 27 #[.agg #[.slice da_w4 (combK 1 D0 (combK 3 P1 D0)).length dc_w4,.slice ta_w4 (extT vb T0 P1 D0).length tc_w4],.agg #[.slice da_w10 (combK 1 D0 P1).length dc_w10,.slice ta_w10 (combK 2 (extT vb T0 P1 D0) (combK 1 D0 P1)).length tc_w10]] (by go_simp) ?_
 refine (HM.out.reqT (ma 6 rfl) (ma 7 rfl) (ma 0 rfl) (ma 1 rfl) E2.out E3.out).mono ?_
 rintro e w11 ⟨rfl,hm_w11⟩
 have hk:=hm_w11.keep
 have HM:=jX hm_w11.here
 clear hm_w11
 have hS0:=hS0.trans0 hk
 refine ⟨_,rfl,?_⟩
 go_simp
 refine hK _ _ hS0 ?_
 clear hK K hk
 refine' jG (v:=_) 17 hS0 (fun w hw=>?hrunr317) (fun K hK=>?hnextr317)
 case hrunr317=>(skip;go_simp;try rfl)
 go_simp
 refine hK _ ?_
 clear hK K
 refine' jG (v:=_) 18 hS0 (fun w hw=>?hrunr318) (fun K hK=>?hnextr318)
 case hrunr318=>(skip;go_simp;try rfl)
 go_simp
 refine hK _ ?_
 clear hK K
 refine' jG (v:=_) 19 hS0 (fun w hw=>?hrunr319) (fun K hK=>?hnextr319)
 case hrunr319=>(have pg9:=cell_of (hw.heap Bg9.out (by simp));go_simp;try rfl)
 go_simp
 refine hK _ ?_
 clear hK K
 refine' jG (v:=_) 20 hS0 (fun w hw=>?hrunr320) (fun K hK=>?hnextr320)
 case hrunr320=>(skip;go_simp;try rfl)
 go_simp
 refine hK _ ?_
 clear hK K
 refine' jG (v:=_) 21 hS0 (fun w hw=>?hrunr321) (fun K hK=>?hnextr321)
 case hrunr321=>(have pg7:=cell_of (hw.heap Bg7.out (by simp));go_simp;try rfl)
 go_simp
 refine hK _ ?_
 clear hK K
 refine' jG (v:=_) 23 hS0 (fun w hw=>?hrunr323) (fun K hK=>?hnextr323)
 case hrunr323=>(have pg7:=cell_of (hw.heap Bg7.out (by simp));go_simp;try rfl)
 go_simp
 refine hK _ ?_
 clear hK K
 refine jP 22 (fun K hK=>?_)
 refine wp_enter 52 #[.agg #[.slice da_w4 (combK 1 D0 (combK 3 P1 D0)).length dc_w4,.slice ta_w4 (extT vb T0 P1 D0).length tc_w4],.slice da_w1 D0.length dc_w1] (by go_simp) ?_
 refine (HM.out.mrestrict (ma 6 rfl) (ma 7 rfl) (ma 9 rfl)).mono ?_
 rintro e w12 ⟨da_w12,dc_w12,ta_w12,tc_w12,rfl,hm_w12⟩
 have hk:=hm_w12.keep
 have HM:=jX hm_w12.here
 clear hm_w12
 have hS0:=hS0.trans0 hk
 refine ⟨_,rfl,?_⟩
 go_simp
 refine hK _ _ hS0 ?_
 clear hK K hk
 refine jP 24 (fun K hK=>?_)
 refine wp_enter 37 #[.agg #[.slice da_w12 (combK 2 (combK 1 D0 (combK 3 P1 D0)) D0).length dc_w12,.slice ta_w12 (combK 2 (extT vb T0 P1 D0) D0).length tc_w12],.agg #[.slice da_w1 D0.length dc_w1,.slice ta_w1 T0.length tc_w1]] (by go_simp) ?_
 refine (HM.out.meqT (ma 0 rfl) (ma 1 rfl) (ma 11 rfl) (ma 12 rfl) E4.out E5.out).mono ?_
 rintro e w13 ⟨rfl,hm_w13⟩
 have hk:=hm_w13.keep
 have HM:=jX hm_w13.here
 clear hm_w13
 have hS0:=hS0.trans0 hk
 refine ⟨_,rfl,?_⟩
 go_simp
 refine hK _ _ hS0 ?_
 clear hK K hk
 refine' jG (v:=_) 25 hS0 (fun w hw=>?hrunr325) (fun K hK=>?hnextr325)
 case hrunr325=>(skip;go_simp;try rfl)
 go_simp
 refine hK _ ?_
 clear hK K
 refine' jG (v:=_) 26 hS0 (fun w hw=>?hrunr326) (fun K hK=>?hnextr326)
 case hrunr326=>(skip;go_simp;try rfl)
 go_simp
 refine hK _ ?_
 clear hK K
 refine' jG (v:=_) 27 hS0 (fun w hw=>?hrunr327) (fun K hK=>?hnextr327)
 case hrunr327=>(have pg7:=cell_of (hw.heap Bg7.out (by simp));go_simp;try rfl)
 go_simp
 refine hK _ ?_
 clear hK K
 refine' jG (v:=_) 28 hS0 (fun w hw=>?hrunr328) (fun K hK=>?hnextr328)
 case hrunr328=>(skip;go_simp;try rfl)
 go_simp
 refine hK _ ?_
 clear hK K
 refine' jG (v:=_) 29 hS0 (fun w hw=>?hrunr329) (fun K hK=>?hnextr329)
 case hrunr329=>(have pg7:=cell_of (hw.heap Bg7.out (by simp));go_simp;try rfl)
 go_simp
 refine hK _ ?_
 clear hK K
 refine' jG (v:=_) 31 hS0 (fun w hw=>?hrunr331) (fun K hK=>?hnextr331)
 case hrunr331=>(have pg7:=cell_of (hw.heap Bg7.out (by simp));go_simp;try rfl)
 go_simp
 refine hK _ ?_
 clear hK K
 refine jP 30 (fun K hK=>?_)
 refine wp_enter 52 #[.agg #[.slice da_w1 D0.length dc_w1,.slice ta_w1 T0.length tc_w1],.slice da_w1 D0.length dc_w1] (by go_simp) ?_
 refine (HM.out.mrestrict (ma 11 rfl) (ma 12 rfl) (ma 11 rfl)).mono ?_
 rintro e w14 ⟨da_w14,dc_w14,ta_w14,tc_w14,rfl,hm_w14⟩
 have hk:=hm_w14.keep
 have HM:=jX hm_w14.here
 clear hm_w14
 have hS0:=hS0.trans0 hk
 refine ⟨_,rfl,?_⟩
 go_simp
 refine hK _ _ hS0 ?_
 clear hK K hk
 refine jP 32 (fun K hK=>?_)
 refine wp_enter 37 #[.agg #[.slice da_w14 (combK 2 D0 D0).length dc_w14,.slice ta_w14 (combK 2 T0 D0).length tc_w14],.agg #[.slice da_w1 D0.length dc_w1,.slice ta_w1 T0.length tc_w1]] (by go_simp) ?_
 refine (HM.out.meqT (ma 0 rfl) (ma 1 rfl) (ma 13 rfl) (ma 14 rfl) E6.out E7.out).mono ?_
 rintro e w15 ⟨rfl,hm_w15⟩
 have hk:=hm_w15.keep
 have HM:=jX hm_w15.here
 clear hm_w15
 have hS0:=hS0.trans0 hk
 refine ⟨_,rfl,?_⟩
 go_simp
 refine hK _ _ hS0 ?_
 clear hK K hk
 refine' jG (v:=_) 33 hS0 (fun w hw=>?hrunr333) (fun K hK=>?hnextr333)
 case hrunr333=>(skip;go_simp;try rfl)
 go_simp
 refine hK _ ?_
 clear hK K
 refine ⟨by kernel_rfl,?_⟩
 simp only [List.drop_succ_cons,List.drop_zero]
 have HK:=jX (HK.out.trans0 hS0)
 have Bg7:=jX (hS0.heap Bg7.out (by simp))
 have Bg9:=jX (hS0.heap Bg9.out (by simp))
 clear hS0
 go_wp2_with fail
 go_ret
 exact ⟨rfl,HK.out⟩
end Go.Proofs.YtejegogbhpmgfaaGreatDoor
