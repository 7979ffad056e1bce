/- Parts of a proof about this translation: Sx@6, Vb@6, Mb@6, Vd@6, Me@6, Mi@6, Mj@6, Ml@6, Ga@6, H6@6. -/
import Derived.Test.YtejegogbhpmgfaaGreatDoorA32
import Derived.Test.YtejegogbhpmgfaaGreatDoorA33
import Derived.Test.YtejegogbhpmgfaaGreatDoorA34
import Derived.Test.YtejegogbhpmgfaaGreatDoorA35
import Derived.Test.YtejegogbhpmgfaaGreatDoorA30
import Derived.Test.YtejegogbhpmgfaaGreatDoorA38
import Derived.Test.YtejegogbhpmgfaaGreatDoorA37
set_option linter.unusedVariables false
set_option linter.unusedSimpArgs false
set_option maxRecDepth 100000
set_option maxHeartbeats 8000000
namespace Go.Proofs.YtejegogbhpmgfaaGreatDoor
open Go.RowKit
open Classical
theorem equal_c (l m:List (Iv K)) (w:World) (sv tv:Value) (hr:IvR w sv l) (hs:IvR w tv m) (h9:l.length≤1000000000) (h8:m.length≤1000000000) :
  Calls Tryz.prog 21 #[sv,tv] w fun e w'=>e = .returned (.bool (decide (l=m)))∧Keep [] w w':=by
 have HR:=jX hr
 have HS:=jX hs
 obtain⟨ao,ac,rfl,_⟩:=hr.form
 obtain⟨bo,bc,rfl,_⟩:=hs.form
 clear hr hs
 by_cases hlen:l.length=m.length
 ·have hne:((l.length:Int) != (m.length:Int))=false:=by rw [hlen];simp
  have Hlen:=jX hlen
  clear hlen
  go_enter Tryz.func21,Tryz.ntmps21
  go_wp2_with fail
  go_loopw [5] (fun c wr=>∃ k:Nat,k≤l.length∧c = .int .i64 (k:Int)∧l.take k=m.take k∧Keep [] w wr) (fun c _=>l.length-(intOf c).toNat)
  case atStart=>exact ⟨0,Nat.zero_le _,rfl,rfl,Keep.refl _ _⟩
  case round =>
   obtain⟨k,hk,rfl,heq,hkeep⟩:=hrel
   have Heq:=jX heq
   have HKr:=jX hkeep
   clear heq hkeep
   by_cases hlt:k<l.length
   ·have hlt2:k<m.length:=by rw [← Hlen.out];exact hlt
    obtain⟨g,o,rfl,hg,hat⟩:=IvR.elem (HR.out.later HKr.out) k hlt
    obtain⟨g2,o2,rfl,hg2,hat2⟩:=IvR.elem (HS.out.later HKr.out) k hlt2
    obtain⟨i,hi⟩:∃ i,l[k]=i:=⟨_,rfl⟩
    obtain⟨j,hj⟩:∃ j,m[k]=j:=⟨_,rfl⟩
    have Hi:=jX hi
    have Hj:=jX hj
    rw [hi] at hat
    rw [hj] at hat2
    clear hi hj
    obtain⟨p,hp⟩:∃ p,o+k*20=p:=⟨_,rfl⟩
    obtain⟨q,hq⟩:∃ q,o2+k*20=q:=⟨_,rfl⟩
    rw [hp] at hat
    rw [hq] at hat2
    have HLa:=jX (hat.ld hg)
    have HLb:=jX (hat2.ld hg2)
    have HN:=jX (neqI_run i j)
    clear hat hat2
    unfold iv at *
    generalize iC i=I at *
    generalize iC j=J at *
    by_cases hij:i=j
    ·rw [decide_eq_true hij] at HN
     have Hij:=jX hij
     clear hij
     go_wp2_with fail
     refine wp_region_keep (by kernel_rfl) (by kernel_rfl) ?_
     repeat (first
      | go_big_quiet_skip
      | (go_big_quiet_want;first
       | (refine quiet_load _ _ _ (.agg I) rfl rfl (by rintro _ ⟨m,rfl⟩;exact HLa.out m) ?_;go_simp;go_big_quiet_on)|(refine quiet_load _ _ _ (.agg J) rfl rfl (by rintro _ ⟨m,rfl⟩;exact HLb.out m) ?_;go_simp;go_big_quiet_on)|(refine quiet_bin _ _ _ _ _ _ _ (_) rfl rfl rfl eqI_g (by intro w;exact HN.out w) ?_;go_simp;go_big_quiet_on)
       | (go_big_quiet_op;first|go_big_quiet_on|go_big_quiet_call (first
        | fail))))
     refine wpQuiet_nil ?_
     rintro w1 ⟨⟨_,hk_w1⟩,rfl⟩
     clear HLa HLb HN
     have Hk1:=jX hk_w1
     clear hk_w1
     go_wp2_with fail
     go_roundw
     case rel=>exact ⟨k+1,by omega,congrArg (Value.int .i64) (by omega),by rw [List.take_succ_eq_append_getElem hlt,List.take_succ_eq_append_getElem hlt2,Heq.out,Hi.out,Hj.out,Hij.out],HKr.out.trans0 Hk1.out⟩
     case measure=>simp [intOf];omega
    ·rw [decide_eq_false hij] at HN
     have Hij:=jX hij
     clear hij
     go_wp2_with fail
     refine wp_region_keep (by kernel_rfl) (by kernel_rfl) ?_
     repeat (first
      | go_big_quiet_skip
      | (go_big_quiet_want;first
       | (refine quiet_load _ _ _ (.agg I) rfl rfl (by rintro _ ⟨m,rfl⟩;exact HLa.out m) ?_;go_simp;go_big_quiet_on)|(refine quiet_load _ _ _ (.agg J) rfl rfl (by rintro _ ⟨m,rfl⟩;exact HLb.out m) ?_;go_simp;go_big_quiet_on)|(refine quiet_bin _ _ _ _ _ _ _ (_) rfl rfl rfl eqI_g (by intro w;exact HN.out w) ?_;go_simp;go_big_quiet_on)
       | (go_big_quiet_op;first|go_big_quiet_on|go_big_quiet_call (first
        | fail))))
     refine wpQuiet_nil ?_
     rintro w1 ⟨⟨_,hk_w1⟩,rfl⟩
     clear HLa HLb HN
     have Hk1:=jX hk_w1
     clear hk_w1
     go_wp2_with fail
     go_ret
     have hno:l≠m:=fun e=>Hij.out (by rw [← Hi.out,← Hj.out];simp only [e])
     exact ⟨by rw [decide_eq_false hno];rfl,HKr.out.trans0 Hk1.out⟩
   ·obtain rfl:k=l.length:=by omega
    go_wp2_with fail
    go_ret
    have he:l=m:=by
     have:=Heq.out
     rw [List.take_length,Hlen.out,List.take_length] at this
     exact this
    exact ⟨by rw [decide_eq_true he];rfl,HKr.out⟩
 ·have hne:((l.length:Int) != (m.length:Int))=true:=by rw [bne_iff_ne];omega
  have hno:l≠m:=fun e=>hlen (by rw [e])
  rw [decide_eq_false hno]
  clear hno hlen
  go_enter Tryz.func21,Tryz.ntmps21
  go_wp2_with fail
  go_ret
  exact ⟨rfl,Keep.refl _ _⟩
section
variable {S:List K} {w0 w w':World} {L:List (Value × List (Iv K))}
variable {v u:Value} {a b:List (Iv K)}
end
theorem comb_ext {op op':Int} {a b a' b':List (Iv K)} (h:∀ x,decV op (hasL a x) (hasL b x)=decV op' (hasL a' x) (hasL b' x)):combK op a b=combK op' a' b' :=
 combK_eq (combK_norm _ _ _) (fun x=>by rw [combK_has,h])
theorem alg1 (a b:List (Iv K)):combK 2 a b=combK 2 b a:=comb_ext fun x=>by rw [dec2,dec2,Bool.and_comm]
end Go.Proofs.YtejegogbhpmgfaaGreatDoor
namespace Go.Proofs.YtejegogbhpmgfaaGreatDoor
section
variable {D T E U G V P:List (Iv K)}
theorem mb_not (hT:SubL T D):combK 2 (combK 3 D T) D=combK 3 D T:=comb_ext fun x=>by
 simp only [combK_has,dec1,dec2,dec3]
 cases hasL D x<;>cases hasL T x<;>rfl
theorem mb_differ (T U d:List (Iv K)):combK 2 d (combK 1 (combK 3 T U) (combK 3 U T))=combK 2 (combK 3 (combK 1 T U) (combK 2 T U)) d:=comb_ext fun x=>by
 simp only [combK_has,dec1,dec2,dec3]
 cases hasL d x<;>cases hasL T x<;>cases hasL U x<;>rfl
end
end Go.Proofs.YtejegogbhpmgfaaGreatDoor
namespace Go.Proofs.YtejegogbhpmgfaaGreatDoor
open Go.RowKit
open Go.ChangeShapes Go.WideShapes Go.ChangeAt
def InsArg (_:World) (v:Value):Prop:=∃ a:InsA,v=a.v
theorem InsArg_open {H:Type} {enc:TypeId × Value→H} {W:World} {v:Value} {base:Nat} {d:DataW H} {p:List MemPlace} (hv:Value.okWide Tryz.prog W .any base 26 v)
  (h:∃ m,DataW.trod enc Tryz.prog W 0 (fun _=>true) true m 26 v.cells.toList=some (d,p)):InsArg W v:=by
 obtain⟨m,hm⟩:=h
 obtain⟨a,ha⟩:=ins_trod hm
 exact ⟨a,agg_of_cells ha (by simp)⟩
end Go.Proofs.YtejegogbhpmgfaaGreatDoor
namespace Go.Proofs.YtejegogbhpmgfaaGreatDoor
open Go.RowKit
open Classical
section
variable {S:List K} {w0 w w' W:World} {L M:List (Value × List (Iv K))}
variable {v u:Value} {a b:List (Iv K)}
theorem MP.eqd (h:MP S w0 w L) (hv:(v,a)∈L) (hu:(u,b)∈L):Calls Tryz.prog 21 #[v,u] w (BoolPost S w0 L (decide (a=b))) :=
 boolPost_of h (equal_c a b w v u (h.get hv) (h.get hu) (by have:=h.len hv;omega) (by have:=h.len hu;omega))
end
section
variable {S:List K} {w0 w:World} {L:List (Value × List (Iv K))} {D T E U P:List (Iv K)} {da ta ea ua pa:Option Addr} {dc tc ec uc pc:Nat}
theorem MP.mfalse (h:MP S w0 w L) (hD:(.slice da D.length dc,D)∈L) (hT:(.slice ta T.length tc,T)∈L) :
  Calls Tryz.prog 19 #[.agg #[.slice da D.length dc,.slice ta T.length tc]] w (PerPost S w0 L (combK 3 D T)):=by
 have H0:=jX h
 have hD:=jX hD
 have hT:=jX hT
 clear h
 go_enter Tryz.func19,Tryz.ntmps19
 go_upto_region 1 with (fail)
 obtain⟨W,ga,hW,ega,bga,hga,hgW,hkW⟩:=al1 w (.cells #[.slice da D.length dc,.slice ta T.length tc] 29)
 rw [← hW]
 try rw [ega]
 have Bga:=jX bga
 have HkW:=jX hkW
 clear hW hkW ega bga
 have HM:=jX (H0.out.here.move HkW.out).here
 have pga:=cell_of Bga.out
 go_wp2_with fail
 refine (HM.out.minus (v:=.slice da D.length dc) (a:=D) (u:=.slice ta T.length tc) (b:=T) (by simp [hD.out,hT.out]) (by simp [hD.out,hT.out])).mono ?_
 rintro e w1 ⟨vo_w1,vc_w1,rfl,hm_w1⟩
 dsimp only
 have HM:=jX hm_w1
 clear hm_w1
 go_wp2_with fail
 go_ret
 exact ⟨_,_,rfl,⟨⟨H0.out.keep.trans0 (HkW.out.trans0 HM.out.keep),HM.out.mi.2⟩,HM.out.per,HM.out.few⟩⟩
end
section
variable {S:List K} {w0 w:World} {L:List (Value × List (Iv K))} {D T E U P:List (Iv K)} {da ta ea ua pa:Option Addr} {dc tc ec uc pc:Nat}
theorem MP.rfalse (h:MP S w0 w L) (hD:(.slice da D.length dc,D)∈L) (hT:(.slice ta T.length tc,T)∈L) :
  Calls Tryz.prog 22 #[.agg #[.slice da D.length dc,.slice ta T.length tc]] w (PerPost S w0 L (combK 3 D T)):=by
 have H0:=jX h
 have hD:=jX hD
 have hT:=jX hT
 clear h
 go_enter Tryz.func22,Tryz.ntmps22
 go_upto_region 1 with (fail)
 obtain⟨W,ga,hW,ega,bga,hga,hgW,hkW⟩:=al1 w (.cells #[.slice da D.length dc,.slice ta T.length tc] 29)
 rw [← hW]
 try rw [ega]
 have Bga:=jX bga
 have HkW:=jX hkW
 clear hW hkW ega bga
 have HM:=jX (H0.out.here.move HkW.out).here
 have pga:=cell_of (HM.out.keep.heap Bga.out (by simp))
 go_wp2_with fail
 refine (HM.out.comb (op:=3) (by simp) (v:=.slice da D.length dc) (a:=D) (u:=.slice ta T.length tc) (b:=T) (by simp [hD.out,hT.out]) (by simp [hD.out,hT.out])).mono ?_
 rintro e w1 ⟨vo_w1,vc_w1,rfl,hm_w1⟩
 dsimp only
 have HM:=jX hm_w1
 clear hm_w1
 clear pga
 go_wp2_with fail
 go_ret
 exact ⟨_,_,rfl,⟨⟨H0.out.keep.trans0 (HkW.out.trans0 HM.out.keep),HM.out.mi.2⟩,HM.out.per,HM.out.few⟩⟩
theorem MP.mor (h:MP S w0 w L) (hD:(.slice da D.length dc,D)∈L) (hT:(.slice ta T.length tc,T)∈L) (hE:(.slice ea E.length ec,E)∈L) (hU:(.slice ua U.length uc,U)∈L) :
  Calls Tryz.prog 30 #[.agg #[.slice da D.length dc,.slice ta T.length tc],.agg #[.slice ea E.length ec,.slice ua U.length uc]] w (BolPost S w0 L (combK 2 D E) (combK 2 (combK 2 D E) (combK 1 T U))):=by
 have H0:=jX h
 have hD:=jX hD
 have hT:=jX hT
 have hE:=jX hE
 have hU:=jX hU
 clear h
 go_enter Tryz.func30,Tryz.ntmps30
 go_upto_region 1 with (fail)
 obtain⟨W,ga,gb,gc,hW,ega,egb,egc,bga,bgb,bgc,hga,hgb,hgc,hgW,hkW⟩:=al3 w (.cells #[.slice da D.length dc,.slice ta T.length tc] 29) (.cells #[.slice ea E.length ec,.slice ua U.length uc] 29) (.cells #[.slice none 0 0,.slice none 0 0] 29)
 rw [← hW]
 try rw [egc]
 try rw [egb]
 try rw [ega]
 have Bga:=jX bga
 have Bgb:=jX bgb
 have Bgc:=jX bgc
 have HkW:=jX hkW
 clear hW hkW ega egb egc bga bgb bgc
 have HM:=jX (H0.out.here.move HkW.out).here
 refine wp_region_heldT (S:=fun u=>Keep [] W u) 8 (by kernel_rfl) (by kernel_rfl) (fun _ _ d _ _ h=>by cases d<;>exact h) ?_
 have HM:=jX (HM.out.move (Keep.drew [] W))
 generalize World.drew W=u at *
 have hS0:=HM.out.keep
 refine' jV (v:=_) 0 hS0 (fun w hw=>?hf0) (fun K hK=>?kf0)
 case hf0=>(have pga:=cell_of (hw.heap Bga.out (by simp));have pgb:=cell_of (hw.heap Bgb.out (by simp));go_simp;try rfl)
 go_simp
 refine hK _ ?_
 clear hK K
 refine' jV (v:=_) 1 hS0 (fun w hw=>?hf1) (fun K hK=>?kf1)
 case hf1=>(have pga:=cell_of (hw.heap Bga.out (by simp));have pgb:=cell_of (hw.heap Bgb.out (by simp));go_simp;try rfl)
 go_simp
 refine hK _ ?_
 clear hK K
 refine' jV (v:=_) 2 hS0 (fun w hw=>?hf2) (fun K hK=>?kf2)
 case hf2=>(have pga:=cell_of (hw.heap Bga.out (by simp));have pgb:=cell_of (hw.heap Bgb.out (by simp));go_simp;try rfl)
 go_simp
 refine hK _ ?_
 clear hK K
 refine' jV (v:=_) 3 hS0 (fun w hw=>?hf3) (fun K hK=>?kf3)
 case hf3=>(have pga:=cell_of (hw.heap Bga.out (by simp));have pgb:=cell_of (hw.heap Bgb.out (by simp));go_simp;try rfl)
 go_simp
 refine hK _ ?_
 clear hK K
 refine' jV (v:=_) 4 hS0 (fun w hw=>?hf4) (fun K hK=>?kf4)
 case hf4=>(have pga:=cell_of (hw.heap Bga.out (by simp));have pgb:=cell_of (hw.heap Bgb.out (by simp));go_simp;try rfl)
 go_simp
 refine hK _ ?_
 clear hK K
 refine' jV (v:=_) 5 hS0 (fun w hw=>?hf5) (fun K hK=>?kf5)
 case hf5=>(have pga:=cell_of (hw.heap Bga.out (by simp));have pgb:=cell_of (hw.heap Bgb.out (by simp));go_simp;try rfl)
 go_simp
 refine hK _ ?_
 clear hK K
 refine jO 6 (fun K hK=>?_)
 refine wp_enter 70 #[.slice ta T.length tc,.slice ua U.length uc] (by go_simp) ?_
 refine (HM.out.union (v:=.slice ta T.length tc) (a:=T) (u:=.slice ua U.length uc) (b:=U) (by simp [hD.out,hT.out,hE.out,hU.out]) (by simp [hD.out,hT.out,hE.out,hU.out])).mono ?_
 rintro e w1 ⟨vo_w1,vc_w1,rfl,hm_w1⟩
 have HM:=jX hm_w1
 clear hm_w1
 refine ⟨_,rfl,?_⟩
 have hS0:=HM.out.keep
 go_simp
 refine hK _ _ hS0 ?_
 clear hK K
 refine jO 7 (fun K hK=>?_)
 refine wp_enter 72 #[.agg #[.slice da D.length dc,.slice ta T.length tc],.agg #[.slice ea E.length ec,.slice ua U.length uc],.slice vo_w1 (combK 1 T U).length vc_w1] (by go_simp) ?_
 refine (HM.out.mlift (D:=D) (T:=T) (E:=E) (U:=U) (P:=combK 1 T U) (by simp [hD.out,hT.out,hE.out,hU.out]) (by simp [hD.out,hT.out,hE.out,hU.out]) (by simp [hD.out,hT.out,hE.out,hU.out]) (by simp [hD.out,hT.out,hE.out,hU.out]) (by simp [hD.out,hT.out,hE.out,hU.out])).mono ?_
 rintro e w2 ⟨da_w2,dc_w2,ta_w2,tc_w2,rfl,hm_w2⟩
 have HM:=jX hm_w2
 clear hm_w2
 refine ⟨_,rfl,?_⟩
 have hS0:=HM.out.keep
 go_simp
 refine hK _ _ hS0 ?_
 clear hK K
 refine ⟨by kernel_rfl,?_⟩
 simp only [List.drop_succ_cons,List.drop_zero]
 have bz:=jX (HM.out.keep.heap Bgc.out (by simp))
 have pgc:=cell_of bz.out
 have fgc:=frozen_of bz.out
 have lgc:=lt_of_heap bz.out
 go_wp2_with fail
 obtain⟨u9,e9,b9,k9⟩:=st2 (x:=.slice da_w2 (combK 2 D E).length dc_w2) (y:=.slice ta_w2 (combK 2 (combK 2 D E) (combK 1 T U)).length tc_w2) bz.out
 rw [← e9]
 clear e9 pgc fgc lgc
 have pgc:=cell_of b9
 refine bodyPost_ret (v:=.agg #[.slice da_w2 (combK 2 D E).length dc_w2,.slice ta_w2 (combK 2 (combK 2 D E) (combK 1 T U)).length tc_w2]) ?_ rfl ⟨_,_,_,_,rfl,MP.fin H0.out.keep HkW.out HM.out bz.out (by simp) (by omega) k9 ?_⟩
 ·rw [results_cell1 rfl];go_simp
 ·intro p hp;simp only [List.mem_cons] at hp ⊢;grind
theorem MP.mdiffer (h:MP S w0 w L) (hD:(.slice da D.length dc,D)∈L) (hT:(.slice ta T.length tc,T)∈L) (hE:(.slice ea E.length ec,E)∈L) (hU:(.slice ua U.length uc,U)∈L) :
  Calls Tryz.prog 31 #[.agg #[.slice da D.length dc,.slice ta T.length tc],.agg #[.slice ea E.length ec,.slice ua U.length uc]] w (BolPost S w0 L (combK 2 D E) (combK 2 (combK 2 D E) (combK 1 (combK 3 T U) (combK 3 U T)))):=by
 have H0:=jX h
 have hD:=jX hD
 have hT:=jX hT
 have hE:=jX hE
 have hU:=jX hU
 clear h
 go_enter Tryz.func31,Tryz.ntmps31
 go_upto_region 1 with (fail)
 obtain⟨W,ga,gb,gc,hW,ega,egb,egc,bga,bgb,bgc,hga,hgb,hgc,hgW,hkW⟩:=al3 w (.cells #[.slice da D.length dc,.slice ta T.length tc] 29) (.cells #[.slice ea E.length ec,.slice ua U.length uc] 29) (.cells #[.slice none 0 0,.slice none 0 0] 29)
 rw [← hW]
 try rw [egc]
 try rw [egb]
 try rw [ega]
 have Bga:=jX bga
 have Bgb:=jX bgb
 have Bgc:=jX bgc
 have HkW:=jX hkW
 clear hW hkW ega egb egc bga bgb bgc
 have HM:=jX (H0.out.here.move HkW.out).here
 refine wp_region_heldT (S:=fun u=>Keep [] W u) 14 (by kernel_rfl) (by kernel_rfl) (fun _ _ d _ _ h=>by cases d<;>exact h) ?_
 have HM:=jX (HM.out.move (Keep.drew [] W))
 generalize World.drew W=u at *
 have hS0:=HM.out.keep
 refine' jV (v:=_) 0 hS0 (fun w hw=>?hf0) (fun K hK=>?kf0)
 case hf0=>(have pga:=cell_of (hw.heap Bga.out (by simp));have pgb:=cell_of (hw.heap Bgb.out (by simp));go_simp;try rfl)
 go_simp
 refine hK _ ?_
 clear hK K
 refine' jV (v:=_) 1 hS0 (fun w hw=>?hf1) (fun K hK=>?kf1)
 case hf1=>(have pga:=cell_of (hw.heap Bga.out (by simp));have pgb:=cell_of (hw.heap Bgb.out (by simp));go_simp;try rfl)
 go_simp
 refine hK _ ?_
 clear hK K
 refine' jV (v:=_) 2 hS0 (fun w hw=>?hf2) (fun K hK=>?kf2)
 case hf2=>(have pga:=cell_of (hw.heap Bga.out (by simp));have pgb:=cell_of (hw.heap Bgb.out (by simp));go_simp;try rfl)
 go_simp
 refine hK _ ?_
 clear hK K
 refine' jV (v:=_) 3 hS0 (fun w hw=>?hf3) (fun K hK=>?kf3)
 case hf3=>(have pga:=cell_of (hw.heap Bga.out (by simp));have pgb:=cell_of (hw.heap Bgb.out (by simp));go_simp;try rfl)
 go_simp
 refine hK _ ?_
 clear hK K
 refine' jV (v:=_) 4 hS0 (fun w hw=>?hf4) (fun K hK=>?kf4)
 case hf4=>(have pga:=cell_of (hw.heap Bga.out (by simp));have pgb:=cell_of (hw.heap Bgb.out (by simp));go_simp;try rfl)
 go_simp
 refine hK _ ?_
 clear hK K
 refine' jV (v:=_) 5 hS0 (fun w hw=>?hf5) (fun K hK=>?kf5)
 case hf5=>(have pga:=cell_of (hw.heap Bga.out (by simp));have pgb:=cell_of (hw.heap Bgb.out (by simp));go_simp;try rfl)
 go_simp
 refine hK _ ?_
 clear hK K
 refine' jV (v:=_) 7 hS0 (fun w hw=>?hf7) (fun K hK=>?kf7)
 case hf7=>(have pga:=cell_of (hw.heap Bga.out (by simp));have pgb:=cell_of (hw.heap Bgb.out (by simp));go_simp;try rfl)
 go_simp
 refine hK _ ?_
 clear hK K
 refine' jV (v:=_) 8 hS0 (fun w hw=>?hf8) (fun K hK=>?kf8)
 case hf8=>(have pga:=cell_of (hw.heap Bga.out (by simp));have pgb:=cell_of (hw.heap Bgb.out (by simp));go_simp;try rfl)
 go_simp
 refine hK _ ?_
 clear hK K
 refine' jV (v:=_) 9 hS0 (fun w hw=>?hf9) (fun K hK=>?kf9)
 case hf9=>(have pga:=cell_of (hw.heap Bga.out (by simp));have pgb:=cell_of (hw.heap Bgb.out (by simp));go_simp;try rfl)
 go_simp
 refine hK _ ?_
 clear hK K
 refine' jV (v:=_) 10 hS0 (fun w hw=>?hf10) (fun K hK=>?kf10)
 case hf10=>(have pga:=cell_of (hw.heap Bga.out (by simp));have pgb:=cell_of (hw.heap Bgb.out (by simp));go_simp;try rfl)
 go_simp
 refine hK _ ?_
 clear hK K
 refine jO 6 (fun K hK=>?_)
 refine wp_enter 66 #[.slice ta T.length tc,.slice ua U.length uc] (by go_simp) ?_
 refine (HM.out.minus (v:=.slice ta T.length tc) (a:=T) (u:=.slice ua U.length uc) (b:=U) (by simp [hD.out,hT.out,hE.out,hU.out]) (by simp [hD.out,hT.out,hE.out,hU.out])).mono ?_
 rintro e w1 ⟨vo_w1,vc_w1,rfl,hm_w1⟩
 have HM:=jX hm_w1
 clear hm_w1
 refine ⟨_,rfl,?_⟩
 have hS0:=HM.out.keep
 go_simp
 refine hK _ _ hS0 ?_
 clear hK K
 refine jO 11 (fun K hK=>?_)
 refine wp_enter 66 #[.slice ua U.length uc,.slice ta T.length tc] (by go_simp) ?_
 refine (HM.out.minus (v:=.slice ua U.length uc) (a:=U) (u:=.slice ta T.length tc) (b:=T) (by simp [hD.out,hT.out,hE.out,hU.out]) (by simp [hD.out,hT.out,hE.out,hU.out])).mono ?_
 rintro e w2 ⟨vo_w2,vc_w2,rfl,hm_w2⟩
 have HM:=jX hm_w2
 clear hm_w2
 refine ⟨_,rfl,?_⟩
 have hS0:=HM.out.keep
 go_simp
 refine hK _ _ hS0 ?_
 clear hK K
 refine jO 12 (fun K hK=>?_)
 refine wp_enter 70 #[.slice vo_w1 (combK 3 T U).length vc_w1,.slice vo_w2 (combK 3 U T).length vc_w2] (by go_simp) ?_
 refine (HM.out.union (v:=.slice vo_w1 (combK 3 T U).length vc_w1) (a:=combK 3 T U) (u:=.slice vo_w2 (combK 3 U T).length vc_w2) (b:=combK 3 U T) (by simp [hD.out,hT.out,hE.out,hU.out]) (by simp [hD.out,hT.out,hE.out,hU.out])).mono ?_
 rintro e w3 ⟨vo_w3,vc_w3,rfl,hm_w3⟩
 have HM:=jX hm_w3
 clear hm_w3
 refine ⟨_,rfl,?_⟩
 have hS0:=HM.out.keep
 go_simp
 refine hK _ _ hS0 ?_
 clear hK K
 refine jO 13 (fun K hK=>?_)
 refine wp_enter 72 #[.agg #[.slice da D.length dc,.slice ta T.length tc],.agg #[.slice ea E.length ec,.slice ua U.length uc],.slice vo_w3 (combK 1 (combK 3 T U) (combK 3 U T)).length vc_w3] (by go_simp) ?_
 refine (HM.out.mlift (D:=D) (T:=T) (E:=E) (U:=U) (P:=combK 1 (combK 3 T U) (combK 3 U T)) (by simp [hD.out,hT.out,hE.out,hU.out]) (by simp [hD.out,hT.out,hE.out,hU.out]) (by simp [hD.out,hT.out,hE.out,hU.out]) (by simp [hD.out,hT.out,hE.out,hU.out]) (by simp [hD.out,hT.out,hE.out,hU.out])).mono ?_
 rintro e w4 ⟨da_w4,dc_w4,ta_w4,tc_w4,rfl,hm_w4⟩
 have HM:=jX hm_w4
 clear hm_w4
 refine ⟨_,rfl,?_⟩
 have hS0:=HM.out.keep
 go_simp
 refine hK _ _ hS0 ?_
 clear hK K
 refine ⟨by kernel_rfl,?_⟩
 simp only [List.drop_succ_cons,List.drop_zero]
 have bz:=jX (HM.out.keep.heap Bgc.out (by simp))
 have pgc:=cell_of bz.out
 have fgc:=frozen_of bz.out
 have lgc:=lt_of_heap bz.out
 go_wp2_with fail
 obtain⟨u9,e9,b9,k9⟩:=st2 (x:=.slice da_w4 (combK 2 D E).length dc_w4) (y:=.slice ta_w4 (combK 2 (combK 2 D E) (combK 1 (combK 3 T U) (combK 3 U T))).length tc_w4) bz.out
 rw [← e9]
 clear e9 pgc fgc lgc
 have pgc:=cell_of b9
 refine bodyPost_ret (v:=.agg #[.slice da_w4 (combK 2 D E).length dc_w4,.slice ta_w4 (combK 2 (combK 2 D E) (combK 1 (combK 3 T U) (combK 3 U T))).length tc_w4]) ?_ rfl ⟨_,_,_,_,rfl,MP.fin H0.out.keep HkW.out HM.out bz.out (by simp) (by omega) k9 ?_⟩
 ·rw [results_cell1 rfl];go_simp
 ·intro p hp;simp only [List.mem_cons] at hp ⊢;grind
theorem MP.mnot (h:MP S w0 w L) (hD:(.slice da D.length dc,D)∈L) (hT:(.slice ta T.length tc,T)∈L) :
  Calls Tryz.prog 32 #[.agg #[.slice da D.length dc,.slice ta T.length tc]] w (BolPost S w0 L D (combK 3 D T)):=by
 have H0:=jX h
 have hD:=jX hD
 have hT:=jX hT
 clear h
 go_enter Tryz.func32,Tryz.ntmps32
 go_upto_region 1 with (fail)
 obtain⟨W,ga,gb,hW,ega,egb,bga,bgb,hga,hgb,hgW,hkW⟩:=al2 w (.cells #[.slice da D.length dc,.slice ta T.length tc] 29) (.cells #[.slice none 0 0,.slice none 0 0] 29)
 rw [← hW]
 try rw [egb]
 try rw [ega]
 have Bga:=jX bga
 have Bgb:=jX bgb
 have HkW:=jX hkW
 clear hW hkW ega egb bga bgb
 have HM:=jX (H0.out.here.move HkW.out).here
 refine wp_region_heldT (S:=fun u=>Keep [] W u) 5 (by kernel_rfl) (by kernel_rfl) (fun _ _ d _ _ h=>by cases d<;>exact h) ?_
 have HM:=jX (HM.out.move (Keep.drew [] W))
 generalize World.drew W=u at *
 have hS0:=HM.out.keep
 refine' jV (v:=_) 0 hS0 (fun w hw=>?hf0) (fun K hK=>?kf0)
 case hf0=>(have pga:=cell_of (hw.heap Bga.out (by simp));go_simp;try rfl)
 go_simp
 refine hK _ ?_
 clear hK K
 refine' jV (v:=_) 1 hS0 (fun w hw=>?hf1) (fun K hK=>?kf1)
 case hf1=>(have pga:=cell_of (hw.heap Bga.out (by simp));go_simp;try rfl)
 go_simp
 refine hK _ ?_
 clear hK K
 refine' jV (v:=_) 3 hS0 (fun w hw=>?hf3) (fun K hK=>?kf3)
 case hf3=>(have pga:=cell_of (hw.heap Bga.out (by simp));go_simp;try rfl)
 go_simp
 refine hK _ ?_
 clear hK K
 refine jO 2 (fun K hK=>?_)
 refine wp_enter 73 #[.slice da D.length dc] (by go_simp) ?_
 refine (HM.out.clone (v:=.slice da D.length dc) (a:=D) (by simp [hD.out,hT.out])).mono ?_
 rintro e w1 ⟨vo_w1,vc_w1,rfl,hm_w1⟩
 have HM:=jX hm_w1
 clear hm_w1
 refine ⟨_,rfl,?_⟩
 have hS0:=HM.out.keep
 go_simp
 refine hK _ _ hS0 ?_
 clear hK K
 refine jO 4 (fun K hK=>?_)
 refine wp_enter 19 #[.agg #[.slice da D.length dc,.slice ta T.length tc]] (by go_simp) ?_
 refine (HM.out.mfalse (D:=D) (T:=T) (by simp [hD.out,hT.out]) (by simp [hD.out,hT.out])).mono ?_
 rintro e w2 ⟨vo_w2,vc_w2,rfl,hm_w2⟩
 have HM:=jX hm_w2
 clear hm_w2
 refine ⟨_,rfl,?_⟩
 have hS0:=HM.out.keep
 go_simp
 refine hK _ _ hS0 ?_
 clear hK K
 refine ⟨by kernel_rfl,?_⟩
 simp only [List.drop_succ_cons,List.drop_zero]
 have bz:=jX (HM.out.keep.heap Bgb.out (by simp))
 have pgb:=cell_of bz.out
 have fgb:=frozen_of bz.out
 have lgb:=lt_of_heap bz.out
 go_wp2_with fail
 obtain⟨u9,e9,b9,k9⟩:=st2 (x:=.slice vo_w1 (D).length vc_w1) (y:=.slice vo_w2 (combK 3 D T).length vc_w2) bz.out
 rw [← e9]
 clear e9 pgb fgb lgb
 have pgb:=cell_of b9
 refine bodyPost_ret (v:=.agg #[.slice vo_w1 (D).length vc_w1,.slice vo_w2 (combK 3 D T).length vc_w2]) ?_ rfl ⟨_,_,_,_,rfl,MP.fin H0.out.keep HkW.out HM.out bz.out (by simp) (by omega) k9 ?_⟩
 ·rw [results_cell1 rfl];go_simp
 ·intro p hp;simp only [List.mem_cons] at hp ⊢;grind
theorem MP.rnot (h:MP S w0 w L) (hD:(.slice da D.length dc,D)∈L) (hT:(.slice ta T.length tc,T)∈L) :
  Calls Tryz.prog 34 #[.agg #[.slice da D.length dc,.slice ta T.length tc]] w (BolPost S w0 L D (combK 2 (combK 3 D T) D)):=by
 have H0:=jX h
 have hD:=jX hD
 have hT:=jX hT
 clear h
 go_enter Tryz.func34,Tryz.ntmps34
 go_upto_region 1 with (fail)
 obtain⟨W,ga,gb,hW,ega,egb,bga,bgb,hga,hgb,hgW,hkW⟩:=al2 w (.cells #[.slice da D.length dc,.slice ta T.length tc] 29) (.cells #[.slice none 0 0,.slice none 0 0] 29)
 rw [← hW]
 try rw [egb]
 try rw [ega]
 have Bga:=jX bga
 have Bgb:=jX bgb
 have HkW:=jX hkW
 clear hW hkW ega egb bga bgb
 have HM:=jX (H0.out.here.move HkW.out).here
 refine wp_region_heldT (S:=fun u=>Keep [] W u) 5 (by kernel_rfl) (by kernel_rfl) (fun _ _ d _ _ h=>by cases d<;>exact h) ?_
 have HM:=jX (HM.out.move (Keep.drew [] W))
 generalize World.drew W=u at *
 have hS0:=HM.out.keep
 refine' jV (v:=_) 0 hS0 (fun w hw=>?hf0) (fun K hK=>?kf0)
 case hf0=>(have pga:=cell_of (hw.heap Bga.out (by simp));go_simp;try rfl)
 go_simp
 refine hK _ ?_
 clear hK K
 refine' jV (v:=_) 1 hS0 (fun w hw=>?hf1) (fun K hK=>?kf1)
 case hf1=>(have pga:=cell_of (hw.heap Bga.out (by simp));go_simp;try rfl)
 go_simp
 refine hK _ ?_
 clear hK K
 refine' jV (v:=_) 2 hS0 (fun w hw=>?hf2) (fun K hK=>?kf2)
 case hf2=>(have pga:=cell_of (hw.heap Bga.out (by simp));go_simp;try rfl)
 go_simp
 refine hK _ ?_
 clear hK K
 refine jO 3 (fun K hK=>?_)
 refine wp_enter 22 #[.agg #[.slice da D.length dc,.slice ta T.length tc]] (by go_simp) ?_
 refine (HM.out.rfalse (D:=D) (T:=T) (by simp [hD.out,hT.out]) (by simp [hD.out,hT.out])).mono ?_
 rintro e w1 ⟨vo_w1,vc_w1,rfl,hm_w1⟩
 have HM:=jX hm_w1
 clear hm_w1
 refine ⟨_,rfl,?_⟩
 have hS0:=HM.out.keep
 go_simp
 refine hK _ _ hS0 ?_
 clear hK K
 refine jO 4 (fun K hK=>?_)
 refine wp_enter 60 #[.slice da D.length dc,.slice vo_w1 (combK 3 D T).length vc_w1] (by go_simp) ?_
 refine (HM.out.rmake (D:=D) (T:=combK 3 D T) (by simp [hD.out,hT.out]) (by simp [hD.out,hT.out])).mono ?_
 rintro e w2 ⟨da_w2,dc_w2,ta_w2,tc_w2,rfl,hm_w2⟩
 have HM:=jX hm_w2
 clear hm_w2
 refine ⟨_,rfl,?_⟩
 have hS0:=HM.out.keep
 go_simp
 refine hK _ _ hS0 ?_
 clear hK K
 refine ⟨by kernel_rfl,?_⟩
 simp only [List.drop_succ_cons,List.drop_zero]
 have bz:=jX (HM.out.keep.heap Bgb.out (by simp))
 have pgb:=cell_of bz.out
 have fgb:=frozen_of bz.out
 have lgb:=lt_of_heap bz.out
 go_wp2_with fail
 obtain⟨u9,e9,b9,k9⟩:=st2 (x:=.slice da_w2 (D).length dc_w2) (y:=.slice ta_w2 (combK 2 (combK 3 D T) D).length tc_w2) bz.out
 rw [← e9]
 clear e9 pgb fgb lgb
 have pgb:=cell_of b9
 refine bodyPost_ret (v:=.agg #[.slice da_w2 (D).length dc_w2,.slice ta_w2 (combK 2 (combK 3 D T) D).length tc_w2]) ?_ rfl ⟨_,_,_,_,rfl,MP.fin H0.out.keep HkW.out HM.out bz.out (by simp) (by omega) k9 ?_⟩
 ·rw [results_cell1 rfl];go_simp
 ·intro p hp;simp only [List.mem_cons] at hp ⊢;grind
theorem MP.rlift1 (h:MP S w0 w L) (hD:(.slice da D.length dc,D)∈L) (hT:(.slice ta T.length tc,T)∈L) (hE:(.slice ea E.length ec,E)∈L) (hU:(.slice ua U.length uc,U)∈L) :
  Calls Tryz.prog 33 #[.int .i64 1,.agg #[.slice da D.length dc,.slice ta T.length tc],.agg #[.slice ea E.length ec,.slice ua U.length uc]] w (BolPost S w0 L (combK 2 D E) (combK 2 (combK 2 T U) (combK 2 D E))):=by
 have H0:=jX h
 have hD:=jX hD
 have hT:=jX hT
 have hE:=jX hE
 have hU:=jX hU
 clear h
 go_enter Tryz.func33,Tryz.ntmps33
 go_upto_region 1 with (fail)
 obtain⟨W,ga,gb,gc,hW,ega,egb,egc,bga,bgb,bgc,hga,hgb,hgc,hgW,hkW⟩:=al3 w (.cells #[.slice da D.length dc,.slice ta T.length tc] 29) (.cells #[.slice ea E.length ec,.slice ua U.length uc] 29) (.cells #[.slice none 0 0,.slice none 0 0] 29)
 rw [← hW]
 try rw [egc]
 try rw [egb]
 try rw [ega]
 have Bga:=jX bga
 have Bgb:=jX bgb
 have Bgc:=jX bgc
 have HkW:=jX hkW
 clear hW hkW ega egb egc bga bgb bgc
 have HM:=jX (H0.out.here.move HkW.out).here
 have pga:=cell_of (HM.out.keep.heap Bga.out (by simp))
 have pgb:=cell_of (HM.out.keep.heap Bgb.out (by simp))
 go_wp2_with fail
 refine (HM.out.comb (op:=2) (by simp) (v:=.slice da D.length dc) (a:=D) (u:=.slice ea E.length ec) (b:=E) (by simp [hD.out,hT.out,hE.out,hU.out]) (by simp [hD.out,hT.out,hE.out,hU.out])).mono ?_
 rintro e w1 ⟨vo_w1,vc_w1,rfl,hm_w1⟩
 dsimp only
 have HM:=jX hm_w1
 clear hm_w1
 clear pga pgb
 go_upto_region 2 with (fail)
 refine wp_region_heldT (S:=fun u=>Keep [] W u) 10 (by kernel_rfl) (by kernel_rfl) (fun _ _ d _ _ h=>by cases d<;>exact h) ?_
 have HM:=jX (HM.out.move (Keep.drew [] w1))
 generalize World.drew w1=u at *
 have hS0:=HM.out.keep
 refine' jV (v:=_) 0 hS0 (fun w hw=>?hf0) (fun K hK=>?kf0)
 case hf0=>(have pga:=cell_of (hw.heap Bga.out (by simp));have pgb:=cell_of (hw.heap Bgb.out (by simp));go_simp;try rfl)
 go_simp
 refine hK _ ?_
 clear hK K
 refine' jV (v:=_) 1 hS0 (fun w hw=>?hf1) (fun K hK=>?kf1)
 case hf1=>(have pga:=cell_of (hw.heap Bga.out (by simp));have pgb:=cell_of (hw.heap Bgb.out (by simp));go_simp;try rfl)
 go_simp
 refine hK _ ?_
 clear hK K
 refine' jV (v:=_) 2 hS0 (fun w hw=>?hf2) (fun K hK=>?kf2)
 case hf2=>(have pga:=cell_of (hw.heap Bga.out (by simp));have pgb:=cell_of (hw.heap Bgb.out (by simp));go_simp;try rfl)
 go_simp
 refine hK _ ?_
 clear hK K
 refine' jV (v:=_) 3 hS0 (fun w hw=>?hf3) (fun K hK=>?kf3)
 case hf3=>(have pga:=cell_of (hw.heap Bga.out (by simp));have pgb:=cell_of (hw.heap Bgb.out (by simp));go_simp;try rfl)
 go_simp
 refine hK _ ?_
 clear hK K
 refine' jV (v:=_) 5 hS0 (fun w hw=>?hf5) (fun K hK=>?kf5)
 case hf5=>(have pga:=cell_of (hw.heap Bga.out (by simp));have pgb:=cell_of (hw.heap Bgb.out (by simp));go_simp;try rfl)
 go_simp
 refine hK _ ?_
 clear hK K
 refine' jV (v:=_) 6 hS0 (fun w hw=>?hf6) (fun K hK=>?kf6)
 case hf6=>(have pga:=cell_of (hw.heap Bga.out (by simp));have pgb:=cell_of (hw.heap Bgb.out (by simp));go_simp;try rfl)
 go_simp
 refine hK _ ?_
 clear hK K
 refine' jV (v:=_) 7 hS0 (fun w hw=>?hf7) (fun K hK=>?kf7)
 case hf7=>(have pga:=cell_of (hw.heap Bga.out (by simp));have pgb:=cell_of (hw.heap Bgb.out (by simp));go_simp;try rfl)
 go_simp
 refine hK _ ?_
 clear hK K
 refine' jV (v:=_) 8 hS0 (fun w hw=>?hf8) (fun K hK=>?kf8)
 case hf8=>(have pga:=cell_of (hw.heap Bga.out (by simp));have pgb:=cell_of (hw.heap Bgb.out (by simp));go_simp;try rfl)
 go_simp
 refine hK _ ?_
 clear hK K
 refine jO 4 (fun K hK=>?_)
 refine wp_enter 50 #[.int .i64 2,.slice ta T.length tc,.slice ua U.length uc] (by go_simp) ?_
 refine (HM.out.comb (op:=2) (by simp) (v:=.slice ta T.length tc) (a:=T) (u:=.slice ua U.length uc) (b:=U) (by simp [hD.out,hT.out,hE.out,hU.out]) (by simp [hD.out,hT.out,hE.out,hU.out])).mono ?_
 rintro e w2 ⟨vo_w2,vc_w2,rfl,hm_w2⟩
 have HM:=jX hm_w2
 clear hm_w2
 refine ⟨_,rfl,?_⟩
 have hS0:=HM.out.keep
 go_simp
 refine hK _ _ hS0 ?_
 clear hK K
 refine jO 9 (fun K hK=>?_)
 refine wp_enter 50 #[.int .i64 1,.slice ta T.length tc,.slice ua U.length uc] (by go_simp) ?_
 refine (HM.out.comb (op:=1) (by simp) (v:=.slice ta T.length tc) (a:=T) (u:=.slice ua U.length uc) (b:=U) (by simp [hD.out,hT.out,hE.out,hU.out]) (by simp [hD.out,hT.out,hE.out,hU.out])).mono ?_
 rintro e w3 ⟨vo_w3,vc_w3,rfl,hm_w3⟩
 have HM:=jX hm_w3
 clear hm_w3
 refine ⟨_,rfl,?_⟩
 have hS0:=HM.out.keep
 go_simp
 refine hK _ _ hS0 ?_
 clear hK K
 refine ⟨by kernel_rfl,?_⟩
 simp only [List.drop_succ_cons,List.drop_zero]
 go_wp2_with fail
 refine (HM.out.rmake (D:=combK 2 D E) (T:=combK 2 T U) (by simp [hD.out,hT.out,hE.out,hU.out]) (by simp [hD.out,hT.out,hE.out,hU.out])).mono ?_
 rintro e w9 ⟨da_w9,dc_w9,ta_w9,tc_w9,rfl,hm_w9⟩
 dsimp only
 have HM:=jX hm_w9
 clear hm_w9
 have bz:=jX (HM.out.keep.heap Bgc.out (by simp))
 have pgc:=cell_of bz.out
 have fgc:=frozen_of bz.out
 have lgc:=lt_of_heap bz.out
 go_wp2_with fail
 obtain⟨u9,e9,b9,k9⟩:=st2 (x:=.slice da_w9 (combK 2 D E).length dc_w9) (y:=.slice ta_w9 (combK 2 (combK 2 T U) (combK 2 D E)).length tc_w9) bz.out
 rw [← e9]
 clear e9 pgc fgc lgc
 have pgc:=cell_of b9
 refine bodyPost_ret (v:=.agg #[.slice da_w9 (combK 2 D E).length dc_w9,.slice ta_w9 (combK 2 (combK 2 T U) (combK 2 D E)).length tc_w9]) ?_ rfl ⟨_,_,_,_,rfl,MP.fin H0.out.keep HkW.out HM.out bz.out (by simp) (by omega) k9 ?_⟩
 ·rw [results_cell1 rfl];go_simp
 ·intro p hp;simp only [List.mem_cons] at hp ⊢;grind
theorem MP.rlift2 (h:MP S w0 w L) (hD:(.slice da D.length dc,D)∈L) (hT:(.slice ta T.length tc,T)∈L) (hE:(.slice ea E.length ec,E)∈L) (hU:(.slice ua U.length uc,U)∈L) :
  Calls Tryz.prog 33 #[.int .i64 2,.agg #[.slice da D.length dc,.slice ta T.length tc],.agg #[.slice ea E.length ec,.slice ua U.length uc]] w (BolPost S w0 L (combK 2 D E) (combK 2 (combK 1 T U) (combK 2 D E))):=by
 have H0:=jX h
 have hD:=jX hD
 have hT:=jX hT
 have hE:=jX hE
 have hU:=jX hU
 clear h
 go_enter Tryz.func33,Tryz.ntmps33
 go_upto_region 1 with (fail)
 obtain⟨W,ga,gb,gc,hW,ega,egb,egc,bga,bgb,bgc,hga,hgb,hgc,hgW,hkW⟩:=al3 w (.cells #[.slice da D.length dc,.slice ta T.length tc] 29) (.cells #[.slice ea E.length ec,.slice ua U.length uc] 29) (.cells #[.slice none 0 0,.slice none 0 0] 29)
 rw [← hW]
 try rw [egc]
 try rw [egb]
 try rw [ega]
 have Bga:=jX bga
 have Bgb:=jX bgb
 have Bgc:=jX bgc
 have HkW:=jX hkW
 clear hW hkW ega egb egc bga bgb bgc
 have HM:=jX (H0.out.here.move HkW.out).here
 have pga:=cell_of (HM.out.keep.heap Bga.out (by simp))
 have pgb:=cell_of (HM.out.keep.heap Bgb.out (by simp))
 go_wp2_with fail
 refine (HM.out.comb (op:=2) (by simp) (v:=.slice da D.length dc) (a:=D) (u:=.slice ea E.length ec) (b:=E) (by simp [hD.out,hT.out,hE.out,hU.out]) (by simp [hD.out,hT.out,hE.out,hU.out])).mono ?_
 rintro e w1 ⟨vo_w1,vc_w1,rfl,hm_w1⟩
 dsimp only
 have HM:=jX hm_w1
 clear hm_w1
 clear pga pgb
 go_upto_region 2 with (fail)
 refine wp_region_heldT (S:=fun u=>Keep [] W u) 10 (by kernel_rfl) (by kernel_rfl) (fun _ _ d _ _ h=>by cases d<;>exact h) ?_
 have HM:=jX (HM.out.move (Keep.drew [] w1))
 generalize World.drew w1=u at *
 have hS0:=HM.out.keep
 refine' jV (v:=_) 0 hS0 (fun w hw=>?hf0) (fun K hK=>?kf0)
 case hf0=>(have pga:=cell_of (hw.heap Bga.out (by simp));have pgb:=cell_of (hw.heap Bgb.out (by simp));go_simp;try rfl)
 go_simp
 refine hK _ ?_
 clear hK K
 refine' jV (v:=_) 1 hS0 (fun w hw=>?hf1) (fun K hK=>?kf1)
 case hf1=>(have pga:=cell_of (hw.heap Bga.out (by simp));have pgb:=cell_of (hw.heap Bgb.out (by simp));go_simp;try rfl)
 go_simp
 refine hK _ ?_
 clear hK K
 refine' jV (v:=_) 2 hS0 (fun w hw=>?hf2) (fun K hK=>?kf2)
 case hf2=>(have pga:=cell_of (hw.heap Bga.out (by simp));have pgb:=cell_of (hw.heap Bgb.out (by simp));go_simp;try rfl)
 go_simp
 refine hK _ ?_
 clear hK K
 refine' jV (v:=_) 3 hS0 (fun w hw=>?hf3) (fun K hK=>?kf3)
 case hf3=>(have pga:=cell_of (hw.heap Bga.out (by simp));have pgb:=cell_of (hw.heap Bgb.out (by simp));go_simp;try rfl)
 go_simp
 refine hK _ ?_
 clear hK K
 refine' jV (v:=_) 5 hS0 (fun w hw=>?hf5) (fun K hK=>?kf5)
 case hf5=>(have pga:=cell_of (hw.heap Bga.out (by simp));have pgb:=cell_of (hw.heap Bgb.out (by simp));go_simp;try rfl)
 go_simp
 refine hK _ ?_
 clear hK K
 refine' jV (v:=_) 6 hS0 (fun w hw=>?hf6) (fun K hK=>?kf6)
 case hf6=>(have pga:=cell_of (hw.heap Bga.out (by simp));have pgb:=cell_of (hw.heap Bgb.out (by simp));go_simp;try rfl)
 go_simp
 refine hK _ ?_
 clear hK K
 refine' jV (v:=_) 7 hS0 (fun w hw=>?hf7) (fun K hK=>?kf7)
 case hf7=>(have pga:=cell_of (hw.heap Bga.out (by simp));have pgb:=cell_of (hw.heap Bgb.out (by simp));go_simp;try rfl)
 go_simp
 refine hK _ ?_
 clear hK K
 refine' jV (v:=_) 8 hS0 (fun w hw=>?hf8) (fun K hK=>?kf8)
 case hf8=>(have pga:=cell_of (hw.heap Bga.out (by simp));have pgb:=cell_of (hw.heap Bgb.out (by simp));go_simp;try rfl)
 go_simp
 refine hK _ ?_
 clear hK K
 refine jO 4 (fun K hK=>?_)
 refine wp_enter 50 #[.int .i64 2,.slice ta T.length tc,.slice ua U.length uc] (by go_simp) ?_
 refine (HM.out.comb (op:=2) (by simp) (v:=.slice ta T.length tc) (a:=T) (u:=.slice ua U.length uc) (b:=U) (by simp [hD.out,hT.out,hE.out,hU.out]) (by simp [hD.out,hT.out,hE.out,hU.out])).mono ?_
 rintro e w2 ⟨vo_w2,vc_w2,rfl,hm_w2⟩
 have HM:=jX hm_w2
 clear hm_w2
 refine ⟨_,rfl,?_⟩
 have hS0:=HM.out.keep
 go_simp
 refine hK _ _ hS0 ?_
 clear hK K
 refine jO 9 (fun K hK=>?_)
 refine wp_enter 50 #[.int .i64 1,.slice ta T.length tc,.slice ua U.length uc] (by go_simp) ?_
 refine (HM.out.comb (op:=1) (by simp) (v:=.slice ta T.length tc) (a:=T) (u:=.slice ua U.length uc) (b:=U) (by simp [hD.out,hT.out,hE.out,hU.out]) (by simp [hD.out,hT.out,hE.out,hU.out])).mono ?_
 rintro e w3 ⟨vo_w3,vc_w3,rfl,hm_w3⟩
 have HM:=jX hm_w3
 clear hm_w3
 refine ⟨_,rfl,?_⟩
 have hS0:=HM.out.keep
 go_simp
 refine hK _ _ hS0 ?_
 clear hK K
 refine ⟨by kernel_rfl,?_⟩
 simp only [List.drop_succ_cons,List.drop_zero]
 go_wp2_with fail
 refine (HM.out.rmake (D:=combK 2 D E) (T:=combK 1 T U) (by simp [hD.out,hT.out,hE.out,hU.out]) (by simp [hD.out,hT.out,hE.out,hU.out])).mono ?_
 rintro e w9 ⟨da_w9,dc_w9,ta_w9,tc_w9,rfl,hm_w9⟩
 dsimp only
 have HM:=jX hm_w9
 clear hm_w9
 have bz:=jX (HM.out.keep.heap Bgc.out (by simp))
 have pgc:=cell_of bz.out
 have fgc:=frozen_of bz.out
 have lgc:=lt_of_heap bz.out
 go_wp2_with fail
 obtain⟨u9,e9,b9,k9⟩:=st2 (x:=.slice da_w9 (combK 2 D E).length dc_w9) (y:=.slice ta_w9 (combK 2 (combK 1 T U) (combK 2 D E)).length tc_w9) bz.out
 rw [← e9]
 clear e9 pgc fgc lgc
 have pgc:=cell_of b9
 refine bodyPost_ret (v:=.agg #[.slice da_w9 (combK 2 D E).length dc_w9,.slice ta_w9 (combK 2 (combK 1 T U) (combK 2 D E)).length tc_w9]) ?_ rfl ⟨_,_,_,_,rfl,MP.fin H0.out.keep HkW.out HM.out bz.out (by simp) (by omega) k9 ?_⟩
 ·rw [results_cell1 rfl];go_simp
 ·intro p hp;simp only [List.mem_cons] at hp ⊢;grind
theorem MP.rlift3 (h:MP S w0 w L) (hD:(.slice da D.length dc,D)∈L) (hT:(.slice ta T.length tc,T)∈L) (hE:(.slice ea E.length ec,E)∈L) (hU:(.slice ua U.length uc,U)∈L) :
  Calls Tryz.prog 33 #[.int .i64 3,.agg #[.slice da D.length dc,.slice ta T.length tc],.agg #[.slice ea E.length ec,.slice ua U.length uc]] w (BolPost S w0 L (combK 2 D E) (combK 2 (combK 3 (combK 1 T U) (combK 2 T U)) (combK 2 D E))):=by
 have H0:=jX h
 have hD:=jX hD
 have hT:=jX hT
 have hE:=jX hE
 have hU:=jX hU
 clear h
 go_enter Tryz.func33,Tryz.ntmps33
 go_upto_region 1 with (fail)
 obtain⟨W,ga,gb,gc,hW,ega,egb,egc,bga,bgb,bgc,hga,hgb,hgc,hgW,hkW⟩:=al3 w (.cells #[.slice da D.length dc,.slice ta T.length tc] 29) (.cells #[.slice ea E.length ec,.slice ua U.length uc] 29) (.cells #[.slice none 0 0,.slice none 0 0] 29)
 rw [← hW]
 try rw [egc]
 try rw [egb]
 try rw [ega]
 have Bga:=jX bga
 have Bgb:=jX bgb
 have Bgc:=jX bgc
 have HkW:=jX hkW
 clear hW hkW ega egb egc bga bgb bgc
 have HM:=jX (H0.out.here.move HkW.out).here
 have pga:=cell_of (HM.out.keep.heap Bga.out (by simp))
 have pgb:=cell_of (HM.out.keep.heap Bgb.out (by simp))
 go_wp2_with fail
 refine (HM.out.comb (op:=2) (by simp) (v:=.slice da D.length dc) (a:=D) (u:=.slice ea E.length ec) (b:=E) (by simp [hD.out,hT.out,hE.out,hU.out]) (by simp [hD.out,hT.out,hE.out,hU.out])).mono ?_
 rintro e w1 ⟨vo_w1,vc_w1,rfl,hm_w1⟩
 dsimp only
 have HM:=jX hm_w1
 clear hm_w1
 clear pga pgb
 go_upto_region 2 with (fail)
 refine wp_region_heldT (S:=fun u=>Keep [] W u) 10 (by kernel_rfl) (by kernel_rfl) (fun _ _ d _ _ h=>by cases d<;>exact h) ?_
 have HM:=jX (HM.out.move (Keep.drew [] w1))
 generalize World.drew w1=u at *
 have hS0:=HM.out.keep
 refine' jV (v:=_) 0 hS0 (fun w hw=>?hf0) (fun K hK=>?kf0)
 case hf0=>(have pga:=cell_of (hw.heap Bga.out (by simp));have pgb:=cell_of (hw.heap Bgb.out (by simp));go_simp;try rfl)
 go_simp
 refine hK _ ?_
 clear hK K
 refine' jV (v:=_) 1 hS0 (fun w hw=>?hf1) (fun K hK=>?kf1)
 case hf1=>(have pga:=cell_of (hw.heap Bga.out (by simp));have pgb:=cell_of (hw.heap Bgb.out (by simp));go_simp;try rfl)
 go_simp
 refine hK _ ?_
 clear hK K
 refine' jV (v:=_) 2 hS0 (fun w hw=>?hf2) (fun K hK=>?kf2)
 case hf2=>(have pga:=cell_of (hw.heap Bga.out (by simp));have pgb:=cell_of (hw.heap Bgb.out (by simp));go_simp;try rfl)
 go_simp
 refine hK _ ?_
 clear hK K
 refine' jV (v:=_) 3 hS0 (fun w hw=>?hf3) (fun K hK=>?kf3)
 case hf3=>(have pga:=cell_of (hw.heap Bga.out (by simp));have pgb:=cell_of (hw.heap Bgb.out (by simp));go_simp;try rfl)
 go_simp
 refine hK _ ?_
 clear hK K
 refine' jV (v:=_) 5 hS0 (fun w hw=>?hf5) (fun K hK=>?kf5)
 case hf5=>(have pga:=cell_of (hw.heap Bga.out (by simp));have pgb:=cell_of (hw.heap Bgb.out (by simp));go_simp;try rfl)
 go_simp
 refine hK _ ?_
 clear hK K
 refine' jV (v:=_) 6 hS0 (fun w hw=>?hf6) (fun K hK=>?kf6)
 case hf6=>(have pga:=cell_of (hw.heap Bga.out (by simp));have pgb:=cell_of (hw.heap Bgb.out (by simp));go_simp;try rfl)
 go_simp
 refine hK _ ?_
 clear hK K
 refine' jV (v:=_) 7 hS0 (fun w hw=>?hf7) (fun K hK=>?kf7)
 case hf7=>(have pga:=cell_of (hw.heap Bga.out (by simp));have pgb:=cell_of (hw.heap Bgb.out (by simp));go_simp;try rfl)
 go_simp
 refine hK _ ?_
 clear hK K
 refine' jV (v:=_) 8 hS0 (fun w hw=>?hf8) (fun K hK=>?kf8)
 case hf8=>(have pga:=cell_of (hw.heap Bga.out (by simp));have pgb:=cell_of (hw.heap Bgb.out (by simp));go_simp;try rfl)
 go_simp
 refine hK _ ?_
 clear hK K
 refine jO 4 (fun K hK=>?_)
 refine wp_enter 50 #[.int .i64 2,.slice ta T.length tc,.slice ua U.length uc] (by go_simp) ?_
 refine (HM.out.comb (op:=2) (by simp) (v:=.slice ta T.length tc) (a:=T) (u:=.slice ua U.length uc) (b:=U) (by simp [hD.out,hT.out,hE.out,hU.out]) (by simp [hD.out,hT.out,hE.out,hU.out])).mono ?_
 rintro e w2 ⟨vo_w2,vc_w2,rfl,hm_w2⟩
 have HM:=jX hm_w2
 clear hm_w2
 refine ⟨_,rfl,?_⟩
 have hS0:=HM.out.keep
 go_simp
 refine hK _ _ hS0 ?_
 clear hK K
 refine jO 9 (fun K hK=>?_)
 refine wp_enter 50 #[.int .i64 1,.slice ta T.length tc,.slice ua U.length uc] (by go_simp) ?_
 refine (HM.out.comb (op:=1) (by simp) (v:=.slice ta T.length tc) (a:=T) (u:=.slice ua U.length uc) (b:=U) (by simp [hD.out,hT.out,hE.out,hU.out]) (by simp [hD.out,hT.out,hE.out,hU.out])).mono ?_
 rintro e w3 ⟨vo_w3,vc_w3,rfl,hm_w3⟩
 have HM:=jX hm_w3
 clear hm_w3
 refine ⟨_,rfl,?_⟩
 have hS0:=HM.out.keep
 go_simp
 refine hK _ _ hS0 ?_
 clear hK K
 refine ⟨by kernel_rfl,?_⟩
 simp only [List.drop_succ_cons,List.drop_zero]
 go_wp2_with fail
 refine (HM.out.comb (op:=3) (by simp) (v:=.slice vo_w3 (combK 1 T U).length vc_w3) (a:=combK 1 T U) (u:=.slice vo_w2 (combK 2 T U).length vc_w2) (b:=combK 2 T U) (by simp [hD.out,hT.out,hE.out,hU.out]) (by simp [hD.out,hT.out,hE.out,hU.out])).mono ?_
 rintro e w4 ⟨vo_w4,vc_w4,rfl,hm_w4⟩
 dsimp only
 have HM:=jX hm_w4
 clear hm_w4
 go_wp2_with fail
 refine (HM.out.rmake (D:=combK 2 D E) (T:=combK 3 (combK 1 T U) (combK 2 T U)) (by simp [hD.out,hT.out,hE.out,hU.out]) (by simp [hD.out,hT.out,hE.out,hU.out])).mono ?_
 rintro e w9 ⟨da_w9,dc_w9,ta_w9,tc_w9,rfl,hm_w9⟩
 dsimp only
 have HM:=jX hm_w9
 clear hm_w9
 have bz:=jX (HM.out.keep.heap Bgc.out (by simp))
 have pgc:=cell_of bz.out
 have fgc:=frozen_of bz.out
 have lgc:=lt_of_heap bz.out
 go_wp2_with fail
 obtain⟨u9,e9,b9,k9⟩:=st2 (x:=.slice da_w9 (combK 2 D E).length dc_w9) (y:=.slice ta_w9 (combK 2 (combK 3 (combK 1 T U) (combK 2 T U)) (combK 2 D E)).length tc_w9) bz.out
 rw [← e9]
 clear e9 pgc fgc lgc
 have pgc:=cell_of b9
 refine bodyPost_ret (v:=.agg #[.slice da_w9 (combK 2 D E).length dc_w9,.slice ta_w9 (combK 2 (combK 3 (combK 1 T U) (combK 2 T U)) (combK 2 D E)).length tc_w9]) ?_ rfl ⟨_,_,_,_,rfl,MP.fin H0.out.keep HkW.out HM.out bz.out (by simp) (by omega) k9 ?_⟩
 ·rw [results_cell1 rfl];go_simp
 ·intro p hp;simp only [List.mem_cons] at hp ⊢;grind
end
section
variable {S:List K} {w0 w w' W:World} {L M:List (Value × List (Iv K))} {D T E U P:List (Iv K)} {da ta ea ua pa:Option Addr} {dc tc ec uc pc:Nat}
theorem MP.rat (h:MP S w0 w L) (hD:(.slice da D.length dc,D)∈L) (hT:(.slice ta T.length tc,T)∈L) (t:K) :
  Calls Tryz.prog 18 #[.agg #[.slice da D.length dc,.slice ta T.length tc],kv t] w (BB2Post S w0 L (holds T t) (holds D t)):=by
 have H0:=jX h
 have hD:=jX hD
 have hT:=jX hT
 clear h
 generalize hr1:holds T t=r1
 generalize hr2:holds D t=r2
 have Hr1:=jX hr1
 have Hr2:=jX hr2
 clear hr1 hr2
 show Calls Tryz.prog _ #[_,.agg (kC t)] w _
 go_enter Tryz.func18,Tryz.ntmps18
 go_upto_region 1 with (fail)
 obtain⟨W,ga,gb,hW,ega,egb,bga,bgb,hga,hgb,hgW,hkW⟩:=al2 w (.cells #[.slice da D.length dc,.slice ta T.length tc] 29) (.cells (kC t) 36)
 rw [← hW]
 try rw [egb]
 try rw [ega]
 have Bga:=jX bga
 have Bgb:=jX bgb
 have HkW:=jX hkW
 clear hW hkW ega egb bga bgb
 have HM:=jX (H0.out.here.move HkW.out).here
 refine wp_region_heldT (S:=fun u=>Keep [] W u) 8 (by kernel_rfl) (by kernel_rfl) (fun _ _ d _ _ h=>by cases d<;>exact h) ?_
 have HM:=jX (HM.out.move (Keep.drew [] W))
 generalize World.drew W=u at *
 have hS0:=HM.out.keep
 refine' jV (v:=_) 0 hS0 (fun w hw=>?hf0) (fun K hK=>?kf0)
 case hf0=>(have pga:=cell_of (hw.heap Bga.out (by simp));go_simp;try rfl)
 go_simp
 refine hK _ ?_
 clear hK K
 refine' jV (v:=_) 1 hS0 (fun w hw=>?hf1) (fun K hK=>?kf1)
 case hf1=>(have pga:=cell_of (hw.heap Bga.out (by simp));go_simp;try rfl)
 go_simp
 refine hK _ ?_
 clear hK K
 refine jV (v:=.agg (kC t)) 2 hS0 (fun w hw=>exec_load _ _ ⟨gb,0,none⟩ _ rfl rfl (kw_k Bgb.out ⟨w,hw⟩)) (fun K hK=>?_)
 go_simp
 refine hK _ ?_
 clear hK K
 refine' jV (v:=_) 4 hS0 (fun w hw=>?hf4) (fun K hK=>?kf4)
 case hf4=>(have pga:=cell_of (hw.heap Bga.out (by simp));go_simp;try rfl)
 go_simp
 refine hK _ ?_
 clear hK K
 refine' jV (v:=_) 5 hS0 (fun w hw=>?hf5) (fun K hK=>?kf5)
 case hf5=>(have pga:=cell_of (hw.heap Bga.out (by simp));go_simp;try rfl)
 go_simp
 refine hK _ ?_
 clear hK K
 refine jV (v:=.agg (kC t)) 6 hS0 (fun w hw=>exec_load _ _ ⟨gb,0,none⟩ _ rfl rfl (kw_k Bgb.out ⟨w,hw⟩)) (fun K hK=>?_)
 go_simp
 refine hK _ ?_
 clear hK K
 refine jO 3 (fun K hK=>?_)
 refine wp_enter 23 #[.slice ta T.length tc,.agg (kC t)] (by go_simp) ?_
 refine (Hr1.out ▸ HM.out.hold (v:=.slice ta T.length tc) (a:=T) (by simp [hD.out,hT.out]) t).mono ?_
 rintro e w1 ⟨rfl,hm_w1⟩
 have HM:=jX hm_w1
 clear hm_w1
 refine ⟨_,rfl,?_⟩
 have hS0:=HM.out.keep
 go_simp
 refine hK _ _ hS0 ?_
 clear hK K
 refine jO 7 (fun K hK=>?_)
 refine wp_enter 23 #[.slice da D.length dc,.agg (kC t)] (by go_simp) ?_
 refine (Hr2.out ▸ HM.out.hold (v:=.slice da D.length dc) (a:=D) (by simp [hD.out,hT.out]) t).mono ?_
 rintro e w2 ⟨rfl,hm_w2⟩
 have HM:=jX hm_w2
 clear hm_w2
 refine ⟨_,rfl,?_⟩
 have hS0:=HM.out.keep
 go_simp
 refine hK _ _ hS0 ?_
 clear hK K
 refine ⟨by kernel_rfl,?_⟩
 simp only [List.drop_succ_cons,List.drop_zero]
 go_wp2_with fail
 refine bodyPost_ret (results_tmp2 rfl _ _ _) rfl ⟨rfl,H0.out.back HkW.out HM.out (fun p hp=>by simp [hp])⟩
theorem MP.req (h:MP S w0 w L) (hD:(.slice da D.length dc,D)∈L) (hT:(.slice ta T.length tc,T)∈L) (hE:(.slice ea E.length ec,E)∈L) (hU:(.slice ua U.length uc,U)∈L) :
  Calls Tryz.prog 27 #[.agg #[.slice da D.length dc,.slice ta T.length tc],.agg #[.slice ea E.length ec,.slice ua U.length uc]] w (BoolPost S w0 L (decide (D=E)&&decide (T=U))):=by
 have H0:=jX h
 have hD:=jX hD
 have hT:=jX hT
 have hE:=jX hE
 have hU:=jX hU
 clear h
 have K1:=jX (fun b u M (h:MP S b u M) (h1:(.slice da D.length dc,D)∈M) (h2:(.slice ea E.length ec,E)∈M)=>h.eqd h1 h2)
 have K2:=jX (fun b u M (h:MP S b u M) (h1:(.slice ta T.length tc,T)∈M) (h2:(.slice ua U.length uc,U)∈M)=>h.eqd h1 h2)
 cases hr:decide (D=E) with
 | false =>
  rw [hr] at K1
  clear K2
  generalize decide (T=U)=q
  go_enter Tryz.func27,Tryz.ntmps27
  go_upto_region 1 with (fail)
  obtain⟨W,ga,gb,hW,ega,egb,bga,bgb,hga,hgb,hgW,hkW⟩:=al2 w (.cells #[.slice da D.length dc,.slice ta T.length tc] 29) (.cells #[.slice ea E.length ec,.slice ua U.length uc] 29)
  rw [← hW]
  try rw [egb]
  try rw [ega]
  have Bga:=jX bga
  have Bgb:=jX bgb
  have HkW:=jX hkW
  clear hW hkW ega egb bga bgb
  have HM:=jX (H0.out.here.move HkW.out).here
  have pga:=cell_of (HM.out.keep.heap Bga.out (by simp))
  have pgb:=cell_of (HM.out.keep.heap Bgb.out (by simp))
  go_wp2_with fail
  refine (K1.out _ _ _ HM.out hD.out hE.out).mono ?_
  rintro e w1 ⟨rfl,hm_w1⟩
  dsimp only
  have HM:=jX hm_w1
  clear hm_w1
  clear pga pgb
  go_wp2_with fail
  go_ret
  exact ⟨rfl,H0.out.back HkW.out HM.out (fun p hp=>by simp [hp])⟩
 | true =>
  rw [hr] at K1
  rw [Bool.true_and]
  generalize decide (T=U)=q at *
  go_enter Tryz.func27,Tryz.ntmps27
  go_upto_region 1 with (fail)
  obtain⟨W,ga,gb,hW,ega,egb,bga,bgb,hga,hgb,hgW,hkW⟩:=al2 w (.cells #[.slice da D.length dc,.slice ta T.length tc] 29) (.cells #[.slice ea E.length ec,.slice ua U.length uc] 29)
  rw [← hW]
  try rw [egb]
  try rw [ega]
  have Bga:=jX bga
  have Bgb:=jX bgb
  have HkW:=jX hkW
  clear hW hkW ega egb bga bgb
  have HM:=jX (H0.out.here.move HkW.out).here
  have pga:=cell_of (HM.out.keep.heap Bga.out (by simp))
  have pgb:=cell_of (HM.out.keep.heap Bgb.out (by simp))
  go_wp2_with fail
  refine (K1.out _ _ _ HM.out hD.out hE.out).mono ?_
  rintro e w1 ⟨rfl,hm_w1⟩
  dsimp only
  have HM:=jX hm_w1
  clear hm_w1
  clear pga pgb
  have pga:=cell_of (HM.out.keep.heap Bga.out (by simp))
  have pgb:=cell_of (HM.out.keep.heap Bgb.out (by simp))
  go_wp2_with fail
  refine (K2.out _ _ _ HM.out hT.out hU.out).mono ?_
  rintro e w2 ⟨rfl,hm_w2⟩
  dsimp only
  have HM:=jX hm_w2
  clear hm_w2
  clear pga pgb
  go_wp2_with fail
  go_ret
  exact ⟨rfl,H0.out.back HkW.out HM.out (fun p hp=>by simp [hp])⟩
end
section
variable {S:List K} {w0 w w' W V:World} {L M:List (Value × List (Iv K))}
end
theorem lreal_c (a:InsA) (w:World):Calls Tryz.prog 16 #[a.v] w fun e w'=>e = .returned (kv a.k)∧Keep [] w w':=by
 have HI:=jX (instant_c a)
 have hv:a.v = .agg #[.int .u8 a.P,.int .u8 a.D,.int .u8 a.R,.int .u8 a.E,.bool a.neg]:=rfl
 rw [hv] at HI ⊢
 generalize (a.P:Int)=P1 at *
 generalize (a.D:Int)=P2 at *
 generalize (a.R:Int)=P3 at *
 generalize (a.E:Int)=P4 at *
 generalize a.neg=P5 at *
 generalize a.k=t at *
 go_enter Tryz.func16,Tryz.ntmps16
 go_upto_region 1 with (fail)
 obtain⟨W,ga,gb,hW,ega,egb,bga,bgb,hga,hgb,hgW,hkW⟩:=al2 w (.cells #[.int .u8 P1,.int .u8 P2,.int .u8 P3,.int .u8 P4,.bool P5] 26) (.cells #[.bool false,.string ⟨#[]⟩,.bool false,.string ⟨#[]⟩,.bool false,.string ⟨#[]⟩,.bool false,.string ⟨#[]⟩,.bool false] 36)
 rw [← hW]
 try rw [egb]
 try rw [ega]
 have Bga:=jX bga
 have Bgb:=jX bgb
 have HkW:=jX hkW
 clear hW hkW ega egb bga bgb
 have pga:=cell_of Bga.out
 refine wp_region_lit ?_
 refine' wpList_R (v:=_) (by rfl) (?ha) (fun K hK=>?ka)
 case ha=>(go_simp;try rfl)
 go_simp
 refine hK _ _ ?_
 clear hK K
 refine wpList_plain (by rfl) (fun K hK=>?_)
 refine wp_enter 64 #[.agg #[.int .u8 P1,.int .u8 P2,.int .u8 P3,.int .u8 P4,.bool P5]] (by go_simp) ?_
 refine (HI.out _).mono ?_
 rintro e w2 ⟨rfl,hk2⟩
 refine ⟨_,rfl,?_⟩
 go_simp
 refine hK _ _ ?_
 clear hK K pga
 have Bz:=jX (hk2.heap Bgb.out (by simp))
 refine wpList_rowK (by rfl) _ _ _ rfl gb (kC t) rfl rfl _ _ Bz.out (by exact k_size) (by rfl) (all_oneCell_toArray (kcells_one t.1)) (fun K hK=>?_)
 obtain⟨w4,e4,b4,k4⟩:=setRow_at (cs:=kC t) Bz.out
 rw [e4]
 go_simp
 refine hK _ _ ?_
 clear hK K e4
 have HL:=jX (load_real w4 gb 0 t.1 (kAt_box b4))
 have HkZ:=jX ((HkW.out.trans0 hk2).trans k4 (by simp;omega))
 clear b4 k4
 go_wp2_with fail
 refine bodyPost_ret (v:=kv t) ?_ rfl ⟨rfl,HkZ.out⟩
 rw [results_cell1 rfl]
 change ((loadVar 36 ⟨gb,0,none⟩).run Tryz.prog w4)=_
 rw [HL.out]
 rfl
structure InsC (v:Value) (k:K):Prop where
 form:∃ p1 p2 p3 p4 b,v = .agg #[.int .u8 p1,.int .u8 p2,.int .u8 p3,.int .u8 p4,.bool b]
 call:∀ u,Calls Tryz.prog 16 #[v] u fun e w'=>e = .returned (.agg (kC k))∧Keep [] u w'
theorem insC_of {w:World} {v:Value} (h:InsArg w v):∃ k,InsC v k:=by
 obtain⟨a,rfl⟩:=h
 exact ⟨a.k,⟨_,_,_,_,_,rfl⟩,fun u=>lreal_c a u⟩
theorem holds_comb (op:Int) (a b:List (Iv K)) (t:K):holds (combK op a b) t=decV op (holds a t) (holds b t):=by rw [holds_has,holds_has,holds_has,combK_has]
theorem holds_sub {T D:List (Iv K)} (h:SubL T D) (t:K):holds T t=true→holds D t=true:=by rw [holds_has,holds_has];exact h _
section
variable {P:Program} {ops:Array Oper} {md:Region.Mode} {S:World→Prop} {Q:Exit→Act→World→Prop}
end
section
variable {S:List K} {w0 w w' W:World} {L M:List (Value × List (Iv K))} {D T E U P:List (Iv K)} {da ta ea ua pa:Option Addr} {dc tc ec uc pc:Nat}
theorem MP.reqT (h:MP S w0 w L) (hD:(.slice da D.length dc,D)∈L) (hT:(.slice ta T.length tc,T)∈L) (hE:(.slice ea E.length ec,E)∈L) (hU:(.slice ua U.length uc,U)∈L) (h1:D=E) (h2:T=U) :
  Calls Tryz.prog 27 #[.agg #[.slice da D.length dc,.slice ta T.length tc],.agg #[.slice ea E.length ec,.slice ua U.length uc]] w (BoolPost S w0 L true):=by
 have:=h.req hD hT hE hU
 rw [decide_eq_true h1,decide_eq_true h2] at this
 exact this
theorem MP.matT (h:MP S w0 w L) (hD:(.slice da D.length dc,D)∈L) (hT:(.slice ta T.length tc,T)∈L) {t:K} {q r:Bool} (hq:holds T t=q) (hr:holds D t=r) :
  Calls Tryz.prog 17 #[.agg #[.slice da D.length dc,.slice ta T.length tc],.agg (kC t)] w (BB2Post S w0 L q r):=by
 subst hq hr
 exact h.mat hD hT t
theorem MP.ratT (h:MP S w0 w L) (hD:(.slice da D.length dc,D)∈L) (hT:(.slice ta T.length tc,T)∈L) {t:K} {q r:Bool} (hq:holds T t=q) (hr:holds D t=r) :
  Calls Tryz.prog 18 #[.agg #[.slice da D.length dc,.slice ta T.length tc],.agg (kC t)] w (BB2Post S w0 L q r):=by
 subst hq hr
 exact h.rat hD hT t
end
theorem movingboolLifts_c (w:World) (v0 v1 v2:Value) (m0:MovArg w v0) (m1:MovArg w v1) (m2:InsArg w v2):Calls Tryz.prog 6 #[v0,v1,v2] w fun e w'=>e = .returned (.bool true)∧Keep [] w w':=by
 obtain⟨l0,q0,D0,T0,c0⟩:=movC_of m0
 obtain⟨l1,q1,D1,T1,c1⟩:=movC_of m1
 obtain⟨k2,C2⟩:=insC_of m2
 have hS:(l0++l1).length≤1000:=by simp only [List.length_append];omega
 have C0:=c0 (l0++l1) (by simp +contextual)
 have C1:=c1 (l0++l1) (by simp +contextual)
 generalize l0++l1=S at *
 obtain⟨ao0,an0,ac0,bo0,bn0,bc0,rfl⟩:=C0.form
 have nD0:=C0.nD
 have nT0:=C0.nT
 have sT0:=C0.sub
 obtain⟨ao1,an1,ac1,bo1,bn1,bc1,rfl⟩:=C1.form
 have nD1:=C1.nD
 have nT1:=C1.nT
 have sT1:=C1.sub
 obtain⟨x1,x2,x3,x4,x5,rfl⟩:=C2.form
 have HC0:=jX C0
 have HC1:=jX C1
 have HC2:=jX C2
 clear m2 C2
 clear m0 q0 c0 C0 m1 q1 c1 C1 l0 l1
 have h0:=holds_sub sT0 k2
 have h1:=holds_sub sT1 k2
 obtain⟨q0,e0⟩:∃ q,holds T0 k2=q:=⟨_,rfl⟩
 obtain⟨r0,e1⟩:∃ q,holds D0 k2=q:=⟨_,rfl⟩
 obtain⟨q1,e2⟩:∃ q,holds T1 k2=q:=⟨_,rfl⟩
 obtain⟨r1,e3⟩:∃ q,holds D1 k2=q:=⟨_,rfl⟩
 rw [e0,e1] at h0
 rw [e2,e3] at h1
 have i1:holds (combK 2 D0 D1) k2=(r0&&r1):=by simp only [holds_comb,e0,e1,e2,e3];rfl
 have a1:holds (combK 2 (combK 2 D0 D1) (combK 2 T0 T1)) k2=((r0&&r1)&&(q0&&q1)):=by simp only [holds_comb,e0,e1,e2,e3];rfl
 have a2:holds (combK 2 (combK 2 D0 D1) (combK 1 T0 T1)) k2=((r0&&r1)&&(q0 || q1)):=by simp only [holds_comb,e0,e1,e2,e3];rfl
 have a3:holds (combK 2 (combK 2 D0 D1) (combK 1 (combK 3 T0 T1) (combK 3 T1 T0))) k2=((r0&&r1)&&((q0 && !q1) || (q1 && !q0))):=by simp only [holds_comb,e0,e1,e2,e3];rfl
 have a4:holds (combK 3 D0 T0) k2=(r0 && !q0):=by simp only [holds_comb,e0,e1,e2,e3];rfl
 have Xe0:=jX e0
 have Xe1:=jX e1
 have Xe2:=jX e2
 have Xe3:=jX e3
 have Xh0:=jX h0
 have Xh1:=jX h1
 have Xi1:=jX i1
 have Xa1:=jX a1
 have Xa2:=jX a2
 have Xa3:=jX a3
 have Xa4:=jX a4
 clear e0 e1 e2 e3 h0 h1 i1 a1 a2 a3 a4
 have E1:=jX (alg1 (combK 2 D0 D1) (combK 2 T0 T1))
 have E2:=jX (alg1 (combK 2 D0 D1) (combK 1 T0 T1))
 have E3:=jX (mb_differ T0 T1 (combK 2 D0 D1))
 have E4:=jX (mb_not sT0).symm
 go_enter Tryz.func6,Tryz.ntmps6
 go_upto_region 1 with (fail)
 obtain⟨W,ga,gb,gc,hW,ega,egb,egc,bga,bgb,bgc,hga,hgb,hgc,hgW,hkW⟩:=al3 w (.cells #[.slice ao0 an0 ac0,.slice bo0 bn0 bc0] 24) (.cells #[.slice ao1 an1 ac1,.slice bo1 bn1 bc1] 24) (.cells #[.int .u8 x1,.int .u8 x2,.int .u8 x3,.int .u8 x4,.bool x5] 26)
 rw [← hW]
 try rw [egc]
 try rw [egb]
 try rw [ega]
 have Bga:=jX bga
 have Bgb:=jX bgb
 have Bgc:=jX bgc
 have HkW:=jX hkW
 clear hW hkW ega egb egc bga bgb bgc
 have HM:=jX (MP.start hS W)
 have HK:=jX HkW.out
 clear hS HkW
 refine wp_region_heldN (S:=fun u=>Keep [] W u) 9 [(7,29),(8,29),(9,36)] (fun t=>if t=29 then .cells #[.slice none 0 0,.slice none 0 0] 29 else .cells #[.bool false,.string ⟨#[]⟩,.bool false,.string ⟨#[]⟩,.bool false,.string ⟨#[]⟩,.bool false,.string ⟨#[]⟩,.bool false] 36) (by kernel_rfl) (by kernel_rfl) (by kernel_rfl) (fun t ht ev w o ho=>(by simp at ht;rcases ht with rfl|rfl<;>first|(rw [if_pos rfl];exact al_bool ev w o ho)|(rw [if_neg (by decide)];exact al_real ev w o ho))) (fun _ _ d _ _ h=>by cases d<;>exact h) (fun _ _ d _ _ h=>by cases d<;>exact h) (fun _ _ h k=>h.trans0 k) ?_
 simp only [List.map_cons,List.map_nil,unal,isAl,if_true,if_false,Bool.false_eq_true]
 have hS0:=Keep.drew [] W
 have HM:=jX (HM.out.move hS0).here
 generalize World.drew W=u at *
 refine' jN (v:=_) 0 hS0 (fun _ _ h k=>h.trans0 k) (fun w hw=>?hr10) (fun K hK=>?kr10)
 case hr10=>(have pga:=cell_of (hw.heap Bga.out (by simp));go_simp;try rfl)
 go_simp
 refine hK _ ?_
 clear hK K
 refine' jN (v:=_) 2 hS0 (fun _ _ h k=>h.trans0 k) (fun w hw=>?hr12) (fun K hK=>?kr12)
 case hr12=>(have pgb:=cell_of (hw.heap Bgb.out (by simp));go_simp;try rfl)
 go_simp
 refine hK _ ?_
 clear hK K
 refine' jN (v:=_) 4 hS0 (fun _ _ h k=>h.trans0 k) (fun w hw=>?hr14) (fun K hK=>?kr14)
 case hr14=>(have pgc:=cell_of (hw.heap Bgc.out (by simp));go_simp;try rfl)
 go_simp
 refine hK _ ?_
 clear hK K
 refine' jN (v:=_) 6 hS0 (fun _ _ h k=>h.trans0 k) (fun w hw=>?hr16) (fun K hK=>?kr16)
 case hr16=>(go_simp;try rfl)
 go_simp
 refine hK _ ?_
 clear hK K
 refine' jN (v:=_) 7 hS0 (fun _ _ h k=>h.trans0 k) (fun w hw=>?hr17) (fun K hK=>?kr17)
 case hr17=>(go_simp;try rfl)
 go_simp
 refine hK _ ?_
 clear hK K
 refine' jN (v:=_) 8 hS0 (fun _ _ h k=>h.trans0 k) (fun w hw=>?hr18) (fun K hK=>?kr18)
 case hr18=>(go_simp;try rfl)
 go_simp
 refine hK _ ?_
 clear hK K
 refine jM 1 (fun u hu K hK=>?_)
 have HM:=jX (HM.out.move hu).here
 have hS0:=hS0.trans0 hu
 clear hu
 refine wp_enter 15 #[.agg #[.slice ao0 an0 ac0,.slice bo0 bn0 bc0]] (by go_simp) ?_
 refine (HC0.out.call _ _ _ (HK.out.trans0 hS0) HM.out).mono ?_
 rintro e w1 ⟨da_w1,dc_w1,ta_w1,tc_w1,rfl,hm_w1⟩
 have hk:=hm_w1.keep
 have HM:=jX hm_w1.here
 clear hm_w1
 have hS0:=hS0.trans0 hk
 refine ⟨_,rfl,?_⟩
 go_simp
 refine hK _ _ hS0 hk ?_
 clear hK K hk
 refine jM 3 (fun u hu K hK=>?_)
 have HM:=jX (HM.out.move hu).here
 have hS0:=hS0.trans0 hu
 clear hu
 refine wp_enter 15 #[.agg #[.slice ao1 an1 ac1,.slice bo1 bn1 bc1]] (by go_simp) ?_
 refine (HC1.out.call _ _ _ (HK.out.trans0 hS0) HM.out).mono ?_
 rintro e w2 ⟨da_w2,dc_w2,ta_w2,tc_w2,rfl,hm_w2⟩
 have hk:=hm_w2.keep
 have HM:=jX hm_w2.here
 clear hm_w2
 have hS0:=hS0.trans0 hk
 refine ⟨_,rfl,?_⟩
 go_simp
 refine hK _ _ hS0 hk ?_
 clear hK K hk
 refine jM 5 (fun u hu K hK=>?_)
 have HM:=jX (HM.out.move hu).here
 have hS0:=hS0.trans0 hu
 clear hu
 refine wp_enter 16 #[.agg #[.int .u8 x1,.int .u8 x2,.int .u8 x3,.int .u8 x4,.bool x5]] (by go_simp) ?_
 refine (HC2.out.call _).mono ?_
 rintro e w3 ⟨rfl,hk⟩
 have HM:=jX (HM.out.move hk).here
 have hS0:=hS0.trans0 hk
 refine ⟨_,rfl,?_⟩
 go_simp
 refine hK _ _ hS0 hk ?_
 clear hK K hk
 intro w4 hu
 have HM:=jX (HM.out.move hu).here
 have hS0:=hS0.trans0 hu
 clear hu
 refine ⟨by kernel_rfl,fun p hp1 hp2 _ hz=>?_⟩
 simp only [List.map_cons,List.map_nil,pl,List.drop_succ_cons,List.drop_zero]
 have b7:=hz (7,29) (by simp)
 have h7:=hp1 7 (by simp)
 have b8:=hz (8,29) (by simp)
 have h8:=hp1 8 (by simp)
 have b9:=hz (9,36) (by simp)
 have h9:=hp1 9 (by simp)
 have n7_8:p 7≠p 8:=fun h=>absurd (hp2 7 (by simp) 8 (by simp) h) (by decide)
 have n7_9:p 7≠p 9:=fun h=>absurd (hp2 7 (by simp) 9 (by simp) h) (by decide)
 have n8_9:p 8≠p 9:=fun h=>absurd (hp2 8 (by simp) 9 (by simp) h) (by decide)
 dsimp only at b7 b8 b9
 rw [if_pos rfl] at b7
 rw [if_pos rfl] at b8
 rw [if_neg (by decide)] at b9
 generalize p 7=g7 at *
 generalize p 8=g8 at *
 generalize p 9=g9 at *
 clear hz hp1 hp2 p
 have HM:=jX (HM.out.re hS0)
 clear hS0
 go_simp
 refine wpList_rowK (by rfl) _ _ _ rfl g7 (#[.slice da_w1 D0.length dc_w1,.slice ta_w1 T0.length tc_w1]) rfl rfl _ _ b7 (by exact b_size) (by rfl) (b_one _ _ _ _ _ _) (fun K hK=>?_)
 have o7:=b7
 clear b7
 obtain⟨w5,e7,b7,k7⟩:=setRow_at (cs:=#[.slice da_w1 D0.length dc_w1,.slice ta_w1 T0.length tc_w1]) o7
 rw [e7]
 go_simp
 refine hK _ _ ?_
 clear hK K e7
 have b8:=k7.heap b8 (by simp [n7_8,n7_8.symm])
 have b9:=k7.heap b9 (by simp [n7_9,n7_9.symm])
 have HM:=jX (HM.out.put o7 (by simp) k7 h7)
 clear k7 o7
 refine wpList_rowK (by rfl) _ _ _ rfl g8 (#[.slice da_w2 D1.length dc_w2,.slice ta_w2 T1.length tc_w2]) rfl rfl _ _ b8 (by exact b_size) (by rfl) (b_one _ _ _ _ _ _) (fun K hK=>?_)
 have o8:=b8
 clear b8
 obtain⟨w6,e8,b8,k8⟩:=setRow_at (cs:=#[.slice da_w2 D1.length dc_w2,.slice ta_w2 T1.length tc_w2]) o8
 rw [e8]
 go_simp
 refine hK _ _ ?_
 clear hK K e8
 have b7:=k8.heap b7 (by simp [n7_8,n7_8.symm])
 have b9:=k8.heap b9 (by simp [n8_9,n8_9.symm])
 have HM:=jX (HM.out.put o8 (by simp) k8 h8)
 clear k8 o8
 refine wpList_rowK (by rfl) _ _ _ rfl g9 ((kC k2)) rfl rfl _ _ b9 (by exact k_size) (by rfl) (all_oneCell_toArray (kcells_one k2.1)) (fun K hK=>?_)
 have o9:=b9
 clear b9
 obtain⟨w7,e9,b9,k9⟩:=setRow_at (cs:=(kC k2)) o9
 rw [e9]
 go_simp
 refine hK _ _ ?_
 clear hK K e9
 have b7:=k9.heap b7 (by simp [n7_9,n7_9.symm])
 have b8:=k9.heap b8 (by simp [n8_9,n8_9.symm])
 have HM:=jX (HM.out.put o9 (by simp) k9 h9)
 clear k9 o9
 have hk:=HM.out.keep
 have HM:=jX HM.out.here
 have HK:=jX (HK.out.trans0 hk)
 have Bg7:=jX b7
 have Bg8:=jX b8
 have Bg9:=jX b9
 clear hk b7 h7 b8 h8 b9 h9 n7_8 n7_9 n8_9
 clear Bga Bgb Bgc HC0 HC1 HC2
 go_upto_region 2 with (fail)
 refine wp_region_heldN (S:=fun u=>Keep [] w7 u) 15 [(10,29),(11,29),(12,29),(13,29)] (fun _=>.cells #[.slice none 0 0,.slice none 0 0] 29) (by kernel_rfl) (by kernel_rfl) (by kernel_rfl) (fun t ht ev w o ho=>(by simp at ht;subst ht;exact al_bool ev w o ho)) (fun _ _ d _ _ h=>by cases d<;>exact h) (fun _ _ d _ _ h=>by cases d<;>exact h) (fun _ _ h k=>h.trans0 k) ?_
 simp only [List.map_cons,List.map_nil,unal,isAl,if_true,if_false,Bool.false_eq_true]
 have hS0:=Keep.drew [] w7
 have HM:=jX (HM.out.move hS0).here
 generalize World.drew w7=u at *
 refine' jN (v:=_) 0 hS0 (fun _ _ h k=>h.trans0 k) (fun w hw=>?hr20) (fun K hK=>?kr20)
 case hr20=>(have pg7:=cell_of (hw.heap Bg7.out (by simp));go_simp;try rfl)
 go_simp
 refine hK _ ?_
 clear hK K
 refine' jN (v:=_) 1 hS0 (fun _ _ h k=>h.trans0 k) (fun w hw=>?hr21) (fun K hK=>?kr21)
 case hr21=>(have pg8:=cell_of (hw.heap Bg8.out (by simp));go_simp;try rfl)
 go_simp
 refine hK _ ?_
 clear hK K
 refine' jN (v:=_) 3 hS0 (fun _ _ h k=>h.trans0 k) (fun w hw=>?hr23) (fun K hK=>?kr23)
 case hr23=>(have pg7:=cell_of (hw.heap Bg7.out (by simp));go_simp;try rfl)
 go_simp
 refine hK _ ?_
 clear hK K
 refine' jN (v:=_) 4 hS0 (fun _ _ h k=>h.trans0 k) (fun w hw=>?hr24) (fun K hK=>?kr24)
 case hr24=>(have pg8:=cell_of (hw.heap Bg8.out (by simp));go_simp;try rfl)
 go_simp
 refine hK _ ?_
 clear hK K
 refine' jN (v:=_) 6 hS0 (fun _ _ h k=>h.trans0 k) (fun w hw=>?hr26) (fun K hK=>?kr26)
 case hr26=>(have pg7:=cell_of (hw.heap Bg7.out (by simp));go_simp;try rfl)
 go_simp
 refine hK _ ?_
 clear hK K
 refine' jN (v:=_) 7 hS0 (fun _ _ h k=>h.trans0 k) (fun w hw=>?hr27) (fun K hK=>?kr27)
 case hr27=>(have pg8:=cell_of (hw.heap Bg8.out (by simp));go_simp;try rfl)
 go_simp
 refine hK _ ?_
 clear hK K
 refine' jN (v:=_) 9 hS0 (fun _ _ h k=>h.trans0 k) (fun w hw=>?hr29) (fun K hK=>?kr29)
 case hr29=>(have pg7:=cell_of (hw.heap Bg7.out (by simp));go_simp;try rfl)
 go_simp
 refine hK _ ?_
 clear hK K
 refine' jN (v:=_) 11 hS0 (fun _ _ h k=>h.trans0 k) (fun w hw=>?hr211) (fun K hK=>?kr211)
 case hr211=>(go_simp;try rfl)
 go_simp
 refine hK _ ?_
 clear hK K
 refine' jN (v:=_) 12 hS0 (fun _ _ h k=>h.trans0 k) (fun w hw=>?hr212) (fun K hK=>?kr212)
 case hr212=>(go_simp;try rfl)
 go_simp
 refine hK _ ?_
 clear hK K
 refine' jN (v:=_) 13 hS0 (fun _ _ h k=>h.trans0 k) (fun w hw=>?hr213) (fun K hK=>?kr213)
 case hr213=>(go_simp;try rfl)
 go_simp
 refine hK _ ?_
 clear hK K
 refine' jN (v:=_) 14 hS0 (fun _ _ h k=>h.trans0 k) (fun w hw=>?hr214) (fun K hK=>?kr214)
 case hr214=>(go_simp;try rfl)
 go_simp
 refine hK _ ?_
 clear hK K
 refine jM 2 (fun u hu K hK=>?_)
 have HM:=jX (HM.out.move hu).here
 have hS0:=hS0.trans0 hu
 clear hu
 refine wp_enter 29 #[.agg #[.slice da_w1 D0.length dc_w1,.slice ta_w1 T0.length tc_w1],.agg #[.slice da_w2 D1.length dc_w2,.slice ta_w2 T1.length tc_w2]] (by go_simp) ?_
 refine (HM.out.mand (ma 2 rfl) (ma 3 rfl) (ma 0 rfl) (ma 1 rfl)).mono ?_
 rintro e w8 ⟨da_w8,dc_w8,ta_w8,tc_w8,rfl,hm_w8⟩
 have hk:=hm_w8.keep
 have HM:=jX hm_w8.here
 clear hm_w8
 have hS0:=hS0.trans0 hk
 refine ⟨_,rfl,?_⟩
 go_simp
 refine hK _ _ hS0 hk ?_
 clear hK K hk
 refine jM 5 (fun u hu K hK=>?_)
 have HM:=jX (HM.out.move hu).here
 have hS0:=hS0.trans0 hu
 clear hu
 refine wp_enter 30 #[.agg #[.slice da_w1 D0.length dc_w1,.slice ta_w1 T0.length tc_w1],.agg #[.slice da_w2 D1.length dc_w2,.slice ta_w2 T1.length tc_w2]] (by go_simp) ?_
 refine (HM.out.mor (ma 4 rfl) (ma 5 rfl) (ma 2 rfl) (ma 3 rfl)).mono ?_
 rintro e w9 ⟨da_w9,dc_w9,ta_w9,tc_w9,rfl,hm_w9⟩
 have hk:=hm_w9.keep
 have HM:=jX hm_w9.here
 clear hm_w9
 have hS0:=hS0.trans0 hk
 refine ⟨_,rfl,?_⟩
 go_simp
 refine hK _ _ hS0 hk ?_
 clear hK K hk
 refine jM 8 (fun u hu K hK=>?_)
 have HM:=jX (HM.out.move hu).here
 have hS0:=hS0.trans0 hu
 clear hu
 refine wp_enter 31 #[.agg #[.slice da_w1 D0.length dc_w1,.slice ta_w1 T0.length tc_w1],.agg #[.slice da_w2 D1.length dc_w2,.slice ta_w2 T1.length tc_w2]] (by go_simp) ?_
 refine (HM.out.mdiffer (ma 6 rfl) (ma 7 rfl) (ma 4 rfl) (ma 5 rfl)).mono ?_
 rintro e w10 ⟨da_w10,dc_w10,ta_w10,tc_w10,rfl,hm_w10⟩
 have hk:=hm_w10.keep
 have HM:=jX hm_w10.here
 clear hm_w10
 have hS0:=hS0.trans0 hk
 refine ⟨_,rfl,?_⟩
 go_simp
 refine hK _ _ hS0 hk ?_
 clear hK K hk
 refine jM 10 (fun u hu K hK=>?_)
 have HM:=jX (HM.out.move hu).here
 have hS0:=hS0.trans0 hu
 clear hu
 refine wp_enter 32 #[.agg #[.slice da_w1 D0.length dc_w1,.slice ta_w1 T0.length tc_w1]] (by go_simp) ?_
 refine (HM.out.mnot (ma 8 rfl) (ma 9 rfl)).mono ?_
 rintro e w11 ⟨da_w11,dc_w11,ta_w11,tc_w11,rfl,hm_w11⟩
 have hk:=hm_w11.keep
 have HM:=jX hm_w11.here
 clear hm_w11
 have hS0:=hS0.trans0 hk
 refine ⟨_,rfl,?_⟩
 go_simp
 refine hK _ _ hS0 hk ?_
 clear hK K hk
 intro w12 hu
 have HM:=jX (HM.out.move hu).here
 have hS0:=hS0.trans0 hu
 clear hu
 refine ⟨by kernel_rfl,fun p hp1 hp2 _ hz=>?_⟩
 simp only [List.map_cons,List.map_nil,pl,List.drop_succ_cons,List.drop_zero]
 have b10:=hz (10,29) (by simp)
 have h10:=hp1 10 (by simp)
 have b11:=hz (11,29) (by simp)
 have h11:=hp1 11 (by simp)
 have b12:=hz (12,29) (by simp)
 have h12:=hp1 12 (by simp)
 have b13:=hz (13,29) (by simp)
 have h13:=hp1 13 (by simp)
 have n10_11:p 10≠p 11:=fun h=>absurd (hp2 10 (by simp) 11 (by simp) h) (by decide)
 have n10_12:p 10≠p 12:=fun h=>absurd (hp2 10 (by simp) 12 (by simp) h) (by decide)
 have n10_13:p 10≠p 13:=fun h=>absurd (hp2 10 (by simp) 13 (by simp) h) (by decide)
 have n11_12:p 11≠p 12:=fun h=>absurd (hp2 11 (by simp) 12 (by simp) h) (by decide)
 have n11_13:p 11≠p 13:=fun h=>absurd (hp2 11 (by simp) 13 (by simp) h) (by decide)
 have n12_13:p 12≠p 13:=fun h=>absurd (hp2 12 (by simp) 13 (by simp) h) (by decide)
 dsimp only at b10 b11 b12 b13
 generalize p 10=g10 at *
 generalize p 11=g11 at *
 generalize p 12=g12 at *
 generalize p 13=g13 at *
 clear hz hp1 hp2 p
 have HM:=jX (HM.out.re hS0)
 clear hS0
 go_simp
 refine wpList_rowK (by rfl) _ _ _ rfl g10 (#[.slice da_w8 (combK 2 D0 D1).length dc_w8,.slice ta_w8 (combK 2 (combK 2 D0 D1) (combK 2 T0 T1)).length tc_w8]) rfl rfl _ _ b10 (by exact b_size) (by rfl) (b_one _ _ _ _ _ _) (fun K hK=>?_)
 have o10:=b10
 clear b10
 obtain⟨w13,e10,b10,k10⟩:=setRow_at (cs:=#[.slice da_w8 (combK 2 D0 D1).length dc_w8,.slice ta_w8 (combK 2 (combK 2 D0 D1) (combK 2 T0 T1)).length tc_w8]) o10
 rw [e10]
 go_simp
 refine hK _ _ ?_
 clear hK K e10
 have b11:=k10.heap b11 (by simp [n10_11,n10_11.symm])
 have b12:=k10.heap b12 (by simp [n10_12,n10_12.symm])
 have b13:=k10.heap b13 (by simp [n10_13,n10_13.symm])
 have HM:=jX (HM.out.put o10 (by simp) k10 h10)
 clear k10 o10
 refine wpList_rowK (by rfl) _ _ _ rfl g11 (#[.slice da_w9 (combK 2 D0 D1).length dc_w9,.slice ta_w9 (combK 2 (combK 2 D0 D1) (combK 1 T0 T1)).length tc_w9]) rfl rfl _ _ b11 (by exact b_size) (by rfl) (b_one _ _ _ _ _ _) (fun K hK=>?_)
 have o11:=b11
 clear b11
 obtain⟨w14,e11,b11,k11⟩:=setRow_at (cs:=#[.slice da_w9 (combK 2 D0 D1).length dc_w9,.slice ta_w9 (combK 2 (combK 2 D0 D1) (combK 1 T0 T1)).length tc_w9]) o11
 rw [e11]
 go_simp
 refine hK _ _ ?_
 clear hK K e11
 have b10:=k11.heap b10 (by simp [n10_11,n10_11.symm])
 have b12:=k11.heap b12 (by simp [n11_12,n11_12.symm])
 have b13:=k11.heap b13 (by simp [n11_13,n11_13.symm])
 have HM:=jX (HM.out.put o11 (by simp) k11 h11)
 clear k11 o11
 refine wpList_rowK (by rfl) _ _ _ rfl g12 (#[.slice da_w10 (combK 2 D0 D1).length dc_w10,.slice ta_w10 (combK 2 (combK 2 D0 D1) (combK 1 (combK 3 T0 T1) (combK 3 T1 T0))).length tc_w10]) rfl rfl _ _ b12 (by exact b_size) (by rfl) (b_one _ _ _ _ _ _) (fun K hK=>?_)
 have o12:=b12
 clear b12
 obtain⟨w15,e12,b12,k12⟩:=setRow_at (cs:=#[.slice da_w10 (combK 2 D0 D1).length dc_w10,.slice ta_w10 (combK 2 (combK 2 D0 D1) (combK 1 (combK 3 T0 T1) (combK 3 T1 T0))).length tc_w10]) o12
 rw [e12]
 go_simp
 refine hK _ _ ?_
 clear hK K e12
 have b10:=k12.heap b10 (by simp [n10_12,n10_12.symm])
 have b11:=k12.heap b11 (by simp [n11_12,n11_12.symm])
 have b13:=k12.heap b13 (by simp [n12_13,n12_13.symm])
 have HM:=jX (HM.out.put o12 (by simp) k12 h12)
 clear k12 o12
 refine wpList_rowK (by rfl) _ _ _ rfl g13 (#[.slice da_w11 D0.length dc_w11,.slice ta_w11 (combK 3 D0 T0).length tc_w11]) rfl rfl _ _ b13 (by exact b_size) (by rfl) (b_one _ _ _ _ _ _) (fun K hK=>?_)
 have o13:=b13
 clear b13
 obtain⟨w16,e13,b13,k13⟩:=setRow_at (cs:=#[.slice da_w11 D0.length dc_w11,.slice ta_w11 (combK 3 D0 T0).length tc_w11]) o13
 rw [e13]
 go_simp
 refine hK _ _ ?_
 clear hK K e13
 have b10:=k13.heap b10 (by simp [n10_13,n10_13.symm])
 have b11:=k13.heap b11 (by simp [n11_13,n11_13.symm])
 have b12:=k13.heap b12 (by simp [n12_13,n12_13.symm])
 have HM:=jX (HM.out.put o13 (by simp) k13 h13)
 clear k13 o13
 have hk:=HM.out.keep
 have HM:=jX HM.out.here
 have HK:=jX (HK.out.trans0 hk)
 have Bg7:=jX (hk.heap Bg7.out (by simp))
 have Bg8:=jX (hk.heap Bg8.out (by simp))
 have Bg9:=jX (hk.heap Bg9.out (by simp))
 have Bg10:=jX b10
 have Bg11:=jX b11
 have Bg12:=jX b12
 have Bg13:=jX b13
 clear hk b10 h10 b11 h11 b12 h12 b13 h13 n10_11 n10_12 n10_13 n11_12 n11_13 n12_13
 go_upto_region 3 with (fail)
 refine wp_region_heldT (S:=fun u=>Keep [] w16 u) 32 (by kernel_rfl) (by kernel_rfl) (fun _ _ d _ _ h=>by cases d<;>exact h) ?_
 have hS0:=Keep.drew [] w16
 have HM:=jX (HM.out.move hS0).here
 generalize World.drew w16=u at *
 refine jP 0 (fun K hK=>?_)
 refine wp_enter 20 #[] (by go_simp) ?_
 refine (known12_c _).mono ?_
 rintro e w17 ⟨rfl,hk⟩
 have HM:=jX (HM.out.move hk).here
 have hS0:=hS0.trans0 hk
 refine ⟨_,rfl,?_⟩
 go_simp
 refine hK _ _ hS0 ?_
 clear hK K hk
 refine' jG (v:=_) 1 hS0 (fun w hw=>?hr31) (fun K hK=>?kr31)
 case hr31=>(go_simp;try rfl)
 go_simp
 refine hK _ ?_
 clear hK K
 refine' jG (v:=_) 2 hS0 (fun w hw=>?hr32) (fun K hK=>?kr32)
 case hr32=>(go_simp;try rfl)
 go_simp
 refine hK _ ?_
 clear hK K
 refine' jG (v:=_) 3 hS0 (fun w hw=>?hr33) (fun K hK=>?kr33)
 case hr33=>(have pg10:=cell_of (hw.heap Bg10.out (by simp));go_simp;try rfl)
 go_simp
 refine hK _ ?_
 clear hK K
 refine' jG (v:=_) 4 hS0 (fun w hw=>?hr34) (fun K hK=>?kr34)
 case hr34=>(have pg7:=cell_of (hw.heap Bg7.out (by simp));go_simp;try rfl)
 go_simp
 refine hK _ ?_
 clear hK K
 refine' jG (v:=_) 5 hS0 (fun w hw=>?hr35) (fun K hK=>?kr35)
 case hr35=>(have pg8:=cell_of (hw.heap Bg8.out (by simp));go_simp;try rfl)
 go_simp
 refine hK _ ?_
 clear hK K
 refine jP 6 (fun K hK=>?_)
 refine wp_enter 33 #[.int .i64 1,.agg #[.slice da_w1 D0.length dc_w1,.slice ta_w1 T0.length tc_w1],.agg #[.slice da_w2 D1.length dc_w2,.slice ta_w2 T1.length tc_w2]] (by go_simp) ?_
 refine (HM.out.rlift1 (ma 10 rfl) (ma 11 rfl) (ma 8 rfl) (ma 9 rfl)).mono ?_
 rintro e w18 ⟨da_w18,dc_w18,ta_w18,tc_w18,rfl,hm_w18⟩
 have hk:=hm_w18.keep
 have HM:=jX hm_w18.here
 clear hm_w18
 have hS0:=hS0.trans0 hk
 refine ⟨_,rfl,?_⟩
 go_simp
 refine hK _ _ hS0 ?_
 clear hK K hk
 refine jP 7 (fun K hK=>?_)
 refine wp_enter 27 #[.agg #[.slice da_w8 (combK 2 D0 D1).length dc_w8,.slice ta_w8 (combK 2 (combK 2 D0 D1) (combK 2 T0 T1)).length tc_w8],.agg #[.slice da_w18 (combK 2 D0 D1).length dc_w18,.slice ta_w18 (combK 2 (combK 2 T0 T1) (combK 2 D0 D1)).length tc_w18]] (by go_simp) ?_
 refine (HM.out.reqT (ma 8 rfl) (ma 9 rfl) (ma 0 rfl) (ma 1 rfl) rfl E1.out).mono ?_
 rintro e w19 ⟨rfl,hm_w19⟩
 have hk:=hm_w19.keep
 have HM:=jX hm_w19.here
 clear hm_w19
 have hS0:=hS0.trans0 hk
 refine ⟨_,rfl,?_⟩
 go_simp
 refine hK _ _ hS0 ?_
 clear hK K hk
 refine' jG (v:=_) 8 hS0 (fun w hw=>?hr38) (fun K hK=>?kr38)
 case hr38=>(go_simp;try rfl)
 go_simp
 refine hK _ ?_
 clear hK K
 refine' jG (v:=_) 9 hS0 (fun w hw=>?hr39) (fun K hK=>?kr39)
 case hr39=>(go_simp;try rfl)
 go_simp
 refine hK _ ?_
 clear hK K
 refine' jG (v:=_) 10 hS0 (fun w hw=>?hr310) (fun K hK=>?kr310)
 case hr310=>(go_simp;try rfl)
 go_simp
 refine hK _ ?_
 clear hK K
 refine' jG (v:=_) 11 hS0 (fun w hw=>?hr311) (fun K hK=>?kr311)
 case hr311=>(have pg11:=cell_of (hw.heap Bg11.out (by simp));go_simp;try rfl)
 go_simp
 refine hK _ ?_
 clear hK K
 refine' jG (v:=_) 12 hS0 (fun w hw=>?hr312) (fun K hK=>?kr312)
 case hr312=>(have pg7:=cell_of (hw.heap Bg7.out (by simp));go_simp;try rfl)
 go_simp
 refine hK _ ?_
 clear hK K
 refine' jG (v:=_) 13 hS0 (fun w hw=>?hr313) (fun K hK=>?kr313)
 case hr313=>(have pg8:=cell_of (hw.heap Bg8.out (by simp));go_simp;try rfl)
 go_simp
 refine hK _ ?_
 clear hK K
 refine jP 14 (fun K hK=>?_)
 refine wp_enter 33 #[.int .i64 2,.agg #[.slice da_w1 D0.length dc_w1,.slice ta_w1 T0.length tc_w1],.agg #[.slice da_w2 D1.length dc_w2,.slice ta_w2 T1.length tc_w2]] (by go_simp) ?_
 refine (HM.out.rlift2 (ma 12 rfl) (ma 13 rfl) (ma 10 rfl) (ma 11 rfl)).mono ?_
 rintro e w20 ⟨da_w20,dc_w20,ta_w20,tc_w20,rfl,hm_w20⟩
 have hk:=hm_w20.keep
 have HM:=jX hm_w20.here
 clear hm_w20
 have hS0:=hS0.trans0 hk
 refine ⟨_,rfl,?_⟩
 go_simp
 refine hK _ _ hS0 ?_
 clear hK K hk
 refine jP 15 (fun K hK=>?_)
 refine wp_enter 27 #[.agg #[.slice da_w9 (combK 2 D0 D1).length dc_w9,.slice ta_w9 (combK 2 (combK 2 D0 D1) (combK 1 T0 T1)).length tc_w9],.agg #[.slice da_w20 (combK 2 D0 D1).length dc_w20,.slice ta_w20 (combK 2 (combK 1 T0 T1) (combK 2 D0 D1)).length tc_w20]] (by go_simp) ?_
 refine (HM.out.reqT (ma 8 rfl) (ma 9 rfl) (ma 0 rfl) (ma 1 rfl) rfl E2.out).mono ?_
 rintro e w21 ⟨rfl,hm_w21⟩
 have hk:=hm_w21.keep
 have HM:=jX hm_w21.here
 clear hm_w21
 have hS0:=hS0.trans0 hk
 refine ⟨_,rfl,?_⟩
 go_simp
 refine hK _ _ hS0 ?_
 clear hK K hk
 refine' jG (v:=_) 16 hS0 (fun w hw=>?hr316) (fun K hK=>?kr316)
 case hr316=>(go_simp;try rfl)
 go_simp
 refine hK _ ?_
 clear hK K
 refine' jG (v:=_) 17 hS0 (fun w hw=>?hr317) (fun K hK=>?kr317)
 case hr317=>(go_simp;try rfl)
 go_simp
 refine hK _ ?_
 clear hK K
 refine' jG (v:=_) 18 hS0 (fun w hw=>?hr318) (fun K hK=>?kr318)
 case hr318=>(go_simp;try rfl)
 go_simp
 refine hK _ ?_
 clear hK K
 refine' jG (v:=_) 19 hS0 (fun w hw=>?hr319) (fun K hK=>?kr319)
 case hr319=>(have pg12:=cell_of (hw.heap Bg12.out (by simp));go_simp;try rfl)
 go_simp
 refine hK _ ?_
 clear hK K
 refine' jG (v:=_) 20 hS0 (fun w hw=>?hr320) (fun K hK=>?kr320)
 case hr320=>(have pg7:=cell_of (hw.heap Bg7.out (by simp));go_simp;try rfl)
 go_simp
 refine hK _ ?_
 clear hK K
 refine' jG (v:=_) 21 hS0 (fun w hw=>?hr321) (fun K hK=>?kr321)
 case hr321=>(have pg8:=cell_of (hw.heap Bg8.out (by simp));go_simp;try rfl)
 go_simp
 refine hK _ ?_
 clear hK K
 refine jP 22 (fun K hK=>?_)
 refine wp_enter 33 #[.int .i64 3,.agg #[.slice da_w1 D0.length dc_w1,.slice ta_w1 T0.length tc_w1],.agg #[.slice da_w2 D1.length dc_w2,.slice ta_w2 T1.length tc_w2]] (by go_simp) ?_
 refine (HM.out.rlift3 (ma 14 rfl) (ma 15 rfl) (ma 12 rfl) (ma 13 rfl)).mono ?_
 rintro e w22 ⟨da_w22,dc_w22,ta_w22,tc_w22,rfl,hm_w22⟩
 have hk:=hm_w22.keep
 have HM:=jX hm_w22.here
 clear hm_w22
 have hS0:=hS0.trans0 hk
 refine ⟨_,rfl,?_⟩
 go_simp
 refine hK _ _ hS0 ?_
 clear hK K hk
 refine jP 23 (fun K hK=>?_)
 refine wp_enter 27 #[.agg #[.slice da_w10 (combK 2 D0 D1).length dc_w10,.slice ta_w10 (combK 2 (combK 2 D0 D1) (combK 1 (combK 3 T0 T1) (combK 3 T1 T0))).length tc_w10],.agg #[.slice da_w22 (combK 2 D0 D1).length dc_w22,.slice ta_w22 (combK 2 (combK 3 (combK 1 T0 T1) (combK 2 T0 T1)) (combK 2 D0 D1)).length tc_w22]] (by go_simp) ?_
 refine (HM.out.reqT (ma 8 rfl) (ma 9 rfl) (ma 0 rfl) (ma 1 rfl) rfl E3.out).mono ?_
 rintro e w23 ⟨rfl,hm_w23⟩
 have hk:=hm_w23.keep
 have HM:=jX hm_w23.here
 clear hm_w23
 have hS0:=hS0.trans0 hk
 refine ⟨_,rfl,?_⟩
 go_simp
 refine hK _ _ hS0 ?_
 clear hK K hk
 refine' jG (v:=_) 24 hS0 (fun w hw=>?hr324) (fun K hK=>?kr324)
 case hr324=>(go_simp;try rfl)
 go_simp
 refine hK _ ?_
 clear hK K
 refine' jG (v:=_) 25 hS0 (fun w hw=>?hr325) (fun K hK=>?kr325)
 case hr325=>(go_simp;try rfl)
 go_simp
 refine hK _ ?_
 clear hK K
 refine' jG (v:=_) 26 hS0 (fun w hw=>?hr326) (fun K hK=>?kr326)
 case hr326=>(go_simp;try rfl)
 go_simp
 refine hK _ ?_
 clear hK K
 refine' jG (v:=_) 27 hS0 (fun w hw=>?hr327) (fun K hK=>?kr327)
 case hr327=>(have pg13:=cell_of (hw.heap Bg13.out (by simp));go_simp;try rfl)
 go_simp
 refine hK _ ?_
 clear hK K
 refine' jG (v:=_) 28 hS0 (fun w hw=>?hr328) (fun K hK=>?kr328)
 case hr328=>(have pg7:=cell_of (hw.heap Bg7.out (by simp));go_simp;try rfl)
 go_simp
 refine hK _ ?_
 clear hK K
 refine jP 29 (fun K hK=>?_)
 refine wp_enter 34 #[.agg #[.slice da_w1 D0.length dc_w1,.slice ta_w1 T0.length tc_w1]] (by go_simp) ?_
 refine (HM.out.rnot (ma 16 rfl) (ma 17 rfl)).mono ?_
 rintro e w24 ⟨da_w24,dc_w24,ta_w24,tc_w24,rfl,hm_w24⟩
 have hk:=hm_w24.keep
 have HM:=jX hm_w24.here
 clear hm_w24
 have hS0:=hS0.trans0 hk
 refine ⟨_,rfl,?_⟩
 go_simp
 refine hK _ _ hS0 ?_
 clear hK K hk
 refine jP 30 (fun K hK=>?_)
 refine wp_enter 27 #[.agg #[.slice da_w11 D0.length dc_w11,.slice ta_w11 (combK 3 D0 T0).length tc_w11],.agg #[.slice da_w24 D0.length dc_w24,.slice ta_w24 (combK 2 (combK 3 D0 T0) D0).length tc_w24]] (by go_simp) ?_
 refine (HM.out.reqT (ma 8 rfl) (ma 9 rfl) (ma 0 rfl) (ma 1 rfl) rfl E4.out).mono ?_
 rintro e w25 ⟨rfl,hm_w25⟩
 have hk:=hm_w25.keep
 have HM:=jX hm_w25.here
 clear hm_w25
 have hS0:=hS0.trans0 hk
 refine ⟨_,rfl,?_⟩
 go_simp
 refine hK _ _ hS0 ?_
 clear hK K hk
 refine' jG (v:=_) 31 hS0 (fun w hw=>?hr331) (fun K hK=>?kr331)
 case hr331=>(go_simp;try rfl)
 go_simp
 refine hK _ ?_
 clear hK K
 refine ⟨by kernel_rfl,?_⟩
 simp only [List.drop_succ_cons,List.drop_zero]
 have HK:=jX (HK.out.trans0 hS0)
 have Bg7:=jX (hS0.heap Bg7.out (by simp))
 have Bg8:=jX (hS0.heap Bg8.out (by simp))
 have Bg9:=jX (hS0.heap Bg9.out (by simp))
 have Bg10:=jX (hS0.heap Bg10.out (by simp))
 have Bg11:=jX (hS0.heap Bg11.out (by simp))
 have Bg12:=jX (hS0.heap Bg12.out (by simp))
 have Bg13:=jX (hS0.heap Bg13.out (by simp))
 clear hS0
 go_upto_region 5 with (fail)
 refine wp_region_lit ?_
 have pg7:=cell_of Bg7.out
 refine' wpList_R (v:=_) (by rfl) (?hr5x0) (fun K hK=>?kr5x0)
 case hr5x0=>(go_simp;try rfl)
 go_simp
 refine hK _ _ ?_
 clear hK K
 clear pg7
 refine wpList_R (v:=.agg (kC k2)) (by rfl) (exec_load _ _ ⟨g9,0,none⟩ _ rfl rfl (kw_k Bg9.out ⟨_,Keep.refl _ _⟩)) (fun K hK=>?_)
 go_simp
 refine hK _ _ ?_
 clear hK K
 refine wpList_plain (by rfl) (fun K hK=>?_)
 refine wp_enter 18 #[.agg #[.slice da_w1 D0.length dc_w1,.slice ta_w1 T0.length tc_w1],.agg (kC k2)] (by go_simp) ?_
 refine (HM.out.ratT (ma 18 rfl) (ma 19 rfl) Xe0.out Xe1.out).mono ?_
 rintro e w26 ⟨rfl,hm⟩
 have hk:=hm.keep
 have HM:=jX hm.here
 have HK:=jX (HK.out.trans0 hk)
 have Bg7:=jX (hk.heap Bg7.out (by simp))
 have Bg8:=jX (hk.heap Bg8.out (by simp))
 have Bg9:=jX (hk.heap Bg9.out (by simp))
 have Bg10:=jX (hk.heap Bg10.out (by simp))
 have Bg11:=jX (hk.heap Bg11.out (by simp))
 have Bg12:=jX (hk.heap Bg12.out (by simp))
 have Bg13:=jX (hk.heap Bg13.out (by simp))
 clear hm hk
 refine ⟨_,rfl,?_⟩
 go_simp
 refine hK _ _ ?_
 clear hK K
 refine' wpList_R (v:=_) (by rfl) (?hr5x3) (fun K hK=>?kr5x3)
 case hr5x3=>(go_simp;try rfl)
 go_simp
 refine hK _ _ ?_
 clear hK K
 refine' wpList_R (v:=_) (by rfl) (?hr5x4) (fun K hK=>?kr5x4)
 case hr5x4=>(go_simp;try rfl)
 go_simp
 refine hK _ _ ?_
 clear hK K
 refine' wpList_R (v:=_) (by rfl) (?hr5x5) (fun K hK=>?kr5x5)
 case hr5x5=>(go_simp;try rfl)
 go_simp
 refine hK _ _ ?_
 clear hK K
 refine' wpList_R (v:=_) (by rfl) (?hr5x6) (fun K hK=>?kr5x6)
 case hr5x6=>(go_simp;try rfl)
 go_simp
 refine hK _ _ ?_
 clear hK K
 refine' wpList_R (v:=_) (by rfl) (?hr5x7) (fun K hK=>?kr5x7)
 case hr5x7=>(go_simp;try rfl)
 go_simp
 refine hK _ _ ?_
 clear hK K
 go_upto_region 6 with (fail)
 refine wp_region_lit ?_
 have pg8:=cell_of Bg8.out
 refine' wpList_R (v:=_) (by rfl) (?hr6x0) (fun K hK=>?kr6x0)
 case hr6x0=>(go_simp;try rfl)
 go_simp
 refine hK _ _ ?_
 clear hK K
 clear pg8
 refine wpList_R (v:=.agg (kC k2)) (by rfl) (exec_load _ _ ⟨g9,0,none⟩ _ rfl rfl (kw_k Bg9.out ⟨_,Keep.refl _ _⟩)) (fun K hK=>?_)
 go_simp
 refine hK _ _ ?_
 clear hK K
 refine wpList_plain (by rfl) (fun K hK=>?_)
 refine wp_enter 18 #[.agg #[.slice da_w2 D1.length dc_w2,.slice ta_w2 T1.length tc_w2],.agg (kC k2)] (by go_simp) ?_
 refine (HM.out.ratT (ma 16 rfl) (ma 17 rfl) Xe2.out Xe3.out).mono ?_
 rintro e w27 ⟨rfl,hm⟩
 have hk:=hm.keep
 have HM:=jX hm.here
 have HK:=jX (HK.out.trans0 hk)
 have Bg7:=jX (hk.heap Bg7.out (by simp))
 have Bg8:=jX (hk.heap Bg8.out (by simp))
 have Bg9:=jX (hk.heap Bg9.out (by simp))
 have Bg10:=jX (hk.heap Bg10.out (by simp))
 have Bg11:=jX (hk.heap Bg11.out (by simp))
 have Bg12:=jX (hk.heap Bg12.out (by simp))
 have Bg13:=jX (hk.heap Bg13.out (by simp))
 clear hm hk
 refine ⟨_,rfl,?_⟩
 go_simp
 refine hK _ _ ?_
 clear hK K
 refine' wpList_R (v:=_) (by rfl) (?hr6x3) (fun K hK=>?kr6x3)
 case hr6x3=>(go_simp;try rfl)
 go_simp
 refine hK _ _ ?_
 clear hK K
 refine' wpList_R (v:=_) (by rfl) (?hr6x4) (fun K hK=>?kr6x4)
 case hr6x4=>(go_simp;try rfl)
 go_simp
 refine hK _ _ ?_
 clear hK K
 refine' wpList_R (v:=_) (by rfl) (?hr6x5) (fun K hK=>?kr6x5)
 case hr6x5=>(go_simp;try rfl)
 go_simp
 refine hK _ _ ?_
 clear hK K
 refine' wpList_R (v:=_) (by rfl) (?hr6x6) (fun K hK=>?kr6x6)
 case hr6x6=>(go_simp;try rfl)
 go_simp
 refine hK _ _ ?_
 clear hK K
 refine' wpList_R (v:=_) (by rfl) (?hr6x7) (fun K hK=>?kr6x7)
 case hr6x7=>(go_simp;try rfl)
 go_simp
 refine hK _ _ ?_
 clear hK K
 go_upto_region 7 with (fail)
 refine wp_region_lit ?_
 have pg10:=cell_of Bg10.out
 refine' wpList_R (v:=_) (by rfl) (?hr7x0) (fun K hK=>?kr7x0)
 case hr7x0=>(go_simp;try rfl)
 go_simp
 refine hK _ _ ?_
 clear hK K
 clear pg10
 refine wpList_R (v:=.agg (kC k2)) (by rfl) (exec_load _ _ ⟨g9,0,none⟩ _ rfl rfl (kw_k Bg9.out ⟨_,Keep.refl _ _⟩)) (fun K hK=>?_)
 go_simp
 refine hK _ _ ?_
 clear hK K
 refine wpList_plain (by rfl) (fun K hK=>?_)
 refine wp_enter 17 #[.agg #[.slice da_w8 (combK 2 D0 D1).length dc_w8,.slice ta_w8 (combK 2 (combK 2 D0 D1) (combK 2 T0 T1)).length tc_w8],.agg (kC k2)] (by go_simp) ?_
 refine (HM.out.matT (ma 14 rfl) (ma 15 rfl) Xa1.out Xi1.out).mono ?_
 rintro e w28 ⟨rfl,hm⟩
 have hk:=hm.keep
 have HM:=jX hm.here
 have HK:=jX (HK.out.trans0 hk)
 have Bg7:=jX (hk.heap Bg7.out (by simp))
 have Bg8:=jX (hk.heap Bg8.out (by simp))
 have Bg9:=jX (hk.heap Bg9.out (by simp))
 have Bg10:=jX (hk.heap Bg10.out (by simp))
 have Bg11:=jX (hk.heap Bg11.out (by simp))
 have Bg12:=jX (hk.heap Bg12.out (by simp))
 have Bg13:=jX (hk.heap Bg13.out (by simp))
 clear hm hk
 refine ⟨_,rfl,?_⟩
 go_simp
 refine hK _ _ ?_
 clear hK K
 refine' wpList_R (v:=_) (by rfl) (?hr7x3) (fun K hK=>?kr7x3)
 case hr7x3=>(go_simp;try rfl)
 go_simp
 refine hK _ _ ?_
 clear hK K
 refine' wpList_R (v:=_) (by rfl) (?hr7x4) (fun K hK=>?kr7x4)
 case hr7x4=>(go_simp;try rfl)
 go_simp
 refine hK _ _ ?_
 clear hK K
 refine' wpList_R (v:=_) (by rfl) (?hr7x5) (fun K hK=>?kr7x5)
 case hr7x5=>(go_simp;try rfl)
 go_simp
 refine hK _ _ ?_
 clear hK K
 refine' wpList_R (v:=_) (by rfl) (?hr7x6) (fun K hK=>?kr7x6)
 case hr7x6=>(go_simp;try rfl)
 go_simp
 refine hK _ _ ?_
 clear hK K
 refine' wpList_R (v:=_) (by rfl) (?hr7x7) (fun K hK=>?kr7x7)
 case hr7x7=>(go_simp;try rfl)
 go_simp
 refine hK _ _ ?_
 clear hK K
 go_upto_region 8 with (fail)
 refine wp_region_lit ?_
 have pg11:=cell_of Bg11.out
 refine' wpList_R (v:=_) (by rfl) (?hr8x0) (fun K hK=>?kr8x0)
 case hr8x0=>(go_simp;try rfl)
 go_simp
 refine hK _ _ ?_
 clear hK K
 clear pg11
 refine wpList_R (v:=.agg (kC k2)) (by rfl) (exec_load _ _ ⟨g9,0,none⟩ _ rfl rfl (kw_k Bg9.out ⟨_,Keep.refl _ _⟩)) (fun K hK=>?_)
 go_simp
 refine hK _ _ ?_
 clear hK K
 refine wpList_plain (by rfl) (fun K hK=>?_)
 refine wp_enter 17 #[.agg #[.slice da_w9 (combK 2 D0 D1).length dc_w9,.slice ta_w9 (combK 2 (combK 2 D0 D1) (combK 1 T0 T1)).length tc_w9],.agg (kC k2)] (by go_simp) ?_
 refine (HM.out.matT (ma 12 rfl) (ma 13 rfl) Xa2.out Xi1.out).mono ?_
 rintro e w29 ⟨rfl,hm⟩
 have hk:=hm.keep
 have HM:=jX hm.here
 have HK:=jX (HK.out.trans0 hk)
 have Bg7:=jX (hk.heap Bg7.out (by simp))
 have Bg8:=jX (hk.heap Bg8.out (by simp))
 have Bg9:=jX (hk.heap Bg9.out (by simp))
 have Bg10:=jX (hk.heap Bg10.out (by simp))
 have Bg11:=jX (hk.heap Bg11.out (by simp))
 have Bg12:=jX (hk.heap Bg12.out (by simp))
 have Bg13:=jX (hk.heap Bg13.out (by simp))
 clear hm hk
 refine ⟨_,rfl,?_⟩
 go_simp
 refine hK _ _ ?_
 clear hK K
 refine' wpList_R (v:=_) (by rfl) (?hr8x3) (fun K hK=>?kr8x3)
 case hr8x3=>(go_simp;try rfl)
 go_simp
 refine hK _ _ ?_
 clear hK K
 refine' wpList_R (v:=_) (by rfl) (?hr8x4) (fun K hK=>?kr8x4)
 case hr8x4=>(go_simp;try rfl)
 go_simp
 refine hK _ _ ?_
 clear hK K
 refine' wpList_R (v:=_) (by rfl) (?hr8x5) (fun K hK=>?kr8x5)
 case hr8x5=>(go_simp;try rfl)
 go_simp
 refine hK _ _ ?_
 clear hK K
 refine' wpList_R (v:=_) (by rfl) (?hr8x6) (fun K hK=>?kr8x6)
 case hr8x6=>(go_simp;try rfl)
 go_simp
 refine hK _ _ ?_
 clear hK K
 refine' wpList_R (v:=_) (by rfl) (?hr8x7) (fun K hK=>?kr8x7)
 case hr8x7=>(go_simp;try rfl)
 go_simp
 refine hK _ _ ?_
 clear hK K
 go_upto_region 9 with (fail)
 refine wp_region_lit ?_
 have pg12:=cell_of Bg12.out
 refine' wpList_R (v:=_) (by rfl) (?hr9x0) (fun K hK=>?kr9x0)
 case hr9x0=>(go_simp;try rfl)
 go_simp
 refine hK _ _ ?_
 clear hK K
 clear pg12
 refine wpList_R (v:=.agg (kC k2)) (by rfl) (exec_load _ _ ⟨g9,0,none⟩ _ rfl rfl (kw_k Bg9.out ⟨_,Keep.refl _ _⟩)) (fun K hK=>?_)
 go_simp
 refine hK _ _ ?_
 clear hK K
 refine wpList_plain (by rfl) (fun K hK=>?_)
 refine wp_enter 17 #[.agg #[.slice da_w10 (combK 2 D0 D1).length dc_w10,.slice ta_w10 (combK 2 (combK 2 D0 D1) (combK 1 (combK 3 T0 T1) (combK 3 T1 T0))).length tc_w10],.agg (kC k2)] (by go_simp) ?_
 refine (HM.out.matT (ma 10 rfl) (ma 11 rfl) Xa3.out Xi1.out).mono ?_
 rintro e w30 ⟨rfl,hm⟩
 have hk:=hm.keep
 have HM:=jX hm.here
 have HK:=jX (HK.out.trans0 hk)
 have Bg7:=jX (hk.heap Bg7.out (by simp))
 have Bg8:=jX (hk.heap Bg8.out (by simp))
 have Bg9:=jX (hk.heap Bg9.out (by simp))
 have Bg10:=jX (hk.heap Bg10.out (by simp))
 have Bg11:=jX (hk.heap Bg11.out (by simp))
 have Bg12:=jX (hk.heap Bg12.out (by simp))
 have Bg13:=jX (hk.heap Bg13.out (by simp))
 clear hm hk
 refine ⟨_,rfl,?_⟩
 go_simp
 refine hK _ _ ?_
 clear hK K
 refine' wpList_R (v:=_) (by rfl) (?hr9x3) (fun K hK=>?kr9x3)
 case hr9x3=>(go_simp;try rfl)
 go_simp
 refine hK _ _ ?_
 clear hK K
 refine' wpList_R (v:=_) (by rfl) (?hr9x4) (fun K hK=>?kr9x4)
 case hr9x4=>(go_simp;try rfl)
 go_simp
 refine hK _ _ ?_
 clear hK K
 refine' wpList_R (v:=_) (by rfl) (?hr9x5) (fun K hK=>?kr9x5)
 case hr9x5=>(go_simp;try rfl)
 go_simp
 refine hK _ _ ?_
 clear hK K
 refine' wpList_R (v:=_) (by rfl) (?hr9x6) (fun K hK=>?kr9x6)
 case hr9x6=>(go_simp;try rfl)
 go_simp
 refine hK _ _ ?_
 clear hK K
 refine' wpList_R (v:=_) (by rfl) (?hr9x7) (fun K hK=>?kr9x7)
 case hr9x7=>(go_simp;try rfl)
 go_simp
 refine hK _ _ ?_
 clear hK K
 go_upto_region 10 with (fail)
 refine wp_region_lit ?_
 have pg13:=cell_of Bg13.out
 refine' wpList_R (v:=_) (by rfl) (?hr10x0) (fun K hK=>?kr10x0)
 case hr10x0=>(go_simp;try rfl)
 go_simp
 refine hK _ _ ?_
 clear hK K
 clear pg13
 refine wpList_R (v:=.agg (kC k2)) (by rfl) (exec_load _ _ ⟨g9,0,none⟩ _ rfl rfl (kw_k Bg9.out ⟨_,Keep.refl _ _⟩)) (fun K hK=>?_)
 go_simp
 refine hK _ _ ?_
 clear hK K
 refine wpList_plain (by rfl) (fun K hK=>?_)
 refine wp_enter 17 #[.agg #[.slice da_w11 D0.length dc_w11,.slice ta_w11 (combK 3 D0 T0).length tc_w11],.agg (kC k2)] (by go_simp) ?_
 refine (HM.out.matT (ma 8 rfl) (ma 9 rfl) Xa4.out Xe1.out).mono ?_
 rintro e w31 ⟨rfl,hm⟩
 have hk:=hm.keep
 have HM:=jX hm.here
 have HK:=jX (HK.out.trans0 hk)
 have Bg7:=jX (hk.heap Bg7.out (by simp))
 have Bg8:=jX (hk.heap Bg8.out (by simp))
 have Bg9:=jX (hk.heap Bg9.out (by simp))
 have Bg10:=jX (hk.heap Bg10.out (by simp))
 have Bg11:=jX (hk.heap Bg11.out (by simp))
 have Bg12:=jX (hk.heap Bg12.out (by simp))
 have Bg13:=jX (hk.heap Bg13.out (by simp))
 clear hm hk
 refine ⟨_,rfl,?_⟩
 go_simp
 refine hK _ _ ?_
 clear hK K
 refine' wpList_R (v:=_) (by rfl) (?hr10x3) (fun K hK=>?kr10x3)
 case hr10x3=>(go_simp;try rfl)
 go_simp
 refine hK _ _ ?_
 clear hK K
 refine' wpList_R (v:=_) (by rfl) (?hr10x4) (fun K hK=>?kr10x4)
 case hr10x4=>(go_simp;try rfl)
 go_simp
 refine hK _ _ ?_
 clear hK K
 refine' wpList_R (v:=_) (by rfl) (?hr10x5) (fun K hK=>?kr10x5)
 case hr10x5=>(go_simp;try rfl)
 go_simp
 refine hK _ _ ?_
 clear hK K
 refine' wpList_R (v:=_) (by rfl) (?hr10x6) (fun K hK=>?kr10x6)
 case hr10x6=>(go_simp;try rfl)
 go_simp
 refine hK _ _ ?_
 clear hK K
 refine' wpList_R (v:=_) (by rfl) (?hr10x7) (fun K hK=>?kr10x7)
 case hr10x7=>(go_simp;try rfl)
 go_simp
 refine hK _ _ ?_
 clear hK K
 go_upto_region 11 with (fail)
 have h0:=Xh0.out
 have h1:=Xh1.out
 clear Xe0 Xe1 Xe2 Xe3 Xh0 Xh1 Xi1 Xa1 Xa2 Xa3 Xa4
 rcases q0<;>rcases r0<;>rcases q1<;>rcases r1<;>simp only [Bool.false_eq_true,false_imp_iff,forall_const,imp_self,reduceCtorEq] at h0 h1
 all_goals (
 go_wp2_with fail
 go_ret
 exact ⟨rfl,HK.out⟩)
end Go.Proofs.YtejegogbhpmgfaaGreatDoor
