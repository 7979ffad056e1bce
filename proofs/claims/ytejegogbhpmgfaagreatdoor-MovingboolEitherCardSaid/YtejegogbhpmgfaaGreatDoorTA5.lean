/- Parts of a proof about this translation: Sx@5, Mb@5, Vd@5, Me@5, Mi@5, Mj@5, Ml@5, Ga@5, H5@5. -/
import Derived.Test.YtejegogbhpmgfaaGreatDoorA32
import Derived.Test.YtejegogbhpmgfaaGreatDoorA33
import Derived.Test.YtejegogbhpmgfaaGreatDoorA34
import Derived.Test.YtejegogbhpmgfaaGreatDoorA35
import Derived.Test.YtejegogbhpmgfaaGreatDoorA30
import Derived.Test.YtejegogbhpmgfaaGreatDoorA38
import Derived.Test.YtejegogbhpmgfaaGreatDoorA37
set_option linter.unusedVariables false
set_option linter.unusedSimpArgs false
set_option maxRecDepth 100000
set_option maxHeartbeats 8000000
namespace Go.Proofs.YtejegogbhpmgfaaGreatDoor
open Go.RowKit
open Classical
theorem equal_c (l m:List (Iv K)) (w:World) (sv tv:Value) (hr:IvR w sv l) (hs:IvR w tv m) (h9:l.length≤1000000000) (h8:m.length≤1000000000) :
  Calls Tryz.prog 21 #[sv,tv] w fun e w'=>e = .returned (.bool (decide (l=m)))∧Keep [] w w':=by
 have HR:=jX hr
 have HS:=jX hs
 obtain⟨ao,ac,rfl,_⟩:=hr.form
 obtain⟨bo,bc,rfl,_⟩:=hs.form
 clear hr hs
 by_cases hlen:l.length=m.length
 ·have hne:((l.length:Int) != (m.length:Int))=false:=by rw [hlen];simp
  have Hlen:=jX hlen
  clear hlen
  go_enter Tryz.func21,Tryz.ntmps21
  go_wp2_with fail
  go_loopw [5] (fun c wr=>∃ k:Nat,k≤l.length∧c = .int .i64 (k:Int)∧l.take k=m.take k∧Keep [] w wr) (fun c _=>l.length-(intOf c).toNat)
  case atStart=>exact ⟨0,Nat.zero_le _,rfl,rfl,Keep.refl _ _⟩
  case round =>
   obtain⟨k,hk,rfl,heq,hkeep⟩:=hrel
   have Heq:=jX heq
   have HKr:=jX hkeep
   clear heq hkeep
   by_cases hlt:k<l.length
   ·have hlt2:k<m.length:=by rw [← Hlen.out];exact hlt
    obtain⟨g,o,rfl,hg,hat⟩:=IvR.elem (HR.out.later HKr.out) k hlt
    obtain⟨g2,o2,rfl,hg2,hat2⟩:=IvR.elem (HS.out.later HKr.out) k hlt2
    obtain⟨i,hi⟩:∃ i,l[k]=i:=⟨_,rfl⟩
    obtain⟨j,hj⟩:∃ j,m[k]=j:=⟨_,rfl⟩
    have Hi:=jX hi
    have Hj:=jX hj
    rw [hi] at hat
    rw [hj] at hat2
    clear hi hj
    obtain⟨p,hp⟩:∃ p,o+k*20=p:=⟨_,rfl⟩
    obtain⟨q,hq⟩:∃ q,o2+k*20=q:=⟨_,rfl⟩
    rw [hp] at hat
    rw [hq] at hat2
    have HLa:=jX (hat.ld hg)
    have HLb:=jX (hat2.ld hg2)
    have HN:=jX (neqI_run i j)
    clear hat hat2
    unfold iv at *
    generalize iC i=I at *
    generalize iC j=J at *
    by_cases hij:i=j
    ·rw [decide_eq_true hij] at HN
     have Hij:=jX hij
     clear hij
     go_wp2_with fail
     refine wp_region_keep (by kernel_rfl) (by kernel_rfl) ?_
     repeat (first
      | go_big_quiet_skip
      | (go_big_quiet_want;first
       | (refine quiet_load _ _ _ (.agg I) rfl rfl (by rintro _ ⟨m,rfl⟩;exact HLa.out m) ?_;go_simp;go_big_quiet_on)|(refine quiet_load _ _ _ (.agg J) rfl rfl (by rintro _ ⟨m,rfl⟩;exact HLb.out m) ?_;go_simp;go_big_quiet_on)|(refine quiet_bin _ _ _ _ _ _ _ (_) rfl rfl rfl eqI_g (by intro w;exact HN.out w) ?_;go_simp;go_big_quiet_on)
       | (go_big_quiet_op;first|go_big_quiet_on|go_big_quiet_call (first
        | fail))))
     refine wpQuiet_nil ?_
     rintro w1 ⟨⟨_,hk_w1⟩,rfl⟩
     clear HLa HLb HN
     have Hk1:=jX hk_w1
     clear hk_w1
     go_wp2_with fail
     go_roundw
     case rel=>exact ⟨k+1,by omega,congrArg (Value.int .i64) (by omega),by rw [List.take_succ_eq_append_getElem hlt,List.take_succ_eq_append_getElem hlt2,Heq.out,Hi.out,Hj.out,Hij.out],HKr.out.trans0 Hk1.out⟩
     case measure=>simp [intOf];omega
    ·rw [decide_eq_false hij] at HN
     have Hij:=jX hij
     clear hij
     go_wp2_with fail
     refine wp_region_keep (by kernel_rfl) (by kernel_rfl) ?_
     repeat (first
      | go_big_quiet_skip
      | (go_big_quiet_want;first
       | (refine quiet_load _ _ _ (.agg I) rfl rfl (by rintro _ ⟨m,rfl⟩;exact HLa.out m) ?_;go_simp;go_big_quiet_on)|(refine quiet_load _ _ _ (.agg J) rfl rfl (by rintro _ ⟨m,rfl⟩;exact HLb.out m) ?_;go_simp;go_big_quiet_on)|(refine quiet_bin _ _ _ _ _ _ _ (_) rfl rfl rfl eqI_g (by intro w;exact HN.out w) ?_;go_simp;go_big_quiet_on)
       | (go_big_quiet_op;first|go_big_quiet_on|go_big_quiet_call (first
        | fail))))
     refine wpQuiet_nil ?_
     rintro w1 ⟨⟨_,hk_w1⟩,rfl⟩
     clear HLa HLb HN
     have Hk1:=jX hk_w1
     clear hk_w1
     go_wp2_with fail
     go_ret
     have hno:l≠m:=fun e=>Hij.out (by rw [← Hi.out,← Hj.out];simp only [e])
     exact ⟨by rw [decide_eq_false hno];rfl,HKr.out.trans0 Hk1.out⟩
   ·obtain rfl:k=l.length:=by omega
    go_wp2_with fail
    go_ret
    have he:l=m:=by
     have:=Heq.out
     rw [List.take_length,Hlen.out,List.take_length] at this
     exact this
    exact ⟨by rw [decide_eq_true he];rfl,HKr.out⟩
 ·have hne:((l.length:Int) != (m.length:Int))=true:=by rw [bne_iff_ne];omega
  have hno:l≠m:=fun e=>hlen (by rw [e])
  rw [decide_eq_false hno]
  clear hno hlen
  go_enter Tryz.func21,Tryz.ntmps21
  go_wp2_with fail
  go_ret
  exact ⟨rfl,Keep.refl _ _⟩
end Go.Proofs.YtejegogbhpmgfaaGreatDoor
namespace Go.Proofs.YtejegogbhpmgfaaGreatDoor
theorem combK_self {op:Int} {a b l:List (Iv K)} (hl:Norm l) (h:∀ x,decV op (hasL a x) (hasL b x)=hasL l x):combK op a b=l:=combK_eq hl fun x=>(h x).symm
section
variable {D T E U G V P:List (Iv K)}
theorem mb_either (T U F:List (Iv K)):combK 2 (combK 1 T U) (combK 1 (combK 1 T U) F)=combK 1 T U:=combK_self (combK_norm _ _ _) fun x=>by
 simp only [combK_has,dec1,dec2,dec3]
 cases hasL T x<;>cases hasL U x<;>cases hasL F x<;>rfl
end
end Go.Proofs.YtejegogbhpmgfaaGreatDoor
namespace Go.Proofs.YtejegogbhpmgfaaGreatDoor
open Go.RowKit
open Go.ChangeShapes Go.WideShapes Go.ChangeAt
def InsArg (_:World) (v:Value):Prop:=∃ a:InsA,v=a.v
theorem InsArg_open {H:Type} {enc:TypeId × Value→H} {W:World} {v:Value} {base:Nat} {d:DataW H} {p:List MemPlace} (hv:Value.okWide Tryz.prog W .any base 26 v)
  (h:∃ m,DataW.trod enc Tryz.prog W 0 (fun _=>true) true m 26 v.cells.toList=some (d,p)):InsArg W v:=by
 obtain⟨m,hm⟩:=h
 obtain⟨a,ha⟩:=ins_trod hm
 exact ⟨a,agg_of_cells ha (by simp)⟩
end Go.Proofs.YtejegogbhpmgfaaGreatDoor
namespace Go.Proofs.YtejegogbhpmgfaaGreatDoor
open Go.RowKit
open Classical
section
variable {S:List K} {w0 w w' W:World} {L M:List (Value × List (Iv K))}
variable {v u:Value} {a b:List (Iv K)}
theorem MP.eqd (h:MP S w0 w L) (hv:(v,a)∈L) (hu:(u,b)∈L):Calls Tryz.prog 21 #[v,u] w (BoolPost S w0 L (decide (a=b))) :=
 boolPost_of h (equal_c a b w v u (h.get hv) (h.get hu) (by have:=h.len hv;omega) (by have:=h.len hu;omega))
end
section
variable {S:List K} {w0 w:World} {L:List (Value × List (Iv K))} {D T E U P:List (Iv K)} {da ta ea ua pa:Option Addr} {dc tc ec uc pc:Nat}
theorem MP.mfalse (h:MP S w0 w L) (hD:(.slice da D.length dc,D)∈L) (hT:(.slice ta T.length tc,T)∈L) :
  Calls Tryz.prog 19 #[.agg #[.slice da D.length dc,.slice ta T.length tc]] w (PerPost S w0 L (combK 3 D T)):=by
 have H0:=jX h
 have hD:=jX hD
 have hT:=jX hT
 clear h
 go_enter Tryz.func19,Tryz.ntmps19
 go_upto_region 1 with (fail)
 obtain⟨W,ga,hW,ega,bga,hga,hgW,hkW⟩:=al1 w (.cells #[.slice da D.length dc,.slice ta T.length tc] 29)
 rw [← hW]
 try rw [ega]
 have Bga:=jX bga
 have HkW:=jX hkW
 clear hW hkW ega bga
 have HM:=jX (H0.out.here.move HkW.out).here
 have pga:=cell_of Bga.out
 go_wp2_with fail
 refine (HM.out.minus (v:=.slice da D.length dc) (a:=D) (u:=.slice ta T.length tc) (b:=T) (by simp [hD.out,hT.out]) (by simp [hD.out,hT.out])).mono ?_
 rintro e w1 ⟨vo_w1,vc_w1,rfl,hm_w1⟩
 dsimp only
 have HM:=jX hm_w1
 clear hm_w1
 go_wp2_with fail
 go_ret
 exact ⟨_,_,rfl,⟨⟨H0.out.keep.trans0 (HkW.out.trans0 HM.out.keep),HM.out.mi.2⟩,HM.out.per,HM.out.few⟩⟩
end
section
variable {S:List K} {w0 w:World} {L:List (Value × List (Iv K))} {D T E U P:List (Iv K)} {da ta ea ua pa:Option Addr} {dc tc ec uc pc:Nat}
theorem MP.rfalse (h:MP S w0 w L) (hD:(.slice da D.length dc,D)∈L) (hT:(.slice ta T.length tc,T)∈L) :
  Calls Tryz.prog 22 #[.agg #[.slice da D.length dc,.slice ta T.length tc]] w (PerPost S w0 L (combK 3 D T)):=by
 have H0:=jX h
 have hD:=jX hD
 have hT:=jX hT
 clear h
 go_enter Tryz.func22,Tryz.ntmps22
 go_upto_region 1 with (fail)
 obtain⟨W,ga,hW,ega,bga,hga,hgW,hkW⟩:=al1 w (.cells #[.slice da D.length dc,.slice ta T.length tc] 29)
 rw [← hW]
 try rw [ega]
 have Bga:=jX bga
 have HkW:=jX hkW
 clear hW hkW ega bga
 have HM:=jX (H0.out.here.move HkW.out).here
 have pga:=cell_of (HM.out.keep.heap Bga.out (by simp))
 go_wp2_with fail
 refine (HM.out.comb (op:=3) (by simp) (v:=.slice da D.length dc) (a:=D) (u:=.slice ta T.length tc) (b:=T) (by simp [hD.out,hT.out]) (by simp [hD.out,hT.out])).mono ?_
 rintro e w1 ⟨vo_w1,vc_w1,rfl,hm_w1⟩
 dsimp only
 have HM:=jX hm_w1
 clear hm_w1
 clear pga
 go_wp2_with fail
 go_ret
 exact ⟨_,_,rfl,⟨⟨H0.out.keep.trans0 (HkW.out.trans0 HM.out.keep),HM.out.mi.2⟩,HM.out.per,HM.out.few⟩⟩
theorem MP.meither (h:MP S w0 w L) (hD:(.slice da D.length dc,D)∈L) (hT:(.slice ta T.length tc,T)∈L) (hE:(.slice ea E.length ec,E)∈L) (hU:(.slice ua U.length uc,U)∈L) :
  Calls Tryz.prog 26 #[.agg #[.slice da D.length dc,.slice ta T.length tc],.agg #[.slice ea E.length ec,.slice ua U.length uc]] w (BolPost S w0 L (combK 1 (combK 1 T U) (combK 2 (combK 3 D T) (combK 3 E U))) (combK 1 T U)):=by
 have H0:=jX h
 have hD:=jX hD
 have hT:=jX hT
 have hE:=jX hE
 have hU:=jX hU
 clear h
 go_enter Tryz.func26,Tryz.ntmps26
 go_upto_region 1 with (fail)
 obtain⟨W,ga,gb,gc,hW,ega,egb,egc,bga,bgb,bgc,hga,hgb,hgc,hgW,hkW⟩:=al3 w (.cells #[.slice da D.length dc,.slice ta T.length tc] 29) (.cells #[.slice ea E.length ec,.slice ua U.length uc] 29) (.cells #[.slice none 0 0,.slice none 0 0] 29)
 rw [← hW]
 try rw [egc]
 try rw [egb]
 try rw [ega]
 have Bga:=jX bga
 have Bgb:=jX bgb
 have Bgc:=jX bgc
 have HkW:=jX hkW
 clear hW hkW ega egb egc bga bgb bgc
 have HM:=jX (H0.out.here.move HkW.out).here
 have pga:=cell_of (HM.out.keep.heap Bga.out (by simp))
 have pgb:=cell_of (HM.out.keep.heap Bgb.out (by simp))
 go_wp2_with fail
 refine (HM.out.union (v:=.slice ta T.length tc) (a:=T) (u:=.slice ua U.length uc) (b:=U) (by simp [hD.out,hT.out,hE.out,hU.out]) (by simp [hD.out,hT.out,hE.out,hU.out])).mono ?_
 rintro e w1 ⟨vo_w1,vc_w1,rfl,hm_w1⟩
 dsimp only
 have HM:=jX hm_w1
 clear hm_w1
 clear pga pgb
 go_upto_region 2 with (fail)
 refine wp_region_heldT (S:=fun u=>Keep [] W u) 8 (by kernel_rfl) (by kernel_rfl) (fun _ _ d _ _ h=>by cases d<;>exact h) ?_
 have HM:=jX (HM.out.move (Keep.drew [] w1))
 generalize World.drew w1=u at *
 have hS0:=HM.out.keep
 refine' jV (v:=_) 0 hS0 (fun w hw=>?hrunf0) (fun K hK=>?hnextf0)
 case hrunf0=>(have pga:=cell_of (hw.heap Bga.out (by simp));have pgb:=cell_of (hw.heap Bgb.out (by simp));go_simp;try rfl)
 go_simp
 refine hK _ ?_
 clear hK K
 refine' jV (v:=_) 1 hS0 (fun w hw=>?hrunf1) (fun K hK=>?hnextf1)
 case hrunf1=>(have pga:=cell_of (hw.heap Bga.out (by simp));have pgb:=cell_of (hw.heap Bgb.out (by simp));go_simp;try rfl)
 go_simp
 refine hK _ ?_
 clear hK K
 refine' jV (v:=_) 3 hS0 (fun w hw=>?hrunf3) (fun K hK=>?hnextf3)
 case hrunf3=>(have pga:=cell_of (hw.heap Bga.out (by simp));have pgb:=cell_of (hw.heap Bgb.out (by simp));go_simp;try rfl)
 go_simp
 refine hK _ ?_
 clear hK K
 refine' jV (v:=_) 7 hS0 (fun w hw=>?hrunf7) (fun K hK=>?hnextf7)
 case hrunf7=>(have pga:=cell_of (hw.heap Bga.out (by simp));have pgb:=cell_of (hw.heap Bgb.out (by simp));go_simp;try rfl)
 go_simp
 refine hK _ ?_
 clear hK K
 refine jO 2 (fun K hK=>?_)
 refine wp_enter 19 #[.agg #[.slice da D.length dc,.slice ta T.length tc]] (by go_simp) ?_
 refine (HM.out.mfalse (D:=D) (T:=T) (by simp [hD.out,hT.out,hE.out,hU.out]) (by simp [hD.out,hT.out,hE.out,hU.out])).mono ?_
 rintro e w2 ⟨vo_w2,vc_w2,rfl,hm_w2⟩
 have HM:=jX hm_w2
 clear hm_w2
 refine ⟨_,rfl,?_⟩
 have hS0:=HM.out.keep
 go_simp
 refine hK _ _ hS0 ?_
 clear hK K
 refine jO 4 (fun K hK=>?_)
 refine wp_enter 19 #[.agg #[.slice ea E.length ec,.slice ua U.length uc]] (by go_simp) ?_
 refine (HM.out.mfalse (D:=E) (T:=U) (by simp [hD.out,hT.out,hE.out,hU.out]) (by simp [hD.out,hT.out,hE.out,hU.out])).mono ?_
 rintro e w3 ⟨vo_w3,vc_w3,rfl,hm_w3⟩
 have HM:=jX hm_w3
 clear hm_w3
 refine ⟨_,rfl,?_⟩
 have hS0:=HM.out.keep
 go_simp
 refine hK _ _ hS0 ?_
 clear hK K
 refine jO 5 (fun K hK=>?_)
 refine wp_enter 71 #[.slice vo_w2 (combK 3 D T).length vc_w2,.slice vo_w3 (combK 3 E U).length vc_w3] (by go_simp) ?_
 refine (HM.out.inter (v:=.slice vo_w2 (combK 3 D T).length vc_w2) (a:=combK 3 D T) (u:=.slice vo_w3 (combK 3 E U).length vc_w3) (b:=combK 3 E U) (by simp [hD.out,hT.out,hE.out,hU.out]) (by simp [hD.out,hT.out,hE.out,hU.out])).mono ?_
 rintro e w4 ⟨vo_w4,vc_w4,rfl,hm_w4⟩
 have HM:=jX hm_w4
 clear hm_w4
 refine ⟨_,rfl,?_⟩
 have hS0:=HM.out.keep
 go_simp
 refine hK _ _ hS0 ?_
 clear hK K
 refine jO 6 (fun K hK=>?_)
 refine wp_enter 70 #[.slice vo_w1 (combK 1 T U).length vc_w1,.slice vo_w4 (combK 2 (combK 3 D T) (combK 3 E U)).length vc_w4] (by go_simp) ?_
 refine (HM.out.union (v:=.slice vo_w1 (combK 1 T U).length vc_w1) (a:=combK 1 T U) (u:=.slice vo_w4 (combK 2 (combK 3 D T) (combK 3 E U)).length vc_w4) (b:=combK 2 (combK 3 D T) (combK 3 E U)) (by simp [hD.out,hT.out,hE.out,hU.out]) (by simp [hD.out,hT.out,hE.out,hU.out])).mono ?_
 rintro e w5 ⟨vo_w5,vc_w5,rfl,hm_w5⟩
 have HM:=jX hm_w5
 clear hm_w5
 refine ⟨_,rfl,?_⟩
 have hS0:=HM.out.keep
 go_simp
 refine hK _ _ hS0 ?_
 clear hK K
 refine ⟨by kernel_rfl,?_⟩
 simp only [List.drop_succ_cons,List.drop_zero]
 have bz:=jX (HM.out.keep.heap Bgc.out (by simp))
 have pgc:=cell_of bz.out
 have fgc:=frozen_of bz.out
 have lgc:=lt_of_heap bz.out
 go_wp2_with fail
 obtain⟨u9,e9,b9,k9⟩:=st2 (x:=.slice vo_w5 (combK 1 (combK 1 T U) (combK 2 (combK 3 D T) (combK 3 E U))).length vc_w5) (y:=.slice vo_w1 (combK 1 T U).length vc_w1) bz.out
 rw [← e9]
 clear e9 pgc fgc lgc
 have pgc:=cell_of b9
 refine bodyPost_ret (v:=.agg #[.slice vo_w5 (combK 1 (combK 1 T U) (combK 2 (combK 3 D T) (combK 3 E U))).length vc_w5,.slice vo_w1 (combK 1 T U).length vc_w1]) ?_ rfl ⟨_,_,_,_,rfl,MP.fin H0.out.keep HkW.out HM.out bz.out (by simp) (by omega) k9 ?_⟩
 ·rw [results_cell1 rfl];go_simp
 ·intro p hp;simp only [List.mem_cons] at hp ⊢;grind
theorem MP.reither (h:MP S w0 w L) (hD:(.slice da D.length dc,D)∈L) (hT:(.slice ta T.length tc,T)∈L) (hE:(.slice ea E.length ec,E)∈L) (hU:(.slice ua U.length uc,U)∈L) :
  Calls Tryz.prog 28 #[.agg #[.slice da D.length dc,.slice ta T.length tc],.agg #[.slice ea E.length ec,.slice ua U.length uc]] w (BolPost S w0 L (combK 1 (combK 1 T U) (combK 2 (combK 3 D T) (combK 3 E U))) (combK 2 (combK 1 T U) (combK 1 (combK 1 T U) (combK 2 (combK 3 D T) (combK 3 E U))))):=by
 have H0:=jX h
 have hD:=jX hD
 have hT:=jX hT
 have hE:=jX hE
 have hU:=jX hU
 clear h
 go_enter Tryz.func28,Tryz.ntmps28
 go_upto_region 1 with (fail)
 obtain⟨W,ga,gb,gc,hW,ega,egb,egc,bga,bgb,bgc,hga,hgb,hgc,hgW,hkW⟩:=al3 w (.cells #[.slice da D.length dc,.slice ta T.length tc] 29) (.cells #[.slice ea E.length ec,.slice ua U.length uc] 29) (.cells #[.slice none 0 0,.slice none 0 0] 29)
 rw [← hW]
 try rw [egc]
 try rw [egb]
 try rw [ega]
 have Bga:=jX bga
 have Bgb:=jX bgb
 have Bgc:=jX bgc
 have HkW:=jX hkW
 clear hW hkW ega egb egc bga bgb bgc
 have HM:=jX (H0.out.here.move HkW.out).here
 have pga:=cell_of (HM.out.keep.heap Bga.out (by simp))
 have pgb:=cell_of (HM.out.keep.heap Bgb.out (by simp))
 go_wp2_with fail
 refine (HM.out.comb (op:=1) (by simp) (v:=.slice ta T.length tc) (a:=T) (u:=.slice ua U.length uc) (b:=U) (by simp [hD.out,hT.out,hE.out,hU.out]) (by simp [hD.out,hT.out,hE.out,hU.out])).mono ?_
 rintro e w1 ⟨vo_w1,vc_w1,rfl,hm_w1⟩
 dsimp only
 have HM:=jX hm_w1
 clear hm_w1
 clear pga pgb
 go_upto_region 2 with (fail)
 refine wp_region_heldT (S:=fun u=>Keep [] W u) 9 (by kernel_rfl) (by kernel_rfl) (fun _ _ d _ _ h=>by cases d<;>exact h) ?_
 have HM:=jX (HM.out.move (Keep.drew [] w1))
 generalize World.drew w1=u at *
 have hS0:=HM.out.keep
 refine' jV (v:=_) 0 hS0 (fun w hw=>?hrunf0) (fun K hK=>?hnextf0)
 case hrunf0=>(have pga:=cell_of (hw.heap Bga.out (by simp));have pgb:=cell_of (hw.heap Bgb.out (by simp));go_simp;try rfl)
 go_simp
 refine hK _ ?_
 clear hK K
 refine' jV (v:=_) 1 hS0 (fun w hw=>?hrunf1) (fun K hK=>?hnextf1)
 case hrunf1=>(have pga:=cell_of (hw.heap Bga.out (by simp));have pgb:=cell_of (hw.heap Bgb.out (by simp));go_simp;try rfl)
 go_simp
 refine hK _ ?_
 clear hK K
 refine' jV (v:=_) 3 hS0 (fun w hw=>?hrunf3) (fun K hK=>?hnextf3)
 case hrunf3=>(have pga:=cell_of (hw.heap Bga.out (by simp));have pgb:=cell_of (hw.heap Bgb.out (by simp));go_simp;try rfl)
 go_simp
 refine hK _ ?_
 clear hK K
 refine' jV (v:=_) 7 hS0 (fun w hw=>?hrunf7) (fun K hK=>?hnextf7)
 case hrunf7=>(have pga:=cell_of (hw.heap Bga.out (by simp));have pgb:=cell_of (hw.heap Bgb.out (by simp));go_simp;try rfl)
 go_simp
 refine hK _ ?_
 clear hK K
 refine jO 2 (fun K hK=>?_)
 refine wp_enter 22 #[.agg #[.slice da D.length dc,.slice ta T.length tc]] (by go_simp) ?_
 refine (HM.out.rfalse (D:=D) (T:=T) (by simp [hD.out,hT.out,hE.out,hU.out]) (by simp [hD.out,hT.out,hE.out,hU.out])).mono ?_
 rintro e w2 ⟨vo_w2,vc_w2,rfl,hm_w2⟩
 have HM:=jX hm_w2
 clear hm_w2
 refine ⟨_,rfl,?_⟩
 have hS0:=HM.out.keep
 go_simp
 refine hK _ _ hS0 ?_
 clear hK K
 refine jO 4 (fun K hK=>?_)
 refine wp_enter 22 #[.agg #[.slice ea E.length ec,.slice ua U.length uc]] (by go_simp) ?_
 refine (HM.out.rfalse (D:=E) (T:=U) (by simp [hD.out,hT.out,hE.out,hU.out]) (by simp [hD.out,hT.out,hE.out,hU.out])).mono ?_
 rintro e w3 ⟨vo_w3,vc_w3,rfl,hm_w3⟩
 have HM:=jX hm_w3
 clear hm_w3
 refine ⟨_,rfl,?_⟩
 have hS0:=HM.out.keep
 go_simp
 refine hK _ _ hS0 ?_
 clear hK K
 refine jO 5 (fun K hK=>?_)
 refine wp_enter 50 #[.int .i64 2,.slice vo_w2 (combK 3 D T).length vc_w2,.slice vo_w3 (combK 3 E U).length vc_w3] (by go_simp) ?_
 refine (HM.out.comb (op:=2) (by simp) (v:=.slice vo_w2 (combK 3 D T).length vc_w2) (a:=combK 3 D T) (u:=.slice vo_w3 (combK 3 E U).length vc_w3) (b:=combK 3 E U) (by simp [hD.out,hT.out,hE.out,hU.out]) (by simp [hD.out,hT.out,hE.out,hU.out])).mono ?_
 rintro e w4 ⟨vo_w4,vc_w4,rfl,hm_w4⟩
 have HM:=jX hm_w4
 clear hm_w4
 refine ⟨_,rfl,?_⟩
 have hS0:=HM.out.keep
 go_simp
 refine hK _ _ hS0 ?_
 clear hK K
 refine jO 6 (fun K hK=>?_)
 refine wp_enter 50 #[.int .i64 1,.slice vo_w1 (combK 1 T U).length vc_w1,.slice vo_w4 (combK 2 (combK 3 D T) (combK 3 E U)).length vc_w4] (by go_simp) ?_
 refine (HM.out.comb (op:=1) (by simp) (v:=.slice vo_w1 (combK 1 T U).length vc_w1) (a:=combK 1 T U) (u:=.slice vo_w4 (combK 2 (combK 3 D T) (combK 3 E U)).length vc_w4) (b:=combK 2 (combK 3 D T) (combK 3 E U)) (by simp [hD.out,hT.out,hE.out,hU.out]) (by simp [hD.out,hT.out,hE.out,hU.out])).mono ?_
 rintro e w5 ⟨vo_w5,vc_w5,rfl,hm_w5⟩
 have HM:=jX hm_w5
 clear hm_w5
 refine ⟨_,rfl,?_⟩
 have hS0:=HM.out.keep
 go_simp
 refine hK _ _ hS0 ?_
 clear hK K
 refine jO 8 (fun K hK=>?_)
 refine wp_enter 60 #[.slice vo_w5 (combK 1 (combK 1 T U) (combK 2 (combK 3 D T) (combK 3 E U))).length vc_w5,.slice vo_w1 (combK 1 T U).length vc_w1] (by go_simp) ?_
 refine (HM.out.rmake (D:=combK 1 (combK 1 T U) (combK 2 (combK 3 D T) (combK 3 E U))) (T:=combK 1 T U) (by simp [hD.out,hT.out,hE.out,hU.out]) (by simp [hD.out,hT.out,hE.out,hU.out])).mono ?_
 rintro e w6 ⟨da_w6,dc_w6,ta_w6,tc_w6,rfl,hm_w6⟩
 have HM:=jX hm_w6
 clear hm_w6
 refine ⟨_,rfl,?_⟩
 have hS0:=HM.out.keep
 go_simp
 refine hK _ _ hS0 ?_
 clear hK K
 refine ⟨by kernel_rfl,?_⟩
 simp only [List.drop_succ_cons,List.drop_zero]
 have bz:=jX (HM.out.keep.heap Bgc.out (by simp))
 have pgc:=cell_of bz.out
 have fgc:=frozen_of bz.out
 have lgc:=lt_of_heap bz.out
 go_wp2_with fail
 obtain⟨u9,e9,b9,k9⟩:=st2 (x:=.slice da_w6 (combK 1 (combK 1 T U) (combK 2 (combK 3 D T) (combK 3 E U))).length dc_w6) (y:=.slice ta_w6 (combK 2 (combK 1 T U) (combK 1 (combK 1 T U) (combK 2 (combK 3 D T) (combK 3 E U)))).length tc_w6) bz.out
 rw [← e9]
 clear e9 pgc fgc lgc
 have pgc:=cell_of b9
 refine bodyPost_ret (v:=.agg #[.slice da_w6 (combK 1 (combK 1 T U) (combK 2 (combK 3 D T) (combK 3 E U))).length dc_w6,.slice ta_w6 (combK 2 (combK 1 T U) (combK 1 (combK 1 T U) (combK 2 (combK 3 D T) (combK 3 E U)))).length tc_w6]) ?_ rfl ⟨_,_,_,_,rfl,MP.fin H0.out.keep HkW.out HM.out bz.out (by simp) (by omega) k9 ?_⟩
 ·rw [results_cell1 rfl];go_simp
 ·intro p hp;simp only [List.mem_cons] at hp ⊢;grind
end
section
variable {S:List K} {w0 w w' W:World} {L M:List (Value × List (Iv K))} {D T E U P:List (Iv K)} {da ta ea ua pa:Option Addr} {dc tc ec uc pc:Nat}
theorem MP.rat (h:MP S w0 w L) (hD:(.slice da D.length dc,D)∈L) (hT:(.slice ta T.length tc,T)∈L) (t:K) :
  Calls Tryz.prog 18 #[.agg #[.slice da D.length dc,.slice ta T.length tc],kv t] w (BB2Post S w0 L (holds T t) (holds D t)):=by
 have H0:=jX h
 have hD:=jX hD
 have hT:=jX hT
 clear h
 generalize hr1:holds T t=r1
 generalize hr2:holds D t=r2
 have Hr1:=jX hr1
 have Hr2:=jX hr2
 clear hr1 hr2
 show Calls Tryz.prog _ #[_,.agg (kC t)] w _
 go_enter Tryz.func18,Tryz.ntmps18
 go_upto_region 1 with (fail)
 obtain⟨W,ga,gb,hW,ega,egb,bga,bgb,hga,hgb,hgW,hkW⟩:=al2 w (.cells #[.slice da D.length dc,.slice ta T.length tc] 29) (.cells (kC t) 36)
 rw [← hW]
 try rw [egb]
 try rw [ega]
 have Bga:=jX bga
 have Bgb:=jX bgb
 have HkW:=jX hkW
 clear hW hkW ega egb bga bgb
 have HM:=jX (H0.out.here.move HkW.out).here
 refine wp_region_heldT (S:=fun u=>Keep [] W u) 8 (by kernel_rfl) (by kernel_rfl) (fun _ _ d _ _ h=>by cases d<;>exact h) ?_
 have HM:=jX (HM.out.move (Keep.drew [] W))
 generalize World.drew W=u at *
 have hS0:=HM.out.keep
 refine' jV (v:=_) 0 hS0 (fun w hw=>?hrunf0) (fun K hK=>?hnextf0)
 case hrunf0=>(have pga:=cell_of (hw.heap Bga.out (by simp));go_simp;try rfl)
 go_simp
 refine hK _ ?_
 clear hK K
 refine' jV (v:=_) 1 hS0 (fun w hw=>?hrunf1) (fun K hK=>?hnextf1)
 case hrunf1=>(have pga:=cell_of (hw.heap Bga.out (by simp));go_simp;try rfl)
 go_simp
 refine hK _ ?_
 clear hK K
 refine jV (v:=.agg (kC t)) 2 hS0 (fun w hw=>exec_load _ _ ⟨gb,0,none⟩ _ rfl rfl (kw_k Bgb.out ⟨w,hw⟩)) (fun K hK=>?_)
 go_simp
 refine hK _ ?_
 clear hK K
 refine' jV (v:=_) 4 hS0 (fun w hw=>?hrunf4) (fun K hK=>?hnextf4)
 case hrunf4=>(have pga:=cell_of (hw.heap Bga.out (by simp));go_simp;try rfl)
 go_simp
 refine hK _ ?_
 clear hK K
 refine' jV (v:=_) 5 hS0 (fun w hw=>?hrunf5) (fun K hK=>?hnextf5)
 case hrunf5=>(have pga:=cell_of (hw.heap Bga.out (by simp));go_simp;try rfl)
 go_simp
 refine hK _ ?_
 clear hK K
 refine jV (v:=.agg (kC t)) 6 hS0 (fun w hw=>exec_load _ _ ⟨gb,0,none⟩ _ rfl rfl (kw_k Bgb.out ⟨w,hw⟩)) (fun K hK=>?_)
 go_simp
 refine hK _ ?_
 clear hK K
 refine jO 3 (fun K hK=>?_)
 refine wp_enter 23 #[.slice ta T.length tc,.agg (kC t)] (by go_simp) ?_
 refine (Hr1.out ▸ HM.out.hold (v:=.slice ta T.length tc) (a:=T) (by simp [hD.out,hT.out]) t).mono ?_
 rintro e w1 ⟨rfl,hm_w1⟩
 have HM:=jX hm_w1
 clear hm_w1
 refine ⟨_,rfl,?_⟩
 have hS0:=HM.out.keep
 go_simp
 refine hK _ _ hS0 ?_
 clear hK K
 refine jO 7 (fun K hK=>?_)
 refine wp_enter 23 #[.slice da D.length dc,.agg (kC t)] (by go_simp) ?_
 refine (Hr2.out ▸ HM.out.hold (v:=.slice da D.length dc) (a:=D) (by simp [hD.out,hT.out]) t).mono ?_
 rintro e w2 ⟨rfl,hm_w2⟩
 have HM:=jX hm_w2
 clear hm_w2
 refine ⟨_,rfl,?_⟩
 have hS0:=HM.out.keep
 go_simp
 refine hK _ _ hS0 ?_
 clear hK K
 refine ⟨by kernel_rfl,?_⟩
 simp only [List.drop_succ_cons,List.drop_zero]
 go_wp2_with fail
 refine bodyPost_ret (results_tmp2 rfl _ _ _) rfl ⟨rfl,H0.out.back HkW.out HM.out (fun p hp=>by simp [hp])⟩
theorem MP.req (h:MP S w0 w L) (hD:(.slice da D.length dc,D)∈L) (hT:(.slice ta T.length tc,T)∈L) (hE:(.slice ea E.length ec,E)∈L) (hU:(.slice ua U.length uc,U)∈L) :
  Calls Tryz.prog 27 #[.agg #[.slice da D.length dc,.slice ta T.length tc],.agg #[.slice ea E.length ec,.slice ua U.length uc]] w (BoolPost S w0 L (decide (D=E)&&decide (T=U))):=by
 have H0:=jX h
 have hD:=jX hD
 have hT:=jX hT
 have hE:=jX hE
 have hU:=jX hU
 clear h
 have K1:=jX (fun b u M (h:MP S b u M) (h1:(.slice da D.length dc,D)∈M) (h2:(.slice ea E.length ec,E)∈M)=>h.eqd h1 h2)
 have K2:=jX (fun b u M (h:MP S b u M) (h1:(.slice ta T.length tc,T)∈M) (h2:(.slice ua U.length uc,U)∈M)=>h.eqd h1 h2)
 cases hr:decide (D=E) with
 | false =>
  rw [hr] at K1
  clear K2
  generalize decide (T=U)=q
  go_enter Tryz.func27,Tryz.ntmps27
  go_upto_region 1 with (fail)
  obtain⟨W,ga,gb,hW,ega,egb,bga,bgb,hga,hgb,hgW,hkW⟩:=al2 w (.cells #[.slice da D.length dc,.slice ta T.length tc] 29) (.cells #[.slice ea E.length ec,.slice ua U.length uc] 29)
  rw [← hW]
  try rw [egb]
  try rw [ega]
  have Bga:=jX bga
  have Bgb:=jX bgb
  have HkW:=jX hkW
  clear hW hkW ega egb bga bgb
  have HM:=jX (H0.out.here.move HkW.out).here
  have pga:=cell_of (HM.out.keep.heap Bga.out (by simp))
  have pgb:=cell_of (HM.out.keep.heap Bgb.out (by simp))
  go_wp2_with fail
  refine (K1.out _ _ _ HM.out hD.out hE.out).mono ?_
  rintro e w1 ⟨rfl,hm_w1⟩
  dsimp only
  have HM:=jX hm_w1
  clear hm_w1
  clear pga pgb
  go_wp2_with fail
  go_ret
  exact ⟨rfl,H0.out.back HkW.out HM.out (fun p hp=>by simp [hp])⟩
 | true =>
  rw [hr] at K1
  rw [Bool.true_and]
  generalize decide (T=U)=q at *
  go_enter Tryz.func27,Tryz.ntmps27
  go_upto_region 1 with (fail)
  obtain⟨W,ga,gb,hW,ega,egb,bga,bgb,hga,hgb,hgW,hkW⟩:=al2 w (.cells #[.slice da D.length dc,.slice ta T.length tc] 29) (.cells #[.slice ea E.length ec,.slice ua U.length uc] 29)
  rw [← hW]
  try rw [egb]
  try rw [ega]
  have Bga:=jX bga
  have Bgb:=jX bgb
  have HkW:=jX hkW
  clear hW hkW ega egb bga bgb
  have HM:=jX (H0.out.here.move HkW.out).here
  have pga:=cell_of (HM.out.keep.heap Bga.out (by simp))
  have pgb:=cell_of (HM.out.keep.heap Bgb.out (by simp))
  go_wp2_with fail
  refine (K1.out _ _ _ HM.out hD.out hE.out).mono ?_
  rintro e w1 ⟨rfl,hm_w1⟩
  dsimp only
  have HM:=jX hm_w1
  clear hm_w1
  clear pga pgb
  have pga:=cell_of (HM.out.keep.heap Bga.out (by simp))
  have pgb:=cell_of (HM.out.keep.heap Bgb.out (by simp))
  go_wp2_with fail
  refine (K2.out _ _ _ HM.out hT.out hU.out).mono ?_
  rintro e w2 ⟨rfl,hm_w2⟩
  dsimp only
  have HM:=jX hm_w2
  clear hm_w2
  clear pga pgb
  go_wp2_with fail
  go_ret
  exact ⟨rfl,H0.out.back HkW.out HM.out (fun p hp=>by simp [hp])⟩
end
section
variable {S:List K} {w0 w w' W V:World} {L M:List (Value × List (Iv K))}
end
theorem lreal_c (a:InsA) (w:World):Calls Tryz.prog 16 #[a.v] w fun e w'=>e = .returned (kv a.k)∧Keep [] w w':=by
 have HI:=jX (instant_c a)
 have hv:a.v = .agg #[.int .u8 a.P,.int .u8 a.D,.int .u8 a.R,.int .u8 a.E,.bool a.neg]:=rfl
 rw [hv] at HI ⊢
 generalize (a.P:Int)=P1 at *
 generalize (a.D:Int)=P2 at *
 generalize (a.R:Int)=P3 at *
 generalize (a.E:Int)=P4 at *
 generalize a.neg=P5 at *
 generalize a.k=t at *
 go_enter Tryz.func16,Tryz.ntmps16
 go_upto_region 1 with (fail)
 obtain⟨W,ga,gb,hW,ega,egb,bga,bgb,hga,hgb,hgW,hkW⟩:=al2 w (.cells #[.int .u8 P1,.int .u8 P2,.int .u8 P3,.int .u8 P4,.bool P5] 26) (.cells #[.bool false,.string ⟨#[]⟩,.bool false,.string ⟨#[]⟩,.bool false,.string ⟨#[]⟩,.bool false,.string ⟨#[]⟩,.bool false] 36)
 rw [← hW]
 try rw [egb]
 try rw [ega]
 have Bga:=jX bga
 have Bgb:=jX bgb
 have HkW:=jX hkW
 clear hW hkW ega egb bga bgb
 have pga:=cell_of Bga.out
 refine wp_region_lit ?_
 refine' wpList_R (v:=_) (by rfl) (?hruna) (fun K hK=>?hnexta)
 case hruna=>(go_simp;try rfl)
 go_simp
 refine hK _ _ ?_
 clear hK K
 refine wpList_plain (by rfl) (fun K hK=>?_)
 refine wp_enter 64 #[.agg #[.int .u8 P1,.int .u8 P2,.int .u8 P3,.int .u8 P4,.bool P5]] (by go_simp) ?_
 refine (HI.out _).mono ?_
 rintro e w2 ⟨rfl,hk2⟩
 refine ⟨_,rfl,?_⟩
 go_simp
 refine hK _ _ ?_
 clear hK K pga
 have Bz:=jX (hk2.heap Bgb.out (by simp))
 refine wpList_rowK (by rfl) _ _ _ rfl gb (kC t) rfl rfl _ _ Bz.out (by exact k_size) (by rfl) (all_oneCell_toArray (kcells_one t.1)) (fun K hK=>?_)
 obtain⟨w4,e4,b4,k4⟩:=setRow_at (cs:=kC t) Bz.out
 rw [e4]
 go_simp
 refine hK _ _ ?_
 clear hK K e4
 have HL:=jX (load_real w4 gb 0 t.1 (kAt_box b4))
 have HkZ:=jX ((HkW.out.trans0 hk2).trans k4 (by simp;omega))
 clear b4 k4
 go_wp2_with fail
 refine bodyPost_ret (v:=kv t) ?_ rfl ⟨rfl,HkZ.out⟩
 rw [results_cell1 rfl]
 change ((loadVar 36 ⟨gb,0,none⟩).run Tryz.prog w4)=_
 rw [HL.out]
 rfl
structure InsC (v:Value) (k:K):Prop where
 form:∃ p1 p2 p3 p4 b,v = .agg #[.int .u8 p1,.int .u8 p2,.int .u8 p3,.int .u8 p4,.bool b]
 call:∀ u,Calls Tryz.prog 16 #[v] u fun e w'=>e = .returned (.agg (kC k))∧Keep [] u w'
theorem insC_of {w:World} {v:Value} (h:InsArg w v):∃ k,InsC v k:=by
 obtain⟨a,rfl⟩:=h
 exact ⟨a.k,⟨_,_,_,_,_,rfl⟩,fun u=>lreal_c a u⟩
theorem holds_comb (op:Int) (a b:List (Iv K)) (t:K):holds (combK op a b) t=decV op (holds a t) (holds b t):=by rw [holds_has,holds_has,holds_has,combK_has]
theorem holds_sub {T D:List (Iv K)} (h:SubL T D) (t:K):holds T t=true→holds D t=true:=by rw [holds_has,holds_has];exact h _
section
variable {P:Program} {ops:Array Oper} {md:Region.Mode} {S:World→Prop} {Q:Exit→Act→World→Prop}
theorem heldT_vale {n f:Nat} {L:Array Bool→Act→World→Prop} {listed:Array Bool} {a:Act} {w:World} (i:Nat) {o:Oper} (ho:ops[i]? = some o) (hi:i<n) (hf:Region.free md ops listed i=true) (hr:(Region.ready md ops listed).contains i=true)
  (hg:Region.wanted o (yielded ops a.tmps)=true) (hS:S w)
  (h:∃ v,(∀ w,S w→(execOp a.eval o).run P w = .ok (.value v) w)∧∀ K:Act→Prop,(∀ a,heldT P md ops Q S n L f (listed.setIfInBounds i true) a w→K a)→K (a.put o.dst v)):heldT P md ops Q S n L (f+1) listed a w:=by
 obtain⟨v,h1,h2⟩:=h
 exact .inl ⟨i,o,v,ho,hi,hf,hr,.inl ⟨hg,h1⟩,hS,h2 _ (fun _ h=>h)⟩
theorem jE {n f:Nat} {L:Array Bool→Act→World→Prop} {listed:Array Bool} {a:Act} {w:World} (i:Nat) {o:Oper} (hS:S w) (h:∃ v,(∀ w,S w→(execOp a.eval o).run P w = .ok (.value v) w)∧∀ K:Act→Prop,(∀ a,heldT P md ops Q S n L f (listed.setIfInBounds i true) a w→K a)→K (a.put o.dst v)) (ho:ops[i]? = some o:=by rfl) (hi:i<n:=by decide) (hf:Region.free md ops listed i=true:=by kernel_rfl) (hr:(Region.ready md ops listed).contains i=true:=by kernel_rfl) (hg:Region.wanted o (yielded ops a.tmps)=true:=by rfl):heldT P md ops Q S n L (f+1) listed a w :=
 heldT_vale i ho hi hf hr hg hS h
end
section
variable {S:List K} {w0 w w' W:World} {L M:List (Value × List (Iv K))} {D T E U P:List (Iv K)} {da ta ea ua pa:Option Addr} {dc tc ec uc pc:Nat}
theorem MP.reqT (h:MP S w0 w L) (hD:(.slice da D.length dc,D)∈L) (hT:(.slice ta T.length tc,T)∈L) (hE:(.slice ea E.length ec,E)∈L) (hU:(.slice ua U.length uc,U)∈L) (h1:D=E) (h2:T=U) :
  Calls Tryz.prog 27 #[.agg #[.slice da D.length dc,.slice ta T.length tc],.agg #[.slice ea E.length ec,.slice ua U.length uc]] w (BoolPost S w0 L true):=by
 have:=h.req hD hT hE hU
 rw [decide_eq_true h1,decide_eq_true h2] at this
 exact this
theorem MP.matT (h:MP S w0 w L) (hD:(.slice da D.length dc,D)∈L) (hT:(.slice ta T.length tc,T)∈L) {t:K} {q r:Bool} (hq:holds T t=q) (hr:holds D t=r) :
  Calls Tryz.prog 17 #[.agg #[.slice da D.length dc,.slice ta T.length tc],.agg (kC t)] w (BB2Post S w0 L q r):=by
 subst hq hr
 exact h.mat hD hT t
theorem MP.ratT (h:MP S w0 w L) (hD:(.slice da D.length dc,D)∈L) (hT:(.slice ta T.length tc,T)∈L) {t:K} {q r:Bool} (hq:holds T t=q) (hr:holds D t=r) :
  Calls Tryz.prog 18 #[.agg #[.slice da D.length dc,.slice ta T.length tc],.agg (kC t)] w (BB2Post S w0 L q r):=by
 subst hq hr
 exact h.rat hD hT t
end
theorem movingboolEither_c (w:World) (v0 v1 v2:Value) (m0:MovArg w v0) (m1:MovArg w v1) (m2:InsArg w v2):Calls Tryz.prog 5 #[v0,v1,v2] w fun e w'=>e = .returned (.bool true)∧Keep [] w w':=by
 obtain⟨l0,q0,D0,T0,c0⟩:=movC_of m0
 obtain⟨l1,q1,D1,T1,c1⟩:=movC_of m1
 obtain⟨k2,C2⟩:=insC_of m2
 have hS:(l0++l1).length≤1000:=by simp only [List.length_append];omega
 have C0:=c0 (l0++l1) (by simp +contextual)
 have C1:=c1 (l0++l1) (by simp +contextual)
 generalize l0++l1=S at *
 obtain⟨ao0,an0,ac0,bo0,bn0,bc0,rfl⟩:=C0.form
 have nD0:=C0.nD
 have nT0:=C0.nT
 have sT0:=C0.sub
 obtain⟨ao1,an1,ac1,bo1,bn1,bc1,rfl⟩:=C1.form
 have nD1:=C1.nD
 have nT1:=C1.nT
 have sT1:=C1.sub
 obtain⟨x1,x2,x3,x4,x5,rfl⟩:=C2.form
 have HC0:=jX C0
 have HC1:=jX C1
 have HC2:=jX C2
 clear m2 C2
 clear m0 q0 c0 C0 m1 q1 c1 C1 l0 l1
 have h0:=holds_sub sT0 k2
 have h1:=holds_sub sT1 k2
 obtain⟨q0,e0⟩:∃ q,holds T0 k2=q:=⟨_,rfl⟩
 obtain⟨r0,e1⟩:∃ q,holds D0 k2=q:=⟨_,rfl⟩
 obtain⟨q1,e2⟩:∃ q,holds T1 k2=q:=⟨_,rfl⟩
 obtain⟨r1,e3⟩:∃ q,holds D1 k2=q:=⟨_,rfl⟩
 rw [e0,e1] at h0
 rw [e2,e3] at h1
 have hq:holds (combK 1 T0 T1) k2=(q0 || q1):=by rw [holds_comb,e0,e2];rfl
 have hr:holds (combK 1 (combK 1 T0 T1) (combK 2 (combK 3 D0 T0) (combK 3 D1 T1))) k2=((q0 || q1) || ((r0 && !q0)&&(r1 && !q1))):=by rw [holds_comb,hq,holds_comb,holds_comb,holds_comb,e0,e1,e2,e3];rfl
 have Xe0:=jX e0
 have Xe1:=jX e1
 have Xe2:=jX e2
 have Xe3:=jX e3
 have Xhq:=jX hq
 have Xhr:=jX hr
 have Xh0:=jX h0
 have Xh1:=jX h1
 clear e0 e1 e2 e3 hq hr h0 h1
 have E1:=jX (mb_either (T:=T0) (U:=T1) (combK 2 (combK 3 D0 T0) (combK 3 D1 T1)))
 go_enter Tryz.func5,Tryz.ntmps5
 go_upto_region 1 with (fail)
 obtain⟨W,ga,gb,gc,hW,ega,egb,egc,bga,bgb,bgc,hga,hgb,hgc,hgW,hkW⟩:=al3 w (.cells #[.slice ao0 an0 ac0,.slice bo0 bn0 bc0] 24) (.cells #[.slice ao1 an1 ac1,.slice bo1 bn1 bc1] 24) (.cells #[.int .u8 x1,.int .u8 x2,.int .u8 x3,.int .u8 x4,.bool x5] 26)
 rw [← hW]
 try rw [egc]
 try rw [egb]
 try rw [ega]
 have Bga:=jX bga
 have Bgb:=jX bgb
 have Bgc:=jX bgc
 have HkW:=jX hkW
 clear hW hkW ega egb egc bga bgb bgc
 have HM:=jX (MP.start hS W)
 have HK:=jX HkW.out
 clear hS HkW
 refine wp_region_heldN (S:=fun u=>Keep [] W u) 9 [(7,29),(8,29),(9,36)] (fun t=>if t=29 then .cells #[.slice none 0 0,.slice none 0 0] 29 else .cells #[.bool false,.string ⟨#[]⟩,.bool false,.string ⟨#[]⟩,.bool false,.string ⟨#[]⟩,.bool false,.string ⟨#[]⟩,.bool false] 36) (by kernel_rfl) (by kernel_rfl) (by kernel_rfl) (fun t ht ev w o ho=>(by simp at ht;rcases ht with rfl|rfl<;>first|(rw [if_pos rfl];exact al_bool ev w o ho)|(rw [if_neg (by decide)];exact al_real ev w o ho))) (fun _ _ d _ _ h=>by cases d<;>exact h) (fun _ _ d _ _ h=>by cases d<;>exact h) (fun _ _ h k=>h.trans0 k) ?_
 simp only [List.map_cons,List.map_nil,unal,isAl,if_true,if_false,Bool.false_eq_true]
 have hS0:=Keep.drew [] W
 have HM:=jX (HM.out.move hS0).here
 generalize World.drew W=u at *
 refine' jN (v:=_) 0 hS0 (fun _ _ h k=>h.trans0 k) (fun w hw=>?hrunr10) (fun K hK=>?hnextr10)
 case hrunr10=>(have pga:=cell_of (hw.heap Bga.out (by simp));go_simp;try rfl)
 go_simp
 refine hK _ ?_
 clear hK K
 refine' jN (v:=_) 2 hS0 (fun _ _ h k=>h.trans0 k) (fun w hw=>?hrunr12) (fun K hK=>?hnextr12)
 case hrunr12=>(have pgb:=cell_of (hw.heap Bgb.out (by simp));go_simp;try rfl)
 go_simp
 refine hK _ ?_
 clear hK K
 refine' jN (v:=_) 4 hS0 (fun _ _ h k=>h.trans0 k) (fun w hw=>?hrunr14) (fun K hK=>?hnextr14)
 case hrunr14=>(have pgc:=cell_of (hw.heap Bgc.out (by simp));go_simp;try rfl)
 go_simp
 refine hK _ ?_
 clear hK K
 refine' jN (v:=_) 6 hS0 (fun _ _ h k=>h.trans0 k) (fun w hw=>?hrunr16) (fun K hK=>?hnextr16)
 case hrunr16=>(skip;go_simp;try rfl)
 go_simp
 refine hK _ ?_
 clear hK K
 refine' jN (v:=_) 7 hS0 (fun _ _ h k=>h.trans0 k) (fun w hw=>?hrunr17) (fun K hK=>?hnextr17)
 case hrunr17=>(skip;go_simp;try rfl)
 go_simp
 refine hK _ ?_
 clear hK K
 refine' jN (v:=_) 8 hS0 (fun _ _ h k=>h.trans0 k) (fun w hw=>?hrunr18) (fun K hK=>?hnextr18)
 case hrunr18=>(skip;go_simp;try rfl)
 go_simp
 refine hK _ ?_
 clear hK K
 refine jM 1 (fun u hu K hK=>?_)
 have HM:=jX (HM.out.move hu).here
 have hS0:=hS0.trans0 hu
 clear hu
 refine wp_enter 15 #[.agg #[.slice ao0 an0 ac0,.slice bo0 bn0 bc0]] (by go_simp) ?_
 refine (HC0.out.call _ _ _ (HK.out.trans0 hS0) HM.out).mono ?_
 rintro e w1 ⟨da_w1,dc_w1,ta_w1,tc_w1,rfl,hm_w1⟩
 have hk:=hm_w1.keep
 have HM:=jX hm_w1.here
 clear hm_w1
 have hS0:=hS0.trans0 hk
 refine ⟨_,rfl,?_⟩
 go_simp
 refine hK _ _ hS0 hk ?_
 clear hK K hk
 refine jM 3 (fun u hu K hK=>?_)
 have HM:=jX (HM.out.move hu).here
 have hS0:=hS0.trans0 hu
 clear hu
 refine wp_enter 15 #[.agg #[.slice ao1 an1 ac1,.slice bo1 bn1 bc1]] (by go_simp) ?_
 refine (HC1.out.call _ _ _ (HK.out.trans0 hS0) HM.out).mono ?_
 rintro e w2 ⟨da_w2,dc_w2,ta_w2,tc_w2,rfl,hm_w2⟩
 have hk:=hm_w2.keep
 have HM:=jX hm_w2.here
 clear hm_w2
 have hS0:=hS0.trans0 hk
 refine ⟨_,rfl,?_⟩
 go_simp
 refine hK _ _ hS0 hk ?_
 clear hK K hk
 refine jM 5 (fun u hu K hK=>?_)
 have HM:=jX (HM.out.move hu).here
 have hS0:=hS0.trans0 hu
 clear hu
 refine wp_enter 16 #[.agg #[.int .u8 x1,.int .u8 x2,.int .u8 x3,.int .u8 x4,.bool x5]] (by go_simp) ?_
 refine (HC2.out.call _).mono ?_
 rintro e w3 ⟨rfl,hk⟩
 have HM:=jX (HM.out.move hk).here
 have hS0:=hS0.trans0 hk
 refine ⟨_,rfl,?_⟩
 go_simp
 refine hK _ _ hS0 hk ?_
 clear hK K hk
 intro w4 hu
 have HM:=jX (HM.out.move hu).here
 have hS0:=hS0.trans0 hu
 clear hu
 refine ⟨by kernel_rfl,fun p hp1 hp2 _ hz=>?_⟩
 simp only [List.map_cons,List.map_nil,pl,List.drop_succ_cons,List.drop_zero]
 have b7:=hz (7,29) (by simp)
 have h7:=hp1 7 (by simp)
 have b8:=hz (8,29) (by simp)
 have h8:=hp1 8 (by simp)
 have b9:=hz (9,36) (by simp)
 have h9:=hp1 9 (by simp)
 have n7_8:p 7≠p 8:=fun h=>absurd (hp2 7 (by simp) 8 (by simp) h) (by decide)
 have n7_9:p 7≠p 9:=fun h=>absurd (hp2 7 (by simp) 9 (by simp) h) (by decide)
 have n8_9:p 8≠p 9:=fun h=>absurd (hp2 8 (by simp) 9 (by simp) h) (by decide)
 dsimp only at b7 b8 b9
 rw [if_pos rfl] at b7
 rw [if_pos rfl] at b8
 rw [if_neg (by decide)] at b9
 generalize p 7=g7 at *
 generalize p 8=g8 at *
 generalize p 9=g9 at *
 clear hz hp1 hp2 p
 have HM:=jX (HM.out.re hS0)
 clear hS0
 go_simp
 refine wpList_rowK (by rfl) _ _ _ rfl g7 (#[.slice da_w1 D0.length dc_w1,.slice ta_w1 T0.length tc_w1]) rfl rfl _ _ b7 (by exact b_size) (by rfl) (b_one _ _ _ _ _ _) (fun K hK=>?_)
 have o7:=b7
 clear b7
 obtain⟨w5,e7,b7,k7⟩:=setRow_at (cs:=#[.slice da_w1 D0.length dc_w1,.slice ta_w1 T0.length tc_w1]) o7
 rw [e7]
 go_simp
 refine hK _ _ ?_
 clear hK K e7
 have b8:=k7.heap b8 (by simp [n7_8,n7_8.symm])
 have b9:=k7.heap b9 (by simp [n7_9,n7_9.symm])
 have HM:=jX (HM.out.put o7 (by simp) k7 h7)
 clear k7 o7
 refine wpList_rowK (by rfl) _ _ _ rfl g8 (#[.slice da_w2 D1.length dc_w2,.slice ta_w2 T1.length tc_w2]) rfl rfl _ _ b8 (by exact b_size) (by rfl) (b_one _ _ _ _ _ _) (fun K hK=>?_)
 have o8:=b8
 clear b8
 obtain⟨w6,e8,b8,k8⟩:=setRow_at (cs:=#[.slice da_w2 D1.length dc_w2,.slice ta_w2 T1.length tc_w2]) o8
 rw [e8]
 go_simp
 refine hK _ _ ?_
 clear hK K e8
 have b7:=k8.heap b7 (by simp [n7_8,n7_8.symm])
 have b9:=k8.heap b9 (by simp [n8_9,n8_9.symm])
 have HM:=jX (HM.out.put o8 (by simp) k8 h8)
 clear k8 o8
 refine wpList_rowK (by rfl) _ _ _ rfl g9 ((kC k2)) rfl rfl _ _ b9 (by exact k_size) (by rfl) (all_oneCell_toArray (kcells_one k2.1)) (fun K hK=>?_)
 have o9:=b9
 clear b9
 obtain⟨w7,e9,b9,k9⟩:=setRow_at (cs:=(kC k2)) o9
 rw [e9]
 go_simp
 refine hK _ _ ?_
 clear hK K e9
 have b7:=k9.heap b7 (by simp [n7_9,n7_9.symm])
 have b8:=k9.heap b8 (by simp [n8_9,n8_9.symm])
 have HM:=jX (HM.out.put o9 (by simp) k9 h9)
 clear k9 o9
 have hk:=HM.out.keep
 have HM:=jX HM.out.here
 have HK:=jX (HK.out.trans0 hk)
 have Bg7:=jX b7
 have Bg8:=jX b8
 have Bg9:=jX b9
 clear hk b7 h7 b8 h8 b9 h9 n7_8 n7_9 n8_9
 clear Bga Bgb Bgc HC0 HC1 HC2
 have pg7:=cell_of Bg7.out
 have pg8:=cell_of Bg8.out
 have pg9:=cell_of Bg9.out
 go_wp2_with fail
 refine (HM.out.meither (ma 2 rfl) (ma 3 rfl) (ma 0 rfl) (ma 1 rfl)).mono ?_
 rintro e w8 ⟨da_w8,dc_w8,ta_w8,tc_w8,rfl,hm⟩
 dsimp only
 clear pg7
 clear pg8
 clear pg9
 have hk:=hm.keep
 have HM:=jX hm.here
 have HK:=jX (HK.out.trans0 hk)
 have Bg7:=jX (hk.heap Bg7.out (by simp))
 have Bg8:=jX (hk.heap Bg8.out (by simp))
 have Bg9:=jX (hk.heap Bg9.out (by simp))
 clear hm hk
 have pg7:=cell_of Bg7.out
 have pg8:=cell_of Bg8.out
 have pg9:=cell_of Bg9.out
 go_upto_region 3 with (fail)
 clear pg7
 clear pg8
 clear pg9
 obtain⟨w9,g10,e2,e3,b2,h2,_,hk⟩:=al1 w8 (.cells #[.slice da_w8 (combK 1 (combK 1 T0 T1) (combK 2 (combK 3 D0 T0) (combK 3 D1 T1))).length dc_w8,.slice ta_w8 (combK 1 T0 T1).length tc_w8] 29)
 rw [← e2,e3]
 clear e2 e3
 have HM:=jX (HM.out.move hk).here
 have HK:=jX (HK.out.trans0 hk)
 have Bg7:=jX (hk.heap Bg7.out (by simp))
 have Bg8:=jX (hk.heap Bg8.out (by simp))
 have Bg9:=jX (hk.heap Bg9.out (by simp))
 have Bg10:=jX b2
 clear b2 h2 hk
 refine wp_region_lit ?_
 have pg7:=cell_of Bg7.out
 refine' wpList_R (v:=_) (by rfl) (?hrunr3x0) (fun K hK=>?hnextr3x0)
 case hrunr3x0=>(go_simp;try rfl)
 go_simp
 refine hK _ _ ?_
 clear hK K
 clear pg7
 refine wpList_R (v:=.agg (kC k2)) (by rfl) (exec_load _ _ ⟨g9,0,none⟩ _ rfl rfl (kw_k Bg9.out ⟨_,Keep.refl _ _⟩)) (fun K hK=>?_)
 go_simp
 refine hK _ _ ?_
 clear hK K
 refine wpList_plain (by rfl) (fun K hK=>?_)
 refine wp_enter 18 #[.agg #[.slice da_w1 D0.length dc_w1,.slice ta_w1 T0.length tc_w1],.agg (kC k2)] (by go_simp) ?_
 refine (HM.out.ratT (ma 4 rfl) (ma 5 rfl) Xe0.out Xe1.out).mono ?_
 rintro e w10 ⟨rfl,hm⟩
 have hk:=hm.keep
 have HM:=jX hm.here
 have HK:=jX (HK.out.trans0 hk)
 have Bg7:=jX (hk.heap Bg7.out (by simp))
 have Bg8:=jX (hk.heap Bg8.out (by simp))
 have Bg9:=jX (hk.heap Bg9.out (by simp))
 have Bg10:=jX (hk.heap Bg10.out (by simp))
 clear hm hk
 refine ⟨_,rfl,?_⟩
 go_simp
 refine hK _ _ ?_
 clear hK K
 refine' wpList_R (v:=_) (by rfl) (?hrunr3x3) (fun K hK=>?hnextr3x3)
 case hrunr3x3=>(go_simp;try rfl)
 go_simp
 refine hK _ _ ?_
 clear hK K
 refine' wpList_R (v:=_) (by rfl) (?hrunr3x4) (fun K hK=>?hnextr3x4)
 case hrunr3x4=>(go_simp;try rfl)
 go_simp
 refine hK _ _ ?_
 clear hK K
 refine' wpList_R (v:=_) (by rfl) (?hrunr3x5) (fun K hK=>?hnextr3x5)
 case hrunr3x5=>(go_simp;try rfl)
 go_simp
 refine hK _ _ ?_
 clear hK K
 refine' wpList_R (v:=_) (by rfl) (?hrunr3x6) (fun K hK=>?hnextr3x6)
 case hrunr3x6=>(go_simp;try rfl)
 go_simp
 refine hK _ _ ?_
 clear hK K
 refine' wpList_R (v:=_) (by rfl) (?hrunr3x7) (fun K hK=>?hnextr3x7)
 case hrunr3x7=>(go_simp;try rfl)
 go_simp
 refine hK _ _ ?_
 clear hK K
 go_upto_region 4 with (fail)
 refine wp_region_lit ?_
 have pg8:=cell_of Bg8.out
 refine' wpList_R (v:=_) (by rfl) (?hrunr4x0) (fun K hK=>?hnextr4x0)
 case hrunr4x0=>(go_simp;try rfl)
 go_simp
 refine hK _ _ ?_
 clear hK K
 clear pg8
 refine wpList_R (v:=.agg (kC k2)) (by rfl) (exec_load _ _ ⟨g9,0,none⟩ _ rfl rfl (kw_k Bg9.out ⟨_,Keep.refl _ _⟩)) (fun K hK=>?_)
 go_simp
 refine hK _ _ ?_
 clear hK K
 refine wpList_plain (by rfl) (fun K hK=>?_)
 refine wp_enter 18 #[.agg #[.slice da_w2 D1.length dc_w2,.slice ta_w2 T1.length tc_w2],.agg (kC k2)] (by go_simp) ?_
 refine (HM.out.ratT (ma 2 rfl) (ma 3 rfl) Xe2.out Xe3.out).mono ?_
 rintro e w11 ⟨rfl,hm⟩
 have hk:=hm.keep
 have HM:=jX hm.here
 have HK:=jX (HK.out.trans0 hk)
 have Bg7:=jX (hk.heap Bg7.out (by simp))
 have Bg8:=jX (hk.heap Bg8.out (by simp))
 have Bg9:=jX (hk.heap Bg9.out (by simp))
 have Bg10:=jX (hk.heap Bg10.out (by simp))
 clear hm hk
 refine ⟨_,rfl,?_⟩
 go_simp
 refine hK _ _ ?_
 clear hK K
 refine' wpList_R (v:=_) (by rfl) (?hrunr4x3) (fun K hK=>?hnextr4x3)
 case hrunr4x3=>(go_simp;try rfl)
 go_simp
 refine hK _ _ ?_
 clear hK K
 refine' wpList_R (v:=_) (by rfl) (?hrunr4x4) (fun K hK=>?hnextr4x4)
 case hrunr4x4=>(go_simp;try rfl)
 go_simp
 refine hK _ _ ?_
 clear hK K
 refine' wpList_R (v:=_) (by rfl) (?hrunr4x5) (fun K hK=>?hnextr4x5)
 case hrunr4x5=>(go_simp;try rfl)
 go_simp
 refine hK _ _ ?_
 clear hK K
 refine' wpList_R (v:=_) (by rfl) (?hrunr4x6) (fun K hK=>?hnextr4x6)
 case hrunr4x6=>(go_simp;try rfl)
 go_simp
 refine hK _ _ ?_
 clear hK K
 refine' wpList_R (v:=_) (by rfl) (?hrunr4x7) (fun K hK=>?hnextr4x7)
 case hrunr4x7=>(go_simp;try rfl)
 go_simp
 refine hK _ _ ?_
 clear hK K
 go_upto_region 5 with (fail)
 refine wp_region_lit ?_
 have pg10:=cell_of Bg10.out
 refine' wpList_R (v:=_) (by rfl) (?hrunr5x0) (fun K hK=>?hnextr5x0)
 case hrunr5x0=>(go_simp;try rfl)
 go_simp
 refine hK _ _ ?_
 clear hK K
 clear pg10
 refine wpList_R (v:=.agg (kC k2)) (by rfl) (exec_load _ _ ⟨g9,0,none⟩ _ rfl rfl (kw_k Bg9.out ⟨_,Keep.refl _ _⟩)) (fun K hK=>?_)
 go_simp
 refine hK _ _ ?_
 clear hK K
 refine wpList_plain (by rfl) (fun K hK=>?_)
 refine wp_enter 17 #[.agg #[.slice da_w8 (combK 1 (combK 1 T0 T1) (combK 2 (combK 3 D0 T0) (combK 3 D1 T1))).length dc_w8,.slice ta_w8 (combK 1 T0 T1).length tc_w8],.agg (kC k2)] (by go_simp) ?_
 refine (HM.out.matT (ma 0 rfl) (ma 1 rfl) Xhq.out Xhr.out).mono ?_
 rintro e w12 ⟨rfl,hm⟩
 have hk:=hm.keep
 have HM:=jX hm.here
 have HK:=jX (HK.out.trans0 hk)
 have Bg7:=jX (hk.heap Bg7.out (by simp))
 have Bg8:=jX (hk.heap Bg8.out (by simp))
 have Bg9:=jX (hk.heap Bg9.out (by simp))
 have Bg10:=jX (hk.heap Bg10.out (by simp))
 clear hm hk
 refine ⟨_,rfl,?_⟩
 go_simp
 refine hK _ _ ?_
 clear hK K
 refine' wpList_R (v:=_) (by rfl) (?hrunr5x3) (fun K hK=>?hnextr5x3)
 case hrunr5x3=>(go_simp;try rfl)
 go_simp
 refine hK _ _ ?_
 clear hK K
 refine' wpList_R (v:=_) (by rfl) (?hrunr5x4) (fun K hK=>?hnextr5x4)
 case hrunr5x4=>(go_simp;try rfl)
 go_simp
 refine hK _ _ ?_
 clear hK K
 refine' wpList_R (v:=_) (by rfl) (?hrunr5x5) (fun K hK=>?hnextr5x5)
 case hrunr5x5=>(go_simp;try rfl)
 go_simp
 refine hK _ _ ?_
 clear hK K
 refine' wpList_R (v:=_) (by rfl) (?hrunr5x6) (fun K hK=>?hnextr5x6)
 case hrunr5x6=>(go_simp;try rfl)
 go_simp
 refine hK _ _ ?_
 clear hK K
 refine' wpList_R (v:=_) (by rfl) (?hrunr5x7) (fun K hK=>?hnextr5x7)
 case hrunr5x7=>(go_simp;try rfl)
 go_simp
 refine hK _ _ ?_
 clear hK K
 go_upto_region 6 with (fail)
 have h0:=Xh0.out
 have h1:=Xh1.out
 clear Xh0 Xh1 Xe0 Xe1 Xe2 Xe3 Xhq Xhr
 rcases q0<;>rcases r0<;>rcases q1<;>rcases r1<;>simp only [Bool.false_eq_true,false_imp_iff,forall_const,imp_self,reduceCtorEq] at h0 h1
 all_goals (
  refine wp_region_heldT (S:=fun u=>Keep [] w12 u) 30 (by kernel_rfl) (by kernel_rfl) (fun _ _ d _ _ h=>by cases d<;>exact h) ?_
  have hS0:=Keep.drew [] w12
  have HM:=jX (HM.out.move hS0).here
  generalize World.drew w12=u at *
  refine jP 0 (fun K hK=>?_)
  refine wp_enter 20 #[] (by go_simp) ?_
  refine (known12_c _).mono ?_
  rintro e w13 ⟨rfl,hk⟩
  have HM:=jX (HM.out.move hk).here
  have hS0:=hS0.trans0 hk
  refine ⟨_,rfl,?_⟩
  go_simp
  refine hK _ _ hS0 ?_
  clear hK K hk
  first|(refine jE 1 hS0 ?_;refine ⟨?_,fun w hw=>?_,fun K hK=>?_⟩;rotate_left 1;(skip;go_simp;try rfl);go_simp;refine hK _ ?_;clear hK K)|(refine jS 1 hS0 (fun K hK=>?_);go_simp;refine hK _ ?_;clear hK K)
  first|(refine jE 2 hS0 ?_;refine ⟨?_,fun w hw=>?_,fun K hK=>?_⟩;rotate_left 1;(have pg10:=cell_of (hw.heap Bg10.out (by simp));go_simp;try rfl);go_simp;refine hK _ ?_;clear hK K)|(refine jS 2 hS0 (fun K hK=>?_);go_simp;refine hK _ ?_;clear hK K)
  first|(refine jE 3 hS0 ?_;refine ⟨?_,fun w hw=>?_,fun K hK=>?_⟩;rotate_left 1;(have pg7:=cell_of (hw.heap Bg7.out (by simp));go_simp;try rfl);go_simp;refine hK _ ?_;clear hK K)|(refine jS 3 hS0 (fun K hK=>?_);go_simp;refine hK _ ?_;clear hK K)
  first|(refine jE 4 hS0 ?_;refine ⟨?_,fun w hw=>?_,fun K hK=>?_⟩;rotate_left 1;(have pg8:=cell_of (hw.heap Bg8.out (by simp));go_simp;try rfl);go_simp;refine hK _ ?_;clear hK K)|(refine jS 4 hS0 (fun K hK=>?_);go_simp;refine hK _ ?_;clear hK K)
  refine jP 5 (fun K hK=>?_)
  refine wp_enter 28 #[.agg #[.slice da_w1 D0.length dc_w1,.slice ta_w1 T0.length tc_w1],.agg #[.slice da_w2 D1.length dc_w2,.slice ta_w2 T1.length tc_w2]] (by go_simp) ?_
  refine (HM.out.reither (ma 4 rfl) (ma 5 rfl) (ma 2 rfl) (ma 3 rfl)).mono ?_
  rintro e w14 ⟨da_w14,dc_w14,ta_w14,tc_w14,rfl,hm_w14⟩
  have hk:=hm_w14.keep
  have HM:=jX hm_w14.here
  clear hm_w14
  have hS0:=hS0.trans0 hk
  refine ⟨_,rfl,?_⟩
  go_simp
  refine hK _ _ hS0 ?_
  clear hK K hk
  refine jP 6 (fun K hK=>?_)
  refine wp_enter 27 #[.agg #[.slice da_w8 (combK 1 (combK 1 T0 T1) (combK 2 (combK 3 D0 T0) (combK 3 D1 T1))).length dc_w8,.slice ta_w8 (combK 1 T0 T1).length tc_w8],.agg #[.slice da_w14 (combK 1 (combK 1 T0 T1) (combK 2 (combK 3 D0 T0) (combK 3 D1 T1))).length dc_w14,.slice ta_w14 (combK 2 (combK 1 T0 T1) (combK 1 (combK 1 T0 T1) (combK 2 (combK 3 D0 T0) (combK 3 D1 T1)))).length tc_w14]] (by go_simp) ?_
  refine (HM.out.reqT (ma 2 rfl) (ma 3 rfl) (ma 0 rfl) (ma 1 rfl) rfl E1.out.symm).mono ?_
  rintro e w15 ⟨rfl,hm_w15⟩
  have hk:=hm_w15.keep
  have HM:=jX hm_w15.here
  clear hm_w15
  have hS0:=hS0.trans0 hk
  refine ⟨_,rfl,?_⟩
  go_simp
  refine hK _ _ hS0 ?_
  clear hK K hk
  first|(refine jE 7 hS0 ?_;refine ⟨?_,fun w hw=>?_,fun K hK=>?_⟩;rotate_left 1;(skip;go_simp;try rfl);go_simp;refine hK _ ?_;clear hK K)|(refine jS 7 hS0 (fun K hK=>?_);go_simp;refine hK _ ?_;clear hK K)
  first|(refine jE 8 hS0 ?_;refine ⟨?_,fun w hw=>?_,fun K hK=>?_⟩;rotate_left 1;(skip;go_simp;try rfl);go_simp;refine hK _ ?_;clear hK K)|(refine jS 8 hS0 (fun K hK=>?_);go_simp;refine hK _ ?_;clear hK K)
  first|(refine jE 9 hS0 ?_;refine ⟨?_,fun w hw=>?_,fun K hK=>?_⟩;rotate_left 1;(skip;go_simp;try rfl);go_simp;refine hK _ ?_;clear hK K)|(refine jS 9 hS0 (fun K hK=>?_);go_simp;refine hK _ ?_;clear hK K)
  first|(refine jE 10 hS0 ?_;refine ⟨?_,fun w hw=>?_,fun K hK=>?_⟩;rotate_left 1;(skip;go_simp;try rfl);go_simp;refine hK _ ?_;clear hK K)|(refine jS 10 hS0 (fun K hK=>?_);go_simp;refine hK _ ?_;clear hK K)
  first|(refine jE 11 hS0 ?_;refine ⟨?_,fun w hw=>?_,fun K hK=>?_⟩;rotate_left 1;(skip;go_simp;try rfl);go_simp;refine hK _ ?_;clear hK K)|(refine jS 11 hS0 (fun K hK=>?_);go_simp;refine hK _ ?_;clear hK K)
  first|(refine jE 12 hS0 ?_;refine ⟨?_,fun w hw=>?_,fun K hK=>?_⟩;rotate_left 1;(skip;go_simp;try rfl);go_simp;refine hK _ ?_;clear hK K)|(refine jS 12 hS0 (fun K hK=>?_);go_simp;refine hK _ ?_;clear hK K)
  first|(refine jE 13 hS0 ?_;refine ⟨?_,fun w hw=>?_,fun K hK=>?_⟩;rotate_left 1;(skip;go_simp;try rfl);go_simp;refine hK _ ?_;clear hK K)|(refine jS 13 hS0 (fun K hK=>?_);go_simp;refine hK _ ?_;clear hK K)
  first|(refine jE 14 hS0 ?_;refine ⟨?_,fun w hw=>?_,fun K hK=>?_⟩;rotate_left 1;(skip;go_simp;try rfl);go_simp;refine hK _ ?_;clear hK K)|(refine jS 14 hS0 (fun K hK=>?_);go_simp;refine hK _ ?_;clear hK K)
  first|(refine jE 15 hS0 ?_;refine ⟨?_,fun w hw=>?_,fun K hK=>?_⟩;rotate_left 1;(skip;go_simp;try rfl);go_simp;refine hK _ ?_;clear hK K)|(refine jS 15 hS0 (fun K hK=>?_);go_simp;refine hK _ ?_;clear hK K)
  first|(refine jE 16 hS0 ?_;refine ⟨?_,fun w hw=>?_,fun K hK=>?_⟩;rotate_left 1;(skip;go_simp;try rfl);go_simp;refine hK _ ?_;clear hK K)|(refine jS 16 hS0 (fun K hK=>?_);go_simp;refine hK _ ?_;clear hK K)
  first|(refine jE 17 hS0 ?_;refine ⟨?_,fun w hw=>?_,fun K hK=>?_⟩;rotate_left 1;(skip;go_simp;try rfl);go_simp;refine hK _ ?_;clear hK K)|(refine jS 17 hS0 (fun K hK=>?_);go_simp;refine hK _ ?_;clear hK K)
  first|(refine jE 18 hS0 ?_;refine ⟨?_,fun w hw=>?_,fun K hK=>?_⟩;rotate_left 1;(skip;go_simp;try rfl);go_simp;refine hK _ ?_;clear hK K)|(refine jS 18 hS0 (fun K hK=>?_);go_simp;refine hK _ ?_;clear hK K)
  first|(refine jE 19 hS0 ?_;refine ⟨?_,fun w hw=>?_,fun K hK=>?_⟩;rotate_left 1;(skip;go_simp;try rfl);go_simp;refine hK _ ?_;clear hK K)|(refine jS 19 hS0 (fun K hK=>?_);go_simp;refine hK _ ?_;clear hK K)
  first|(refine jE 20 hS0 ?_;refine ⟨?_,fun w hw=>?_,fun K hK=>?_⟩;rotate_left 1;(skip;go_simp;try rfl);go_simp;refine hK _ ?_;clear hK K)|(refine jS 20 hS0 (fun K hK=>?_);go_simp;refine hK _ ?_;clear hK K)
  first|(refine jE 21 hS0 ?_;refine ⟨?_,fun w hw=>?_,fun K hK=>?_⟩;rotate_left 1;(skip;go_simp;try rfl);go_simp;refine hK _ ?_;clear hK K)|(refine jS 21 hS0 (fun K hK=>?_);go_simp;refine hK _ ?_;clear hK K)
  first|(refine jE 22 hS0 ?_;refine ⟨?_,fun w hw=>?_,fun K hK=>?_⟩;rotate_left 1;(skip;go_simp;try rfl);go_simp;refine hK _ ?_;clear hK K)|(refine jS 22 hS0 (fun K hK=>?_);go_simp;refine hK _ ?_;clear hK K)
  first|(refine jE 23 hS0 ?_;refine ⟨?_,fun w hw=>?_,fun K hK=>?_⟩;rotate_left 1;(skip;go_simp;try rfl);go_simp;refine hK _ ?_;clear hK K)|(refine jS 23 hS0 (fun K hK=>?_);go_simp;refine hK _ ?_;clear hK K)
  first|(refine jE 24 hS0 ?_;refine ⟨?_,fun w hw=>?_,fun K hK=>?_⟩;rotate_left 1;(skip;go_simp;try rfl);go_simp;refine hK _ ?_;clear hK K)|(refine jS 24 hS0 (fun K hK=>?_);go_simp;refine hK _ ?_;clear hK K)
  first|(refine jE 25 hS0 ?_;refine ⟨?_,fun w hw=>?_,fun K hK=>?_⟩;rotate_left 1;(skip;go_simp;try rfl);go_simp;refine hK _ ?_;clear hK K)|(refine jS 25 hS0 (fun K hK=>?_);go_simp;refine hK _ ?_;clear hK K)
  first|(refine jE 26 hS0 ?_;refine ⟨?_,fun w hw=>?_,fun K hK=>?_⟩;rotate_left 1;(skip;go_simp;try rfl);go_simp;refine hK _ ?_;clear hK K)|(refine jS 26 hS0 (fun K hK=>?_);go_simp;refine hK _ ?_;clear hK K)
  first|(refine jE 27 hS0 ?_;refine ⟨?_,fun w hw=>?_,fun K hK=>?_⟩;rotate_left 1;(skip;go_simp;try rfl);go_simp;refine hK _ ?_;clear hK K)|(refine jS 27 hS0 (fun K hK=>?_);go_simp;refine hK _ ?_;clear hK K)
  first|(refine jE 28 hS0 ?_;refine ⟨?_,fun w hw=>?_,fun K hK=>?_⟩;rotate_left 1;(skip;go_simp;try rfl);go_simp;refine hK _ ?_;clear hK K)|(refine jS 28 hS0 (fun K hK=>?_);go_simp;refine hK _ ?_;clear hK K)
  first|(refine jE 29 hS0 ?_;refine ⟨?_,fun w hw=>?_,fun K hK=>?_⟩;rotate_left 1;(skip;go_simp;try rfl);go_simp;refine hK _ ?_;clear hK K)|(refine jS 29 hS0 (fun K hK=>?_);go_simp;refine hK _ ?_;clear hK K)
  refine ⟨by kernel_rfl,?_⟩
  simp only [List.drop_succ_cons,List.drop_zero]
  have HK:=jX (HK.out.trans0 hS0)
  have Bg7:=jX (hS0.heap Bg7.out (by simp))
  have Bg8:=jX (hS0.heap Bg8.out (by simp))
  have Bg9:=jX (hS0.heap Bg9.out (by simp))
  have Bg10:=jX (hS0.heap Bg10.out (by simp))
  clear hS0
  go_wp2_with fail
  go_ret
  exact ⟨rfl,HK.out⟩)
end Go.Proofs.YtejegogbhpmgfaaGreatDoor
