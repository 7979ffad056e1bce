/- Joins of moving Booleans. -/
import Derived.Deep.Slices
import Derived.Lib.SmallJoins
import Derived.Test.YtejegogbhpmgfaaGreatDoorA32
import Derived.Test.YtejegogbhpmgfaaGreatDoorA26
import Derived.Test.YtejegogbhpmgfaaGreatDoorA33
import Derived.Test.YtejegogbhpmgfaaGreatDoorA34
import Derived.Test.YtejegogbhpmgfaaGreatDoorA38
import Derived.Test.YtejegogbhpmgfaaGreatDoorA37
set_option linter.unusedVariables false
set_option linter.unusedSimpArgs false
set_option maxRecDepth 100000
set_option maxHeartbeats 8000000
namespace Go.Proofs.YtejegogbhpmgfaaGreatDoor
open Go.RowKit
open Classical
theorem equal_c (l m:List (Iv K)) (w:World) (sv tv:Value) (hr:IvR w sv l) (hs:IvR w tv m) (h9:l.length≤1000000000) (h8:m.length≤1000000000) :
  Calls Tryz.prog 21 #[sv,tv] w fun e w'=>e = .returned (.bool (decide (l=m)))∧Keep [] w w':=by
 have HR:=jX hr
 have HS:=jX hs
 obtain⟨ao,ac,rfl,_⟩:=hr.form
 obtain⟨bo,bc,rfl,_⟩:=hs.form
 clear hr hs
 by_cases hlen:l.length=m.length
 ·have hne:((l.length:Int) != (m.length:Int))=false:=by rw [hlen];simp
  have Hlen:=jX hlen
  clear hlen
  go_enter Tryz.func21,Tryz.ntmps21
  go_wp2_with fail
  go_loopw [5] (fun c wr=>∃ k:Nat,k≤l.length∧c = .int .i64 (k:Int)∧l.take k=m.take k∧Keep [] w wr) (fun c _=>l.length-(intOf c).toNat)
  case atStart=>exact ⟨0,Nat.zero_le _,rfl,rfl,Keep.refl _ _⟩
  case round =>
   obtain⟨k,hk,rfl,heq,hkeep⟩:=hrel
   have Heq:=jX heq
   have HKr:=jX hkeep
   clear heq hkeep
   by_cases hlt:k<l.length
   ·have hlt2:k<m.length:=by rw [← Hlen.out];exact hlt
    obtain⟨g,o,rfl,hg,hat⟩:=IvR.elem (HR.out.later HKr.out) k hlt
    obtain⟨g2,o2,rfl,hg2,hat2⟩:=IvR.elem (HS.out.later HKr.out) k hlt2
    obtain⟨i,hi⟩:∃ i,l[k]=i:=⟨_,rfl⟩
    obtain⟨j,hj⟩:∃ j,m[k]=j:=⟨_,rfl⟩
    have Hi:=jX hi
    have Hj:=jX hj
    rw [hi] at hat
    rw [hj] at hat2
    clear hi hj
    obtain⟨p,hp⟩:∃ p,o+k*20=p:=⟨_,rfl⟩
    obtain⟨q,hq⟩:∃ q,o2+k*20=q:=⟨_,rfl⟩
    rw [hp] at hat
    rw [hq] at hat2
    have HLa:=jX (hat.ld hg)
    have HLb:=jX (hat2.ld hg2)
    have HN:=jX (neqI_run i j)
    clear hat hat2
    unfold iv at *
    generalize iC i=I at *
    generalize iC j=J at *
    by_cases hij:i=j
    ·rw [decide_eq_true hij] at HN
     have Hij:=jX hij
     clear hij
     go_wp2_with fail
     refine wp_region_keep (by kernel_rfl) (by kernel_rfl) ?_
     repeat (first
      | go_big_quiet_skip
      | (go_big_quiet_want;first
       | (refine quiet_load _ _ _ (.agg I) rfl rfl (by rintro _ ⟨m,rfl⟩;exact HLa.out m) ?_;go_simp;go_big_quiet_on)|(refine quiet_load _ _ _ (.agg J) rfl rfl (by rintro _ ⟨m,rfl⟩;exact HLb.out m) ?_;go_simp;go_big_quiet_on)|(refine quiet_bin _ _ _ _ _ _ _ (_) rfl rfl rfl eqI_g (by intro w;exact HN.out w) ?_;go_simp;go_big_quiet_on)
       | (go_big_quiet_op;first|go_big_quiet_on|go_big_quiet_call (first
        | fail))))
     refine wpQuiet_nil ?_
     rintro w1 ⟨⟨_,hk_w1⟩,rfl⟩
     clear HLa HLb HN
     have Hk1:=jX hk_w1
     clear hk_w1
     go_wp2_with fail
     go_roundw
     case rel=>exact ⟨k+1,by omega,congrArg (Value.int .i64) (by omega),by rw [List.take_succ_eq_append_getElem hlt,List.take_succ_eq_append_getElem hlt2,Heq.out,Hi.out,Hj.out,Hij.out],HKr.out.trans0 Hk1.out⟩
     case measure=>simp [intOf];omega
    ·rw [decide_eq_false hij] at HN
     have Hij:=jX hij
     clear hij
     go_wp2_with fail
     refine wp_region_keep (by kernel_rfl) (by kernel_rfl) ?_
     repeat (first
      | go_big_quiet_skip
      | (go_big_quiet_want;first
       | (refine quiet_load _ _ _ (.agg I) rfl rfl (by rintro _ ⟨m,rfl⟩;exact HLa.out m) ?_;go_simp;go_big_quiet_on)|(refine quiet_load _ _ _ (.agg J) rfl rfl (by rintro _ ⟨m,rfl⟩;exact HLb.out m) ?_;go_simp;go_big_quiet_on)|(refine quiet_bin _ _ _ _ _ _ _ (_) rfl rfl rfl eqI_g (by intro w;exact HN.out w) ?_;go_simp;go_big_quiet_on)
       | (go_big_quiet_op;first|go_big_quiet_on|go_big_quiet_call (first
        | fail))))
     refine wpQuiet_nil ?_
     rintro w1 ⟨⟨_,hk_w1⟩,rfl⟩
     clear HLa HLb HN
     have Hk1:=jX hk_w1
     clear hk_w1
     go_wp2_with fail
     go_ret
     have hno:l≠m:=fun e=>Hij.out (by rw [← Hi.out,← Hj.out];simp only [e])
     exact ⟨by rw [decide_eq_false hno];rfl,HKr.out.trans0 Hk1.out⟩
   ·obtain rfl:k=l.length:=by omega
    go_wp2_with fail
    go_ret
    have he:l=m:=by
     have:=Heq.out
     rw [List.take_length,Hlen.out,List.take_length] at this
     exact this
    exact ⟨by rw [decide_eq_true he];rfl,HKr.out⟩
 ·have hne:((l.length:Int) != (m.length:Int))=true:=by rw [bne_iff_ne];omega
  have hno:l≠m:=fun e=>hlen (by rw [e])
  rw [decide_eq_false hno]
  clear hno hlen
  go_enter Tryz.func21,Tryz.ntmps21
  go_wp2_with fail
  go_ret
  exact ⟨rfl,Keep.refl _ _⟩
theorem overlaps_c (a b:List (Iv K)) (ha:∀ i∈a,i.f<i.l) (hb:∀ i∈b,i.f<i.l) (w:World) (sv tv:Value) (hr:IvR w sv a) (hs:IvR w tv b) (h9:a.length≤10000) (h8:b.length≤10000) :
  Calls Tryz.prog 90 #[sv,tv] w fun e w'=>e = .returned (.bool (decide (combK 2 a b≠[])))∧Keep [] w w':=by
 have H:=jX (Intersect_p a b ha hb w sv tv hr hs h9 h8)
 obtain⟨ao,ac,rfl,_⟩:=hr.form
 obtain⟨bo,bc,rfl,_⟩:=hs.form
 clear hr hs ha hb
 go_enter Tryz.func90,Tryz.ntmps90
 go_wp2_with fail
 refine H.out.mono ?_
 rintro e w1 ⟨v,rfl,hv,hk⟩
 dsimp only
 have HK:=jX hk
 obtain⟨vo,vc,rfl,_⟩:=hv.form
 obtain⟨r,hr⟩:∃ r,decide (combK 2 a b≠[])=r:=⟨_,rfl⟩
 have hd:decide (0<(combK 2 a b).length)=r:=by
  rw [← hr,Bool.eq_iff_iff,decide_eq_true_iff,decide_eq_true_iff,ne_eq,← List.length_eq_zero_iff];omega
 have HRr:=jX hr
 clear hv hk H hr
 generalize (combK 2 a b).length=n at *
 go_wp2_with fail
 go_ret
 exact ⟨by rw [HRr.out];rfl,HK.out⟩
end Go.Proofs.YtejegogbhpmgfaaGreatDoor
namespace Go.Proofs.YtejegogbhpmgfaaGreatDoor
open Go.RowKit
open Go.ChangeShapes Go.WideShapes Go.ChangeAt
section
variable {H:Type} {enc:TypeId × Value→H} {w:World} {base:Nat} {held:Bool} {fuel:Nat}
end
theorem SpArg_open {H:Type} {enc:TypeId × Value→H} {W:World} {v:Value} {base:Nat} {d:DataW H} {p:List MemPlace} (hv:Value.okWide Tryz.prog W .any base 22 v)
  (h:∃ m,DataW.trod enc Tryz.prog W 0 (fun _=>true) true m 22 v.cells.toList=some (d,p)):SpArg W v:=by
 obtain⟨a,len,cap,rfl⟩:=okWide_slice Tryz.underlying22 hv
 obtain⟨m,hm⟩:=h
 obtain⟨l,h1,h2⟩:=spans_trod hm
 exact ⟨l,h1,by unfold maxLen at h2;omega⟩
end Go.Proofs.YtejegogbhpmgfaaGreatDoor
namespace Go.Proofs.YtejegogbhpmgfaaGreatDoor
open Go.RowKit
open Classical
section
variable {S:List K} {w0 w w':World} {L:List (Value × List (Iv K))}
variable {v u:Value} {a b:List (Iv K)}
theorem MP.over (h:MP S w0 w L) (hv:(v,a)∈L) (hu:(u,b)∈L):Calls Tryz.prog 90 #[v,u] w (BoolPost S w0 L (decide (combK 2 a b≠[]))) :=
 boolPost_of h (overlaps_c a b (h.val hv) (h.val hu) w v u (h.get hv) (h.get hu) (by have:=h.len hv;omega) (by have:=h.len hu;omega))
end
end Go.Proofs.YtejegogbhpmgfaaGreatDoor
namespace Go.Proofs.YtejegogbhpmgfaaGreatDoor
theorem combK_self {op:Int} {a b l:List (Iv K)} (hl:Norm l) (h:∀ x,decV op (hasL a x) (hasL b x)=hasL l x):combK op a b=l:=combK_eq hl fun x=>(h x).symm
section
variable {D T E U G V P:List (Iv K)}
theorem mb_joinT (hT:SubL T D) (hU:SubL U E):combK 2 (combK 1 T U) (combK 1 D E)=combK 1 T U:=combK_self (combK_norm _ _ _) fun x=>by
 have h:=hT x
 have h2:=hU x
 revert h h2
 simp only [combK_has,dec1,dec2,dec3]
 cases hasL D x<;>cases hasL T x<;>cases hasL E x<;>cases hasL U x<;>simp
theorem mb_partsD (hN:Norm D):combK 1 (combK 2 D P) (combK 2 D (combK 3 D P))=D:=combK_self hN fun x=>by
 simp only [combK_has,dec1,dec2,dec3]
 cases hasL D x<;>cases hasL P x<;>rfl
theorem mb_partsT (hN:Norm T) (hT:SubL T D):combK 1 (combK 2 T (combK 2 D P)) (combK 2 T (combK 2 D (combK 3 D P)))=T:=combK_self hN fun x=>by
 have h:=hT x
 revert h
 simp only [combK_has,dec1,dec2,dec3]
 cases hasL D x<;>cases hasL T x<;>cases hasL P x<;>simp
theorem mb_parts0:combK 2 (combK 2 T (combK 2 D P)) (combK 3 (combK 2 D (combK 3 D P)) (combK 2 T (combK 2 D (combK 3 D P))))=[]:=combK_self (l:=[]) trivial fun x=>by
 simp only [combK_has,dec1,dec2,dec3,hasL_nil]
 cases hasL D x<;>cases hasL T x<;>cases hasL P x<;>rfl
theorem mb_parts1:combK 2 (combK 3 (combK 2 D P) (combK 2 T (combK 2 D P))) (combK 2 T (combK 2 D (combK 3 D P)))=[]:=combK_self (l:=[]) trivial fun x=>by
 simp only [combK_has,dec1,dec2,dec3,hasL_nil]
 cases hasL D x<;>cases hasL T x<;>cases hasL P x<;>rfl
end
end Go.Proofs.YtejegogbhpmgfaaGreatDoor
namespace Go.Proofs.YtejegogbhpmgfaaGreatDoor
open Go.RowKit
open Classical
section
variable {S:List K} {w0 w w' W:World} {L M:List (Value × List (Iv K))}
variable {v u:Value} {a b:List (Iv K)}
theorem MP.eqd (h:MP S w0 w L) (hv:(v,a)∈L) (hu:(u,b)∈L):Calls Tryz.prog 21 #[v,u] w (BoolPost S w0 L (decide (a=b))) :=
 boolPost_of h (equal_c a b w v u (h.get hv) (h.get hu) (by have:=h.len hv;omega) (by have:=h.len hu;omega))
end
section
variable {S:List K} {w0 w:World} {L:List (Value × List (Iv K))} {D T E U P:List (Iv K)} {da ta ea ua pa:Option Addr} {dc tc ec uc pc:Nat}
theorem MP.mfalse (h:MP S w0 w L) (hD:(.slice da D.length dc,D)∈L) (hT:(.slice ta T.length tc,T)∈L) :
  Calls Tryz.prog 19 #[.agg #[.slice da D.length dc,.slice ta T.length tc]] w (PerPost S w0 L (combK 3 D T)):=by
 have H0:=jX h
 have hD:=jX hD
 have hT:=jX hT
 clear h
 go_enter Tryz.func19,Tryz.ntmps19
 go_upto_region 1 with (fail)
 obtain⟨W,ga,hW,ega,bga,hga,hgW,hkW⟩:=al1 w (.cells #[.slice da D.length dc,.slice ta T.length tc] 29)
 rw [← hW]
 try rw [ega]
 have Bga:=jX bga
 have HkW:=jX hkW
 clear hW hkW ega bga
 have HM:=jX (H0.out.here.move HkW.out).here
 have pga:=cell_of Bga.out
 go_wp2_with fail
 refine (HM.out.minus (v:=.slice da D.length dc) (a:=D) (u:=.slice ta T.length tc) (b:=T) (by simp [hD.out,hT.out]) (by simp [hD.out,hT.out])).mono ?_
 rintro e w1 ⟨vo_w1,vc_w1,rfl,hm_w1⟩
 dsimp only
 have HM:=jX hm_w1
 clear hm_w1
 go_wp2_with fail
 go_ret
 exact ⟨_,_,rfl,⟨⟨H0.out.keep.trans0 (HkW.out.trans0 HM.out.keep),HM.out.mi.2⟩,HM.out.per,HM.out.few⟩⟩
end
section
variable {S:List K} {w0 w:World} {L:List (Value × List (Iv K))} {D T E U P:List (Iv K)} {da ta ea ua pa:Option Addr} {dc tc ec uc pc:Nat}
theorem MP.rfalse (h:MP S w0 w L) (hD:(.slice da D.length dc,D)∈L) (hT:(.slice ta T.length tc,T)∈L) :
  Calls Tryz.prog 22 #[.agg #[.slice da D.length dc,.slice ta T.length tc]] w (PerPost S w0 L (combK 3 D T)):=by
 have H0:=jX h
 have hD:=jX hD
 have hT:=jX hT
 clear h
 go_enter Tryz.func22,Tryz.ntmps22
 go_upto_region 1 with (fail)
 obtain⟨W,ga,hW,ega,bga,hga,hgW,hkW⟩:=al1 w (.cells #[.slice da D.length dc,.slice ta T.length tc] 29)
 rw [← hW]
 try rw [ega]
 have Bga:=jX bga
 have HkW:=jX hkW
 clear hW hkW ega bga
 have HM:=jX (H0.out.here.move HkW.out).here
 have pga:=cell_of (HM.out.keep.heap Bga.out (by simp))
 go_wp2_with fail
 refine (HM.out.comb (op:=3) (by simp) (v:=.slice da D.length dc) (a:=D) (u:=.slice ta T.length tc) (b:=T) (by simp [hD.out,hT.out]) (by simp [hD.out,hT.out])).mono ?_
 rintro e w1 ⟨vo_w1,vc_w1,rfl,hm_w1⟩
 dsimp only
 have HM:=jX hm_w1
 clear hm_w1
 clear pga
 go_wp2_with fail
 go_ret
 exact ⟨_,_,rfl,⟨⟨H0.out.keep.trans0 (HkW.out.trans0 HM.out.keep),HM.out.mi.2⟩,HM.out.per,HM.out.few⟩⟩
theorem MP.rrestrict (h:MP S w0 w L) (hD:(.slice da D.length dc,D)∈L) (hT:(.slice ta T.length tc,T)∈L) (hP:(.slice pa P.length pc,P)∈L) :
  Calls Tryz.prog 49 #[.agg #[.slice da D.length dc,.slice ta T.length tc],.slice pa P.length pc] w (BolPost S w0 L (combK 2 D P) (combK 2 T (combK 2 D P))):=by
 have H0:=jX h
 have hD:=jX hD
 have hT:=jX hT
 have hP:=jX hP
 clear h
 go_enter Tryz.func49,Tryz.ntmps49
 go_upto_region 1 with (fail)
 obtain⟨W,ga,gb,hW,ega,egb,bga,bgb,hga,hgb,hgW,hkW⟩:=al2 w (.cells #[.slice da D.length dc,.slice ta T.length tc] 29) (.cells #[.slice none 0 0,.slice none 0 0] 29)
 rw [← hW]
 try rw [egb]
 try rw [ega]
 have Bga:=jX bga
 have Bgb:=jX bgb
 have HkW:=jX hkW
 clear hW hkW ega egb bga bgb
 have HM:=jX (H0.out.here.move HkW.out).here
 refine wp_region_heldT (S:=fun u=>Keep [] W u) 7 (by kernel_rfl) (by kernel_rfl) (fun _ _ d _ _ h=>by cases d<;>exact h) ?_
 have HM:=jX (HM.out.move (Keep.drew [] W))
 generalize World.drew W=u at *
 have hS0:=HM.out.keep
 refine' jV (v:=_) 0 hS0 (fun w hw=>?hf0) (fun K hK=>?kf0)
 case hf0=>(have pga:=cell_of (hw.heap Bga.out (by simp));go_simp;try rfl)
 go_simp
 refine hK _ ?_
 clear hK K
 refine' jV (v:=_) 1 hS0 (fun w hw=>?hf1) (fun K hK=>?kf1)
 case hf1=>(have pga:=cell_of (hw.heap Bga.out (by simp));go_simp;try rfl)
 go_simp
 refine hK _ ?_
 clear hK K
 refine' jV (v:=_) 2 hS0 (fun w hw=>?hf2) (fun K hK=>?kf2)
 case hf2=>(have pga:=cell_of (hw.heap Bga.out (by simp));go_simp;try rfl)
 go_simp
 refine hK _ ?_
 clear hK K
 refine' jV (v:=_) 4 hS0 (fun w hw=>?hf4) (fun K hK=>?kf4)
 case hf4=>(have pga:=cell_of (hw.heap Bga.out (by simp));go_simp;try rfl)
 go_simp
 refine hK _ ?_
 clear hK K
 refine' jV (v:=_) 5 hS0 (fun w hw=>?hf5) (fun K hK=>?kf5)
 case hf5=>(have pga:=cell_of (hw.heap Bga.out (by simp));go_simp;try rfl)
 go_simp
 refine hK _ ?_
 clear hK K
 refine jO 3 (fun K hK=>?_)
 refine wp_enter 50 #[.int .i64 2,.slice da D.length dc,.slice pa P.length pc] (by go_simp) ?_
 refine (HM.out.comb (op:=2) (by simp) (v:=.slice da D.length dc) (a:=D) (u:=.slice pa P.length pc) (b:=P) (by simp [hD.out,hT.out,hP.out]) (by simp [hD.out,hT.out,hP.out])).mono ?_
 rintro e w1 ⟨vo_w1,vc_w1,rfl,hm_w1⟩
 have HM:=jX hm_w1
 clear hm_w1
 refine ⟨_,rfl,?_⟩
 have hS0:=HM.out.keep
 go_simp
 refine hK _ _ hS0 ?_
 clear hK K
 refine jO 6 (fun K hK=>?_)
 refine wp_enter 60 #[.slice vo_w1 (combK 2 D P).length vc_w1,.slice ta T.length tc] (by go_simp) ?_
 refine (HM.out.rmake (D:=combK 2 D P) (T:=T) (by simp [hD.out,hT.out,hP.out]) (by simp [hD.out,hT.out,hP.out])).mono ?_
 rintro e w2 ⟨da_w2,dc_w2,ta_w2,tc_w2,rfl,hm_w2⟩
 have HM:=jX hm_w2
 clear hm_w2
 refine ⟨_,rfl,?_⟩
 have hS0:=HM.out.keep
 go_simp
 refine hK _ _ hS0 ?_
 clear hK K
 refine ⟨by kernel_rfl,?_⟩
 simp only [List.drop_succ_cons,List.drop_zero]
 have bz:=jX (HM.out.keep.heap Bgb.out (by simp))
 have pgb:=cell_of bz.out
 have fgb:=frozen_of bz.out
 have lgb:=lt_of_heap bz.out
 go_wp2_with fail
 obtain⟨u9,e9,b9,k9⟩:=st2 (x:=.slice da_w2 (combK 2 D P).length dc_w2) (y:=.slice ta_w2 (combK 2 T (combK 2 D P)).length tc_w2) bz.out
 rw [← e9]
 clear e9 pgb fgb lgb
 have pgb:=cell_of b9
 refine bodyPost_ret (v:=.agg #[.slice da_w2 (combK 2 D P).length dc_w2,.slice ta_w2 (combK 2 T (combK 2 D P)).length tc_w2]) ?_ rfl ⟨_,_,_,_,rfl,MP.fin H0.out.keep HkW.out HM.out bz.out (by simp) (by omega) k9 ?_⟩
 ·rw [results_cell1 rfl];go_simp
 ·intro p hp;simp only [List.mem_cons] at hp ⊢;grind
theorem MP.rjoin (h:MP S w0 w L) (hD:(.slice da D.length dc,D)∈L) (hT:(.slice ta T.length tc,T)∈L) (hE:(.slice ea E.length ec,E)∈L) (hU:(.slice ua U.length uc,U)∈L) :
  Calls Tryz.prog 48 #[.agg #[.slice da D.length dc,.slice ta T.length tc],.agg #[.slice ea E.length ec,.slice ua U.length uc]] w (BolPost S w0 L (combK 1 D E) (combK 2 (combK 1 T U) (combK 1 D E))):=by
 have H0:=jX h
 have hD:=jX hD
 have hT:=jX hT
 have hE:=jX hE
 have hU:=jX hU
 clear h
 go_enter Tryz.func48,Tryz.ntmps48
 go_upto_region 1 with (fail)
 obtain⟨W,ga,gb,gc,hW,ega,egb,egc,bga,bgb,bgc,hga,hgb,hgc,hgW,hkW⟩:=al3 w (.cells #[.slice da D.length dc,.slice ta T.length tc] 29) (.cells #[.slice ea E.length ec,.slice ua U.length uc] 29) (.cells #[.slice none 0 0,.slice none 0 0] 29)
 rw [← hW]
 try rw [egc]
 try rw [egb]
 try rw [ega]
 have Bga:=jX bga
 have Bgb:=jX bgb
 have Bgc:=jX bgc
 have HkW:=jX hkW
 clear hW hkW ega egb egc bga bgb bgc
 have HM:=jX (H0.out.here.move HkW.out).here
 refine wp_region_heldT (S:=fun u=>Keep [] W u) 11 (by kernel_rfl) (by kernel_rfl) (fun _ _ d _ _ h=>by cases d<;>exact h) ?_
 have HM:=jX (HM.out.move (Keep.drew [] W))
 generalize World.drew W=u at *
 have hS0:=HM.out.keep
 refine' jV (v:=_) 0 hS0 (fun w hw=>?hf0) (fun K hK=>?kf0)
 case hf0=>(have pga:=cell_of (hw.heap Bga.out (by simp));have pgb:=cell_of (hw.heap Bgb.out (by simp));go_simp;try rfl)
 go_simp
 refine hK _ ?_
 clear hK K
 refine' jV (v:=_) 1 hS0 (fun w hw=>?hf1) (fun K hK=>?kf1)
 case hf1=>(have pga:=cell_of (hw.heap Bga.out (by simp));have pgb:=cell_of (hw.heap Bgb.out (by simp));go_simp;try rfl)
 go_simp
 refine hK _ ?_
 clear hK K
 refine' jV (v:=_) 2 hS0 (fun w hw=>?hf2) (fun K hK=>?kf2)
 case hf2=>(have pga:=cell_of (hw.heap Bga.out (by simp));have pgb:=cell_of (hw.heap Bgb.out (by simp));go_simp;try rfl)
 go_simp
 refine hK _ ?_
 clear hK K
 refine' jV (v:=_) 3 hS0 (fun w hw=>?hf3) (fun K hK=>?kf3)
 case hf3=>(have pga:=cell_of (hw.heap Bga.out (by simp));have pgb:=cell_of (hw.heap Bgb.out (by simp));go_simp;try rfl)
 go_simp
 refine hK _ ?_
 clear hK K
 refine' jV (v:=_) 5 hS0 (fun w hw=>?hf5) (fun K hK=>?kf5)
 case hf5=>(have pga:=cell_of (hw.heap Bga.out (by simp));have pgb:=cell_of (hw.heap Bgb.out (by simp));go_simp;try rfl)
 go_simp
 refine hK _ ?_
 clear hK K
 refine' jV (v:=_) 6 hS0 (fun w hw=>?hf6) (fun K hK=>?kf6)
 case hf6=>(have pga:=cell_of (hw.heap Bga.out (by simp));have pgb:=cell_of (hw.heap Bgb.out (by simp));go_simp;try rfl)
 go_simp
 refine hK _ ?_
 clear hK K
 refine' jV (v:=_) 7 hS0 (fun w hw=>?hf7) (fun K hK=>?kf7)
 case hf7=>(have pga:=cell_of (hw.heap Bga.out (by simp));have pgb:=cell_of (hw.heap Bgb.out (by simp));go_simp;try rfl)
 go_simp
 refine hK _ ?_
 clear hK K
 refine' jV (v:=_) 8 hS0 (fun w hw=>?hf8) (fun K hK=>?kf8)
 case hf8=>(have pga:=cell_of (hw.heap Bga.out (by simp));have pgb:=cell_of (hw.heap Bgb.out (by simp));go_simp;try rfl)
 go_simp
 refine hK _ ?_
 clear hK K
 refine jO 4 (fun K hK=>?_)
 refine wp_enter 50 #[.int .i64 1,.slice da D.length dc,.slice ea E.length ec] (by go_simp) ?_
 refine (HM.out.comb (op:=1) (by simp) (v:=.slice da D.length dc) (a:=D) (u:=.slice ea E.length ec) (b:=E) (by simp [hD.out,hT.out,hE.out,hU.out]) (by simp [hD.out,hT.out,hE.out,hU.out])).mono ?_
 rintro e w1 ⟨vo_w1,vc_w1,rfl,hm_w1⟩
 have HM:=jX hm_w1
 clear hm_w1
 refine ⟨_,rfl,?_⟩
 have hS0:=HM.out.keep
 go_simp
 refine hK _ _ hS0 ?_
 clear hK K
 refine jO 9 (fun K hK=>?_)
 refine wp_enter 50 #[.int .i64 1,.slice ta T.length tc,.slice ua U.length uc] (by go_simp) ?_
 refine (HM.out.comb (op:=1) (by simp) (v:=.slice ta T.length tc) (a:=T) (u:=.slice ua U.length uc) (b:=U) (by simp [hD.out,hT.out,hE.out,hU.out]) (by simp [hD.out,hT.out,hE.out,hU.out])).mono ?_
 rintro e w2 ⟨vo_w2,vc_w2,rfl,hm_w2⟩
 have HM:=jX hm_w2
 clear hm_w2
 refine ⟨_,rfl,?_⟩
 have hS0:=HM.out.keep
 go_simp
 refine hK _ _ hS0 ?_
 clear hK K
 refine jO 10 (fun K hK=>?_)
 refine wp_enter 60 #[.slice vo_w1 (combK 1 D E).length vc_w1,.slice vo_w2 (combK 1 T U).length vc_w2] (by go_simp) ?_
 refine (HM.out.rmake (D:=combK 1 D E) (T:=combK 1 T U) (by simp [hD.out,hT.out,hE.out,hU.out]) (by simp [hD.out,hT.out,hE.out,hU.out])).mono ?_
 rintro e w3 ⟨da_w3,dc_w3,ta_w3,tc_w3,rfl,hm_w3⟩
 have HM:=jX hm_w3
 clear hm_w3
 refine ⟨_,rfl,?_⟩
 have hS0:=HM.out.keep
 go_simp
 refine hK _ _ hS0 ?_
 clear hK K
 refine ⟨by kernel_rfl,?_⟩
 simp only [List.drop_succ_cons,List.drop_zero]
 have bz:=jX (HM.out.keep.heap Bgc.out (by simp))
 have pgc:=cell_of bz.out
 have fgc:=frozen_of bz.out
 have lgc:=lt_of_heap bz.out
 go_wp2_with fail
 obtain⟨u9,e9,b9,k9⟩:=st2 (x:=.slice da_w3 (combK 1 D E).length dc_w3) (y:=.slice ta_w3 (combK 2 (combK 1 T U) (combK 1 D E)).length tc_w3) bz.out
 rw [← e9]
 clear e9 pgc fgc lgc
 have pgc:=cell_of b9
 refine bodyPost_ret (v:=.agg #[.slice da_w3 (combK 1 D E).length dc_w3,.slice ta_w3 (combK 2 (combK 1 T U) (combK 1 D E)).length tc_w3]) ?_ rfl ⟨_,_,_,_,rfl,MP.fin H0.out.keep HkW.out HM.out bz.out (by simp) (by omega) k9 ?_⟩
 ·rw [results_cell1 rfl];go_simp
 ·intro p hp;simp only [List.mem_cons] at hp ⊢;grind
end
theorem sequal_c (l m:List (Iv K)) (w:World) (sv tv:Value) (hr:IvR w sv l) (hs:IvR w tv m) (h9:l.length≤1000000000) (h8:m.length≤1000000000) :
  Calls Tryz.prog 124 #[sv,tv] w fun e w'=>e = .returned (.bool (decide (l=m)))∧Keep [] w w':=by
 have HR:=jX hr
 have HS:=jX hs
 obtain⟨ao,ac,rfl,_⟩:=hr.form
 obtain⟨bo,bc,rfl,_⟩:=hs.form
 clear hr hs
 by_cases hlen:l.length=m.length
 ·have hne:((l.length:Int) != (m.length:Int))=false:=by rw [hlen];simp
  have Hlen:=jX hlen
  clear hlen
  go_enter Tryz.func124,Tryz.ntmps124
  go_wp2_with fail
  go_loopw [13] (fun c wr=>∃ k:Nat,k≤l.length∧c = .int .i64 (k:Int)∧l.take k=m.take k∧Keep [] w wr) (fun c _=>l.length-(intOf c).toNat)
  case atStart=>exact ⟨0,Nat.zero_le _,rfl,rfl,Keep.refl _ _⟩
  case round =>
   obtain⟨k,hk,rfl,heq,hkeep⟩:=hrel
   have Heq:=jX heq
   have HKr:=jX hkeep
   clear heq hkeep
   by_cases hlt:k<l.length
   ·have hlt2:k<m.length:=by rw [← Hlen.out];exact hlt
    obtain⟨g,o,rfl,hg,hat⟩:=IvR.elem (HR.out.later HKr.out) k hlt
    obtain⟨g2,o2,rfl,hg2,hat2⟩:=IvR.elem (HS.out.later HKr.out) k hlt2
    obtain⟨i,hi⟩:∃ i,l[k]=i:=⟨_,rfl⟩
    obtain⟨j,hj⟩:∃ j,m[k]=j:=⟨_,rfl⟩
    have Hi:=jX hi
    have Hj:=jX hj
    rw [hi] at hat
    rw [hj] at hat2
    clear hi hj
    obtain⟨p,hp⟩:∃ p,o+k*20=p:=⟨_,rfl⟩
    obtain⟨q,hq⟩:∃ q,o2+k*20=q:=⟨_,rfl⟩
    rw [hp] at hat
    rw [hq] at hat2
    have HLa:=jX (hat.ld hg)
    have HLb:=jX (hat2.ld hg2)
    have HN:=jX (neqI_run i j)
    clear hat hat2
    unfold iv at *
    generalize iC i=I at *
    generalize iC j=J at *
    by_cases hij:i=j
    ·rw [decide_eq_true hij] at HN
     have Hij:=jX hij
     clear hij
     go_wp2_with fail
     refine wp_region_keep (by kernel_rfl) (by kernel_rfl) ?_
     repeat (first
      | go_big_quiet_skip
      | (go_big_quiet_want;first
       | (refine quiet_load _ _ _ (.agg I) rfl rfl (by rintro _ ⟨m,rfl⟩;exact HLa.out m) ?_;go_simp;go_big_quiet_on)|(refine quiet_load _ _ _ (.agg J) rfl rfl (by rintro _ ⟨m,rfl⟩;exact HLb.out m) ?_;go_simp;go_big_quiet_on)|(refine quiet_bin _ _ _ _ _ _ _ (_) rfl rfl rfl eqI_g (by intro w;exact HN.out w) ?_;go_simp;go_big_quiet_on)
       | (go_big_quiet_op;first|go_big_quiet_on|go_big_quiet_call (first
        | fail))))
     refine wpQuiet_nil ?_
     rintro w1 ⟨⟨_,hk_w1⟩,rfl⟩
     clear HLa HLb HN
     have Hk1:=jX hk_w1
     clear hk_w1
     go_wp2_with fail
     go_roundw
     case rel=>exact ⟨k+1,by omega,congrArg (Value.int .i64) (by omega),by rw [List.take_succ_eq_append_getElem hlt,List.take_succ_eq_append_getElem hlt2,Heq.out,Hi.out,Hj.out,Hij.out],HKr.out.trans0 Hk1.out⟩
     case measure=>simp [intOf];omega
    ·rw [decide_eq_false hij] at HN
     have Hij:=jX hij
     clear hij
     go_wp2_with fail
     refine wp_region_keep (by kernel_rfl) (by kernel_rfl) ?_
     repeat (first
      | go_big_quiet_skip
      | (go_big_quiet_want;first
       | (refine quiet_load _ _ _ (.agg I) rfl rfl (by rintro _ ⟨m,rfl⟩;exact HLa.out m) ?_;go_simp;go_big_quiet_on)|(refine quiet_load _ _ _ (.agg J) rfl rfl (by rintro _ ⟨m,rfl⟩;exact HLb.out m) ?_;go_simp;go_big_quiet_on)|(refine quiet_bin _ _ _ _ _ _ _ (_) rfl rfl rfl eqI_g (by intro w;exact HN.out w) ?_;go_simp;go_big_quiet_on)
       | (go_big_quiet_op;first|go_big_quiet_on|go_big_quiet_call (first
        | fail))))
     refine wpQuiet_nil ?_
     rintro w1 ⟨⟨_,hk_w1⟩,rfl⟩
     clear HLa HLb HN
     have Hk1:=jX hk_w1
     clear hk_w1
     go_wp2_with fail
     go_ret
     have hno:l≠m:=fun e=>Hij.out (by rw [← Hi.out,← Hj.out];simp only [e])
     exact ⟨by rw [decide_eq_false hno];rfl,HKr.out.trans0 Hk1.out⟩
   ·obtain rfl:k=l.length:=by omega
    go_wp2_with fail
    go_ret
    have he:l=m:=by
     have:=Heq.out
     rw [List.take_length,Hlen.out,List.take_length] at this
     exact this
    exact ⟨by rw [decide_eq_true he];rfl,HKr.out⟩
 ·have hne:((l.length:Int) != (m.length:Int))=true:=by rw [bne_iff_ne];omega
  have hno:l≠m:=fun e=>hlen (by rw [e])
  rw [decide_eq_false hno]
  clear hno hlen
  go_enter Tryz.func124,Tryz.ntmps124
  go_wp2_with fail
  go_ret
  exact ⟨rfl,Keep.refl _ _⟩
theorem pequal_c (l m:List (Iv K)) (w:World) (sv tv:Value) (hr:IvR w sv l) (hs:IvR w tv m) (h9:l.length≤1000000000) (h8:m.length≤1000000000) :
  Calls Tryz.prog 80 #[sv,tv] w fun e w'=>e = .returned (.bool (decide (l=m)))∧Keep [] w w':=by
 have H:=jX (sequal_c l m w sv tv hr hs h9 h8)
 obtain⟨ao,ac,rfl,_⟩:=hr.form
 obtain⟨bo,bc,rfl,_⟩:=hs.form
 clear hr hs
 generalize decide (l=m)=r at *
 go_enter Tryz.func80,Tryz.ntmps80
 go_wp2_with fail
 refine H.out.mono ?_
 rintro e w1 ⟨rfl,hk⟩
 dsimp only
 have HK:=jX hk
 clear hk H
 go_wp2_with fail
 go_ret
 exact ⟨rfl,HK.out⟩
section
variable {S:List K} {w0 w w' W:World} {L M:List (Value × List (Iv K))} {D T E U P:List (Iv K)} {da ta ea ua pa:Option Addr} {dc tc ec uc pc:Nat}
theorem MP.peq {v u:Value} {a b:List (Iv K)} (h:MP S w0 w L) (hv:(v,a)∈L) (hu:(u,b)∈L):Calls Tryz.prog 80 #[v,u] w (BoolPost S w0 L (decide (a=b))) :=
 boolPost_of h (pequal_c a b w v u (h.get hv) (h.get hu) (by have:=h.len hv;omega) (by have:=h.len hu;omega))
theorem MP.meq (h:MP S w0 w L) (hD:(.slice da D.length dc,D)∈L) (hT:(.slice ta T.length tc,T)∈L) (hE:(.slice ea E.length ec,E)∈L) (hU:(.slice ua U.length uc,U)∈L) :
  Calls Tryz.prog 37 #[.agg #[.slice da D.length dc,.slice ta T.length tc],.agg #[.slice ea E.length ec,.slice ua U.length uc]] w (BoolPost S w0 L (decide (D=E)&&decide (T=U))):=by
 have H0:=jX h
 have hD:=jX hD
 have hT:=jX hT
 have hE:=jX hE
 have hU:=jX hU
 clear h
 have K1:=jX (fun b u M (h:MP S b u M) (h1:(.slice da D.length dc,D)∈M) (h2:(.slice ea E.length ec,E)∈M)=>h.peq h1 h2)
 have K2:=jX (fun b u M (h:MP S b u M) (h1:(.slice ta T.length tc,T)∈M) (h2:(.slice ua U.length uc,U)∈M)=>h.peq h1 h2)
 cases hr:decide (D=E) with
 | false =>
  rw [hr] at K1
  clear K2
  generalize decide (T=U)=q
  go_enter Tryz.func37,Tryz.ntmps37
  go_upto_region 1 with (fail)
  obtain⟨W,ga,gb,hW,ega,egb,bga,bgb,hga,hgb,hgW,hkW⟩:=al2 w (.cells #[.slice da D.length dc,.slice ta T.length tc] 29) (.cells #[.slice ea E.length ec,.slice ua U.length uc] 29)
  rw [← hW]
  try rw [egb]
  try rw [ega]
  have Bga:=jX bga
  have Bgb:=jX bgb
  have HkW:=jX hkW
  clear hW hkW ega egb bga bgb
  have HM:=jX (H0.out.here.move HkW.out).here
  have pga:=cell_of (HM.out.keep.heap Bga.out (by simp))
  have pgb:=cell_of (HM.out.keep.heap Bgb.out (by simp))
  go_wp2_with fail
  refine (K1.out _ _ _ HM.out hD.out hE.out).mono ?_
  rintro e w1 ⟨rfl,hm_w1⟩
  dsimp only
  have HM:=jX hm_w1
  clear hm_w1
  clear pga pgb
  go_wp2_with fail
  go_ret
  exact ⟨rfl,H0.out.back HkW.out HM.out (fun p hp=>by simp [hp])⟩
 | true =>
  rw [hr] at K1
  rw [Bool.true_and]
  generalize decide (T=U)=q at *
  go_enter Tryz.func37,Tryz.ntmps37
  go_upto_region 1 with (fail)
  obtain⟨W,ga,gb,hW,ega,egb,bga,bgb,hga,hgb,hgW,hkW⟩:=al2 w (.cells #[.slice da D.length dc,.slice ta T.length tc] 29) (.cells #[.slice ea E.length ec,.slice ua U.length uc] 29)
  rw [← hW]
  try rw [egb]
  try rw [ega]
  have Bga:=jX bga
  have Bgb:=jX bgb
  have HkW:=jX hkW
  clear hW hkW ega egb bga bgb
  have HM:=jX (H0.out.here.move HkW.out).here
  have pga:=cell_of (HM.out.keep.heap Bga.out (by simp))
  have pgb:=cell_of (HM.out.keep.heap Bgb.out (by simp))
  go_wp2_with fail
  refine (K1.out _ _ _ HM.out hD.out hE.out).mono ?_
  rintro e w1 ⟨rfl,hm_w1⟩
  dsimp only
  have HM:=jX hm_w1
  clear hm_w1
  clear pga pgb
  have pga:=cell_of (HM.out.keep.heap Bga.out (by simp))
  have pgb:=cell_of (HM.out.keep.heap Bgb.out (by simp))
  go_wp2_with fail
  refine (K2.out _ _ _ HM.out hT.out hU.out).mono ?_
  rintro e w2 ⟨rfl,hm_w2⟩
  dsimp only
  have HM:=jX hm_w2
  clear hm_w2
  clear pga pgb
  go_wp2_with fail
  go_ret
  exact ⟨rfl,H0.out.back HkW.out HM.out (fun p hp=>by simp [hp])⟩
theorem MP.req (h:MP S w0 w L) (hD:(.slice da D.length dc,D)∈L) (hT:(.slice ta T.length tc,T)∈L) (hE:(.slice ea E.length ec,E)∈L) (hU:(.slice ua U.length uc,U)∈L) :
  Calls Tryz.prog 27 #[.agg #[.slice da D.length dc,.slice ta T.length tc],.agg #[.slice ea E.length ec,.slice ua U.length uc]] w (BoolPost S w0 L (decide (D=E)&&decide (T=U))):=by
 have H0:=jX h
 have hD:=jX hD
 have hT:=jX hT
 have hE:=jX hE
 have hU:=jX hU
 clear h
 have K1:=jX (fun b u M (h:MP S b u M) (h1:(.slice da D.length dc,D)∈M) (h2:(.slice ea E.length ec,E)∈M)=>h.eqd h1 h2)
 have K2:=jX (fun b u M (h:MP S b u M) (h1:(.slice ta T.length tc,T)∈M) (h2:(.slice ua U.length uc,U)∈M)=>h.eqd h1 h2)
 cases hr:decide (D=E) with
 | false =>
  rw [hr] at K1
  clear K2
  generalize decide (T=U)=q
  go_enter Tryz.func27,Tryz.ntmps27
  go_upto_region 1 with (fail)
  obtain⟨W,ga,gb,hW,ega,egb,bga,bgb,hga,hgb,hgW,hkW⟩:=al2 w (.cells #[.slice da D.length dc,.slice ta T.length tc] 29) (.cells #[.slice ea E.length ec,.slice ua U.length uc] 29)
  rw [← hW]
  try rw [egb]
  try rw [ega]
  have Bga:=jX bga
  have Bgb:=jX bgb
  have HkW:=jX hkW
  clear hW hkW ega egb bga bgb
  have HM:=jX (H0.out.here.move HkW.out).here
  have pga:=cell_of (HM.out.keep.heap Bga.out (by simp))
  have pgb:=cell_of (HM.out.keep.heap Bgb.out (by simp))
  go_wp2_with fail
  refine (K1.out _ _ _ HM.out hD.out hE.out).mono ?_
  rintro e w1 ⟨rfl,hm_w1⟩
  dsimp only
  have HM:=jX hm_w1
  clear hm_w1
  clear pga pgb
  go_wp2_with fail
  go_ret
  exact ⟨rfl,H0.out.back HkW.out HM.out (fun p hp=>by simp [hp])⟩
 | true =>
  rw [hr] at K1
  rw [Bool.true_and]
  generalize decide (T=U)=q at *
  go_enter Tryz.func27,Tryz.ntmps27
  go_upto_region 1 with (fail)
  obtain⟨W,ga,gb,hW,ega,egb,bga,bgb,hga,hgb,hgW,hkW⟩:=al2 w (.cells #[.slice da D.length dc,.slice ta T.length tc] 29) (.cells #[.slice ea E.length ec,.slice ua U.length uc] 29)
  rw [← hW]
  try rw [egb]
  try rw [ega]
  have Bga:=jX bga
  have Bgb:=jX bgb
  have HkW:=jX hkW
  clear hW hkW ega egb bga bgb
  have HM:=jX (H0.out.here.move HkW.out).here
  have pga:=cell_of (HM.out.keep.heap Bga.out (by simp))
  have pgb:=cell_of (HM.out.keep.heap Bgb.out (by simp))
  go_wp2_with fail
  refine (K1.out _ _ _ HM.out hD.out hE.out).mono ?_
  rintro e w1 ⟨rfl,hm_w1⟩
  dsimp only
  have HM:=jX hm_w1
  clear hm_w1
  clear pga pgb
  have pga:=cell_of (HM.out.keep.heap Bga.out (by simp))
  have pgb:=cell_of (HM.out.keep.heap Bgb.out (by simp))
  go_wp2_with fail
  refine (K2.out _ _ _ HM.out hT.out hU.out).mono ?_
  rintro e w2 ⟨rfl,hm_w2⟩
  dsimp only
  have HM:=jX hm_w2
  clear hm_w2
  clear pga pgb
  go_wp2_with fail
  go_ret
  exact ⟨rfl,H0.out.back HkW.out HM.out (fun p hp=>by simp [hp])⟩
theorem len_pos {α:Type} (l:List α):decide (0<l.length)=decide (l≠[]):=by
 rw [Bool.eq_iff_iff,decide_eq_true_iff,decide_eq_true_iff,ne_eq,← List.length_eq_zero_iff];omega
end
section
variable {S:List K} {w0 w w' W:World} {L M:List (Value × List (Iv K))} {D T E U P:List (Iv K)} {da ta ea ua pa:Option Addr} {dc tc ec uc pc:Nat}
noncomputable def clash (T E U:List (Iv K)):Bool:=decide (combK 2 T (combK 3 E U)≠[])
noncomputable def clash' (D T U:List (Iv K)):Bool:=decide (combK 2 (combK 3 D T) U≠[])
theorem MP.rconf (h:MP S w0 w L) (hD:(.slice da D.length dc,D)∈L) (hT:(.slice ta T.length tc,T)∈L) (hE:(.slice ea E.length ec,E)∈L) (hU:(.slice ua U.length uc,U)∈L) :
  Calls Tryz.prog 47 #[.agg #[.slice da D.length dc,.slice ta T.length tc],.agg #[.slice ea E.length ec,.slice ua U.length uc]] w (BoolPost S w0 L (clash T E U || clash' D T U)):=by
 have H0:=jX h
 have hD:=jX hD
 have hT:=jX hT
 have hE:=jX hE
 have hU:=jX hU
 clear h
 have l1:=len_pos (combK 2 T (combK 3 E U))
 have l2:=len_pos (combK 2 (combK 3 D T) U)
 unfold clash clash'
 generalize decide (combK 2 T (combK 3 E U)≠[])=r1 at *
 generalize decide (combK 2 (combK 3 D T) U≠[])=r2 at *
 go_enter Tryz.func47,Tryz.ntmps47
 go_upto_region 1 with (fail)
 obtain⟨W,ga,gb,hW,ega,egb,bga,bgb,hga,hgb,hgW,hkW⟩:=al2 w (.cells #[.slice da D.length dc,.slice ta T.length tc] 29) (.cells #[.slice ea E.length ec,.slice ua U.length uc] 29)
 rw [← hW]
 try rw [egb]
 try rw [ega]
 have Bga:=jX bga
 have Bgb:=jX bgb
 have HkW:=jX hkW
 clear hW hkW ega egb bga bgb
 have HM:=jX (H0.out.here.move HkW.out).here
 refine wp_region_heldT (S:=fun u=>Keep [] W u) 16 (by kernel_rfl) (by kernel_rfl) (fun _ _ d _ _ h=>by cases d<;>exact h) ?_
 have HM:=jX (HM.out.move (Keep.drew [] W))
 generalize World.drew W=u at *
 have hS0:=HM.out.keep
 refine' jG (v:=_) 0 hS0 (fun w hw=>?hf0) (fun K hK=>?kf0)
 case hf0=>(have pga:=cell_of (hw.heap Bga.out (by simp));have pgb:=cell_of (hw.heap Bgb.out (by simp));go_simp;try rfl)
 go_simp
 refine hK _ ?_
 clear hK K
 refine' jG (v:=_) 1 hS0 (fun w hw=>?hf1) (fun K hK=>?kf1)
 case hf1=>(have pga:=cell_of (hw.heap Bga.out (by simp));have pgb:=cell_of (hw.heap Bgb.out (by simp));go_simp;try rfl)
 go_simp
 refine hK _ ?_
 clear hK K
 refine' jG (v:=_) 2 hS0 (fun w hw=>?hf2) (fun K hK=>?kf2)
 case hf2=>(have pga:=cell_of (hw.heap Bga.out (by simp));have pgb:=cell_of (hw.heap Bgb.out (by simp));go_simp;try rfl)
 go_simp
 refine hK _ ?_
 clear hK K
 refine jP 3 (fun K hK=>?_)
 refine wp_enter 22 #[.agg #[.slice ea E.length ec,.slice ua U.length uc]] (by go_simp) ?_
 refine (HM.out.rfalse (D:=E) (T:=U) (by simp [hD.out,hT.out,hE.out,hU.out]) (by simp [hD.out,hT.out,hE.out,hU.out])).mono ?_
 rintro e w1 ⟨vo_w1,vc_w1,rfl,hm_w1⟩
 have HM:=jX hm_w1
 clear hm_w1
 refine ⟨_,rfl,?_⟩
 have hS0:=HM.out.keep
 go_simp
 refine hK _ _ hS0 ?_
 clear hK K
 refine jP 4 (fun K hK=>?_)
 refine wp_enter 50 #[.int .i64 2,.slice ta T.length tc,.slice vo_w1 (combK 3 E U).length vc_w1] (by go_simp) ?_
 refine (HM.out.comb (op:=2) (by simp) (v:=.slice ta T.length tc) (a:=T) (u:=.slice vo_w1 (combK 3 E U).length vc_w1) (b:=combK 3 E U) (by simp [hD.out,hT.out,hE.out,hU.out]) (by simp)).mono ?_
 rintro e w2 ⟨vo_w2,vc_w2,rfl,hm_w2⟩
 have HM:=jX hm_w2
 clear hm_w2
 refine ⟨_,rfl,?_⟩
 have hS0:=HM.out.keep
 go_simp
 refine hK _ _ hS0 ?_
 clear hK K
 refine' jG (v:=_) 5 hS0 (fun w hw=>?hf5) (fun K hK=>?kf5)
 case hf5=>(have pga:=cell_of (hw.heap Bga.out (by simp));have pgb:=cell_of (hw.heap Bgb.out (by simp));go_simp;try rfl)
 go_simp
 refine hK _ ?_
 clear hK K
 refine' jG (v:=_) 6 hS0 (fun w hw=>?hf6) (fun K hK=>?kf6)
 case hf6=>(have pga:=cell_of (hw.heap Bga.out (by simp));have pgb:=cell_of (hw.heap Bgb.out (by simp));go_simp;try rfl)
 go_simp
 refine hK _ ?_
 clear hK K
 refine' jG (v:=_) 7 hS0 (fun w hw=>?hf7) (fun K hK=>?kf7)
 case hf7=>(have pga:=cell_of (hw.heap Bga.out (by simp));have pgb:=cell_of (hw.heap Bgb.out (by simp));go_simp;try rfl)
 go_simp
 refine hK _ ?_
 clear hK K
 cases r1 with
 | true =>
  rw [Bool.true_or]
  clear l2
  refine' jS 8 hS0 (fun K hK=>?kf8)
  go_simp
  refine hK _ ?_
  clear hK K
  refine' jS 9 hS0 (fun K hK=>?kf9)
  go_simp
  refine hK _ ?_
  clear hK K
  refine' jS 10 hS0 (fun K hK=>?kf10)
  go_simp
  refine hK _ ?_
  clear hK K
  refine' jS 11 hS0 (fun K hK=>?kf11)
  go_simp
  refine hK _ ?_
  clear hK K
  refine' jS 12 hS0 (fun K hK=>?kf12)
  go_simp
  refine hK _ ?_
  clear hK K
  refine' jS 13 hS0 (fun K hK=>?kf13)
  go_simp
  refine hK _ ?_
  clear hK K
  refine' jS 14 hS0 (fun K hK=>?kf14)
  go_simp
  refine hK _ ?_
  clear hK K
  refine' jG (v:=_) 15 hS0 (fun w hw=>?hf15) (fun K hK=>?kf15)
  case hf15=>(have pga:=cell_of (hw.heap Bga.out (by simp));have pgb:=cell_of (hw.heap Bgb.out (by simp));go_simp;try rfl)
  go_simp
  refine hK _ ?_
  clear hK K
  refine ⟨by kernel_rfl,?_⟩
  simp only [List.drop_succ_cons,List.drop_zero]
  go_wp2_with fail
  go_ret
  exact ⟨rfl,H0.out.back HkW.out HM.out (fun p hp=>by simp [hp])⟩
 | false =>
  rw [Bool.false_or]
  refine' jG (v:=_) 8 hS0 (fun w hw=>?hg8) (fun K hK=>?kg8)
  case hg8=>(have pga:=cell_of (hw.heap Bga.out (by simp));have pgb:=cell_of (hw.heap Bgb.out (by simp));go_simp;try rfl)
  go_simp
  refine hK _ ?_
  clear hK K
  refine' jG (v:=_) 10 hS0 (fun w hw=>?hg10) (fun K hK=>?kg10)
  case hg10=>(have pga:=cell_of (hw.heap Bga.out (by simp));have pgb:=cell_of (hw.heap Bgb.out (by simp));go_simp;try rfl)
  go_simp
  refine hK _ ?_
  clear hK K
  refine' jG (v:=_) 11 hS0 (fun w hw=>?hg11) (fun K hK=>?kg11)
  case hg11=>(have pga:=cell_of (hw.heap Bga.out (by simp));have pgb:=cell_of (hw.heap Bgb.out (by simp));go_simp;try rfl)
  go_simp
  refine hK _ ?_
  clear hK K
  refine jP 9 (fun K hK=>?_)
  refine wp_enter 22 #[.agg #[.slice da D.length dc,.slice ta T.length tc]] (by go_simp) ?_
  refine (HM.out.rfalse (D:=D) (T:=T) (by simp [hD.out,hT.out,hE.out,hU.out]) (by simp [hD.out,hT.out,hE.out,hU.out])).mono ?_
  rintro e w3 ⟨vo_w3,vc_w3,rfl,hm_w3⟩
  have HM:=jX hm_w3
  clear hm_w3
  refine ⟨_,rfl,?_⟩
  have hS0:=HM.out.keep
  go_simp
  refine hK _ _ hS0 ?_
  clear hK K
  refine jP 12 (fun K hK=>?_)
  refine wp_enter 50 #[.int .i64 2,.slice vo_w3 (combK 3 D T).length vc_w3,.slice ua U.length uc] (by go_simp) ?_
  refine (HM.out.comb (op:=2) (by simp) (v:=.slice vo_w3 (combK 3 D T).length vc_w3) (a:=combK 3 D T) (u:=.slice ua U.length uc) (b:=U) (by simp) (by simp [hD.out,hT.out,hE.out,hU.out])).mono ?_
  rintro e w4 ⟨vo_w4,vc_w4,rfl,hm_w4⟩
  have HM:=jX hm_w4
  clear hm_w4
  refine ⟨_,rfl,?_⟩
  have hS0:=HM.out.keep
  go_simp
  refine hK _ _ hS0 ?_
  clear hK K
  refine' jG (v:=_) 13 hS0 (fun w hw=>?hg13) (fun K hK=>?kg13)
  case hg13=>(have pga:=cell_of (hw.heap Bga.out (by simp));have pgb:=cell_of (hw.heap Bgb.out (by simp));go_simp;try rfl)
  go_simp
  refine hK _ ?_
  clear hK K
  refine' jG (v:=_) 14 hS0 (fun w hw=>?hg14) (fun K hK=>?kg14)
  case hg14=>(have pga:=cell_of (hw.heap Bga.out (by simp));have pgb:=cell_of (hw.heap Bgb.out (by simp));go_simp;try rfl)
  go_simp
  refine hK _ ?_
  clear hK K
  refine' jG (v:=_) 15 hS0 (fun w hw=>?hg15) (fun K hK=>?kg15)
  case hg15=>(have pga:=cell_of (hw.heap Bga.out (by simp));have pgb:=cell_of (hw.heap Bgb.out (by simp));go_simp;try rfl)
  go_simp
  refine hK _ ?_
  clear hK K
  refine ⟨by kernel_rfl,?_⟩
  simp only [List.drop_succ_cons,List.drop_zero]
  go_wp2_with fail
  go_ret
  exact ⟨rfl,H0.out.back HkW.out HM.out (fun p hp=>by simp [hp])⟩
def JNPost (S:List K) (w0:World) (L:List (Value × List (Iv K))) (e:Ending) (w':World):Prop:=e = .returned (.tuple #[.agg #[.slice none 0 0,.slice none 0 0],.int .i64 17])∧MP S w0 w' L
def JYPost (S:List K) (w0:World) (L:List (Value × List (Iv K))) (D T:List (Iv K)) (e:Ending) (w':World):Prop :=
 ∃ a c b d,e = .returned (.tuple #[.agg #[.slice a D.length c,.slice b T.length d],.int .i64 0])∧MP S w0 w' ((.slice a D.length c,D) :: (.slice b T.length d,T) :: L)
theorem MP.mjoin_no (h:MP S w0 w L) (hD:(.slice da D.length dc,D)∈L) (hT:(.slice ta T.length tc,T)∈L) (hE:(.slice ea E.length ec,E)∈L) (hU:(.slice ua U.length uc,U)∈L) (hc:clash T E U=true∨clash' D T U=true) :
  Calls Tryz.prog 46 #[.agg #[.slice da D.length dc,.slice ta T.length tc],.agg #[.slice ea E.length ec,.slice ua U.length uc]] w (JNPost S w0 L):=by
 have H0:=jX h
 have hD:=jX hD
 have hT:=jX hT
 have hE:=jX hE
 have hU:=jX hU
 clear h
 unfold clash clash' at hc
 have H3:=jX (fun b u M (h:MP S b u M) (h1:(.slice ta T.length tc,T)∈M) v (h2:(v,combK 3 E U)∈M)=>h.over h1 h2)
 have H4:=jX (fun b u M (h:MP S b u M) (h1:(.slice ua U.length uc,U)∈M) v (h2:(v,combK 3 D T)∈M)=>h.over h2 h1)
 generalize decide (combK 2 T (combK 3 E U)≠[])=r1 at *
 generalize decide (combK 2 (combK 3 D T) U≠[])=r2 at *
 go_enter Tryz.func46,Tryz.ntmps46
 go_upto_region 1 with (fail)
 obtain⟨W,ga,gb,gc,hW,ega,egb,egc,bga,bgb,bgc,hga,hgb,hgc,hgW,hkW⟩:=al3 w (.cells #[.slice da D.length dc,.slice ta T.length tc] 29) (.cells #[.slice ea E.length ec,.slice ua U.length uc] 29) (.cells #[.slice none 0 0,.slice none 0 0] 29)
 rw [← hW]
 try rw [egc]
 try rw [egb]
 try rw [ega]
 have Bga:=jX bga
 have Bgb:=jX bgb
 have Bgc:=jX bgc
 have HkW:=jX hkW
 clear hW hkW ega egb egc bga bgb bgc
 have HM:=jX (H0.out.here.move HkW.out).here
 refine wp_region_heldT (S:=fun u=>Keep [] W u) 11 (by kernel_rfl) (by kernel_rfl) (fun _ _ d _ _ h=>by cases d<;>exact h) ?_
 have HM:=jX (HM.out.move (Keep.drew [] W))
 generalize World.drew W=u at *
 have hS0:=HM.out.keep
 refine' jG (v:=_) 0 hS0 (fun w hw=>?hf0) (fun K hK=>?kf0)
 case hf0=>(have pga:=cell_of (hw.heap Bga.out (by simp));have pgb:=cell_of (hw.heap Bgb.out (by simp));go_simp;try rfl)
 go_simp
 refine hK _ ?_
 clear hK K
 refine' jG (v:=_) 1 hS0 (fun w hw=>?hf1) (fun K hK=>?kf1)
 case hf1=>(have pga:=cell_of (hw.heap Bga.out (by simp));have pgb:=cell_of (hw.heap Bgb.out (by simp));go_simp;try rfl)
 go_simp
 refine hK _ ?_
 clear hK K
 refine' jG (v:=_) 2 hS0 (fun w hw=>?hf2) (fun K hK=>?kf2)
 case hf2=>(have pga:=cell_of (hw.heap Bga.out (by simp));have pgb:=cell_of (hw.heap Bgb.out (by simp));go_simp;try rfl)
 go_simp
 refine hK _ ?_
 clear hK K
 refine jP 3 (fun K hK=>?_)
 refine wp_enter 19 #[.agg #[.slice ea E.length ec,.slice ua U.length uc]] (by go_simp) ?_
 refine (HM.out.mfalse (D:=E) (T:=U) (by simp [hD.out,hT.out,hE.out,hU.out]) (by simp [hD.out,hT.out,hE.out,hU.out])).mono ?_
 rintro e w1 ⟨vo_w1,vc_w1,rfl,hm_w1⟩
 have HM:=jX hm_w1
 clear hm_w1
 refine ⟨_,rfl,?_⟩
 have hS0:=HM.out.keep
 go_simp
 refine hK _ _ hS0 ?_
 clear hK K
 refine jP 4 (fun K hK=>?_)
 refine wp_enter 90 #[.slice ta T.length tc,.slice vo_w1 (combK 3 E U).length vc_w1] (by go_simp) ?_
 refine (H3.out _ _ _ HM.out (by simp [hT.out]) _ (by simp)).mono ?_
 rintro e w2 ⟨rfl,hm_w2⟩
 have HM:=jX hm_w2
 clear hm_w2
 refine ⟨_,rfl,?_⟩
 have hS0:=HM.out.keep
 go_simp
 refine hK _ _ hS0 ?_
 clear hK K
 refine' jG (v:=_) 5 hS0 (fun w hw=>?hf5) (fun K hK=>?kf5)
 case hf5=>(have pga:=cell_of (hw.heap Bga.out (by simp));have pgb:=cell_of (hw.heap Bgb.out (by simp));go_simp;try rfl)
 go_simp
 refine hK _ ?_
 clear hK K
 cases r1 with
 | true =>
  clear H4 hc
  refine' jS 6 hS0 (fun K hK=>?kf6)
  go_simp
  refine hK _ ?_
  clear hK K
  refine' jS 7 hS0 (fun K hK=>?kf7)
  go_simp
  refine hK _ ?_
  clear hK K
  refine' jS 8 hS0 (fun K hK=>?kf8)
  go_simp
  refine hK _ ?_
  clear hK K
  refine' jS 9 hS0 (fun K hK=>?kf9)
  go_simp
  refine hK _ ?_
  clear hK K
  refine' jS 10 hS0 (fun K hK=>?kf10)
  go_simp
  refine hK _ ?_
  clear hK K
  refine ⟨by kernel_rfl,?_⟩
  simp only [List.drop_succ_cons,List.drop_zero]
  go_upto_region 2 with (fail)
  have bz:=jX (HM.out.keep.heap Bgc.out (by simp))
  have pgc:=cell_of bz.out
  have fgc:=frozen_of bz.out
  have lgc:=lt_of_heap bz.out
  go_wp2_with fail
  obtain⟨u9,e9,b9,k9⟩:=st2 (x:=.slice none 0 0) (y:=.slice none 0 0) bz.out
  rw [← e9]
  clear e9 pgc fgc lgc
  have pgc:=cell_of b9
  refine bodyPost_ret (v:=.tuple #[.agg #[.slice none 0 0,.slice none 0 0],.int .i64 17]) ?_ rfl ⟨rfl,MP.fin H0.out.keep HkW.out HM.out bz.out (by simp) (by omega) k9 (fun p hp=>by simp [hp])⟩
  rw [results_cell_tmp rfl];go_simp
 | false =>
  obtain rfl:r2=true:=by simpa using hc
  clear hc
  refine' jG (v:=_) 6 hS0 (fun w hw=>?hg6) (fun K hK=>?kg6)
  case hg6=>(have pga:=cell_of (hw.heap Bga.out (by simp));have pgb:=cell_of (hw.heap Bgb.out (by simp));go_simp;try rfl)
  go_simp
  refine hK _ ?_
  clear hK K
  refine' jG (v:=_) 8 hS0 (fun w hw=>?hg8) (fun K hK=>?kg8)
  case hg8=>(have pga:=cell_of (hw.heap Bga.out (by simp));have pgb:=cell_of (hw.heap Bgb.out (by simp));go_simp;try rfl)
  go_simp
  refine hK _ ?_
  clear hK K
  refine' jG (v:=_) 9 hS0 (fun w hw=>?hg9) (fun K hK=>?kg9)
  case hg9=>(have pga:=cell_of (hw.heap Bga.out (by simp));have pgb:=cell_of (hw.heap Bgb.out (by simp));go_simp;try rfl)
  go_simp
  refine hK _ ?_
  clear hK K
  refine jP 7 (fun K hK=>?_)
  refine wp_enter 19 #[.agg #[.slice da D.length dc,.slice ta T.length tc]] (by go_simp) ?_
  refine (HM.out.mfalse (D:=D) (T:=T) (by simp [hD.out]) (by simp [hT.out])).mono ?_
  rintro e w3 ⟨vo_w3,vc_w3,rfl,hm_w3⟩
  have HM:=jX hm_w3
  clear hm_w3
  refine ⟨_,rfl,?_⟩
  have hS0:=HM.out.keep
  go_simp
  refine hK _ _ hS0 ?_
  clear hK K
  refine jP 10 (fun K hK=>?_)
  refine wp_enter 90 #[.slice vo_w3 (combK 3 D T).length vc_w3,.slice ua U.length uc] (by go_simp) ?_
  refine (H4.out _ _ _ HM.out (by simp [hU.out]) _ (by simp)).mono ?_
  rintro e w4 ⟨rfl,hm_w4⟩
  have HM:=jX hm_w4
  clear hm_w4
  refine ⟨_,rfl,?_⟩
  have hS0:=HM.out.keep
  go_simp
  refine hK _ _ hS0 ?_
  clear hK K
  refine ⟨by kernel_rfl,?_⟩
  simp only [List.drop_succ_cons,List.drop_zero]
  go_upto_region 2 with (fail)
  have bz:=jX (HM.out.keep.heap Bgc.out (by simp))
  have pgc:=cell_of bz.out
  have fgc:=frozen_of bz.out
  have lgc:=lt_of_heap bz.out
  go_wp2_with fail
  obtain⟨u9,e9,b9,k9⟩:=st2 (x:=.slice none 0 0) (y:=.slice none 0 0) bz.out
  rw [← e9]
  clear e9 pgc fgc lgc
  have pgc:=cell_of b9
  refine bodyPost_ret (v:=.tuple #[.agg #[.slice none 0 0,.slice none 0 0],.int .i64 17]) ?_ rfl ⟨rfl,MP.fin H0.out.keep HkW.out HM.out bz.out (by simp) (by omega) k9 (fun p hp=>by simp [hp])⟩
  rw [results_cell_tmp rfl];go_simp
theorem MP.mjoin_ok (h:MP S w0 w L) (hD:(.slice da D.length dc,D)∈L) (hT:(.slice ta T.length tc,T)∈L) (hE:(.slice ea E.length ec,E)∈L) (hU:(.slice ua U.length uc,U)∈L) (hc:clash T E U=false) (hc':clash' D T U=false) :
  Calls Tryz.prog 46 #[.agg #[.slice da D.length dc,.slice ta T.length tc],.agg #[.slice ea E.length ec,.slice ua U.length uc]] w (JYPost S w0 L (combK 1 D E) (combK 1 T U)):=by
 have H0:=jX h
 have hD:=jX hD
 have hT:=jX hT
 have hE:=jX hE
 have hU:=jX hU
 clear h
 unfold clash at hc
 unfold clash' at hc'
 have H3:=jX (fun b u M (h:MP S b u M) (h1:(.slice ta T.length tc,T)∈M) v (h2:(v,combK 3 E U)∈M)=>h.over h1 h2)
 have H4:=jX (fun b u M (h:MP S b u M) (h1:(.slice ua U.length uc,U)∈M) v (h2:(v,combK 3 D T)∈M)=>h.over h2 h1)
 rw [hc] at H3
 rw [hc'] at H4
 clear hc hc'
 go_enter Tryz.func46,Tryz.ntmps46
 go_upto_region 1 with (fail)
 obtain⟨W,ga,gb,gc,hW,ega,egb,egc,bga,bgb,bgc,hga,hgb,hgc,hgW,hkW⟩:=al3 w (.cells #[.slice da D.length dc,.slice ta T.length tc] 29) (.cells #[.slice ea E.length ec,.slice ua U.length uc] 29) (.cells #[.slice none 0 0,.slice none 0 0] 29)
 rw [← hW]
 try rw [egc]
 try rw [egb]
 try rw [ega]
 have Bga:=jX bga
 have Bgb:=jX bgb
 have Bgc:=jX bgc
 have HkW:=jX hkW
 clear hW hkW ega egb egc bga bgb bgc
 have HM:=jX (H0.out.here.move HkW.out).here
 refine wp_region_heldT (S:=fun u=>Keep [] W u) 11 (by kernel_rfl) (by kernel_rfl) (fun _ _ d _ _ h=>by cases d<;>exact h) ?_
 have HM:=jX (HM.out.move (Keep.drew [] W))
 generalize World.drew W=u at *
 have hS0:=HM.out.keep
 refine' jG (v:=_) 0 hS0 (fun w hw=>?hg0) (fun K hK=>?kg0)
 case hg0=>(have pga:=cell_of (hw.heap Bga.out (by simp));have pgb:=cell_of (hw.heap Bgb.out (by simp));go_simp;try rfl)
 go_simp
 refine hK _ ?_
 clear hK K
 refine' jG (v:=_) 1 hS0 (fun w hw=>?hg1) (fun K hK=>?kg1)
 case hg1=>(have pga:=cell_of (hw.heap Bga.out (by simp));have pgb:=cell_of (hw.heap Bgb.out (by simp));go_simp;try rfl)
 go_simp
 refine hK _ ?_
 clear hK K
 refine' jG (v:=_) 2 hS0 (fun w hw=>?hg2) (fun K hK=>?kg2)
 case hg2=>(have pga:=cell_of (hw.heap Bga.out (by simp));have pgb:=cell_of (hw.heap Bgb.out (by simp));go_simp;try rfl)
 go_simp
 refine hK _ ?_
 clear hK K
 refine jP 3 (fun K hK=>?_)
 refine wp_enter 19 #[.agg #[.slice ea E.length ec,.slice ua U.length uc]] (by go_simp) ?_
 refine (HM.out.mfalse (D:=E) (T:=U) (by simp [hD.out,hT.out,hE.out,hU.out]) (by simp [hD.out,hT.out,hE.out,hU.out])).mono ?_
 rintro e w1 ⟨vo_w1,vc_w1,rfl,hm_w1⟩
 have HM:=jX hm_w1
 clear hm_w1
 refine ⟨_,rfl,?_⟩
 have hS0:=HM.out.keep
 go_simp
 refine hK _ _ hS0 ?_
 clear hK K
 refine jP 4 (fun K hK=>?_)
 refine wp_enter 90 #[.slice ta T.length tc,.slice vo_w1 (combK 3 E U).length vc_w1] (by go_simp) ?_
 refine (H3.out _ _ _ HM.out (by simp [hT.out]) _ (by simp)).mono ?_
 rintro e w2 ⟨rfl,hm_w2⟩
 have HM:=jX hm_w2
 clear hm_w2
 refine ⟨_,rfl,?_⟩
 have hS0:=HM.out.keep
 go_simp
 refine hK _ _ hS0 ?_
 clear hK K
 refine' jG (v:=_) 5 hS0 (fun w hw=>?hg5) (fun K hK=>?kg5)
 case hg5=>(have pga:=cell_of (hw.heap Bga.out (by simp));have pgb:=cell_of (hw.heap Bgb.out (by simp));go_simp;try rfl)
 go_simp
 refine hK _ ?_
 clear hK K
 refine' jG (v:=_) 6 hS0 (fun w hw=>?hg6) (fun K hK=>?kg6)
 case hg6=>(have pga:=cell_of (hw.heap Bga.out (by simp));have pgb:=cell_of (hw.heap Bgb.out (by simp));go_simp;try rfl)
 go_simp
 refine hK _ ?_
 clear hK K
 refine' jG (v:=_) 8 hS0 (fun w hw=>?hg8) (fun K hK=>?kg8)
 case hg8=>(have pga:=cell_of (hw.heap Bga.out (by simp));have pgb:=cell_of (hw.heap Bgb.out (by simp));go_simp;try rfl)
 go_simp
 refine hK _ ?_
 clear hK K
 refine' jG (v:=_) 9 hS0 (fun w hw=>?hg9) (fun K hK=>?kg9)
 case hg9=>(have pga:=cell_of (hw.heap Bga.out (by simp));have pgb:=cell_of (hw.heap Bgb.out (by simp));go_simp;try rfl)
 go_simp
 refine hK _ ?_
 clear hK K
 refine jP 7 (fun K hK=>?_)
 refine wp_enter 19 #[.agg #[.slice da D.length dc,.slice ta T.length tc]] (by go_simp) ?_
 refine (HM.out.mfalse (D:=D) (T:=T) (by simp [hD.out]) (by simp [hT.out])).mono ?_
 rintro e w3 ⟨vo_w3,vc_w3,rfl,hm_w3⟩
 have HM:=jX hm_w3
 clear hm_w3
 refine ⟨_,rfl,?_⟩
 have hS0:=HM.out.keep
 go_simp
 refine hK _ _ hS0 ?_
 clear hK K
 refine jP 10 (fun K hK=>?_)
 refine wp_enter 90 #[.slice vo_w3 (combK 3 D T).length vc_w3,.slice ua U.length uc] (by go_simp) ?_
 refine (H4.out _ _ _ HM.out (by simp [hU.out]) _ (by simp)).mono ?_
 rintro e w4 ⟨rfl,hm_w4⟩
 have HM:=jX hm_w4
 clear hm_w4
 refine ⟨_,rfl,?_⟩
 have hS0:=HM.out.keep
 go_simp
 refine hK _ _ hS0 ?_
 clear hK K
 refine ⟨by kernel_rfl,?_⟩
 simp only [List.drop_succ_cons,List.drop_zero]
 go_upto_region 3 with (fail)
 refine wp_region_heldT (S:=fun u=>Keep [] W u) 10 (by kernel_rfl) (by kernel_rfl) (fun _ _ d _ _ h=>by cases d<;>exact h) ?_
 have HM:=jX (HM.out.move (Keep.drew [] w4))
 generalize World.drew w4=u at *
 have hS0:=HM.out.keep
 refine' jG (v:=_) 0 hS0 (fun w hw=>?hk0) (fun K hK=>?kk0)
 case hk0=>(have pga:=cell_of (hw.heap Bga.out (by simp));have pgb:=cell_of (hw.heap Bgb.out (by simp));go_simp;try rfl)
 go_simp
 refine hK _ ?_
 clear hK K
 refine' jG (v:=_) 1 hS0 (fun w hw=>?hk1) (fun K hK=>?kk1)
 case hk1=>(have pga:=cell_of (hw.heap Bga.out (by simp));have pgb:=cell_of (hw.heap Bgb.out (by simp));go_simp;try rfl)
 go_simp
 refine hK _ ?_
 clear hK K
 refine' jG (v:=_) 2 hS0 (fun w hw=>?hk2) (fun K hK=>?kk2)
 case hk2=>(have pga:=cell_of (hw.heap Bga.out (by simp));have pgb:=cell_of (hw.heap Bgb.out (by simp));go_simp;try rfl)
 go_simp
 refine hK _ ?_
 clear hK K
 refine' jG (v:=_) 3 hS0 (fun w hw=>?hk3) (fun K hK=>?kk3)
 case hk3=>(have pga:=cell_of (hw.heap Bga.out (by simp));have pgb:=cell_of (hw.heap Bgb.out (by simp));go_simp;try rfl)
 go_simp
 refine hK _ ?_
 clear hK K
 refine' jG (v:=_) 5 hS0 (fun w hw=>?hk5) (fun K hK=>?kk5)
 case hk5=>(have pga:=cell_of (hw.heap Bga.out (by simp));have pgb:=cell_of (hw.heap Bgb.out (by simp));go_simp;try rfl)
 go_simp
 refine hK _ ?_
 clear hK K
 refine' jG (v:=_) 6 hS0 (fun w hw=>?hk6) (fun K hK=>?kk6)
 case hk6=>(have pga:=cell_of (hw.heap Bga.out (by simp));have pgb:=cell_of (hw.heap Bgb.out (by simp));go_simp;try rfl)
 go_simp
 refine hK _ ?_
 clear hK K
 refine' jG (v:=_) 7 hS0 (fun w hw=>?hk7) (fun K hK=>?kk7)
 case hk7=>(have pga:=cell_of (hw.heap Bga.out (by simp));have pgb:=cell_of (hw.heap Bgb.out (by simp));go_simp;try rfl)
 go_simp
 refine hK _ ?_
 clear hK K
 refine' jG (v:=_) 8 hS0 (fun w hw=>?hk8) (fun K hK=>?kk8)
 case hk8=>(have pga:=cell_of (hw.heap Bga.out (by simp));have pgb:=cell_of (hw.heap Bgb.out (by simp));go_simp;try rfl)
 go_simp
 refine hK _ ?_
 clear hK K
 refine jP 4 (fun K hK=>?_)
 refine wp_enter 70 #[.slice da D.length dc,.slice ea E.length ec] (by go_simp) ?_
 refine (HM.out.union (v:=.slice da D.length dc) (a:=D) (u:=.slice ea E.length ec) (b:=E) (by simp [hD.out,hT.out,hE.out,hU.out]) (by simp [hD.out,hT.out,hE.out,hU.out])).mono ?_
 rintro e w5 ⟨vo_w5,vc_w5,rfl,hm_w5⟩
 have HM:=jX hm_w5
 clear hm_w5
 refine ⟨_,rfl,?_⟩
 have hS0:=HM.out.keep
 go_simp
 refine hK _ _ hS0 ?_
 clear hK K
 refine jP 9 (fun K hK=>?_)
 refine wp_enter 70 #[.slice ta T.length tc,.slice ua U.length uc] (by go_simp) ?_
 refine (HM.out.union (v:=.slice ta T.length tc) (a:=T) (u:=.slice ua U.length uc) (b:=U) (by simp [hD.out,hT.out,hE.out,hU.out]) (by simp [hD.out,hT.out,hE.out,hU.out])).mono ?_
 rintro e w6 ⟨vo_w6,vc_w6,rfl,hm_w6⟩
 have HM:=jX hm_w6
 clear hm_w6
 refine ⟨_,rfl,?_⟩
 have hS0:=HM.out.keep
 go_simp
 refine hK _ _ hS0 ?_
 clear hK K
 refine ⟨by kernel_rfl,?_⟩
 simp only [List.drop_succ_cons,List.drop_zero]
 have bz:=jX (HM.out.keep.heap Bgc.out (by simp))
 have pgc:=cell_of bz.out
 have fgc:=frozen_of bz.out
 have lgc:=lt_of_heap bz.out
 go_wp2_with fail
 obtain⟨u9,e9,b9,k9⟩:=st2 (x:=.slice vo_w5 (combK 1 D E).length vc_w5) (y:=.slice vo_w6 (combK 1 T U).length vc_w6) bz.out
 rw [← e9]
 clear e9 pgc fgc lgc
 have pgc:=cell_of b9
 refine bodyPost_ret (v:=.tuple #[.agg #[.slice vo_w5 (combK 1 D E).length vc_w5,.slice vo_w6 (combK 1 T U).length vc_w6],.int .i64 0]) ?_ rfl ⟨_,_,_,_,rfl,MP.fin H0.out.keep HkW.out HM.out bz.out (by simp) (by omega) k9 ?_⟩
 ·rw [results_cell_tmp rfl];go_simp
 ·intro p hp;simp only [List.mem_cons] at hp ⊢;grind
end
structure PerC (S:List K) (w:World) (v:Value) (P:List (Iv K)):Prop where
 form:∃ ao an ac,v = .slice ao an ac
 nP:Norm P
 call:∀ b u M,Keep [] w b→MP S b u M→Calls Tryz.prog 45 #[v] u (PerPost S b M P)
theorem perC_of {w:World} {v:Value} (h:SpArg w v):∃ l:List K,l.length≤100∧∃ P,∀ S,(∀ x∈l,x∈S)→PerC S w v P:=by
 obtain⟨dl,hd,h9⟩:=h
 refine ⟨ptsL (ivsOf dl),?_,perOf dl,fun S hS=>⟨?_,perOf_norm _,fun b u M hk hm=>hm.period (hd.later hk) h9 hS⟩⟩
 ·have:=ptsOf_len dl
  omega
 ·obtain⟨ao,ac,rfl,_⟩:=hd
  exact ⟨_,_,_,rfl⟩
section
variable {P:Program} {ops:Array Oper} {md:Region.Mode} {S:World→Prop} {Q:Exit→Act→World→Prop}
theorem heldT_vale {n f:Nat} {L:Array Bool→Act→World→Prop} {listed:Array Bool} {a:Act} {w:World} (i:Nat) {o:Oper} (ho:ops[i]? = some o) (hi:i<n) (hf:Region.free md ops listed i=true) (hr:(Region.ready md ops listed).contains i=true)
  (hg:Region.wanted o (yielded ops a.tmps)=true) (hS:S w)
  (h:∃ v,(∀ w,S w→(execOp a.eval o).run P w = .ok (.value v) w)∧∀ K:Act→Prop,(∀ a,heldT P md ops Q S n L f (listed.setIfInBounds i true) a w→K a)→K (a.put o.dst v)):heldT P md ops Q S n L (f+1) listed a w:=by
 obtain⟨v,h1,h2⟩:=h
 exact .inl ⟨i,o,v,ho,hi,hf,hr,.inl ⟨hg,h1⟩,hS,h2 _ (fun _ h=>h)⟩
theorem jE {n f:Nat} {L:Array Bool→Act→World→Prop} {listed:Array Bool} {a:Act} {w:World} (i:Nat) {o:Oper} (hS:S w) (h:∃ v,(∀ w,S w→(execOp a.eval o).run P w = .ok (.value v) w)∧∀ K:Act→Prop,(∀ a,heldT P md ops Q S n L f (listed.setIfInBounds i true) a w→K a)→K (a.put o.dst v)) (ho:ops[i]? = some o:=by rfl) (hi:i<n:=by decide) (hf:Region.free md ops listed i=true:=by kernel_rfl) (hr:(Region.ready md ops listed).contains i=true:=by kernel_rfl) (hg:Region.wanted o (yielded ops a.tmps)=true:=by rfl):heldT P md ops Q S n L (f+1) listed a w :=
 heldT_vale i ho hi hf hr hg hS h
end
section
variable {S:List K} {w0 w w' W:World} {L M:List (Value × List (Iv K))} {D T E U P:List (Iv K)} {da ta ea ua pa:Option Addr} {dc tc ec uc pc:Nat}
theorem MP.meqT (h:MP S w0 w L) (hD:(.slice da D.length dc,D)∈L) (hT:(.slice ta T.length tc,T)∈L) (hE:(.slice ea E.length ec,E)∈L) (hU:(.slice ua U.length uc,U)∈L) (h1:D=E) (h2:T=U) :
  Calls Tryz.prog 37 #[.agg #[.slice da D.length dc,.slice ta T.length tc],.agg #[.slice ea E.length ec,.slice ua U.length uc]] w (BoolPost S w0 L true):=by
 have:=h.meq hD hT hE hU
 rw [decide_eq_true h1,decide_eq_true h2] at this
 exact this
theorem MP.reqT (h:MP S w0 w L) (hD:(.slice da D.length dc,D)∈L) (hT:(.slice ta T.length tc,T)∈L) (hE:(.slice ea E.length ec,E)∈L) (hU:(.slice ua U.length uc,U)∈L) (h1:D=E) (h2:T=U) :
  Calls Tryz.prog 27 #[.agg #[.slice da D.length dc,.slice ta T.length tc],.agg #[.slice ea E.length ec,.slice ua U.length uc]] w (BoolPost S w0 L true):=by
 have:=h.req hD hT hE hU
 rw [decide_eq_true h1,decide_eq_true h2] at this
 exact this
theorem MP.rconfT (h:MP S w0 w L) (hD:(.slice da D.length dc,D)∈L) (hT:(.slice ta T.length tc,T)∈L) (hE:(.slice ea E.length ec,E)∈L) (hU:(.slice ua U.length uc,U)∈L) {b:Bool} (hb:(clash T E U || clash' D T U)=b) :
  Calls Tryz.prog 47 #[.agg #[.slice da D.length dc,.slice ta T.length tc],.agg #[.slice ea E.length ec,.slice ua U.length uc]] w (BoolPost S w0 L b):=by
 subst hb
 exact h.rconf hD hT hE hU
theorem parts_no:clash (combK 2 T (combK 2 D P)) (combK 2 D (combK 3 D P)) (combK 2 T (combK 2 D (combK 3 D P)))=false:=by
 unfold clash
 rw [mb_parts0]
 simp
theorem parts_no':clash' (combK 2 D P) (combK 2 T (combK 2 D P)) (combK 2 T (combK 2 D (combK 3 D P)))=false:=by
 unfold clash'
 rw [mb_parts1]
 simp
end
theorem movingboolJoins_c (w:World) (v0 v1 v2:Value) (m0:MovArg w v0) (m1:MovArg w v1) (m2:SpArg w v2):Calls Tryz.prog 10 #[v0,v1,v2] w fun e w'=>e = .returned (.bool true)∧Keep [] w w':=by
 obtain⟨l0,q0,D0,T0,c0⟩:=movC_of m0
 obtain⟨l1,q1,D1,T1,c1⟩:=movC_of m1
 obtain⟨l2,q2,P2,c2⟩:=perC_of m2
 have hS:(l0++l1++l2).length≤1000:=by simp only [List.length_append];omega
 have C0:=c0 (l0++l1++l2) (by simp +contextual)
 have C1:=c1 (l0++l1++l2) (by simp +contextual)
 have C2:=c2 (l0++l1++l2) (by simp +contextual)
 generalize l0++l1++l2=S at *
 obtain⟨ao0,an0,ac0,bo0,bn0,bc0,rfl⟩:=C0.form
 have nD0:=C0.nD
 have nT0:=C0.nT
 have sT0:=C0.sub
 obtain⟨ao1,an1,ac1,bo1,bn1,bc1,rfl⟩:=C1.form
 have nD1:=C1.nD
 have nT1:=C1.nT
 have sT1:=C1.sub
 obtain⟨ao2,an2,ac2,rfl⟩:=C2.form
 have nP2:=C2.nP
 have HC0:=jX C0
 have HC1:=jX C1
 have HC2:=jX C2
 clear m0 q0 c0 C0 m1 q1 c1 C1 m2 q2 c2 C2 l0 l1 l2
 have E1:=jX (mb_joinT sT0 sT1)
 have E2:=jX (mb_partsD (P:=P2) nD0)
 have E3:=jX (mb_partsT (P:=P2) nT0 sT0)
 go_enter Tryz.func10,Tryz.ntmps10
 go_upto_region 1 with (fail)
 obtain⟨W,ga,gb,hW,ega,egb,bga,bgb,hga,hgb,hgW,hkW⟩:=al2 w (.cells #[.slice ao0 an0 ac0,.slice bo0 bn0 bc0] 24) (.cells #[.slice ao1 an1 ac1,.slice bo1 bn1 bc1] 24)
 rw [← hW]
 try rw [egb]
 try rw [ega]
 have Bga:=jX bga
 have Bgb:=jX bgb
 have HkW:=jX hkW
 clear hW hkW ega egb bga bgb
 have HM:=jX (MP.start hS W)
 have HK:=jX HkW.out
 clear hS HkW
 refine wp_region_heldN (S:=fun u=>Keep [] W u) 8 [(7,29),(8,29)] (fun _=>.cells #[.slice none 0 0,.slice none 0 0] 29) (by kernel_rfl) (by kernel_rfl) (by kernel_rfl) (fun t ht ev w o ho=>(by simp at ht;subst ht;exact al_bool ev w o ho)) (fun _ _ d _ _ h=>by cases d<;>exact h) (fun _ _ d _ _ h=>by cases d<;>exact h) (fun _ _ h k=>h.trans0 k) ?_
 simp only [List.map_cons,List.map_nil,unal,isAl,if_true,if_false,Bool.false_eq_true]
 have hS0:=Keep.drew [] W
 have HM:=jX (HM.out.move hS0).here
 generalize World.drew W=u at *
 refine' jN (v:=_) 0 hS0 (fun _ _ h k=>h.trans0 k) (fun w hw=>?hr10) (fun K hK=>?kr10)
 case hr10=>(have pga:=cell_of (hw.heap Bga.out (by simp));go_simp;try rfl)
 go_simp
 refine hK _ ?_
 clear hK K
 refine' jN (v:=_) 2 hS0 (fun _ _ h k=>h.trans0 k) (fun w hw=>?hr12) (fun K hK=>?kr12)
 case hr12=>(have pgb:=cell_of (hw.heap Bgb.out (by simp));go_simp;try rfl)
 go_simp
 refine hK _ ?_
 clear hK K
 refine' jN (v:=_) 4 hS0 (fun _ _ h k=>h.trans0 k) (fun w hw=>?hr14) (fun K hK=>?kr14)
 case hr14=>(go_simp;try rfl)
 go_simp
 refine hK _ ?_
 clear hK K
 refine' jN (v:=_) 6 hS0 (fun _ _ h k=>h.trans0 k) (fun w hw=>?hr16) (fun K hK=>?kr16)
 case hr16=>(go_simp;try rfl)
 go_simp
 refine hK _ ?_
 clear hK K
 refine' jN (v:=_) 7 hS0 (fun _ _ h k=>h.trans0 k) (fun w hw=>?hr17) (fun K hK=>?kr17)
 case hr17=>(go_simp;try rfl)
 go_simp
 refine hK _ ?_
 clear hK K
 refine jM 1 (fun u hu K hK=>?_)
 have HM:=jX (HM.out.move hu).here
 have hS0:=hS0.trans0 hu
 clear hu
 refine wp_enter 15 #[.agg #[.slice ao0 an0 ac0,.slice bo0 bn0 bc0]] (by go_simp) ?_
 refine (HC0.out.call _ _ _ (HK.out.trans0 hS0) HM.out).mono ?_
 rintro e w1 ⟨da_w1,dc_w1,ta_w1,tc_w1,rfl,hm_w1⟩
 have hk:=hm_w1.keep
 have HM:=jX hm_w1.here
 clear hm_w1
 have hS0:=hS0.trans0 hk
 refine ⟨_,rfl,?_⟩
 go_simp
 refine hK _ _ hS0 hk ?_
 clear hK K hk
 refine jM 3 (fun u hu K hK=>?_)
 have HM:=jX (HM.out.move hu).here
 have hS0:=hS0.trans0 hu
 clear hu
 refine wp_enter 15 #[.agg #[.slice ao1 an1 ac1,.slice bo1 bn1 bc1]] (by go_simp) ?_
 refine (HC1.out.call _ _ _ (HK.out.trans0 hS0) HM.out).mono ?_
 rintro e w2 ⟨da_w2,dc_w2,ta_w2,tc_w2,rfl,hm_w2⟩
 have hk:=hm_w2.keep
 have HM:=jX hm_w2.here
 clear hm_w2
 have hS0:=hS0.trans0 hk
 refine ⟨_,rfl,?_⟩
 go_simp
 refine hK _ _ hS0 hk ?_
 clear hK K hk
 refine jM 5 (fun u hu K hK=>?_)
 have HM:=jX (HM.out.move hu).here
 have hS0:=hS0.trans0 hu
 clear hu
 refine wp_enter 45 #[.slice ao2 an2 ac2] (by go_simp) ?_
 refine (HC2.out.call _ _ _ (HK.out.trans0 hS0) HM.out).mono ?_
 rintro e w3 ⟨vo_w3,vc_w3,rfl,hm_w3⟩
 have hk:=hm_w3.keep
 have HM:=jX hm_w3.here
 clear hm_w3
 have hS0:=hS0.trans0 hk
 refine ⟨_,rfl,?_⟩
 go_simp
 refine hK _ _ hS0 hk ?_
 clear hK K hk
 intro w4 hu
 have HM:=jX (HM.out.move hu).here
 have hS0:=hS0.trans0 hu
 clear hu
 refine ⟨by kernel_rfl,fun p hp1 hp2 _ hz=>?_⟩
 simp only [List.map_cons,List.map_nil,pl,List.drop_succ_cons,List.drop_zero]
 have b7:=hz (7,29) (by simp)
 have h7:=hp1 7 (by simp)
 have b8:=hz (8,29) (by simp)
 have h8:=hp1 8 (by simp)
 have n7_8:p 7≠p 8:=fun h=>absurd (hp2 7 (by simp) 8 (by simp) h) (by decide)
 dsimp only at b7 b8
 generalize p 7=g7 at *
 generalize p 8=g8 at *
 clear hz hp1 hp2 p
 have HM:=jX (HM.out.re hS0)
 clear hS0
 go_simp
 refine wpList_rowK (by rfl) _ _ _ rfl g7 (#[.slice da_w1 D0.length dc_w1,.slice ta_w1 T0.length tc_w1]) rfl rfl _ _ b7 (by exact b_size) (by rfl) (b_one _ _ _ _ _ _) (fun K hK=>?_)
 have o7:=b7
 clear b7
 obtain⟨w5,e7,b7,k7⟩:=setRow_at (cs:=#[.slice da_w1 D0.length dc_w1,.slice ta_w1 T0.length tc_w1]) o7
 rw [e7]
 go_simp
 refine hK _ _ ?_
 clear hK K e7
 have b8:=k7.heap b8 (by simp [n7_8,n7_8.symm])
 have HM:=jX (HM.out.put o7 (by simp) k7 h7)
 clear k7 o7
 refine wpList_rowK (by rfl) _ _ _ rfl g8 (#[.slice da_w2 D1.length dc_w2,.slice ta_w2 T1.length tc_w2]) rfl rfl _ _ b8 (by exact b_size) (by rfl) (b_one _ _ _ _ _ _) (fun K hK=>?_)
 have o8:=b8
 clear b8
 obtain⟨w6,e8,b8,k8⟩:=setRow_at (cs:=#[.slice da_w2 D1.length dc_w2,.slice ta_w2 T1.length tc_w2]) o8
 rw [e8]
 go_simp
 refine hK _ _ ?_
 clear hK K e8
 have b7:=k8.heap b7 (by simp [n7_8,n7_8.symm])
 have HM:=jX (HM.out.put o8 (by simp) k8 h8)
 clear k8 o8
 have hk:=HM.out.keep
 have HM:=jX HM.out.here
 have HK:=jX (HK.out.trans0 hk)
 have Bg7:=jX b7
 have Bg8:=jX b8
 clear hk b7 h7 b8 h8 n7_8
 clear Bga Bgb HC0 HC1 HC2
 cases hc:(clash T0 D1 T1 || clash' D0 T0 T1)
 ·have hc1:=jX ((Bool.or_eq_false_iff.1 hc).1)
  have hc2:=jX ((Bool.or_eq_false_iff.1 hc).2)
  have Hc:=jX hc
  clear hc
  have pg7:=cell_of Bg7.out
  have pg8:=cell_of Bg8.out
  go_wp2_with fail
  refine (HM.out.mjoin_ok (ma 3 rfl) (ma 4 rfl) (ma 1 rfl) (ma 2 rfl) hc1.out hc2.out).mono ?_
  rintro e w7 ⟨da_w7,dc_w7,ta_w7,tc_w7,rfl,hm⟩
  dsimp only
  clear pg7
  clear pg8
  have hk:=hm.keep
  have HM:=jX hm.here
  have HK:=jX (HK.out.trans0 hk)
  have Bg7:=jX (hk.heap Bg7.out (by simp))
  have Bg8:=jX (hk.heap Bg8.out (by simp))
  clear hm hk
  have pg7:=cell_of Bg7.out
  have pg8:=cell_of Bg8.out
  go_upto_region 3 with (fail)
  clear pg7
  clear pg8
  obtain⟨w8,g10,e2,e3,b2,h2,_,hk⟩:=al1 w7 (.cells #[.slice da_w7 (combK 1 D0 D1).length dc_w7,.slice ta_w7 (combK 1 T0 T1).length tc_w7] 29)
  rw [← e2,e3]
  clear e2 e3
  have HM:=jX (HM.out.move hk).here
  have HK:=jX (HK.out.trans0 hk)
  have Bg7:=jX (hk.heap Bg7.out (by simp))
  have Bg8:=jX (hk.heap Bg8.out (by simp))
  have Bg10:=jX b2
  clear b2 h2 hk
  have pg7:=cell_of Bg7.out
  have pg8:=cell_of Bg8.out
  have pg10:=cell_of Bg10.out
  go_wp2_with fail
  refine (known12_c _).mono ?_
  rintro e w9 ⟨rfl,hm⟩
  have hm:=HM.out.here.move hm
  dsimp only
  clear pg7
  clear pg8
  clear pg10
  have hk:=hm.keep
  have HM:=jX hm.here
  have HK:=jX (HK.out.trans0 hk)
  have Bg7:=jX (hk.heap Bg7.out (by simp))
  have Bg8:=jX (hk.heap Bg8.out (by simp))
  have Bg10:=jX (hk.heap Bg10.out (by simp))
  clear hm hk
  have pg7:=cell_of Bg7.out
  have pg8:=cell_of Bg8.out
  have pg10:=cell_of Bg10.out
  go_wp2_with fail
  refine (HM.out.rconfT (ma 5 rfl) (ma 6 rfl) (ma 3 rfl) (ma 4 rfl) Hc.out).mono ?_
  rintro e w10 ⟨rfl,hm⟩
  dsimp only
  clear pg7
  clear pg8
  clear pg10
  have hk:=hm.keep
  have HM:=jX hm.here
  have HK:=jX (HK.out.trans0 hk)
  have Bg7:=jX (hk.heap Bg7.out (by simp))
  have Bg8:=jX (hk.heap Bg8.out (by simp))
  have Bg10:=jX (hk.heap Bg10.out (by simp))
  clear hm hk
  have pg7:=cell_of Bg7.out
  have pg8:=cell_of Bg8.out
  have pg10:=cell_of Bg10.out
  go_upto_region 5 with (fail)
  clear pg7
  clear pg8
  clear pg10
  refine wp_region_heldT (S:=fun u=>Keep [] w10 u) 27 (by kernel_rfl) (by kernel_rfl) (fun _ _ d _ _ h=>by cases d<;>exact h) ?_
  have hS0:=Keep.drew [] w10
  have HM:=jX (HM.out.move hS0).here
  generalize World.drew w10=u at *
  refine jE 0 hS0 ?_
  refine ⟨?_,fun w hw=>?_,fun K hK=>?_⟩
  rotate_left
  (go_simp;try rfl)
  go_simp
  refine hK _ ?_
  clear hK K
  refine jE 1 hS0 ?_
  refine ⟨?_,fun w hw=>?_,fun K hK=>?_⟩
  rotate_left
  (go_simp;try rfl)
  go_simp
  refine hK _ ?_
  clear hK K
  refine jE 2 hS0 ?_
  refine ⟨?_,fun w hw=>?_,fun K hK=>?_⟩
  rotate_left
  (go_simp;try rfl)
  go_simp
  refine hK _ ?_
  clear hK K
  refine jE 3 hS0 ?_
  refine ⟨?_,fun w hw=>?_,fun K hK=>?_⟩
  rotate_left
  (have pg10:=cell_of (hw.heap Bg10.out (by simp));go_simp;try rfl)
  go_simp
  refine hK _ ?_
  clear hK K
  refine jE 4 hS0 ?_
  refine ⟨?_,fun w hw=>?_,fun K hK=>?_⟩
  rotate_left
  (have pg7:=cell_of (hw.heap Bg7.out (by simp));go_simp;try rfl)
  go_simp
  refine hK _ ?_
  clear hK K
  refine jE 5 hS0 ?_
  refine ⟨?_,fun w hw=>?_,fun K hK=>?_⟩
  rotate_left
  (have pg8:=cell_of (hw.heap Bg8.out (by simp));go_simp;try rfl)
  go_simp
  refine hK _ ?_
  clear hK K
  refine jP 6 (fun K hK=>?_)
  refine wp_enter 48 #[.agg #[.slice da_w1 D0.length dc_w1,.slice ta_w1 T0.length tc_w1],.agg #[.slice da_w2 D1.length dc_w2,.slice ta_w2 T1.length tc_w2]] (by go_simp) ?_
  refine (HM.out.rjoin (ma 5 rfl) (ma 6 rfl) (ma 3 rfl) (ma 4 rfl)).mono ?_
  rintro e w11 ⟨da_w11,dc_w11,ta_w11,tc_w11,rfl,hm_w11⟩
  have hk:=hm_w11.keep
  have HM:=jX hm_w11.here
  clear hm_w11
  have hS0:=hS0.trans0 hk
  refine ⟨_,rfl,?_⟩
  go_simp
  refine hK _ _ hS0 ?_
  clear hK K hk
  refine jP 7 (fun K hK=>?_)
  refine wp_enter 27 #[.agg #[.slice da_w7 (combK 1 D0 D1).length dc_w7,.slice ta_w7 (combK 1 T0 T1).length tc_w7],.agg #[.slice da_w11 (combK 1 D0 D1).length dc_w11,.slice ta_w11 (combK 2 (combK 1 T0 T1) (combK 1 D0 D1)).length tc_w11]] (by go_simp) ?_
  refine (HM.out.reqT (ma 2 rfl) (ma 3 rfl) (ma 0 rfl) (ma 1 rfl) rfl E1.out.symm).mono ?_
  rintro e w12 ⟨rfl,hm_w12⟩
  have hk:=hm_w12.keep
  have HM:=jX hm_w12.here
  clear hm_w12
  have hS0:=hS0.trans0 hk
  refine ⟨_,rfl,?_⟩
  go_simp
  refine hK _ _ hS0 ?_
  clear hK K hk
  refine jE 8 hS0 ?_
  refine ⟨?_,fun w hw=>?_,fun K hK=>?_⟩
  rotate_left
  (go_simp;try rfl)
  go_simp
  refine hK _ ?_
  clear hK K
  refine jE 9 hS0 ?_
  refine ⟨?_,fun w hw=>?_,fun K hK=>?_⟩
  rotate_left
  (go_simp;try rfl)
  go_simp
  refine hK _ ?_
  clear hK K
  refine jE 10 hS0 ?_
  refine ⟨?_,fun w hw=>?_,fun K hK=>?_⟩
  rotate_left
  (go_simp;try rfl)
  go_simp
  refine hK _ ?_
  clear hK K
  refine jE 11 hS0 ?_
  refine ⟨?_,fun w hw=>?_,fun K hK=>?_⟩
  rotate_left
  (go_simp;try rfl)
  go_simp
  refine hK _ ?_
  clear hK K
  refine jE 12 hS0 ?_
  refine ⟨?_,fun w hw=>?_,fun K hK=>?_⟩
  rotate_left
  (go_simp;try rfl)
  go_simp
  refine hK _ ?_
  clear hK K
  refine jE 13 hS0 ?_
  refine ⟨?_,fun w hw=>?_,fun K hK=>?_⟩
  rotate_left
  (go_simp;try rfl)
  go_simp
  refine hK _ ?_
  clear hK K
  refine jS 14 hS0 (fun K hK=>?_)
  go_simp
  refine hK _ ?_
  clear hK K
  refine jS 15 hS0 (fun K hK=>?_)
  go_simp
  refine hK _ ?_
  clear hK K
  refine jS 16 hS0 (fun K hK=>?_)
  go_simp
  refine hK _ ?_
  clear hK K
  refine jS 17 hS0 (fun K hK=>?_)
  go_simp
  refine hK _ ?_
  clear hK K
  refine jS 18 hS0 (fun K hK=>?_)
  go_simp
  refine hK _ ?_
  clear hK K
  refine jS 19 hS0 (fun K hK=>?_)
  go_simp
  refine hK _ ?_
  clear hK K
  refine jS 20 hS0 (fun K hK=>?_)
  go_simp
  refine hK _ ?_
  clear hK K
  refine jS 21 hS0 (fun K hK=>?_)
  go_simp
  refine hK _ ?_
  clear hK K
  refine jS 22 hS0 (fun K hK=>?_)
  go_simp
  refine hK _ ?_
  clear hK K
  refine jS 23 hS0 (fun K hK=>?_)
  go_simp
  refine hK _ ?_
  clear hK K
  refine jS 24 hS0 (fun K hK=>?_)
  go_simp
  refine hK _ ?_
  clear hK K
  refine jS 25 hS0 (fun K hK=>?_)
  go_simp
  refine hK _ ?_
  clear hK K
  refine jE 26 hS0 ?_
  refine ⟨?_,fun w hw=>?_,fun K hK=>?_⟩
  rotate_left
  (go_simp;try rfl)
  go_simp
  refine hK _ ?_
  clear hK K
  refine ⟨by kernel_rfl,?_⟩
  simp only [List.drop_succ_cons,List.drop_zero]
  have HK:=jX (HK.out.trans0 hS0)
  have Bg7:=jX (hS0.heap Bg7.out (by simp))
  have Bg8:=jX (hS0.heap Bg8.out (by simp))
  have Bg10:=jX (hS0.heap Bg10.out (by simp))
  clear hS0
  go_upto_region 7 with (fail)
  refine wp_region_heldN (S:=fun u=>Keep [] w12 u) 11 [(12,29),(13,29)] (fun _=>.cells #[.slice none 0 0,.slice none 0 0] 29) (by kernel_rfl) (by kernel_rfl) (by kernel_rfl) (fun t ht ev w o ho=>(by simp at ht;subst ht;exact al_bool ev w o ho)) (fun _ _ d _ _ h=>by cases d<;>exact h) (fun _ _ d _ _ h=>by cases d<;>exact h) (fun _ _ h k=>h.trans0 k) ?_
  simp only [List.map_cons,List.map_nil,unal,isAl,if_true,if_false,Bool.false_eq_true]
  have hS0:=Keep.drew [] w12
  have HM:=jX (HM.out.move hS0).here
  generalize World.drew w12=u at *
  refine' jN (v:=_) 0 hS0 (fun _ _ h k=>h.trans0 k) (fun w hw=>?hr7y0) (fun K hK=>?kr7y0)
  case hr7y0=>(have pg7:=cell_of (hw.heap Bg7.out (by simp));go_simp;try rfl)
  go_simp
  refine hK _ ?_
  clear hK K
  refine' jN (v:=_) 1 hS0 (fun _ _ h k=>h.trans0 k) (fun w hw=>?hr7y1) (fun K hK=>?kr7y1)
  case hr7y1=>(go_simp;try rfl)
  go_simp
  refine hK _ ?_
  clear hK K
  refine' jN (v:=_) 3 hS0 (fun _ _ h k=>h.trans0 k) (fun w hw=>?hr7y3) (fun K hK=>?kr7y3)
  case hr7y3=>(have pg7:=cell_of (hw.heap Bg7.out (by simp));go_simp;try rfl)
  go_simp
  refine hK _ ?_
  clear hK K
  refine' jN (v:=_) 4 hS0 (fun _ _ h k=>h.trans0 k) (fun w hw=>?hr7y4) (fun K hK=>?kr7y4)
  case hr7y4=>(go_simp;try rfl)
  go_simp
  refine hK _ ?_
  clear hK K
  refine' jN (v:=_) 5 hS0 (fun _ _ h k=>h.trans0 k) (fun w hw=>?hr7y5) (fun K hK=>?kr7y5)
  case hr7y5=>(have pg7:=cell_of (hw.heap Bg7.out (by simp));go_simp;try rfl)
  go_simp
  refine hK _ ?_
  clear hK K
  refine' jN (v:=_) 6 hS0 (fun _ _ h k=>h.trans0 k) (fun w hw=>?hr7y6) (fun K hK=>?kr7y6)
  case hr7y6=>(go_simp;try rfl)
  go_simp
  refine hK _ ?_
  clear hK K
  refine' jN (v:=_) 9 hS0 (fun _ _ h k=>h.trans0 k) (fun w hw=>?hr7y9) (fun K hK=>?kr7y9)
  case hr7y9=>(go_simp;try rfl)
  go_simp
  refine hK _ ?_
  clear hK K
  refine' jN (v:=_) 10 hS0 (fun _ _ h k=>h.trans0 k) (fun w hw=>?hr7y10) (fun K hK=>?kr7y10)
  case hr7y10=>(go_simp;try rfl)
  go_simp
  refine hK _ ?_
  clear hK K
  refine jM 2 (fun u hu K hK=>?_)
  have HM:=jX (HM.out.move hu).here
  have hS0:=hS0.trans0 hu
  clear hu
  refine wp_enter 49 #[.agg #[.slice da_w1 D0.length dc_w1,.slice ta_w1 T0.length tc_w1],.slice vo_w3 P2.length vc_w3] (by go_simp) ?_
  refine (HM.out.rrestrict (ma 7 rfl) (ma 8 rfl) (ma 4 rfl)).mono ?_
  rintro e w13 ⟨da_w13,dc_w13,ta_w13,tc_w13,rfl,hm_w13⟩
  have hk:=hm_w13.keep
  have HM:=jX hm_w13.here
  clear hm_w13
  have hS0:=hS0.trans0 hk
  refine ⟨_,rfl,?_⟩
  go_simp
  refine hK _ _ hS0 hk ?_
  clear hK K hk
  refine jM 7 (fun u hu K hK=>?_)
  have HM:=jX (HM.out.move hu).here
  have hS0:=hS0.trans0 hu
  clear hu
  refine wp_enter 50 #[.int .i64 3,.slice da_w1 D0.length dc_w1,.slice vo_w3 P2.length vc_w3] (by go_simp) ?_
  refine (HM.out.comb (op:=3) (by simp) (ma 9 rfl) (ma 6 rfl)).mono ?_
  rintro e w14 ⟨vo_w14,vc_w14,rfl,hm_w14⟩
  have hk:=hm_w14.keep
  have HM:=jX hm_w14.here
  clear hm_w14
  have hS0:=hS0.trans0 hk
  refine ⟨_,rfl,?_⟩
  go_simp
  refine hK _ _ hS0 hk ?_
  clear hK K hk
  refine jM 8 (fun u hu K hK=>?_)
  have HM:=jX (HM.out.move hu).here
  have hS0:=hS0.trans0 hu
  clear hu
  refine wp_enter 49 #[.agg #[.slice da_w1 D0.length dc_w1,.slice ta_w1 T0.length tc_w1],.slice vo_w14 (combK 3 D0 P2).length vc_w14] (by go_simp) ?_
  refine (HM.out.rrestrict (ma 10 rfl) (ma 11 rfl) (ma 0 rfl)).mono ?_
  rintro e w15 ⟨da_w15,dc_w15,ta_w15,tc_w15,rfl,hm_w15⟩
  have hk:=hm_w15.keep
  have HM:=jX hm_w15.here
  clear hm_w15
  have hS0:=hS0.trans0 hk
  refine ⟨_,rfl,?_⟩
  go_simp
  refine hK _ _ hS0 hk ?_
  clear hK K hk
  intro w16 hu
  have HM:=jX (HM.out.move hu).here
  have hS0:=hS0.trans0 hu
  clear hu
  refine ⟨by kernel_rfl,fun p hp1 hp2 _ hz=>?_⟩
  simp only [List.map_cons,List.map_nil,pl,List.drop_succ_cons,List.drop_zero]
  have b12:=hz (12,29) (by simp)
  have h12:=hp1 12 (by simp)
  have b13:=hz (13,29) (by simp)
  have h13:=hp1 13 (by simp)
  have n12_13:p 12≠p 13:=fun h=>absurd (hp2 12 (by simp) 13 (by simp) h) (by decide)
  dsimp only at b12 b13
  generalize p 12=g12 at *
  generalize p 13=g13 at *
  clear hz hp1 hp2 p
  have HM:=jX (HM.out.re hS0)
  clear hS0
  go_simp
  refine wpList_rowK (by rfl) _ _ _ rfl g12 (#[.slice da_w13 (combK 2 D0 P2).length dc_w13,.slice ta_w13 (combK 2 T0 (combK 2 D0 P2)).length tc_w13]) rfl rfl _ _ b12 (by exact b_size) (by rfl) (b_one _ _ _ _ _ _) (fun K hK=>?_)
  have o12:=b12
  clear b12
  obtain⟨w17,e12,b12,k12⟩:=setRow_at (cs:=#[.slice da_w13 (combK 2 D0 P2).length dc_w13,.slice ta_w13 (combK 2 T0 (combK 2 D0 P2)).length tc_w13]) o12
  rw [e12]
  go_simp
  refine hK _ _ ?_
  clear hK K e12
  have b13:=k12.heap b13 (by simp [n12_13,n12_13.symm])
  have HM:=jX (HM.out.put o12 (by simp) k12 h12)
  clear k12 o12
  refine wpList_rowK (by rfl) _ _ _ rfl g13 (#[.slice da_w15 (combK 2 D0 (combK 3 D0 P2)).length dc_w15,.slice ta_w15 (combK 2 T0 (combK 2 D0 (combK 3 D0 P2))).length tc_w15]) rfl rfl _ _ b13 (by exact b_size) (by rfl) (b_one _ _ _ _ _ _) (fun K hK=>?_)
  have o13:=b13
  clear b13
  obtain⟨w18,e13,b13,k13⟩:=setRow_at (cs:=#[.slice da_w15 (combK 2 D0 (combK 3 D0 P2)).length dc_w15,.slice ta_w15 (combK 2 T0 (combK 2 D0 (combK 3 D0 P2))).length tc_w15]) o13
  rw [e13]
  go_simp
  refine hK _ _ ?_
  clear hK K e13
  have b12:=k13.heap b12 (by simp [n12_13,n12_13.symm])
  have HM:=jX (HM.out.put o13 (by simp) k13 h13)
  clear k13 o13
  have hk:=HM.out.keep
  have HM:=jX HM.out.here
  have HK:=jX (HK.out.trans0 hk)
  have Bg7:=jX (hk.heap Bg7.out (by simp))
  have Bg8:=jX (hk.heap Bg8.out (by simp))
  have Bg10:=jX (hk.heap Bg10.out (by simp))
  have Bg12:=jX b12
  have Bg13:=jX b13
  clear hk b12 h12 b13 h13 n12_13
  have pg7:=cell_of Bg7.out
  have pg8:=cell_of Bg8.out
  have pg10:=cell_of Bg10.out
  have pg12:=cell_of Bg12.out
  have pg13:=cell_of Bg13.out
  go_wp2_with fail
  refine (HM.out.mjoin_ok (ma 3 rfl) (ma 4 rfl) (ma 0 rfl) (ma 1 rfl) parts_no parts_no').mono ?_
  rintro e w19 ⟨da_w19,dc_w19,ta_w19,tc_w19,rfl,hm⟩
  dsimp only
  clear pg7
  clear pg8
  clear pg10
  clear pg12
  clear pg13
  have hk:=hm.keep
  have HM:=jX hm.here
  have HK:=jX (HK.out.trans0 hk)
  have Bg7:=jX (hk.heap Bg7.out (by simp))
  have Bg8:=jX (hk.heap Bg8.out (by simp))
  have Bg10:=jX (hk.heap Bg10.out (by simp))
  have Bg12:=jX (hk.heap Bg12.out (by simp))
  have Bg13:=jX (hk.heap Bg13.out (by simp))
  clear hm hk
  have pg7:=cell_of Bg7.out
  have pg8:=cell_of Bg8.out
  have pg10:=cell_of Bg10.out
  have pg12:=cell_of Bg12.out
  have pg13:=cell_of Bg13.out
  go_upto_region 9 with (fail)
  clear pg7
  clear pg8
  clear pg10
  clear pg12
  clear pg13
  obtain⟨w20,g14,e2,e3,b2,h2,_,hk⟩:=al1 w19 (.cells #[.slice da_w19 (combK 1 (combK 2 D0 P2) (combK 2 D0 (combK 3 D0 P2))).length dc_w19,.slice ta_w19 (combK 1 (combK 2 T0 (combK 2 D0 P2)) (combK 2 T0 (combK 2 D0 (combK 3 D0 P2)))).length tc_w19] 29)
  rw [← e2,e3]
  clear e2 e3
  have HM:=jX (HM.out.move hk).here
  have HK:=jX (HK.out.trans0 hk)
  have Bg7:=jX (hk.heap Bg7.out (by simp))
  have Bg14:=jX b2
  clear b2 h2 hk
  have pg7:=cell_of Bg7.out
  have pg14:=cell_of Bg14.out
  go_wp2_with fail
  refine (HM.out.meqT (ma 0 rfl) (ma 1 rfl) (ma 14 rfl) (ma 15 rfl) E2.out E3.out).mono ?_
  rintro e wz ⟨rfl,hm⟩
  dsimp only
  have HK:=jX (HK.out.trans0 hm.keep)
  clear hm
  go_wp2_with fail
  go_ret
  exact ⟨rfl,HK.out⟩
 ·have hc1:=jX (Bool.or_eq_true_iff.1 hc)
  have Hc:=jX hc
  clear hc
  have pg7:=cell_of Bg7.out
  have pg8:=cell_of Bg8.out
  go_wp2_with fail
  refine (HM.out.mjoin_no (ma 3 rfl) (ma 4 rfl) (ma 1 rfl) (ma 2 rfl) hc1.out).mono ?_
  rintro e w7 ⟨rfl,hm⟩
  dsimp only
  clear pg7
  clear pg8
  have hk:=hm.keep
  have HM:=jX hm.here
  have HK:=jX (HK.out.trans0 hk)
  have Bg7:=jX (hk.heap Bg7.out (by simp))
  have Bg8:=jX (hk.heap Bg8.out (by simp))
  clear hm hk
  have pg7:=cell_of Bg7.out
  have pg8:=cell_of Bg8.out
  go_upto_region 3 with (fail)
  clear pg7
  clear pg8
  obtain⟨w8,g10,e2,e3,b2,h2,_,hk⟩:=al1 w7 (.cells #[.slice none 0 0,.slice none 0 0] 29)
  rw [← e2,e3]
  clear e2 e3
  have HM:=jX (HM.out.move hk).here
  have HK:=jX (HK.out.trans0 hk)
  have Bg7:=jX (hk.heap Bg7.out (by simp))
  have Bg8:=jX (hk.heap Bg8.out (by simp))
  have Bg10:=jX b2
  clear b2 h2 hk
  have pg7:=cell_of Bg7.out
  have pg8:=cell_of Bg8.out
  have pg10:=cell_of Bg10.out
  go_wp2_with fail
  refine (known12_c _).mono ?_
  rintro e w9 ⟨rfl,hm⟩
  have hm:=HM.out.here.move hm
  dsimp only
  clear pg7
  clear pg8
  clear pg10
  have hk:=hm.keep
  have HM:=jX hm.here
  have HK:=jX (HK.out.trans0 hk)
  have Bg7:=jX (hk.heap Bg7.out (by simp))
  have Bg8:=jX (hk.heap Bg8.out (by simp))
  have Bg10:=jX (hk.heap Bg10.out (by simp))
  clear hm hk
  have pg7:=cell_of Bg7.out
  have pg8:=cell_of Bg8.out
  have pg10:=cell_of Bg10.out
  go_wp2_with fail
  refine (HM.out.rconfT (ma 3 rfl) (ma 4 rfl) (ma 1 rfl) (ma 2 rfl) Hc.out).mono ?_
  rintro e w10 ⟨rfl,hm⟩
  dsimp only
  clear pg7
  clear pg8
  clear pg10
  have hk:=hm.keep
  have HM:=jX hm.here
  have HK:=jX (HK.out.trans0 hk)
  have Bg7:=jX (hk.heap Bg7.out (by simp))
  have Bg8:=jX (hk.heap Bg8.out (by simp))
  have Bg10:=jX (hk.heap Bg10.out (by simp))
  clear hm hk
  have pg7:=cell_of Bg7.out
  have pg8:=cell_of Bg8.out
  have pg10:=cell_of Bg10.out
  go_upto_region 5 with (fail)
  clear pg7
  clear pg8
  clear pg10
  refine wp_region_heldT (S:=fun u=>Keep [] w10 u) 27 (by kernel_rfl) (by kernel_rfl) (fun _ _ d _ _ h=>by cases d<;>exact h) ?_
  have hS0:=Keep.drew [] w10
  have HM:=jX (HM.out.move hS0).here
  generalize World.drew w10=u at *
  refine jE 0 hS0 ?_
  refine ⟨?_,fun w hw=>?_,fun K hK=>?_⟩
  rotate_left
  (go_simp;try rfl)
  go_simp
  refine hK _ ?_
  clear hK K
  refine jE 1 hS0 ?_
  refine ⟨?_,fun w hw=>?_,fun K hK=>?_⟩
  rotate_left
  (go_simp;try rfl)
  go_simp
  refine hK _ ?_
  clear hK K
  refine jE 2 hS0 ?_
  refine ⟨?_,fun w hw=>?_,fun K hK=>?_⟩
  rotate_left
  (go_simp;try rfl)
  go_simp
  refine hK _ ?_
  clear hK K
  refine jS 3 hS0 (fun K hK=>?_)
  go_simp
  refine hK _ ?_
  clear hK K
  refine jS 4 hS0 (fun K hK=>?_)
  go_simp
  refine hK _ ?_
  clear hK K
  refine jS 5 hS0 (fun K hK=>?_)
  go_simp
  refine hK _ ?_
  clear hK K
  refine jS 6 hS0 (fun K hK=>?_)
  go_simp
  refine hK _ ?_
  clear hK K
  refine jS 7 hS0 (fun K hK=>?_)
  go_simp
  refine hK _ ?_
  clear hK K
  refine jS 8 hS0 (fun K hK=>?_)
  go_simp
  refine hK _ ?_
  clear hK K
  refine jE 9 hS0 ?_
  refine ⟨?_,fun w hw=>?_,fun K hK=>?_⟩
  rotate_left
  (go_simp;try rfl)
  go_simp
  refine hK _ ?_
  clear hK K
  refine jE 10 hS0 ?_
  refine ⟨?_,fun w hw=>?_,fun K hK=>?_⟩
  rotate_left
  (go_simp;try rfl)
  go_simp
  refine hK _ ?_
  clear hK K
  refine jE 11 hS0 ?_
  refine ⟨?_,fun w hw=>?_,fun K hK=>?_⟩
  rotate_left
  (go_simp;try rfl)
  go_simp
  refine hK _ ?_
  clear hK K
  refine jE 12 hS0 ?_
  refine ⟨?_,fun w hw=>?_,fun K hK=>?_⟩
  rotate_left
  (go_simp;try rfl)
  go_simp
  refine hK _ ?_
  clear hK K
  refine jE 13 hS0 ?_
  refine ⟨?_,fun w hw=>?_,fun K hK=>?_⟩
  rotate_left
  (go_simp;try rfl)
  go_simp
  refine hK _ ?_
  clear hK K
  refine jE 14 hS0 ?_
  refine ⟨?_,fun w hw=>?_,fun K hK=>?_⟩
  rotate_left
  (go_simp;try rfl)
  go_simp
  refine hK _ ?_
  clear hK K
  refine jE 15 hS0 ?_
  refine ⟨?_,fun w hw=>?_,fun K hK=>?_⟩
  rotate_left
  (go_simp;try rfl)
  go_simp
  refine hK _ ?_
  clear hK K
  refine jE 16 hS0 ?_
  refine ⟨?_,fun w hw=>?_,fun K hK=>?_⟩
  rotate_left
  (go_simp;try rfl)
  go_simp
  refine hK _ ?_
  clear hK K
  refine jE 17 hS0 ?_
  refine ⟨?_,fun w hw=>?_,fun K hK=>?_⟩
  rotate_left
  (go_simp;try rfl)
  go_simp
  refine hK _ ?_
  clear hK K
  refine jE 18 hS0 ?_
  refine ⟨?_,fun w hw=>?_,fun K hK=>?_⟩
  rotate_left
  (have pg10:=cell_of (hw.heap Bg10.out (by simp));go_simp;try rfl)
  go_simp
  refine hK _ ?_
  clear hK K
  refine jE 19 hS0 ?_
  refine ⟨?_,fun w hw=>?_,fun K hK=>?_⟩
  rotate_left
  (go_simp;try rfl)
  go_simp
  refine hK _ ?_
  clear hK K
  refine jE 20 hS0 ?_
  refine ⟨?_,fun w hw=>?_,fun K hK=>?_⟩
  rotate_left
  (go_simp;try rfl)
  go_simp
  refine hK _ ?_
  clear hK K
  refine jE 21 hS0 ?_
  refine ⟨?_,fun w hw=>?_,fun K hK=>?_⟩
  rotate_left
  (have pg10:=cell_of (hw.heap Bg10.out (by simp));go_simp;try rfl)
  go_simp
  refine hK _ ?_
  clear hK K
  refine jE 22 hS0 ?_
  refine ⟨?_,fun w hw=>?_,fun K hK=>?_⟩
  rotate_left
  (go_simp;try rfl)
  go_simp
  refine hK _ ?_
  clear hK K
  refine jE 23 hS0 ?_
  refine ⟨?_,fun w hw=>?_,fun K hK=>?_⟩
  rotate_left
  (go_simp;try rfl)
  go_simp
  refine hK _ ?_
  clear hK K
  refine jE 24 hS0 ?_
  refine ⟨?_,fun w hw=>?_,fun K hK=>?_⟩
  rotate_left
  (go_simp;try rfl)
  go_simp
  refine hK _ ?_
  clear hK K
  refine jE 25 hS0 ?_
  refine ⟨?_,fun w hw=>?_,fun K hK=>?_⟩
  rotate_left
  (go_simp;try rfl)
  go_simp
  refine hK _ ?_
  clear hK K
  refine jE 26 hS0 ?_
  refine ⟨?_,fun w hw=>?_,fun K hK=>?_⟩
  rotate_left
  (go_simp;try rfl)
  go_simp
  refine hK _ ?_
  clear hK K
  generalize hu5:u=z5 at *
  clear hu5
  refine ⟨by kernel_rfl,?_⟩
  simp only [List.drop_succ_cons,List.drop_zero]
  have HK:=jX (HK.out.trans0 hS0)
  have Bg7:=jX (hS0.heap Bg7.out (by simp))
  have Bg8:=jX (hS0.heap Bg8.out (by simp))
  have Bg10:=jX (hS0.heap Bg10.out (by simp))
  clear hS0
  go_upto_region 7 with (fail)
  refine wp_region_heldN (S:=fun u=>Keep [] z5 u) 11 [(12,29),(13,29)] (fun _=>.cells #[.slice none 0 0,.slice none 0 0] 29) (by kernel_rfl) (by kernel_rfl) (by kernel_rfl) (fun t ht ev w o ho=>(by simp at ht;subst ht;exact al_bool ev w o ho)) (fun _ _ d _ _ h=>by cases d<;>exact h) (fun _ _ d _ _ h=>by cases d<;>exact h) (fun _ _ h k=>h.trans0 k) ?_
  simp only [List.map_cons,List.map_nil,unal,isAl,if_true,if_false,Bool.false_eq_true]
  have hS0:=Keep.drew [] z5
  have HM:=jX (HM.out.move hS0).here
  generalize World.drew z5=u at *
  refine' jN (v:=_) 0 hS0 (fun _ _ h k=>h.trans0 k) (fun w hw=>?hr7n0) (fun K hK=>?kr7n0)
  case hr7n0=>(have pg7:=cell_of (hw.heap Bg7.out (by simp));go_simp;try rfl)
  go_simp
  refine hK _ ?_
  clear hK K
  refine' jN (v:=_) 1 hS0 (fun _ _ h k=>h.trans0 k) (fun w hw=>?hr7n1) (fun K hK=>?kr7n1)
  case hr7n1=>(go_simp;try rfl)
  go_simp
  refine hK _ ?_
  clear hK K
  refine' jN (v:=_) 3 hS0 (fun _ _ h k=>h.trans0 k) (fun w hw=>?hr7n3) (fun K hK=>?kr7n3)
  case hr7n3=>(have pg7:=cell_of (hw.heap Bg7.out (by simp));go_simp;try rfl)
  go_simp
  refine hK _ ?_
  clear hK K
  refine' jN (v:=_) 4 hS0 (fun _ _ h k=>h.trans0 k) (fun w hw=>?hr7n4) (fun K hK=>?kr7n4)
  case hr7n4=>(go_simp;try rfl)
  go_simp
  refine hK _ ?_
  clear hK K
  refine' jN (v:=_) 5 hS0 (fun _ _ h k=>h.trans0 k) (fun w hw=>?hr7n5) (fun K hK=>?kr7n5)
  case hr7n5=>(have pg7:=cell_of (hw.heap Bg7.out (by simp));go_simp;try rfl)
  go_simp
  refine hK _ ?_
  clear hK K
  refine' jN (v:=_) 6 hS0 (fun _ _ h k=>h.trans0 k) (fun w hw=>?hr7n6) (fun K hK=>?kr7n6)
  case hr7n6=>(go_simp;try rfl)
  go_simp
  refine hK _ ?_
  clear hK K
  refine' jN (v:=_) 9 hS0 (fun _ _ h k=>h.trans0 k) (fun w hw=>?hr7n9) (fun K hK=>?kr7n9)
  case hr7n9=>(go_simp;try rfl)
  go_simp
  refine hK _ ?_
  clear hK K
  refine' jN (v:=_) 10 hS0 (fun _ _ h k=>h.trans0 k) (fun w hw=>?hr7n10) (fun K hK=>?kr7n10)
  case hr7n10=>(go_simp;try rfl)
  go_simp
  refine hK _ ?_
  clear hK K
  refine jM 2 (fun u hu K hK=>?_)
  have HM:=jX (HM.out.move hu).here
  have hS0:=hS0.trans0 hu
  clear hu
  refine wp_enter 49 #[.agg #[.slice da_w1 D0.length dc_w1,.slice ta_w1 T0.length tc_w1],.slice vo_w3 P2.length vc_w3] (by go_simp) ?_
  refine (HM.out.rrestrict (ma 3 rfl) (ma 4 rfl) (ma 0 rfl)).mono ?_
  rintro e w11 ⟨da_w11,dc_w11,ta_w11,tc_w11,rfl,hm_w11⟩
  have hk:=hm_w11.keep
  have HM:=jX hm_w11.here
  clear hm_w11
  have hS0:=hS0.trans0 hk
  refine ⟨_,rfl,?_⟩
  go_simp
  refine hK _ _ hS0 hk ?_
  clear hK K hk
  refine jM 7 (fun u hu K hK=>?_)
  have HM:=jX (HM.out.move hu).here
  have hS0:=hS0.trans0 hu
  clear hu
  refine wp_enter 50 #[.int .i64 3,.slice da_w1 D0.length dc_w1,.slice vo_w3 P2.length vc_w3] (by go_simp) ?_
  refine (HM.out.comb (op:=3) (by simp) (ma 5 rfl) (ma 2 rfl)).mono ?_
  rintro e w12 ⟨vo_w12,vc_w12,rfl,hm_w12⟩
  have hk:=hm_w12.keep
  have HM:=jX hm_w12.here
  clear hm_w12
  have hS0:=hS0.trans0 hk
  refine ⟨_,rfl,?_⟩
  go_simp
  refine hK _ _ hS0 hk ?_
  clear hK K hk
  refine jM 8 (fun u hu K hK=>?_)
  have HM:=jX (HM.out.move hu).here
  have hS0:=hS0.trans0 hu
  clear hu
  refine wp_enter 49 #[.agg #[.slice da_w1 D0.length dc_w1,.slice ta_w1 T0.length tc_w1],.slice vo_w12 (combK 3 D0 P2).length vc_w12] (by go_simp) ?_
  refine (HM.out.rrestrict (ma 6 rfl) (ma 7 rfl) (ma 0 rfl)).mono ?_
  rintro e w13 ⟨da_w13,dc_w13,ta_w13,tc_w13,rfl,hm_w13⟩
  have hk:=hm_w13.keep
  have HM:=jX hm_w13.here
  clear hm_w13
  have hS0:=hS0.trans0 hk
  refine ⟨_,rfl,?_⟩
  go_simp
  refine hK _ _ hS0 hk ?_
  clear hK K hk
  intro w14 hu
  have HM:=jX (HM.out.move hu).here
  have hS0:=hS0.trans0 hu
  clear hu
  refine ⟨by kernel_rfl,fun p hp1 hp2 _ hz=>?_⟩
  simp only [List.map_cons,List.map_nil,pl,List.drop_succ_cons,List.drop_zero]
  have b12:=hz (12,29) (by simp)
  have h12:=hp1 12 (by simp)
  have b13:=hz (13,29) (by simp)
  have h13:=hp1 13 (by simp)
  have n12_13:p 12≠p 13:=fun h=>absurd (hp2 12 (by simp) 13 (by simp) h) (by decide)
  dsimp only at b12 b13
  generalize p 12=g12 at *
  generalize p 13=g13 at *
  clear hz hp1 hp2 p
  have HM:=jX (HM.out.re hS0)
  clear hS0
  go_simp
  refine wpList_rowK (by rfl) _ _ _ rfl g12 (#[.slice da_w11 (combK 2 D0 P2).length dc_w11,.slice ta_w11 (combK 2 T0 (combK 2 D0 P2)).length tc_w11]) rfl rfl _ _ b12 (by exact b_size) (by rfl) (b_one _ _ _ _ _ _) (fun K hK=>?_)
  have o12:=b12
  clear b12
  obtain⟨w15,e12,b12,k12⟩:=setRow_at (cs:=#[.slice da_w11 (combK 2 D0 P2).length dc_w11,.slice ta_w11 (combK 2 T0 (combK 2 D0 P2)).length tc_w11]) o12
  rw [e12]
  go_simp
  refine hK _ _ ?_
  clear hK K e12
  have b13:=k12.heap b13 (by simp [n12_13,n12_13.symm])
  have HM:=jX (HM.out.put o12 (by simp) k12 h12)
  clear k12 o12
  refine wpList_rowK (by rfl) _ _ _ rfl g13 (#[.slice da_w13 (combK 2 D0 (combK 3 D0 P2)).length dc_w13,.slice ta_w13 (combK 2 T0 (combK 2 D0 (combK 3 D0 P2))).length tc_w13]) rfl rfl _ _ b13 (by exact b_size) (by rfl) (b_one _ _ _ _ _ _) (fun K hK=>?_)
  have o13:=b13
  clear b13
  obtain⟨w16,e13,b13,k13⟩:=setRow_at (cs:=#[.slice da_w13 (combK 2 D0 (combK 3 D0 P2)).length dc_w13,.slice ta_w13 (combK 2 T0 (combK 2 D0 (combK 3 D0 P2))).length tc_w13]) o13
  rw [e13]
  go_simp
  refine hK _ _ ?_
  clear hK K e13
  have b12:=k13.heap b12 (by simp [n12_13,n12_13.symm])
  have HM:=jX (HM.out.put o13 (by simp) k13 h13)
  clear k13 o13
  have hk:=HM.out.keep
  have HM:=jX HM.out.here
  have HK:=jX (HK.out.trans0 hk)
  have Bg7:=jX (hk.heap Bg7.out (by simp))
  have Bg8:=jX (hk.heap Bg8.out (by simp))
  have Bg10:=jX (hk.heap Bg10.out (by simp))
  have Bg12:=jX b12
  have Bg13:=jX b13
  clear hk b12 h12 b13 h13 n12_13
  have pg7:=cell_of Bg7.out
  have pg8:=cell_of Bg8.out
  have pg10:=cell_of Bg10.out
  have pg12:=cell_of Bg12.out
  have pg13:=cell_of Bg13.out
  go_wp2_with fail
  refine (HM.out.mjoin_ok (ma 3 rfl) (ma 4 rfl) (ma 0 rfl) (ma 1 rfl) parts_no parts_no').mono ?_
  rintro e w17 ⟨da_w17,dc_w17,ta_w17,tc_w17,rfl,hm⟩
  dsimp only
  clear pg7
  clear pg8
  clear pg10
  clear pg12
  clear pg13
  have hk:=hm.keep
  have HM:=jX hm.here
  have HK:=jX (HK.out.trans0 hk)
  have Bg7:=jX (hk.heap Bg7.out (by simp))
  have Bg8:=jX (hk.heap Bg8.out (by simp))
  have Bg10:=jX (hk.heap Bg10.out (by simp))
  have Bg12:=jX (hk.heap Bg12.out (by simp))
  have Bg13:=jX (hk.heap Bg13.out (by simp))
  clear hm hk
  have pg7:=cell_of Bg7.out
  have pg8:=cell_of Bg8.out
  have pg10:=cell_of Bg10.out
  have pg12:=cell_of Bg12.out
  have pg13:=cell_of Bg13.out
  go_upto_region 9 with (fail)
  clear pg7
  clear pg8
  clear pg10
  clear pg12
  clear pg13
  obtain⟨w18,g14,e2,e3,b2,h2,_,hk⟩:=al1 w17 (.cells #[.slice da_w17 (combK 1 (combK 2 D0 P2) (combK 2 D0 (combK 3 D0 P2))).length dc_w17,.slice ta_w17 (combK 1 (combK 2 T0 (combK 2 D0 P2)) (combK 2 T0 (combK 2 D0 (combK 3 D0 P2)))).length tc_w17] 29)
  rw [← e2,e3]
  clear e2 e3
  have HM:=jX (HM.out.move hk).here
  have HK:=jX (HK.out.trans0 hk)
  have Bg7:=jX (hk.heap Bg7.out (by simp))
  have Bg14:=jX b2
  clear b2 h2 hk
  have pg7:=cell_of Bg7.out
  have pg14:=cell_of Bg14.out
  go_wp2_with fail
  refine (HM.out.meqT (ma 0 rfl) (ma 1 rfl) (ma 10 rfl) (ma 11 rfl) E2.out E3.out).mono ?_
  rintro e wz ⟨rfl,hm⟩
  dsimp only
  have HK:=jX (HK.out.trans0 hm.keep)
  clear hm
  go_wp2_with fail
  go_ret
  exact ⟨rfl,HK.out⟩
end Go.Proofs.YtejegogbhpmgfaaGreatDoor
