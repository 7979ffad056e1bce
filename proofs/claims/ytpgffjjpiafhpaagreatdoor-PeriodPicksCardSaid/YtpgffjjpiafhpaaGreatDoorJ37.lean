/- Parts of a proof: Bi Bj Bk. -/
import Derived.Test.YtpgffjjpiafhpaaGreatDoorJ36
import Derived.Test.YtpgffjjpiafhpaaGreatDoorJ23
set_option linter.unusedVariables false
set_option linter.unusedSimpArgs false
set_option maxRecDepth 100000
set_option maxHeartbeats 8000000
namespace Go.Proofs.YtpgffjjpiafhpaaGreatDoor
open Go.RowKit Tryz
section
open Classical
theorem sg_neg {x:Qn} (hx:x.Ok):sg1 x.p x.u x.r<0↔Above1 0 x:=by
 unfold Above1;rw [show (0:Rat)-x.p = -x.p by grind]
 rcases ybt (a:=x.p) (b:=x.u) hx.nn with ⟨e,h⟩|⟨e,h⟩|⟨e,h1,h2,_⟩<;>rw [e]
 ·exact ⟨fun k=>absurd k (by decide),fun k=>(Pos.anti hx.nn h k).elim⟩
 ·exact ⟨fun _=>h,fun _=>by decide⟩
 exact ⟨fun k=>absurd k (by decide),fun k=>absurd k h2⟩
theorem yfv {x:Qn} (hx:x.Ok):0<sg1 x.p x.u x.r↔Below1 0 x:=by
 unfold Below1;rw [show x.p-0=x.p by grind]
 rcases ybt (a:=x.p) (b:=x.u) hx.nn with ⟨e,h⟩|⟨e,h⟩|⟨e,h1,h2,_⟩<;>rw [e]
 ·exact ⟨fun _=>h,fun _=>by decide⟩
 ·exact ⟨fun k=>absurd k (by decide),fun k=>(Pos.anti hx.nn k h).elim⟩
 exact ⟨fun k=>absurd k (by decide),fun k=>absurd k h1⟩
theorem yaX (q:Rat):Qn.Ok ⟨q,0,false⟩:=⟨Rat.le_refl,fun _=>rfl,fun h=>absurd rfl h⟩
theorem yed {q t:Rat}:Above1 t ⟨q,0,false⟩↔q<t:=by
 show Pos (t-q) _ 0↔_
 rw [ybd];grind
theorem ybJ {q t:Rat}:Below1 t ⟨q,0,false⟩↔t<q:=by
 show Pos (q-t) _ 0↔_
 rw [ybd];grind
theorem ybO {y:Qn} (hy:y.Ok) (q:Rat):0<cmpQ y ⟨q,0,false⟩↔Below1 q y:=by
 rcases ybF hy (yaX q) with ⟨e,t,h1,h2⟩|⟨e,t,h1,h2⟩|⟨e,h⟩<;>rw [e]
 ·rw [yed] at h1
  exact ⟨fun _=>h2.mono hy.nn (Rat.le_of_lt h1),fun _=>by decide⟩
 ·rw [ybJ] at h2
  refine ⟨fun k=>absurd k (by decide),fun k=>?_⟩;have:=ycg hy.nn k h1;grind
 refine ⟨fun k=>absurd k (by decide),fun k=>?_⟩;rw [h,ybJ] at k;grind
theorem yeG {k:Nat} {z:Int} (h:Fit k z) (hk:1≤k):FitQ k (z:Rat):=by
 refine ⟨h,?_⟩;have f1:Fit 1 1:=by rw [Fit_iff];decide
 exact f1.mono hk
theorem f1' {k:Nat} (hk:1≤k):Fit k 1:=by
 have f1:Fit 1 1:=by rw [Fit_iff];decide
 exact f1.mono hk
theorem le_sq {a:Int} (h:0≤a):a≤a*a:=by
 rcases Int.lt_or_le 0 a with h1|h1
 ·have:=Int.mul_le_mul_of_nonneg_left (a:=1) (b:=a) (c:=a) (by omega) h
  omega
 have:a=0:=by omega
 subst this;decide
theorem yeh (k:Nat) (hk:k≤90000) (hk1:1≤k) (M:Int) (hM:8*(M*M)<((256 ^ k:Nat):Int)):∀ (n p q:Nat) (x y:Qn) (H:Int),q≤n→Wit x y p q→Form H x→Form H y→H*(((p*q:Nat):Int)*((p*q:Nat):Int))≤M →
  ∀ w,Calls prog 132 #[.agg (qC x),.agg (qC y)] w fun e w'=>e = .returned (.agg (rC (simpF n x y)))∧Bl w w'
 | 0,p,q,x,y,H,hq,hW,_,_,_=>fun w=>by have:=hW.q0;omega
 | n+1,p,q,x,y,H,hq,hW,hX,hY,hS=>fun w=>by
  obtain⟨b,hb,hbq⟩:=hW.flr;have hq0:=hW.q0;have hH:=hX.pos;have hbp:b<p:=Nat.lt_of_le_of_lt (Nat.le_mul_of_pos_right b hq0) hbq
  -- sizes
  obtain⟨P,hP⟩:∃ P:Int,((p*q:Nat):Int)=P:=⟨_,rfl⟩;have hpP:(p:Int)≤P:=by rw [← hP];exact Int.ofNat_le.2 (Nat.le_mul_of_pos_right p hq0)
  have hqP:(q:Int)≤P:=by rw [← hP];exact Int.ofNat_le.2 (Nat.le_mul_of_pos_left q (by omega))
  rw [hP] at hS;have hPP:=le_sq (a:=P) (by omega)
  have h1:P*P≤H*(P*P):=by
   have:=Int.mul_le_mul_of_nonneg_right (a:=1) (b:=H) (c:=P*P) (by omega) (by omega);omega
  have h2:H≤H*(P*P):=by
   have:=Int.mul_le_mul_of_nonneg_left (a:=1) (b:=P*P) (c:=H) (by omega) (by omega);omega
  have hHM:H≤M:=by omega
  have hpM:(p:Int)≤M:=by omega
  have hqM:(q:Int)≤M:=by omega
  have hMM:=le_sq (a:=M) (by omega)
  have fitM:∀ z:Int,0≤z→z≤M→Fit k z:=fun z z0 zM=>by
   rw [Fit_iff];omega
  have fit:∀ (G:Int) (v:Qn),G≤M→Form G v→FitR k v:=fun G v hG hv=>hv.fit (by
   have hg:=hv.pos;have:=Int.mul_le_mul hG hG (by omega) (by omega)
   omega)
  have up:∀ {v:Qn} {m:Nat},FitR k v→90000≤m→FitR m v:=fun hv hm=>⟨hv.1.mono (by omega),hv.2.mono (by omega)⟩;have fX:=fit H x hHM hX;have fY:=fit H y hHM hY;have f1:Fit 8 1:=by rw [Fit_iff];decide
  have fz:Fit k x.flr:=fitM _ (by omega) (by omega);have fz1:Fit k (x.flr+1):=fitM _ (by omega) (by omega);have c1:¬ sg1 x.p x.u x.r<0:=fun h=>hW.nn ((sg_neg hW.xo).1 h)
  have hpq:0≤(p:Rat) / (q:Rat):=by
   refine Rat.le_of_lt ?_;rw [Rat.lt_div_iff (yaE hq0)];have:=yaE (a:=p) (by omega);grind
  have c2:¬ sg1 y.p y.u y.r≤0:=by
   have:=(yfv hW.yo).2 (hW.b.mono hW.yo.nn hpq);omega
  have H0:=jX (FromInt_c 1 (by decide) (by decide));have H1:=jX (RSign_c x (up fX (by decide)));have H2:=jX (RSign_c y (up fY (by decide)));have H3:=jX (Floor_p x hW.xo (up fX (by decide)));have H4:=jX (Add_c x.flr 1 (fz.mono (by omega)) (f1.mono (by decide)));have H5:=jX (Rwhole_c (x.flr+1) (fz1.mono (by omega)));have fnx:=yeG fz1 hk1;have H6:=jX (CmpRat_c y ((x.flr+1:Int):Rat) (up fY (by decide)) (fnx.mono (by omega)));by_cases hB:Below1 ((x.flr+1:Int):Rat) y
  ·have he : simpF (n + 1) x y = ((x.flr + 1 : Int) : Rat) := by
    unfold simpF;rw [if_pos hB]
   rw [he];exact simp_low x y x.flr _ _ _ _ H0 H1 H2 H3 H4 H5 H6 c1 c2 ((ybO hW.yo _).2 hB) w
  obtain⟨r,hp,hr0,hrq,hyo,hy0,hN,hA,hWn⟩:=hW.next hb hB;have hxo:=sh_ok hW.xo (-(x.flr:Rat));have c3:¬ 0<cmpQ y ⟨((x.flr+1:Int):Rat),0,false⟩:=fun h=>hB ((ybO hW.yo _).1 h);have hX2:Form (H*((1+(b:Int))*(1+b))) (x.sh (-(x.flr:Rat))):=by rw [hb];exact hX.sh
  have hY2:Form (H*((1+(b:Int))*(1+b))) (y.sh (-(x.flr:Rat))):=by rw [hb];exact hY.sh
  have hS2:H*((1+(b:Int))*(1+b))*(((q*r:Nat):Int)*((q*r:Nat):Int))≤M:=size_step (by omega) hp hr0 hrq (by rw [hP];exact hS);have hU:=hY2.inv hyo hy0;generalize H*((1+(b:Int))*(1+b))=G at *;have hG:=hX2.pos
  have hGM:G≤M:=by
   have g1:(1:Int)≤((q*r:Nat):Int):=by have:=Nat.mul_pos hq0 hr0;omega
   have g2:=le_sq (a:=((q*r:Nat):Int)) (by omega);have g3:=Int.mul_le_mul_of_nonneg_left (a:=1) (b:=((q*r:Nat):Int)*((q*r:Nat):Int)) (c:=G) (by omega) (by omega);omega
  have fX2:=fit G _ hGM hX2;have fY2:=fit G _ hGM hY2;have fU:=fit G _ hGM hU;have hUo:=yem hyo;have fzq:=yeG fz hk1;have fzn:FitQ k (-(x.flr:Rat)):=fzq.neg
  -- the integer below the reciprocal
  obtain⟨g1,g2⟩:=yiM hUo
  have e0:0≤(y.sh (-(x.flr:Rat))).inv.flr:=by
   by_cases e0:0≤(y.sh (-(x.flr:Rat))).inv.flr
   ·exact e0
   exfalso;exact hN (g2.mono hUo.nn ((yaY (b:=0)).2 (by omega)))
  have e1:(y.sh (-(x.flr:Rat))).inv.flr<q:=by
   obtain⟨e,he⟩:=Int.eq_ofNat_of_zero_le e0;rw [he] at g1 ⊢;rw [Rat.intCast_natCast] at g1;have h5:=ycT hUo g1 hA;rw [Rat.lt_div_iff (yaE hr0),← Rat.natCast_mul,ydC] at h5;have:=Nat.le_mul_of_pos_right e hr0;omega
  have fu:Fit k (y.sh (-(x.flr:Rat))).inv.flr:=fitM _ e0 (by omega);have fu1:Fit k ((y.sh (-(x.flr:Rat))).inv.flr+1):=fitM _ (by omega) (by omega);have H7:=jX (Rwhole_c x.flr (fz.mono (by omega)));have H8:=jX (QNeg_c (x.flr:Rat));have H9:=jX (Shift_c x (-(x.flr:Rat)) (fX.1.mono (by omega)) (fzn.mono (by omega)));have HA:=jX (Shift_c y (-(x.flr:Rat)) (fY.1.mono (by omega)) (fzn.mono (by omega)))
  have hsy:sg1 (y.sh (-(x.flr:Rat))).p (y.sh (-(x.flr:Rat))).u (y.sh (-(x.flr:Rat))).r≠0:=by
   have:=(yfv hyo).2 hy0;omega
  have HBi:=jX (Rinv_c (y.sh (-(x.flr:Rat))) hyo (up fY2 (by decide)) hsy);have HC:=jX (QFromInt_c 1 (by decide) (by decide));have HD:=jX (Floor_p (y.sh (-(x.flr:Rat))).inv hUo (up fU (by decide)));have HE:=jX (Add_c (y.sh (-(x.flr:Rat))).inv.flr 1 (fu.mono (by omega)) (f1.mono (by decide)));have HF:=jX (Rwhole_c ((y.sh (-(x.flr:Rat))).inv.flr+1) (fu1.mono (by omega)));have HG:=jX (RSign_c (x.sh (-(x.flr:Rat))) (up fX2 (by decide)));have f1q:FitQ k (1:Rat):=yeG (z:=1) (f1' hk1) hk1;by_cases h0:Below1 0 (x.sh (-(x.flr:Rat)))
  ·have c4:=(yfv hxo).2 h0
   have hw:=hWn h0;have hV:=hX2.inv hxo h0;obtain⟨_,_,a,c,ha,hc,hs,haq,hcr⟩:=simpF_ok n q r _ _ (by omega) hw
   have fi:FitQ k (simpF n (y.sh (-(x.flr:Rat))).inv (x.sh (-(x.flr:Rat))).inv):=by
    refine yhl (a:=(a:Int)) (b:=(c:Int)) (by omega) ?_ (fitM _ (by omega) (by omega)) (fitM _ (by omega) (by omega));have hc':=yaE hc;rw [hs,Rat.intCast_natCast,Rat.intCast_natCast];exact Rat.div_mul_cancel (by grind)
   have ne:simpF n (y.sh (-(x.flr:Rat))).inv (x.sh (-(x.flr:Rat))).inv≠0:=by
    have:0<simpF n (y.sh (-(x.flr:Rat))).inv (x.sh (-(x.flr:Rat))).inv:=by
     rw [hs,Rat.lt_div_iff (yaE hc)];have:=yaE ha;grind
    grind
   have hsx:sg1 (x.sh (-(x.flr:Rat))).p (x.sh (-(x.flr:Rat))).u (x.sh (-(x.flr:Rat))).r≠0:=by omega
   have HH:=jX (Rinv_c (x.sh (-(x.flr:Rat))) hxo (up fX2 (by decide)) hsx);have HI:=jX (yeh k hk hk1 M hM n q r _ _ G (by omega) hw hU hV hS2);have HJ:=jX (Rquot_c 1 _ (f1q.mono (by omega)) (fi.mono (by omega)) ne);have HK:=jX (QSub_c (1 / simpF n (y.sh (-(x.flr:Rat))).inv (x.sh (-(x.flr:Rat))).inv) (-(x.flr:Rat)) ((FitQ.div f1q fi ne).mono (by omega)) (fzn.mono (by omega)))
   have he:simpF (n+1) x y=1 / simpF n (y.sh (-(x.flr:Rat))).inv (x.sh (-(x.flr:Rat))).inv - -(x.flr:Rat):=by
    rw [show simpF (n+1) x y=1 / simpF n (y.sh (-(x.flr:Rat))).inv (x.sh (-(x.flr:Rat))).inv+(x.flr:Rat) by
     conv=>lhs;unfold simpF
     rw [if_neg hB,if_pos h0]]
    grind
   rw [he];exact simp_mh x y _ _ _ _ x.flr _ _ _ _ _ _ _ _ _ _ _ _ _ H0 H1 H2 H3 H4 H5 H6 H7 H8 H9 HA HBi HC HD HE HF HG (fun _=>HH) (fun _=>HI) HJ HK c1 c2 c3 (fun _=>rfl) (fun h=>absurd c4 h) w
  have c4:¬ 0<sg1 (x.sh (-(x.flr:Rat))).p (x.sh (-(x.flr:Rat))).u (x.sh (-(x.flr:Rat))).r:=fun h=>h0 ((yfv hxo).1 h);have fi:=yeG fu1 hk1
  have ne:(((y.sh (-(x.flr:Rat))).inv.flr+1:Int):Rat)≠0:=fun h=>by
   have:=Rat.intCast_inj.1 (h.trans (show (0:Rat)=((0:Int):Rat) from rfl))
   omega
  have HJ:=jX (Rquot_c 1 _ (f1q.mono (by omega)) (fi.mono (by omega)) ne);have HK:=jX (QSub_c (1 / (((y.sh (-(x.flr:Rat))).inv.flr+1:Int):Rat)) (-(x.flr:Rat)) ((FitQ.div f1q fi ne).mono (by omega)) (fzn.mono (by omega)))
  have he:simpF (n+1) x y=1 / (((y.sh (-(x.flr:Rat))).inv.flr+1:Int):Rat) - -(x.flr:Rat):=by
   rw [show simpF (n+1) x y=1 / (((y.sh (-(x.flr:Rat))).inv.flr+1:Int):Rat)+(x.flr:Rat) by
    conv=>lhs;unfold simpF
    rw [if_neg hB,if_neg h0]]
   grind
  rw [he];exact simp_mh x y _ _ _ x x.flr _ _ _ _ _ 0 _ _ _ _ _ _ _ H0 H1 H2 H3 H4 H5 H6 H7 H8 H9 HA HBi HC HD HE HF HG (fun h=>absurd h c4) (fun h=>absurd h c4) HJ HK c1 c2 c3 (fun h=>absurd h c4) (fun _=>rfl) w
end
section
open Classical
theorem simp_zero (x y:Qn) (n1 n2:Int)
  (H1:Hid (∀ w,Calls prog 170 #[.agg (qC x)] w fun e w'=>e = .returned (.int .i64 n1)∧Keep [] w w'))
  (H2:Hid (∀ w,Calls prog 170 #[.agg (qC y)] w fun e w'=>e = .returned (.int .i64 n2)∧Keep [] w w'))
  (c1:n1<0) (c2:0<n2) (w:World):Calls prog 132 #[.agg (qC x),.agg (qC y)] w fun e w'=>e = .returned (.agg (rC 0))∧Bl w w':=by
 have LX:=Bx.mk (fun (u:World) (g:Nat)=>ld_x (w:=u) (g:=g) (x:=x) (t:=30));have SXx:=Bx.mk (show (qC (x)).size=9∧(qC (x)).all (·.oneCell')=true from ⟨rfl,yaT _⟩)
 have LY:=Bx.mk (fun (u:World) (g:Nat)=>ld_x (w:=u) (g:=g) (x:=y) (t:=30));have SYy:=Bx.mk (show (qC (y)).size=9∧(qC (y)).all (·.oneCell')=true from ⟨rfl,yaT _⟩)
 have LQ0:=True.intro;replace H1:=Bx.mk H1.out;replace H2:=Bx.mk H2.out;generalize qC (x)=X at *;generalize qC (y)=Y at *;clear LQ0;have LZ:=Bx.mk (fun (u:World) (g:Nat)=>ld_q (w:=u) (g:=g) (q:=0) (t:=28));rw [rC_zero] at LZ ⊢;go_enter func132,ntmps132
 go_upto_region 1 with (fail)
 obtain⟨W,ga,gb,gc,hW,ega,egb,egc,Bga,Bgb,Bgc,hga,hgb,hgc,hgW,HkW⟩:=al3h w (.cells X 30) (.cells Y 30) (.cells #[.bool false,.string ⟨#[]⟩,.bool false,.string ⟨#[]⟩] 28);rw [← hW];try rw [egc]
 try rw [egb]
 try rw [ega]
 clear hW ega egb egc;have HB:Hid (Bl w W):=jX (Bl.of HkW.out);clear HkW;refine wp_region_lit ?_;refine wX ⟨ga,0,none⟩ (LX.out _ _ Bga.out) ?_;go_simp;refine wE 170 #[.agg X] (H1.out _) (fun w1 hb=>?_);go_simp;refine fO ?_;have hb:Bl W w1:=Bl.of hb;have HB:=jX (HB.out.trans hb);have Bga:=jX (hb.heap Bga.out);have Bgb:=jX (hb.heap Bgb.out);have Bgc:=jX (hb.heap Bgc.out);clear hb;iterate 2 (first|(refine gV ?_;go_simp)|(refine gS ?_;go_simp))
 refine gX ⟨gb,0,none⟩ (LY.out _ _ Bgb.out) ?_;go_simp;refine gE 170 #[.agg Y] (H2.out _) (fun w2 hb=>?_);go_simp;refine fO ?_;have hb:Bl w1 w2:=Bl.of hb;have HB:=jX (HB.out.trans hb);have Bga:=jX (hb.heap Bga.out);have Bgb:=jX (hb.heap Bgb.out);have Bgc:=jX (hb.heap Bgc.out);clear hb;iterate 3 (first|(refine gV ?_;go_simp)|(refine gS ?_;go_simp))
 refine fO ?_;go_upto_region 2 with (fail)
 refine wp_region_lit ?_;refine wV ?_;go_simp;refine wR gc (#[.bool false,.string ⟨#[]⟩,.bool false,.string ⟨#[]⟩]) Bgc.out (by exact q_size) (by rfl) (by rw [← rC_zero];exact yaR 0) (fun w9 b_s k_s=>?_);go_simp;refine fO ?_;have HB:Hid (Bl w w9):=jX (HB.out.set k_s (by omega));have hlr:=LZ.out _ _ b_s;clear k_s b_s;go_wp2_with fail;refine bodyPost_ret (v:=.agg (#[.bool false,.string ⟨#[]⟩,.bool false,.string ⟨#[]⟩])) ?_ rfl ⟨rfl,HB.out⟩;rw [yac rfl];show (Result.ok (⟨gc,0,none⟩:Addr) w9).andThen (fun a w=>(loadVar 28 a).run prog w)=_
 rw [Result.andThen_ok,hlr]
theorem simp_neg (x y nx ny:Qn) (s rs:Rat) (n1 n2:Int)
  (H1:Hid (∀ w,Calls prog 170 #[.agg (qC x)] w fun e w'=>e = .returned (.int .i64 n1)∧Keep [] w w'))
  (H2:Hid (∀ w,Calls prog 170 #[.agg (qC y)] w fun e w'=>e = .returned (.int .i64 n2)∧Keep [] w w'))
  (H3:Hid (∀ w,Calls prog 171 #[.agg (qC y)] w fun e w'=>e = .returned (.agg (qC ny))∧Keep [] w w'))
  (H4:Hid (∀ w,Calls prog 171 #[.agg (qC x)] w fun e w'=>e = .returned (.agg (qC nx))∧Keep [] w w'))
  (H5:Hid (∀ w,Calls prog 132 #[.agg (qC ny),.agg (qC nx)] w fun e w'=>e = .returned (.agg (rC s))∧Bl w w'))
  (H6:Hid (∀ w,Calls prog 60 #[.agg (rC s)] w fun e w'=>e = .returned (.agg (rC rs))∧Keep [] w w'))
  (c1:n1<0) (c2:¬ 0<n2) (c3:n2≤0) (w:World):Calls prog 132 #[.agg (qC x),.agg (qC y)] w fun e w'=>e = .returned (.agg (rC rs))∧Bl w w':=by
 have LX:=Bx.mk (fun (u:World) (g:Nat)=>ld_x (w:=u) (g:=g) (x:=x) (t:=30));have SXx:=Bx.mk (show (qC (x)).size=9∧(qC (x)).all (·.oneCell')=true from ⟨rfl,yaT _⟩)
 have LY:=Bx.mk (fun (u:World) (g:Nat)=>ld_x (w:=u) (g:=g) (x:=y) (t:=30));have SYy:=Bx.mk (show (qC (y)).size=9∧(qC (y)).all (·.oneCell')=true from ⟨rfl,yaT _⟩)
 have LNX:=Bx.mk (fun (u:World) (g:Nat)=>ld_x (w:=u) (g:=g) (x:=nx) (t:=30));have SNX:=Bx.mk (show (qC (nx)).size=9∧(qC (nx)).all (·.oneCell')=true from ⟨rfl,yaT _⟩)
 have LNY:=Bx.mk (fun (u:World) (g:Nat)=>ld_x (w:=u) (g:=g) (x:=ny) (t:=30));have SNY:=Bx.mk (show (qC (ny)).size=9∧(qC (ny)).all (·.oneCell')=true from ⟨rfl,yaT _⟩)
 have LS:=Bx.mk (fun (u:World) (g:Nat)=>ld_q (w:=u) (g:=g) (q:=s) (t:=28));have SS:=Bx.mk (show (rC (s)).size=4∧(rC (s)).all (·.oneCell')=true from ⟨rfl,yaR _⟩)
 have LRS:=Bx.mk (fun (u:World) (g:Nat)=>ld_q (w:=u) (g:=g) (q:=rs) (t:=28));have SRS:=Bx.mk (show (rC (rs)).size=4∧(rC (rs)).all (·.oneCell')=true from ⟨rfl,yaR _⟩)
 have LQ0:=True.intro;replace H1:=Bx.mk H1.out;replace H2:=Bx.mk H2.out;replace H3:=Bx.mk H3.out;replace H4:=Bx.mk H4.out;replace H5:=Bx.mk H5.out;replace H6:=Bx.mk H6.out;generalize qC (x)=X at *;generalize qC (y)=Y at *;generalize qC (nx)=NX at *;generalize qC (ny)=NY at *;generalize rC (s)=S at *;generalize rC (rs)=RS at *;clear LQ0;go_enter func132,ntmps132
 go_upto_region 1 with (fail)
 obtain⟨W,ga,gb,gc,hW,ega,egb,egc,Bga,Bgb,Bgc,hga,hgb,hgc,hgW,HkW⟩:=al3h w (.cells X 30) (.cells Y 30) (.cells #[.bool false,.string ⟨#[]⟩,.bool false,.string ⟨#[]⟩] 28);rw [← hW];try rw [egc]
 try rw [egb]
 try rw [ega]
 clear hW ega egb egc;have HB:Hid (Bl w W):=jX (Bl.of HkW.out);clear HkW;refine wp_region_lit ?_;refine wX ⟨ga,0,none⟩ (LX.out _ _ Bga.out) ?_;go_simp;refine wE 170 #[.agg X] (H1.out _) (fun w1 hb=>?_);go_simp;refine fO ?_;have hb:Bl W w1:=Bl.of hb;have HB:=jX (HB.out.trans hb);have Bga:=jX (hb.heap Bga.out);have Bgb:=jX (hb.heap Bgb.out);have Bgc:=jX (hb.heap Bgc.out);clear hb;iterate 2 (first|(refine gV ?_;go_simp)|(refine gS ?_;go_simp))
 refine gX ⟨gb,0,none⟩ (LY.out _ _ Bgb.out) ?_;go_simp;refine gE 170 #[.agg Y] (H2.out _) (fun w2 hb=>?_);go_simp;refine fO ?_;have hb:Bl w1 w2:=Bl.of hb;have HB:=jX (HB.out.trans hb);have Bga:=jX (hb.heap Bga.out);have Bgb:=jX (hb.heap Bgb.out);have Bgc:=jX (hb.heap Bgc.out);clear hb;iterate 3 (first|(refine gV ?_;go_simp)|(refine gS ?_;go_simp))
 refine fO ?_;go_upto_region 3 with (fail)
 refine wp_region_lit ?_;refine wX ⟨gb,0,none⟩ (LY.out _ _ Bgb.out) ?_;go_simp;refine wE 170 #[.agg Y] (H2.out _) (fun w3 hb=>?_);go_simp;refine fO ?_;have hb:Bl w2 w3:=Bl.of hb;have HB:=jX (HB.out.trans hb);have Bga:=jX (hb.heap Bga.out);have Bgb:=jX (hb.heap Bgb.out);have Bgc:=jX (hb.heap Bgc.out);clear hb;iterate 1 (first|(refine gV ?_;go_simp)|(refine gS ?_;go_simp))
 refine fO ?_;go_upto_region 4 with (fail)
 refine yah (S:=fun u=>Bl w3 u) 6 (by kernel_rfl) (by kernel_rfl) (fun _ _ d _ _ h=>by cases d<;>exact h) ?_;have hS0:=Bl.drew w3;generalize World.drew w3=u at *;refine tX 0 ⟨gb,0,none⟩ hS0 (fun w hw=>LY.out _ _ (hw.heap Bgb.out)) ?_;go_simp;refine tX 2 ⟨ga,0,none⟩ hS0 (fun w hw=>LX.out _ _ (hw.heap Bga.out)) ?_;go_simp;refine xQ 1 171 #[.agg Y] hS0 (H3.out _) (fun v2 hS0=>?_);go_simp;refine xQ 3 171 #[.agg X] hS0 (H4.out _) (fun v3 hS0=>?_);go_simp;refine xR 4 132 #[.agg NY,.agg NX] hS0 (H5.out _) (fun v4 hS0=>?_);go_simp;refine xQ 5 60 #[.agg S] hS0 (H6.out _) (fun v5 hS0=>?_);go_simp;refine ⟨by kernel_rfl,?_⟩;simp only [List.drop_succ_cons,List.drop_zero];have HB:=jX (HB.out.trans hS0);have Bga:=jX (hS0.heap Bga.out);have Bgb:=jX (hS0.heap Bgb.out);have Bgc:=jX (hS0.heap Bgc.out);clear hS0;have b_n:=Bgc.out;refine wR gc RS b_n (by rw [SRS.out.1];exact q_size) (by rw [SRS.out.1];rfl) SRS.out.2 (fun w4 b_s k_s=>?_);go_simp;refine fO ?_;have Bga:=jX (k_s.heap Bga.out (by simp;omega));have Bgb:=jX (k_s.heap Bgb.out (by simp;omega));have Bgc:=jX b_s;have HB:Hid (Bl w w4):=jX (HB.out.set k_s (by omega));clear b_n b_s k_s;have hlr:=LRS.out _ _ Bgc.out;go_wp2_with fail;refine bodyPost_ret (v:=.agg RS) ?_ rfl ⟨rfl,HB.out⟩;rw [yac rfl];show (Result.ok (⟨gc,0,none⟩:Addr) w4).andThen (fun a w=>(loadVar 28 a).run prog w)=_
 rw [Result.andThen_ok,hlr]
end
section
open Classical
theorem yiP (k:Nat) (hk:k≤90000) (hk1:1≤k) (m l b N:Nat) (hm:0<m) (hl:0<l) (hb:0<b) (x y:Qn) (hx:Ht (m:Rat) (l:Rat) (b:Rat) x) (hy:Ht (m:Rat) (l:Rat) (b:Rat) y) (h:Lt x y) (hN:512*(b*b*b)*(m*m*(m*m)*(l*l))≤N)
  (hM:8*((2*(l*(m*m)*(b*b))*((2*b*N*N)*(2*b*N*N)))*(2*(l*(m*m)*(b*b))*((2*b*N*N)*(2*b*N*N))))<256 ^ k) (w:World) :
  Calls prog 132 #[.agg (qC x),.agg (qC y)] w fun e w'=>e = .returned (.agg (rC (ycx x y)))∧Bl w w':=by
 obtain⟨_,_,_,_,w1,w2⟩:=yix hm hl hb hx hy h hN;have fx:=hx.form hm hl hb;have fy:=hy.form hm hl hb
 have hMi:8*((((2*(l*(m*m)*(b*b))*((2*b*N*N)*(2*b*N*N))):Nat):Int)*(((2*(l*(m*m)*(b*b))*((2*b*N*N)*(2*b*N*N))):Nat):Int))<((256 ^ k:Nat):Int):=by
  have:=Int.ofNat_lt.2 hM;push_cast at this ⊢
  exact this
 have hS:∀ p q:Nat,q=N→p≤2*b*N→((2*(l*(m*m)*(b*b)):Nat):Int)*(((p*q:Nat):Int)*((p*q:Nat):Int))≤((2*(l*(m*m)*(b*b))*((2*b*N*N)*(2*b*N*N)):Nat):Int):=fun p q hq hp=>by
  subst hq;have h1:p*q≤2*b*q*q:=Nat.mul_le_mul_right q hp;have h2:=Nat.mul_le_mul h1 h1;have h3:=Nat.mul_le_mul_left (2*(l*(m*m)*(b*b))) h2;have h4:=Int.ofNat_le.2 h3;push_cast at h4 ⊢
  exact h4
 generalize ((2*(l*(m*m)*(b*b))*((2*b*N*N)*(2*b*N*N)):Nat):Int)=M at *
 have sN:∀ v:Qn,Form ((2*(l*(m*m)*(b*b)):Nat):Int) v→(∃ p q:Nat,q=N∧p≤2*b*N∧0<p*q)→FitR k v:=fun v hv ⟨p,q,hq,hp,hpq⟩=>hv.fit (by
  have h1:=hS p q hq hp;have h2:=hv.pos;generalize ((2*(l*(m*m)*(b*b)):Nat):Int)=H at *
  have h3:H≤M:=by
   have h4:(1:Int)≤((p*q:Nat):Int):=by omega
   have h5:=le_sq (a:=((p*q:Nat):Int)) (by omega);have h6:=Int.mul_le_mul_of_nonneg_left (a:=1) (b:=((p*q:Nat):Int)*((p*q:Nat):Int)) (c:=H) (by omega) (by omega);omega
  have h7:=Int.mul_le_mul h3 h3 (by omega) (by omega)
  omega)
 have hN0:0<N:=by
  have a1:=Nat.mul_pos (Nat.mul_pos hb hb) hb;have a2:=Nat.mul_pos (Nat.mul_pos (Nat.mul_pos hm hm) (Nat.mul_pos hm hm)) (Nat.mul_pos hl hl);have:=Nat.mul_pos (Nat.mul_pos (show 0<512 by decide) a1) a2
  omega
 have hbN:0<2*b*N*N:=Nat.mul_pos (Nat.mul_pos (Nat.mul_pos (by decide) hb) hN0) hN0;have hex:∃ p q:Nat,q=N∧p≤2*b*N∧0<p*q:=⟨2*b*N,N,rfl,Nat.le_refl _,hbN⟩;have fX:=sN x fx hex;have fY:=sN y fy hex;have up:∀ {v:Qn} {m:Nat},FitR k v→90000≤m→FitR m v:=fun hv hm=>⟨hv.1.mono (by omega),hv.2.mono (by omega)⟩;have H1:=jX (RSign_c x (up fX (by decide)));have H2:=jX (RSign_c y (up fY (by decide)));unfold ycx;by_cases h0:Above1 0 x∧Below1 0 y
 ·rw [if_pos h0]
  exact simp_zero x y _ _ H1 H2 ((sg_neg hx.ok).2 h0.1) ((yfv hy.ok).2 h0.2) w
 rw [if_neg h0];by_cases h1:¬ Below1 0 y
 ·rw [if_pos h1]
  obtain⟨p,q,hw,hq,hp⟩:=w2 h1;have hn:=ydR h;have HI:=jX (yeh k hk hk1 _ hMi q p q y.ng x.ng _ (Nat.le_refl _) hw (ng_form fy) (ng_form fx) (hS p q hq hp));rw [yfh hw hn (Nat.le_refl q)] at HI
  have hax:Above1 0 x:=by
   obtain⟨t,t1,t2⟩:=h;refine t1.mono hx.ok.nn ?_;refine Rat.not_lt.1 fun h2=>h1 (t2.mono hy.ok.nn (Rat.le_of_lt h2))
  have c2:¬ 0<sg1 y.p y.u y.r:=fun h2=>h1 ((yfv hy.ok).1 h2);exact simp_neg x y x.ng y.ng (simpF (fuelQ y.ng x.ng) y.ng x.ng) (-(simpF (fuelQ y.ng x.ng) y.ng x.ng)) _ _ H1 H2 (jX (RNeg_c y)) (jX (RNeg_c x)) HI (jX (QNeg_c _)) ((sg_neg hx.ok).2 hax) c2 (by omega) w
 rw [if_neg h1];have hnx:¬ Above1 0 x:=fun e=>h0 ⟨e,Classical.not_not.1 h1⟩;obtain⟨p,q,hw,hq,hp⟩:=w1 hnx;have HI:=yeh k hk hk1 _ hMi q p q x y _ (Nat.le_refl _) hw fx fy (hS p q hq hp);rw [yfh hw h (Nat.le_refl q)] at HI;exact HI w
theorem yjo (x y:Qn) (n:Int)
  (H1:Hid (∀ w,Calls prog 81 #[.agg (qC x),.agg (qC y)] w fun e w'=>e = .returned (.int .i64 n)∧Keep [] w w'))
  (c1:0≤n) (w:World):Calls prog 83 #[.agg (qC x),.agg (qC y)] w fun e w'=>e = .returned (.tuple #[.agg (rC 0),.int .i64 7])∧Bl w w':=by
 have LX:=Bx.mk (fun (u:World) (g:Nat)=>ld_x (w:=u) (g:=g) (x:=x) (t:=30));have SXx:=Bx.mk (show (qC (x)).size=9∧(qC (x)).all (·.oneCell')=true from ⟨rfl,yaT _⟩)
 have LY:=Bx.mk (fun (u:World) (g:Nat)=>ld_x (w:=u) (g:=g) (x:=y) (t:=30));have SYy:=Bx.mk (show (qC (y)).size=9∧(qC (y)).all (·.oneCell')=true from ⟨rfl,yaT _⟩)
 replace H1:=Bx.mk H1.out;generalize qC (x)=X at *;generalize qC (y)=Y at *;have LZ:=Bx.mk (fun (u:World) (g:Nat)=>ld_q (w:=u) (g:=g) (q:=0) (t:=28));rw [rC_zero] at LZ ⊢;go_enter func83,ntmps83
 go_upto_region 1 with (fail)
 obtain⟨W,ga,gb,gc,hW,ega,egb,egc,Bga,Bgb,Bgc,hga,hgb,hgc,hgW,HkW⟩:=al3h w (.cells X 30) (.cells Y 30) (.cells #[.bool false,.string ⟨#[]⟩,.bool false,.string ⟨#[]⟩] 28);rw [← hW];try rw [egc]
 try rw [egb]
 try rw [ega]
 clear hW ega egb egc;have HB:Hid (Bl w W):=jX (Bl.of HkW.out);clear HkW;refine wp_region_lit ?_;refine wX ⟨ga,0,none⟩ (LX.out _ _ Bga.out) ?_;go_simp;refine wX ⟨gb,0,none⟩ (LY.out _ _ Bgb.out) ?_;go_simp;refine wE 81 #[.agg X,.agg Y] (H1.out _) (fun w1 hb=>?_);go_simp;refine fO ?_;have hb:Bl W w1:=Bl.of hb;have HB:=jX (HB.out.trans hb);have Bga:=jX (hb.heap Bga.out);have Bgb:=jX (hb.heap Bgb.out);have Bgc:=jX (hb.heap Bgc.out);clear hb;refine wV ?_;go_simp;refine fO ?_;go_upto_region 2 with (fail)
 refine wp_region_lit ?_;refine wV ?_;go_simp;refine wR gc (#[.bool false,.string ⟨#[]⟩,.bool false,.string ⟨#[]⟩]) Bgc.out (by exact q_size) (by rfl) (by rw [← rC_zero];exact yaR 0) (fun w9 b_s k_s=>?_);go_simp;refine fO ?_;have HB:Hid (Bl w w9):=jX (HB.out.set k_s (by omega));have hlr:=LZ.out _ _ b_s;clear k_s b_s;go_wp2_with fail;refine bodyPost_ret (v:=.tuple #[.agg (#[.bool false,.string ⟨#[]⟩,.bool false,.string ⟨#[]⟩]),.int .i64 7]) ?_ rfl ⟨rfl,HB.out⟩;rw [results_cell_tmp rfl];show (Result.ok (⟨gc,0,none⟩:Addr) w9).andThen (fun a w=>((loadVar 28 a).run prog w).andThen _)=_
 rw [Result.andThen_ok,hlr];rfl
theorem yhq (x y:Qn) (s:Rat) (n:Int)
  (H1:Hid (∀ w,Calls prog 81 #[.agg (qC x),.agg (qC y)] w fun e w'=>e = .returned (.int .i64 n)∧Keep [] w w'))
  (H2:Hid (∀ w,Calls prog 132 #[.agg (qC x),.agg (qC y)] w fun e w'=>e = .returned (.agg (rC s))∧Bl w w'))
  (c1:¬ 0≤n) (w:World):Calls prog 83 #[.agg (qC x),.agg (qC y)] w fun e w'=>e = .returned (.tuple #[.agg (rC s),.int .i64 0])∧Bl w w':=by
 have LX:=Bx.mk (fun (u:World) (g:Nat)=>ld_x (w:=u) (g:=g) (x:=x) (t:=30));have SXx:=Bx.mk (show (qC (x)).size=9∧(qC (x)).all (·.oneCell')=true from ⟨rfl,yaT _⟩)
 have LY:=Bx.mk (fun (u:World) (g:Nat)=>ld_x (w:=u) (g:=g) (x:=y) (t:=30));have SYy:=Bx.mk (show (qC (y)).size=9∧(qC (y)).all (·.oneCell')=true from ⟨rfl,yaT _⟩)
 have LRS:=Bx.mk (fun (u:World) (g:Nat)=>ld_q (w:=u) (g:=g) (q:=s) (t:=28));have SRS:=Bx.mk (show (rC (s)).size=4∧(rC (s)).all (·.oneCell')=true from ⟨rfl,yaR _⟩)
 replace H1:=Bx.mk H1.out;replace H2:=Bx.mk H2.out;generalize qC (x)=X at *;generalize qC (y)=Y at *;generalize rC (s)=RS at *;go_enter func83,ntmps83
 go_upto_region 1 with (fail)
 obtain⟨W,ga,gb,gc,hW,ega,egb,egc,Bga,Bgb,Bgc,hga,hgb,hgc,hgW,HkW⟩:=al3h w (.cells X 30) (.cells Y 30) (.cells #[.bool false,.string ⟨#[]⟩,.bool false,.string ⟨#[]⟩] 28);rw [← hW];try rw [egc]
 try rw [egb]
 try rw [ega]
 clear hW ega egb egc;have HB:Hid (Bl w W):=jX (Bl.of HkW.out);clear HkW;refine wp_region_lit ?_;refine wX ⟨ga,0,none⟩ (LX.out _ _ Bga.out) ?_;go_simp;refine wX ⟨gb,0,none⟩ (LY.out _ _ Bgb.out) ?_;go_simp;refine wE 81 #[.agg X,.agg Y] (H1.out _) (fun w1 hb=>?_);go_simp;refine fO ?_;have hb:Bl W w1:=Bl.of hb;have HB:=jX (HB.out.trans hb);have Bga:=jX (hb.heap Bga.out);have Bgb:=jX (hb.heap Bgb.out);have Bgc:=jX (hb.heap Bgc.out);clear hb;refine wV ?_;go_simp;refine fO ?_;go_upto_region 3 with (fail)
 refine wp_region_lit ?_;refine wX ⟨ga,0,none⟩ (LX.out _ _ Bga.out) ?_;go_simp;refine wX ⟨gb,0,none⟩ (LY.out _ _ Bgb.out) ?_;go_simp;refine wE 132 #[.agg X,.agg Y] (H2.out _) (fun w2 hb=>?_);go_simp;refine fO ?_;have hb:Bl w1 w2:=hb;have HB:=jX (HB.out.trans hb);have Bga:=jX (hb.heap Bga.out);have Bgb:=jX (hb.heap Bgb.out);have Bgc:=jX (hb.heap Bgc.out);clear hb;have b_n:=Bgc.out;refine wR gc RS b_n (by rw [SRS.out.1];exact q_size) (by rw [SRS.out.1];rfl) SRS.out.2 (fun w3 b_s k_s=>?_);go_simp;refine fO ?_;have Bga:=jX (k_s.heap Bga.out (by simp;omega));have Bgb:=jX (k_s.heap Bgb.out (by simp;omega));have Bgc:=jX b_s;have HB:Hid (Bl w w3):=jX (HB.out.set k_s (by omega));clear b_n b_s k_s;have hlr:=LRS.out _ _ Bgc.out;go_wp2_with fail;refine bodyPost_ret (v:=.tuple #[.agg RS,.int .i64 0]) ?_ rfl ⟨rfl,HB.out⟩;rw [results_cell_tmp rfl];show (Result.ok (⟨gc,0,none⟩:Addr) w3).andThen (fun a w=>((loadVar 28 a).run prog w).andThen _)=_
 rw [Result.andThen_ok,hlr];rfl
end
end Go.Proofs.YtpgffjjpiafhpaaGreatDoor
