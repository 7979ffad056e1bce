/- Parts of a proof: Bl Bm Fc Fq Fp Fr Bn. -/
import Derived.Deep.CutBlock
import Derived.Deep.DeepCutAuto
import Derived.Test.YtpgffjjpiafhpaaGreatDoorJ37
import Derived.Test.YtpgffjjpiafhpaaGreatDoorJ23
import Derived.Test.YtpgffjjpiafhpaaGreatDoorJ25
import Derived.Test.YtpgffjjpiafhpaaGreatDoorJ29
import Derived.Test.YtpgffjjpiafhpaaGreatDoorJ31
import Derived.Test.YtpgffjjpiafhpaaGreatDoorJ02
import Derived.Test.YtpgffjjpiafhpaaGreatDoorJ01
set_option linter.unusedVariables false
set_option linter.unusedSimpArgs false
set_option maxRecDepth 100000
set_option maxHeartbeats 8000000
namespace Go.Proofs.YtpgffjjpiafhpaaGreatDoor
open Go.RowKit Tryz
section
open Classical
noncomputable def yaG (i:Iv K):K:=if h:i.f.pt<i.l.pt∧FitQ 100000 (ycx i.f.pt.1 i.l.pt.1) then kQ (ycx i.f.pt.1 i.l.pt.1) h.2 else i.f.pt
theorem yjp (x:K):kC x=qC x.1:=rfl
theorem pick_no (I:Iv K) (h:¬ I.f.pt<I.l.pt) (w:World):Calls prog 23 #[iv I] w fun e w'=>e = .returned (.agg (kC I.f.pt))∧Bl w w':=by
 have hc:0≤cmpQ I.f.pt.1 I.l.pt.1:=by
  rcases K.tri I.f.pt I.l.pt with ⟨e,k⟩|⟨e,k⟩|⟨e,k⟩<;>rw [e]
  ·decide
  ·exact absurd k h
  decide
 have H1:=Bx.mk (yjo I.f.pt.1 I.l.pt.1 _ (jX (RCompare_c I.f.pt.1 I.l.pt.1 ⟨I.f.pt.2.2.1.mono (by decide),I.f.pt.2.2.2.mono (by decide)⟩ ⟨I.l.pt.2.2.1.mono (by decide),I.l.pt.2.2.2.mono (by decide)⟩)) hc);clear hc h;have LF:=Bx.mk (fun (u:World) (g:Nat) (h:u.heap[g]? = some (.cells (iC I) 32))=>show (loadVar 30 ⟨g,0,none⟩).run prog u = .ok (.agg (qC I.f.pt.1)) u from yba _ _ _ _ (ybc h).frm)
 have LT:=Bx.mk (fun (u:World) (g:Nat) (h:u.heap[g]? = some (.cells (iC I) 32))=>show (loadVar 30 ⟨g,9,none⟩).run prog u = .ok (.agg (qC I.l.pt.1)) u from yba _ _ _ _ (ybc h).upto)
 rw [show iv I = .agg (iC I) from rfl]
 have LX:=Bx.mk (fun (u:World) (g:Nat)=>ld_x (w:=u) (g:=g) (x:=I.f.pt.1) (t:=30));have SX:=Bx.mk (show (qC I.f.pt.1).size=9∧(qC I.f.pt.1).all (·.oneCell')=true from ⟨rfl,yaT _⟩)
 have LQ:=Bx.mk (fun (u:World) (g:Nat)=>ld_q (w:=u) (g:=g) (q:=0) (t:=28));have SQ:=Bx.mk (show (rC 0).size=4∧(rC 0).all (·.oneCell')=true from ⟨rfl,yaR _⟩)
 rw [yjp];generalize rC 0=Q at *;generalize qC I.f.pt.1=X at *;generalize qC I.l.pt.1=Y at *;generalize iC I=C at *;go_enter func23,ntmps23
 go_upto_region 1 with (fail)
 obtain⟨W,ga,gb,hW,ega,egb,Bga,Bgb,hga,hgb,hgW,HkW⟩:=al2h w (.cells C 32) (.cells #[.bool false,.string ⟨#[]⟩,.bool false,.string ⟨#[]⟩,.bool false,.string ⟨#[]⟩,.bool false,.string ⟨#[]⟩,.bool false] 30);rw [← hW];try rw [egb]
 try rw [ega]
 clear hW ega egb;have HB:Hid (Bl w W):=jX (Bl.of HkW.out);clear HkW;refine wp_region_lit ?_;refine wV ?_;go_simp;refine wX ⟨ga,0,none⟩ (LF.out _ _ Bga.out) ?_;go_simp;refine wV ?_;go_simp;refine wX ⟨ga,9,none⟩ (LT.out _ _ Bga.out) ?_;go_simp;refine wE 83 #[.agg X,.agg Y] (H1.out _) (fun w1 hb=>?_);go_simp;refine fO ?_;have hb:Bl W w1:=hb;have HB:=jX (HB.out.trans hb);have Bga:=jX (hb.heap Bga.out);have Bgb:=jX (hb.heap Bgb.out);clear hb;refine wV ?_;go_simp;refine wV ?_;go_simp;refine wV ?_;go_simp;refine fO ?_;have z_gc:=HB.out.size;refine wA (ycA _ _ _ rfl) (fun w2 gc e2 b_n _ _ hk3=>?_);go_simp;refine wR gc Q b_n (by rw [SQ.out.1];exact q_size) (by rw [SQ.out.1];rfl) SQ.out.2 (fun w3 b_s k_s=>?_);go_simp;refine fO ?_;have h_gc:w.heap.size≤gc:=by omega
 have hb:Bl w1 w3:=(Bl.of hk3).set k_s (by omega);have HB:=jX (HB.out.trans hb);have n_ga_gc:ga<gc:=by have:=yaa Bga.out;omega
 have n_gb_gc:gb<gc:=by have:=yaa Bgb.out;omega
 have Bga:=jX (hb.heap Bga.out);have Bgb:=jX (hb.heap Bgb.out);have Bgc:=jX b_s;clear hb hk3 k_s b_s b_n e2 z_gc;go_upto_region 3 with (fail)
 refine wp_region_lit ?_;refine wV ?_;go_simp;refine wX ⟨ga,0,none⟩ (LF.out _ _ Bga.out) ?_;go_simp;refine fO ?_;have b_n:=Bgb.out;refine wR gb X b_n (by rw [SX.out.1];exact k_size) (by rw [SX.out.1];rfl) SX.out.2 (fun w4 b_s k_s=>?_);go_simp;refine fO ?_;have Bga:=jX (k_s.heap Bga.out (by simp;omega));have Bgc:=jX (k_s.heap Bgc.out (by simp;omega));have Bgb:=jX b_s;have HB:Hid (Bl w w4):=jX (HB.out.set k_s (by omega));clear b_n b_s k_s;have hlr:=LX.out _ _ Bgb.out;go_wp2_with fail;refine bodyPost_ret (v:=.agg X) ?_ rfl ⟨rfl,HB.out⟩;rw [yac rfl];show (Result.ok (⟨gb,0,none⟩:Addr) w4).andThen (fun a w=>(loadVar 30 a).run prog w)=_
 rw [Result.andThen_ok,hlr]
theorem pick_yes (I:Iv K) (q:Rat) (hq:FitQ 100000 q) (h:I.f.pt<I.l.pt) (HS:Hid (∀ w,Calls prog 132 #[.agg (qC I.f.pt.1),.agg (qC I.l.pt.1)] w fun e w'=>e = .returned (.agg (rC q))∧Bl w w')) (w:World):Calls prog 23 #[iv I] w fun e w'=>e = .returned (.agg (kC (kQ q hq)))∧Bl w w':=by
 have hc:¬ 0≤cmpQ I.f.pt.1 I.l.pt.1:=by
  rw [K.cmp_neg.2 h];decide
 have H1:=Bx.mk (yhq I.f.pt.1 I.l.pt.1 q _ (jX (RCompare_c I.f.pt.1 I.l.pt.1 ⟨I.f.pt.2.2.1.mono (by decide),I.f.pt.2.2.2.mono (by decide)⟩ ⟨I.l.pt.2.2.1.mono (by decide),I.l.pt.2.2.2.mono (by decide)⟩)) HS hc);have H2:=Bx.mk (FromRat_c q hq);clear hc h HS;have LF:=Bx.mk (fun (u:World) (g:Nat) (h:u.heap[g]? = some (.cells (iC I) 32))=>show (loadVar 30 ⟨g,0,none⟩).run prog u = .ok (.agg (qC I.f.pt.1)) u from yba _ _ _ _ (ybc h).frm)
 have LT:=Bx.mk (fun (u:World) (g:Nat) (h:u.heap[g]? = some (.cells (iC I) 32))=>show (loadVar 30 ⟨g,9,none⟩).run prog u = .ok (.agg (qC I.l.pt.1)) u from yba _ _ _ _ (ybc h).upto)
 rw [show iv I = .agg (iC I) from rfl]
 have LX:=Bx.mk (fun (u:World) (g:Nat)=>ld_x (w:=u) (g:=g) (x:=(kQ q hq).1) (t:=30));have SX:=Bx.mk (show (qC (kQ q hq).1).size=9∧(qC (kQ q hq).1).all (·.oneCell')=true from ⟨rfl,yaT _⟩)
 have LQ:=Bx.mk (fun (u:World) (g:Nat)=>ld_q (w:=u) (g:=g) (q:=q) (t:=28));have SQ:=Bx.mk (show (rC q).size=4∧(rC q).all (·.oneCell')=true from ⟨rfl,yaR _⟩)
 rw [yjp];replace H2:=Bx.mk (show ∀ w,Calls prog 84 #[.agg (rC q)] w fun e w'=>e = .returned (.agg (qC (kQ q hq).1))∧Keep [] w w' from H2.out)
 generalize qC (kQ q hq).1=Z at *;generalize rC q=Q at *;generalize qC I.f.pt.1=X at *;generalize qC I.l.pt.1=Y at *;generalize iC I=C at *;go_enter func23,ntmps23
 go_upto_region 1 with (fail)
 obtain⟨W,ga,gb,hW,ega,egb,Bga,Bgb,hga,hgb,hgW,HkW⟩:=al2h w (.cells C 32) (.cells #[.bool false,.string ⟨#[]⟩,.bool false,.string ⟨#[]⟩,.bool false,.string ⟨#[]⟩,.bool false,.string ⟨#[]⟩,.bool false] 30);rw [← hW];try rw [egb]
 try rw [ega]
 clear hW ega egb;have HB:Hid (Bl w W):=jX (Bl.of HkW.out);clear HkW;refine wp_region_lit ?_;refine wV ?_;go_simp;refine wX ⟨ga,0,none⟩ (LF.out _ _ Bga.out) ?_;go_simp;refine wV ?_;go_simp;refine wX ⟨ga,9,none⟩ (LT.out _ _ Bga.out) ?_;go_simp;refine wE 83 #[.agg X,.agg Y] (H1.out _) (fun w1 hb=>?_);go_simp;refine fO ?_;have hb:Bl W w1:=hb;have HB:=jX (HB.out.trans hb);have Bga:=jX (hb.heap Bga.out);have Bgb:=jX (hb.heap Bgb.out);clear hb;refine wV ?_;go_simp;refine wV ?_;go_simp;refine wV ?_;go_simp;refine fO ?_;have z_gc:=HB.out.size;refine wA (ycA _ _ _ rfl) (fun w2 gc e2 b_n _ _ hk3=>?_);go_simp;refine wR gc Q b_n (by rw [SQ.out.1];exact q_size) (by rw [SQ.out.1];rfl) SQ.out.2 (fun w3 b_s k_s=>?_);go_simp;refine fO ?_;have h_gc:w.heap.size≤gc:=by omega
 have hb:Bl w1 w3:=(Bl.of hk3).set k_s (by omega);have HB:=jX (HB.out.trans hb);have n_ga_gc:ga<gc:=by have:=yaa Bga.out;omega
 have n_gb_gc:gb<gc:=by have:=yaa Bgb.out;omega
 have Bga:=jX (hb.heap Bga.out);have Bgb:=jX (hb.heap Bgb.out);have Bgc:=jX b_s;clear hb hk3 k_s b_s b_n e2 z_gc;go_upto_region 4 with (fail)
 refine wp_region_lit ?_;refine wX ⟨gc,0,none⟩ (LQ.out _ _ Bgc.out) ?_;go_simp;refine wE 84 #[.agg Q] (H2.out _) (fun w4 hb=>?_);go_simp;refine fO ?_;have hb:Bl w3 w4:=Bl.of hb;have HB:=jX (HB.out.trans hb);have Bga:=jX (hb.heap Bga.out);have Bgb:=jX (hb.heap Bgb.out);have Bgc:=jX (hb.heap Bgc.out);clear hb;have b_n:=Bgb.out;refine wR gb Z b_n (by rw [SX.out.1];exact k_size) (by rw [SX.out.1];rfl) SX.out.2 (fun w5 b_s k_s=>?_);go_simp;refine fO ?_;have Bga:=jX (k_s.heap Bga.out (by simp;omega));have Bgc:=jX (k_s.heap Bgc.out (by simp;omega));have Bgb:=jX b_s;have HB:Hid (Bl w w5):=jX (HB.out.set k_s (by omega));clear b_n b_s k_s;have hlr:=LX.out _ _ Bgb.out;go_wp2_with fail;refine bodyPost_ret (v:=.agg Z) ?_ rfl ⟨rfl,HB.out⟩;rw [yac rfl];show (Result.ok (⟨gb,0,none⟩:Addr) w5).andThen (fun a w=>(loadVar 30 a).run prog w)=_
 rw [Result.andThen_ok,hlr]
end
section
open Classical
theorem ygI {y:Qn} (hy:y.Ok) (q:Rat):cmpQ y ⟨q,0,false⟩<0↔Above1 q y:=by
 rcases ybF hy (yaX q) with ⟨e,t,h1,h2⟩|⟨e,t,h1,h2⟩|⟨e,h⟩<;>rw [e]
 ·rw [yed] at h1
  refine ⟨fun k=>absurd k (by decide),fun k=>?_⟩;have:=ycg hy.nn h2 k;grind
 ·rw [ybJ] at h2
  exact ⟨fun _=>h1.mono hy.nn (Rat.le_of_lt h2),fun _=>by decide⟩
 refine ⟨fun k=>absurd k (by decide),fun k=>?_⟩;rw [h,yed] at k;grind
theorem yer {x:Qn} {q:Rat} (hx:x.Ok) (h:Above1 q x):Lt x ⟨q,0,false⟩:=by
 have h2:=(ygI hx q).2 h;rcases ybF hx (yaX q) with ⟨e,k⟩|⟨e,k⟩|⟨e,k⟩
 ·rw [e] at h2;omega
 ·exact k
 rw [e] at h2;omega
theorem ybP {x:Qn} {q:Rat} (hx:x.Ok) (h:Below1 q x):Lt ⟨q,0,false⟩ x:=by
 have h2:=(ybO hx q).2 h;rcases ybF hx (yaX q) with ⟨e,k⟩|⟨e,k⟩|⟨e,k⟩
 ·exact k
 ·rw [e] at h2;omega
 rw [e] at h2;omega
theorem ygt {k:Nat} {z:Int} (h:Fit k z):z.natAbs<256 ^ k:=Fit_iff.1 h
theorem den_int (q:Rat) (m:Nat):∃ i:Int,q*((q.den*m:Nat):Rat)=i:=⟨q.num*m,by
 have:=ybj q;rw [Rat.intCast_natCast] at this
 rw [Rat.natCast_mul,← Rat.mul_assoc,this,Rat.intCast_mul,Rat.intCast_natCast]⟩
theorem yfz (q:Rat) {k:Nat} (h:Fit k q.num) : -((256 ^ k:Nat):Rat)≤q∧q≤((256 ^ k:Nat):Rat):=by
 have h1:=ygt h;generalize 256 ^ k=T at *;have hd:=q.den_pos;have e:=ybj q;rw [Rat.intCast_natCast] at e;have hdr:(0:Rat)<(q.den:Rat):=yaE hd
 have hT:((q.num:Int):Rat)≤((T:Nat):Rat) ∧ -((T:Nat):Rat)≤((q.num:Int):Rat):=by
  have a1:=(yaY (a:=q.num) (b:=(T:Int))).2 (by omega);have a2:=(yaY (a:=-(T:Int)) (b:=q.num)).2 (by omega);rw [Rat.intCast_natCast] at a1;rw [Rat.intCast_neg,Rat.intCast_natCast] at a2;exact ⟨a1,a2⟩
 have h1d:(1:Rat)≤(q.den:Rat):=by
  have:=(yaY (a:=1) (b:=(q.den:Int))).2 (by omega);rw [Rat.intCast_natCast] at this;exact this
 have hT0:(0:Rat)≤((T:Nat):Rat):=by
  have:=(yaY (a:=0) (b:=(T:Int))).2 (by omega);rw [Rat.intCast_natCast] at this;exact this
 generalize ((q.num:Int):Rat)=n at *;generalize (q.den:Rat)=d at *;generalize ((T:Nat):Rat)=t at *
 have hk:t≤t*d:=by
  have:=Rat.mul_le_mul_of_nonneg_left h1d hT0;grind
 constructor
 ·refine Rat.not_lt.1 fun hlt=>?_
  have:=Rat.mul_lt_mul_of_pos_right hlt hdr;grind
 refine Rat.not_lt.1 fun hlt=>?_;have:=Rat.mul_lt_mul_of_pos_right hlt hdr;grind
theorem ht_fit {s m l:Nat} {x:Qn} (hx:x.Ok) (h:FitR s x):Ht ((x.p.den*m:Nat):Rat) ((x.r.den*l:Nat):Rat) ((256 ^ s:Nat):Rat) x:=by
 have h1:=yfz x.p h.1.1;have h2:=yfz x.r h.2.1;refine ⟨hx,den_int _ _,den_int _ _,h1.1,h1.2,Rat.le_trans h2.2 ?_⟩
 have:(1:Rat)≤((256 ^ s:Nat):Rat):=by
  have:=(yaY (a:=1) (b:=((256 ^ s:Nat):Int))).2 (by have:=Nat.pow_pos (n:=s) (show 0<256 by decide);omega)
  rw [Rat.intCast_natCast] at this;exact this
 generalize ((256 ^ s:Nat):Rat)=t at *;have:=Rat.mul_le_mul_of_nonneg_left this (show (0:Rat)≤t by grind)
 grind
theorem ht_comm {m l:Nat} {B:Rat} {x:Qn} {m' l':Nat} (h:Ht (m:Rat) (l:Rat) B x) (hm:m=m') (hl:l=l'):Ht (m':Rat) (l':Rat) B x:=by
 subst hm hl;exact h
theorem powT (s a b k:Nat) (h:b*s≤k) (c:Nat) (hc:c<256 ^ a):c*(256 ^ s) ^ b<256 ^ (a+k):=by
 rw [← Nat.pow_mul,Nat.pow_add,Nat.mul_comm s b];exact Nat.mul_lt_mul_of_lt_of_le hc (Nat.pow_le_pow_right (by decide) h) (Nat.pow_pos (by decide))
theorem yic (s:Nat) (hs:s≤600) (x y:Qn) (hx:x.Ok) (hy:y.Ok) (fx:FitR s x) (fy:FitR s y) (h:Lt x y) :
  (∀ w,Calls prog 132 #[.agg (qC x),.agg (qC y)] w fun e w'=>e = .returned (.agg (rC (ycx x y)))∧Bl w w')∧FitQ (2+16*s) (ycx x y)∧Above1 (ycx x y) x∧Below1 (ycx x y) y:=by
 have hX:=ht_fit (m:=y.p.den) (l:=y.r.den) hx fx;have hY:=ht_comm (ht_fit (m:=x.p.den) (l:=x.r.den) hy fy) (Nat.mul_comm _ _) (Nat.mul_comm _ _);have dx:=ygt fx.1.2;have dy:=ygt fy.1.2;have ex:=ygt fx.2.2;have ey:=ygt fy.2.2;rw [Int.natAbs_natCast] at dx dy ex ey;have hm0:0<x.p.den*y.p.den:=Nat.mul_pos x.p.den_pos y.p.den_pos;have hl0:0<x.r.den*y.r.den:=Nat.mul_pos x.r.den_pos y.r.den_pos;have hT0:0<256 ^ s:=Nat.pow_pos (by decide);obtain⟨T,hT⟩:∃ T,256 ^ s=T:=⟨_,rfl⟩;rw [hT] at hX hY dx dy ex ey hT0;have hm:x.p.den*y.p.den≤T*T:=Nat.mul_le_mul (Nat.le_of_lt dx) (Nat.le_of_lt dy);have hl:x.r.den*y.r.den≤T*T:=Nat.mul_le_mul (Nat.le_of_lt ex) (Nat.le_of_lt ey);generalize x.p.den*y.p.den=m at *;generalize x.r.den*y.r.den=l at *;have hm4:m*m*(m*m)≤T*T*(T*T)*(T*T*(T*T)):=Nat.mul_le_mul (Nat.mul_le_mul hm hm) (Nat.mul_le_mul hm hm);have hN:512*(T*T*T)*(m*m*(m*m)*(l*l))≤512*(T*T*T)*(T*T*(T*T)*(T*T*(T*T))*(T*T*(T*T))):=Nat.mul_le_mul_left _ (Nat.mul_le_mul hm4 (Nat.mul_le_mul hl hl));have eN:512*(T*T*T)*(T*T*(T*T)*(T*T*(T*T))*(T*T*(T*T)))=512*T ^ 15:=by grind
 rw [eN] at hN;have eM:2*(T*T*(T*T*(T*T))*(T*T))*((2*T*(512*T ^ 15)*(512*T ^ 15))*(2*T*(512*T ^ 15)*(512*T ^ 15)))=2 ^ 39*T ^ 70:=by grind
 have hM1:2*(l*(m*m)*(T*T))*((2*T*(512*T ^ 15)*(512*T ^ 15))*(2*T*(512*T ^ 15)*(512*T ^ 15)))≤2 ^ 39*T ^ 70:=by
  rw [← eM];exact Nat.mul_le_mul_right _ (Nat.mul_le_mul_left _ (Nat.mul_le_mul_right _ (Nat.mul_le_mul hl (Nat.mul_le_mul hm hm))))
 have hM:8*((2*(l*(m*m)*(T*T))*((2*T*(512*T ^ 15)*(512*T ^ 15))*(2*T*(512*T ^ 15)*(512*T ^ 15))))*(2*(l*(m*m)*(T*T))*((2*T*(512*T ^ 15)*(512*T ^ 15))*(2*T*(512*T ^ 15)*(512*T ^ 15)))))<256 ^ (11+140*s):=by
  refine Nat.lt_of_le_of_lt (Nat.mul_le_mul_left 8 (Nat.mul_le_mul hM1 hM1)) ?_;have e:8*((2 ^ 39*T ^ 70)*(2 ^ 39*T ^ 70))=2 ^ 81*T ^ 140:=by grind
  rw [e,← hT];exact powT s 11 140 (140*s) (Nat.le_refl _) (2 ^ 81) (by decide)
 obtain⟨p1,p2,p3,p4,_,_⟩:=yix hm0 hl0 hT0 hX hY h hN;refine ⟨fun w=>yiP (11+140*s) (by omega) (by omega) m l T (512*T ^ 15) hm0 hl0 hT0 x y hX hY h hN hM w,⟨?_,?_⟩,p1,p2⟩
 ·rw [Fit_iff]
  refine Nat.lt_of_le_of_lt p4 ?_;have e:2*T*(512*T ^ 15)=1024*T ^ 16:=by grind
  rw [e,← hT];exact powT s 2 16 (16*s) (Nat.le_refl _) 1024 (by decide)
 rw [Fit_iff,Int.natAbs_natCast];refine Nat.lt_of_le_of_lt p3 ?_;rw [← hT];exact powT s 2 15 (16*s) (by omega) 512 (by decide)
theorem yfo {i:Iv K} {s:Nat} (hs:s≤600) (hf:Sm s i.f.pt) (hl:Sm s i.l.pt) (h:i.f.pt<i.l.pt):(yaG i).1=⟨ycx i.f.pt.1 i.l.pt.1,0,false⟩∧FitQ (2+16*s) (ycx i.f.pt.1 i.l.pt.1)∧i.f.pt<yaG i∧yaG i<i.l.pt:=by
 obtain⟨_,f,a,b⟩:=yic s hs i.f.pt.1 i.l.pt.1 i.f.pt.2.1 i.l.pt.2.1 hf hl h;have hq:FitQ 100000 (ycx i.f.pt.1 i.l.pt.1):=f.mono (by omega)
 have e:yaG i=kQ (ycx i.f.pt.1 i.l.pt.1) hq:=by
  unfold yaG;rw [dif_pos ⟨h,hq⟩]
 have e1:(yaG i).1=⟨ycx i.f.pt.1 i.l.pt.1,0,false⟩:=by rw [e];rfl
 refine ⟨e1,f,?_,?_⟩
 ·rw [K.lt_def,e1]
  exact yer i.f.pt.2.1 a
 rw [K.lt_def,e1];exact ybP i.l.pt.2.1 b
theorem yio (s:Nat) (hs:s≤600) (I:Iv K) (hf:Sm s I.f.pt) (hl:Sm s I.l.pt) (w:World):Calls prog 23 #[iv I] w fun e w'=>e = .returned (kv (yaG I))∧Bl w w':=by
 by_cases h:I.f.pt<I.l.pt
 ·obtain⟨c,f,_,_⟩:=yic s hs I.f.pt.1 I.l.pt.1 I.f.pt.2.1 I.l.pt.2.1 hf hl h
  have hq:FitQ 100000 (ycx I.f.pt.1 I.l.pt.1):=f.mono (by omega)
  have e:yaG I=kQ (ycx I.f.pt.1 I.l.pt.1) hq:=by
   unfold yaG;rw [dif_pos ⟨h,hq⟩]
  rw [e];exact pick_yes I _ hq h (jX c) w
 have e:yaG I=I.f.pt:=by
  unfold yaG;rw [dif_neg (fun k=>h k.1)]
 rw [e];exact pick_no I h w
end
section
open Go.ChangeShapes Go.WideShapes Go.ChangeAt
def PartsAt (w:World) (sv:Value) (l:List PartA):Prop :=
 (∃ a cap,sv = .slice a 0 cap∧l=[]) ∨
 ∃ lb lo cap,sv = .slice (some ⟨lb,lo,none⟩) l.length cap∧l.length≤maxLen∧∀ i (h:i<l.length),w.cell? ⟨lb,lo+i*2,none⟩=some (.int .u8 l[i].a)∧w.cell? ⟨lb,lo+i*2+1,none⟩=some (.int .u8 l[i].b)
def fvcells (s:Value) (e:EvA):List Value:=[s,.int .u8 e.o,.int .u8 e.g,.int .u8 e.w,.int .u8 e.r]
def EvsAt (w:World) (sv:Value) (l:List EvA):Prop :=
 (∃ a cap,sv = .slice a 0 cap∧l=[]) ∨
 ∃ lb lo cap,sv = .slice (some ⟨lb,lo,none⟩) l.length cap∧l.length≤maxLen∧∀ i (h:i<l.length),∃ s,(∀ j v,(fvcells s l[i])[j]? = some v→w.cell? ⟨lb,lo+i*5+j,none⟩=some v)∧PartsAt w s l[i].ps
section
variable {H:Type} {enc:TypeId × Value→H} {w:World} {base:Nat} {held:Bool} {fuel:Nat}
end
theorem PartsAt.form {w:World} {sv:Value} {l:List PartA} (h:PartsAt w sv l):∃ a c,sv = .slice a l.length c∧l.length≤maxLen:=by
 rcases h with ⟨a,cap,rfl,rfl⟩|⟨b,o,cap,rfl,hl,_⟩
 ·exact ⟨a,cap,by simp,by simp⟩
 exact ⟨_,_,rfl,hl⟩
theorem PartsAt.elem {w:World} {a:Option Addr} {n c:Nat} {l:List PartA} (h:PartsAt w (.slice a n c) l) (i:Nat) (hi:i<l.length) :
  ∃ b o,a=some ⟨b,o,none⟩∧b<w.heap.size∧w.cell? ⟨b,o+i*2,none⟩=some (.int .u8 l[i].a)∧w.cell? ⟨b,o+i*2+1,none⟩=some (.int .u8 l[i].b):=by
 rcases h with ⟨a',cap,e,rfl⟩|⟨b,o,cap,e,hl,hz⟩
 ·simp at hi
 have e1:a=some ⟨b,o,none⟩:=by injection e
 exact ⟨b,o,e1,World.block_lt_of_cell? w _ (hz i hi).1,hz i hi⟩
theorem PartsAt.later {w w':World} {v:Value} {l:List PartA} (h:PartsAt w v l) (hk:Below w.heap.size w w'):PartsAt w' v l:=by
 rcases h with h|⟨b,o,cap,rfl,hl,hz⟩
 ·exact .inl h
 refine .inr ⟨b,o,cap,rfl,hl,fun i hi=>?_⟩;have hb:=hk.block b (World.block_lt_of_cell? w _ (hz i hi).1);exact ⟨(World.cell?_of_block hb).trans (hz i hi).1,(World.cell?_of_block hb).trans (hz i hi).2⟩
theorem EvsAt.form {w:World} {sv:Value} {l:List EvA} (h:EvsAt w sv l):∃ a c,sv = .slice a l.length c∧l.length≤maxLen:=by
 rcases h with ⟨a,cap,rfl,rfl⟩|⟨b,o,cap,rfl,hl,_⟩
 ·exact ⟨a,cap,by simp,by simp⟩
 exact ⟨_,_,rfl,hl⟩
theorem EvsAt.elem {w:World} {a:Option Addr} {n c:Nat} {l:List EvA} (h:EvsAt w (.slice a n c) l) (i:Nat) (hi:i<l.length) :
  ∃ b o pa pc,a=some ⟨b,o,none⟩∧b<w.heap.size∧(∀ j v,(fvcells (.slice pa l[i].ps.length pc) l[i])[j]? = some v→w.cell? ⟨b,o+i*5+j,none⟩=some v)∧PartsAt w (.slice pa l[i].ps.length pc) l[i].ps:=by
 rcases h with ⟨a',cap,e,rfl⟩|⟨b,o,cap,e,hl,hz⟩
 ·simp at hi
 have e1:a=some ⟨b,o,none⟩:=by injection e
 obtain⟨s,h1,h2⟩:=hz i hi;obtain⟨pa,pc,rfl,_⟩:=h2.form;exact ⟨b,o,pa,pc,e1,World.block_lt_of_cell? w _ (h1 0 _ rfl),h1,h2⟩
theorem EvsAt.later {w w':World} {v:Value} {l:List EvA} (h:EvsAt w v l) (hk:Below w.heap.size w w'):EvsAt w' v l:=by
 rcases h with h|⟨b,o,cap,rfl,hl,hz⟩
 ·exact .inl h
 refine .inr ⟨b,o,cap,rfl,hl,fun i hi=>?_⟩;obtain⟨s,h1,h2⟩:=hz i hi;have hb:=hk.block b (World.block_lt_of_cell? w _ (h1 0 _ rfl));refine ⟨s,fun j v hj=>?_,h2.later hk⟩;exact (World.cell?_of_block hb).trans (h1 j v hj)
end
section
open Classical
theorem infoStB:(prog.info? 65).map (fun i=>(i.zero.map Value.cells,i.size,i.bytes))=some (some #[.slice none 0 0,.bool false,.string ⟨#[]⟩,.bool false,.string ⟨#[]⟩,.bool false,.string ⟨#[]⟩,.bool false,.string ⟨#[]⟩,.bool false,.string ⟨#[]⟩,.bool false,.string ⟨#[]⟩],13,168):=by kernel_rfl
theorem st_info:∃ i z,prog.info? 65=some i∧i.zero=some z∧i.size=13∧i.bytes=168∧z.cells = #[.slice none 0 0,.bool false,.string ⟨#[]⟩,.bool false,.string ⟨#[]⟩,.bool false,.string ⟨#[]⟩,.bool false,.string ⟨#[]⟩,.bool false,.string ⟨#[]⟩,.bool false,.string ⟨#[]⟩]:=by
 have h:=infoStB;cases hi:prog.info? 65 with
 | none=>rw [hi] at h;cases h
 | some i =>
  rw [hi] at h;simp only [Option.map_some,Option.some.injEq,Prod.mk.injEq] at h;obtain⟨h1,h2,h3⟩:=h;cases hz:i.zero with
  | none=>rw [hz] at h1;cases h1
  | some z =>
   rw [hz] at h1;injection h1 with h1;exact ⟨i,z,rfl,hz,h2,h3,h1⟩
theorem OBS.app {w0 w:World} {v:Value} {l:List StV} (t:StV) (h:OB StV.cells 65 13 w0 w v l) (h9:l.length≤1000000) :
  ∃ u,w.alloc (.cells t.C 65)=u∧∃ v4 u4,(Builtin.append_ #[62,62] 62 #[v,.slice (some ⟨w.heap.size,0,none⟩) 1 1]).run prog u = .ok v4 u4∧OB StV.cells 65 13 w0 u4 v4 (l++[t])∧∃ F,(∀ g,v.ownBlock=some g→g∈F)∧(∀ g∈F,v.ownBlock=some g)∧Keep F w u4:=by
 have hk:=Keep.alloc [] w (.cells t.C 65);have hx:RowE StV.cells (w.alloc (.cells t.C 65)) (.slice (some ⟨w.heap.size,0,none⟩) 1 1) [t]:=.inr ⟨w.heap.size,0,1,rfl,Nat.le_refl _,by simp,fun i v hv=>stAt_box (World.alloc_heap_new w (.cells t.C 65)) i v (by simpa using hv)⟩;obtain⟨b,hbs,hoe,hback⟩:=(h.later hk.bz).oe;obtain⟨i,z,hi,hz,hs,hbt,hzc⟩:=st_info;obtain⟨v4,u4,hr4,ho4,hn4,hk4⟩:=OE.app (P:=prog) (bytes:=168) (ty:=62) underlying62 hi hz hs hbt (by rw [hzc];rfl) (by decide) StV.len StV.one hoe (.inr (by simp)) hx (by unfold maxLen;simp;omega) (by simp;omega);refine ⟨_,rfl,v4,u4,hr4,hback _ _ _ ho4,v.ownBlock.toList,fun g hg=>by rw [hg];simp,fun g hg=>by simpa using hg,?_⟩;have:=hk4 v.ownBlock.toList (fun g hg=>by rw [hg];simp);refine ⟨this.os.trans hk.os,this.tape.trans hk.tape,this.output.trans hk.output,Nat.le_trans hk.size this.size,Nat.le_trans hk.drawn this.drawn,fun j hj hn=>?_⟩;exact (this.block j (Nat.lt_of_lt_of_le hj hk.size) hn).trans (hk.block j hj (by simp))
end
section
open Classical
theorem OB.laterBox {α:Type} {enc:α→List Value} {e:TypeId} {k:Nat} {w0 w w':World} {v:Value} {l:List α} (h:OB enc e k w0 w v l) {g:Nat} (hk:Keep [g] w w') (hg:w0.heap.size≤g) (hne:∀ b,v.ownBlock=some b→b<g):OB enc e k w0 w' v l :=
 ⟨yat h.row hk (fun b hb hm=>by rw [List.mem_singleton] at hm;have:=hne b hb;omega),h.base,h.keep.trans (hk.below (by simp;exact hg) h.keep.size)⟩
abbrev OBS (w0 w:World) (v:Value) (l:List StV):Prop:=OB StV.cells 65 13 w0 w v l
def StsP (w:World) (l:List EvA) (svs:List StV):Prop:=stS svs=stepsOf l∧Ls w (svs.map fun x=>(x.v,x.s.d))∧∀ x∈svs,TyI w x.v
theorem TyI.grow {w w':World} {v:Value} (h:TyI w v) (hb:Below w.heap.size w w'):TyI w' v:=fun g hg=>by
 obtain⟨cur,hc⟩:=h g hg;exact ⟨cur,(hb.block g (yaa hc)).trans hc⟩
theorem StsP.grow {w w':World} {l:List EvA} {svs:List StV} (h:StsP w l svs) (hb:Below w.heap.size w w'):StsP w' l svs:=⟨h.1,h.2.1.grow hb,fun x hx=>(h.2.2 x hx).grow hb⟩
end
section
open Classical
def clI (a b:K):Iv K:=⟨⟨a,false⟩,⟨b,true⟩⟩
end
section
open Classical
open Go.ChangeShapes Go.WideShapes Go.ChangeAt
def SpnArg (_:World) (v:Value):Prop:=∃ s:SpanA,v=s.v
theorem SpnArg_open {H:Type} {enc:TypeId × Value→H} {W:World} {v:Value} {base:Nat} {d:DataW H} {p:List MemPlace} (hv:Value.okWide prog W .any base 40 v)
  (h:∃ m,DataW.trod enc prog W 0 (fun _=>true) true m 40 v.cells.toList=some (d,p)):SpnArg W v:=by
 obtain⟨m,hm⟩:=h;obtain⟨s,ha⟩:=span_trod hm;exact ⟨s,yen ha (by simp [ybm])⟩
theorem ygF (p q:Rat) (hp:FitQ 100000 p) (hq:FitQ 100000 q) (hle:¬ kQ q hq<kQ p hp) (w:World) :
  Calls prog 25 #[rv p,rv q] w fun e w'=>∃ v,e = .returned v∧IvR w' v [clI (kQ p hp) (kQ q hq)]∧Keep [] w w':=by
 have H1:=jX (FromRat_c p hp);have H2:=jX (FromRat_c q hq);rw [show kv (kQ p hp) = .agg (kC (kQ p hp)) from rfl] at H1
 rw [show kv (kQ q hq) = .agg (kC (kQ q hq)) from rfl] at H2
 have HBd:=jX (ycV (kQ p hp) (kQ q hq));rw [show kv (kQ p hp) = .agg (kC (kQ p hp)) from rfl,show kv (kQ q hq) = .agg (kC (kQ q hq)) from rfl] at HBd
 have hv:(clI (kQ p hp) (kQ q hq)).f<(clI (kQ p hp) (kQ q hq)).l:=by
  rw [Bd.lt_def];by_cases he:kQ p hp=kQ q hq
  ·exact .inr ⟨he,rfl,rfl⟩
  exact .inl (by show kQ p hp<kQ q hq;grind)
 have hn:cmpB (clI (kQ p hp) (kQ q hq)).f (clI (kQ p hp) (kQ q hq)).l = -1:=by
  rcases yey (clI (kQ p hp) (kQ q hq)).f (clI (kQ p hp) (kQ q hq)).l with ⟨_,g⟩|⟨h,_⟩|⟨_,g⟩
  ·exfalso;grind
  ·exact h
  exfalso;rw [g] at hv;grind
 have H3:=jX (yhD (clI (kQ p hp) (kQ q hq)));have H4:=jX (last_c (clI (kQ p hp) (kQ q hq)));have H5:=jX (yiE (clI (kQ p hp) (kQ q hq)).f (clI (kQ p hp) (kQ q hq)).l);rw [hn] at H5;have hI:(⟨⟨kQ p hp,false⟩,⟨kQ q hq,true⟩⟩:Iv K)=clI (kQ p hp) (kQ q hq):=rfl;rw [hI] at HBd;clear hv hn hI hle;generalize clI (kQ p hp) (kQ q hq)=I at *;generalize kC (kQ p hp)=F at *;generalize kC (kQ q hq)=L at *;rw [show bv I.f = .agg (bC I.f) from rfl] at H3 H5
 rw [show bv I.l = .agg (bC I.l) from rfl] at H4 H5
 rw [show iv I = .agg (iC I) from rfl] at H3 H4
 unfold rv at *;generalize sgB (p).num=n1 at *;generalize mgS (p).num=s1 at *;generalize dnS (p).den=d1 at *;generalize sgB (q).num=n2 at *;generalize mgS (q).num=s2 at *;generalize dnS (q).den=d2 at *;go_enter func25,ntmps25
 go_upto_region 1 with (fail)
 obtain⟨W,ga,gb,hW,ega,egb,Bga,Bgb,hga,hgb,hgW,HkW⟩:=al2h w (.cells #[.bool n1,.string s1,.bool false,.string d1] 28) (.cells #[.bool n2,.string s2,.bool false,.string d2] 28);rw [← hW];try rw [egb]
 try rw [ega]
 clear hW ega egb;refine yaI 6 [(5,32)] (fun _=>.cells #[.bool false,.string ⟨#[]⟩,.bool false,.string ⟨#[]⟩,.bool false,.string ⟨#[]⟩,.bool false,.string ⟨#[]⟩,.bool false,.bool false,.string ⟨#[]⟩,.bool false,.string ⟨#[]⟩,.bool false,.string ⟨#[]⟩,.bool false,.string ⟨#[]⟩,.bool false,.bool false,.bool false] 32) (by kernel_rfl) (by kernel_rfl) (by kernel_rfl) (fun t ht ev w o ho=>by simp at ht;subst ht;exact yfM ev w o ho) ?_;intro U hU;have kga:=yaf (hU.heap Bga.out (by simp));have kgb:=yaf (hU.heap Bgb.out (by simp));have Q1:Hid (∀ m:KW U,Calls prog 84 #[.agg #[.bool n1,.string s1,.bool false,.string d1]] (Wk U m) fun e w'=>e = .returned (.agg F)∧∃ m,w'=Wk U m):=fun m=>qk m (H1.out _);have Q2:Hid (∀ m:KW U,Calls prog 84 #[.agg #[.bool n2,.string s2,.bool false,.string d2]] (Wk U m) fun e w'=>e = .returned (.agg L)∧∃ m,w'=Wk U m):=fun m=>qk m (H2.out _);simp only [List.map_cons,List.map_nil,unal,isAl,if_true,if_false,Bool.false_eq_true,List.take_succ_cons,List.take_zero]
 repeat (first
  | go_big_quiet_skip
  | (go_big_quiet_want;first
   | (refine ybX _ _ #[(0,.agg F),(1,.agg L)] ((iC I)) rfl (by simp only [List.map_toArray,List.map_cons,List.map_nil];rfl) HBd.out ?_;go_simp;go_big_quiet_on)
   | (go_big_quiet_op;first|go_big_quiet_on|go_big_quiet_call (first
    | (go_at_call 84;with_reducible exact (Q1).out _)|(go_at_call 84;with_reducible exact (Q2).out _)))))
 refine wpQuiet_nil ?_;intro p hp1 hp2 w4 hk_w4 hz;have bgx:=hz (5,32) (by simp);have hgx:=hp1 5 (by simp);simp only [List.map_cons,List.map_nil,pl,List.drop_succ_cons,List.drop_zero];dsimp only at bgx;generalize p 5=gi at *;have Bgi:=jX bgx;have hgi:=hgx;clear hz hp1 hp2 bgx hgx;refine wR gi (iC I) Bgi.out (by exact yct I) (by rfl) (yeI I) (fun w5 b5 k5=>?_);go_simp;refine fO ?_;have HW5:=jX (HkW.out.tz (hk_w4.trans k5 (by simp;omega)));have Bgi:=jX b5;clear hk_w4 k5 b5 hU kga kgb Q1 Q2 H1 H2 HBd U p;have HLi:=jX ((ybc Bgi.out).ld (yaa Bgi.out));rw [show iv I = .agg (iC I) from rfl] at HLi
 go_upto_region 2 with (fail)
 have Q3:Hid (∀ m:KW w5,Calls prog 77 #[.agg (iC I)] (Wk w5 m) fun e w'=>e = .returned (.agg (bC I.f))∧∃ m,w'=Wk w5 m):=fun m=>qk m (H3.out _);have Q4:Hid (∀ m:KW w5,Calls prog 78 #[.agg (iC I)] (Wk w5 m) fun e w'=>e = .returned (.agg (bC I.l))∧∃ m,w'=Wk w5 m):=fun m=>qk m (H4.out _);have Q5:Hid (∀ m:KW w5,Calls prog 76 #[.agg (bC I.f),.agg (bC I.l)] (Wk w5 m) fun e w'=>e = .returned (.int .i64 (-1))∧∃ m,w'=Wk w5 m):=fun m=>qk m (H5.out _);refine yad (by kernel_rfl) (by kernel_rfl) ?_
 repeat (first
  | go_big_quiet_skip
  | (go_big_quiet_want;first
   | (refine yaH _ _ _ (.agg (iC I)) rfl rfl (by rintro _ ⟨m,rfl⟩;exact HLi.out m) ?_;go_simp;go_big_quiet_on)
   | (go_big_quiet_op;first|go_big_quiet_on|go_big_quiet_call (first
    | (go_at_call 77;with_reducible exact (Q3).out _)|(go_at_call 78;with_reducible exact (Q4).out _)|(go_at_call 76;with_reducible exact (Q5).out _)))))
 refine wpQuiet_nil ?_;rintro w6 ⟨⟨_,hk_w6⟩,rfl⟩;have HW6:=jX (HW5.out.tz hk_w6);have Bgi:=jX (hk_w6.heap Bgi.out (by simp));clear hk_w6 Q3 Q4 Q5 HLi H3 H4 H5;go_upto_region 4 with (fail)
 refine wp_region_lit ?_;refine wX ⟨gi,0,none⟩ (ydo _ gi 0 I (ybc Bgi.out)) ?_;go_simp;refine fO ?_;obtain⟨ub,gy,e3,e4,hz1,hkx,hx⟩:=IvR.single I w6;refine yaU (v:=.slice (some ⟨w6.heap.size,0,none⟩) 1 1) (by rfl) (ybb 22 1 #[(0,.tmp 17)] #[(0,iv I)] _ rfl (by simp only [List.map_toArray,List.map_cons,List.map_nil];rfl) (ybu _ _)) (fun K hK=>?_);rw [e3,e4];clear e3;go_simp;go_step
 have Hx:=jX hx;have Hk:=jX (HW6.out.tz hkx);clear hx hkx;go_wp2_with fail;go_ret
 exact ⟨_,rfl,Hx.out,Hk.out⟩
theorem yhi (p q:Rat) (hp:FitQ 100000 p) (hq:FitQ 100000 q) (hgt:kQ q hq<kQ p hp) (w:World) :
  Calls prog 25 #[rv p,rv q] w fun e w'=>e = .returned (.slice none 0 0)∧Keep [] w w':=by
 have H1:=jX (FromRat_c p hp);have H2:=jX (FromRat_c q hq);rw [show kv (kQ p hp) = .agg (kC (kQ p hp)) from rfl] at H1
 rw [show kv (kQ q hq) = .agg (kC (kQ q hq)) from rfl] at H2
 have HBd:=jX (ycV (kQ p hp) (kQ q hq));rw [show kv (kQ p hp) = .agg (kC (kQ p hp)) from rfl,show kv (kQ q hq) = .agg (kC (kQ q hq)) from rfl] at HBd
 have hn:cmpB (clI (kQ p hp) (kQ q hq)).f (clI (kQ p hp) (kQ q hq)).l=1:=by
  have hv:(clI (kQ p hp) (kQ q hq)).l<(clI (kQ p hp) (kQ q hq)).f:=.inl hgt;rcases yey (clI (kQ p hp) (kQ q hq)).f (clI (kQ p hp) (kQ q hq)).l with ⟨h,_⟩|⟨_,g⟩|⟨_,g⟩
  ·exact h
  ·exfalso;grind
  exfalso;rw [g] at hv;grind
 have H3:=jX (yhD (clI (kQ p hp) (kQ q hq)));have H4:=jX (last_c (clI (kQ p hp) (kQ q hq)));have H5:=jX (yiE (clI (kQ p hp) (kQ q hq)).f (clI (kQ p hp) (kQ q hq)).l);rw [hn] at H5;have hI:(⟨⟨kQ p hp,false⟩,⟨kQ q hq,true⟩⟩:Iv K)=clI (kQ p hp) (kQ q hq):=rfl;rw [hI] at HBd;clear hn hI hgt;generalize clI (kQ p hp) (kQ q hq)=I at *;generalize kC (kQ p hp)=F at *;generalize kC (kQ q hq)=L at *;rw [show bv I.f = .agg (bC I.f) from rfl] at H3 H5
 rw [show bv I.l = .agg (bC I.l) from rfl] at H4 H5
 rw [show iv I = .agg (iC I) from rfl] at H3 H4
 unfold rv at *;generalize sgB (p).num=n1 at *;generalize mgS (p).num=s1 at *;generalize dnS (p).den=d1 at *;generalize sgB (q).num=n2 at *;generalize mgS (q).num=s2 at *;generalize dnS (q).den=d2 at *;go_enter func25,ntmps25
 go_upto_region 1 with (fail)
 obtain⟨W,ga,gb,hW,ega,egb,Bga,Bgb,hga,hgb,hgW,HkW⟩:=al2h w (.cells #[.bool n1,.string s1,.bool false,.string d1] 28) (.cells #[.bool n2,.string s2,.bool false,.string d2] 28);rw [← hW];try rw [egb]
 try rw [ega]
 clear hW ega egb;refine yaI 6 [(5,32)] (fun _=>.cells #[.bool false,.string ⟨#[]⟩,.bool false,.string ⟨#[]⟩,.bool false,.string ⟨#[]⟩,.bool false,.string ⟨#[]⟩,.bool false,.bool false,.string ⟨#[]⟩,.bool false,.string ⟨#[]⟩,.bool false,.string ⟨#[]⟩,.bool false,.string ⟨#[]⟩,.bool false,.bool false,.bool false] 32) (by kernel_rfl) (by kernel_rfl) (by kernel_rfl) (fun t ht ev w o ho=>by simp at ht;subst ht;exact yfM ev w o ho) ?_;intro U hU;have kga:=yaf (hU.heap Bga.out (by simp));have kgb:=yaf (hU.heap Bgb.out (by simp));have Q1:Hid (∀ m:KW U,Calls prog 84 #[.agg #[.bool n1,.string s1,.bool false,.string d1]] (Wk U m) fun e w'=>e = .returned (.agg F)∧∃ m,w'=Wk U m):=fun m=>qk m (H1.out _);have Q2:Hid (∀ m:KW U,Calls prog 84 #[.agg #[.bool n2,.string s2,.bool false,.string d2]] (Wk U m) fun e w'=>e = .returned (.agg L)∧∃ m,w'=Wk U m):=fun m=>qk m (H2.out _);simp only [List.map_cons,List.map_nil,unal,isAl,if_true,if_false,Bool.false_eq_true,List.take_succ_cons,List.take_zero]
 repeat (first
  | go_big_quiet_skip
  | (go_big_quiet_want;first
   | (refine ybX _ _ #[(0,.agg F),(1,.agg L)] ((iC I)) rfl (by simp only [List.map_toArray,List.map_cons,List.map_nil];rfl) HBd.out ?_;go_simp;go_big_quiet_on)
   | (go_big_quiet_op;first|go_big_quiet_on|go_big_quiet_call (first
    | (go_at_call 84;with_reducible exact (Q1).out _)|(go_at_call 84;with_reducible exact (Q2).out _)))))
 refine wpQuiet_nil ?_;intro p hp1 hp2 w4 hk_w4 hz;have bgx:=hz (5,32) (by simp);have hgx:=hp1 5 (by simp);simp only [List.map_cons,List.map_nil,pl,List.drop_succ_cons,List.drop_zero];dsimp only at bgx;generalize p 5=gi at *;have Bgi:=jX bgx;have hgi:=hgx;clear hz hp1 hp2 bgx hgx;refine wR gi (iC I) Bgi.out (by exact yct I) (by rfl) (yeI I) (fun w5 b5 k5=>?_);go_simp;refine fO ?_;have HW5:=jX (HkW.out.tz (hk_w4.trans k5 (by simp;omega)));have Bgi:=jX b5;clear hk_w4 k5 b5 hU kga kgb Q1 Q2 H1 H2 HBd U p;have HLi:=jX ((ybc Bgi.out).ld (yaa Bgi.out));rw [show iv I = .agg (iC I) from rfl] at HLi
 go_upto_region 2 with (fail)
 have Q3:Hid (∀ m:KW w5,Calls prog 77 #[.agg (iC I)] (Wk w5 m) fun e w'=>e = .returned (.agg (bC I.f))∧∃ m,w'=Wk w5 m):=fun m=>qk m (H3.out _);have Q4:Hid (∀ m:KW w5,Calls prog 78 #[.agg (iC I)] (Wk w5 m) fun e w'=>e = .returned (.agg (bC I.l))∧∃ m,w'=Wk w5 m):=fun m=>qk m (H4.out _);have Q5:Hid (∀ m:KW w5,Calls prog 76 #[.agg (bC I.f),.agg (bC I.l)] (Wk w5 m) fun e w'=>e = .returned (.int .i64 1)∧∃ m,w'=Wk w5 m):=fun m=>qk m (H5.out _);refine yad (by kernel_rfl) (by kernel_rfl) ?_
 repeat (first
  | go_big_quiet_skip
  | (go_big_quiet_want;first
   | (refine yaH _ _ _ (.agg (iC I)) rfl rfl (by rintro _ ⟨m,rfl⟩;exact HLi.out m) ?_;go_simp;go_big_quiet_on)
   | (go_big_quiet_op;first|go_big_quiet_on|go_big_quiet_call (first
    | (go_at_call 77;with_reducible exact (Q3).out _)|(go_at_call 78;with_reducible exact (Q4).out _)|(go_at_call 76;with_reducible exact (Q5).out _)))))
 refine wpQuiet_nil ?_;rintro w6 ⟨⟨_,hk_w6⟩,rfl⟩;have HW6:=jX (HW5.out.tz hk_w6);have Bgi:=jX (hk_w6.heap Bgi.out (by simp));clear hk_w6 Q3 Q4 Q5 HLi H3 H4 H5;go_wp2_with fail;go_ret
 exact ⟨rfl,HW6.out⟩
end
end Go.Proofs.YtpgffjjpiafhpaaGreatDoor
