/- Parts of a proof: Ig Hs. -/
import Derived.Test.YtejegogbhpmgfaaGreatDoorE38
import Derived.Test.YtejegogbhpmgfaaGreatDoorE22
import Derived.Test.YtejegogbhpmgfaaGreatDoorE41
import Derived.Test.YtejegogbhpmgfaaGreatDoorE37
set_option linter.unusedVariables false
set_option linter.unusedSimpArgs false
set_option maxRecDepth 100000
set_option maxHeartbeats 8000000
namespace Go.Proofs.YtejegogbhpmgfaaGreatDoor
open Go.RowKit Tryz
section
open Classical
section
variable {S:List K} {w0 w:World} {L:List (Value × List (Iv K))} {D T l:List (Iv K)} {v:Value} {da ta:Option Addr} {dc tc:Nat} {q:Rat} {k0:Nat}
theorem MP.pshift (h:MP S w0 w L) (hv:(v,l)∈L) (hk0:k0≤900) (hsm:∀ i∈l,SmI k0 i) (hq:FitQ 24 q) (hp:Per S (l.map (mvI q))):Calls prog 99 #[v,.agg (rC q)] w (PerPost S w0 L (l.map (mvI q))) :=
 ybH h hp (shift_p l q k0 hk0 hsm hq w v (h.get hv) (by have:=h.len hv;omega))
theorem MP.mshift (h:MP S w0 w L) (hD:(.slice da D.length dc,D)∈L) (hT:(.slice ta T.length tc,T)∈L) (hk0:k0≤900) (hsD:∀ i∈D,SmI k0 i) (hsT:∀ i∈T,SmI k0 i) (hq:FitQ 24 q) (hpD:Per S (D.map (mvI q))) (hpT:Per S (T.map (mvI q))) :
  Calls prog 61 #[.agg #[.slice da D.length dc,.slice ta T.length tc],.agg (rC q)] w (BolPost S w0 L (D.map (mvI q)) (T.map (mvI q))):=by
 have H0:=jX h;have hD:=jX hD;have hT:=jX hT;have K1:=jX (fun b u M (h:MP S b u M) (hm:(.slice da D.length dc,D)∈M)=>h.pshift hm hk0 hsD hq hpD);have K2:=jX (fun b u M (h:MP S b u M) (hm:(.slice ta T.length tc,T)∈M)=>h.pshift hm hk0 hsT hq hpT);clear h hsD hsT hq hpD hpT;generalize D.map (mvI q)=D2 at *;generalize T.map (mvI q)=T2 at *;go_enter func61,ntmps61
 go_upto_region 1 with (fail)
 obtain⟨W,ga,gb,gc,hW,ega,egb,egc,Bga,Bgb,Bgc,hga,hgb,hgc,hgW,HkW⟩:=al3h w (.cells #[.slice da D.length dc,.slice ta T.length tc] 29) (.cells (rC q) 34) (.cells #[.slice none 0 0,.slice none 0 0] 29);rw [← hW];try rw [egc]
 try rw [egb]
 try rw [ega]
 clear hW ega egb egc;have HM:=jX (H0.out.here.move HkW.out).here;refine yaj (S:=fun u=>Keep [] W u) 8 (by kernel_rfl) (by kernel_rfl) (fun _ _ d _ _ h=>by cases d<;>exact h) ?_;have HM:=jX (HM.out.move (Keep.drew [] W));generalize World.drew W=u at *;have hS0:=HM.out.keep;refine' jV (v:=_) 0 hS0 (fun w hw=>?hf0) (fun K hK=>?kf0)
 case hf0=>(have pga:=yaa (hw.heap Bga.out (by simp));go_simp;try rfl)
 go_simp;refine hK _ ?_;clear hK K;refine' jV (v:=_) 1 hS0 (fun w hw=>?hf1) (fun K hK=>?kf1)
 case hf1=>(have pga:=yaa (hw.heap Bga.out (by simp));go_simp;try rfl)
 go_simp;refine hK _ ?_;clear hK K;refine jV (v:=.agg (rC q)) 2 hS0 (fun w hw=>yak _ _ ⟨gb,0,none⟩ _ rfl rfl (ycS (hw.heap Bgb.out (by simp)))) (fun K hK=>?_);go_simp;refine hK _ ?_;clear hK K;refine' jV (v:=_) 4 hS0 (fun w hw=>?hf4) (fun K hK=>?kf4)
 case hf4=>(have pga:=yaa (hw.heap Bga.out (by simp));go_simp;try rfl)
 go_simp;refine hK _ ?_;clear hK K;refine' jV (v:=_) 5 hS0 (fun w hw=>?hf5) (fun K hK=>?kf5)
 case hf5=>(have pga:=yaa (hw.heap Bga.out (by simp));go_simp;try rfl)
 go_simp;refine hK _ ?_;clear hK K;refine jV (v:=.agg (rC q)) 6 hS0 (fun w hw=>yak _ _ ⟨gb,0,none⟩ _ rfl rfl (ycS (hw.heap Bgb.out (by simp)))) (fun K hK=>?_);go_simp;refine hK _ ?_;clear hK K;refine jO 3 (fun K hK=>?_);refine yae 99 #[.slice da D.length dc,.agg (rC q)] (by go_simp) ?_;refine (K1.out _ _ _ HM.out (by simp [hD.out])).mono ?_;rintro e w1 ⟨vo_w1,vc_w1,rfl,hm_w1⟩;have HM:=jX hm_w1;clear hm_w1;refine ⟨_,rfl,?_⟩;have hS0:=HM.out.keep;go_simp;refine hK _ _ hS0 ?_;clear hK K;refine jO 7 (fun K hK=>?_);refine yae 99 #[.slice ta T.length tc,.agg (rC q)] (by go_simp) ?_;refine (K2.out _ _ _ HM.out (by simp [hT.out])).mono ?_;rintro e w2 ⟨vo_w2,vc_w2,rfl,hm_w2⟩;have HM:=jX hm_w2;clear hm_w2;refine ⟨_,rfl,?_⟩;have hS0:=HM.out.keep;go_simp;refine hK _ _ hS0 ?_;clear hK K;refine ⟨by kernel_rfl,?_⟩;simp only [List.drop_succ_cons,List.drop_zero];have bz:=jX (HM.out.keep.heap Bgc.out (by simp));have pgc:=yaa bz.out;have fgc:=yaf bz.out;have lgc:=yab bz.out;go_wp2_with fail;obtain⟨u9,e9,b9,k9⟩:=st2 (x:=.slice vo_w1 D2.length vc_w1) (y:=.slice vo_w2 T2.length vc_w2) bz.out;rw [← e9];clear e9 pgc fgc lgc;have pgc:=yaa b9;refine bodyPost_ret (v:=.agg #[.slice vo_w1 D2.length vc_w1,.slice vo_w2 T2.length vc_w2]) ?_ rfl ⟨_,_,_,_,rfl,MP.fin H0.out.keep HkW.out HM.out bz.out (by simp) (by omega) k9 ?_⟩
 ·rw [yag rfl];go_simp
 intro p hp;simp only [List.mem_cons] at hp ⊢;grind
theorem MP.mshiftE {D2 T2:List (Iv K)} (h:MP S w0 w L) (hD:(.slice da D.length dc,D)∈L) (hT:(.slice ta T.length tc,T)∈L) (hk0:k0≤900) (hsD:∀ i∈D,SmI k0 i) (hsT:∀ i∈T,SmI k0 i) (hq:FitQ 24 q) (hpD:Per S D2) (hpT:Per S T2) (hd:D.map (mvI q)=D2) (ht:T.map (mvI q)=T2) :
  Calls prog 61 #[.agg #[.slice da D.length dc,.slice ta T.length tc],.agg (rC q)] w (BolPost S w0 L D2 T2):=by
 subst hd ht;exact h.mshift hD hT hk0 hsD hsT hq hpD hpT
theorem per_mv {S0:List K} {q:Rat} {k0:Nat} {l:List (Iv K)} (hk:k0≤900) (hq:FitQ 24 q) (hsm:∀ i∈l,SmI k0 i) (h:Per S0 l) (hS:∀ x∈S0,mvK q x∈S):Per S (l.map (mvI q)) :=
 ⟨norm_mv hk hq hsm h.norm,fun i hi=>by
  obtain⟨j,hj,rfl⟩:=List.mem_map.1 hi
  exact ⟨hS _ (h.pts j hj).1,hS _ (h.pts j hj).2⟩⟩
theorem MP.below {w':World} (h:MP S w0 w L) (hb:Below w.heap.size w w'):MP S w' w' L :=
 ⟨⟨Keep.refl _ _,fun p hp=>(h.mi.2 p hp).laterB hb⟩,h.per,h.few⟩
theorem sub_nil {T D:List (Iv K)} (hs:SubL T D):yaz 3 T D=[]:=(hasL_ne (ycg 3 T D)).2 fun x=>by
 rw [yfb];cases hT:hasL T x with
 | false=>rfl
 | true=>rw [hs x hT];rfl
theorem MP.mcheckZ (h:MP S w0 w L) (hD:(.slice da D.length dc,D)∈L) (hT:(.slice ta T.length tc,T)∈L) (hs:SubL T D):Calls prog 55 #[.agg #[.slice da D.length dc,.slice ta T.length tc]] w fun e w'=>e = .returned (.int .i64 0)∧Below w.heap.size w w':=by
 have nD:=(h.per _ hD).norm;have nT:=(h.per _ hT).norm;have z1:=yhB nD;have z2:=yhB nT
 have:=mcheckB_p (D.map RawI.of) (T.map RawI.of) (fun r hr=>by obtain⟨i,_,rfl⟩:=List.mem_map.1 hr;exact yiL i) (fun r hr=>by obtain⟨i,_,rfl⟩:=List.mem_map.1 hr;exact yiL i)
  (by rw [List.length_map];exact h.len hD) (by rw [List.length_map];exact h.len hT) w _ _ (iv_rir (h.get hD)) (iv_rir (h.get hT))
 rw [chkB_v z1 z2 rfl rfl,if_pos (sub_nil hs)] at this;exact this
end
theorem movS_of {w:World} {v:Value} (h:MovArg w v):∃ l:List K,l.length≤100∧(∀ x∈l,Sm 3 x)∧∃ D T,Per l D∧Per l T∧∀ S,(∀ x∈l,x∈S)→MovC S w v D T:=by
 obtain⟨dv,tv,rfl,⟨dl,hd,h9⟩,⟨tl,ht,h8⟩⟩:=h;have hp1:∀ x∈ptsL (ivsOf dl),x∈ptsL (ivsOf dl)++ptsL (ivsOf tl):=fun x hx=>List.mem_append_left _ hx;have hp2:∀ x∈ptsL (ivsOf tl),x∈ptsL (ivsOf dl)++ptsL (ivsOf tl):=fun x hx=>List.mem_append_right _ hx
 have hsm:∀ (l:List SpanA),∀ x∈ptsL (ivsOf l),Sm 3 x:=fun l x hx=>by
  obtain⟨i,hi,h⟩:=ycQ.1 hx;unfold ivsOf at hi;obtain⟨s,_,rfl⟩:=List.mem_map.1 hi;rcases h with rfl|rfl
  ·exact (yiO s).1
  exact (yiO s).2
 refine ⟨ptsL (ivsOf dl)++ptsL (ivsOf tl),?_,fun x hx=>?_,ydS dl,yaz 2 (ydS tl) (ydS dl),yeo hp1,yff 2 (yeo hp2).pts (yeo hp1).pts,fun S hS=>⟨?_,yfM _,ycg _ _ _,sub_mk _ _,fun b u M hk hm=>?_⟩⟩
 ·have:=yhw dl
  have:=yhw tl;rw [List.length_append];omega
 ·rcases List.mem_append.1 hx with hx|hx
  ·exact hsm _ x hx
  exact hsm _ x hx
 ·obtain⟨ao,ac,rfl,_⟩:=hd
  obtain⟨bo,bc,rfl,_⟩:=ht;exact ⟨_,_,_,_,_,_,rfl⟩
 exact hm.lbool (hd.later hk) (ht.later hk) h9 h8 (fun x hx=>hS x (List.mem_append_left _ hx)) (fun x hx=>hS x (List.mem_append_right _ hx))
theorem insS_of {w:World} {v:Value} (h:InsArg w v):∃ k,InsC v k∧Sm 3 k:=by
 obtain⟨a,rfl⟩:=h;exact ⟨a.k,⟨⟨_,_,_,_,_,rfl⟩,fun u=>lreal_c a u⟩,ydl a⟩
theorem per_sm {l:List K} {k:Nat} {D:List (Iv K)} (h:Per l D) (hs:∀ x∈l,Sm k x):∀ i∈D,SmI k i:=fun i hi=>⟨hs _ (h.pts i hi).1,hs _ (h.pts i hi).2⟩
theorem rneg_r (a:Rat) (w:World):Calls prog 63 #[.agg (rC a)] w fun e w'=>e = .returned (.agg (rC (-a)))∧Keep [] w w':=by
 have h:=rneg_c a w;rw [ygp,ygp] at h;exact h
end
section
open Classical
theorem movingboolShifts_c (w:World) (v0 v1 v2:Value) (m0:MovArg w v0) (m1:FrArg w v1) (m2:InsArg w v2):Calls prog 14 #[v0,v1,v2] w fun e w'=>e = .returned (.bool true)∧Below w.heap.size w w':=by
 obtain⟨l0,q0,sm0,D0,T0,pD,pT,c0⟩:=movS_of m0;obtain⟨q1,C1⟩:=fraC_of m1;have hq1:=jX C1.fit;obtain⟨k2,C2,sk2⟩:=insS_of m2;obtain⟨S,hS0⟩:∃ S,l0++l0.map (mvK q1)=S:=⟨_,rfl⟩;have hS:S.length≤1000:=by rw [← hS0,List.length_append,List.length_map];omega
 have C0:=c0 S (by rw [← hS0];simp +contextual);have sD:=per_sm pD sm0;have sT:=per_sm pT sm0;have hqq:=hq1.out;have XD:=jX (per_mv (S:=S) (by decide) hqq sD pD (by intro x hx;rw [← hS0];exact List.mem_append_right _ (List.mem_map_of_mem hx)));have XT:=jX (per_mv (S:=S) (by decide) hqq sT pT (by intro x hx;rw [← hS0];exact List.mem_append_right _ (List.mem_map_of_mem hx)));have p0:Per S D0:=⟨pD.norm,pD.pts.mono (by rw [← hS0];simp +contextual)⟩;have p1:Per S T0:=⟨pT.norm,pT.pts.mono (by rw [← hS0];simp +contextual)⟩;obtain⟨ao0,an0,ac0,bo0,bn0,bc0,rfl⟩:=C0.form;have nD0:=C0.nD;have nT0:=C0.nT;have sT0:=C0.sub;obtain⟨f1,f2,f3,f4,rfl⟩:=C1.form;obtain⟨x1,x2,x3,x4,x5,rfl⟩:=C2.form;have hnq:FitQ 24 (-q1):=FitQ.neg hqq;have bD:=yiJ sD (by decide) hqq;have bT:=yiJ sT (by decide) hqq;have YD:=jX p0;have YT:=jX p1;have BD:=jX bD;have BT:=jX bT;have SD:=jX sD;have ST:=jX sT;have SD2:Hid (∀ i∈D0.map (mvI q1),SmI 28 i):=jX (fun i hi=>by obtain⟨j,hj,rfl⟩:=List.mem_map.1 hi;exact mvI_sm (sD j hj) (by decide) hqq);have ST2:Hid (∀ i∈T0.map (mvI q1),SmI 28 i):=jX (fun i hi=>by obtain⟨j,hj,rfl⟩:=List.mem_map.1 hi;exact mvI_sm (sT j hj) (by decide) hqq);have HSub:=jX (sub_mv (by decide) hqq sT sD nD0 nT0.val sT0);have Hnq:=jX hnq;have HMo:=jX (moved1 sk2 (by decide) hqq);obtain⟨qb,e0⟩:∃ q,holds T0 k2=q:=⟨_,rfl⟩;obtain⟨rb,e1⟩:∃ q,holds D0 k2=q:=⟨_,rfl⟩;have e2:holds (T0.map (mvI q1)) (mvK q1 k2)=qb:=(ygd (by decide) hqq sk2 sT).trans e0;have e3:holds (D0.map (mvI q1)) (mvK q1 k2)=rb:=(ygd (by decide) hqq sk2 sD).trans e1;have Xe0:=jX e0;have Xe1:=jX e1;have Xe2:=jX e2;have Xe3:=jX e3;clear e0 e1 e2 e3 sD sT bD bT hqq hnq p0 p1 pD pT sm0 sk2 hS0;generalize hD2:D0.map (mvI q1)=D2 at *;generalize hT2:T0.map (mvI q1)=T2 at *;have HD2:=jX hD2;have HT2:=jX hT2;clear hD2 hT2;have HC0:=jX C0;have HC1:=jX C1;have HC2:=jX C2;clear m1 C1;clear m2 C2;clear m0 q0 c0 C0 l0;go_enter func14,ntmps14
 go_upto_region 1 with (fail)
 obtain⟨W,ga,gb,gc,hW,ega,egb,egc,Bga,Bgb,Bgc,hga,hgb,hgc,hgW,HkW⟩:=al3h w (.cells #[.slice ao0 an0 ac0,.slice bo0 bn0 bc0] 24) (.cells #[.int .i64 f1,.int .i64 f2,.int .u8 f3,.int .u8 f4] 61) (.cells #[.int .u8 x1,.int .u8 x2,.int .u8 x3,.int .u8 x4,.bool x5] 26);rw [← hW];try rw [egc]
 try rw [egb]
 try rw [ega]
 clear hW ega egb egc;have HM:=jX (MP.start hS W);have HK:=jX HkW.out;clear hS HkW;refine ycE (S:=fun u=>Keep [] W u) 9 [(7,29),(8,34),(9,36)] (fun t=>if t=29 then .cells #[.slice none 0 0,.slice none 0 0] 29 else if t=34 then .cells #[.bool false,.string ⟨#[]⟩,.bool false,.string ⟨#[]⟩] 34 else .cells #[.bool false,.string ⟨#[]⟩,.bool false,.string ⟨#[]⟩,.bool false,.string ⟨#[]⟩,.bool false,.string ⟨#[]⟩,.bool false] 36) (by kernel_rfl) (by kernel_rfl) (by kernel_rfl) (fun t ht ev w o ho=>(by simp at ht;rcases ht with rfl|rfl|rfl<;>first|(rw [if_pos rfl];exact yhY ev w o ho)|(rw [if_neg (by decide),if_pos rfl];exact yeb ev w o ho)|(rw [if_neg (by decide),if_neg (by decide)];exact ygL ev w o ho))) (fun _ _ d _ _ h=>by cases d<;>exact h) (fun _ _ d _ _ h=>by cases d<;>exact h) (fun _ _ h k=>h.tz k) ?_
 simp only [List.map_cons,List.map_nil,unal,isAl,if_true,if_false,Bool.false_eq_true];have hS0:=Keep.drew [] W;have HM:=jX (HM.out.move hS0).here;generalize World.drew W=u at *;refine' jN (v:=_) 0 hS0 (fun _ _ h k=>h.tz k) (fun w hw=>?hr10) (fun K hK=>?kr10)
 case hr10=>(have pga:=yaa (hw.heap Bga.out (by simp));go_simp;try rfl)
 go_simp;refine hK _ ?_;clear hK K;refine' jN (v:=_) 2 hS0 (fun _ _ h k=>h.tz k) (fun w hw=>?hr12) (fun K hK=>?kr12)
 case hr12=>(have pgb:=yaa (hw.heap Bgb.out (by simp));go_simp;try rfl)
 go_simp;refine hK _ ?_;clear hK K;refine' jN (v:=_) 4 hS0 (fun _ _ h k=>h.tz k) (fun w hw=>?hr14) (fun K hK=>?kr14)
 case hr14=>(have pgc:=yaa (hw.heap Bgc.out (by simp));go_simp;try rfl)
 go_simp;refine hK _ ?_;clear hK K;refine' jN (v:=_) 6 hS0 (fun _ _ h k=>h.tz k) (fun w hw=>?hr16) (fun K hK=>?kr16)
 case hr16=>(go_simp;try rfl)
 go_simp;refine hK _ ?_;clear hK K;refine' jN (v:=_) 7 hS0 (fun _ _ h k=>h.tz k) (fun w hw=>?hr17) (fun K hK=>?kr17)
 case hr17=>(go_simp;try rfl)
 go_simp;refine hK _ ?_;clear hK K;refine' jN (v:=_) 8 hS0 (fun _ _ h k=>h.tz k) (fun w hw=>?hr18) (fun K hK=>?kr18)
 case hr18=>(go_simp;try rfl)
 go_simp;refine hK _ ?_;clear hK K;refine jM 1 (fun u hu K hK=>?_);have HM:=jX (HM.out.move hu).here;have hS0:=hS0.tz hu;clear hu;refine yae 15 #[.agg #[.slice ao0 an0 ac0,.slice bo0 bn0 bc0]] (by go_simp) ?_;refine (HC0.out.call _ _ _ (HK.out.tz hS0) HM.out).mono ?_;rintro e w1 ⟨da_w1,dc_w1,ta_w1,tc_w1,rfl,hm_w1⟩;have hk:=hm_w1.keep;have HM:=jX hm_w1.here;clear hm_w1;have hS0:=hS0.tz hk;refine ⟨_,rfl,?_⟩;go_simp;refine hK _ _ hS0 hk ?_;clear hK K hk;refine jM 3 (fun u hu K hK=>?_);have HM:=jX (HM.out.move hu).here;have hS0:=hS0.tz hu;clear hu;refine yae 40 #[.agg #[.int .i64 f1,.int .i64 f2,.int .u8 f3,.int .u8 f4]] (by go_simp) ?_;refine (HC1.out.call _).mono ?_;rintro e w2 ⟨rfl,hk⟩;have HM:=jX (HM.out.move hk).here;have hS0:=hS0.tz hk;refine ⟨_,rfl,?_⟩;go_simp;refine hK _ _ hS0 hk ?_;clear hK K hk;refine jM 5 (fun u hu K hK=>?_);have HM:=jX (HM.out.move hu).here;have hS0:=hS0.tz hu;clear hu;refine yae 16 #[.agg #[.int .u8 x1,.int .u8 x2,.int .u8 x3,.int .u8 x4,.bool x5]] (by go_simp) ?_;refine (HC2.out.call _).mono ?_;rintro e w3 ⟨rfl,hk⟩;have HM:=jX (HM.out.move hk).here;have hS0:=hS0.tz hk;refine ⟨_,rfl,?_⟩;go_simp;refine hK _ _ hS0 hk ?_;clear hK K hk;intro w4 hu;have HM:=jX (HM.out.move hu).here;have hS0:=hS0.tz hu;clear hu;refine ⟨by kernel_rfl,fun p hp1 hp2 _ hz=>?_⟩;simp only [List.map_cons,List.map_nil,pl,List.drop_succ_cons,List.drop_zero];have b7:=hz (7,29) (by simp);have h7:=hp1 7 (by simp);have b8:=hz (8,34) (by simp);have h8:=hp1 8 (by simp);have b9:=hz (9,36) (by simp);have h9:=hp1 9 (by simp);have n7_8:p 7≠p 8:=fun h=>absurd (hp2 7 (by simp) 8 (by simp) h) (by decide);have n7_9:p 7≠p 9:=fun h=>absurd (hp2 7 (by simp) 9 (by simp) h) (by decide);have n8_9:p 8≠p 9:=fun h=>absurd (hp2 8 (by simp) 9 (by simp) h) (by decide);dsimp only at b7 b8 b9;rw [if_pos rfl] at b7;rw [if_neg (by decide),if_pos rfl] at b8;rw [if_neg (by decide),if_neg (by decide)] at b9;generalize p 7=g7 at *;generalize p 8=g8 at *;generalize p 9=g9 at *;clear hz hp1 hp2 p;have HM:=jX (HM.out.re hS0);clear hS0;go_simp;refine yal (by rfl) _ _ _ rfl g7 (#[.slice da_w1 D0.length dc_w1,.slice ta_w1 T0.length tc_w1]) rfl rfl _ _ b7 (by exact b_size) (by rfl) (b_one _ _ _ _ _ _) (fun K hK=>?_);have o7:=b7;clear b7;obtain⟨w5,e7,b7,k7⟩:=yam (cs:=#[.slice da_w1 D0.length dc_w1,.slice ta_w1 T0.length tc_w1]) o7;rw [e7];go_simp;refine hK _ _ ?_;clear hK K e7;have b8:=k7.heap b8 (by simp [n7_8,n7_8.symm]);have b9:=k7.heap b9 (by simp [n7_9,n7_9.symm]);have HM:=jX (HM.out.put o7 (by simp) k7 h7);clear k7 o7;refine yal (by rfl) _ _ _ rfl g8 ((rC q1)) rfl rfl _ _ b8 (by exact rc_size) (by rfl) (all_oneCell_toArray (yjG q1)) (fun K hK=>?_);have o8:=b8;clear b8;obtain⟨w6,e8,b8,k8⟩:=yam (cs:=(rC q1)) o8;rw [e8];go_simp;refine hK _ _ ?_;clear hK K e8;have b7:=k8.heap b7 (by simp [n7_8,n7_8.symm]);have b9:=k8.heap b9 (by simp [n8_9,n8_9.symm]);have HM:=jX (HM.out.put o8 (by simp) k8 h8);clear k8 o8;refine yal (by rfl) _ _ _ rfl g9 ((kC k2)) rfl rfl _ _ b9 (by exact k_size) (by rfl) (all_oneCell_toArray (yaG k2.1)) (fun K hK=>?_);have o9:=b9;clear b9;obtain⟨w7,e9,b9,k9⟩:=yam (cs:=(kC k2)) o9;rw [e9];go_simp;refine hK _ _ ?_;clear hK K e9;have b7:=k9.heap b7 (by simp [n7_9,n7_9.symm]);have b8:=k9.heap b8 (by simp [n8_9,n8_9.symm]);have HM:=jX (HM.out.put o9 (by simp) k9 h9);clear k9 o9;have hk:=HM.out.keep;have HM:=jX HM.out.here;have HK:=jX (HK.out.tz hk);have Bg7:=jX b7;have Bg8:=jX b8;have Bg9:=jX b9;clear hk b7 h7 b8 h8 b9 h9 n7_8 n7_9 n8_9;clear Bga Bgb Bgc HC0 HC1 HC2;go_upto_region 2 with (fail)
 refine wp_region_lit ?_;have pg7:=yaa Bg7.out;refine' yad (v:=_) (by rfl) (?hb0) (fun K hK=>?kb0)
 case hb0=>(go_simp;try rfl)
 go_simp;refine hK _ _ ?_;clear hK K;clear pg7;refine yad (v:=.agg (rC q1)) (by rfl) (yak _ _ ⟨g8,0,none⟩ _ rfl rfl (ycS Bg8.out)) (fun K hK=>?_);go_simp;refine hK _ _ ?_;clear hK K;refine wpList_plain (by rfl) (fun K hK=>?_);refine yae 61 #[.agg #[.slice da_w1 D0.length dc_w1,.slice ta_w1 T0.length tc_w1],.agg (rC q1)] (by go_simp) ?_;refine (HM.out.mshiftE (ma 0 rfl) (ma 1 rfl) (by decide) SD.out ST.out hq1.out XD.out XT.out HD2.out HT2.out).mono ?_;rintro e y1 ⟨da_y1,dc_y1,ta_y1,tc_y1,rfl,hm⟩;have hk:=hm.keep;have HM:=jX hm.here;have HK:=jX (HK.out.tz hk);have Bg7:=jX (hk.heap Bg7.out (by simp));have Bg8:=jX (hk.heap Bg8.out (by simp));have Bg9:=jX (hk.heap Bg9.out (by simp));clear hm hk;refine ⟨_,rfl,?_⟩;go_simp;refine hK _ _ ?_;clear hK K;obtain⟨y2,g10,e2,e3,b2,hgt,_,hk2⟩:=al1 y1 (.cells #[.slice none 0 0,.slice none 0 0] 29);refine yar (v:=.pointer (some ⟨y1.heap.size,0,none⟩)) (w':=y1.alloc (.cells #[.slice none 0 0,.slice none 0 0] 29)) (by rfl) (yhY _ _ _ rfl) (fun K hK=>?_);rw [← e2,e3];clear e2 e3;go_simp;refine hK _ _ ?_;clear hK K;refine yal (by rfl) _ _ _ rfl g10 (#[.slice da_y1 D2.length dc_y1,.slice ta_y1 T2.length tc_y1]) rfl rfl _ _ b2 (by exact b_size) (by rfl) (b_one _ _ _ _ _ _) (fun K hK=>?_);obtain⟨y3,e4,b4,k4⟩:=yam (cs:=#[.slice da_y1 D2.length dc_y1,.slice ta_y1 T2.length tc_y1]) b2;rw [e4];go_simp;refine hK _ _ ?_;clear hK K e4;have hk:=hk2.trans k4 (by simp;omega);have HM:=jX (HM.out.move hk).here;have HK:=jX (HK.out.tz hk);have Bg7:=jX (hk.heap Bg7.out (by simp));have Bg8:=jX (hk.heap Bg8.out (by simp));have Bg9:=jX (hk.heap Bg9.out (by simp));have Bg10:=jX b4;clear hk hk2 k4 b2 b4 hgt;go_upto_region 3 with (fail)
 refine wp_region_lit ?_;have pg7:=yaa Bg7.out;refine' yad (v:=_) (by rfl) (?hr3x0) (fun K hK=>?kr3x0)
 case hr3x0=>(go_simp;try rfl)
 go_simp;refine hK _ _ ?_;clear hK K;clear pg7;refine yad (v:=.agg (kC k2)) (by rfl) (yak _ _ ⟨g9,0,none⟩ _ rfl rfl (kw_k Bg9.out ⟨_,Keep.refl _ _⟩)) (fun K hK=>?_);go_simp;refine hK _ _ ?_;clear hK K;refine wpList_plain (by rfl) (fun K hK=>?_);refine yae 18 #[.agg #[.slice da_w1 D0.length dc_w1,.slice ta_w1 T0.length tc_w1],.agg (kC k2)] (by go_simp) ?_;refine (HM.out.ratT (ma 2 rfl) (ma 3 rfl) Xe0.out Xe1.out).mono ?_;rintro e w8 ⟨rfl,hm⟩;have hk:=hm.keep;have HM:=jX hm.here;have HK:=jX (HK.out.tz hk);have Bg7:=jX (hk.heap Bg7.out (by simp));have Bg8:=jX (hk.heap Bg8.out (by simp));have Bg9:=jX (hk.heap Bg9.out (by simp));have Bg10:=jX (hk.heap Bg10.out (by simp));clear hm hk;refine ⟨_,rfl,?_⟩;go_simp;refine hK _ _ ?_;clear hK K;refine' yad (v:=_) (by rfl) (?hr3x3) (fun K hK=>?kr3x3)
 case hr3x3=>(go_simp;try rfl)
 go_simp;refine hK _ _ ?_;clear hK K;refine' yad (v:=_) (by rfl) (?hr3x4) (fun K hK=>?kr3x4)
 case hr3x4=>(go_simp;try rfl)
 go_simp;refine hK _ _ ?_;clear hK K;refine' yad (v:=_) (by rfl) (?hr3x5) (fun K hK=>?kr3x5)
 case hr3x5=>(go_simp;try rfl)
 go_simp;refine hK _ _ ?_;clear hK K;refine' yad (v:=_) (by rfl) (?hr3x6) (fun K hK=>?kr3x6)
 case hr3x6=>(go_simp;try rfl)
 go_simp;refine hK _ _ ?_;clear hK K;refine' yad (v:=_) (by rfl) (?hr3x7) (fun K hK=>?kr3x7)
 case hr3x7=>(go_simp;try rfl)
 go_simp;refine hK _ _ ?_;clear hK K;go_upto_region 4 with (fail)
 refine yaj (S:=fun u=>Keep [] w8 u) 9 (by kernel_rfl) (by kernel_rfl) (fun _ _ d _ _ h=>by cases d<;>exact h) ?_;have hS0:=Keep.drew [] w8;have HM:=jX (HM.out.move hS0).here;generalize World.drew w8=u at *;refine' jG (v:=_) 0 hS0 (fun w hw=>?hr40) (fun K hK=>?kr40)
 case hr40=>(have pg10:=yaa (hw.heap Bg10.out (by simp));go_simp;try rfl)
 go_simp;refine hK _ ?_;clear hK K;refine jG (v:=.agg (kC k2)) 1 hS0 (fun w hw=>yak _ _ ⟨g9,0,none⟩ _ rfl rfl (yap _ _ _ _ <| ybP (hw.heap Bg9.out (by simp)))) (fun K hK=>?_);go_simp;refine hK _ ?_;clear hK K;refine jG (v:=.agg (rC q1)) 2 hS0 (fun w hw=>yak _ _ ⟨g8,0,none⟩ _ rfl rfl (ycS (hw.heap Bg8.out (by simp)))) (fun K hK=>?_);go_simp;refine hK _ ?_;clear hK K;refine jP 3 (fun K hK=>?_);refine yae 62 #[.agg (kC k2),.agg (rC q1)] (by go_simp) ?_;refine (HMo.out _).mono ?_;rintro e w9 ⟨rfl,hk⟩;have HM:=jX (HM.out.move hk).here;have hS0:=hS0.tz hk;refine ⟨_,rfl,?_⟩;go_simp;refine hK _ _ hS0 ?_;clear hK K hk;refine jP 4 (fun K hK=>?_);refine yae 17 #[.agg #[.slice da_y1 D2.length dc_y1,.slice ta_y1 T2.length tc_y1],.agg (kC (mvK q1 k2))] (by go_simp) ?_;refine (HM.out.matT (ma 0 rfl) (ma 1 rfl) Xe2.out Xe3.out).mono ?_;rintro e w10 ⟨rfl,hm_w10⟩;have hk:=hm_w10.keep;have HM:=jX hm_w10.here;clear hm_w10;have hS0:=hS0.tz hk;refine ⟨_,rfl,?_⟩;go_simp;refine hK _ _ hS0 ?_;clear hK K hk;refine' jG (v:=_) 5 hS0 (fun w hw=>?hr45) (fun K hK=>?kr45)
 case hr45=>(go_simp;try rfl)
 go_simp;refine hK _ ?_;clear hK K;refine' jG (v:=_) 6 hS0 (fun w hw=>?hr46) (fun K hK=>?kr46)
 case hr46=>(go_simp;try rfl)
 go_simp;refine hK _ ?_;clear hK K;refine' jG (v:=_) 7 hS0 (fun w hw=>?hr47) (fun K hK=>?kr47)
 case hr47=>(go_simp;try rfl)
 go_simp;refine hK _ ?_;clear hK K;refine' jG (v:=_) 8 hS0 (fun w hw=>?hr48) (fun K hK=>?kr48)
 case hr48=>(go_simp;try rfl)
 go_simp;refine hK _ ?_;clear hK K;refine ⟨by kernel_rfl,?_⟩;simp only [List.drop_succ_cons,List.drop_zero];have HK:=jX (HK.out.tz hS0);have Bg7:=jX (hS0.heap Bg7.out (by simp));have Bg8:=jX (hS0.heap Bg8.out (by simp));have Bg9:=jX (hS0.heap Bg9.out (by simp));have Bg10:=jX (hS0.heap Bg10.out (by simp));clear hS0;go_upto_region 5 with (fail)
 have HF:=jX HK.out.bz;refine yaj (S:=fun u=>Below w10.heap.size w10 u) 24 (by kernel_rfl) (by kernel_rfl) (fun _ _ d _ _ h=>by cases d<;>exact h) ?_;have hS0:=(Keep.drew [] w10).bz;have HM:=jX (HM.out.move (Keep.drew [] w10)).here;generalize World.drew w10=u at *;refine jP 0 (fun K hK=>?_);refine yae 20 #[] (by go_simp) ?_;refine (known12_c _).mono ?_;rintro e z1 ⟨rfl,hk⟩;have HM:=jX (HM.out.move hk).here;have hS0:=hS0.trans (Below.mono hk.bz hS0.size);clear hk;refine ⟨_,rfl,?_⟩;go_simp;refine hK _ _ hS0 ?_;clear hK K;refine' jG (v:=_) 1 hS0 (fun w hw=>?hsz1) (fun K hK=>?ksz1)
 case hsz1=>(go_simp;try rfl)
 go_simp;refine hK _ ?_;clear hK K;refine' jG (v:=_) 2 hS0 (fun w hw=>?hsz2) (fun K hK=>?ksz2)
 case hsz2=>(have pg10:=yaa ((hw.block g10 (yab Bg10.out)).trans Bg10.out);go_simp;try rfl)
 go_simp;refine hK _ ?_;clear hK K;refine jP 3 (fun K hK=>?_);refine yae 55 #[.agg #[.slice da_y1 D2.length dc_y1,.slice ta_y1 T2.length tc_y1]] (by go_simp) ?_;refine (HM.out.mcheckZ (ma 0 rfl) (ma 1 rfl) HSub.out).mono ?_;rintro e z2 ⟨rfl,hb⟩;have HM:=jX (HM.out.below hb);have hS0:=hS0.trans (Below.mono hb hS0.size);clear hb;refine ⟨_,rfl,?_⟩;go_simp;refine hK _ _ hS0 ?_;clear hK K;refine' jG (v:=_) 4 hS0 (fun w hw=>?hsz4) (fun K hK=>?ksz4)
 case hsz4=>(go_simp;try rfl)
 go_simp;refine hK _ ?_;clear hK K;refine' jG (v:=_) 5 hS0 (fun w hw=>?hsz5) (fun K hK=>?ksz5)
 case hsz5=>(go_simp;try rfl)
 go_simp;refine hK _ ?_;clear hK K;refine' jG (v:=_) 6 hS0 (fun w hw=>?hsz6) (fun K hK=>?ksz6)
 case hsz6=>(go_simp;try rfl)
 go_simp;refine hK _ ?_;clear hK K;refine' jG (v:=_) 7 hS0 (fun w hw=>?hsz7) (fun K hK=>?ksz7)
 case hsz7=>(go_simp;try rfl)
 go_simp;refine hK _ ?_;clear hK K;refine' jG (v:=_) 8 hS0 (fun w hw=>?hsz8) (fun K hK=>?ksz8)
 case hsz8=>(go_simp;try rfl)
 go_simp;refine hK _ ?_;clear hK K;refine' jG (v:=_) 9 hS0 (fun w hw=>?hsz9) (fun K hK=>?ksz9)
 case hsz9=>(go_simp;try rfl)
 go_simp;refine hK _ ?_;clear hK K;refine' jG (v:=_) 10 hS0 (fun w hw=>?hsz10) (fun K hK=>?ksz10)
 case hsz10=>(go_simp;try rfl)
 go_simp;refine hK _ ?_;clear hK K;refine' jG (v:=_) 11 hS0 (fun w hw=>?hsz11) (fun K hK=>?ksz11)
 case hsz11=>(go_simp;try rfl)
 go_simp;refine hK _ ?_;clear hK K;refine' jG (v:=_) 12 hS0 (fun w hw=>?hsz12) (fun K hK=>?ksz12)
 case hsz12=>(go_simp;try rfl)
 go_simp;refine hK _ ?_;clear hK K;refine' jG (v:=_) 13 hS0 (fun w hw=>?hsz13) (fun K hK=>?ksz13)
 case hsz13=>(go_simp;try rfl)
 go_simp;refine hK _ ?_;clear hK K;refine' jG (v:=_) 14 hS0 (fun w hw=>?hsz14) (fun K hK=>?ksz14)
 case hsz14=>(go_simp;try rfl)
 go_simp;refine hK _ ?_;clear hK K;refine' jG (v:=_) 15 hS0 (fun w hw=>?hsz15) (fun K hK=>?ksz15)
 case hsz15=>(go_simp;try rfl)
 go_simp;refine hK _ ?_;clear hK K;refine' jG (v:=_) 16 hS0 (fun w hw=>?hsz16) (fun K hK=>?ksz16)
 case hsz16=>(go_simp;try rfl)
 go_simp;refine hK _ ?_;clear hK K;refine' jG (v:=_) 17 hS0 (fun w hw=>?hsz17) (fun K hK=>?ksz17)
 case hsz17=>(have pg10:=yaa ((hw.block g10 (yab Bg10.out)).trans Bg10.out);go_simp;try rfl)
 go_simp;refine hK _ ?_;clear hK K;refine jG (v:=.agg (rC q1)) 18 hS0 (fun w hw=>yak _ _ ⟨g8,0,none⟩ _ rfl rfl (ycS ((hw.block g8 (yab Bg8.out)).trans Bg8.out))) (fun K hK=>?_);go_simp;refine hK _ ?_;clear hK K;refine' jG (v:=_) 21 hS0 (fun w hw=>?hsz21) (fun K hK=>?ksz21)
 case hsz21=>(have pg7:=yaa ((hw.block g7 (yab Bg7.out)).trans Bg7.out);go_simp;try rfl)
 go_simp;refine hK _ ?_;clear hK K;refine jP 19 (fun K hK=>?_);refine yae 63 #[.agg (rC q1)] (by go_simp) ?_;refine (rneg_r q1 _).mono ?_;rintro e z3 ⟨rfl,hk⟩;have HM:=jX (HM.out.move hk).here;have hS0:=hS0.trans (Below.mono hk.bz hS0.size);clear hk;refine ⟨_,rfl,?_⟩;go_simp;refine hK _ _ hS0 ?_;clear hK K;refine jP 20 (fun K hK=>?_);refine yae 61 #[.agg #[.slice da_y1 D2.length dc_y1,.slice ta_y1 T2.length tc_y1],.agg (rC (-q1))] (by go_simp) ?_;refine (HM.out.mshiftE (ma 0 rfl) (ma 1 rfl) (by decide) SD2.out ST2.out Hnq.out YD.out YT.out BD.out BT.out).mono ?_;rintro e z4 ⟨da_z4,dc_z4,ta_z4,tc_z4,rfl,hm⟩;have hS0:=hS0.trans (Below.mono hm.keep.bz hS0.size);have HM:=jX hm.here;clear hm;refine ⟨_,rfl,?_⟩;go_simp;refine hK _ _ hS0 ?_;clear hK K;refine jP 22 (fun K hK=>?_);refine yae 37 #[.agg #[.slice da_z4 D0.length dc_z4,.slice ta_z4 T0.length tc_z4],.agg #[.slice da_w1 D0.length dc_w1,.slice ta_w1 T0.length tc_w1]] (by go_simp) ?_;refine (HM.out.meqT (ma 0 rfl) (ma 1 rfl) (ma 4 rfl) (ma 5 rfl) rfl rfl).mono ?_;rintro e z5 ⟨rfl,hm⟩;have hS0:=hS0.trans (Below.mono hm.keep.bz hS0.size);have HM:=jX hm.here;clear hm;refine ⟨_,rfl,?_⟩;go_simp;refine hK _ _ hS0 ?_;clear hK K;refine' jG (v:=_) 23 hS0 (fun w hw=>?hsz23) (fun K hK=>?ksz23)
 case hsz23=>(go_simp;try rfl)
 go_simp;refine hK _ ?_;clear hK K;refine ⟨by kernel_rfl,?_⟩;simp only [List.drop_succ_cons,List.drop_zero];have HF:=jX (HF.out.trans (Below.mono hS0 HF.out.size));go_wp2_with fail;go_ret
 exact ⟨rfl,HF.out⟩
end
end Go.Proofs.YtejegogbhpmgfaaGreatDoor
