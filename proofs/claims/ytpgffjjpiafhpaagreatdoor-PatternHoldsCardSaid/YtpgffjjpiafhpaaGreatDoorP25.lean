/- Parts of a proof: Fj Wa Wb Wd Fe. -/
import Derived.Test.YtpgffjjpiafhpaaGreatDoorP24
import Derived.Test.YtpgffjjpiafhpaaGreatDoorP14
import Derived.Test.YtpgffjjpiafhpaaGreatDoorP20
import Derived.Test.YtpgffjjpiafhpaaGreatDoorP18
set_option linter.unusedVariables false
set_option linter.unusedSimpArgs false
set_option linter.unusedSectionVars false
set_option maxRecDepth 100000
set_option maxHeartbeats 8000000
namespace Go.Proofs.YtpgffjjpiafhpaaGreatDoor
open Go.RowKit Tryz
section
open Classical
theorem rsweepT_c (l:List (Iv K)) (a b:Rat) (k0:Nat) (hk0:k0≤800) (hsm:∀ s∈l,SmI k0 s) (hl:∀ i∈l,i.f<i.l) (ha:FitQ 24 a) (hb:FitQ 24 b) (hab:a≤b) (w:World) (sv:Value) (hr:IvR w sv l) (h9:l.length≤10000) :
  Calls prog 61 #[sv,.agg (rC a),.agg (rC b)] w fun e w'=>∃ v,e = .returned v∧IvR w' v (swpK a b l)∧Below w.heap.size w w'∧TyI w' v:=by
 have HR:=jX hr;have HS1:=jX (fun (x:K) (hx:Sm k0 x)=>ydp hx (by omega) ha);have HS2:=jX (fun (x:K) (hx:Sm k0 x)=>ydp hx (by omega) hb);have HSm:=jX hsm;have HN:=jX (fun u sv (h:IvR u sv (swpL a b l))=>ycp _ (ygx hk0 ha hb hab hl hsm) u sv h (by unfold swpL;rw [List.length_map];exact h9));obtain⟨ao,ac,rfl,_⟩:=hr.form;clear hr ha hb hsm hl hab;unfold swpK;unfold swpL at HN ⊢;go_enter func61,ntmps61
 go_upto_region 1 with (fail)
 obtain⟨W,ga,gb,hW,ega,egb,Bga,Bgb,hga,hgb,hgW,HkW⟩:=al2h w (.cells (rC a) 28) (.cells (rC b) 28);rw [← hW];try rw [egb]
 try rw [ega]
 clear hW ega egb;go_wp2_with fail;go_loopw [7,8] (fun ov c wr=>∃ k:Nat,k≤l.length∧c = .int .i64 (k:Int)∧OBI W wr ov ((l.take k).map (swpI a b))) (fun _ c _=>l.length-(intOf c).toNat)
 case atStart=>exact ⟨0,Nat.zero_le _,rfl,OB.nil W⟩
 case round =>
  obtain⟨k,hk,rfl,hov⟩:=hrel;obtain⟨out,hout⟩:∃ out,(l.take k).map (swpI a b)=out:=⟨_,rfl⟩;rw [hout] at hov;have Hlen:=jX (show out.length≤k by rw [← hout,List.length_map,List.length_take];omega)
  have Hout:=jX hout;have HO:=jX hov;obtain⟨oo,oc,rfl⟩:=hov.form;clear hov hout;by_cases hlt:k<l.length
  ·have Hstep:=jX (ycX (swpI a b) l k hlt)
   obtain⟨g,o,rfl,hg,hat⟩:=IvR.elem (HR.out.laterB (HkW.out.bz.trans (Below.mono HO.out.keep HkW.out.size))) k hlt;have hs:=HSm.out l[k] (List.getElem_mem hlt);generalize l[k]=s at *;obtain⟨p,hp⟩:∃ p,o+k*20=p:=⟨_,rfl⟩;rw [hp] at hat;have HL:=jX (yaE wr g p s hat);clear hat;have hkc:(k:Int)<(l.length:Int):=by omega
   go_upto_region 5 with (fail)
   refine wp_region_lit ?_;refine' yab (v:=_) (by rfl) (?ha) (fun K hK=>?ka)
   case ha=>(go_simp;try rfl)
   go_simp;refine hK _ _ ?_;clear hK K;refine' yab (v:=_) (by rfl) (?hb) (fun K hK=>?kb)
   case hb=>(go_simp;try rfl)
   go_simp;refine hK _ _ ?_;clear hK K;refine' yab (v:=_) (by rfl) (?hc) (fun K hK=>?kc)
   case hc=>(go_simp;try rfl)
   go_simp;refine hK _ _ ?_;clear hK K;refine yab (v:=iv s) (by rfl) (yad _ _ ⟨g,p,none⟩ _ rfl rfl HL.out) (fun K hK=>?_);go_simp;refine hK _ _ ?_;clear hK K;obtain⟨w1,gt,e1,e2,bgt,hgt,_,hk1⟩:=al1 wr (.cells #[.bool false,.string ⟨#[]⟩,.bool false,.string ⟨#[]⟩,.bool false,.string ⟨#[]⟩,.bool false,.string ⟨#[]⟩,.bool false,.bool false,.string ⟨#[]⟩,.bool false,.string ⟨#[]⟩,.bool false,.string ⟨#[]⟩,.bool false,.string ⟨#[]⟩,.bool false,.bool false,.bool false] 32);refine yam (v:=.pointer (some ⟨wr.heap.size,0,none⟩)) (w':=wr.alloc (.cells #[.bool false,.string ⟨#[]⟩,.bool false,.string ⟨#[]⟩,.bool false,.string ⟨#[]⟩,.bool false,.string ⟨#[]⟩,.bool false,.bool false,.string ⟨#[]⟩,.bool false,.string ⟨#[]⟩,.bool false,.string ⟨#[]⟩,.bool false,.string ⟨#[]⟩,.bool false,.bool false,.bool false] 32)) (by rfl) (yei _ _ _ rfl) (fun K hK=>?_);rw [← e1,e2];clear e1;go_simp;refine hK _ _ ?_;clear hK K;refine yah (by rfl) _ _ _ rfl gt (iC s) rfl rfl _ _ bgt (by exact ybi s) (by rfl) (ybg s) (fun K hK=>?_);obtain⟨w2,e4,b4,k4⟩:=yai (cs:=iC s) bgt;rw [e4];go_simp;refine hK _ _ ?_;clear hK K e4 HL;have Bgt:=jX b4;have HW2:=jX (show Keep [] wr w2 from hk1.trans k4 (by simp;omega))
   have hgtw:wr.heap.size≤gt:=by omega
   clear b4 k4 hk1 bgt;have HXf:=jX ((yap Bgt.out).ldf (yaa Bgt.out));have HXt:=jX ((yap Bgt.out).ldt (yaa Bgt.out));rw [show kv s.f.pt = .agg (kC s.f.pt) from rfl] at HXf
   rw [show kv s.l.pt = .agg (kC s.l.pt) from rfl] at HXt
   have HCs:Hid ((iC s).size=20):=rfl;have Bxa:=jX (((HO.out.keep.trans (Below.mono HW2.out.bz HO.out.keep.size)).block ga (yaa Bga.out)).trans Bga.out);have Bxb:=jX (((HO.out.keep.trans (Below.mono HW2.out.bz HO.out.keep.size)).block gb (yaa Bgb.out)).trans Bgb.out);have HXa:=jX (kw_q Bxa.out);have HXb:=jX (kw_q Bxb.out);rw [yaw] at HXa HXb;have H1:=jX (HS1.out s.f.pt hs.1);have H2:=jX (HS2.out s.l.pt hs.2);have F1:=jX (ybm (mvK a s.f.pt));have F2:=jX (ybm (mvK b s.l.pt));have HPut:Hid (yba (yba (iC s) 0 (kC (mvK a s.f.pt)).toList) 9 (kC (mvK b s.l.pt)).toList=iC (swpI a b s)):=put_iv s (swpI a b s) rfl rfl;clear hs;obtain⟨t,ht⟩:∃ t,swpI a b s=t:=⟨_,rfl⟩;rw [ht] at Hstep HPut;clear ht;generalize kC (mvK a s.f.pt)=M1 at *;generalize kC (mvK b s.l.pt)=M2 at *;generalize kC s.f.pt=F at *;generalize kC s.l.pt=L at *;generalize iC s=C0 at *;have Q1:Hid (∀ m:KW w2,Calls prog 54 #[.agg F,.agg (rC a)] (Wk w2 m) fun e w'=>e = .returned (.agg M1)∧∃ m,w'=Wk w2 m):=fun m=>qk m (H1.out _);have Q2:Hid (∀ m:KW w2,Calls prog 54 #[.agg L,.agg (rC b)] (Wk w2 m) fun e w'=>e = .returned (.agg M2)∧∃ m,w'=Wk w2 m):=fun m=>qk m (H2.out _);go_upto_region 6 with (fail)
   refine yal 9 (by kernel_rfl) (by kernel_rfl) ?_;simp only [List.take_succ_cons,List.take_zero,List.drop_succ_cons,List.drop_zero]
   repeat (first
    | go_big_quiet_skip
    | (go_big_quiet_want;first
     | (refine yan _ _ _ (.agg F) rfl rfl (by rintro _ ⟨m,rfl⟩;exact HXf.out m) ?_;go_simp;go_big_quiet_on)|(refine yan _ _ _ (.agg L) rfl rfl (by rintro _ ⟨m,rfl⟩;exact HXt.out m) ?_;go_simp;go_big_quiet_on)|(refine yan _ _ _ (.agg (rC a)) rfl rfl (by rintro _ ⟨m,rfl⟩;exact HXa.out m) ?_;go_simp;go_big_quiet_on)|(refine yan _ _ _ (.agg (rC b)) rfl rfl (by rintro _ ⟨m,rfl⟩;exact HXb.out m) ?_;go_simp;go_big_quiet_on)
     | (go_big_quiet_op;first|go_big_quiet_on|go_big_quiet_call (first
      | (go_at_call 54;with_reducible exact (Q1).out _)|(go_at_call 54;with_reducible exact (Q2).out _)))))
   refine wpQuiet_nil ?_;rintro w3 ⟨⟨_,hk_w3⟩,rfl⟩;have Bg3:=jX (hk_w3.heap Bgt.out (by simp));have HW3:=jX (HW2.out.tz hk_w3);clear hk_w3 HXf HXt HXa HXb H1 H2 Q1 Q2 Bgt Bxa Bxb;refine yaD (by rfl) _ _ _ rfl gt 0 M1 rfl rfl (yaK Bg3.out _ _ (by rw [HCs.out,F1.out.2.1];decide)) (by rw [F1.out.2.1];exact k_size) F1.out.2.2 (fun K hK=>?_);obtain⟨b4,k4⟩:=yat M1.toList 0 C0 w3 Bg3.out;generalize World.setCells w3 gt 0 M1.toList=w4 at *;go_simp;refine hK _ _ ?_;clear hK K;refine' yab (v:=_) (by rfl) (?hd) (fun K hK=>?kd)
   case hd=>(go_simp;try rfl)
   go_simp;refine hK _ _ ?_;clear hK K;refine yaD (by rfl) _ _ _ rfl gt 9 M2 rfl rfl (yaK b4 _ _ (by rw [putAt_size,HCs.out,F2.out.2.1];decide)) (by rw [F2.out.2.1];exact k_size) F2.out.2.2 (fun K hK=>?_);obtain⟨b5,k5⟩:=yat M2.toList 9 _ w4 b4;generalize World.setCells w4 gt 9 M2.toList=w5 at *;go_simp;refine hK _ _ ?_;clear hK K;rw [HPut.out] at b5;have HO5:=jX (HO.out.later (show Keep [] wr w5 from (HW3.out.trans k4 (by simp;omega)).trans k5 (by simp;omega)).bz)
   have HLt:=jX (yaE w5 gt 0 t (yap b5));clear b4 b5 k4 k5 HW3 HW2 Bg3 HO;go_upto_region 7 with (fail)
   refine wp_region_lit ?_;refine' yab (v:=_) (by rfl) (?he) (fun K hK=>?ke)
   case he=>(go_simp;try rfl)
   go_simp;refine hK _ _ ?_;clear hK K;refine yab (v:=iv t) (by rfl) (yad _ _ ⟨gt,0,none⟩ _ rfl rfl HLt.out) (fun K hK=>?_);go_simp;refine hK _ _ ?_;clear hK K;obtain⟨ub,e6,v4,u4,hr4,ho4⟩:=OBI.app t HO5.out (by have:=Hlen.out;omega);refine yam (v:=.slice (some ⟨w5.heap.size,0,none⟩) 1 1) (by rfl) (yaT 22 1 #[(0,.tmp 31)] #[(0,iv t)] _ rfl (by simp only [List.map_toArray,List.map_cons,List.map_nil];rfl) (ybk t _)) (fun K hK=>?_);rw [e6];clear e6;go_simp;refine hK _ _ ?_;clear hK K;refine yam (by rfl) (yaJ (.tmp 30) (.tmp 32) 22 _ _ _ rfl rfl rfl hr4) (fun K hK=>?_);go_simp;refine hK _ _ ?_;clear hK K hr4;have HN4:=jX ho4;obtain⟨no,nc,rfl⟩:=ho4.form;clear ho4;go_wp2_with fail;go_roundw
   case rel=>exact ⟨k+1,by omega,congrArg (Value.int .i64) (by omega),by rw [Hstep.out,Hout.out];exact HN4.out⟩
   case measure=>simp [intOf];omega
  obtain rfl:k=l.length:=by omega
  rw [List.take_length] at Hout
  have HX:Hid (IvR wr (.slice oo out.length oc) (l.map (swpI a b))):=by
   have:=HO.out.read;rw [← Hout.out] at this ⊢;exact this
  have HB:=jX (HkW.out.bz.trans (Below.mono HO.out.keep HkW.out.size));have HN1:=jX (HN.out wr _ HX.out);clear HO HN HX;go_wp2_with fail;refine HN1.out.mono ?_;rintro e w6 ⟨v,rfl,hv,hk6,ht6⟩;dsimp only;have HV:=jX hv;have HT6:=jX ht6;clear ht6;have HB6:=jX (HB.out.trans (Below.mono hk6.bz HB.out.size));obtain⟨vo,vc,rfl,_⟩:=hv.form;clear hv hk6 HN1;go_wp2_with fail;go_ret
  exact ⟨_,rfl,HV.out,HB6.out,HT6.out⟩
theorem okI_cmp (t:Iv K):okI t=(decide (cmpQ t.f.pt.1 t.l.pt.1<0) || ((cmpQ t.f.pt.1 t.l.pt.1 == 0)&&(!t.f.beh&&t.l.beh))):=by
 unfold okI;rw [Bool.eq_iff_iff,decide_eq_true_iff,Bd.lt_def];rcases K.tri t.f.pt t.l.pt with ⟨h,g⟩|⟨h,g⟩|⟨h,g⟩
 ·rw [h]
  have h1:¬ t.f.pt<t.l.pt:=by grind
  have h2:¬ t.f.pt=t.l.pt:=by grind
  simp [h1,h2]
 ·rw [h]
  simp [g]
 rw [h];have h1:=K.irrefl t.l.pt;simp [g,h1]
theorem rerodeT_c (l:List (Iv K)) (q:Rat) (k0:Nat) (hk0:k0≤900) (hsm:∀ s∈l,SmI k0 s) (hq:FitQ 24 q) (w:World) (sv:Value) (hr:IvR w sv l) (h9:l.length≤10000) :
  Calls prog 55 #[sv,.agg (rC q)] w fun e w'=>∃ v,e = .returned v∧IvR w' v (eroK q l)∧Below w.heap.size w w'∧TyI w' v:=by
 have HR:=jX hr;have HS2:=jX (fun (x:K) (hx:Sm k0 x)=>ydp hx (by omega) hq.neg);have HNeg:=jX (QNeg_c q);have HSm:=jX hsm;have HN:=jX (fun u sv (h:IvR u sv (eroL q l))=>ycp _ yhe u sv h (Nat.le_trans (yck _ _ l) h9));obtain⟨ao,ac,rfl,_⟩:=hr.form;clear hr hq hsm;rw [yaw,yaw] at HNeg;unfold eroK;unfold eroL at HN ⊢;generalize rC (-q)=NQ at *;go_enter func55,ntmps55
 go_upto_region 1 with (fail)
 obtain⟨W,ga,hW,ega,Bga,hga,hgW,HkW⟩:=al1h w (.cells (rC q) 28);rw [← hW];try rw [ega]
 clear hW ega;go_wp2_with fail;go_loopw [5,6] (fun ov c wr=>∃ k:Nat,k≤l.length∧c = .int .i64 (k:Int)∧OBI W wr ov (((l.take k).map (eroI q)).filter okI)) (fun _ c _=>l.length-(intOf c).toNat)
 case atStart=>exact ⟨0,Nat.zero_le _,rfl,OB.nil W⟩
 case round =>
  obtain⟨k,hk,rfl,hov⟩:=hrel;obtain⟨out,hout⟩:∃ out,((l.take k).map (eroI q)).filter okI=out:=⟨_,rfl⟩;rw [hout] at hov;have Hlen:=jX (show out.length≤k by rw [← hout];exact Nat.le_trans (yck _ _ _) (by rw [List.length_take];omega))
  have Hout:=jX hout;have HO:=jX hov;obtain⟨oo,oc,rfl⟩:=hov.form;clear hov hout;by_cases hlt:k<l.length
  ·have Hstep:=jX (ydW (eroI q) okI l k hlt)
   obtain⟨g,o,rfl,hg,hat⟩:=IvR.elem (HR.out.laterB (HkW.out.bz.trans (Below.mono HO.out.keep HkW.out.size))) k hlt;have hs:=HSm.out l[k] (List.getElem_mem hlt);generalize l[k]=s at *;obtain⟨p,hp⟩:∃ p,o+k*20=p:=⟨_,rfl⟩;rw [hp] at hat;have HL:=jX (yaE wr g p s hat);clear hat;have hkc:(k:Int)<(l.length:Int):=by omega
   go_upto_region 5 with (fail)
   refine wp_region_lit ?_;refine' yab (v:=_) (by rfl) (?ha) (fun K hK=>?ka)
   case ha=>(go_simp;try rfl)
   go_simp;refine hK _ _ ?_;clear hK K;refine' yab (v:=_) (by rfl) (?hb) (fun K hK=>?kb)
   case hb=>(go_simp;try rfl)
   go_simp;refine hK _ _ ?_;clear hK K;refine' yab (v:=_) (by rfl) (?hc) (fun K hK=>?kc)
   case hc=>(go_simp;try rfl)
   go_simp;refine hK _ _ ?_;clear hK K;refine yab (v:=iv s) (by rfl) (yad _ _ ⟨g,p,none⟩ _ rfl rfl HL.out) (fun K hK=>?_);go_simp;refine hK _ _ ?_;clear hK K;obtain⟨w1,gt,e1,e2,bgt,hgt,_,hk1⟩:=al1 wr (.cells #[.bool false,.string ⟨#[]⟩,.bool false,.string ⟨#[]⟩,.bool false,.string ⟨#[]⟩,.bool false,.string ⟨#[]⟩,.bool false,.bool false,.string ⟨#[]⟩,.bool false,.string ⟨#[]⟩,.bool false,.string ⟨#[]⟩,.bool false,.string ⟨#[]⟩,.bool false,.bool false,.bool false] 32);refine yam (v:=.pointer (some ⟨wr.heap.size,0,none⟩)) (w':=wr.alloc (.cells #[.bool false,.string ⟨#[]⟩,.bool false,.string ⟨#[]⟩,.bool false,.string ⟨#[]⟩,.bool false,.string ⟨#[]⟩,.bool false,.bool false,.string ⟨#[]⟩,.bool false,.string ⟨#[]⟩,.bool false,.string ⟨#[]⟩,.bool false,.string ⟨#[]⟩,.bool false,.bool false,.bool false] 32)) (by rfl) (yei _ _ _ rfl) (fun K hK=>?_);rw [← e1,e2];clear e1;go_simp;refine hK _ _ ?_;clear hK K;refine yah (by rfl) _ _ _ rfl gt (iC s) rfl rfl _ _ bgt (by exact ybi s) (by rfl) (ybg s) (fun K hK=>?_);obtain⟨w2,e4,b4,k4⟩:=yai (cs:=iC s) bgt;rw [e4];go_simp;refine hK _ _ ?_;clear hK K e4 HL;have Bgt:=jX b4;have HW2:=jX (show Keep [] wr w2 from hk1.trans k4 (by simp;omega))
   have hgtw:wr.heap.size≤gt:=by omega
   clear b4 k4 hk1 bgt;have HXf:=jX ((yap Bgt.out).ldf (yaa Bgt.out));have HXt:=jX ((yap Bgt.out).ldt (yaa Bgt.out));rw [show kv s.f.pt = .agg (kC s.f.pt) from rfl] at HXf
   rw [show kv s.l.pt = .agg (kC s.l.pt) from rfl] at HXt
   have HCs:Hid ((iC s).size=20):=rfl;have Bxa:=jX (((HO.out.keep.trans (Below.mono HW2.out.bz HO.out.keep.size)).block ga (yaa Bga.out)).trans Bga.out);have HXa:=jX (kw_q Bxa.out);rw [yaw] at HXa;have H2:=jX (HS2.out s.l.pt hs.2);have H0:=HNeg;have F2:=jX (ybm (mvK (-q) s.l.pt));have HPut:Hid (yba (iC s) 9 (kC (mvK (-q) s.l.pt)).toList=iC (eroI q s)):=putTo s (eroI q s) rfl rfl;clear hs HXf;obtain⟨t,ht⟩:∃ t,eroI q s=t:=⟨_,rfl⟩;rw [ht] at Hstep HPut;clear ht;generalize kC (mvK (-q) s.l.pt)=M2 at *;generalize kC s.l.pt=L at *;generalize iC s=C0 at *;have Q0:Hid (∀ m:KW w2,Calls prog 60 #[.agg (rC q)] (Wk w2 m) fun e w'=>e = .returned (.agg NQ)∧∃ m,w'=Wk w2 m):=fun m=>qk m (H0.out _);have Q2:Hid (∀ m:KW w2,Calls prog 54 #[.agg L,.agg NQ] (Wk w2 m) fun e w'=>e = .returned (.agg M2)∧∃ m,w'=Wk w2 m):=fun m=>qk m (H2.out _);go_upto_region 6 with (fail)
   refine yal 6 (by kernel_rfl) (by kernel_rfl) ?_;simp only [List.take_succ_cons,List.take_zero,List.drop_succ_cons,List.drop_zero]
   repeat (first
    | go_big_quiet_skip
    | (go_big_quiet_want;first
     | (refine yan _ _ _ (.agg L) rfl rfl (by rintro _ ⟨m,rfl⟩;exact HXt.out m) ?_;go_simp;go_big_quiet_on)|(refine yan _ _ _ (.agg (rC q)) rfl rfl (by rintro _ ⟨m,rfl⟩;exact HXa.out m) ?_;go_simp;go_big_quiet_on)
     | (go_big_quiet_op;first|go_big_quiet_on|go_big_quiet_call (first
      | (go_at_call 60;with_reducible exact (Q0).out _)|(go_at_call 54;with_reducible exact (Q2).out _)))))
   refine wpQuiet_nil ?_;rintro w3 ⟨⟨_,hk_w3⟩,rfl⟩;have Bg3:=jX (hk_w3.heap Bgt.out (by simp));have HW3:=jX (HW2.out.tz hk_w3);clear hk_w3 HXt HXa H2 H0 Q0 Q2 Bgt Bxa;refine yaD (by rfl) _ _ _ rfl gt 9 M2 rfl rfl (yaK Bg3.out _ _ (by rw [HCs.out,F2.out.2.1];decide)) (by rw [F2.out.2.1];exact k_size) F2.out.2.2 (fun K hK=>?_);obtain⟨b5,k5⟩:=yat M2.toList 9 _ w3 Bg3.out;generalize World.setCells w3 gt 9 M2.toList=w5 at *;go_simp;refine hK _ _ ?_;clear hK K;rw [HPut.out] at b5;have Bg5:=jX b5;have HO5:=jX (HO.out.later (show Keep [] wr w5 from HW3.out.trans k5 (by simp;omega)).bz)
   clear b5 k5 HW3 HW2 Bg3 HO;have H3:=jX (rcmpK_c t.f.pt t.l.pt);have HLf:=jX (yaL w5 gt 0 t.f.pt.1 (yap Bg5.out).frm);have HLl:=jX (yaL w5 gt (0+9) t.l.pt.1 (yap Bg5.out).upto);go_upto_region 7 with (fail)
   refine wp_region_lit ?_;refine' yab (v:=_) (by rfl) (?hg1) (fun K hK=>?kg1)
   case hg1=>(go_simp;try rfl)
   go_simp;refine hK _ _ ?_;clear hK K;refine yab (v:=.agg (kcells t.f.pt.1).toArray) (by rfl) (yad _ _ ⟨gt,0,none⟩ _ rfl rfl HLf.out) (fun K hK=>?_);go_simp;refine hK _ _ ?_;clear hK K;refine' yab (v:=_) (by rfl) (?hg2) (fun K hK=>?kg2)
   case hg2=>(go_simp;try rfl)
   go_simp;refine hK _ _ ?_;clear hK K;refine yab (v:=.agg (kcells t.l.pt.1).toArray) (by rfl) (yad _ _ ⟨gt,0+9,none⟩ _ rfl rfl HLl.out) (fun K hK=>?_);go_simp;refine hK _ _ ?_;clear hK K;refine wpList_plain (by rfl) (fun K hK=>?_);refine yaf 81 #[.agg (kcells t.f.pt.1).toArray,.agg (kcells t.l.pt.1).toArray] (by go_simp) ?_;refine (H3.out w5).mono ?_;rintro e w6 ⟨rfl,hk6⟩;refine ⟨_,rfl,?_⟩;go_simp;refine hK _ _ ?_;clear hK K HLf HLl H3;have HO5:=jX (HO5.out.later hk6.bz);have Bg6:=jX (hk6.heap Bg5.out (by simp));have qf:w6.cell? ⟨gt,18,none⟩=some (.bool t.f.beh):=(yap Bg6.out).opf;have qt:w6.cell? ⟨gt,19,none⟩=some (.bool (!t.l.beh)):=(yap Bg6.out).opt;have HLt:=jX (yaE w6 gt 0 t (yap Bg6.out));have hok:=okI_cmp t;rw [hok] at Hstep;clear hok hk6 Bg5 Bg6;generalize cmpQ t.f.pt.1 t.l.pt.1=n at *;generalize t.f.beh=b1 at *;generalize t.l.beh=b2 at *;rcases Int.lt_trichotomy n 0 with h|h|h
   ·have d1:decide (n<0)=true:=decide_eq_true h
    rw [d1] at Hstep;simp only [Bool.true_or] at Hstep
    have Hst:Hid (((l.take (k+1)).map (eroI q)).filter okI=out++[t]):=jX (by
     have:=Hstep.out;rw [Hout.out] at this;rw [this]
     simp)
    clear Hstep;rename World=>w5;go_upto_region 9 with (fail)
    refine wp_region_lit ?_;refine' yab (v:=_) (by rfl) (?hea) (fun K hK=>?kea)
    case hea=>(go_simp;try rfl)
    go_simp;refine hK _ _ ?_;clear hK K;refine yab (v:=iv t) (by rfl) (yad _ _ ⟨gt,0,none⟩ _ rfl rfl HLt.out) (fun K hK=>?_);go_simp;refine hK _ _ ?_;clear hK K;obtain⟨ub,e6,v4,u4,hr4,ho4⟩:=OBI.app t HO5.out (by have:=Hlen.out;omega);refine yam (v:=.slice (some ⟨w5.heap.size,0,none⟩) 1 1) (by rfl) (yaT 22 1 #[(0,.tmp 47)] #[(0,iv t)] _ rfl (by simp only [List.map_toArray,List.map_cons,List.map_nil];rfl) (ybk t _)) (fun K hK=>?_);rw [e6];clear e6;go_simp;refine hK _ _ ?_;clear hK K;refine yam (by rfl) (yaJ (.tmp 46) (.tmp 48) 22 _ _ _ rfl rfl rfl hr4) (fun K hK=>?_);go_simp;refine hK _ _ ?_;clear hK K hr4;have HN4:=jX ho4;obtain⟨no,nc,rfl⟩:=ho4.form;clear ho4;go_wp2_with fail;go_roundw
    case rel=>exact ⟨k+1,by omega,congrArg (Value.int .i64) (by omega),by rw [Hst.out];exact HN4.out⟩
    case measure=>simp [intOf];omega
   ·subst h
    cases b1 with
    | true =>
     simp only [Bool.not_true,Bool.false_and,Bool.and_false,Bool.or_false] at Hstep
     have Hst:Hid (((l.take (k+1)).map (eroI q)).filter okI=out):=jX (by
      have:=Hstep.out;rw [Hout.out] at this;rw [this]
      simp)
     clear Hstep;go_wp2_with fail;go_roundw
     case rel=>exact ⟨k+1,by omega,congrArg (Value.int .i64) (by omega),by rw [Hst.out];exact HO5.out⟩
     case measure=>simp [intOf];omega
    | false =>
     cases b2 with
     | false =>
      simp only [Bool.not_false,Bool.true_and,Bool.and_false,Bool.or_false] at Hstep
      have Hst:Hid (((l.take (k+1)).map (eroI q)).filter okI=out):=jX (by
       have:=Hstep.out;rw [Hout.out] at this;rw [this]
       simp)
      clear Hstep;go_wp2_with fail;go_roundw
      case rel=>exact ⟨k+1,by omega,congrArg (Value.int .i64) (by omega),by rw [Hst.out];exact HO5.out⟩
      case measure=>simp [intOf];omega
     | true =>
      simp only [Bool.not_false,Bool.true_and,Bool.and_true] at Hstep
      have Hst:Hid (((l.take (k+1)).map (eroI q)).filter okI=out++[t]):=jX (by
       have:=Hstep.out;rw [Hout.out] at this;rw [this]
       simp)
      clear Hstep;rename World=>w5;go_upto_region 9 with (fail)
      refine wp_region_lit ?_;refine' yab (v:=_) (by rfl) (?heb) (fun K hK=>?keb)
      case heb=>(go_simp;try rfl)
      go_simp;refine hK _ _ ?_;clear hK K;refine yab (v:=iv t) (by rfl) (yad _ _ ⟨gt,0,none⟩ _ rfl rfl HLt.out) (fun K hK=>?_);go_simp;refine hK _ _ ?_;clear hK K;obtain⟨ub,e6,v4,u4,hr4,ho4⟩:=OBI.app t HO5.out (by have:=Hlen.out;omega);refine yam (v:=.slice (some ⟨w5.heap.size,0,none⟩) 1 1) (by rfl) (yaT 22 1 #[(0,.tmp 47)] #[(0,iv t)] _ rfl (by simp only [List.map_toArray,List.map_cons,List.map_nil];rfl) (ybk t _)) (fun K hK=>?_);rw [e6];clear e6;go_simp;refine hK _ _ ?_;clear hK K;refine yam (by rfl) (yaJ (.tmp 46) (.tmp 48) 22 _ _ _ rfl rfl rfl hr4) (fun K hK=>?_);go_simp;refine hK _ _ ?_;clear hK K hr4;have HN4:=jX ho4;obtain⟨no,nc,rfl⟩:=ho4.form;clear ho4;go_wp2_with fail;go_roundw
      case rel=>exact ⟨k+1,by omega,congrArg (Value.int .i64) (by omega),by rw [Hst.out];exact HN4.out⟩
      case measure=>simp [intOf];omega
   have d1:decide (n<0)=false:=decide_eq_false (by omega);have d2:(n == 0)=false:=by rw [beq_eq_false_iff_ne];omega
   rw [d1,d2] at Hstep;simp only [Bool.false_and,Bool.or_false] at Hstep
   have Hst:Hid (((l.take (k+1)).map (eroI q)).filter okI=out):=jX (by
    have:=Hstep.out;rw [Hout.out] at this;rw [this]
    simp)
   clear Hstep;go_wp2_with fail;go_roundw
   case rel=>exact ⟨k+1,by omega,congrArg (Value.int .i64) (by omega),by rw [Hst.out];exact HO5.out⟩
   case measure=>simp [intOf];omega
  obtain rfl:k=l.length:=by omega
  rw [List.take_length] at Hout
  have HX:Hid (IvR wr (.slice oo out.length oc) ((l.map (eroI q)).filter okI)):=by
   have:=HO.out.read;rw [← Hout.out] at this ⊢;exact this
  have HB:=jX (HkW.out.bz.trans (Below.mono HO.out.keep HkW.out.size));have HN1:=jX (HN.out wr _ HX.out);clear HO HN HX;go_wp2_with fail;refine HN1.out.mono ?_;rintro e w6 ⟨v,rfl,hv,hk6,ht6⟩;dsimp only;have HV:=jX hv;have HT6:=jX ht6;clear ht6;have HB6:=jX (HB.out.trans (Below.mono hk6.bz HB.out.size));obtain⟨vo,vc,rfl,_⟩:=hv.form;clear hv hk6 HN1;go_wp2_with fail;go_ret
  exact ⟨_,rfl,HV.out,HB6.out,HT6.out⟩
end
structure Ht (M L B:Rat) (x:Qn):Prop where
 ok:x.Ok
 m:∃ i:Int,x.p*M=i
 l:∃ j:Int,x.r*L=j
 lo : -B≤x.p
 hi:x.p≤B
 rt:x.r≤B*B
theorem Pos.of_gap {a b r g e0:Rat} (hr:0≤r) (hg:0<g) (he0:0<e0) (k:∀ e t,0<e→e≤e0→Near r t e→g≤a+b*t):Pos a b r:=by
 rcases ybK (a:=a) (b:=b) hr with ⟨_,h⟩|⟨_,h⟩|⟨_,h1,h2,h3,h4⟩
 ·exact h
 ·exfalso
  obtain⟨g2,e2,hg2,he2,k2⟩:=h.gap hr;obtain⟨e,h3,h4,h5⟩:=ybZ he0 he2;obtain⟨t,ht⟩:=ybT hr h3;have:=k e t h3 h4 ht;have:=k2 e t h3 h5 ht;grind
 exfalso;by_cases hb0:b=0
 ·obtain⟨t,ht⟩:=ybT hr he0
  have:=k e0 t he0 (by grind) ht;subst hb0;have:=ycW (a:=a) (by grind);grind
 by_cases hb:0<b
 ·obtain⟨t,ht⟩:=ybT hr he0
  have h5:=k e0 t he0 (by grind) ht
  have h6:a≤0:=by
   rcases h4 with h4|h4
   ·subst h4
    have:=ycW (a:=a) (by grind);grind
   by_cases h:a≤0
   ·exact h
   have:=yav (a:=a) (b:=b) (by grind) hb;grind
  have h7:=ybd ht.le (ydG b);have h8:b*t ≤ -a:=yfc (by grind) (by grind);grind
 have hb':0 < -b:=by grind
 obtain⟨e1,he1,h11,h12⟩:=ycP (d:=g) (m:=-b) hg hb';obtain⟨e,he,h21,h22⟩:=ybZ he0 he1;obtain⟨t,ht⟩:=ybT hr he;have h5:=k e t he h21 ht
 have h6:e*(-b)≤g:=by
  have:=ybd h22 (Rat.le_of_lt hb');grind
 have h7:a*a<(-b*(t+e))*(-b*(t+e)):=by
  have:=yav (a:=(t+e)*(t+e)-r) (b:=b*b) (by have:=ht.lt;grind) (by have:=yav hb' hb';grind);grind
 have h8:a < -b*(t+e):=ycH (yaN (by grind) (by have:=ht.nn;grind)) h7;grind
theorem Pos.mul {a b c d r:Rat} (hr:0≤r) (h:Pos a b r) (h2:Pos c d r):Pos (a*c+b*d*r) (a*d+b*c) r:=by
 obtain⟨g,e0,hg,he,k⟩:=h.gap hr;obtain⟨g2,e2,hg2,he2,k2⟩:=h2.gap hr;have hgg:0<g*g2:=yav hg hg2;have hbd:=ydG (b*d);have hm:0<(2*(r+1)+1)*(b*d*(b*d)+1):=yav (by grind) (by grind);obtain⟨e3,he3,h31,h32⟩:=ycP (d:=g*g2 / 2) (m:=(2*(r+1)+1)*(b*d*(b*d)+1)) (by grind) hm;obtain⟨e4,h41,h42,h43⟩:=ybZ he he2;obtain⟨e5,h51,h52,h53⟩:=ybZ he3 h41;refine Pos.of_gap hr (g:=g*g2 / 2) (e0:=e5) (by grind) h51 (fun e t he hle ht=>?_);have p1:=k e t he (by grind) ht;have p2:=k2 e t he (by grind) ht;have t1:=ht.nn;have t2:=ht.le;have t3:=ht.lt;have t4:=ht.top hr
 have q1:g*g2≤(a+b*t)*(c+d*t):=by
  have x1:=yaN (a:=a+b*t-g) (b:=c+d*t) (by grind) (by grind);have x2:=yaN (a:=c+d*t-g2) (b:=g) (by grind) (by grind);grind
 have q2:r-t*t≤e*(2*(r+1)+1):=by
  have:=ybd (a:=2*t+e) (b:=2*(r+1)+1) (c:=e) (by grind) (by grind);grind
 have q3:=ydN (b*d)
 have q4:(e*(2*(r+1)+1))*(b*d*(b*d)+1)≤g*g2 / 2:=by
  have:=ybd (show e≤e3 by grind) (Rat.le_of_lt hm)
  grind
 have q5:=yaN (a:=e*(2*(r+1)+1)-(r-t*t)) (b:=b*d*(b*d)+1) (by grind) (by grind);have q6:=yaN (a:=r-t*t) (b:=b*d*(b*d)+1+b*d) (by grind) (by grind);generalize b*d*(b*d)=W at *;grind
noncomputable def Qn.root (x:Qn):Nat:=isq (x.p.den*x.p.den*(x.r.num.natAbs*x.r.den))
noncomputable def Qn.top (x:Qn):Int:=if x.neg then x.p.num*x.r.den-((x.root:Int)+1) else x.p.num*x.r.den+(x.root:Int)
theorem ygh (q:Rat):q*((q.den:Int):Rat)=(q.num:Rat):=by
 have hd:=q.den_pos;have e:(q.num:Rat) / ((q.den:Int):Rat)=q:=by rw [← Rat.divInt_eq_div];exact Rat.num_divInt_den q
 have h0:((q.den:Int):Rat)≠0:=fun e=>by
  have:=Rat.intCast_inj.1 (e.trans (show (0:Rat)=((0:Int):Rat) from rfl))
  omega
 have:=Rat.div_mul_cancel (a:=(q.num:Rat)) h0;rw [e] at this;exact this
theorem cast_lt {a b:Int}:(a:Rat)<(b:Rat)↔a<b:=Rat.intCast_lt_intCast
theorem yeM {a b:Int}:(a:Rat)≤(b:Rat)↔a≤b:=Rat.intCast_le_intCast
theorem yfb (a b:Int):((a*b:Int):Rat)=(a:Rat)*b:=Rat.intCast_mul a b
section
open Classical
def half (n:Int):Rat:=Rat.divInt n 2
theorem ygO (n:Int):half n*2=(n:Rat):=by
 unfold half;rw [Rat.divInt_eq_div];exact Rat.div_mul_cancel (by decide)
theorem yaX {n:Int} (h:n.natAbs≤1000):FitQ 2 (half n) :=
 ydm (Fit_iff.2 (by omega)) (Fit_iff.2 (by decide)) (by decide)
theorem ybw {n:Int} (h:n.natAbs≤60000):FitQ 2 (n:Rat):=by
 refine ⟨?_,?_⟩
 ·rw [Rat.num_intCast];exact Fit_iff.2 (by omega)
 rw [Rat.den_intCast];exact Fit_iff.2 (by decide)
theorem yeo {N M:Nat} (h:N*N=2*M):N % 2=0:=by
 rcases Nat.mod_two_eq_zero_or_one N with h1|h1
 ·exact h1
 exfalso;have:(N*N) % 2=1:=by rw [Nat.mul_mod,h1]
 omega
theorem two_sq (q:Rat):q*q≠2:=fun h=>by
 have hd:(q.den:Rat)≠0:=by
  have:=q.den_nz;intro h0;exact this (by exact_mod_cast h0)
 have e:=ygh q
 have e2:(q.num:Rat)*q.num=2*(((q.den:Int):Rat)*((q.den:Int):Rat)):=by
  rw [← e];grind
 have e3:q.num*q.num=2*((q.den:Int)*q.den):=by
  have:((q.num*q.num:Int):Rat)=((2*((q.den:Int)*q.den):Int):Rat):=by
   rw [yfb,yfb,yfb];exact e2
  exact Rat.intCast_inj.1 this
 have e4:q.num.natAbs*q.num.natAbs=2*(q.den*q.den):=by
  have:=congrArg Int.natAbs e3;rw [Int.natAbs_mul,Int.natAbs_mul,Int.natAbs_mul] at this
  simpa using this
 have h1:=yeo e4;obtain⟨m,hm⟩:∃ m,q.num.natAbs=2*m:=⟨q.num.natAbs / 2,by omega⟩
 have h2:q.den*q.den=2*(m*m):=by
  rw [hm] at e4;have:2*m*(2*m)=4*(m*m):=by rw [Nat.mul_mul_mul_comm]
  omega
 have h3:=yeo h2;have h4:=q.reduced;have h5:2∣Nat.gcd q.num.natAbs q.den:=Nat.dvd_gcd (by omega) (by omega);have h6:Nat.gcd q.num.natAbs q.den=1:=h4;omega
theorem two_sqn (n:Int) (hn:n≠0) (q:Rat):q*q≠(n:Rat)*n*2:=fun h=>by
 have h0:(n:Rat)≠0:=fun e=>hn (Rat.intCast_inj.1 (e.trans (show (0:Rat)=((0:Int):Rat) from rfl)))
 refine two_sq (q / n) ?_;have e1:q / n*n=q:=Rat.div_mul_cancel h0
 have e2:(q / n)*(q / n)*((n:Rat)*n)=2*((n:Rat)*n):=by
  have:(q / n)*(q / n)*((n:Rat)*n)=(q / n*n)*(q / n*n):=by grind
  rw [this,e1,h];grind
 have h1:(n:Rat)*n≠0:=fun e=>by
  rcases Rat.mul_eq_zero.1 e with h|h<;>exact h0 h
 grind
def loQ (p:PartA):Qn:=⟨half ((p.a % 64:Nat):Int),0,false⟩
def hiQ (o:Nat) (p:PartA):Qn :=
 if 6≤o % 8 then ⟨half ((p.a % 64:Nat):Int),(((p.b % 16:Nat):Int):Rat)*((p.b % 16:Nat):Int)*2,false⟩ else ⟨half ((p.a % 64:Nat):Int)+half ((p.b % 16:Nat):Int),0,false⟩
theorem lo_ok (p:PartA):(loQ p).Ok:=⟨by show (0:Rat)≤0;grind,fun _=>rfl,fun h=>absurd rfl h⟩
theorem ydX (p:PartA):FitR 3 (loQ p):=⟨(yaX (by omega)).mono (by decide),fit0.mono (by decide)⟩
theorem hi_ok (o:Nat) (p:PartA):(hiQ o p).Ok:=by
 unfold hiQ;split
 ·refine ⟨?_,fun _=>rfl,fun h q=>?_⟩
  ·dsimp only
   have:(0:Rat)≤(((p.b % 16:Nat):Int):Rat):=by
    have:=(yeM (a:=0) (b:=((p.b % 16:Nat):Int))).2 (by omega)
    simpa using this
   exact yaN (yaN this this) (by decide)
  dsimp only at h ⊢;refine two_sqn _ (fun h0=>h ?_) q;rw [h0];show (0:Rat)*0*2=0
  grind
 exact ⟨by show (0:Rat)≤0;grind,fun _=>rfl,fun h=>absurd rfl h⟩
theorem hi_fit (o:Nat) (p:PartA):FitR 5 (hiQ o p):=by
 unfold hiQ;split
 ·refine ⟨(yaX (by omega)).mono (by decide),?_⟩
  have h1:=ybw (n:=((p.b % 16:Nat):Int)) (by omega);exact (FitQ.mul (FitQ.mul h1 h1) ((fit_nat1 2 (by decide)))).mono (by decide)
 exact ⟨(FitQ.add (yaX (by omega)) (yaX (by omega))).mono (by decide),fit0.mono (by decide)⟩
def loK (p:PartA):K:=⟨loQ p,lo_ok p,(ydX p).1.mono (by decide),(ydX p).2.mono (by decide)⟩
def hiK (o:Nat) (p:PartA):K:=⟨hiQ o p,hi_ok o p,(hi_fit o p).1.mono (by decide),(hi_fit o p).2.mono (by decide)⟩
theorem lo_hi (o:Nat) (p:PartA) (hn:p.b % 16≠0):loK p<hiK o p:=by
 have hc:(0:Rat)<(((p.b % 16:Nat):Int):Rat):=by
  have:=(cast_lt (a:=0) (b:=((p.b % 16:Nat):Int))).2 (by omega)
  simpa using this
 have h2:=ygO ((p.b % 16:Nat):Int);show Lt (loQ p) (hiQ o p)
 unfold loQ hiQ;generalize half ((p.a % 64:Nat):Int)=a;generalize half ((p.b % 16:Nat):Int)=h at *;generalize (((p.b % 16:Nat):Int):Rat)=n at *;split
 ·refine ⟨a+n,?_,?_⟩
  ·show Pos (a+n-a) _ 0
   exact .inl ⟨by grind,.inr (by have:=yav (a:=a+n-a) (b:=a+n-a) (by grind) (by grind);grind)⟩
  show Pos (a-(a+n)) _ (n*n*2)
  have hu:Qn.u ⟨a,n*n*2,false⟩=1:=rfl;rw [hu];have:=yav hc hc;exact .inr ⟨by grind,by decide,by grind⟩
 refine ⟨a+h / 2,?_,?_⟩
 ·show Pos (a+h / 2-a) _ 0
  exact .inl ⟨by grind,.inr (by have:=yav (a:=a+h / 2-a) (b:=a+h / 2-a) (by grind) (by grind);grind)⟩
 show Pos (a+h-(a+h / 2)) _ 0
 exact .inl ⟨by grind,.inr (by have:=yav (a:=a+h-(a+h / 2)) (b:=a+h-(a+h / 2)) (by grind) (by grind);grind)⟩
def ybM (o:Nat) (p:PartA):Iv K:=if p.b % 16=0 then ⟨⟨loK p,false⟩,⟨loK p,true⟩⟩ else ⟨⟨loK p,decide (o % 2=1)⟩,⟨hiK o p,!decide (2≤o % 4)⟩⟩
theorem partI_val (o:Nat) (p:PartA):(ybM o p).f<(ybM o p).l:=by
 unfold ybM;split
 ·exact .inr ⟨rfl,rfl,rfl⟩
 next h=>exact .inl (lo_hi o p h)
def evL (e:EvA):List (Iv K):=(e.ps.take 4).map (ybM e.o)
noncomputable def evD (e:EvA):List (Iv K):=normK (evL e)
def evPts (e:EvA):List K:=ptsL (evL e)
theorem yfp (e:EvA):(evPts e).length≤8:=by
 unfold evPts evL;rw [ptsL_len,List.length_map,List.length_take];omega
theorem evPts_sm (e:EvA):∀ x∈evPts e,Sm 5 x:=fun x hx=>by
 obtain⟨i,hi,h⟩:=ybU.1 hx;unfold evL at hi;obtain⟨p,_,rfl⟩:=List.mem_map.1 hi;have hl:Sm 5 (loK p):=⟨(ydX p).1.mono (by decide),(ydX p).2.mono (by decide)⟩;have hh:Sm 5 (hiK e.o p):=hi_fit e.o p;unfold ybM at h;split at h
 ·rcases h with rfl|rfl<;>exact hl
 rcases h with rfl|rfl
 ·exact hl
 exact hh
theorem evD_pts (e:EvA):PtsIn (evPts e) (evD e):=ycJ (PtsIn.self _) (PtsIn.nil _)
noncomputable def evS (i:Nat) (e:EvA):St :=
 ⟨evD e,half ((e.g % 8:Nat):Int),if i=0 then 0 else half (((e.w % 12:Nat):Int)-4),if i=0 then 0 else half (((e.w % 12:Nat):Int)-4)+half ((e.r % 12:Nat):Int)⟩
noncomputable def yaV (l:List EvA):List St:=(l.take 4).mapIdx evS
def st0:St:=⟨[],0,0,0⟩
noncomputable def sAt (l:List St) (i:Nat):St:=l.getD i st0
theorem fitq0:FitQ 8 0:=fit0.mono (by decide)
theorem evS_ok (i:Nat) (e:EvA):Norm (evS i e).d∧FitQ 8 (evS i e).g∧FitQ 8 (evS i e).a∧FitQ 8 (evS i e).b:=by
 refine ⟨yaq _ _ _,(yaX (by omega)).mono (by decide),?_,?_⟩
 ·unfold evS
  dsimp only;split
  ·exact fitq0
  exact (yaX (by omega)).mono (by decide)
 unfold evS;dsimp only;split
 ·exact fitq0
 exact (FitQ.add (yaX (by omega)) (yaX (by omega))).mono (by decide)
def StsOk (l:List St):Prop:=∀ s∈l,Norm s.d∧(∃ S:List K,S.length≤16∧(∀ x∈S,Sm 28 x)∧PtsIn S s.d)∧FitQ 8 s.g∧FitQ 8 s.a∧FitQ 8 s.b
theorem StsOk.at (l:List St) (h:StsOk l):StOk (sAt l):=by
 have hall:∀ i,Norm (sAt l i).d∧(∃ S:List K,S.length≤16∧(∀ x∈S,Sm 28 x)∧PtsIn S (sAt l i).d)∧FitQ 8 (sAt l i).g∧FitQ 8 (sAt l i).a∧FitQ 8 (sAt l i).b:=fun i=>by
  unfold sAt;by_cases hi:i<l.length
  ·rw [List.getD_eq_getElem?_getD,List.getElem?_eq_getElem hi]
   exact h _ (List.getElem_mem hi)
  rw [List.getD_eq_getElem?_getD,List.getElem?_eq_none (by omega)];exact ⟨trivial,⟨[],by simp,by simp,PtsIn.nil _⟩,fitq0,fitq0,fitq0⟩
 exact ⟨fun i=>(hall i).1,fun i=>(hall i).2.1,fun i=>(hall i).2.2.1,fun i=>(hall i).2.2.2.1,fun i=>(hall i).2.2.2.2⟩
theorem ydP {l:List EvA} {s:St} (h:s∈yaV l):∃ i e,s=evS i e:=by
 unfold yaV at h;obtain⟨i,hi,rfl⟩:=List.mem_mapIdx.1 h;exact ⟨i,_,rfl⟩
theorem evS_pts (i:Nat) (e:EvA):∃ S:List K,S.length≤8∧(∀ x∈S,Sm 5 x)∧PtsIn S (evS i e).d:=⟨evPts e,yfp e,evPts_sm e,evD_pts e⟩
theorem yhv (l:List EvA):StsOk (yaV l):=fun s hs=>by
 obtain⟨i,e,rfl⟩:=ydP hs;obtain⟨h1,h2,h3,h4⟩:=evS_ok i e;obtain⟨S,k1,k2,k3⟩:=evS_pts i e;exact ⟨h1,⟨S,by omega,fun x hx=>(k2 x hx).mono (by decide),k3⟩,h2,h3,h4⟩
theorem ycC (l:List EvA):(yaV l).length=min 4 l.length:=by unfold yaV;rw [List.length_mapIdx,List.length_take]
end
end Go.Proofs.YtpgffjjpiafhpaaGreatDoor
